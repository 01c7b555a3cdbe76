/- play.Run of the song's packets: words on the queue. -/
import Derived.Test.YtacmaphhbbadjaaGreatDoorPyPut
namespace Go.Proofs.YtacmaphhbbadjaaGreatDoor
set_option linter.all false
open Go.RowKit

/-- The queue from ⟨G, g⟩ on: n packets that wait, each with its bytes' block. -/
structure QAt (w : World) (G g n cap : Nat) (ws : List (Nat × Nat)) : Prop where
  pre : Pre w G g (ws.flatMap fun x => wtV x.1 x.2)
  len : ws.length = n
  le : n ≤ cap
  room : ∃ z, eSize w G = some z ∧ g + cap * 7 ≤ z
structure WtOk (w : World) (x : Nat × Nat) : Prop where
  pre : Pre w x.1 0 (d0.map bv)
  size : eSize w x.1 = some x.2
  le : 15 ≤ x.2
section
variable {w w' : World} {G g n cap : Nat} {ws : List (Nat × Nat)} {x : Nat × Nat} {F : List Nat}
theorem WtOk.chg (h : WtOk w x) (hc : Chg F w w') (hx : x.1 ∉ F) : WtOk w' x := ⟨h.pre.chg hc hx, eSize_of h.size (hc.block _ h.pre.lt hx), h.le⟩
theorem QAt.chg (h : QAt w G g n cap ws) (hc : Chg F w w') (hx : G ∉ F) : QAt w' G g n cap ws := by
  obtain ⟨z, h1, h2⟩ := h.room
  exact ⟨h.pre.chg hc hx, h.len, h.le, z, eSize_of h1 (hc.block _ h.pre.lt hx), h2⟩
theorem wt_len (x : Nat × Nat) : (wtV x.1 x.2).length = 7 := rfl
theorem QAt.cells (h : QAt w G g (n + 1) cap (x :: ws)) : w.cell? ⟨G, g, none⟩ = some (.int .i64 0) ∧ w.cell? ⟨G, g + 1, none⟩ = some (.int .i64 0) ∧ w.cell? ⟨G, g + 2, none⟩ = some (.int .i64 2) ∧ w.cell? ⟨G, g + 3, none⟩ = some (.bool true) ∧
    w.cell? ⟨G, g + 4, none⟩ = some (.bool false) ∧ w.cell? ⟨G, g + 5, none⟩ = some (.slice (some ⟨x.1, 0, none⟩) 15 x.2) ∧ w.cell? ⟨G, g + 6, none⟩ = some (.bool false) := by
  have key : ∀ (i : Nat) (v : Value), (wtV x.1 x.2)[i]? = some v → w.cell? ⟨G, g + i, none⟩ = some v := fun i v hi => h.pre.cell (by
    rw [List.flatMap_cons, List.getElem?_append_left (List.getElem?_eq_some_iff.1 hi).1]
    exact hi)
  exact ⟨key 0 _ rfl, key 1 _ rfl, key 2 _ rfl, key 3 _ rfl, key 4 _ rfl, key 5 _ rfl, key 6 _ rfl⟩
/-- One packet is taken off. -/
def popG (g cap : Nat) : Nat := if cap = 1 then g else g + 7
theorem wt_size (w : World) : (sizeOf 64).run Tryz.prog w = .ok 7 w := by
  obtain ⟨i, hi, _, hs, _⟩ := wt_el.hi
  simp [sizeOf, typeInfo, hi, hs]
theorem pop_run (G g n cap : Nat) (h : n + 1 ≤ cap) (w : World) : (Instr.slice 55 (.slice (some ⟨G, g, none⟩) (n + 1) cap) (some (.int .i64 1)) none none).run Tryz.prog w = .ok (.slice (some ⟨G, popG g cap, none⟩) n (cap - 1)) w := by
  have he : Tryz.prog.elem 55 = 64 := by simp [Program.elem, wt_el.ht]
  have := run_slice_l (P := Tryz.prog) (w := w) 55 (some ⟨G, g, none⟩) (n + 1) cap (by rw [he]; exact wt_el.ht) .i64 1 (by omega) (by omega)
  rw [this, he, wt_size]
  simp only [Result.andThen_ok, sliced]
  unfold popG
  by_cases hc : cap = 1
  · subst hc
    have : n = 0 := by omega
    subst this
    simp
  · simp [hc, Addr.add]
theorem QAt.pop (h : QAt w G g (n + 1) cap (x :: ws)) : QAt w G (popG g cap) n (cap - 1) ws := by
  obtain ⟨z, h1, h2⟩ := h.room
  have hl := h.len
  have hle := h.le
  simp only [List.length_cons] at hl
  by_cases hc : cap = 1
  · have h0 : ws = [] := by
      cases ws with
      | nil => rfl
      | cons y ws => simp at hl; omega
    subst h0
    have e : popG g cap = g := by unfold popG; rw [if_pos hc]
    rw [e]
    refine ⟨?_, by simp; simp at hl; omega, by omega, z, h1, by omega⟩
    obtain ⟨cur, t, fr, q1, q2, q3, q4⟩ := h.pre.ex
    exact ⟨cur, t, fr, q1, q2, by simp at q3 ⊢; omega, by simp⟩
  · have e : popG g cap = g + 7 := by unfold popG; rw [if_neg hc]
    rw [e]
    refine ⟨h.pre.part 7 ?_ ?_, by omega, by omega, z, h1, by omega⟩
    · rw [List.flatMap_cons, List.length_append, wt_len]; exact Nat.le_refl _
    · intro j v hj
      rw [List.flatMap_cons, List.getElem?_append_right (by rw [wt_len]; omega), wt_len, show 7 + j - 7 = j by omega]
      exact hj
end
end Go.Proofs.YtacmaphhbbadjaaGreatDoor
