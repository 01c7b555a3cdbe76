/- A slice of elements of several cells that may still be nil. No program. -/
import Derived.Test.YtacmaphhbbadjaaGreatDoorGrow
namespace Go.Proofs.YtacmaphhbbadjaaGreatDoor
set_option linter.all false
open Go.RowKit
/-- The slice value v owns n elements of k cells (of type e), the cells xs, or is nil and there are none; F: its block, if it has one. -/
structure OwnK (w : World) (e : TypeId) (k : Nat) (v : Value) (F : List Nat) (n : Nat) (xs : List Value) : Prop where
  own : w.ownsRow 0 e k v n xs
  fp : F = v.ownBlock.toList
section
variable {w w' : World} {e : TypeId} {k n : Nat} {v : Value} {F G : List Nat} {xs : List Value}
theorem OwnK.nil (w : World) (e : TypeId) (k : Nat) : OwnK w e k (.slice none 0 0) [] 0 [] := ⟨World.ownsRow_nil _ 0 _ _, rfl⟩
theorem OwnK.chg (h : OwnK w e k v F n xs) (hc : Chg G w w') (hd : ∀ x ∈ F, x ∉ G) : OwnK w' e k v F n xs :=
  ⟨own_chg h.own hc fun y hy => hd y (by rw [h.fp, hy]; simp), h.fp⟩
theorem OwnK.same (h : OwnK w e k v F n xs) (hc : Chg [] w w') : OwnK w' e k v F n xs := h.chg hc (by simp)
theorem OwnK.lt (h : OwnK w e k v F n xs) : ∀ x ∈ F, x < w.heap.size := fun x hx => by
  rw [h.fp] at hx
  exact own_lt h.own x (by simpa using hx)
theorem OwnK.open_ (h : OwnK w e k v F n xs) : ∃ (A : Option Addr) (cap : Nat), v = .slice A n cap ∧ n ≤ cap ∧ cap ≤ 9223372036854775807 ∧ Cells (fun v => v) w A xs ∧
    ∀ ad, A = some ad → ∃ g, ad = ⟨g, 0, none⟩ ∧ F = [g] ∧ ∀ i, w.frozen? ⟨g, i, none⟩ = false := by
  obtain ⟨⟨hl, h2⟩, fp⟩ := h
  rcases h2 with ⟨rfl, rfl⟩ | ⟨g, cap, cur, rfl, _, hg, hn, hcm, hsz, htk⟩
  · exact ⟨none, 0, rfl, Nat.le_refl _, by decide, ⟨fun h => by rw [hl] at h; simp at h⟩, fun ad h => by cases h⟩
  · have hb : Blk w g e cur := hg
    refine ⟨some ⟨g, 0, none⟩, cap, rfl, hn, by simpa [maxLen] using hcm, ⟨fun _ => ⟨g, 0, rfl, hb.lt, fun i a ha => ?_⟩⟩, fun ad h => ?_⟩
    · rw [Nat.zero_add, hb.cell]
      have hi : i < xs.length := (List.getElem?_eq_some_iff.1 ha).1
      rw [← htk, List.getElem?_take, if_pos (by omega)] at ha
      simpa using ha
    · injection h with h
      exact ⟨g, h.symm, fp, hb.frozen⟩
theorem OwnK.shape (h : OwnK w e k v F n xs) : ∃ A cap, v = .slice A n cap := by
  obtain ⟨A, cap, h1, _⟩ := h.open_
  exact ⟨A, cap, h1⟩
end
section
variable {P : Program}
/-- append of one element of k cells, which lies at an address. -/
theorem wpList_append_k1 {w : World} {ops : Array Oper} {rest : List Oper} {o : Oper} {a : Act} {Q : Exit → Act → World → Prop} (hgd : o.guard = none) {s x : Operand} {t : TypeId}
    (ho : o.op = .call { callee := .builtin .append, args := #[s, x], argTypes := #[t, t] })
    {e : TypeId} {z : Value} {k bytes : Nat} (E : Elem P t e z k bytes) (hzs : z.cells.size = k) (hk : 0 < k)
    {v : Value} {F : List Nat} {n : Nat} {xs : List Value} (hs : a.eval s = v) (hown : OwnK w e k v F n xs) {ad : Addr} {c : Nat} (news : List Value) (hx : a.eval x = .slice (some ad) 1 c) (hl : news.length = k)
    (hnews : ∀ j u, news[j]? = some u → w.cell? (ad.add j) = some u) (h1 : ∀ u ∈ news, u.oneCell' = true) (h63 : n < 9223372036854775807) (hbytes : (n + 1) * bytes ≤ 140737488355328)
    (h : ∀ g cap w', OwnK w' e k (.slice (some ⟨g, 0, none⟩) (n + 1) cap) [g] (n + 1) (xs ++ news) → Grow F [g] w w' → wpList P ops Q rest (a.put o.dst (.slice (some ⟨g, 0, none⟩) (n + 1) cap)) w') : wpList P ops Q (o :: rest) a w := by
  refine wpList_append_sl hgd ho E hzs hk hs hown.own hx (news := news) (by omega) (by decide) hnews h1 (by omega) hbytes ?_
  intro g' cap w' h2 h3 h4
  rw [← hown.fp] at h3
  refine h g' cap w' ⟨h2, rfl⟩ ⟨h3, fun x hx => ?_⟩
  simp at hx
  subst hx
  rcases h4 with h4 | h4
  · left; rw [hown.fp, ← h4]; simp
  · exact .inr h4
end
end Go.Proofs.YtacmaphhbbadjaaGreatDoor
