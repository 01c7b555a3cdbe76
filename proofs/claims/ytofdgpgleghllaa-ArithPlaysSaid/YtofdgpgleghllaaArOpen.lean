/- The arguments of the laws as data: steps, bools, numbers. -/
import Derived.Test.YtofdgpgleghllaaArBack
import Derived.Deep.Slices
import Derived.Deep.Fields
import Derived.OpenShut
import Derived.ProofKit
import Derived.ShutString
import Derived.ChangeOld
namespace Go.Proofs.Ytofdgpgleghllaa
set_option linter.unusedSimpArgs false
set_option linter.unusedVariables false
open Go.RowKit Go.Deep Go.ChangeShapes Go.WideShapes

section
variable {H : Type} {enc : TypeId × Value → H} {w : World} {base : Nat} {spare : Nat → Bool} {held : Bool} {fuel : Nat}

theorem five_cells : ∀ {cs : List Value}, cs.length = 5 → ∃ c0 c1 c2 c3 c4, cs = [c0, c1, c2, c3, c4]
  | [c0, c1, c2, c3, c4], _ => ⟨c0, c1, c2, c3, c4, rfl⟩

theorem act_of_trod {cs : List Value} {x : DataW H × List MemPlace} (h : DataW.trod enc Try.prog w base spare held fuel 33 cs = some x) : ∃ a : ActV, cs = actCells a ∧ WfA a := by
  obtain ⟨xs, n, _, _, hlen, hxl, hg⟩ := DataW.trod_struct Try.underlying33 h
  have hC : Try.prog.cellsOf 33 = 5 := by kernel_rfl
  have hI : Try.prog.cellsOf 3 = 1 := by kernel_rfl
  have hU : Try.prog.cellsOf 31 = 1 := by kernel_rfl
  obtain ⟨c0, c1, c2, c3, c4, rfl⟩ := five_cells (hlen.trans hC)
  have hx : xs.length = 5 := hxl
  have g0 : DataW.trod enc Try.prog w base spare held n 3 (List.take (Try.prog.cellsOf 3) [c0, c1, c2, c3, c4]) = xs[0]? := hg 0 _ rfl
  rw [hI] at g0
  replace g0 : DataW.trod enc Try.prog w base spare held n 3 [c0] = xs[0]? := g0
  have g1 : DataW.trod enc Try.prog w base spare held n 3 (List.take (Try.prog.cellsOf 3) [c1, c2, c3, c4]) = xs[1]? := hg 1 _ rfl
  rw [hI] at g1
  replace g1 : DataW.trod enc Try.prog w base spare held n 3 [c1] = xs[1]? := g1
  have g2 : DataW.trod enc Try.prog w base spare held n 3 (List.take (Try.prog.cellsOf 3) [c2, c3, c4]) = xs[2]? := hg 2 _ rfl
  rw [hI] at g2
  replace g2 : DataW.trod enc Try.prog w base spare held n 3 [c2] = xs[2]? := g2
  have g3 : DataW.trod enc Try.prog w base spare held n 3 (List.take (Try.prog.cellsOf 3) [c3, c4]) = xs[3]? := hg 3 _ rfl
  rw [hI] at g3
  replace g3 : DataW.trod enc Try.prog w base spare held n 3 [c3] = xs[3]? := g3
  have g4 : DataW.trod enc Try.prog w base spare held n 31 (List.take (Try.prog.cellsOf 31) [c4]) = xs[4]? := hg 4 _ rfl
  rw [hU] at g4
  replace g4 : DataW.trod enc Try.prog w base spare held n 31 [c4] = xs[4]? := g4
  rw [List.getElem?_eq_getElem (by omega)] at g0 g1 g2 g3 g4
  obtain ⟨n0, e0, _, _⟩ := DataW.trod_int Try.underlying3 g0
  obtain ⟨n1, e1, _, _⟩ := DataW.trod_int Try.underlying3 g1
  obtain ⟨n2, e2, _, _⟩ := DataW.trod_int Try.underlying3 g2
  obtain ⟨n3, e3, _, _⟩ := DataW.trod_int Try.underlying3 g3
  obtain ⟨n4, e4, _, w4⟩ := DataW.trod_int Try.underlying31 g4
  refine ⟨⟨n0, n1, n2, n3, n4⟩, ?_, ?_⟩
  · simp at e0 e1 e2 e3 e4
    subst e0 e1 e2 e3 e4
    rfl
  · have := bounds_u64 w4
    exact ⟨by simpa using this.1, by simpa using this.2⟩

theorem acts_of_trod {A : Option Addr} {len cap : Nat} {x : DataW H × List MemPlace} (h : DataW.trod enc Try.prog w base spare held fuel 22 [.slice A len cap] = some x) :
    len ≤ cap ∧ cap ≤ 9223372036854775807 ∧ ∃ l : List ActV, l.length = len ∧ Acts w A l := by
  have hC : Try.prog.cellsOf 33 = 5 := by kernel_rfl
  rcases open_slice Try.underlying22 h with ⟨hcs, _⟩ | ⟨a, len', cap', m, n, D, Pl, hcs, hb, hl, hm, hmm, hx, hi⟩
  · simp at hcs
    obtain ⟨rfl, rfl, rfl⟩ := hcs
    exact ⟨Nat.le_refl _, by omega, [], rfl, ⟨fun h0 => by simp at h0, by simp⟩⟩
  · simp at hcs
    obtain ⟨rfl, rfl, rfl⟩ := hcs
    have hlm : len ≤ m := by rw [hmm]; split <;> omega
    have hex : ∀ i, ∃ act : ActV, i < len → WfA act ∧ ∀ (j : Nat) (u : Value), (actCells act)[j]? = some u → w.cell? ((a.add (i * 5)).add j) = some u := by
      intro i
      by_cases hil : i < len
      · obtain ⟨cs', hc, ht⟩ := hi i (by omega)
        obtain ⟨act, rfl, hw⟩ := act_of_trod ht
        refine ⟨act, fun _ => ⟨hw, fun j u hu => ?_⟩⟩
        obtain ⟨_, _, hcc⟩ := World.cells?_some hc
        have hj : j < 5 := (List.getElem?_eq_some_iff.1 hu).1
        rw [hC] at hcc
        rw [hcc j hj, hu]
      · exact ⟨⟨0, 0, 0, 0, 0⟩, fun h0 => absurd h0 hil⟩
    obtain ⟨f, hf⟩ := Classical.axiomOfChoice hex
    refine ⟨hl, by simpa [maxLen] using hm, (List.range len).map f, by simp, ⟨fun h0 => ?_, ?_⟩⟩
    · have hl0 : 0 < len := by simpa using h0
      obtain ⟨b, o, spot⟩ := a
      have h1 := (hf 0 hl0).2 0 _ rfl
      have hspot : spot = none := by simpa [Addr.add] using World.cell?_spot h1
      subst hspot
      have hlt := World.block_lt_of_cell? w _ h1
      refine ⟨b, o, rfl, ?_, fun i act ha j u hu => ?_⟩
      · have e : ((⟨b, o, none⟩ : Addr).add (0 * 5)).add 0 = ⟨b, o, none⟩ := by simp [Addr.add]
        rw [e] at hlt
        exact hlt
      · have hil : i < len := by
          have := (List.getElem?_eq_some_iff.1 ha).1
          simpa using this
        have ea : act = f i := by
          rw [List.getElem?_map, List.getElem?_range hil] at ha
          simpa using ha.symm
        subst ea
        have h2 := (hf i hil).2 j u hu
        have e : ((⟨b, o, none⟩ : Addr).add (i * 5)).add j = ⟨b, o + i * 5 + j, none⟩ := by
          unfold Addr.add
          by_cases e1 : i * 5 = 0 <;> by_cases e2 : j = 0 <;> simp [e1, e2]
        rwa [e] at h2
    · intro act ha
      obtain ⟨i, hi2, rfl⟩ := List.mem_map.1 ha
      exact (hf i (by simpa using hi2)).1

theorem cells_of_trod {α : Type} [Inhabited α] {f : α → Value} {t e : TypeId} (ht : Try.prog.underlying t = some (.slice e)) (hC : Try.prog.cellsOf e = 1)
    (hone : ∀ (fuel : Nat) (cs : List Value) (x : DataW H × List MemPlace), DataW.trod enc Try.prog w base spare held fuel e cs = some x → ∃ a, cs = [f a])
    {A : Option Addr} {len cap : Nat} {x : DataW H × List MemPlace} (h : DataW.trod enc Try.prog w base spare held fuel t [.slice A len cap] = some x) :
    len ≤ cap ∧ cap ≤ 9223372036854775807 ∧ ∃ l : List α, l.length = len ∧ Cells f w A l := by
  rcases open_slice ht h with ⟨hcs, _⟩ | ⟨a, len', cap', m, n, D, Pl, hcs, hb, hl, hm, hmm, hx, hi⟩
  · simp at hcs
    obtain ⟨rfl, rfl, rfl⟩ := hcs
    exact ⟨Nat.le_refl _, by omega, [], rfl, ⟨fun h0 => by simp at h0⟩⟩
  · simp at hcs
    obtain ⟨rfl, rfl, rfl⟩ := hcs
    have hlm : len ≤ m := by rw [hmm]; split <;> omega
    have hex : ∀ i, ∃ y : α, i < len → w.cell? (a.add i) = some (f y) := by
      intro i
      by_cases hil : i < len
      · obtain ⟨cs', hc, ht'⟩ := hi i (by omega)
        obtain ⟨y, rfl⟩ := hone _ _ _ ht'
        refine ⟨y, fun _ => ?_⟩
        obtain ⟨_, _, hcc⟩ := World.cells?_some hc
        rw [hC] at hcc
        have := hcc 0 (by omega)
        rw [Nat.mul_one] at this
        have e0 : (a.add i).add 0 = a.add i := by
          unfold Addr.add
          by_cases e1 : i = 0 <;> simp [e1]
        rw [e0] at this
        simpa using this
      · exact ⟨default, fun h0 => absurd h0 hil⟩
    obtain ⟨g, hg⟩ := Classical.axiomOfChoice hex
    refine ⟨hl, by simpa [maxLen] using hm, (List.range len).map g, by simp, ⟨fun h0 => ?_⟩⟩
    have hl0 : 0 < len := by simpa using h0
    obtain ⟨b, o, spot⟩ := a
    have h1 := hg 0 hl0
    have hspot : spot = none := by simpa [Addr.add] using World.cell?_spot h1
    subst hspot
    have hlt := World.block_lt_of_cell? w _ h1
    have eb : ∀ i, (⟨b, o, none⟩ : Addr).add i = ⟨b, o + i, none⟩ := fun i => by
      unfold Addr.add
      by_cases e1 : i = 0 <;> simp [e1]
    rw [eb] at hlt
    refine ⟨b, o, rfl, hlt, fun i y hy => ?_⟩
    have hil : i < len := by
      have := (List.getElem?_eq_some_iff.1 hy).1
      simpa using this
    have ea : y = g i := by
      rw [List.getElem?_map, List.getElem?_range hil] at hy
      simpa using hy.symm
    subst ea
    have h2 := hg i hil
    rwa [eb] at h2
theorem bools_of_trod {A : Option Addr} {len cap : Nat} {x : DataW H × List MemPlace} (h : DataW.trod enc Try.prog w base spare held fuel 51 [.slice A len cap] = some x) :
    len ≤ cap ∧ cap ≤ 9223372036854775807 ∧ ∃ l : List Bool, l.length = len ∧ Cells Value.bool w A l :=
  cells_of_trod Try.underlying51 (by kernel_rfl) (fun _ _ _ h => by
    obtain ⟨b, e, _⟩ := DataW.trod_bool Try.underlying4 h
    exact ⟨b, e⟩) h
/-- A number of 32 bits as a cell. -/
def u32v (n : Fin 4294967296) : Value := .int .u32 (n.val : Int)
theorem u32s_of_trod {A : Option Addr} {len cap : Nat} {x : DataW H × List MemPlace} (h : DataW.trod enc Try.prog w base spare held fuel 53 [.slice A len cap] = some x) :
    len ≤ cap ∧ cap ≤ 9223372036854775807 ∧ ∃ l : List (Fin 4294967296), l.length = len ∧ Cells u32v w A l :=
  cells_of_trod Try.underlying53 (by kernel_rfl) (fun _ _ _ h => by
    obtain ⟨n, e, _, hw⟩ := DataW.trod_int Try.underlying54 h
    have hb := bounds_u32 hw
    refine ⟨⟨n.toNat, by omega⟩, ?_⟩
    rw [e]
    unfold u32v
    simp only
    rw [Int.toNat_of_nonneg hb.1]) h
end
end Go.Proofs.Ytofdgpgleghllaa
