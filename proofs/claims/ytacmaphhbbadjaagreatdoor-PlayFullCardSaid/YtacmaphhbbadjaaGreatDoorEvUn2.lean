/- lift.Undo of no steps: the machine's answer is the call's. -/
import Derived.Test.YtacmaphhbbadjaaGreatDoorEvMem
import Derived.Test.YtacmaphhbbadjaaGreatDoorProg
import Derived.WalkLawsBesides
import Derived.WalkSpells
import Derived.Handy
import Derived.StillTailTactics
import Derived.Deep.QuietTactic
import Derived.BigQuiet
import Derived.Deep.DeepCutAuto
import Derived.Deep.LoopGhost
import Derived.RangeFuncLeaves
import Derived.RangeFuncMany
namespace Go.Proofs.YtacmaphhbbadjaaGreatDoor
set_option linter.all false
open Go.RowKit

/-- lift.Undo(c, nil), out of what it calls. -/
noncomputable def undoX (ca : XCa) (l : List EV) (H : EH) : XR := match l with
  | [.sl b o n c k, .lit (.slice none 0 0)] => match ca 181 [.sl b o n c k] H with
    | .ok (.bool true) H1 => match ca 178 [.lit (.slice none 0 0), .int .i64 (.ofNat n)] H1 with
      | .ok (.bool true) H2 => match ca 182 [.sl b o n c k] H2 with
        | .ok (.sl b' o' n' c' k') H3 => .ok (.tup [.sl b' o' n' c' k', .int .i64 (.ofNat 0)]) H3
        | _ => .no
      | _ => .no
    | _ => .no
  | _ => .no
noncomputable def undoE (ca d : XCa) : XCa := fun f args H => Bool.rec (d f args H) (undoX ca args H) (Nat.beq f 121)

set_option maxRecDepth 100000 in
set_option maxHeartbeats 1000000 in
/-- The iterator of no elements. -/
theorem backward_none (w : World) (Y : Value) (B : Nat) (h : w.cell? ⟨B, 0, none⟩ = some (.slice none 0 0)) :
    Calls Tryz.prog 250 #[Y, .pointer (some ⟨B, 0, none⟩)] w fun e w' => e = .returned (.tuple #[]) ∧ w = w' := by
  go_enter Tryz.func250, Tryz.ntmps250
  go_wp2_with fail
  go_loopg [3] 0 (fun j v3 wr => ∃ i : Int, v3 = .int .i64 i ∧ i < 0 ∧ w = wr)
  case atStart => exact ⟨-1, rfl, by decide, rfl⟩
  case round =>
    obtain ⟨i, rfl, hi, rfl⟩ := hrel
    have t1 : decide ((0 : Int) ≤ i) = false := by simp; omega
    go_wp2
    exact ⟨rfl, _, results_none rfl _ _ _, rfl, rfl⟩
/-- A range over an iterator that yields nothing. -/
theorem wp_range_none {P : Program} {g : Operand} {ps : Array Tmp} {assign body : Code} {Q : Exit → Act → World → Prop} {a : Act} {w : World} {gf : Nat} {lb : Array Value} (hg : a.eval g = .func (.func gf) #[] lb) (eg : ∀ args w, (callFunc gf args).run P w = .ok (.enter gf args) w)
    (hcall : ∀ Y W, Chg [] w W → Calls P gf (#[Y] ++ lb) W fun e W' => (∃ v, e = .returned v) ∧ W = W')
    (hQ : ∀ W, Chg [] w W → W.heap[w.heap.size]? = some (.deferred (some [])) → (∀ B, w.heap.size ≤ B → eSize W B = none) → Q .normal { a with defers := { target := .collected w.heap.size, args := #[] } :: a.defers } W) : (Code.rangeFunc g ps assign body).wp P Q a w := by
  refine (wpIn_wide (n := 1)).1 (wpIn_rangeFunc ?_)
  intro fn _
  obtain ⟨r, hr⟩ : ∃ r : Loop, r = { state := .ready, pending := none, fn, tmps := a.tmps, params := ps, assign, body, defers := w.heap.size } := ⟨_, rfl⟩
  obtain ⟨W1, hW1⟩ : ∃ W1, (w.alloc (.deferred (some []))).alloc (.loop r) = W1 := ⟨_, rfl⟩
  have hL1 : W1.heap[w.heap.size + 1]? = some (.loop r) := by
    rw [← hW1]; have := World.alloc_heap_new (w.alloc (.deferred (some []))) (.loop r); rwa [World.size_alloc] at this
  have hK1 : W1.heap[w.heap.size]? = some (.deferred (some [])) := by
    rw [← hW1]; exact (Below.heap_alloc _ _ _ (by simp)).trans (World.alloc_heap_new w _)
  have hC1 : Chg [] w W1 := by rw [← hW1]; exact ((Chg.refl [] w).alloc _).alloc _
  have hz1 : W1.heap.size = w.heap.size + 1 + 1 := by rw [← hW1]; simp
  refine ⟨w.heap.size + 1, [{ target := .collected w.heap.size, args := #[] }], W1, { target := .fn (.func gf) lb, args := #[.func (.yield (w.heap.size + 1)) #[] #[]] }, W1, gf,
    #[.func (.yield (w.heap.size + 1)) #[] #[]] ++ lb, W1, ?_, ?_, ?_, ?_, fun _ => Nat.le_refl _, ?_⟩
  · rw [← hW1, hr]; exact run_enterLoop_outer _ _ _ _ _
  · simp only [resolve, hg]
    simp [go_sem]
  · intro f' hf'; exact trivial
  · simp [invoke, go_sem, eg]
  · refine (callsIn_wide.2 (hcall _ W1 hC1)).mono ?_
    rintro e W' ⟨⟨v, rfl⟩, rfl⟩
    obtain ⟨W2, hW2⟩ : ∃ W2, W2 = W1.putObj (w.heap.size + 1) (.loop { r with state := .exhausted }) := ⟨_, rfl⟩
    have hE : (Instr.endLoop (w.heap.size + 1)).run P W1 = .ok none W2 := by
      have := run_endLoop (P := P) hL1 (by rw [hr]; simp)
      rw [this, hW2, hr]
    have hlt : w.heap.size + 1 < W1.heap.size := by omega
    have hz2 : W2.heap.size = W1.heap.size := by rw [hW2]; simp [World.putObj]
    have hL2 : W2.heap[w.heap.size + 1]? = some (.loop { r with state := .exhausted }) := by rw [hW2]; exact World.putObj_heap_same hlt
    have hK2 : W2.heap[w.heap.size]? = some (.deferred (some [])) := by rw [hW2]; exact (World.putObj_heap_other (by omega)).trans hK1
    refine ⟨none, W2, hE, hQ W2 ?_ hK2 fun B hB => ?_⟩
    · exact ⟨by rw [hW2]; exact hC1.os, by rw [hW2]; exact hC1.tape, by rw [hW2]; exact hC1.output, by rw [hz2]; exact hC1.size, fun k hk hn => by
        rw [hW2]; exact (World.putObj_heap_other (by omega)).trans (hC1.block k hk hn)⟩
    · unfold eSize
      rcases Nat.lt_or_ge B (w.heap.size + 2) with h | h
      · have : B = w.heap.size ∨ B = w.heap.size + 1 := by omega
        rcases this with rfl | rfl
        · rw [hK2]
        · rw [hL2]
      · rw [Array.getElem?_eq_none (by omega)]
section
variable {P : Program} {ρ ρ' : ERho} {w0 w w' : World} {H0 H H' : EH} {F : List Nat}
theorem EStep.over (s : EStep ρ w0 H0 ρ' w H) (c : Chg F w w') (hF : ∀ B ∈ F, w0.heap.size ≤ B ∧ ¬ ELive ρ' H B) (hs : ∀ B n, eSize w B = some n → eSize w' B = some n) : EStep ρ w0 H0 ρ' w' H := by
  have g : EGrow ρ' ρ' w w' := ⟨fun _ _ h => h, hs⟩
  refine ⟨s.ext, ⟨s.rep.next, fun b x h => ?_, s.rep.inj, fun b p h => Nat.lt_of_lt_of_le (s.rep.bnd b p h) c.size⟩, ?_, s.new, s.next, s.old⟩
  · obtain ⟨B, ba, e, ok⟩ := s.rep.blk b x h
    exact ⟨B, ba, e, ok.mono g (c.block B (s.rep.bnd _ _ e) fun q => (hF B q).2 ⟨b, x, ba, h, e⟩)⟩
  · refine ⟨c.os.trans s.kp.os, c.tape.trans s.kp.tape, c.output.trans s.kp.output, Nat.le_trans s.kp.hsize c.size, fun B hB hn => ?_, fun B n h => hs B n (s.kp.size B n h)⟩
    exact (c.block B (Nat.lt_of_lt_of_le hB s.kp.hsize) fun q => absurd hB (Nat.not_lt.2 (hF B q).1)).trans (s.kp.block B hB hn)
theorem eSize_chg (c : Chg [] w w') : ∀ B n, eSize w B = some n → eSize w' B = some n := by
  intro B n h
  have hlt : B < w.heap.size := by
    unfold eSize at h
    rcases Nat.lt_or_ge B w.heap.size with q | q
    · exact q
    · rw [Array.getElem?_eq_none q] at h; cases h
  unfold eSize at h ⊢
  rw [c.block B hlt (by simp)]
  exact h
theorem EStep.same (s : EStep ρ w0 H0 ρ' w H) (c : Chg [] w w') : EStep ρ w0 H0 ρ' w' H := s.over c (by simp) (eSize_chg c)
/-- A block that is not the machine's. -/
structure Off (ρ : ERho) (H : EH) (w : World) (B : Nat) (t : TypeId) (cs : Array Value) : Prop where
  blk : Blk w B t cs
  dead : ¬ ELive ρ H B
theorem Off.step {B : Nat} {t : TypeId} {cs : Array Value} (h : Off ρ H w B t cs) (s : EStep ρ w H ρ' w' H') : Off ρ' H' w' B t cs := by
  refine ⟨(s.kp.block B h.blk.lt h.dead).trans h.blk, fun q => ?_⟩
  rcases s.new B q with q | q
  · exact h.dead q
  · have := h.blk.lt; omega
theorem Off.fresh {B : Nat} {t : TypeId} {cs : Array Value} (R : ERep ρ w0 H) (hb : Blk w B t cs) (hB : w0.heap.size ≤ B) : Off ρ H w B t cs := ⟨hb, fun q => by have := ELive.lt R q; omega⟩
end
end Go.Proofs.YtacmaphhbbadjaaGreatDoor
