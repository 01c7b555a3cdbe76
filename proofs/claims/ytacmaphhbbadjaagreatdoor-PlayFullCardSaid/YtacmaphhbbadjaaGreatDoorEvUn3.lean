/- lift.Undo of no steps: the walk. -/
import Derived.Test.YtacmaphhbbadjaaGreatDoorEvUn2
import Derived.Shelf.Abstract
import Derived.KernelRfl
namespace Go.Proofs.YtacmaphhbbadjaaGreatDoor
set_option linter.all false
open Go.RowKit

set_option maxRecDepth 100000 in
set_option maxHeartbeats 1000000 in
theorem backward_ok (w : World) : Calls Tryz.prog 183 #[.slice none 0 0] w fun e w' =>
    e = .returned (.func (.func 250) #[] #[.pointer (some ⟨w.heap.size, 0, none⟩)]) ∧ w' = w.alloc (.cells #[.slice none 0 0] 78) := by
  go_enter Tryz.func183, Tryz.ntmps183
  go_wp2
  go_ret
  exact ⟨rfl, rfl⟩
set_option maxRecDepth 100000 in
set_option maxHeartbeats 1000000 in
theorem undo_ok {ca : XCa} (hca : ECa Tryz.prog ca.opt) {b o n c k b' o' n' c' k' : Nat} {H H1 H2 H3 : EH} (h1 : ca 181 [.sl b o n c k] H = .ok (.bool true) H1)
    (h2 : ca 178 [.lit (.slice none 0 0), .int .i64 (.ofNat n)] H1 = .ok (.bool true) H2) (h3 : ca 182 [.sl b o n c k] H2 = .ok (.sl b' o' n' c' k') H3) {ρ : ERho} {w : World} (R : ERep ρ w H) {C : Value} (r : ER ρ w (.sl b o n c k) C) :
    ECall Tryz.prog 121 #[C, .slice none 0 0] ρ w H (.tup [.sl b' o' n' c' k', .int .i64 (.ofNat 0)]) H3 := by
  have cal : ∀ {f args H v H'}, ca f args H = .ok v H' → ca.opt f args H = some (v, H') := fun h => by unfold XCa.opt; rw [h]; rfl
  have k1 := fun ρ w A => (hca _ _ _ _ _ (cal h1)).2 ρ w A
  have k2 := fun ρ w A => (hca _ _ _ _ _ (cal h2)).2 ρ w A
  have k3 := fun ρ w A => (hca _ _ _ _ _ (cal h3)).2 ρ w A
  obtain ⟨A, cap, rfl⟩ : ∃ A cap, C = .slice A n cap := by
    obtain ⟨B, base, A, C', _, e, _⟩ := r
    exact ⟨some A, C', e⟩
  obtain ⟨w2, hw2⟩ : ∃ w2, w2 = (w.alloc (.cells #[.slice none 0 0] 56)).alloc (.cells #[.int .i64 0] 33) := ⟨_, rfl⟩
  obtain ⟨B4, hB4⟩ : ∃ B4, B4 = w.heap.size := ⟨_, rfl⟩
  have C2 : Chg [] w w2 := by rw [hw2]; exact ((Chg.refl [] w).alloc _).alloc _
  have S2 : EStep ρ w H ρ w2 H := (EStep.refl R).same C2
  have o4 : Off ρ H w2 B4 56 #[.slice none 0 0] := .fresh R (by rw [hw2, hB4]; exact (Blk.new _ _ _).alloc _) (by omega)
  have o5 : Off ρ H w2 (B4 + 1) 33 #[.int .i64 0] := .fresh R (by rw [hw2, hB4, show w.heap.size + 1 = (w.alloc (.cells #[.slice none 0 0] 56)).heap.size by rw [World.size_alloc]]; exact Blk.new _ _ _) (by omega)
  have HW := hid hw2
  have HB := hid hB4
  have HS := hid S2
  have HO := hid (And.intro o4 o5)
  have c1 := k1 ρ w2 #[.slice A n cap] S2.rep ⟨S2.mono r, trivial⟩
  have HR := hid r
  clear hw2 C2 S2 o4 o5 r hB4 k1
  refine callsIn_wide.1 (callsIn_of_wp_marks (n := 1) Tryz.func121 rfl trivial (wpIn_wide.2 ?_))
  simp only [Tryz.ntmps121, List.size_toArray, List.length_cons, List.length_nil, Nat.reduceAdd, Nat.reduceSub, Array.replicate_succ, Array.replicate_zero, List.push_toArray, List.append_toArray, List.nil_append, List.cons_append]
  go_wp2_with fail
  rw [← HW.out, ← HB.out]
  refine c1.mono ?_
  rintro e w3 ⟨V, ρ3, rfl, S3, rv⟩
  obtain rfl : V = .bool true := rv
  clear c1
  have HS3 := hid (HS.out.trans S3)
  have HO3 := hid (And.intro (HO.out.1.step S3) (HO.out.2.step S3))
  have c2 := k2 ρ3 w3 #[.slice none 0 0, .int .i64 n] S3.rep ⟨rfl, rfl, trivial⟩
  clear HS HO S3 k2 HW
  go_wp2_with fail
  refine c2.mono ?_
  rintro e w4 ⟨V, ρ4, rfl, S4, rv⟩
  obtain rfl : V = .bool true := rv
  clear c2
  have HS4 := hid (HS3.out.trans S4)
  have HO4 := hid (And.intro (HO3.out.1.step S4) (HO3.out.2.step S4))
  have c3 := k3 ρ4 w4 #[.slice A n cap] S4.rep ⟨HS4.out.mono HR.out, trivial⟩
  clear HS3 HO3 S4 k3
  go_wp2_with fail
  refine c3.mono ?_
  rintro e w5 ⟨V, ρ5, rfl, S5, rv⟩
  clear c3
  obtain ⟨A', cap', rfl⟩ : ∃ A' cap', V = .slice A' n' cap' := by
    obtain ⟨_, _, A', C', _, e, _⟩ := rv
    exact ⟨some A', C', e⟩
  have HS5 := hid (HS4.out.trans S5)
  have HO5 := hid (And.intro (HO4.out.1.step S5) (HO4.out.2.step S5))
  have HV := hid rv
  obtain ⟨B6, hB6⟩ : ∃ B6, B6 = w5.heap.size := ⟨_, rfl⟩
  have HB6 := hid hB6
  clear HS4 HO4 S5 rv hB6
  go_wp2_with fail
  obtain ⟨w6, hw6⟩ : ∃ w6, w6 = w5.alloc (.cells #[.slice A' n' cap'] 56) := ⟨_, rfl⟩
  have C6 : Chg [] w5 w6 := by rw [hw6]; exact (Chg.refl [] w5).alloc _
  have HS6 := hid (HS5.out.same C6)
  have st6 : EStep ρ5 w5 H3 ρ5 w6 H3 := (EStep.refl HS5.out.rep).same C6
  have HO6 := hid (And.intro (HO5.out.1.step st6) (And.intro (HO5.out.2.step st6) (show Off ρ5 H3 w6 B6 56 #[.slice A' n' cap'] from .fresh HS5.out.rep (by rw [hw6, HB6.out]; exact Blk.new _ _ _) (by rw [HB6.out]; exact Nat.le_refl _))))
  have HV6 := hid (st6.mono HV.out)
  have HW6 := hid hw6
  clear HS5 HO5 HV C6 st6 hw6
  rw [← HW6.out, ← HB6.out]
  refine (backward_ok w6).mono ?_
  rintro e w7 ⟨rfl, rfl⟩
  obtain ⟨B7, hB7⟩ : ∃ B7, B7 = w6.heap.size := ⟨_, rfl⟩
  obtain ⟨w7, hw7⟩ : ∃ w7, w7 = w6.alloc (.cells #[.slice none 0 0] 78) := ⟨_, rfl⟩
  rw [← hw7, ← hB7]
  have C7 : Chg [] w6 w7 := by rw [hw7]; exact (Chg.refl [] w6).alloc _
  have HK7 := hid (show Blk w7 B7 78 #[.slice none 0 0] by rw [hw7, hB7]; exact Blk.new _ _ _)
  have HC7 := hid C7
  clear hw7 hB7 C7
  go_wp2_with fail
  refine wp_range_none (gf := 250) (lb := #[.pointer (some ⟨B7, 0, none⟩)]) rfl (Go.Proofs.enters_of Tryz.func250 (by kernel_rfl) rfl) (fun Y W CW => (backward_none W Y B7 ((HK7.out.chg CW (by simp)).cell 0)).mono fun e W' h => ⟨⟨_, h.1⟩, h.2⟩) fun W CW hD hz => ?_
  have C8 := HC7.out.trans_same CW
  have hwz : B4 ≤ w7.heap.size := by rw [HB.out]; exact Nat.le_trans HS6.out.kp.hsize HC7.out.size
  have HS8 := hid (HS6.out.same C8)
  have st8 : EStep ρ5 w6 H3 ρ5 W H3 := (EStep.refl HS6.out.rep).same C8
  have HV8 := hid (st8.mono HV6.out)
  obtain ⟨q4, q5, q6⟩ := HO6.out
  have o4 := q4.step st8
  have o5 := q5.step st8
  have o6 := q6.step st8
  have e6 := o6.blk.cell 0
  have e4 := o4.blk.cell 0
  have e5 := o5.blk.cell 0
  have f4 := o4.blk.frozen 0
  have f5 := o5.blk.frozen 0
  clear q4 q5 q6 C8 st8 HO6 HS6 HV6
  go_wp2
  obtain ⟨D, hDe⟩ : ∃ D, D = w7.heap.size := ⟨_, rfl⟩
  rw [← hDe] at hD hz hwz ⊢
  obtain ⟨W1, hW1⟩ : ∃ W1, W1 = W.setCell ⟨B4, 0, none⟩ (.slice A' n' cap') := ⟨_, rfl⟩
  obtain ⟨W2, hW2⟩ : ∃ W2, W2 = W1.setCell ⟨B4 + 1, 0, none⟩ (.int .i64 0) := ⟨_, rfl⟩
  obtain ⟨W3, hW3⟩ : ∃ W3, W3 = W2.putObj D (.deferred none) := ⟨_, rfl⟩
  rw [← hW1, ← hW2]
  have n4 : D ≠ B4 := fun e => by rw [e, o4.blk] at hD; cases hD
  have n5 : D ≠ B4 + 1 := fun e => by rw [e, o5.blk] at hD; cases hD
  have hD1 : W1.heap[D]? = some (.deferred (some [])) := by rw [hW1]; exact (Below.heap_setCell _ _ _ _ n4).trans hD
  have hD2 : W2.heap[D]? = some (.deferred (some [])) := by rw [hW2]; exact (Below.heap_setCell _ _ _ _ n5).trans hD1
  have k4 : Blk W3 B4 56 #[.slice A' n' cap'] := by
    have : Blk W2 B4 56 #[.slice A' n' cap'] := by
      have q : Blk W1 B4 56 #[.slice A' n' cap'] := by rw [hW1]; exact o4.blk.set_ 0 _
      rw [hW2]; exact q.far (by simp) _
    rw [hW3]; exact (World.putObj_heap_other n4.symm).trans this
  have k5 : Blk W3 (B4 + 1) 33 #[.int .i64 0] := by
    have : Blk W2 (B4 + 1) 33 #[.int .i64 0] := by
      have q : Blk W1 (B4 + 1) 33 #[.int .i64 0] := by rw [hW1]; exact o5.blk.far (by simp) _
      rw [hW2]; exact q.set_ 0 _
    rw [hW3]; exact (World.putObj_heap_other n5.symm).trans this
  have z1 : W1.heap.size = W.heap.size := by rw [hW1]; simp [World.setCell]
  have z2 : W2.heap.size = W1.heap.size := by rw [hW2]; simp [World.setCell]
  have z3 : W3.heap.size = W2.heap.size := by rw [hW3]; simp [World.putObj]
  have CC : Chg [B4, B4 + 1, D] W W3 := by
    refine ⟨by rw [hW3, hW2, hW1]; rfl, by rw [hW3, hW2, hW1]; rfl, by rw [hW3, hW2, hW1]; rfl, by omega, fun q hq hn => ?_⟩
    simp at hn
    rw [hW3, World.putObj_heap_other hn.2.2, hW2, Below.heap_setCell _ _ _ _ (by simpa using hn.2.1), hW1, Below.heap_setCell _ _ _ _ (by simpa using hn.1)]
  have dead : ¬ ELive ρ5 H3 D := by
    rintro ⟨q, x, ba, hx, e⟩
    obtain ⟨B, base, e', cs, t, fr, h, _⟩ := HS8.out.rep.blk q x hx
    rw [e] at e'; injection e' with e'; injection e' with e1 _; subst e1
    rw [hD] at h; cases h
  have SZ : ∀ B n, eSize W B = some n → eSize W3 B = some n := by
    intro B m h
    have h2 : eSize W2 B = some m := by rw [hW2]; exact eSize_setCell _ _ _ _ _ (by rw [hW1]; exact eSize_setCell _ _ _ _ _ h)
    have hne : B ≠ D := by rintro rfl; unfold eSize at h; rw [hD] at h; cases h
    unfold eSize at h2 ⊢
    rw [hW3, World.putObj_heap_other hne]
    exact h2
  refine ⟨by simp, .inl ⟨_, _, rfl, run_takeDeferred hD2, ?_⟩⟩
  rw [← hW3]
  refine ⟨.tuple #[.slice A' n' cap', .int .i64 0], ?_, _, ρ5, rfl, HS8.out.over CC (fun B hB => ?_) SZ, _, rfl, ER.mono ⟨fun _ _ h => h, SZ⟩ _ _ HV8.out, rfl, trivial⟩
  · have e4 := k4.cell 0
    have e5 := k5.cell 0
    simp [results, show Tryz.f121.results = #[.cell 4 56, .cell 5 33] from rfl, asAddr, loadVar, go_sem, e4, e5]
  · simp at hB
    rcases hB with rfl | rfl | rfl
    · exact ⟨by rw [HB.out]; exact Nat.le_refl _, o4.dead⟩
    · exact ⟨by rw [HB.out]; omega, o5.dead⟩
    · exact ⟨by rw [← HB.out]; exact hwz, dead⟩
theorem undoX_inv {ca : XCa} {l : List EV} {H H' : EH} {v : EV} (h : (undoX ca l H).opt = some (v, H')) : ∃ b o n c k H1 H2 b' o' n' c' k', l = [.sl b o n c k, .lit (.slice none 0 0)] ∧ ca 181 [.sl b o n c k] H = .ok (.bool true) H1 ∧
    ca 178 [.lit (.slice none 0 0), .int .i64 (.ofNat n)] H1 = .ok (.bool true) H2 ∧ ca 182 [.sl b o n c k] H2 = .ok (.sl b' o' n' c' k') H' ∧ v = .tup [.sl b' o' n' c' k', .int .i64 (.ofNat 0)] := by
  unfold undoX at h
  split at h
  · split at h
    · rename_i h1
      split at h
      · rename_i h2
        split at h
        · rename_i h3
          have h : some (_, _) = some (v, H') := h
          injection h with h; injection h with e1 e2; subst e1; subst e2
          exact ⟨_, _, _, _, _, _, _, _, _, _, _, _, rfl, h1, h2, h3, rfl⟩
        · cases h
      · cases h
    · cases h
  · cases h
/-- The machine's own answer to lift.Undo is right. -/
theorem undoE_ok : EExt Tryz.prog undoE := by
  intro ca d hca hd f args H v H' h
  have h : (Bool.rec (d f args H) (undoX ca args H) (Nat.beq f 121) : XR).opt = some (v, H') := h
  cases hb : Nat.beq f 121 with
  | false => rw [hb] at h; exact hd f args H v H' h
  | true =>
    rw [hb] at h
    obtain rfl := Nat.eq_of_beq_eq_true hb
    obtain ⟨b, o, n, c, k, H1, H2, b', o', n', c', k', rfl, h1, h2, h3, rfl⟩ := undoX_inv h
    refine ⟨fun A w => Go.Proofs.enters_of Tryz.func121 (by kernel_rfl) rfl A w, fun ρ w A R r => ?_⟩
    have hA : ∃ C, A = #[C, .slice none 0 0] ∧ ER ρ w (.sl b o n c k) C := by
      obtain ⟨l⟩ := A
      match l, r with
      | [C, N], r => exact ⟨C, by rw [show N = _ from r.2.1], r.1⟩
    obtain ⟨C, rfl, rC⟩ := hA
    exact undo_ok hca h1 h2 h3 R rC
end Go.Proofs.YtacmaphhbbadjaaGreatDoor
