/- play.Put of the song's first packet, where no room is. -/
import Derived.Test.YtacmaphhbbadjaaGreatDoorPyPut
namespace Go.Proofs.YtacmaphhbbadjaaGreatDoor
set_option linter.all false
open Go.RowKit
section
variable {w w' : World} {B o S oS c m : Nat} {now : Int} {Q : Value} {last e s : Int} {F : List Nat}
set_option maxRecDepth 100000 in
set_option maxHeartbeats 4000000 in
theorem put_full {D oD cD q : Nat} {A : Option Addr} {cq : Nat} (h : PlAt w B o S oS c m now (.slice A q cq) 0 e s) (hD : Pre w D oD (d0.map bv)) (hDB : D ≠ B) (hDS : D ≠ S) (hq : m ≤ q) :
    Calls Tryz.prog 7 #[.pointer (some ⟨B, o, none⟩), .agg #[.int .i64 0, .int .i64 0, .int .i64 2, .bool true, .bool false, .slice (some ⟨D, oD, none⟩) 15 cD]] w fun x w' => x = .returned (iv 9) ∧ Chg [D] w w' ∧ Pre w' D oD (d0.map bv) := by
  obtain ⟨w1, hw1⟩ : ∃ w1, w1 = w.alloc (.cells #[.int .i64 0, .int .i64 0, .int .i64 2, .bool true, .bool false, .slice (some ⟨D, oD, none⟩) 15 cD] 40) := ⟨_, rfl⟩
  obtain ⟨X, hX⟩ : ∃ X, X = w.heap.size := ⟨_, rfl⟩
  have C1 : Chg [] w w1 := by rw [hw1]; exact (Chg.refl [] w).alloc _
  have bX : Blk w1 X 40 #[.int .i64 0, .int .i64 0, .int .i64 2, .bool true, .bool false, .slice (some ⟨D, oD, none⟩) 15 cD] := by rw [hw1, hX]; exact Blk.new _ _ _
  have hlay : Calls Tryz.prog 15 #[.agg #[.int .i64 0, .int .i64 0, .int .i64 2, .bool true, .bool false, .slice (some ⟨D, oD, none⟩) 15 cD]] w1 fun e w' => ∃ A n cap, e = .returned (.tuple #[.slice A n cap, .int .i64 0]) ∧ Chg [D] w1 w' ∧ Pre w' D oD (d0.map bv) := lay_of (c := cD) (a := 0) rfl (lay_run0 cD) (hD.same C1)
  have hXD : X ≠ D := by have := hD.lt; omega
  have HW1 := hid hw1
  have HX := hid hX
  have HS := hid (And.intro h (And.intro C1 bX))
  have t1 : decide (m ≤ q) = true := by simp; omega
  have t2 : decide ((m : Int) ≤ (q : Int)) = true := by simp; omega
  clear hw1 hX C1 bX h
  go_enter Tryz.func7, Tryz.ntmps7
  go_wp2_with fail
  rw [← HW1.out, ← HX.out]
  refine hlay.mono ?_
  rintro x w2 ⟨A2, n2, cap2, rfl, C2, hD2⟩
  obtain ⟨h, C1, bX⟩ := HS.out
  have C12 : Chg [D] w w2 := (C1.mono (by simp)).trans_same C2
  have h2 := h.chg C12 (by simpa using hDB.symm) (by simpa using hDS.symm)
  have bX2 := bX.chg C2 (by simpa using hXD)
  obtain ⟨⟨b0, b1, b2, b3⟩, _⟩ := h2.pcells
  obtain ⟨⟨c0, c1, c2, c3⟩, f0, f1, _⟩ := h2.scells
  have x0 := bX2.cell 0
  have x1 := bX2.cell 1
  simp at x0 x1
  have HF := hid (And.intro C12 hD2)
  clear h C1 bX C12 h2 bX2 HS HW1 hD hD2 hlay
  go_wp2_with fail
  go_quiet (fail)
  go_wp2_with fail
  go_quiet (fail)
  go_wp2_with fail
  go_quiet (fail)
  go_wp2_with fail
  go_quiet (fail)
  go_wp2_with fail
  go_ret
  exact ⟨rfl, (((HF.out.1.drewN _).drewN _).drewN _).drewN _, (((HF.out.2.drewN _).drewN _).drewN _).drewN _⟩
end
end Go.Proofs.YtacmaphhbbadjaaGreatDoor
