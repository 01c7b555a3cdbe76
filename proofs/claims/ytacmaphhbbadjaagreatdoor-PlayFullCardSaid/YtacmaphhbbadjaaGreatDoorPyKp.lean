/- Within; the play law's starving; a number's low bits. -/
import Derived.Test.YtacmaphhbbadjaaGreatDoorPyPut
namespace Go.Proofs.YtacmaphhbbadjaaGreatDoor
set_option linter.all false
open Go.RowKit

def In64 (x : Int) : Prop := -9223372036854775808 ≤ x ∧ x ≤ 9223372036854775807
def withinI (x lo hi : Int) : Int := if lo ≤ x ∧ x ≤ hi then x else if x.tmod (hi - lo + 1) < 0 then lo + (x.tmod (hi - lo + 1) + hi - lo + 1) else lo + x.tmod (hi - lo + 1)
theorem within_in (x : Int) {lo hi : Int} (h : lo ≤ hi) : lo ≤ withinI x lo hi ∧ withinI x lo hi ≤ hi := by
  unfold withinI
  have h1 := Int.tmod_lt_of_pos x (show 0 < hi - lo + 1 by omega)
  have h2 := Int.lt_tmod_of_pos x (show 0 < hi - lo + 1 by omega)
  split
  · assumption
  · split <;> omega
theorem within_ok (x lo hi : Int) (w : World) (hx : In64 x) (h0 : -1099511627776 ≤ lo) (h1 : lo ≤ hi) (h2 : hi ≤ 1099511627776) :
    Calls Tryz.prog 5 #[.int .i64 x, .int .i64 lo, .int .i64 hi] w fun e w' => e = .returned (.int .i64 (withinI x lo hi)) ∧ w = w' := by
  obtain ⟨hx0, hx1⟩ := hx
  by_cases hin : lo ≤ x ∧ x ≤ hi
  · have t1 : decide (lo ≤ x) = true := decide_eq_true hin.1
    have t2 : decide (x ≤ hi) = true := decide_eq_true hin.2
    have e : withinI x lo hi = x := by unfold withinI; rw [if_pos hin]
    rw [e]
    clear hin h0 h1 h2 hx0 hx1 e
    go_enter Tryz.func5, Tryz.ntmps5
    go_wp2
    go_ret
    exact ⟨rfl, rfl⟩
  · have hw : withinI x lo hi = if x.tmod (hi - lo + 1) < 0 then lo + (x.tmod (hi - lo + 1) + hi - lo + 1) else lo + x.tmod (hi - lo + 1) := by unfold withinI; rw [if_neg hin]
    obtain ⟨m, hm⟩ : ∃ m, m = hi - lo + 1 := ⟨_, rfl⟩
    have hm0 : 0 < m := by omega
    rw [← hm] at hw
    obtain ⟨q, hq⟩ : ∃ q, q = x.tmod m := ⟨_, rfl⟩
    have hq1 : q < m := by rw [hq]; exact Int.tmod_lt_of_pos x hm0
    have hq0 : -m < q := by rw [hq]; exact Int.lt_tmod_of_pos x hm0
    rw [← hq] at hw
    have e1 : hi - lo + 1 = m := hm.symm
    have e2 : x.tmod m = q := hq.symm
    have hmne : m ≠ 0 := by omega
    rw [hw]
    clear hm hq hw
    have key : ∀ b1 b2, decide (lo ≤ x) = b1 → decide (x ≤ hi) = b2 → (b1 && b2) = false → Calls Tryz.prog 5 #[.int .i64 x, .int .i64 lo, .int .i64 hi] w fun e w' => e = .returned (.int .i64 (if q < 0 then lo + (q + hi - lo + 1) else lo + q)) ∧ w = w' := by
      intro b1 b2 t1 t2 hb
      by_cases hneg : q < 0
      · have t3 : decide (q < 0) = true := decide_eq_true hneg
        rw [if_pos hneg]
        cases b1 <;> cases b2 <;> simp at hb
        all_goals
          clear hin
          go_enter Tryz.func5, Tryz.ntmps5
          go_wp2
          go_ret
          exact ⟨rfl, rfl⟩
      · have t3 : decide (q < 0) = false := decide_eq_false hneg
        rw [if_neg hneg]
        cases b1 <;> cases b2 <;> simp at hb
        all_goals
          clear hin
          go_enter Tryz.func5, Tryz.ntmps5
          go_wp2
          go_ret
          exact ⟨rfl, rfl⟩
    refine key _ _ rfl rfl ?_
    cases h : (decide (lo ≤ x) && decide (x ≤ hi)) with
    | false => rfl
    | true =>
      rw [Bool.and_eq_true, decide_eq_true_eq, decide_eq_true_eq] at h
      exact absurd h hin

theorem i64_and_low (x : Int) (m : Nat) (hm : m < 9223372036854775808) : ∃ k : Nat, k ≤ m ∧ bits .and .i64 x (m : Int) = (k : Int) := by
  refine ⟨(BitVec.ofInt 64 x &&& BitVec.ofInt 64 (m : Int)).toNat, ?_, ?_⟩
  · rw [BitVec.toNat_and]
    have e : (BitVec.ofInt 64 (m : Int)).toNat = m := by
      rw [BitVec.ofInt_natCast, BitVec.toNat_ofNat]
      exact Nat.mod_eq_of_lt (by omega)
    rw [e]
    exact Nat.and_le_right
  · show IntKind.i64.wrap ((BitVec.ofInt 64 x &&& BitVec.ofInt 64 (m : Int)).toNat : Int) = _
    have hle : (BitVec.ofInt 64 x &&& BitVec.ofInt 64 (m : Int)).toNat ≤ m := by
      rw [BitVec.toNat_and]
      have e : (BitVec.ofInt 64 (m : Int)).toNat = m := by
        rw [BitVec.ofInt_natCast, BitVec.toNat_ofNat]
        exact Nat.mod_eq_of_lt (by omega)
      rw [e]
      exact Nat.and_le_right
    generalize (BitVec.ofInt 64 x &&& BitVec.ofInt 64 (m : Int)).toNat = q at *
    exact IntWalk.i64_in _ (by omega)
def starveI (n : Int) : Int := if 2 ≤ n then 0 else 1
theorem starving_ok (n : Int) (w : World) : Calls Tryz.prog 10 #[.int .i64 n] w fun e w' => e = .returned (.int .i64 (starveI n)) ∧ w = w' := by
  unfold starveI
  by_cases h : 2 ≤ n
  · have t1 : decide (2 ≤ n) = true := decide_eq_true h
    rw [if_pos h]
    clear h
    go_enter Tryz.func10, Tryz.ntmps10
    go_wp2
    go_ret
    exact ⟨rfl, rfl⟩
  · have t1 : decide (2 ≤ n) = false := decide_eq_false h
    rw [if_neg h]
    clear h
    go_enter Tryz.func10, Tryz.ntmps10
    go_wp2
    go_ret
    exact ⟨rfl, rfl⟩
end Go.Proofs.YtacmaphhbbadjaaGreatDoor
