/- The reference's coder: what it does with a step. (printed from ArActs, turned) -/
import Derived.Test.YtofdgpgleghllaaArRef5
import Derived.Test.YtofdgpgleghllaaArActs
import Derived.Deep.RegionWith
import Derived.Deep.RegionHeld3
namespace Go.Proofs.Ytofdgpgleghllaa
set_option linter.unusedSimpArgs false
set_option linter.unusedVariables false
open Go.RowKit

/-- What a coder does with a step that it may take, and with another. -/
def StepPostR (W : World) (b g h : Nat) (c : Cod) (a : ActV) (e : Ending) (w' : World) : Prop :=
  (okAct c.odds.length a = true ∧ e = .returned (.int .i64 0) ∧ ∃ g', IsCod 63 w' b g' h (applyA c a) ∧ Chg [b, g, h] W w' ∧ (g' = g ∨ W.heap.size ≤ g')) ∨
  (okAct c.odds.length a = false ∧ e = .returned (.int .i64 1) ∧ w' = W)

theorem step_put_r (W : World) (b g h : Nat) (c : Cod) (a : ActV) (hc : IsCod 63 W b g h c) (hok : CodOk c) (hlen : c.low.length ≤ 1099511627776) (h0 : a.what = 0) :
    Calls Try.prog 14 #[.pointer (some ⟨b, 0, none⟩), .int .i64 a.ctx, .int .i64 a.bit] W (StepPostR W b g h c a) := by
  by_cases hv : okAct c.odds.length a = true
  · have hv' := hv
    unfold okAct at hv
    rw [if_pos h0] at hv
    simp only [decide_eq_true_eq] at hv
    obtain ⟨a1, a2, a3⟩ := hv
    obtain ⟨x, hx⟩ := Int.eq_ofNat_of_zero_le a1
    obtain ⟨y, hy⟩ := Int.eq_ofNat_of_zero_le (show 0 ≤ a.bit by omega)
    have e1 : applyA c a = putL c x y := by unfold applyA; rw [if_pos h0, hx, hy]; rfl
    rw [hx, hy]
    refine (put_ok_r W b g h c x y hc hok (by omega) (by omega) hlen).mono ?_
    rintro e w' ⟨rfl, g', r⟩
    exact .inl ⟨hv', rfl, g', by rw [e1]; exact r⟩
  · have hv' : okAct c.odds.length a = false := by simpa using hv
    have hbad : a.ctx < 0 ∨ (c.odds.length : Int) ≤ a.ctx ∨ (a.bit ≠ 0 ∧ a.bit ≠ 1) := by
      unfold okAct at hv
      rw [if_pos h0] at hv
      simp only [decide_eq_true_eq] at hv
      omega
    refine (put_bad_r W b g h c a.ctx a.bit hc hbad).mono ?_
    rintro e w' ⟨rfl, rfl⟩
    exact .inr ⟨hv', rfl, rfl⟩
theorem step_raw_r (W : World) (b g h : Nat) (c : Cod) (a : ActV) (hc : IsCod 63 W b g h c) (hok : CodOk c) (hlen : c.low.length ≤ 549755813888) (hw : WfA a) (h1 : a.what = 1) :
    Calls Try.prog 16 #[.pointer (some ⟨b, 0, none⟩), .int .u64 a.v, .int .i64 a.n] W (StepPostR W b g h c a) := by
  have h0 : ¬ a.what = 0 := by omega
  obtain ⟨w0, w1⟩ := hw
  by_cases hv : okAct c.odds.length a = true
  · have hv' := hv
    unfold okAct at hv
    rw [if_neg h0, if_pos h1] at hv
    simp only [decide_eq_true_eq] at hv
    obtain ⟨a1, a2, a3⟩ := hv
    have hlt := raw_v w0 a1 a3
    obtain ⟨x, hx⟩ := Int.eq_ofNat_of_zero_le w0
    obtain ⟨y, hy⟩ := Int.eq_ofNat_of_zero_le a1
    have e1 : applyA c a = rawL c x y := by unfold applyA; rw [if_neg h0, if_pos h1, hx, hy]; rfl
    rw [hx, hy, Int.toNat_natCast, Int.toNat_natCast] at hlt
    rw [hx, hy]
    refine (raw_ok_r W b g h c x y hc hok (by omega) hlt (by omega) hlen).mono ?_
    rintro e w' ⟨rfl, g', r⟩
    exact .inl ⟨hv', rfl, g', by rw [e1]; exact r⟩
  · have hv' : okAct c.odds.length a = false := by simpa using hv
    have hbad : a.n < 0 ∨ 32 < a.n ∨ a.v / 2 ^ a.n.toNat ≠ 0 := by
      unfold okAct at hv
      rw [if_neg h0, if_pos h1] at hv
      simp only [decide_eq_true_eq] at hv
      generalize a.v / 2 ^ a.n.toNat = q at *
      omega
    refine (raw_bad_r W _ a.v a.n w0 w1 hbad).mono ?_
    rintro e w' ⟨rfl, rfl⟩
    exact .inr ⟨hv', rfl, rfl⟩
theorem step_num_r (W : World) (b g h : Nat) (c : Cod) (a : ActV) (hc : IsCod 63 W b g h c) (hok : CodOk c) (hlen : c.low.length ≤ 274877906944) (hw : WfA a) (h0 : ¬ a.what = 0) (h1 : ¬ a.what = 1) :
    Calls Try.prog 18 #[.pointer (some ⟨b, 0, none⟩), .int .i64 a.ctx, .int .u64 a.v] W (StepPostR W b g h c a) := by
  obtain ⟨w0, w1⟩ := hw
  by_cases hv : okAct c.odds.length a = true
  · have hv' := hv
    unfold okAct at hv
    rw [if_neg h0, if_neg h1] at hv
    simp only [decide_eq_true_eq] at hv
    obtain ⟨a1, a2, a3⟩ := hv
    obtain ⟨x, hx⟩ := Int.eq_ofNat_of_zero_le w0
    obtain ⟨y, hy⟩ := Int.eq_ofNat_of_zero_le a2
    have e1 : applyA c a = numL c y x := by unfold applyA; rw [if_neg h0, if_neg h1, hx, hy]; rfl
    rw [hx, hy]
    refine (num_ok_r W b g h c y x hc hok (by omega) (by omega) hlen).mono ?_
    rintro e w' ⟨rfl, g', r⟩
    exact .inl ⟨hv', rfl, g', by rw [e1]; exact r⟩
  · have hv' : okAct c.odds.length a = false := by simpa using hv
    have hbad : 4294967296 ≤ a.v ∨ a.ctx < 0 ∨ (c.odds.length : Int) - 33 < a.ctx := by
      unfold okAct at hv
      rw [if_neg h0, if_neg h1] at hv
      simp only [decide_eq_true_eq] at hv
      omega
    refine (num_bad_r W b g h c a.ctx a.v hc hbad).mono ?_
    rintro e w' ⟨rfl, rfl⟩
    exact .inr ⟨hv', rfl, rfl⟩

end Go.Proofs.Ytofdgpgleghllaa
