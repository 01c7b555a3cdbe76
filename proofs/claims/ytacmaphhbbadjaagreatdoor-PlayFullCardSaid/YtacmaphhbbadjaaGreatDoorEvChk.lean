/- All functions of the program are such as the small machine runs rightly. -/
import Derived.Test.YtacmaphhbbadjaaGreatDoorEvMem
import Derived.Test.YtacmaphhbbadjaaGreatDoorProg
import Derived.KernelRfl
namespace Go.Proofs.YtacmaphhbbadjaaGreatDoor
set_option linter.all false
def msk : Nat := 2 ^ 400 - 1
theorem chk_p0 : (List.range' 0 50).all (chkF Tryz.prog) = true := by kernel_rfl
theorem chk_p1 : (List.range' 50 50).all (chkF Tryz.prog) = true := by kernel_rfl
theorem chk_p2 : (List.range' 100 50).all (chkF Tryz.prog) = true := by kernel_rfl
theorem chk_p3 : (List.range' 150 50).all (chkF Tryz.prog) = true := by kernel_rfl
theorem chk_p4 : (List.range' 200 200).all (chkF Tryz.prog) = true := by kernel_rfl
theorem follows_mixed : Tryz.prog.follows .mixedOrders = true := by kernel_rfl
theorem chk_fns : ChkM Tryz.prog msk := by
  intro f h
  rcases Nat.lt_or_ge f 400 with hf | hf
  · have key : ∀ a n, (List.range' a n).all (chkF Tryz.prog) = true → a ≤ f → f < a + n → chkF Tryz.prog f = true := fun a n h h1 h2 => by
      rw [List.all_eq_true] at h
      exact h f (by rw [List.mem_range'_1]; exact ⟨h1, h2⟩)
    rcases Nat.lt_or_ge f 50 with h0 | h0
    · exact key _ _ chk_p0 (by omega) (by omega)
    rcases Nat.lt_or_ge f 100 with h1 | h1
    · exact key _ _ chk_p1 (by omega) (by omega)
    rcases Nat.lt_or_ge f 150 with h2 | h2
    · exact key _ _ chk_p2 (by omega) (by omega)
    rcases Nat.lt_or_ge f 200 with h3 | h3
    · exact key _ _ chk_p3 (by omega) (by omega)
    · exact key _ _ chk_p4 (by omega) (by omega)
  · have e : Nat.shiftRight msk f = 0 := by
      show msk >>> f = 0
      rw [Nat.shiftRight_eq_div_pow]
      exact Nat.div_eq_of_lt (Nat.lt_of_lt_of_le (by unfold msk; omega) (Nat.pow_le_pow_right (by decide) hf))
    rw [e] at h
    cases h
end Go.Proofs.YtacmaphhbbadjaaGreatDoor
