/- kinoraref2.Same: two rows of the same bytes are alike. -/
import Derived.Test.YtofdgpgleghllaaArTwo
import Derived.Laws.BytesArg
namespace Go.Proofs.Ytofdgpgleghllaa
set_option linter.unusedSimpArgs false
set_option linter.unusedVariables false
open Go.RowKit

theorem row_conv {w : World} {g n cap : Nat} {l : List Nat} (hn : l.length = n) (hr : Row w 5 (.slice (some ⟨g, 0, none⟩) n cap) g (l.map b8)) :
    (convert 39 9 (.slice (some ⟨g, 0, none⟩) n cap)).run Try.prog w = .ok (.string (strOfNums (l.map Int.ofNat))) w := by
  refine run_convert_bytes_arg w 39 5 (by kernel_rfl) (by kernel_rfl) g 0 n cap (l.map Int.ofNat) (by simpa using hn) ?_ 9 (by kernel_rfl)
  intro i hi
  obtain ⟨_, h1, _, _, h2, _⟩ := hr.open_map
  have e : (l.map b8)[i]? = some (b8 l[i]) := by simp [List.getElem?_eq_getElem (show i < l.length by omega)]
  have := h2 i (l[i]'(by omega)) (List.getElem?_eq_getElem _)
  rw [Nat.zero_add, this]
  simp [b8, List.getD_eq_getElem?_getD, List.getElem?_eq_getElem (show i < l.length by omega)]

theorem same_ok (w : World) (g n cap g2 cap2 : Nat) (l : List Nat) (hn : l.length = n) (hr : Row w 5 (.slice (some ⟨g, 0, none⟩) n cap) g (l.map b8)) (hr2 : Row w 5 (.slice (some ⟨g2, 0, none⟩) n cap2) g2 (l.map b8)) :
    Calls Try.prog 21 #[.slice (some ⟨g, 0, none⟩) n cap, .slice (some ⟨g2, 0, none⟩) n cap2] w fun e w' => e = .returned (.bool true) ∧ w' = w := by
  have c1 := row_conv hn hr
  have c2 := row_conv hn hr2
  clear hr hr2
  generalize strOfNums (l.map Int.ofNat) = s at *
  go_enter Try.func21, Try.ntmps21
  go_wp2_with fail
  go_ret
  exact ⟨rfl, rfl⟩
end Go.Proofs.Ytofdgpgleghllaa
