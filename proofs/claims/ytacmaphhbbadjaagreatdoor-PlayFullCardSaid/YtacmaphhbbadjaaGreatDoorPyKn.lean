/- The play law's known(), run by the small machine. -/
import Derived.Test.YtacmaphhbbadjaaGreatDoorEvUn3
import Derived.Test.YtacmaphhbbadjaaGreatDoorEvChk
namespace Go.Proofs.YtacmaphhbbadjaaGreatDoor
set_option linter.all false
theorem known_run : chkRun (.bool true) [] (xcall Tryz.prog undoE msk 100 11 [] EH.empty) = true := by kernel_rfl
theorem pknown_ok (w : World) : Calls Tryz.prog 11 #[] w fun e w' => e = .returned (.bool true) ∧ Chg [] w w' := by
  obtain ⟨H, e, _⟩ := chkRun_ok known_run
  have R : ERep (fun _ => none) w EH.empty := .start _ _ 0 (fun _ _ => rfl) (fun _ _ h => by cases h)
  refine (machine follows_mixed chk_fns undoE_ok e R (A := #[]) trivial).mono ?_
  rintro e w' ⟨V, ρ', rfl, st, r⟩
  have r : V = .bool true := r
  subst r
  exact ⟨rfl, st.chg fun B hB => by obtain ⟨_, _, _, _, e⟩ := hB; cases e⟩
end Go.Proofs.YtacmaphhbbadjaaGreatDoor
