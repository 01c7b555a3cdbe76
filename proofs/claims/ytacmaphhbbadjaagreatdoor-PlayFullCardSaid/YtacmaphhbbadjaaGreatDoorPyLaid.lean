/- The laid points as a premise of a row, and a world that meets it; no program text. -/
import Derived.Test.YtacmaphhbbadjaaGreatDoorRows
import Derived.ProofKit
import Derived.LaidMore
import Derived.OpenShut
import Derived.Stop.Joined
import Derived.Deep.Slices
import Derived.Deep.Fields
import Derived.ChangeOld
import Derived.Below
namespace Go.Proofs.YtacmaphhbbadjaaGreatDoor
set_option linter.all false
open Go.ChangeShapes Go.WideShapes Go.ChangeAt Go.RowKit Go.Deep

def ptList : List (Int × Int) := [(0, 1), (1, 0), (1, 1), (-1, 1), (0, 2), (2, 0), (1, 2), (-1, 2), (2, 1), (-2, 1), (2, 2), (-2, 2), (0, 3), (3, 0), (1, 3), (-1, 3), (3, 1), (-3, 1), (2, 3), (-2, 3), (3, 2), (-3, 2), (0, 4), (4, 0)]
theorem own : ownKnob Tryz.prog.godebug = none := by kernel_rfl
theorem laidOut : laidOutB Tryz.prog = true := by kernel_rfl
def laidPts : List (String × DataW Unit) := [("kinora/match.points", Rows.laid_kinora_match_points)]
theorem gPts : Tryz.prog.globalNamed "kinora/match.points" = some 0 := by kernel_rfl
theorem tPts : (Tryz.prog.globals[0]?).map (·.type) = some 395 := by kernel_rfl
/-- A world that meets the premise: the settled one, the points laid. -/
noncomputable def ptWorld (os : Os) : World :=
  let w0 := World.holding Tryz.prog os ⟨#[], #[], []⟩
  { w0 with heap := w0.heap.modify 0 fun
      | .cells _ t frozen => .cells (ptList.flatMap fun p => [Value.int .i64 p.1, .int .i64 p.2]).toArray t frozen
      | o => o }
theorem ptWorld_met (os : Os) (args : Array Value) : laidMetH Tryz.prog laidPts ((ptWorld os).forCall (fun _ _ => 0) ⟨#[], args, []⟩).memory := by
  rw [MakeChecks.laidMetH_plain _ _ _ (by kernel_rfl)]
  exact laidMet_of_run' 8 (by kernel_rfl) (by kernel_rfl)
end Go.Proofs.YtacmaphhbbadjaaGreatDoor
