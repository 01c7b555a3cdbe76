/- A closed fact of PlayFull's row. -/
import Derived.Test.YtacmaphhbbadjaaGreatDoorRows
import Derived.Test.YtacmaphhbbadjaaGreatDoorCards
import Derived.JoinedOf
namespace Go.Proofs.YtacmaphhbbadjaaGreatDoor.lawPlayFull
set_option linter.all false
open Go.ChangeShapes Go.WideShapes
theorem j1 : (Rows.playFullRow.inPlace == Tryz.prog.inPlace 3) = true := by kernel_rfl
theorem j2 : (Rows.playFullRow.unfollowed == Tryz.prog.unfollowed 3) = true := by kernel_rfl
theorem j3 : (Rows.playFullRow.recurses == Tryz.prog.recurses 3) = true := by kernel_rfl
theorem j4 : (Rows.playFullRow.named == Tryz.prog.varsNamed 3) = true := by kernel_rfl
theorem jf : joinedFacts Tryz.prog 3 Tryz.f3 Rows.playFullSpec Rows.playFullRow = true := by
  unfold joinedFacts
  rw [j1, j2, j3, j4]
  kernel_rfl
end Go.Proofs.YtacmaphhbbadjaaGreatDoor.lawPlayFull
