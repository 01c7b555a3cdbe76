/- Another closed fact of PlayFull's row. -/
import Derived.Test.YtacmaphhbbadjaaGreatDoorRows
import Derived.Test.YtacmaphhbbadjaaGreatDoorCards
import Derived.JoinedOf
namespace Go.Proofs.YtacmaphhbbadjaaGreatDoor.lawPlayFull
set_option linter.all false
open Go.ChangeShapes Go.WideShapes
theorem goes : false = Rows.playFullRow.goesBy Tryz.prog := by kernel_rfl
end Go.Proofs.YtacmaphhbbadjaaGreatDoor.lawPlayFull
