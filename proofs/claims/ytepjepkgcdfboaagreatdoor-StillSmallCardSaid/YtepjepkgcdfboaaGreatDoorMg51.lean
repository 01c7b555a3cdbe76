/- Another closed fact of StillSmall's row. -/
import Derived.Test.YtepjepkgcdfboaaGreatDoorRows
import Derived.Test.YtepjepkgcdfboaaGreatDoorCards
import Derived.JoinedOf
set_option linter.unusedVariables false
set_option linter.unusedSimpArgs false
namespace Go.Proofs.YtepjepkgcdfboaaGreatDoor.lawStillSmall
open Go.ChangeShapes Go.WideShapes
theorem goes:false=Rows.stillSmallRow.goesBy Tryz.prog:=by kernel_rfl
end Go.Proofs.YtepjepkgcdfboaaGreatDoor.lawStillSmall
