/- Another closed fact of StillBuilt's row. -/
import Derived.Test.YtepjepkgcdfboaaGreatDoorRows
import Derived.Test.YtepjepkgcdfboaaGreatDoorCards
import Derived.JoinedOf
set_option linter.unusedVariables false
set_option linter.unusedSimpArgs false
namespace Go.Proofs.YtepjepkgcdfboaaGreatDoor.lawStillBuilt
open Go.ChangeShapes Go.WideShapes
theorem goes:false=Rows.stillBuiltRow.goesBy Tryz.prog:=by kernel_rfl
end Go.Proofs.YtepjepkgcdfboaaGreatDoor.lawStillBuilt
