/- A closed fact of StillSmall's row. -/
import Derived.Test.YtepjepkgcdfboaaGreatDoorRows
import Derived.Test.YtepjepkgcdfboaaGreatDoorCards
import Derived.JoinedOf
set_option linter.unusedVariables false
set_option linter.unusedSimpArgs false
namespace Go.Proofs.YtepjepkgcdfboaaGreatDoor.lawStillSmall
open Go.ChangeShapes Go.WideShapes
theorem jf:joinedFacts Tryz.prog 6 Tryz.f6 Rows.stillSmallSpec Rows.stillSmallRow=true:=by kernel_rfl
end Go.Proofs.YtepjepkgcdfboaaGreatDoor.lawStillSmall
