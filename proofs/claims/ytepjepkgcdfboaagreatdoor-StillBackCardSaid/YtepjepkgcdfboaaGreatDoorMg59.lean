/- A closed fact of StillBack's row. -/
import Derived.Test.YtepjepkgcdfboaaGreatDoorRows
import Derived.Test.YtepjepkgcdfboaaGreatDoorCards
import Derived.JoinedOf
set_option linter.unusedVariables false
set_option linter.unusedSimpArgs false
namespace Go.Proofs.YtepjepkgcdfboaaGreatDoor.lawStillBack
open Go.ChangeShapes Go.WideShapes
theorem jf:joinedFacts Tryz.prog 4 Tryz.f4 Rows.stillBackSpec Rows.stillBackRow=true:=by kernel_rfl
end Go.Proofs.YtepjepkgcdfboaaGreatDoor.lawStillBack
