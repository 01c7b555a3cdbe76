/- A closed fact of MoveTells's row. -/
import Derived.Test.YtnepiccbpokmiaaGreatDoorRows
import Derived.Test.YtnepiccbpokmiaaGreatDoorCards
import Derived.JoinedOf
set_option linter.all false
namespace Go.Proofs.YtnepiccbpokmiaaGreatDoor.lawMoveTells
open Go.ChangeShapes Go.WideShapes
theorem jf:joinedFacts Tryz.prog 3 Tryz.f3 Rows.moveTellsSpec Rows.moveTellsRow=true:=by kernel_rfl
end Go.Proofs.YtnepiccbpokmiaaGreatDoor.lawMoveTells
