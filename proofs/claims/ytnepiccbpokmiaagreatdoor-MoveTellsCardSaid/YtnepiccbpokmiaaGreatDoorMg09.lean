/- Another closed fact of MoveTells's row. -/
import Derived.Test.YtnepiccbpokmiaaGreatDoorRows
import Derived.Test.YtnepiccbpokmiaaGreatDoorCards
import Derived.JoinedOf
set_option linter.all false
namespace Go.Proofs.YtnepiccbpokmiaaGreatDoor.lawMoveTells
open Go.ChangeShapes Go.WideShapes
theorem goes:false=Rows.moveTellsRow.goesBy Tryz.prog:=by kernel_rfl
end Go.Proofs.YtnepiccbpokmiaaGreatDoor.lawMoveTells
