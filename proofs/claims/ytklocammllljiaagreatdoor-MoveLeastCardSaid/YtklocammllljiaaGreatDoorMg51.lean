/- Another closed fact of MoveLeast's row. -/
import Derived.Test.YtklocammllljiaaGreatDoorRows
import Derived.Test.YtklocammllljiaaGreatDoorCards
import Derived.JoinedOf
set_option linter.unusedVariables false
set_option linter.unusedSimpArgs false
namespace Go.Proofs.YtklocammllljiaaGreatDoor.lawMoveLeast
open Go.ChangeShapes Go.WideShapes
theorem goes:false=Rows.moveLeastRow.goesBy Tryz.prog:=by kernel_rfl
end Go.Proofs.YtklocammllljiaaGreatDoor.lawMoveLeast
