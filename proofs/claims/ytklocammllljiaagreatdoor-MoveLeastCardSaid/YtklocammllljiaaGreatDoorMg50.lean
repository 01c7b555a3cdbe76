/- A closed fact of MoveLeast's row. -/
import Derived.Test.YtklocammllljiaaGreatDoorRows
import Derived.Test.YtklocammllljiaaGreatDoorCards
import Derived.JoinedOf
set_option linter.unusedVariables false
set_option linter.unusedSimpArgs false
namespace Go.Proofs.YtklocammllljiaaGreatDoor.lawMoveLeast
open Go.ChangeShapes Go.WideShapes
theorem jf:joinedFacts Tryz.prog 3 Tryz.f3 Rows.moveLeastSpec Rows.moveLeastRow=true:=by kernel_rfl
end Go.Proofs.YtklocammllljiaaGreatDoor.lawMoveLeast
