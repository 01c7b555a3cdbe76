/- A closed fact of FilmParts's row. -/
import Derived.Test.YtifdlkoepaepiaaGreatDoorRows
import Derived.Test.YtifdlkoepaepiaaGreatDoorCards
import Derived.JoinedOf
set_option linter.all false
namespace Go.Proofs.YtifdlkoepaepiaaGreatDoor.lawFilmParts
open Go.ChangeShapes Go.WideShapes
theorem jf:joinedFacts Tryz.prog 3 Tryz.f3 Rows.filmPartsSpec Rows.filmPartsRow=true:=by kernel_rfl
end Go.Proofs.YtifdlkoepaepiaaGreatDoor.lawFilmParts
