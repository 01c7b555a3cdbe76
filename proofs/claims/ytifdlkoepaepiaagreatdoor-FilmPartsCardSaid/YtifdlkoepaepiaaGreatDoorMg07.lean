/- Another closed fact of FilmParts's row. -/
import Derived.Test.YtifdlkoepaepiaaGreatDoorRows
import Derived.Test.YtifdlkoepaepiaaGreatDoorCards
import Derived.JoinedOf
set_option linter.all false
namespace Go.Proofs.YtifdlkoepaepiaaGreatDoor.lawFilmParts
open Go.ChangeShapes Go.WideShapes
theorem goes:false=Rows.filmPartsRow.goesBy Tryz.prog:=by kernel_rfl
end Go.Proofs.YtifdlkoepaepiaaGreatDoor.lawFilmParts
