/- Another closed fact of FilmBack's row. -/
import Derived.Test.YtifdlkoepaepiaaGreatDoorRows
import Derived.Test.YtifdlkoepaepiaaGreatDoorCards
import Derived.JoinedOf
set_option linter.all false
namespace Go.Proofs.YtifdlkoepaepiaaGreatDoor.lawFilmBack
open Go.ChangeShapes Go.WideShapes
theorem goes:false=Rows.filmBackRow.goesBy Tryz.prog:=by kernel_rfl
end Go.Proofs.YtifdlkoepaepiaaGreatDoor.lawFilmBack
