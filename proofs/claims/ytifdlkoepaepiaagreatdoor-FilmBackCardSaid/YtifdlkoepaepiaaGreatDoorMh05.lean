/- A closed fact of FilmBack's row. -/
import Derived.Test.YtifdlkoepaepiaaGreatDoorRows
import Derived.Test.YtifdlkoepaepiaaGreatDoorCards
import Derived.JoinedOf
set_option linter.all false
namespace Go.Proofs.YtifdlkoepaepiaaGreatDoor.lawFilmBack
open Go.ChangeShapes Go.WideShapes
theorem jf:joinedFacts Tryz.prog 4 Tryz.f4 Rows.filmBackSpec Rows.filmBackRow=true:=by kernel_rfl
end Go.Proofs.YtifdlkoepaepiaaGreatDoor.lawFilmBack
