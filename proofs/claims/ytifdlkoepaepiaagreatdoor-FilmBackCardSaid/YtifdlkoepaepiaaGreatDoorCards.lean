/-
  DERIVED. GIVEN WITH THE SEED: THE CARDS: each row of YtifdlkoepaepiaaGreatDoorRows.lean that lists a variable, with what it lists TIED to the program's text (the seventh form; the later family's looks); each row that meets fmt, with fmt's text TOLD by the authors' own Lean function (tested against real Go, not proved from fmt's source: count such statements apart). THE CARD IS WHAT COUNTS. Prove the row's statement (the work); the ties are given (YtifdlkoepaepiaaGreatDoorTie.lean); close each card by the builder's one call (the guide's Derived/Test/ToyasCard.lean, 'card_holds'). Laid BY PROGRAM, IN A SANDBOX (cutbox-door.mjs). By AI agents, Wed Nov 11 2026. No macro, syntax, notation, axiom, sorry.
-/
import Derived.Test.YtifdlkoepaepiaaGreatDoorRows
import GoSem.ClaimSeven
namespace Go.Proofs.YtifdlkoepaepiaaGreatDoor
namespace Rows

/-- THE TIED CARD OF 'kinoralaw30.FilmParts'. -/
def filmPartsCard : Claim7 := { stood := { row := filmPartsRow, standIns := [], harness := (true, "e631d02a44e03b21081c1cd8a62706a32a8a5b5b101f95bd40c3779b162ba3a5"), looks := false }, kinds := [], alts := [], laidByText := true, laidKinds := [.data], laidTests := true, laidLooks := .later }
def FilmPartsCardSaid : Prop := Claim7.holds Tryz.pinned (.plain (OpenSpec.ofChange filmPartsSpec)) filmPartsCard

/-- THE TIED CARD OF 'kinoralaw30.FilmBack'. -/
def filmBackCard : Claim7 := { stood := { row := filmBackRow, standIns := [], harness := (true, "e631d02a44e03b21081c1cd8a62706a32a8a5b5b101f95bd40c3779b162ba3a5"), looks := false }, kinds := [], alts := [], laidByText := true, laidKinds := [.data], laidTests := true, laidLooks := .later }
def FilmBackCardSaid : Prop := Claim7.holds Tryz.pinned (.plain (OpenSpec.ofChange filmBackSpec)) filmBackCard

/-- THE SECOND FORM's CARD OF 'kinoralaw30.FilmParts'. -/
def filmPartsUptoCard : Claim7 := { stood := { row := filmPartsUptoRow, standIns := [], harness := (true, "e631d02a44e03b21081c1cd8a62706a32a8a5b5b101f95bd40c3779b162ba3a5"), looks := false }, kinds := [], alts := [], laidByText := true, laidKinds := [.data], laidTests := true, laidLooks := .later }
def FilmPartsUptoCardSaid : Prop := Claim7.holds Tryz.pinned (.plain (OpenSpec.upto filmPartsSpec)) filmPartsUptoCard

/-- THE SECOND FORM's CARD OF 'kinoralaw30.FilmBack'. -/
def filmBackUptoCard : Claim7 := { stood := { row := filmBackUptoRow, standIns := [], harness := (true, "e631d02a44e03b21081c1cd8a62706a32a8a5b5b101f95bd40c3779b162ba3a5"), looks := false }, kinds := [], alts := [], laidByText := true, laidKinds := [.data], laidTests := true, laidLooks := .later }
def FilmBackUptoCardSaid : Prop := Claim7.holds Tryz.pinned (.plain (OpenSpec.upto filmBackSpec)) filmBackUptoCard
end Rows
end Go.Proofs.YtifdlkoepaepiaaGreatDoor
