/-
  DERIVED. GIVEN WITH THE SEED: THE CARDS: each row of YtacmaphhbbadjaaGreatDoorRows.lean that lists a variable, with what it lists TIED to the program's text (the seventh form; the later family's looks); each row that meets fmt, with fmt's text TOLD by the authors' own Lean function (tested against real Go, not proved from fmt's source: count such statements apart). THE CARD IS WHAT COUNTS. Prove the row's statement (the work); the ties are given (YtacmaphhbbadjaaGreatDoorTie.lean); close each card by the builder's one call (the guide's Derived/Test/ToyasCard.lean, 'card_holds'). Laid BY PROGRAM, IN A SANDBOX (cutbox-door.mjs). By AI agents, Wed Nov 11 2026. No macro, syntax, notation, axiom, sorry.
-/
import Derived.Test.YtacmaphhbbadjaaGreatDoorRows
import GoSem.ClaimSeven
namespace Go.Proofs.YtacmaphhbbadjaaGreatDoor
namespace Rows

/-- THE TIED CARD OF 'kinoralaw39.PlayFull'. -/
def playFullCard : Claim7 := { stood := { row := playFullRow, standIns := [], harness := (true, "e5cc881ae1abaef8709146131008f426a17b3836c097ce742ea7afdc1d1f63ce"), looks := false }, kinds := [], alts := [], laidByText := true, laidKinds := [.data], laidTests := true, laidLooks := .later }
def PlayFullCardSaid : Prop := Claim7.holds Tryz.pinned (.plain (OpenSpec.ofChange playFullSpec)) playFullCard

/-- THE SECOND FORM's CARD OF 'kinoralaw39.PlayFull'. -/
def playFullUptoCard : Claim7 := { stood := { row := playFullUptoRow, standIns := [], harness := (true, "e5cc881ae1abaef8709146131008f426a17b3836c097ce742ea7afdc1d1f63ce"), looks := false }, kinds := [], alts := [], laidByText := true, laidKinds := [.data], laidTests := true, laidLooks := .later }
def PlayFullUptoCardSaid : Prop := Claim7.holds Tryz.pinned (.plain (OpenSpec.upto playFullSpec)) playFullUptoCard
end Rows
end Go.Proofs.YtacmaphhbbadjaaGreatDoor
