/-
  DERIVED. GIVEN WITH THE SEED: THE CARDS: each row of YtnepiccbpokmiaaGreatDoorRows.lean that lists a variable, with what it lists TIED to the program's text (the seventh form; the later family's looks); each row that meets fmt, with fmt's text TOLD by the authors' own Lean function (tested against real Go, not proved from fmt's source: count such statements apart). THE CARD IS WHAT COUNTS. Prove the row's statement (the work); the ties are given (YtnepiccbpokmiaaGreatDoorTie.lean); close each card by the builder's one call (the guide's Derived/Test/ToyasCard.lean, 'card_holds'). Laid BY PROGRAM, IN A SANDBOX (cutbox-door.mjs). By AI agents, Wed Nov 11 2026. No macro, syntax, notation, axiom, sorry.
-/
import Derived.Test.YtnepiccbpokmiaaGreatDoorRows
import GoSem.ClaimSeven
namespace Go.Proofs.YtnepiccbpokmiaaGreatDoor
namespace Rows

/-- THE TIED CARD OF 'kinoralaw29.MoveTells'. -/
def moveTellsCard : Claim7 := { stood := { row := moveTellsRow, standIns := [], harness := (true, "75761e447c0ce76b624709f1cf18d2c16226f5f65cc940d5dc2c8c4fc5c838b4"), looks := false }, kinds := [], alts := [], laidByText := true, laidKinds := [.data], laidTests := true, laidLooks := .later }
def MoveTellsCardSaid : Prop := Claim7.holds Tryz.pinned (.plain (OpenSpec.ofChange moveTellsSpec)) moveTellsCard

/-- THE SECOND FORM's CARD OF 'kinoralaw29.MoveTells'. -/
def moveTellsUptoCard : Claim7 := { stood := { row := moveTellsUptoRow, standIns := [], harness := (true, "75761e447c0ce76b624709f1cf18d2c16226f5f65cc940d5dc2c8c4fc5c838b4"), looks := false }, kinds := [], alts := [], laidByText := true, laidKinds := [.data], laidTests := true, laidLooks := .later }
def MoveTellsUptoCardSaid : Prop := Claim7.holds Tryz.pinned (.plain (OpenSpec.upto moveTellsSpec)) moveTellsUptoCard
end Rows
end Go.Proofs.YtnepiccbpokmiaaGreatDoor
