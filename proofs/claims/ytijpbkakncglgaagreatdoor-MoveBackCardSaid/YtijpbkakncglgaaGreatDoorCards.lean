/-
  DERIVED. GIVEN WITH THE SEED: THE CARDS: each row of YtijpbkakncglgaaGreatDoorRows.lean that lists a variable, with what it lists TIED to the program's text (the seventh form; the later family's looks); each row that meets fmt, with fmt's text TOLD by the authors' own Lean function (tested against real Go, not proved from fmt's source: count such statements apart). THE CARD IS WHAT COUNTS. Prove the row's statement (the work); the ties are given (YtijpbkakncglgaaGreatDoorTie.lean); close each card by the builder's one call (the guide's Derived/Test/ToyasCard.lean, 'card_holds'). Laid BY PROGRAM, IN A SANDBOX (cutbox-door.mjs). By AI agents, Wed Nov 11 2026. No macro, syntax, notation, axiom, sorry.
-/
import Derived.Test.YtijpbkakncglgaaGreatDoorRows
import GoSem.ClaimSeven
namespace Go.Proofs.YtijpbkakncglgaaGreatDoor
namespace Rows

/-- THE TIED CARD OF 'kinoralaw29.MoveBack'. -/
def moveBackCard : Claim7 := { stood := { row := moveBackRow, standIns := [], harness := (true, "b0b5b3bf3464910e9a24c21910971fba1e03c895954c336f1ef687e35039a1dc"), looks := false }, kinds := [], alts := [], laidByText := true, laidKinds := [.data], laidTests := true, laidLooks := .later }
def MoveBackCardSaid : Prop := Claim7.holds Tryz.pinned (.plain (OpenSpec.ofChange moveBackSpec)) moveBackCard

/-- THE TIED CARD OF 'kinoralaw29.MoveStill'. -/
def moveStillCard : Claim7 := { stood := { row := moveStillRow, standIns := [], harness := (true, "b0b5b3bf3464910e9a24c21910971fba1e03c895954c336f1ef687e35039a1dc"), looks := false }, kinds := [], alts := [], laidByText := true, laidKinds := [.data], laidTests := true, laidLooks := .later }
def MoveStillCardSaid : Prop := Claim7.holds Tryz.pinned (.plain (OpenSpec.ofChange moveStillSpec)) moveStillCard

/-- THE TIED CARD OF 'kinoralaw29.MoveLeast'. -/
def moveLeastCard : Claim7 := { stood := { row := moveLeastRow, standIns := [], harness := (true, "b0b5b3bf3464910e9a24c21910971fba1e03c895954c336f1ef687e35039a1dc"), looks := false }, kinds := [], alts := [], laidByText := true, laidKinds := [.data], laidTests := true, laidLooks := .later }
def MoveLeastCardSaid : Prop := Claim7.holds Tryz.pinned (.plain (OpenSpec.ofChange moveLeastSpec)) moveLeastCard

/-- THE SECOND FORM's CARD OF 'kinoralaw29.MoveBack'. -/
def moveBackUptoCard : Claim7 := { stood := { row := moveBackUptoRow, standIns := [], harness := (true, "b0b5b3bf3464910e9a24c21910971fba1e03c895954c336f1ef687e35039a1dc"), looks := false }, kinds := [], alts := [], laidByText := true, laidKinds := [.data], laidTests := true, laidLooks := .later }
def MoveBackUptoCardSaid : Prop := Claim7.holds Tryz.pinned (.plain (OpenSpec.upto moveBackSpec)) moveBackUptoCard

/-- THE SECOND FORM's CARD OF 'kinoralaw29.MoveStill'. -/
def moveStillUptoCard : Claim7 := { stood := { row := moveStillUptoRow, standIns := [], harness := (true, "b0b5b3bf3464910e9a24c21910971fba1e03c895954c336f1ef687e35039a1dc"), looks := false }, kinds := [], alts := [], laidByText := true, laidKinds := [.data], laidTests := true, laidLooks := .later }
def MoveStillUptoCardSaid : Prop := Claim7.holds Tryz.pinned (.plain (OpenSpec.upto moveStillSpec)) moveStillUptoCard

/-- THE SECOND FORM's CARD OF 'kinoralaw29.MoveLeast'. -/
def moveLeastUptoCard : Claim7 := { stood := { row := moveLeastUptoRow, standIns := [], harness := (true, "b0b5b3bf3464910e9a24c21910971fba1e03c895954c336f1ef687e35039a1dc"), looks := false }, kinds := [], alts := [], laidByText := true, laidKinds := [.data], laidTests := true, laidLooks := .later }
def MoveLeastUptoCardSaid : Prop := Claim7.holds Tryz.pinned (.plain (OpenSpec.upto moveLeastSpec)) moveLeastUptoCard
end Rows
end Go.Proofs.YtijpbkakncglgaaGreatDoor
