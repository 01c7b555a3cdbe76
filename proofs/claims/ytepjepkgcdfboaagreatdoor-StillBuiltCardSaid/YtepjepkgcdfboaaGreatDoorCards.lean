/-
  DERIVED. GIVEN WITH THE SEED: THE CARDS: each row of YtepjepkgcdfboaaGreatDoorRows.lean that lists a variable, with what it lists TIED to the program's text (the seventh form; the later family's looks); each row that meets fmt, with fmt's text TOLD by the authors' own Lean function (tested against real Go, not proved from fmt's source: count such statements apart). THE CARD IS WHAT COUNTS. Prove the row's statement (the work); the ties are given (YtepjepkgcdfboaaGreatDoorTie.lean); close each card by the builder's one call (the guide's Derived/Test/ToyasCard.lean, 'card_holds'). Laid BY PROGRAM, IN A SANDBOX (cutbox-door.mjs). By AI agents, Wed Nov 11 2026. No macro, syntax, notation, axiom, sorry.
-/
import Derived.Test.YtepjepkgcdfboaaGreatDoorRows
import GoSem.ClaimSeven
namespace Go.Proofs.YtepjepkgcdfboaaGreatDoor
namespace Rows

/-- THE TIED CARD OF 'kinoralaw28.StillBuilt'. -/
def stillBuiltCard : Claim7 := { stood := { row := stillBuiltRow, standIns := [], harness := (true, "7663c97453b69600e9c463946778173ad2c66588ede4f04656ba34c9bc10cfaa"), looks := false }, kinds := [], alts := [], laidByText := true, laidKinds := [.data], laidTests := true, laidLooks := .later }
def StillBuiltCardSaid : Prop := Claim7.holds Tryz.pinned (.plain (OpenSpec.ofChange stillBuiltSpec)) stillBuiltCard

/-- THE TIED CARD OF 'kinoralaw28.StillBack'. -/
def stillBackCard : Claim7 := { stood := { row := stillBackRow, standIns := [], harness := (true, "7663c97453b69600e9c463946778173ad2c66588ede4f04656ba34c9bc10cfaa"), looks := false }, kinds := [], alts := [], laidByText := true, laidKinds := [.data], laidTests := true, laidLooks := .later }
def StillBackCardSaid : Prop := Claim7.holds Tryz.pinned (.plain (OpenSpec.ofChange stillBackSpec)) stillBackCard

/-- THE TIED CARD OF 'kinoralaw28.StillTurned'. -/
def stillTurnedCard : Claim7 := { stood := { row := stillTurnedRow, standIns := [], harness := (true, "7663c97453b69600e9c463946778173ad2c66588ede4f04656ba34c9bc10cfaa"), looks := false }, kinds := [], alts := [], laidByText := true, laidKinds := [.data], laidTests := true, laidLooks := .later }
def StillTurnedCardSaid : Prop := Claim7.holds Tryz.pinned (.plain (OpenSpec.ofChange stillTurnedSpec)) stillTurnedCard

/-- THE TIED CARD OF 'kinoralaw28.StillSmall'. -/
def stillSmallCard : Claim7 := { stood := { row := stillSmallRow, standIns := [], harness := (true, "7663c97453b69600e9c463946778173ad2c66588ede4f04656ba34c9bc10cfaa"), looks := false }, kinds := [], alts := [], laidByText := true, laidKinds := [.data], laidTests := true, laidLooks := .later }
def StillSmallCardSaid : Prop := Claim7.holds Tryz.pinned (.plain (OpenSpec.ofChange stillSmallSpec)) stillSmallCard

/-- THE TIED CARD OF 'kinoralaw30.FilmParts'. -/
def filmPartsCard : Claim7 := { stood := { row := filmPartsRow, standIns := [], harness := (true, "7663c97453b69600e9c463946778173ad2c66588ede4f04656ba34c9bc10cfaa"), looks := false }, kinds := [], alts := [], laidByText := true, laidKinds := [.data], laidTests := true, laidLooks := .later }
def FilmPartsCardSaid : Prop := Claim7.holds Tryz.pinned (.plain (OpenSpec.ofChange filmPartsSpec)) filmPartsCard

/-- THE TIED CARD OF 'kinoralaw30.FilmBack'. -/
def filmBackCard : Claim7 := { stood := { row := filmBackRow, standIns := [], harness := (true, "7663c97453b69600e9c463946778173ad2c66588ede4f04656ba34c9bc10cfaa"), looks := false }, kinds := [], alts := [], laidByText := true, laidKinds := [.data], laidTests := true, laidLooks := .later }
def FilmBackCardSaid : Prop := Claim7.holds Tryz.pinned (.plain (OpenSpec.ofChange filmBackSpec)) filmBackCard

/-- THE SECOND FORM's CARD OF 'kinoralaw28.StillBuilt'. -/
def stillBuiltUptoCard : Claim7 := { stood := { row := stillBuiltUptoRow, standIns := [], harness := (true, "7663c97453b69600e9c463946778173ad2c66588ede4f04656ba34c9bc10cfaa"), looks := false }, kinds := [], alts := [], laidByText := true, laidKinds := [.data], laidTests := true, laidLooks := .later }
def StillBuiltUptoCardSaid : Prop := Claim7.holds Tryz.pinned (.plain (OpenSpec.upto stillBuiltSpec)) stillBuiltUptoCard

/-- THE SECOND FORM's CARD OF 'kinoralaw28.StillBack'. -/
def stillBackUptoCard : Claim7 := { stood := { row := stillBackUptoRow, standIns := [], harness := (true, "7663c97453b69600e9c463946778173ad2c66588ede4f04656ba34c9bc10cfaa"), looks := false }, kinds := [], alts := [], laidByText := true, laidKinds := [.data], laidTests := true, laidLooks := .later }
def StillBackUptoCardSaid : Prop := Claim7.holds Tryz.pinned (.plain (OpenSpec.upto stillBackSpec)) stillBackUptoCard

/-- THE SECOND FORM's CARD OF 'kinoralaw28.StillTurned'. -/
def stillTurnedUptoCard : Claim7 := { stood := { row := stillTurnedUptoRow, standIns := [], harness := (true, "7663c97453b69600e9c463946778173ad2c66588ede4f04656ba34c9bc10cfaa"), looks := false }, kinds := [], alts := [], laidByText := true, laidKinds := [.data], laidTests := true, laidLooks := .later }
def StillTurnedUptoCardSaid : Prop := Claim7.holds Tryz.pinned (.plain (OpenSpec.upto stillTurnedSpec)) stillTurnedUptoCard

/-- THE SECOND FORM's CARD OF 'kinoralaw28.StillSmall'. -/
def stillSmallUptoCard : Claim7 := { stood := { row := stillSmallUptoRow, standIns := [], harness := (true, "7663c97453b69600e9c463946778173ad2c66588ede4f04656ba34c9bc10cfaa"), looks := false }, kinds := [], alts := [], laidByText := true, laidKinds := [.data], laidTests := true, laidLooks := .later }
def StillSmallUptoCardSaid : Prop := Claim7.holds Tryz.pinned (.plain (OpenSpec.upto stillSmallSpec)) stillSmallUptoCard

/-- THE SECOND FORM's CARD OF 'kinoralaw30.FilmParts'. -/
def filmPartsUptoCard : Claim7 := { stood := { row := filmPartsUptoRow, standIns := [], harness := (true, "7663c97453b69600e9c463946778173ad2c66588ede4f04656ba34c9bc10cfaa"), looks := false }, kinds := [], alts := [], laidByText := true, laidKinds := [.data], laidTests := true, laidLooks := .later }
def FilmPartsUptoCardSaid : Prop := Claim7.holds Tryz.pinned (.plain (OpenSpec.upto filmPartsSpec)) filmPartsUptoCard

/-- THE SECOND FORM's CARD OF 'kinoralaw30.FilmBack'. -/
def filmBackUptoCard : Claim7 := { stood := { row := filmBackUptoRow, standIns := [], harness := (true, "7663c97453b69600e9c463946778173ad2c66588ede4f04656ba34c9bc10cfaa"), looks := false }, kinds := [], alts := [], laidByText := true, laidKinds := [.data], laidTests := true, laidLooks := .later }
def FilmBackUptoCardSaid : Prop := Claim7.holds Tryz.pinned (.plain (OpenSpec.upto filmBackSpec)) filmBackUptoCard
end Rows
end Go.Proofs.YtepjepkgcdfboaaGreatDoor
