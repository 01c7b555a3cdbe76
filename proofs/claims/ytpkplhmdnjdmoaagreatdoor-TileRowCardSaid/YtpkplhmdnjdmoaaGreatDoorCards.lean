/-
  DERIVED. GIVEN WITH THE SEED: THE CARDS: each row of YtpkplhmdnjdmoaaGreatDoorRows.lean that lists a variable, with what it lists TIED to the program's text (the seventh form; the later family's looks); each row that meets fmt, with fmt's text TOLD by the authors' own Lean function (tested against real Go, not proved from fmt's source: count such statements apart). THE CARD IS WHAT COUNTS. Prove the row's statement (the work); the ties are given (YtpkplhmdnjdmoaaGreatDoorTie.lean); close each card by the builder's one call (the guide's Derived/Test/ToyasCard.lean, 'card_holds'). Laid BY PROGRAM, IN A SANDBOX (cutbox-door.mjs). By AI agents, Wed Nov 11 2026. No macro, syntax, notation, axiom, sorry.
-/
import Derived.Test.YtpkplhmdnjdmoaaGreatDoorRows
import GoSem.ClaimSeven
namespace Go.Proofs.YtpkplhmdnjdmoaaGreatDoor
namespace Rows

/-- THE TIED CARD OF 'kinoralaw27.TileGrids'. -/
def tileGridsCard : Claim7 := { stood := { row := tileGridsRow, standIns := [], harness := (true, "ade1ba1fafae0687af2b2e29212e9b2c0c17417836277d2e2bd8cd81dc73ad49"), looks := false }, kinds := [], alts := [], laidByText := true, laidKinds := [.data], laidTests := true, laidLooks := .later }
def TileGridsCardSaid : Prop := Claim7.holds Tryz.pinned (.plain (OpenSpec.ofChange tileGridsSpec)) tileGridsCard

/-- THE TIED CARD OF 'kinoralaw27.TileBuilt'. -/
def tileBuiltCard : Claim7 := { stood := { row := tileBuiltRow, standIns := [], harness := (true, "ade1ba1fafae0687af2b2e29212e9b2c0c17417836277d2e2bd8cd81dc73ad49"), looks := false }, kinds := [], alts := [], laidByText := true, laidKinds := [.data], laidTests := true, laidLooks := .later }
def TileBuiltCardSaid : Prop := Claim7.holds Tryz.pinned (.plain (OpenSpec.ofChange tileBuiltSpec)) tileBuiltCard

/-- THE TIED CARD OF 'kinoralaw27.TileSmall'. -/
def tileSmallCard : Claim7 := { stood := { row := tileSmallRow, standIns := [], harness := (true, "ade1ba1fafae0687af2b2e29212e9b2c0c17417836277d2e2bd8cd81dc73ad49"), looks := false }, kinds := [], alts := [], laidByText := true, laidKinds := [.data], laidTests := true, laidLooks := .later }
def TileSmallCardSaid : Prop := Claim7.holds Tryz.pinned (.plain (OpenSpec.ofChange tileSmallSpec)) tileSmallCard

/-- THE TIED CARD OF 'kinoralaw27.TileBack'. -/
def tileBackCard : Claim7 := { stood := { row := tileBackRow, standIns := [], harness := (true, "ade1ba1fafae0687af2b2e29212e9b2c0c17417836277d2e2bd8cd81dc73ad49"), looks := false }, kinds := [], alts := [], laidByText := true, laidKinds := [.data], laidTests := true, laidLooks := .later }
def TileBackCardSaid : Prop := Claim7.holds Tryz.pinned (.plain (OpenSpec.ofChange tileBackSpec)) tileBackCard

/-- THE TIED CARD OF 'kinoralaw27.TileRow'. -/
def tileRowCard : Claim7 := { stood := { row := tileRowRow, standIns := [], harness := (true, "ade1ba1fafae0687af2b2e29212e9b2c0c17417836277d2e2bd8cd81dc73ad49"), looks := false }, kinds := [], alts := [], laidByText := true, laidKinds := [.data], laidTests := true, laidLooks := .later }
def TileRowCardSaid : Prop := Claim7.holds Tryz.pinned (.plain (OpenSpec.ofChange tileRowSpec)) tileRowCard

/-- THE SECOND FORM's CARD OF 'kinoralaw27.TileGrids'. -/
def tileGridsUptoCard : Claim7 := { stood := { row := tileGridsUptoRow, standIns := [], harness := (true, "ade1ba1fafae0687af2b2e29212e9b2c0c17417836277d2e2bd8cd81dc73ad49"), looks := false }, kinds := [], alts := [], laidByText := true, laidKinds := [.data], laidTests := true, laidLooks := .later }
def TileGridsUptoCardSaid : Prop := Claim7.holds Tryz.pinned (.plain (OpenSpec.upto tileGridsSpec)) tileGridsUptoCard

/-- THE SECOND FORM's CARD OF 'kinoralaw27.TileBuilt'. -/
def tileBuiltUptoCard : Claim7 := { stood := { row := tileBuiltUptoRow, standIns := [], harness := (true, "ade1ba1fafae0687af2b2e29212e9b2c0c17417836277d2e2bd8cd81dc73ad49"), looks := false }, kinds := [], alts := [], laidByText := true, laidKinds := [.data], laidTests := true, laidLooks := .later }
def TileBuiltUptoCardSaid : Prop := Claim7.holds Tryz.pinned (.plain (OpenSpec.upto tileBuiltSpec)) tileBuiltUptoCard

/-- THE SECOND FORM's CARD OF 'kinoralaw27.TileSmall'. -/
def tileSmallUptoCard : Claim7 := { stood := { row := tileSmallUptoRow, standIns := [], harness := (true, "ade1ba1fafae0687af2b2e29212e9b2c0c17417836277d2e2bd8cd81dc73ad49"), looks := false }, kinds := [], alts := [], laidByText := true, laidKinds := [.data], laidTests := true, laidLooks := .later }
def TileSmallUptoCardSaid : Prop := Claim7.holds Tryz.pinned (.plain (OpenSpec.upto tileSmallSpec)) tileSmallUptoCard

/-- THE SECOND FORM's CARD OF 'kinoralaw27.TileBack'. -/
def tileBackUptoCard : Claim7 := { stood := { row := tileBackUptoRow, standIns := [], harness := (true, "ade1ba1fafae0687af2b2e29212e9b2c0c17417836277d2e2bd8cd81dc73ad49"), looks := false }, kinds := [], alts := [], laidByText := true, laidKinds := [.data], laidTests := true, laidLooks := .later }
def TileBackUptoCardSaid : Prop := Claim7.holds Tryz.pinned (.plain (OpenSpec.upto tileBackSpec)) tileBackUptoCard

/-- THE SECOND FORM's CARD OF 'kinoralaw27.TileRow'. -/
def tileRowUptoCard : Claim7 := { stood := { row := tileRowUptoRow, standIns := [], harness := (true, "ade1ba1fafae0687af2b2e29212e9b2c0c17417836277d2e2bd8cd81dc73ad49"), looks := false }, kinds := [], alts := [], laidByText := true, laidKinds := [.data], laidTests := true, laidLooks := .later }
def TileRowUptoCardSaid : Prop := Claim7.holds Tryz.pinned (.plain (OpenSpec.upto tileRowSpec)) tileRowUptoCard
end Rows
end Go.Proofs.YtpkplhmdnjdmoaaGreatDoor
