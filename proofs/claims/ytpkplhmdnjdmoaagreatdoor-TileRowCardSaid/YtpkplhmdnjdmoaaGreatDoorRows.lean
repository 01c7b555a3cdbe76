/-
  NARROWER THAN 'FOR EVERY INPUT', by the rows' own cells (each row's printed sentence says how): TileGrids: laid · TileBuilt: laid · TileSmall: laid · TileBack: laid · TileRow: laid.
  DERIVED. THE GIVEN ROWS OF THIS SEAT. 5 by the template 'for every input the law returns true; each argument reads behind the call as it read before'; 0 by the template 'total and deterministic' (their statements: YtpkplhmdnjdmoaaGreatDoorTotals.lean).
  GIVEN WITH THE SEED: the statements are not yours to turn. If you find one false, say at which input.
  Laid BY PROGRAM, IN A SANDBOX (cutbox-rows.mjs): the forced cells as the released guide's own fill.sh prints them over the translation f649b8e79a64de6b… (all of the seat's roots in one cut). By AI agents, Wed Nov 11 2026. No macro, syntax, notation, axiom, sorry.
-/
import Derived.Test.YtpkplhmdnjdmoaaGreatDoorChecked
import GoSem.Claim
import GoSem.ClaimJoined
import GoSem.ClaimMapViews
import Derived.JoinedTies
import Derived.KernelRfl
namespace Go.Proofs.YtpkplhmdnjdmoaaGreatDoor
/- THE CELL 'sum', in the pinned program and in every row, IS THE sha256 OF THE DUMP (.gsa) THAT YtpkplhmdnjdmoaaGreatDoorProg.lean LOADS. Nothing in Lean hashes anything: it is a label: what it is worth is what the hold of that sum in a sandbox is worth. -/
noncomputable def Tryz.pinned : Pinned := { name := "ytpkplhmdnjdmoaagreatdoor", sum := "f649b8e79a64de6b0a0f2968deedf39ccdbdc82b396a689a96e19aeaf4c339d5", checked := Tryz.checked }
namespace Rows
def none {H : Type} : Left H := { results := [], args := [] }

/- WHAT THE LISTED PACKAGE-LEVEL VARIABLES READ AS WHEN THE CALL BEGINS. Each datum BY PROGRAM (the guide's laid-datum.mjs) off the statement by which the dump's own 'gosem.cut.vars' lays the variable. In a bare row this is a premise. The card (YtpkplhmdnjdmoaaGreatDoorCards.lean) ties it to the program's text. -/
def laid_kinora_match_points {H : Type} : DataW H := .agg [.agg [.lit (.int .i64 0), .lit (.int .i64 1)], .agg [.lit (.int .i64 1), .lit (.int .i64 0)], .agg [.lit (.int .i64 1), .lit (.int .i64 1)], .agg [.lit (.int .i64 (-1)), .lit (.int .i64 1)], .agg [.lit (.int .i64 0), .lit (.int .i64 2)], .agg [.lit (.int .i64 2), .lit (.int .i64 0)], .agg [.lit (.int .i64 1), .lit (.int .i64 2)], .agg [.lit (.int .i64 (-1)), .lit (.int .i64 2)], .agg [.lit (.int .i64 2), .lit (.int .i64 1)], .agg [.lit (.int .i64 (-2)), .lit (.int .i64 1)], .agg [.lit (.int .i64 2), .lit (.int .i64 2)], .agg [.lit (.int .i64 (-2)), .lit (.int .i64 2)], .agg [.lit (.int .i64 0), .lit (.int .i64 3)], .agg [.lit (.int .i64 3), .lit (.int .i64 0)], .agg [.lit (.int .i64 1), .lit (.int .i64 3)], .agg [.lit (.int .i64 (-1)), .lit (.int .i64 3)], .agg [.lit (.int .i64 3), .lit (.int .i64 1)], .agg [.lit (.int .i64 (-3)), .lit (.int .i64 1)], .agg [.lit (.int .i64 2), .lit (.int .i64 3)], .agg [.lit (.int .i64 (-2)), .lit (.int .i64 3)], .agg [.lit (.int .i64 3), .lit (.int .i64 2)], .agg [.lit (.int .i64 (-3)), .lit (.int .i64 2)], .agg [.lit (.int .i64 0), .lit (.int .i64 4)], .agg [.lit (.int .i64 4), .lit (.int .i64 0)]]

/-- 'kinoralaw27.TileGrids': WHATEVER THE INPUT: true; the input reads as it did. -/
def tileGridsSpec : ChangeSpec := { name := "tileGrids", fn := fun _ => fun
  | [d1, d2, d3] => { results := [.lit (.bool true)], args := [d1, d2, d3] }
  | _ => none }
def tileGridsRow : OpenClaim := { program := "ytpkplhmdnjdmoaagreatdoor", sum := "f649b8e79a64de6b0a0f2968deedf39ccdbdc82b396a689a96e19aeaf4c339d5", func := "kinora/kinoralaw27.TileGrids", spec := "tileGrids", inPlace := ["internal/reflectlite.ValueOf", "internal/reflectlite.Swapper", "(internal/reflectlite.Value).Len"], unfollowed := true, recurses := true, named := ["kinora/match.points"], apart := false, laid := [("kinora/match.points", laid_kinora_match_points)] }
def TileGridsSaid : Prop := tileGridsRow.holds Tryz.pinned (OpenSpec.ofChange tileGridsSpec)

/-- ITS FALSE NEIGHBOUR: 'it returns false'. Refute it at one input. -/
def tileGridsWrong : ChangeSpec := { name := "tileGrids", fn := fun _ => fun
  | [d1, d2, d3] => { results := [.lit (.bool false)], args := [d1, d2, d3] }
  | _ => none }
def TileGridsWrongFalsely : Prop := tileGridsRow.holds Tryz.pinned (OpenSpec.ofChange tileGridsWrong)

/-- 'kinoralaw27.TileBuilt': WHATEVER THE INPUT: true; the input reads as it did. -/
def tileBuiltSpec : ChangeSpec := { name := "tileBuilt", fn := fun _ => fun
  | [d] => { results := [.lit (.bool true)], args := [d] }
  | _ => none }
def tileBuiltRow : OpenClaim := { program := "ytpkplhmdnjdmoaagreatdoor", sum := "f649b8e79a64de6b0a0f2968deedf39ccdbdc82b396a689a96e19aeaf4c339d5", func := "kinora/kinoralaw27.TileBuilt", spec := "tileBuilt", inPlace := ["internal/reflectlite.ValueOf", "internal/reflectlite.Swapper", "(internal/reflectlite.Value).Len"], unfollowed := true, recurses := true, named := ["kinora/match.points"], apart := false, laid := [("kinora/match.points", laid_kinora_match_points)] }
def TileBuiltSaid : Prop := tileBuiltRow.holds Tryz.pinned (OpenSpec.ofChange tileBuiltSpec)

/-- ITS FALSE NEIGHBOUR: 'it returns false'. Refute it at one input. -/
def tileBuiltWrong : ChangeSpec := { name := "tileBuilt", fn := fun _ => fun
  | [d] => { results := [.lit (.bool false)], args := [d] }
  | _ => none }
def TileBuiltWrongFalsely : Prop := tileBuiltRow.holds Tryz.pinned (OpenSpec.ofChange tileBuiltWrong)

/-- 'kinoralaw27.TileSmall': WHATEVER THE INPUT: true; the input reads as it did. -/
def tileSmallSpec : ChangeSpec := { name := "tileSmall", fn := fun _ => fun
  | [d1, d2] => { results := [.lit (.bool true)], args := [d1, d2] }
  | _ => none }
def tileSmallRow : OpenClaim := { program := "ytpkplhmdnjdmoaagreatdoor", sum := "f649b8e79a64de6b0a0f2968deedf39ccdbdc82b396a689a96e19aeaf4c339d5", func := "kinora/kinoralaw27.TileSmall", spec := "tileSmall", inPlace := ["internal/reflectlite.ValueOf", "internal/reflectlite.Swapper", "(internal/reflectlite.Value).Len"], unfollowed := true, recurses := true, named := ["kinora/match.points"], apart := false, laid := [("kinora/match.points", laid_kinora_match_points)] }
def TileSmallSaid : Prop := tileSmallRow.holds Tryz.pinned (OpenSpec.ofChange tileSmallSpec)

/-- ITS FALSE NEIGHBOUR: 'it returns false'. Refute it at one input. -/
def tileSmallWrong : ChangeSpec := { name := "tileSmall", fn := fun _ => fun
  | [d1, d2] => { results := [.lit (.bool false)], args := [d1, d2] }
  | _ => none }
def TileSmallWrongFalsely : Prop := tileSmallRow.holds Tryz.pinned (OpenSpec.ofChange tileSmallWrong)

/-- 'kinoralaw27.TileBack': WHATEVER THE INPUT: true; the input reads as it did. -/
def tileBackSpec : ChangeSpec := { name := "tileBack", fn := fun _ => fun
  | [d] => { results := [.lit (.bool true)], args := [d] }
  | _ => none }
def tileBackRow : OpenClaim := { program := "ytpkplhmdnjdmoaagreatdoor", sum := "f649b8e79a64de6b0a0f2968deedf39ccdbdc82b396a689a96e19aeaf4c339d5", func := "kinora/kinoralaw27.TileBack", spec := "tileBack", inPlace := ["internal/reflectlite.ValueOf", "internal/reflectlite.Swapper", "(internal/reflectlite.Value).Len"], unfollowed := true, recurses := true, named := ["kinora/match.points"], apart := false, laid := [("kinora/match.points", laid_kinora_match_points)] }
def TileBackSaid : Prop := tileBackRow.holds Tryz.pinned (OpenSpec.ofChange tileBackSpec)

/-- ITS FALSE NEIGHBOUR: 'it returns false'. Refute it at one input. -/
def tileBackWrong : ChangeSpec := { name := "tileBack", fn := fun _ => fun
  | [d] => { results := [.lit (.bool false)], args := [d] }
  | _ => none }
def TileBackWrongFalsely : Prop := tileBackRow.holds Tryz.pinned (OpenSpec.ofChange tileBackWrong)

/-- 'kinoralaw27.TileRow': WHATEVER THE INPUT: true; the input reads as it did. -/
def tileRowSpec : ChangeSpec := { name := "tileRow", fn := fun _ => fun
  | [d1, d2] => { results := [.lit (.bool true)], args := [d1, d2] }
  | _ => none }
def tileRowRow : OpenClaim := { program := "ytpkplhmdnjdmoaagreatdoor", sum := "f649b8e79a64de6b0a0f2968deedf39ccdbdc82b396a689a96e19aeaf4c339d5", func := "kinora/kinoralaw27.TileRow", spec := "tileRow", inPlace := ["internal/reflectlite.ValueOf", "internal/reflectlite.Swapper", "(internal/reflectlite.Value).Len"], unfollowed := true, recurses := true, named := ["kinora/match.points"], apart := false, laid := [("kinora/match.points", laid_kinora_match_points)] }
def TileRowSaid : Prop := tileRowRow.holds Tryz.pinned (OpenSpec.ofChange tileRowSpec)

/-- ITS FALSE NEIGHBOUR: 'it returns false'. Refute it at one input. -/
def tileRowWrong : ChangeSpec := { name := "tileRow", fn := fun _ => fun
  | [d1, d2] => { results := [.lit (.bool false)], args := [d1, d2] }
  | _ => none }
def TileRowWrongFalsely : Prop := tileRowRow.holds Tryz.pinned (OpenSpec.ofChange tileRowWrong)

/- THE SECOND FORM. 'bulk': how many values and letters a reading holds, each counted each time it is reached (what is shared counts as often as it is met; a slice's spare places count too). A statement '..UptoSaid' is the law's where the arguments, and the package variables that the reading takes, are together of bulk at most 1048576: NARROWER than '..Said'. Prove '..Said' where nothing that the law and all that it calls make is longer than what came in: it says more and counts as full. Else prove '..UptoSaid'. A law counts once. -/
mutual
def uptoBulk {H : Type} : DataW H → Nat
  | .lit (.string bytes) => bytes.length + 1
  | .lit _ => 1
  | .nil => 1
  | .ptr d => uptoBulk d + 1
  | .slice elems spare => uptoBulkAll elems + uptoBulkAll spare + 1
  | .agg parts => uptoBulkAll parts + 1
  | .iface _ d => uptoBulk d + 1
  | .map entries => uptoBulkEntries entries + 1
  | .held _ => 1
def uptoBulkAll {H : Type} : List (DataW H) → Nat
  | [] => 0
  | d :: r => uptoBulk d + uptoBulkAll r
def uptoBulkEntries {H : Type} : List (Lit × DataW H) → Nat
  | [] => 0
  | x :: r => uptoBulkEntry x + uptoBulkEntries r
def uptoBulkEntry {H : Type} : Lit × DataW H → Nat
  | (.string bytes, d) => bytes.length + uptoBulk d + 1
  | (_, d) => uptoBulk d + 1
 end
def uptoSmall : (H : Type) → List (DataW H) → Bool := fun _ ds => decide (uptoBulkAll ds ≤ 1048576)
def OpenSpec.upto (s : _root_.Go.ChangeSpec) : _root_.Go.OpenSpec := { _root_.Go.OpenSpec.ofChange s with cond := some uptoSmall }

/-- 'kinoralaw27.TileGrids', WHERE WHAT IT READS IS OF BULK AT MOST 1048576: true; the input reads as it did. -/
def tileGridsUptoRow : OpenClaim := { program := "ytpkplhmdnjdmoaagreatdoor", sum := "f649b8e79a64de6b0a0f2968deedf39ccdbdc82b396a689a96e19aeaf4c339d5", func := "kinora/kinoralaw27.TileGrids", spec := "tileGrids", inPlace := ["internal/reflectlite.ValueOf", "internal/reflectlite.Swapper", "(internal/reflectlite.Value).Len"], unfollowed := true, recurses := true, named := ["kinora/match.points"], apart := false, laid := [("kinora/match.points", laid_kinora_match_points)], narrowed := true }
def TileGridsUptoSaid : Prop := tileGridsUptoRow.holds Tryz.pinned (OpenSpec.upto tileGridsSpec)

/-- 'kinoralaw27.TileBuilt', WHERE WHAT IT READS IS OF BULK AT MOST 1048576: true; the input reads as it did. -/
def tileBuiltUptoRow : OpenClaim := { program := "ytpkplhmdnjdmoaagreatdoor", sum := "f649b8e79a64de6b0a0f2968deedf39ccdbdc82b396a689a96e19aeaf4c339d5", func := "kinora/kinoralaw27.TileBuilt", spec := "tileBuilt", inPlace := ["internal/reflectlite.ValueOf", "internal/reflectlite.Swapper", "(internal/reflectlite.Value).Len"], unfollowed := true, recurses := true, named := ["kinora/match.points"], apart := false, laid := [("kinora/match.points", laid_kinora_match_points)], narrowed := true }
def TileBuiltUptoSaid : Prop := tileBuiltUptoRow.holds Tryz.pinned (OpenSpec.upto tileBuiltSpec)

/-- 'kinoralaw27.TileSmall', WHERE WHAT IT READS IS OF BULK AT MOST 1048576: true; the input reads as it did. -/
def tileSmallUptoRow : OpenClaim := { program := "ytpkplhmdnjdmoaagreatdoor", sum := "f649b8e79a64de6b0a0f2968deedf39ccdbdc82b396a689a96e19aeaf4c339d5", func := "kinora/kinoralaw27.TileSmall", spec := "tileSmall", inPlace := ["internal/reflectlite.ValueOf", "internal/reflectlite.Swapper", "(internal/reflectlite.Value).Len"], unfollowed := true, recurses := true, named := ["kinora/match.points"], apart := false, laid := [("kinora/match.points", laid_kinora_match_points)], narrowed := true }
def TileSmallUptoSaid : Prop := tileSmallUptoRow.holds Tryz.pinned (OpenSpec.upto tileSmallSpec)

/-- 'kinoralaw27.TileBack', WHERE WHAT IT READS IS OF BULK AT MOST 1048576: true; the input reads as it did. -/
def tileBackUptoRow : OpenClaim := { program := "ytpkplhmdnjdmoaagreatdoor", sum := "f649b8e79a64de6b0a0f2968deedf39ccdbdc82b396a689a96e19aeaf4c339d5", func := "kinora/kinoralaw27.TileBack", spec := "tileBack", inPlace := ["internal/reflectlite.ValueOf", "internal/reflectlite.Swapper", "(internal/reflectlite.Value).Len"], unfollowed := true, recurses := true, named := ["kinora/match.points"], apart := false, laid := [("kinora/match.points", laid_kinora_match_points)], narrowed := true }
def TileBackUptoSaid : Prop := tileBackUptoRow.holds Tryz.pinned (OpenSpec.upto tileBackSpec)

/-- 'kinoralaw27.TileRow', WHERE WHAT IT READS IS OF BULK AT MOST 1048576: true; the input reads as it did. -/
def tileRowUptoRow : OpenClaim := { program := "ytpkplhmdnjdmoaagreatdoor", sum := "f649b8e79a64de6b0a0f2968deedf39ccdbdc82b396a689a96e19aeaf4c339d5", func := "kinora/kinoralaw27.TileRow", spec := "tileRow", inPlace := ["internal/reflectlite.ValueOf", "internal/reflectlite.Swapper", "(internal/reflectlite.Value).Len"], unfollowed := true, recurses := true, named := ["kinora/match.points"], apart := false, laid := [("kinora/match.points", laid_kinora_match_points)], narrowed := true }
def TileRowUptoSaid : Prop := tileRowUptoRow.holds Tryz.pinned (OpenSpec.upto tileRowSpec)

end Rows
end Go.Proofs.YtpkplhmdnjdmoaaGreatDoor
