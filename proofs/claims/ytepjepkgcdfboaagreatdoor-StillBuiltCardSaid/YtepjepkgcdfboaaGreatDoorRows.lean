/-
  NARROWER THAN 'FOR EVERY INPUT', by the rows' own cells (each row's printed sentence says how): StillBuilt: laid · StillBack: laid · StillTurned: laid · StillSmall: laid · FilmParts: laid · FilmBack: laid.
  DERIVED. THE GIVEN ROWS OF THIS SEAT. 6 by the template 'for every input the law returns true; each argument reads behind the call as it read before'; 0 by the template 'total and deterministic' (their statements: YtepjepkgcdfboaaGreatDoorTotals.lean).
  GIVEN WITH THE SEED: the statements are not yours to turn. If you find one false, say at which input.
  Laid BY PROGRAM, IN A SANDBOX (cutbox-rows.mjs): the forced cells as the released guide's own fill.sh prints them over the translation 9d14938612971bb0… (all of the seat's roots in one cut). By AI agents, Wed Nov 11 2026. No macro, syntax, notation, axiom, sorry.
-/
import Derived.Test.YtepjepkgcdfboaaGreatDoorChecked
import GoSem.Claim
import GoSem.ClaimJoined
import GoSem.ClaimMapViews
import Derived.JoinedTies
import Derived.KernelRfl
namespace Go.Proofs.YtepjepkgcdfboaaGreatDoor
/- THE CELL 'sum', in the pinned program and in every row, IS THE sha256 OF THE DUMP (.gsa) THAT YtepjepkgcdfboaaGreatDoorProg.lean LOADS. Nothing in Lean hashes anything: it is a label: what it is worth is what the hold of that sum in a sandbox is worth. -/
noncomputable def Tryz.pinned : Pinned := { name := "ytepjepkgcdfboaagreatdoor", sum := "9d14938612971bb045544b029b01ff653887852df1750ee4645623f1eca09a23", checked := Tryz.checked }
namespace Rows
def none {H : Type} : Left H := { results := [], args := [] }

/- WHAT THE LISTED PACKAGE-LEVEL VARIABLES READ AS WHEN THE CALL BEGINS. Each datum BY PROGRAM (the guide's laid-datum.mjs) off the statement by which the dump's own 'gosem.cut.vars' lays the variable. In a bare row this is a premise. The card (YtepjepkgcdfboaaGreatDoorCards.lean) ties it to the program's text. -/
def laid_kinora_match_points {H : Type} : DataW H := .agg [.agg [.lit (.int .i64 0), .lit (.int .i64 1)], .agg [.lit (.int .i64 1), .lit (.int .i64 0)], .agg [.lit (.int .i64 1), .lit (.int .i64 1)], .agg [.lit (.int .i64 (-1)), .lit (.int .i64 1)], .agg [.lit (.int .i64 0), .lit (.int .i64 2)], .agg [.lit (.int .i64 2), .lit (.int .i64 0)], .agg [.lit (.int .i64 1), .lit (.int .i64 2)], .agg [.lit (.int .i64 (-1)), .lit (.int .i64 2)], .agg [.lit (.int .i64 2), .lit (.int .i64 1)], .agg [.lit (.int .i64 (-2)), .lit (.int .i64 1)], .agg [.lit (.int .i64 2), .lit (.int .i64 2)], .agg [.lit (.int .i64 (-2)), .lit (.int .i64 2)], .agg [.lit (.int .i64 0), .lit (.int .i64 3)], .agg [.lit (.int .i64 3), .lit (.int .i64 0)], .agg [.lit (.int .i64 1), .lit (.int .i64 3)], .agg [.lit (.int .i64 (-1)), .lit (.int .i64 3)], .agg [.lit (.int .i64 3), .lit (.int .i64 1)], .agg [.lit (.int .i64 (-3)), .lit (.int .i64 1)], .agg [.lit (.int .i64 2), .lit (.int .i64 3)], .agg [.lit (.int .i64 (-2)), .lit (.int .i64 3)], .agg [.lit (.int .i64 3), .lit (.int .i64 2)], .agg [.lit (.int .i64 (-3)), .lit (.int .i64 2)], .agg [.lit (.int .i64 0), .lit (.int .i64 4)], .agg [.lit (.int .i64 4), .lit (.int .i64 0)]]

/-- 'kinoralaw28.StillBuilt': WHATEVER THE INPUT: true; the input reads as it did. -/
def stillBuiltSpec : ChangeSpec := { name := "stillBuilt", fn := fun _ => fun
  | [d1, d2] => { results := [.lit (.bool true)], args := [d1, d2] }
  | _ => none }
def stillBuiltRow : OpenClaim := { program := "ytepjepkgcdfboaagreatdoor", sum := "9d14938612971bb045544b029b01ff653887852df1750ee4645623f1eca09a23", func := "kinora/kinoralaw28.StillBuilt", spec := "stillBuilt", inPlace := ["internal/reflectlite.ValueOf", "internal/reflectlite.Swapper", "(internal/reflectlite.Value).Len"], unfollowed := true, recurses := true, named := ["kinora/match.points"], plainKeys := false, apart := false, laid := [("kinora/match.points", laid_kinora_match_points)] }
def StillBuiltSaid : Prop := stillBuiltRow.holds Tryz.pinned (OpenSpec.ofChange stillBuiltSpec)

/-- ITS FALSE NEIGHBOUR: 'it returns false'. Refute it at one input. -/
def stillBuiltWrong : ChangeSpec := { name := "stillBuilt", fn := fun _ => fun
  | [d1, d2] => { results := [.lit (.bool false)], args := [d1, d2] }
  | _ => none }
def StillBuiltWrongFalsely : Prop := stillBuiltRow.holds Tryz.pinned (OpenSpec.ofChange stillBuiltWrong)

/-- 'kinoralaw28.StillBack': WHATEVER THE INPUT: true; the input reads as it did. -/
def stillBackSpec : ChangeSpec := { name := "stillBack", fn := fun _ => fun
  | [d1, d2, d3, d4] => { results := [.lit (.bool true)], args := [d1, d2, d3, d4] }
  | _ => none }
def stillBackRow : OpenClaim := { program := "ytepjepkgcdfboaagreatdoor", sum := "9d14938612971bb045544b029b01ff653887852df1750ee4645623f1eca09a23", func := "kinora/kinoralaw28.StillBack", spec := "stillBack", inPlace := ["internal/reflectlite.ValueOf", "internal/reflectlite.Swapper", "(internal/reflectlite.Value).Len"], unfollowed := true, recurses := true, named := ["kinora/match.points"], plainKeys := false, apart := false, laid := [("kinora/match.points", laid_kinora_match_points)] }
def StillBackSaid : Prop := stillBackRow.holds Tryz.pinned (OpenSpec.ofChange stillBackSpec)

/-- ITS FALSE NEIGHBOUR: 'it returns false'. Refute it at one input. -/
def stillBackWrong : ChangeSpec := { name := "stillBack", fn := fun _ => fun
  | [d1, d2, d3, d4] => { results := [.lit (.bool false)], args := [d1, d2, d3, d4] }
  | _ => none }
def StillBackWrongFalsely : Prop := stillBackRow.holds Tryz.pinned (OpenSpec.ofChange stillBackWrong)

/-- 'kinoralaw28.StillTurned': WHATEVER THE INPUT: true; the input reads as it did. -/
def stillTurnedSpec : ChangeSpec := { name := "stillTurned", fn := fun _ => fun
  | [d1, d2, d3] => { results := [.lit (.bool true)], args := [d1, d2, d3] }
  | _ => none }
def stillTurnedRow : OpenClaim := { program := "ytepjepkgcdfboaagreatdoor", sum := "9d14938612971bb045544b029b01ff653887852df1750ee4645623f1eca09a23", func := "kinora/kinoralaw28.StillTurned", spec := "stillTurned", inPlace := ["internal/reflectlite.ValueOf", "internal/reflectlite.Swapper", "(internal/reflectlite.Value).Len"], unfollowed := true, recurses := true, named := ["kinora/match.points"], plainKeys := false, apart := false, laid := [("kinora/match.points", laid_kinora_match_points)] }
def StillTurnedSaid : Prop := stillTurnedRow.holds Tryz.pinned (OpenSpec.ofChange stillTurnedSpec)

/-- ITS FALSE NEIGHBOUR: 'it returns false'. Refute it at one input. -/
def stillTurnedWrong : ChangeSpec := { name := "stillTurned", fn := fun _ => fun
  | [d1, d2, d3] => { results := [.lit (.bool false)], args := [d1, d2, d3] }
  | _ => none }
def StillTurnedWrongFalsely : Prop := stillTurnedRow.holds Tryz.pinned (OpenSpec.ofChange stillTurnedWrong)

/-- 'kinoralaw28.StillSmall': WHATEVER THE INPUT: true; the input reads as it did. -/
def stillSmallSpec : ChangeSpec := { name := "stillSmall", fn := fun _ => fun
  | [d1, d2] => { results := [.lit (.bool true)], args := [d1, d2] }
  | _ => none }
def stillSmallRow : OpenClaim := { program := "ytepjepkgcdfboaagreatdoor", sum := "9d14938612971bb045544b029b01ff653887852df1750ee4645623f1eca09a23", func := "kinora/kinoralaw28.StillSmall", spec := "stillSmall", inPlace := ["internal/reflectlite.ValueOf", "internal/reflectlite.Swapper", "(internal/reflectlite.Value).Len"], unfollowed := true, recurses := true, named := ["kinora/match.points"], plainKeys := false, apart := false, laid := [("kinora/match.points", laid_kinora_match_points)] }
def StillSmallSaid : Prop := stillSmallRow.holds Tryz.pinned (OpenSpec.ofChange stillSmallSpec)

/-- ITS FALSE NEIGHBOUR: 'it returns false'. Refute it at one input. -/
def stillSmallWrong : ChangeSpec := { name := "stillSmall", fn := fun _ => fun
  | [d1, d2] => { results := [.lit (.bool false)], args := [d1, d2] }
  | _ => none }
def StillSmallWrongFalsely : Prop := stillSmallRow.holds Tryz.pinned (OpenSpec.ofChange stillSmallWrong)

/-- 'kinoralaw30.FilmParts': WHATEVER THE INPUT: true; the input reads as it did. -/
def filmPartsSpec : ChangeSpec := { name := "filmParts", fn := fun _ => fun
  | [d1, d2] => { results := [.lit (.bool true)], args := [d1, d2] }
  | _ => none }
def filmPartsRow : OpenClaim := { program := "ytepjepkgcdfboaagreatdoor", sum := "9d14938612971bb045544b029b01ff653887852df1750ee4645623f1eca09a23", func := "kinora/kinoralaw30.FilmParts", spec := "filmParts", inPlace := ["internal/reflectlite.ValueOf", "internal/reflectlite.Swapper", "(internal/reflectlite.Value).Len"], unfollowed := true, recurses := true, named := ["kinora/match.points"], plainKeys := false, apart := false, laid := [("kinora/match.points", laid_kinora_match_points)] }
def FilmPartsSaid : Prop := filmPartsRow.holds Tryz.pinned (OpenSpec.ofChange filmPartsSpec)

/-- ITS FALSE NEIGHBOUR: 'it returns false'. Refute it at one input. -/
def filmPartsWrong : ChangeSpec := { name := "filmParts", fn := fun _ => fun
  | [d1, d2] => { results := [.lit (.bool false)], args := [d1, d2] }
  | _ => none }
def FilmPartsWrongFalsely : Prop := filmPartsRow.holds Tryz.pinned (OpenSpec.ofChange filmPartsWrong)

/-- 'kinoralaw30.FilmBack': WHATEVER THE INPUT: true; the input reads as it did. -/
def filmBackSpec : ChangeSpec := { name := "filmBack", fn := fun _ => fun
  | [d1, d2] => { results := [.lit (.bool true)], args := [d1, d2] }
  | _ => none }
def filmBackRow : OpenClaim := { program := "ytepjepkgcdfboaagreatdoor", sum := "9d14938612971bb045544b029b01ff653887852df1750ee4645623f1eca09a23", func := "kinora/kinoralaw30.FilmBack", spec := "filmBack", inPlace := ["internal/reflectlite.ValueOf", "internal/reflectlite.Swapper", "(internal/reflectlite.Value).Len"], unfollowed := true, recurses := true, named := ["kinora/match.points"], plainKeys := false, apart := false, laid := [("kinora/match.points", laid_kinora_match_points)] }
def FilmBackSaid : Prop := filmBackRow.holds Tryz.pinned (OpenSpec.ofChange filmBackSpec)

/-- ITS FALSE NEIGHBOUR: 'it returns false'. Refute it at one input. -/
def filmBackWrong : ChangeSpec := { name := "filmBack", fn := fun _ => fun
  | [d1, d2] => { results := [.lit (.bool false)], args := [d1, d2] }
  | _ => none }
def FilmBackWrongFalsely : Prop := filmBackRow.holds Tryz.pinned (OpenSpec.ofChange filmBackWrong)

/- THE SECOND FORM. 'bulk': how many values and letters a reading holds, each counted each time it is reached (what is shared counts as often as it is met; a slice's spare places count too). A statement '..UptoSaid' is the law's where the arguments, and the package variables that the reading takes, are together of bulk at most 1048576: NARROWER than '..Said'. Prove '..Said' where nothing that the law and all that it calls make is longer than what came in: it says more and counts as full. Else prove '..UptoSaid'. A law counts once. -/
mutual
def uptoBulk {H : Type} : DataW H → Nat
  | .lit (.string bytes) => bytes.length + 1
  | .lit _ => 1
  | .nil => 1
  | .ptr d => uptoBulk d + 1
  | .slice elems spare => uptoBulkAll elems + uptoBulkAll spare + 1
  | .agg parts => uptoBulkAll parts + 1
  | .iface _ d => uptoBulk d + 1
  | .map entries => uptoBulkEntries entries + 1
  | .held _ => 1
def uptoBulkAll {H : Type} : List (DataW H) → Nat
  | [] => 0
  | d :: r => uptoBulk d + uptoBulkAll r
def uptoBulkEntries {H : Type} : List (Lit × DataW H) → Nat
  | [] => 0
  | x :: r => uptoBulkEntry x + uptoBulkEntries r
def uptoBulkEntry {H : Type} : Lit × DataW H → Nat
  | (.string bytes, d) => bytes.length + uptoBulk d + 1
  | (_, d) => uptoBulk d + 1
 end
def uptoSmall : (H : Type) → List (DataW H) → Bool := fun _ ds => decide (uptoBulkAll ds ≤ 1048576)
def OpenSpec.upto (s : _root_.Go.ChangeSpec) : _root_.Go.OpenSpec := { _root_.Go.OpenSpec.ofChange s with cond := some uptoSmall }

/-- 'kinoralaw28.StillBuilt', WHERE WHAT IT READS IS OF BULK AT MOST 1048576: true; the input reads as it did. -/
def stillBuiltUptoRow : OpenClaim := { program := "ytepjepkgcdfboaagreatdoor", sum := "9d14938612971bb045544b029b01ff653887852df1750ee4645623f1eca09a23", func := "kinora/kinoralaw28.StillBuilt", spec := "stillBuilt", inPlace := ["internal/reflectlite.ValueOf", "internal/reflectlite.Swapper", "(internal/reflectlite.Value).Len"], unfollowed := true, recurses := true, named := ["kinora/match.points"], plainKeys := false, apart := false, laid := [("kinora/match.points", laid_kinora_match_points)], narrowed := true }
def StillBuiltUptoSaid : Prop := stillBuiltUptoRow.holds Tryz.pinned (OpenSpec.upto stillBuiltSpec)

/-- 'kinoralaw28.StillBack', WHERE WHAT IT READS IS OF BULK AT MOST 1048576: true; the input reads as it did. -/
def stillBackUptoRow : OpenClaim := { program := "ytepjepkgcdfboaagreatdoor", sum := "9d14938612971bb045544b029b01ff653887852df1750ee4645623f1eca09a23", func := "kinora/kinoralaw28.StillBack", spec := "stillBack", inPlace := ["internal/reflectlite.ValueOf", "internal/reflectlite.Swapper", "(internal/reflectlite.Value).Len"], unfollowed := true, recurses := true, named := ["kinora/match.points"], plainKeys := false, apart := false, laid := [("kinora/match.points", laid_kinora_match_points)], narrowed := true }
def StillBackUptoSaid : Prop := stillBackUptoRow.holds Tryz.pinned (OpenSpec.upto stillBackSpec)

/-- 'kinoralaw28.StillTurned', WHERE WHAT IT READS IS OF BULK AT MOST 1048576: true; the input reads as it did. -/
def stillTurnedUptoRow : OpenClaim := { program := "ytepjepkgcdfboaagreatdoor", sum := "9d14938612971bb045544b029b01ff653887852df1750ee4645623f1eca09a23", func := "kinora/kinoralaw28.StillTurned", spec := "stillTurned", inPlace := ["internal/reflectlite.ValueOf", "internal/reflectlite.Swapper", "(internal/reflectlite.Value).Len"], unfollowed := true, recurses := true, named := ["kinora/match.points"], plainKeys := false, apart := false, laid := [("kinora/match.points", laid_kinora_match_points)], narrowed := true }
def StillTurnedUptoSaid : Prop := stillTurnedUptoRow.holds Tryz.pinned (OpenSpec.upto stillTurnedSpec)

/-- 'kinoralaw28.StillSmall', WHERE WHAT IT READS IS OF BULK AT MOST 1048576: true; the input reads as it did. -/
def stillSmallUptoRow : OpenClaim := { program := "ytepjepkgcdfboaagreatdoor", sum := "9d14938612971bb045544b029b01ff653887852df1750ee4645623f1eca09a23", func := "kinora/kinoralaw28.StillSmall", spec := "stillSmall", inPlace := ["internal/reflectlite.ValueOf", "internal/reflectlite.Swapper", "(internal/reflectlite.Value).Len"], unfollowed := true, recurses := true, named := ["kinora/match.points"], plainKeys := false, apart := false, laid := [("kinora/match.points", laid_kinora_match_points)], narrowed := true }
def StillSmallUptoSaid : Prop := stillSmallUptoRow.holds Tryz.pinned (OpenSpec.upto stillSmallSpec)

/-- 'kinoralaw30.FilmParts', WHERE WHAT IT READS IS OF BULK AT MOST 1048576: true; the input reads as it did. -/
def filmPartsUptoRow : OpenClaim := { program := "ytepjepkgcdfboaagreatdoor", sum := "9d14938612971bb045544b029b01ff653887852df1750ee4645623f1eca09a23", func := "kinora/kinoralaw30.FilmParts", spec := "filmParts", inPlace := ["internal/reflectlite.ValueOf", "internal/reflectlite.Swapper", "(internal/reflectlite.Value).Len"], unfollowed := true, recurses := true, named := ["kinora/match.points"], plainKeys := false, apart := false, laid := [("kinora/match.points", laid_kinora_match_points)], narrowed := true }
def FilmPartsUptoSaid : Prop := filmPartsUptoRow.holds Tryz.pinned (OpenSpec.upto filmPartsSpec)

/-- 'kinoralaw30.FilmBack', WHERE WHAT IT READS IS OF BULK AT MOST 1048576: true; the input reads as it did. -/
def filmBackUptoRow : OpenClaim := { program := "ytepjepkgcdfboaagreatdoor", sum := "9d14938612971bb045544b029b01ff653887852df1750ee4645623f1eca09a23", func := "kinora/kinoralaw30.FilmBack", spec := "filmBack", inPlace := ["internal/reflectlite.ValueOf", "internal/reflectlite.Swapper", "(internal/reflectlite.Value).Len"], unfollowed := true, recurses := true, named := ["kinora/match.points"], plainKeys := false, apart := false, laid := [("kinora/match.points", laid_kinora_match_points)], narrowed := true }
def FilmBackUptoSaid : Prop := filmBackUptoRow.holds Tryz.pinned (OpenSpec.upto filmBackSpec)

end Rows
end Go.Proofs.YtepjepkgcdfboaaGreatDoor
