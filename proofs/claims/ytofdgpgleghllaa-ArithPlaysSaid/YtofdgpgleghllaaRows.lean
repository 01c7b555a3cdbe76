/-
  No cell of these rows narrows 'for every input' (looked for: loops, veiled, ifaces, maps, wideKeys, modest, calm, conditions, laid).
  DERIVED. THE GIVEN ROWS OF THIS SEAT. 7 by the template 'for every input the law returns true; each argument reads behind the call as it read before'; 0 by the template 'total and deterministic' (their statements: YtofdgpgleghllaaTotals.lean).
  GIVEN WITH THE SEED: the statements are not yours to turn. If you find one false, say at which input.
  Laid BY PROGRAM, IN A SANDBOX (cutbox-rows.mjs): the forced cells as the released guide's own fill.sh prints them over the translation 488dcb98f0bcfeb0… (all of the seat's roots in one cut). By AI agents, Wed Nov 11 2026. No macro, syntax, notation, axiom, sorry.
-/
import Derived.Test.YtofdgpgleghllaaChecked
import GoSem.Claim
import GoSem.ClaimJoined
import GoSem.ClaimMapViews
import Derived.JoinedTies
import Derived.KernelRfl
namespace Go.Proofs.Ytofdgpgleghllaa
/- THE CELL 'sum', in the pinned program and in every row, IS THE sha256 OF THE DUMP (.gsa) THAT YtofdgpgleghllaaProg.lean LOADS. Nothing in Lean hashes anything: it is a label: what it is worth is what the hold of that sum in a sandbox is worth. -/
noncomputable def Try.pinned : Pinned := { name := "ytofdgpgleghllaa", sum := "488dcb98f0bcfeb0ad6e4bd29c2cd9ca2a03c92ec1758ebb383704f24e467582", checked := Try.checked }
namespace Rows
def none {H : Type} : Left H := { results := [], args := [] }

/-- 'kinoralaw8.ArithPlays': WHATEVER THE INPUT: true; the input reads as it did. -/
def arithPlaysSpec : ChangeSpec := { name := "arithPlays", fn := fun _ => fun
  | [d1, d2, d3] => { results := [.lit (.bool true)], args := [d1, d2, d3] }
  | _ => none }
def arithPlaysRow : OpenClaim := { program := "ytofdgpgleghllaa", sum := "488dcb98f0bcfeb0ad6e4bd29c2cd9ca2a03c92ec1758ebb383704f24e467582", func := "kinora/kinoralaw8.ArithPlays", spec := "arithPlays", apart := false }
def ArithPlaysSaid : Prop := arithPlaysRow.holds Try.pinned (OpenSpec.ofChange arithPlaysSpec)

/-- ITS FALSE NEIGHBOUR: 'it returns false'. Refute it at one input. -/
def arithPlaysWrong : ChangeSpec := { name := "arithPlays", fn := fun _ => fun
  | [d1, d2, d3] => { results := [.lit (.bool false)], args := [d1, d2, d3] }
  | _ => none }
def ArithPlaysWrongFalsely : Prop := arithPlaysRow.holds Try.pinned (OpenSpec.ofChange arithPlaysWrong)

/-- 'kinoralaw8.ArithBack': WHATEVER THE INPUT: true; the input reads as it did. -/
def arithBackSpec : ChangeSpec := { name := "arithBack", fn := fun _ => fun
  | [d1, d2] => { results := [.lit (.bool true)], args := [d1, d2] }
  | _ => none }
def arithBackRow : OpenClaim := { program := "ytofdgpgleghllaa", sum := "488dcb98f0bcfeb0ad6e4bd29c2cd9ca2a03c92ec1758ebb383704f24e467582", func := "kinora/kinoralaw8.ArithBack", spec := "arithBack", apart := false }
def ArithBackSaid : Prop := arithBackRow.holds Try.pinned (OpenSpec.ofChange arithBackSpec)

/-- ITS FALSE NEIGHBOUR: 'it returns false'. Refute it at one input. -/
def arithBackWrong : ChangeSpec := { name := "arithBack", fn := fun _ => fun
  | [d1, d2] => { results := [.lit (.bool false)], args := [d1, d2] }
  | _ => none }
def ArithBackWrongFalsely : Prop := arithBackRow.holds Try.pinned (OpenSpec.ofChange arithBackWrong)

/-- 'kinoralaw8.ArithGrows': WHATEVER THE INPUT: true; the input reads as it did. -/
def arithGrowsSpec : ChangeSpec := { name := "arithGrows", fn := fun _ => fun
  | [d1, d2, d3] => { results := [.lit (.bool true)], args := [d1, d2, d3] }
  | _ => none }
def arithGrowsRow : OpenClaim := { program := "ytofdgpgleghllaa", sum := "488dcb98f0bcfeb0ad6e4bd29c2cd9ca2a03c92ec1758ebb383704f24e467582", func := "kinora/kinoralaw8.ArithGrows", spec := "arithGrows", apart := false }
def ArithGrowsSaid : Prop := arithGrowsRow.holds Try.pinned (OpenSpec.ofChange arithGrowsSpec)

/-- ITS FALSE NEIGHBOUR: 'it returns false'. Refute it at one input. -/
def arithGrowsWrong : ChangeSpec := { name := "arithGrows", fn := fun _ => fun
  | [d1, d2, d3] => { results := [.lit (.bool false)], args := [d1, d2, d3] }
  | _ => none }
def ArithGrowsWrongFalsely : Prop := arithGrowsRow.holds Try.pinned (OpenSpec.ofChange arithGrowsWrong)

/-- 'kinoralaw8.ArithOdds': WHATEVER THE INPUT: true; the input reads as it did. -/
def arithOddsSpec : ChangeSpec := { name := "arithOdds", fn := fun _ => fun
  | [d1, d2] => { results := [.lit (.bool true)], args := [d1, d2] }
  | _ => none }
def arithOddsRow : OpenClaim := { program := "ytofdgpgleghllaa", sum := "488dcb98f0bcfeb0ad6e4bd29c2cd9ca2a03c92ec1758ebb383704f24e467582", func := "kinora/kinoralaw8.ArithOdds", spec := "arithOdds", apart := false }
def ArithOddsSaid : Prop := arithOddsRow.holds Try.pinned (OpenSpec.ofChange arithOddsSpec)

/-- ITS FALSE NEIGHBOUR: 'it returns false'. Refute it at one input. -/
def arithOddsWrong : ChangeSpec := { name := "arithOdds", fn := fun _ => fun
  | [d1, d2] => { results := [.lit (.bool false)], args := [d1, d2] }
  | _ => none }
def ArithOddsWrongFalsely : Prop := arithOddsRow.holds Try.pinned (OpenSpec.ofChange arithOddsWrong)

/-- 'kinoralaw8.ArithNumbers': WHATEVER THE INPUT: true; the input reads as it did. -/
def arithNumbersSpec : ChangeSpec := { name := "arithNumbers", fn := fun _ => fun
  | [d1, d2] => { results := [.lit (.bool true)], args := [d1, d2] }
  | _ => none }
def arithNumbersRow : OpenClaim := { program := "ytofdgpgleghllaa", sum := "488dcb98f0bcfeb0ad6e4bd29c2cd9ca2a03c92ec1758ebb383704f24e467582", func := "kinora/kinoralaw8.ArithNumbers", spec := "arithNumbers", apart := false }
def ArithNumbersSaid : Prop := arithNumbersRow.holds Try.pinned (OpenSpec.ofChange arithNumbersSpec)

/-- ITS FALSE NEIGHBOUR: 'it returns false'. Refute it at one input. -/
def arithNumbersWrong : ChangeSpec := { name := "arithNumbers", fn := fun _ => fun
  | [d1, d2] => { results := [.lit (.bool false)], args := [d1, d2] }
  | _ => none }
def ArithNumbersWrongFalsely : Prop := arithNumbersRow.holds Try.pinned (OpenSpec.ofChange arithNumbersWrong)

/-- 'kinoralaw8.ArithCut': WHATEVER THE INPUT: true; the input reads as it did. -/
def arithCutSpec : ChangeSpec := { name := "arithCut", fn := fun _ => fun
  | [d1, d2] => { results := [.lit (.bool true)], args := [d1, d2] }
  | _ => none }
def arithCutRow : OpenClaim := { program := "ytofdgpgleghllaa", sum := "488dcb98f0bcfeb0ad6e4bd29c2cd9ca2a03c92ec1758ebb383704f24e467582", func := "kinora/kinoralaw8.ArithCut", spec := "arithCut", apart := false }
def ArithCutSaid : Prop := arithCutRow.holds Try.pinned (OpenSpec.ofChange arithCutSpec)

/-- ITS FALSE NEIGHBOUR: 'it returns false'. Refute it at one input. -/
def arithCutWrong : ChangeSpec := { name := "arithCut", fn := fun _ => fun
  | [d1, d2] => { results := [.lit (.bool false)], args := [d1, d2] }
  | _ => none }
def ArithCutWrongFalsely : Prop := arithCutRow.holds Try.pinned (OpenSpec.ofChange arithCutWrong)

/-- 'kinoralaw8.ArithRoom': WHATEVER THE INPUT: true; the input reads as it did. -/
def arithRoomSpec : ChangeSpec := { name := "arithRoom", fn := fun _ => fun
  | [d1, d2] => { results := [.lit (.bool true)], args := [d1, d2] }
  | _ => none }
def arithRoomRow : OpenClaim := { program := "ytofdgpgleghllaa", sum := "488dcb98f0bcfeb0ad6e4bd29c2cd9ca2a03c92ec1758ebb383704f24e467582", func := "kinora/kinoralaw8.ArithRoom", spec := "arithRoom", apart := false }
def ArithRoomSaid : Prop := arithRoomRow.holds Try.pinned (OpenSpec.ofChange arithRoomSpec)

/-- ITS FALSE NEIGHBOUR: 'it returns false'. Refute it at one input. -/
def arithRoomWrong : ChangeSpec := { name := "arithRoom", fn := fun _ => fun
  | [d1, d2] => { results := [.lit (.bool false)], args := [d1, d2] }
  | _ => none }
def ArithRoomWrongFalsely : Prop := arithRoomRow.holds Try.pinned (OpenSpec.ofChange arithRoomWrong)

/- THE SECOND FORM. 'bulk': how many values and letters a reading holds, each counted each time it is reached (what is shared counts as often as it is met; a slice's spare places count too). A statement '..UptoSaid' is the law's where the arguments, and the package variables that the reading takes, are together of bulk at most 1048576: NARROWER than '..Said'. Prove '..Said' where nothing that the law and all that it calls make is longer than what came in: it says more and counts as full. Else prove '..UptoSaid'. A law counts once. -/
mutual
def uptoBulk {H : Type} : DataW H → Nat
  | .lit (.string bytes) => bytes.length + 1
  | .lit _ => 1
  | .nil => 1
  | .ptr d => uptoBulk d + 1
  | .slice elems spare => uptoBulkAll elems + uptoBulkAll spare + 1
  | .agg parts => uptoBulkAll parts + 1
  | .iface _ d => uptoBulk d + 1
  | .map entries => uptoBulkEntries entries + 1
  | .held _ => 1
def uptoBulkAll {H : Type} : List (DataW H) → Nat
  | [] => 0
  | d :: r => uptoBulk d + uptoBulkAll r
def uptoBulkEntries {H : Type} : List (Lit × DataW H) → Nat
  | [] => 0
  | x :: r => uptoBulkEntry x + uptoBulkEntries r
def uptoBulkEntry {H : Type} : Lit × DataW H → Nat
  | (.string bytes, d) => bytes.length + uptoBulk d + 1
  | (_, d) => uptoBulk d + 1
 end
def uptoSmall : (H : Type) → List (DataW H) → Bool := fun _ ds => decide (uptoBulkAll ds ≤ 1048576)
def OpenSpec.upto (s : _root_.Go.ChangeSpec) : _root_.Go.OpenSpec := { _root_.Go.OpenSpec.ofChange s with cond := some uptoSmall }

/-- 'kinoralaw8.ArithPlays', WHERE WHAT IT READS IS OF BULK AT MOST 1048576: true; the input reads as it did. -/
def arithPlaysUptoRow : OpenClaim := { program := "ytofdgpgleghllaa", sum := "488dcb98f0bcfeb0ad6e4bd29c2cd9ca2a03c92ec1758ebb383704f24e467582", func := "kinora/kinoralaw8.ArithPlays", spec := "arithPlays", apart := false, narrowed := true }
def ArithPlaysUptoSaid : Prop := arithPlaysUptoRow.holds Try.pinned (OpenSpec.upto arithPlaysSpec)

/-- 'kinoralaw8.ArithBack', WHERE WHAT IT READS IS OF BULK AT MOST 1048576: true; the input reads as it did. -/
def arithBackUptoRow : OpenClaim := { program := "ytofdgpgleghllaa", sum := "488dcb98f0bcfeb0ad6e4bd29c2cd9ca2a03c92ec1758ebb383704f24e467582", func := "kinora/kinoralaw8.ArithBack", spec := "arithBack", apart := false, narrowed := true }
def ArithBackUptoSaid : Prop := arithBackUptoRow.holds Try.pinned (OpenSpec.upto arithBackSpec)

/-- 'kinoralaw8.ArithGrows', WHERE WHAT IT READS IS OF BULK AT MOST 1048576: true; the input reads as it did. -/
def arithGrowsUptoRow : OpenClaim := { program := "ytofdgpgleghllaa", sum := "488dcb98f0bcfeb0ad6e4bd29c2cd9ca2a03c92ec1758ebb383704f24e467582", func := "kinora/kinoralaw8.ArithGrows", spec := "arithGrows", apart := false, narrowed := true }
def ArithGrowsUptoSaid : Prop := arithGrowsUptoRow.holds Try.pinned (OpenSpec.upto arithGrowsSpec)

/-- 'kinoralaw8.ArithOdds', WHERE WHAT IT READS IS OF BULK AT MOST 1048576: true; the input reads as it did. -/
def arithOddsUptoRow : OpenClaim := { program := "ytofdgpgleghllaa", sum := "488dcb98f0bcfeb0ad6e4bd29c2cd9ca2a03c92ec1758ebb383704f24e467582", func := "kinora/kinoralaw8.ArithOdds", spec := "arithOdds", apart := false, narrowed := true }
def ArithOddsUptoSaid : Prop := arithOddsUptoRow.holds Try.pinned (OpenSpec.upto arithOddsSpec)

/-- 'kinoralaw8.ArithNumbers', WHERE WHAT IT READS IS OF BULK AT MOST 1048576: true; the input reads as it did. -/
def arithNumbersUptoRow : OpenClaim := { program := "ytofdgpgleghllaa", sum := "488dcb98f0bcfeb0ad6e4bd29c2cd9ca2a03c92ec1758ebb383704f24e467582", func := "kinora/kinoralaw8.ArithNumbers", spec := "arithNumbers", apart := false, narrowed := true }
def ArithNumbersUptoSaid : Prop := arithNumbersUptoRow.holds Try.pinned (OpenSpec.upto arithNumbersSpec)

/-- 'kinoralaw8.ArithCut', WHERE WHAT IT READS IS OF BULK AT MOST 1048576: true; the input reads as it did. -/
def arithCutUptoRow : OpenClaim := { program := "ytofdgpgleghllaa", sum := "488dcb98f0bcfeb0ad6e4bd29c2cd9ca2a03c92ec1758ebb383704f24e467582", func := "kinora/kinoralaw8.ArithCut", spec := "arithCut", apart := false, narrowed := true }
def ArithCutUptoSaid : Prop := arithCutUptoRow.holds Try.pinned (OpenSpec.upto arithCutSpec)

/-- 'kinoralaw8.ArithRoom', WHERE WHAT IT READS IS OF BULK AT MOST 1048576: true; the input reads as it did. -/
def arithRoomUptoRow : OpenClaim := { program := "ytofdgpgleghllaa", sum := "488dcb98f0bcfeb0ad6e4bd29c2cd9ca2a03c92ec1758ebb383704f24e467582", func := "kinora/kinoralaw8.ArithRoom", spec := "arithRoom", apart := false, narrowed := true }
def ArithRoomUptoSaid : Prop := arithRoomUptoRow.holds Try.pinned (OpenSpec.upto arithRoomSpec)

end Rows
end Go.Proofs.Ytofdgpgleghllaa
