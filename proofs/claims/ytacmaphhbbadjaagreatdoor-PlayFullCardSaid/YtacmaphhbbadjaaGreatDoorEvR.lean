/- The small machine: an order for a region that may come in any order, and what makes it as good as any. Plain definitions. -/
import Derived.Orders
import Derived.Test.YtacmaphhbbadjaaGreatDoorEvDef
namespace Go.Proofs.YtacmaphhbbadjaaGreatDoor
set_option linter.all false

/-- What an operation does: 0 nothing but its value; 1 it reads; 2 it makes a block; 3 it works. -/
def opCls (P : Program) : Op → Nat
  | .move _ | .assign _ | .pick .. | .build .. | .nilCheck _ | .binOp .. | .unOp .. | .makeInterface .. | .makeFunc .. | .slice .. | .fieldAddr .. | .field .. | .indexAddr .. | .index .. | .extract .. => 0
  | .load .. => 1
  | .convert src _ _ => match P.underlying src with
    | some (.slice _) => 1
    | _ => 0
  | .alloc _ | .box .. | .buildSlice .. | .makeSlice .. => 2
  | .call { callee := .builtin .len, .. } | .call { callee := .builtin .cap, .. } | .call { callee := .builtin .min, .. } | .call { callee := .builtin .max, .. } => 0
  | _ => 3

structure RStage where
  early : List Nat
  late : List Nat
  eff : Nat
  re : List Nat
structure RPlan where
  rs : List Nat
  stages : List RStage
  early : List Nat
  late : List Nat

/-- those that must stand before an operation -/
def bmask (acc : List Nat) (o : Oper) : Nat := o.after.toList.foldr (fun e s => bif Region.binds .any e then s ||| (2 ^ e.on ||| acc.getD e.on 0) else s) 0
def bmasks : List Oper → List Nat → List Nat
  | [], acc => acc
  | o :: l, acc => bmasks l (acc ++ [bmask acc o])

section
variable (P : Program) (ops : List Oper) (bs : List Nat)
def bOf (i : Nat) : Nat := bs.getD i 0
def cOf (i : Nat) : Nat := match ops[i]? with
  | some o => opCls P o.op
  | none => 3
/-- the stage of each, as the effects that stand before -/
def taus (em : Nat) : List Oper → Nat → List Nat → List Nat
  | [], _, acc => acc
  | o :: l, i, acc =>
    let es := (List.range ops.length).filter fun e => em.testBit e
    let t := bif Nat.beq (opCls P o.op) 3 then (bOf bs i) &&& em
      else bif Nat.beq (opCls P o.op) 2 then (match es.find? fun e => (bOf bs e).testBit i with
        | some e => (bOf bs e) &&& em
        | none => em)
      else ((List.range i).filter fun j => (bOf bs i).testBit j && !em.testBit j).foldl (fun s j => max s (acc.getD j 0)) ((bOf bs i) &&& em)
    taus em l (i + 1) (acc ++ [t])
/-- those that stand behind a new block of their own stage -/
def lates (em : Nat) (ts : List Nat) : List Oper → Nat → List Bool → List Bool
  | [], _, acc => acc
  | o :: l, i, acc =>
    lates em ts l (i + 1) (acc ++ [Nat.beq (opCls P o.op) 2 || ((List.range i).any fun j => (bOf bs i).testBit j && !em.testBit j && Nat.beq (ts.getD j 0) (ts.getD i 0) && acc.getD j false)])
def planOf : RPlan :=
  let n := ops.length
  let es := (List.range n).filter fun i => Nat.beq (cOf P ops i) 3
  let em := es.foldl (fun s e => s ||| 2 ^ e) 0
  let ts := taus P ops bs em ops 0 []
  let ls := lates P bs em ts ops 0 []
  let others := (List.range n).filter fun i => !em.testBit i
  let stage (m : Nat) (late : Bool) := others.filter fun i => Nat.beq (ts.getD i 0) m && ls.getD i false == late
  let rec go : List Nat → Nat → List RStage
    | [], _ => []
    | e :: l, m => ⟨stage m false, stage m true, e, others.filter fun i => Nat.beq (cOf P ops i) 1 && Nat.ble (ts.getD i 0) m && !(bOf bs e).testBit i⟩ :: go l (m ||| 2 ^ e)
  ⟨others.filter fun i => Nat.beq (cOf P ops i) 2, go es 0, stage em false, stage em true⟩

/-- one more comes up: all before it are there, it is not -/
def chkOne (nt seen i : Nat) : Bool := match ops[i]? with
  | some o => !seen.testBit i && Nat.beq (bOf bs i &&& seen) (bOf bs i) && (match o.dst with
    | some d => Nat.blt d nt
    | none => true)
  | none => false
def chkList (nt : Nat) (ok : Nat → Bool) : List Nat → Nat → Option Nat
  | [], seen => some seen
  | i :: l, seen => bif chkOne ops bs nt seen i && ok i then chkList nt ok l (seen ||| 2 ^ i) else none
/-- a stage behind effect pe: pe is the effect ahead -/
def chkEarly (pe : Option Nat) (i : Nat) : Bool := Nat.beq (cOf P ops i) 0 || (Nat.beq (cOf P ops i) 1 && match pe with
  | some e => (bOf bs i).testBit e
  | none => true)
def chkLate (rs : List Nat) (ne : Option Nat) (i : Nat) : Bool := Nat.beq (cOf P ops i) 0 || (Nat.beq (cOf P ops i) 2 && rs.contains i && match ne with
  | some e => (bOf bs e).testBit i
  | none => true)
/-- What a read looks at still stands. -/
def chkRe (seen i : Nat) : Bool := match ops[i]? with
  | some o => (o.looksAt ops.toArray).all fun t => ops.zipIdx.all fun (o', j) => o'.dst != some t || (bOf bs i).testBit j || !seen.testBit j
  | none => false
def chkStages (nt : Nat) (rs : List Nat) (last : List Nat × List Nat) : List RStage → Option Nat → Nat → Option Nat
  | [], pe, seen => (chkList ops bs nt (chkEarly P ops bs pe) last.1 seen).bind (chkList ops bs nt (chkLate P ops bs rs none) last.2)
  | s :: l, pe, seen => match (chkList ops bs nt (chkEarly P ops bs pe) s.early seen).bind (chkList ops bs nt (chkLate P ops bs rs (some s.eff)) s.late) with
    | none => none
    | some seen => match chkList ops bs nt (fun e => Nat.beq (cOf P ops e) 3 && match pe with
        | some p => (bOf bs e).testBit p
        | none => true) [s.eff] seen with
      | none => none
      | some seen => bif (List.range ops.length).all fun i => !seen.testBit i || !(Nat.beq (cOf P ops i) 1) || (bOf bs s.eff).testBit i || s.re.contains i then
          bif s.re.all (fun i => seen.testBit i && Nat.beq (cOf P ops i) 1 && chkRe ops bs seen i) then chkStages nt rs last l (some s.eff) seen else none
        else none
/-- The order is as good as any. -/
def chkPlan (nt : Nat) (p : RPlan) : Bool :=
  (match chkStages P ops bs nt p.rs (p.early, p.late) p.stages none 0 with
    | some seen => Nat.beq seen (2 ^ ops.length - 1)
    | none => false) &&
  (p.rs.all fun i => (match ops[i]? with
    | some o => Nat.beq (opCls P o.op) 2 && (match o.dst with | some d => Nat.blt d nt | none => false)
    | none => false)) && decide p.rs.Nodup &&
  ops.zipIdx.all fun (o, i) =>
    (o.looksAt ops.toArray).all (fun t => ops.zipIdx.all fun (o', j) => o'.dst != some t || (bOf bs i).testBit j || (!(Nat.beq (opCls P o'.op) 2) && (Nat.beq i j || (bOf bs j).testBit i))) &&
    ops.zipIdx.all (fun (o', j) => Nat.beq i j || match o.dst with
      | some d => o'.dst != some d
      | none => true)
end
/-- A new block, ahead of its name: a row's lengths, if it is one; its cells. -/
noncomputable def evA (P : Program) (o : Oper) (ev : Operand → EV) : Option (Option (Nat × Nat) × EBlk) :=
  match o.op with
  | .alloc e => match P.info? e with
    | some i => (zeroCellsOf i).map fun z => (none, .of z)
    | none => none
  | .box _ x => some (none, .of (ev x).cellsV)
  | .buildSlice t n ps => match sliceElem P t with
    | some (_, i) => match zeroCellsOf i with
      | some z => bif Nat.ble (n * i.size) 100000 && !z.isEmpty then (evFill (fun j => some (j * i.size, i.size)) (.rep (n * i.size) z) (evParts ev ps.toList)).map fun b => (some (n, n), b) else none
      | none => none
    | none => none
  | .makeSlice t l c => match sliceElem P t, (ev l).nat?, (ev c).nat? with
    | some (_, i), some l, some c => match zeroCellsOf i with
      | some z => bif Nat.ble l c && capBound c i.bytes && !z.isEmpty then some (some (l, c), .rep (c * i.size) z) else none
      | none => none
    | _, _, _ => none
  | _ => none
def mkA : Option (Nat × Nat) → Nat → EV
  | none, n => .ptr n 0
  | some (l, c), n => .sl n 0 l c 0
def sameKind (j k : IntKind) : Bool := decide (j = k)
def litSame : Value → Value → Bool
  | .pointer none, .pointer none => true
  | .slice none a b, .slice none c d => Nat.beq a c && Nat.beq b d
  | .nilFunc, .nilFunc => true
  | _, _ => false
def allSame (f : EV → EV → Bool) : List EV → List EV → Bool
  | [], [] => true
  | x :: l, y :: m => f x y && allSame f l m
  | _, _ => false
def evSame : Nat → EV → EV → Bool
  | 0, _, _ => false
  | n + 1, x, y => match x, y with
    | .int k a, .int j b => sameKind k j && decide (a = b)
    | .bool a, .bool b => a == b
    | .lit a, .lit b => litSame a b
    | .ptr a o, .ptr b p => Nat.beq a b && Nat.beq o p
    | .sl a o n c k, .sl b p m d j => Nat.beq a b && Nat.beq o p && Nat.beq n m && Nat.beq c d && Nat.beq k j
    | .agg l, .agg m => allSame (evSame n) l m
    | _, _ => false
end Go.Proofs.YtacmaphhbbadjaaGreatDoor
