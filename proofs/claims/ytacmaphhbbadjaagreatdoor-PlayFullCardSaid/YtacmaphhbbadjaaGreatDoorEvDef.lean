/- A small machine that runs closed calls of a program on known data: values, memory, operations. Plain definitions. -/
import GoSem.Dispatch
import Derived.Calls
import Derived.Laws.Sem
namespace Go.Proofs.YtacmaphhbbadjaaGreatDoor
set_option linter.all false
structure XN (α : Type) where
  (a0 a1 a2 a3 a4 a5 a6 a7 a8 a9 a10 a11 a12 a13 a14 a15 : α)
inductive XD where
  | d0 | d1 | d2 | d3 | d4 | d5 | d6 | d7 | d8 | d9 | d10 | d11 | d12 | d13 | d14 | d15
/-- How a place is read, and written. -/
structure XA (α : Type) where
  get : XN α → α
  set : α → XN α → XN α
section
variable {α : Type}
noncomputable def xs0 (y : α) (x : XN α) : XN α := XN.rec (fun a0 a1 a2 a3 a4 a5 a6 a7 a8 a9 a10 a11 a12 a13 a14 a15 => ⟨y, a1, a2, a3, a4, a5, a6, a7, a8, a9, a10, a11, a12, a13, a14, a15⟩) x
noncomputable def xa0 : XA α := ⟨fun x => x.a0, xs0⟩
noncomputable def xs1 (y : α) (x : XN α) : XN α := XN.rec (fun a0 a1 a2 a3 a4 a5 a6 a7 a8 a9 a10 a11 a12 a13 a14 a15 => ⟨a0, y, a2, a3, a4, a5, a6, a7, a8, a9, a10, a11, a12, a13, a14, a15⟩) x
noncomputable def xa1 : XA α := ⟨fun x => x.a1, xs1⟩
noncomputable def xs2 (y : α) (x : XN α) : XN α := XN.rec (fun a0 a1 a2 a3 a4 a5 a6 a7 a8 a9 a10 a11 a12 a13 a14 a15 => ⟨a0, a1, y, a3, a4, a5, a6, a7, a8, a9, a10, a11, a12, a13, a14, a15⟩) x
noncomputable def xa2 : XA α := ⟨fun x => x.a2, xs2⟩
noncomputable def xs3 (y : α) (x : XN α) : XN α := XN.rec (fun a0 a1 a2 a3 a4 a5 a6 a7 a8 a9 a10 a11 a12 a13 a14 a15 => ⟨a0, a1, a2, y, a4, a5, a6, a7, a8, a9, a10, a11, a12, a13, a14, a15⟩) x
noncomputable def xa3 : XA α := ⟨fun x => x.a3, xs3⟩
noncomputable def xs4 (y : α) (x : XN α) : XN α := XN.rec (fun a0 a1 a2 a3 a4 a5 a6 a7 a8 a9 a10 a11 a12 a13 a14 a15 => ⟨a0, a1, a2, a3, y, a5, a6, a7, a8, a9, a10, a11, a12, a13, a14, a15⟩) x
noncomputable def xa4 : XA α := ⟨fun x => x.a4, xs4⟩
noncomputable def xs5 (y : α) (x : XN α) : XN α := XN.rec (fun a0 a1 a2 a3 a4 a5 a6 a7 a8 a9 a10 a11 a12 a13 a14 a15 => ⟨a0, a1, a2, a3, a4, y, a6, a7, a8, a9, a10, a11, a12, a13, a14, a15⟩) x
noncomputable def xa5 : XA α := ⟨fun x => x.a5, xs5⟩
noncomputable def xs6 (y : α) (x : XN α) : XN α := XN.rec (fun a0 a1 a2 a3 a4 a5 a6 a7 a8 a9 a10 a11 a12 a13 a14 a15 => ⟨a0, a1, a2, a3, a4, a5, y, a7, a8, a9, a10, a11, a12, a13, a14, a15⟩) x
noncomputable def xa6 : XA α := ⟨fun x => x.a6, xs6⟩
noncomputable def xs7 (y : α) (x : XN α) : XN α := XN.rec (fun a0 a1 a2 a3 a4 a5 a6 a7 a8 a9 a10 a11 a12 a13 a14 a15 => ⟨a0, a1, a2, a3, a4, a5, a6, y, a8, a9, a10, a11, a12, a13, a14, a15⟩) x
noncomputable def xa7 : XA α := ⟨fun x => x.a7, xs7⟩
noncomputable def xs8 (y : α) (x : XN α) : XN α := XN.rec (fun a0 a1 a2 a3 a4 a5 a6 a7 a8 a9 a10 a11 a12 a13 a14 a15 => ⟨a0, a1, a2, a3, a4, a5, a6, a7, y, a9, a10, a11, a12, a13, a14, a15⟩) x
noncomputable def xa8 : XA α := ⟨fun x => x.a8, xs8⟩
noncomputable def xs9 (y : α) (x : XN α) : XN α := XN.rec (fun a0 a1 a2 a3 a4 a5 a6 a7 a8 a9 a10 a11 a12 a13 a14 a15 => ⟨a0, a1, a2, a3, a4, a5, a6, a7, a8, y, a10, a11, a12, a13, a14, a15⟩) x
noncomputable def xa9 : XA α := ⟨fun x => x.a9, xs9⟩
noncomputable def xs10 (y : α) (x : XN α) : XN α := XN.rec (fun a0 a1 a2 a3 a4 a5 a6 a7 a8 a9 a10 a11 a12 a13 a14 a15 => ⟨a0, a1, a2, a3, a4, a5, a6, a7, a8, a9, y, a11, a12, a13, a14, a15⟩) x
noncomputable def xa10 : XA α := ⟨fun x => x.a10, xs10⟩
noncomputable def xs11 (y : α) (x : XN α) : XN α := XN.rec (fun a0 a1 a2 a3 a4 a5 a6 a7 a8 a9 a10 a11 a12 a13 a14 a15 => ⟨a0, a1, a2, a3, a4, a5, a6, a7, a8, a9, a10, y, a12, a13, a14, a15⟩) x
noncomputable def xa11 : XA α := ⟨fun x => x.a11, xs11⟩
noncomputable def xs12 (y : α) (x : XN α) : XN α := XN.rec (fun a0 a1 a2 a3 a4 a5 a6 a7 a8 a9 a10 a11 a12 a13 a14 a15 => ⟨a0, a1, a2, a3, a4, a5, a6, a7, a8, a9, a10, a11, y, a13, a14, a15⟩) x
noncomputable def xa12 : XA α := ⟨fun x => x.a12, xs12⟩
noncomputable def xs13 (y : α) (x : XN α) : XN α := XN.rec (fun a0 a1 a2 a3 a4 a5 a6 a7 a8 a9 a10 a11 a12 a13 a14 a15 => ⟨a0, a1, a2, a3, a4, a5, a6, a7, a8, a9, a10, a11, a12, y, a14, a15⟩) x
noncomputable def xa13 : XA α := ⟨fun x => x.a13, xs13⟩
noncomputable def xs14 (y : α) (x : XN α) : XN α := XN.rec (fun a0 a1 a2 a3 a4 a5 a6 a7 a8 a9 a10 a11 a12 a13 a14 a15 => ⟨a0, a1, a2, a3, a4, a5, a6, a7, a8, a9, a10, a11, a12, a13, y, a15⟩) x
noncomputable def xa14 : XA α := ⟨fun x => x.a14, xs14⟩
noncomputable def xs15 (y : α) (x : XN α) : XN α := XN.rec (fun a0 a1 a2 a3 a4 a5 a6 a7 a8 a9 a10 a11 a12 a13 a14 a15 => ⟨a0, a1, a2, a3, a4, a5, a6, a7, a8, a9, a10, a11, a12, a13, a14, y⟩) x
noncomputable def xa15 : XA α := ⟨fun x => x.a15, xs15⟩
noncomputable def dg0_2 (n : Nat) : XA α := Bool.rec xa0 xa1 (Nat.ble 1 n)
noncomputable def dg2_4 (n : Nat) : XA α := Bool.rec xa2 xa3 (Nat.ble 3 n)
noncomputable def dg0_4 (n : Nat) : XA α := Bool.rec (dg0_2 n) (dg2_4 n) (Nat.ble 2 n)
noncomputable def dg4_6 (n : Nat) : XA α := Bool.rec xa4 xa5 (Nat.ble 5 n)
noncomputable def dg6_8 (n : Nat) : XA α := Bool.rec xa6 xa7 (Nat.ble 7 n)
noncomputable def dg4_8 (n : Nat) : XA α := Bool.rec (dg4_6 n) (dg6_8 n) (Nat.ble 6 n)
noncomputable def dg0_8 (n : Nat) : XA α := Bool.rec (dg0_4 n) (dg4_8 n) (Nat.ble 4 n)
noncomputable def dg8_10 (n : Nat) : XA α := Bool.rec xa8 xa9 (Nat.ble 9 n)
noncomputable def dg10_12 (n : Nat) : XA α := Bool.rec xa10 xa11 (Nat.ble 11 n)
noncomputable def dg8_12 (n : Nat) : XA α := Bool.rec (dg8_10 n) (dg10_12 n) (Nat.ble 10 n)
noncomputable def dg12_14 (n : Nat) : XA α := Bool.rec xa12 xa13 (Nat.ble 13 n)
noncomputable def dg14_16 (n : Nat) : XA α := Bool.rec xa14 xa15 (Nat.ble 15 n)
noncomputable def dg12_16 (n : Nat) : XA α := Bool.rec (dg12_14 n) (dg14_16 n) (Nat.ble 14 n)
noncomputable def dg8_16 (n : Nat) : XA α := Bool.rec (dg8_12 n) (dg12_16 n) (Nat.ble 12 n)
noncomputable def dg0_16 (n : Nat) : XA α := Bool.rec (dg0_8 n) (dg8_16 n) (Nat.ble 8 n)
/-- The place with a number. -/
noncomputable def dig (n : Nat) : XA α := dg0_16 n
def XN.rep (x : α) : XN α := ⟨x, x, x, x, x, x, x, x, x, x, x, x, x, x, x, x⟩
noncomputable def XD.at (d : XD) : XA α := XD.rec xa0 xa1 xa2 xa3 xa4 xa5 xa6 xa7 xa8 xa9 xa10 xa11 xa12 xa13 xa14 xa15 d
end
def XD.num : XD → Nat
  | .d0 => 0
  | .d1 => 1
  | .d2 => 2
  | .d3 => 3
  | .d4 => 4
  | .d5 => 5
  | .d6 => 6
  | .d7 => 7
  | .d8 => 8
  | .d9 => 9
  | .d10 => 10
  | .d11 => 11
  | .d12 => 12
  | .d13 => 13
  | .d14 => 14
  | .d15 => 15
theorem XD.get_same {α : Type} (d : XD) (y : α) (x : XN α) : d.at.get (d.at.set y x) = y := by
  cases x
  cases d <;> rfl
theorem XD.get_other {α : Type} {d e : XD} (h : d ≠ e) (y : α) (x : XN α) : d.at.get (e.at.set y x) = d.at.get x := by
  cases x
  cases d <;> cases e <;> first | rfl | exact absurd rfl h
theorem XD.get_rep {α : Type} (d : XD) (y : α) : d.at.get (XN.rep y) = y := by cases d <;> rfl
theorem dig_num {α : Type} (n : Nat) (h : n < 16) : ∃ d : XD, d.num = n ∧ (dig n : XA α) = d.at := by
  match n, h with
  | 0, _ => exact ⟨.d0, rfl, rfl⟩
  | 1, _ => exact ⟨.d1, rfl, rfl⟩
  | 2, _ => exact ⟨.d2, rfl, rfl⟩
  | 3, _ => exact ⟨.d3, rfl, rfl⟩
  | 4, _ => exact ⟨.d4, rfl, rfl⟩
  | 5, _ => exact ⟨.d5, rfl, rfl⟩
  | 6, _ => exact ⟨.d6, rfl, rfl⟩
  | 7, _ => exact ⟨.d7, rfl, rfl⟩
  | 8, _ => exact ⟨.d8, rfl, rfl⟩
  | 9, _ => exact ⟨.d9, rfl, rfl⟩
  | 10, _ => exact ⟨.d10, rfl, rfl⟩
  | 11, _ => exact ⟨.d11, rfl, rfl⟩
  | 12, _ => exact ⟨.d12, rfl, rfl⟩
  | 13, _ => exact ⟨.d13, rfl, rfl⟩
  | 14, _ => exact ⟨.d14, rfl, rfl⟩
  | 15, _ => exact ⟨.d15, rfl, rfl⟩
  | n + 16, h => omega
theorem dig_same {α : Type} (n : Nat) (h : n < 16) (y : α) (x : XN α) : (dig n).get ((dig n).set y x) = y := by
  obtain ⟨d, _, e⟩ := dig_num (α := α) n h
  rw [e]; exact d.get_same y x
theorem dig_other {α : Type} {m n : Nat} (hm : m < 16) (hn : n < 16) (h : m ≠ n) (y : α) (x : XN α) : (dig m).get ((dig n).set y x) = (dig m).get x := by
  obtain ⟨d, hd, e⟩ := dig_num (α := α) m hm
  obtain ⟨d', hd', e'⟩ := dig_num (α := α) n hn
  rw [e, e']
  exact XD.get_other (fun q => h (by rw [← hd, ← hd', q])) y x
theorem dig_rep {α : Type} (n : Nat) (h : n < 16) (y : α) : (dig n).get (XN.rep y) = y := by
  obtain ⟨d, _, e⟩ := dig_num (α := α) n h
  rw [e]; exact d.get_rep y

inductive ETr (α : Type) where
  | nil
  | node (v : Option α) (l r : ETr α)
section
variable {α : Type}
noncomputable def ETr.val (t : ETr α) : Option α := ETr.rec none (fun v _ _ _ _ => v) t
noncomputable def ETr.left (t : ETr α) : ETr α := ETr.rec .nil (fun _ l _ _ _ => l) t
noncomputable def ETr.right (t : ETr α) : ETr α := ETr.rec .nil (fun _ _ r _ _ => r) t
noncomputable def ETr.get (t : ETr α) (n : Nat) : Option α :=
  ETr.rec (motive := fun _ => Nat → Option α) (fun _ => none) (fun v _ _ ihl ihr n => Nat.rec (motive := fun _ => Option α) v (fun m _ => Bool.rec (ihr (Nat.div m 2)) (ihl (Nat.div m 2)) (Nat.beq (Nat.mod m 2) 0)) n) t n
noncomputable def ETr.set (x : α) (f : Nat) : ETr α → Nat → ETr α :=
  Nat.rec (motive := fun _ => ETr α → Nat → ETr α) (fun t _ => t) (fun _ ih t n => Nat.rec (motive := fun _ => ETr α) (.node (some x) t.left t.right) (fun m _ => Bool.rec (.node t.val t.left (ih t.right (Nat.div m 2))) (.node t.val (ih t.left (Nat.div m 2)) t.right) (Nat.beq (Nat.mod m 2) 0)) n) f
end

inductive EV where
  | int (k : IntKind) (n : Int)
  | bool (b : Bool)
  | lit (v : Value)
  | ptr (b o : Nat)
  | sl (b o len c k : Nat)
  | agg (l : List EV)
  | tup (l : List EV)
  | fn (f : Nat) (first cap : List EV)
instance : Inhabited EV := ⟨.lit undef⟩
def EV.of : Value → EV
  | .int k n => .int k n
  | .bool b => .bool b
  | v => .lit v

structure EBlk where
  size : Nat
  zl : Nat
  zero : List EV
  cs : ETr EV
abbrev XH := XN (XN (XN (XN (Option EBlk))))
structure EH where
  next : Nat
  bl : XH

noncomputable def nth (l : List EV) (i : Nat) : EV := List.rec (motive := fun _ => Nat → EV) (fun _ => default) (fun x _ ih i => Nat.rec (motive := fun _ => EV) x (fun m _ => ih m) i) l i
noncomputable def EBlk.get (b : EBlk) (i : Nat) : EV := Option.rec (motive := fun _ => EBlk → Nat → EV) (fun b i => nth b.zero (Nat.mod i b.zl)) (fun v _ _ => v) (b.cs.get i) b i
noncomputable def EBlk.getN (b : EBlk) (i n : Nat) : List EV := Nat.rec (motive := fun _ => EBlk → Nat → List EV) (fun _ _ => []) (fun _ ih b i => b.get i :: ih b (Nat.succ i)) n b i
noncomputable def EBlk.put (b : EBlk) (i : Nat) (v : EV) : EBlk := ⟨b.size, b.zl, b.zero, b.cs.set v (Nat.succ i) i⟩
noncomputable def EBlk.putN (b : EBlk) (i : Nat) (l : List EV) : EBlk := List.rec (motive := fun _ => EBlk → Nat → EBlk) (fun b _ => b) (fun v _ ih b i => ih (b.put i v) (Nat.succ i)) l b i
def EBlk.sz (b : EBlk) (n : Nat) : EBlk := ⟨n, b.zl, b.zero, b.cs⟩
/-- A block of a list of cells. -/
def EBlk.of (l : List EV) : EBlk := ⟨l.length, l.length, l, .nil⟩
def EBlk.rep (n : Nat) (l : List EV) : EBlk := ⟨n, l.length, l, .nil⟩
noncomputable def hget (h : XH) (n : Nat) : Option EBlk := (dig (Nat.mod n 16)).get ((dig (Nat.mod (Nat.div n 16) 16)).get ((dig (Nat.mod (Nat.div n 256) 16)).get ((dig (Nat.div n 4096)).get h)))
noncomputable def hset3 (n : Nat) (x : Option EBlk) (h : XN (Option EBlk)) : XN (Option EBlk) := (dig (Nat.mod n 16)).set x h
noncomputable def hset2 (n : Nat) (x : Option EBlk) (h : XN (XN (Option EBlk))) : XN (XN (Option EBlk)) := (dig (Nat.mod (Nat.div n 16) 16)).set (hset3 n x ((dig (Nat.mod (Nat.div n 16) 16)).get h)) h
noncomputable def hset1 (n : Nat) (x : Option EBlk) (h : XN (XN (XN (Option EBlk)))) : XN (XN (XN (Option EBlk))) := (dig (Nat.mod (Nat.div n 256) 16)).set (hset2 n x ((dig (Nat.mod (Nat.div n 256) 16)).get h)) h
noncomputable def hset (n : Nat) (x : Option EBlk) (h : XH) : XH := (dig (Nat.div n 4096)).set (hset1 n x ((dig (Nat.div n 4096)).get h)) h
noncomputable def EH.blk? (h : EH) (b : Nat) : Option EBlk := Bool.rec none (hget h.bl b) (Nat.blt b 65536)
noncomputable def EH.put (h : EH) (b : Nat) (x : Option EBlk) : XH := Bool.rec h.bl (hset b x h.bl) (Nat.blt b 65536)
noncomputable def EH.new (h : EH) (b : EBlk) : EH := ⟨Nat.succ h.next, h.put h.next (some b)⟩
noncomputable def EH.upd (h : EH) (n : Nat) (b : EBlk) : EH := ⟨h.next, h.put n (some b)⟩
noncomputable def EH.kill (h : EH) (n : Nat) : EH := ⟨h.next, h.put n none⟩
/-- No blocks. -/
noncomputable def EH.empty : EH := ⟨0, XN.rep (XN.rep (XN.rep (XN.rep none)))⟩

/-- What a Sem gives that asks nothing of the world. -/
def runP {α : Type} (P : Program) : Sem α → Option α
  | .pure a => some a
  | .program k => runP P (k P)
  | .mark _ k => runP P k
  | _ => none

def EV.atom : EV → Option Value
  | .int k n => some (.int k n)
  | .bool b => some (.bool b)
  | .lit v => some v
  | _ => none
def litAll : List EV → Option (List Value)
  | [] => some []
  | x :: l => match x.atom, litAll l with
    | some v, some vs => some (v :: vs)
    | _, _ => none
def EV.toLit : EV → Option Value
  | .agg l => (litAll l).map fun vs => .agg vs.toArray
  | v => v.atom
def EV.cellsV : EV → List EV
  | .agg l => l
  | .lit (.agg cs) => cs.toList.map EV.of
  | v => [v]
def EV.ofAgg : EV → Option (List EV)
  | .agg l => some l
  | .lit (.agg cs) => some (cs.toList.map EV.of)
  | _ => none
def EV.nat? : EV → Option Nat
  | .int _ (.ofNat n) => some n
  | _ => none
def EV.one : EV → Bool
  | .agg _ => false
  | .tup _ => false
  | .lit v => v.oneCell'
  | _ => true
/-- Are all operands plain? -/
def allLit (ev : Operand → EV) : List Operand → Bool
  | [] => true
  | x :: l => match (ev x).toLit with
    | some _ => allLit ev l
    | none => false

section
variable (P : Program)
def aggSize (t : TypeId) : Option (Option Nat) :=
  match P.underlying t, P.info? t with
  | some (.struct _), some i => some (some i.size)
  | some (.array _ _), some i => some (some i.size)
  | some _, _ => some none
  | none, _ => none
def evPart (t : TypeId) (l : List EV) (off : Nat) : Option EV :=
  match aggSize P t with
  | some (some n) => bif Nat.ble (off + n) l.length then some (.agg ((l.drop off).take n)) else none
  | some none => l[off]?
  | none => none
noncomputable def evLoad (t : TypeId) (b o : Nat) (H : EH) : Option EV :=
  match H.blk? b, aggSize P t with
  | some x, some (some n) => bif Nat.ble (o + n) x.size then some (.agg (x.getN o n)) else none
  | some x, some none => bif Nat.blt o x.size then some (x.get o) else none
  | _, _ => none
noncomputable def evStore (t : TypeId) (b o : Nat) (v : EV) (H : EH) : Option EH :=
  match H.blk? b, P.info? t with
  | some x, some i => let l := v.cellsV; bif Nat.beq l.length i.size && Nat.ble (o + l.length) x.size && l.all EV.one then some (H.upd b (x.putN o l)) else none
  | _, _ => none
/-- parts of a build, in their places -/
noncomputable def evFill (place : Nat → Option (Nat × Nat)) (b : EBlk) : List (Nat × EV) → Option EBlk
  | [] => some b
  | (i, v) :: rest => match place i with
    | some (off, size) => bif Nat.beq v.cellsV.length size && Nat.ble (off + size) b.size then evFill place (b.putN off v.cellsV) rest else none
    | none => none
def sliceElem (t : TypeId) : Option (TypeId × TypeInfo) :=
  match P.underlying t with
  | some (.slice e) => (P.info? e).map fun i => (e, i)
  | _ => none
def zeroCellsOf (i : TypeInfo) : Option (List EV) := i.zero.map fun z => z.cells.toList.map EV.of
noncomputable def evNew (l : List EV) (H : EH) : EV × EH := (.ptr H.next 0, H.new (.of l))
/-- so many elements of k cells of a row, or the bytes of a string -/
noncomputable def evElems (H : EH) (k : Nat) (n : Nat) (d : TypeDesc) : EV → Option (List EV)
  | .sl b o m _ _ => match d, H.blk? b with
    | .slice _, some x => bif Nat.ble n m && Nat.ble (o + n * k) x.size then some (x.getN o (n * k)) else none
    | .slice _, none => bif Nat.beq n 0 then some [] else none
    | _, _ => none
  | .lit (.slice none 0 _) => match d with
    | .slice _ => bif Nat.beq n 0 then some [] else none
    | _ => none
  | .lit (.string s) => match d with
    | .string => bif Nat.beq k 1 && Nat.ble n s.size then some ((s.data.toList.take n).map fun b => .int .u8 b.toNat) else none
    | _ => none
  | _ => none
def evLen : EV → Option Nat
  | .sl _ _ n _ _ => some n
  | .lit (.slice none 0 _) => some 0
  | .lit (.string s) => some s.size
  | _ => none
def capBound (need bytes : Nat) : Bool := Nat.ble need 1000000 && Nat.ble bytes 10000
def zeroFits (i : TypeInfo) : Bool := match i.zero with | some z => Nat.beq z.cells.size i.size | none => false
noncomputable def evOld (y : EBlk) (o n : Nat) : EBlk := bif Nat.beq o 0 then y.sz n else (EBlk.of (y.getN o n)).sz n
noncomputable def evAppend (t tx : TypeId) (s x : EV) (H : EH) : Option (EV × EH) :=
  match sliceElem P t, P.underlying tx, evLen x with
  | some (_, i), some d, some n => match evElems H i.size n d x with
    | none => none
    | some new =>
      bif !(capBound 0 i.bytes && Nat.blt 0 i.size && new.all EV.one && zeroFits i) then none else
      match s with
      | .lit (.slice none 0 0) =>
        bif Nat.beq n 0 then some (s, H)
        else bif capBound n i.bytes then some (.sl H.next 0 n n i.size, H.new ((EBlk.of new).sz (n * i.size))) else none
      | .sl b o len c k =>
        bif Nat.ble len c && (Nat.beq k 0 || Nat.beq k i.size) then
          bif Nat.beq n 0 then some (s, H) else
          match H.blk? b with
          | none => none
          | some y =>
            bif Nat.ble (o + len * i.size) y.size then
              bif Nat.ble (len + n) c then
                bif Nat.ble (o + (len + n) * i.size) y.size || !(Nat.beq k 0) then
                  some (.sl b o (len + n) c k, H.upd b ((y.putN (o + len * i.size) new).sz (max y.size (o + len * i.size + new.length))))
                else none
              else bif capBound (len + n) i.bytes then
                some (.sl H.next 0 (len + n) (len + n) i.size, (bif Nat.beq k 0 then H else H.kill b).new (((evOld y o (len * i.size)).putN (len * i.size) new).sz ((len + n) * i.size)))
              else none
            else none
        else none
      | _ => none
  | _, _, _ => none
noncomputable def evCopy (t tx : TypeId) (d x : EV) (H : EH) : Option (EV × EH) :=
  match sliceElem P t, P.underlying tx, evLen x, evLen d with
  | some (_, i), some dx, some n, some m =>
    let k := Nat.min n m
    match evElems H i.size k dx x with
    | some l => bif !(l.all EV.one) then none else match d with
      | .lit (.slice none 0 _) => some (.int .i64 (.ofNat 0), H)
      | .sl b o _ _ _ => bif Nat.beq k 0 then some (.int .i64 (.ofNat 0), H) else match H.blk? b with
        | some y => bif Nat.ble (o + k * i.size) y.size then some (.int .i64 (.ofNat k), H.upd b (y.putN o l)) else none
        | none => none
      | _ => none
    | none => none
  | _, _, _, _ => none
def eLow : Option EV → Option Nat
  | some v => v.nat?
  | none => some 0
def eHigh (len : Nat) : Option EV → Option Nat
  | some v => v.nat?
  | none => some len
def evBounds (len c k : Nat) (lo hi mx : Option EV) : Option (Nat × Nat × Nat × Nat) :=
  match eLow lo, eHigh len hi with
  | some l, some h =>
    match mx with
    | none => bif Nat.ble l h && Nat.ble h c then some (l, h, c, k) else none
    | some v => match v.nat? with
      | some m => bif hi.isSome && Nat.ble l h && Nat.ble h m && Nat.ble m c then some (l, h, m, 0) else none
      | none => none
  | _, _ => none
def evSlice (t : TypeId) (x : EV) (lo hi mx : Option EV) : Option EV :=
  match P.underlying t, x with
  | some (.slice e), .sl b o len c k => match P.info? e, evBounds len c k lo hi mx with
    | some i, some (l, h, m, k') =>
      bif Nat.beq k' 0 && Nat.beq m l then some (.sl b o 0 0 0)
      else bif Nat.beq k 0 || Nat.beq k i.size then some (.sl b (o + l * i.size) (h - l) (m - l) k') else none
    | _, _ => none
  | some (.array n e), .ptr b o => match P.info? e, evBounds n n 0 lo hi none with
    | some i, some (l, h, m, _) => bif mx.isSome then none else bif Nat.beq m l then some (.sl b o 0 0 0) else some (.sl b (o + l * i.size) (h - l) (m - l) 0)
    | _, _ => none
  | _, _ => none
def evIndexAddr (t : TypeId) (x i : EV) : Option EV :=
  match P.underlying t, x, i.nat? with
  | some (.slice e), .sl b o len _ _, some i => match P.info? e with
    | some f => bif Nat.blt i len then some (.ptr b (o + i * f.size)) else none
    | none => none
  | some (.array n e), .ptr b o, some i => match P.info? e with
    | some f => bif Nat.blt i n then some (.ptr b (o + i * f.size)) else none
    | none => none
  | _, _, _ => none
/-- one is an address, the other the nil of its type -/
def nilCmp (d : TypeDesc) (x y : EV) : Bool :=
  match d with
  | .pointer _ => match x, y with
    | .ptr _ _, .lit (.pointer none) => true
    | _, _ => false
  | .slice _ => match x, y with
    | .sl _ _ _ _ _, .lit (.slice none _ _) => true
    | _, _ => false
  | .func _ _ _ => match x, y with
    | .fn _ _ _, .lit .nilFunc => true
    | _, _ => false
  | _ => false
def isSome' : EV → Bool
  | .ptr _ _ => true
  | .sl _ _ _ _ _ => true
  | .fn _ _ _ => true
  | _ => false
def bytesOf : List EV → Option (List UInt8)
  | [] => some []
  | .int .u8 (.ofNat n) :: l => (bytesOf l).map (UInt8.ofNat n :: ·)
  | _ :: _ => none
/-- the operation's own value by the model, where all operands are plain -/
def evPure (ev : Operand → EV) (o : Oper) : Option EV :=
  bif allLit ev o.op.operands.toList then
    match runP P (execOp (fun x => (ev x).toLit.getD undef) o) with
    | some (.value v) => some (.of v)
    | _ => none
  else none
def evParts (ev : Operand → EV) (l : List (Nat × Operand)) : List (Nat × EV) := l.map fun x => (x.1, ev x.2)
noncomputable def evBuild (t : TypeId) (parts : List (Nat × EV)) : Option EV :=
  match P.info? t, P.underlying t with
  | some it, some (.array _ e) => match zeroCellsOf it, P.info? e with
    | some z, some ie => (evFill (fun i => some (i * ie.size, ie.size)) (.of z) parts).map fun b => .agg (b.getN 0 b.size)
    | _, _ => none
  | some it, some (.struct fields) => match zeroCellsOf it, fields.toList.mapM (fun f => (P.info? f.type).map fun i => (f.offset, i.size)) with
    | some z, some places => (evFill (places.toArray[·]?) (.of z) parts).map fun b => .agg (b.getN 0 b.size)
    | _, _ => none
  | _, _ => none
noncomputable def evBuildSlice (t : TypeId) (n : Nat) (parts : List (Nat × EV)) (H : EH) : Option (EV × EH) :=
  match sliceElem P t with
  | some (_, i) => match zeroCellsOf i with
    | some z =>
      bif Nat.ble (n * i.size) 100000 && !z.isEmpty then
        match evFill (fun j => some (j * i.size, i.size)) (.rep (n * i.size) z) parts with
        | some b => some (.sl H.next 0 n n 0, H.new b)
        | none => none
      else none
    | none => none
  | none => none
noncomputable def evMake (t : TypeId) (l c : EV) (H : EH) : Option (EV × EH) :=
  match sliceElem P t, l.nat?, c.nat? with
  | some (_, i), some l, some c => match zeroCellsOf i with
    | some z => bif Nat.ble l c && capBound c i.bytes && !z.isEmpty then some (.sl H.next 0 l c 0, H.new (.rep (c * i.size) z)) else none
    | none => none
  | _, _, _ => none
/-- one operation; calls by ca -/
noncomputable def evOp (ca : Nat → List EV → EH → Option (EV × EH)) (o : Oper) (ev : Operand → EV) (H : EH) : Option (EV × EH) :=
  match o.op with
  | .move x => some (ev x, H)
  | .assign x => some (ev x, H)
  | .pick c a b => match ev c with
    | .bool t => some (ev (bif t then a else b), H)
    | _ => none
  | .alloc e => match P.info? e with
    | some i => (zeroCellsOf i).map fun z => evNew z H
    | none => none
  | .box _ x => some (evNew (ev x).cellsV H)
  | .buildSlice t n ps => evBuildSlice P t n (evParts ev ps.toList) H
  | .build t ps => (evBuild P t (evParts ev ps.toList)).map fun v => (v, H)
  | .load t a => match ev a with
    | .ptr b o => (evLoad P t b o H).map fun v => (v, H)
    | _ => none
  | .store t a x => match ev a with
    | .ptr b o => (evStore P t b o (ev x) H).map fun h => (.lit undef, h)
    | _ => none
  | .nilCheck x => bif isSome' (ev x) then some (ev x, H) else none
  | .fieldAddr s x f => match P.underlying s, ev x with
    | some (.struct fs), .ptr b o => match fs[f]? with
      | some f => match P.info? f.type with
        | some i => bif Nat.beq i.size 0 then none else some (.ptr b (o + f.offset), H)
        | none => none
      | none => none
    | _, _ => none
  | .field t x f => match P.underlying t, (ev x).ofAgg with
    | some (.struct fs), some l => match fs[f]? with
      | some f => (evPart P f.type l f.offset).map fun v => (v, H)
      | none => none
    | _, _ => none
  | .indexAddr t x i => (evIndexAddr P t (ev x) (ev i)).map fun v => (v, H)
  | .index t x i => match P.underlying t with
    | some (.array n e) => match (ev x).ofAgg, (ev i).nat?, P.info? e with
      | some l, some i, some f => bif Nat.blt i n then (evPart P e l (i * f.size)).map fun v => (v, H) else none
      | _, _, _ => none
    | some .string => (evPure P ev o).map fun v => (v, H)
    | _ => none
  | .makeSlice t l c => evMake P t (ev l) (ev c) H
  | .slice t x lo hi mx => match ev x with
    | .lit _ => (evPure P ev o).map fun v => (v, H)
    | x => (evSlice P t x (lo.map ev) (hi.map ev) (mx.map ev)).map fun v => (v, H)
  | .extract x i => match ev x with
    | .tup l => (l[i]?).map fun v => (v, H)
    | _ => (evPure P ev o).map fun v => (v, H)
  | .binOp op t x y _ =>
    match P.underlying t with
    | some d => bif nilCmp d (ev x) (ev y) || nilCmp d (ev y) (ev x) then
        match op with
        | .eql => some (.bool false, H)
        | .neq => some (.bool true, H)
        | _ => none
      else (evPure P ev o).map fun v => (v, H)
    | none => none
  | .convert src dst x => match ev x with
    | .sl b ofs n c k => match P.underlying src, P.underlying dst, H.blk? b with
      | some (.slice e), some .string, some y => match P.underlying e with
        | some (.int .u8) => bif Nat.ble (ofs + n) y.size then (bytesOf (y.getN ofs n)).map fun l => (.lit (.string ⟨l.toArray⟩), H) else none
        | _ => none
      | some (.slice _), some (.slice e), some _ => match P.underlying e with
        | some (.int .u8) => bif Nat.beq src dst && Nat.blt 0 n then some (.sl b ofs n c k, H) else none
        | _ => none
      | _, _, _ => none
    | .lit (.slice none _ _) => match P.underlying src, P.underlying dst with
      | some (.slice e), some .string => match P.underlying e with
        | some (.int .u8) => some (.lit (.string .empty), H)
        | _ => none
      | _, _ => none
    | _ => (evPure P ev o).map fun v => (v, H)
  | .makeFunc (.func f) first cap => some (.fn f (first.toList.map ev) (cap.toList.map ev), H)
  | .call { callee := .value f, args, .. } => match ev f with
    | .fn f first cap => ca f (first ++ args.toList.map ev ++ cap) H
    | _ => none
  | .call { callee := .builtin .append, args, argTypes } => match args.toList, argTypes.toList with
    | [s, x], [t, tx] => evAppend P t tx (ev s) (ev x) H
    | _, _ => none
  | .call { callee := .builtin .copy, args, argTypes } => match args.toList, argTypes.toList with
    | [d, x], [t, tx] => evCopy P t tx (ev d) (ev x) H
    | _, _ => none
  | .call { callee := .builtin .len, args, argTypes } => match args.toList, argTypes.toList with
    | [x], [t] => match ev x, P.underlying t with
      | .sl _ _ n _ _, some (.slice _) => some (.int .i64 (.ofNat n), H)
      | .ptr _ _, _ => none
      | _, _ => (evPure P ev o).map fun v => (v, H)
    | _, _ => none
  | .call { callee := .builtin .cap, args, argTypes } => match args.toList, argTypes.toList with
    | [x], [t] => match ev x, P.underlying t with
      | .sl _ _ _ c 0, some (.slice _) => some (.int .i64 (.ofNat c), H)
      | .lit _, _ => (evPure P ev o).map fun v => (v, H)
      | _, _ => none
    | _, _ => none
  | .call { callee := .builtin .min, .. } => (evPure P ev o).map fun v => (v, H)
  | .call { callee := .builtin .max, .. } => (evPure P ev o).map fun v => (v, H)
  | .unOp .. => (evPure P ev o).map fun v => (v, H)
  | .makeInterface .. => (evPure P ev o).map fun v => (v, H)
  | _ => none
end
end Go.Proofs.YtacmaphhbbadjaaGreatDoor
