/- The small machine's fast form: what a function's text becomes, and how it runs. Recursors are typed out, for the kernel's sake. Printed by mkevy.py. -/
import Derived.Test.YtacmaphhbbadjaaGreatDoorEvR
namespace Go.Proofs.YtacmaphhbbadjaaGreatDoor
set_option linter.all false
abbrev XF := XN (XN EV)
/-- What a function's text ends in. -/
inductive XS where
  | n (T : XF) (H : EH)
  | x (id : Nat) (T : XF) (H : EH)
  | r (T : XF) (H : EH)
  | no
/-- What an operation leaves. -/
inductive XR where
  | ok (v : EV) (H : EH)
  | no
noncomputable def XR.opt (r : XR) : Option (EV × EH) := XR.rec (fun v H => some (v, H)) none r
def XR.of : Option (EV × EH) → XR
  | some (v, H) => .ok v H
  | none => .no
abbrev XCa := Nat → List EV → EH → XR
noncomputable def XCa.opt (ca : XCa) : Nat → List EV → EH → Option (EV × EH) := fun f l H => (ca f l H).opt
/-- A piece of a function's text, what follows it within. -/
structure XB where
  run : XCa → XF → EH → XS
structure XG where
  get : XF → EV
structure XP where
  set : EV → XF → XF
noncomputable def compG : Operand → XG
  | .tmp t => bif Nat.blt t 256 then ⟨fun T => (dig (Nat.mod t 16)).get ((dig (Nat.div t 16)).get T)⟩ else ⟨fun _ => default⟩
  | .const v => ⟨fun _ => .of v⟩
  | .func f => ⟨fun _ => .fn f [] []⟩
  | .global g => ⟨fun _ => .lit (.pointer (some ⟨g, 0, none⟩))⟩
noncomputable def evT (T : XF) : Operand → EV := fun x => (compG x).get T
noncomputable def compP (t : Nat) : XP := ⟨fun v T => (dig (Nat.div t 16)).set ((dig (Nat.mod t 16)).set v ((dig (Nat.div t 16)).get T)) T⟩
def noP : XP := ⟨fun _ T => T⟩

noncomputable def kmax (k : IntKind) : Nat := IntKind.rec 127 32767 2147483647 9223372036854775807 255 65535 4294967295 18446744073709551615 k
noncomputable def kneg (k : IntKind) : Nat := IntKind.rec 128 32768 2147483648 9223372036854775808 0 0 0 0 k
noncomputable def kcode (k : IntKind) : Nat := IntKind.rec 0 1 2 3 4 5 6 7 k
noncomputable def kbits (k : IntKind) : Nat := IntKind.rec 8 16 32 64 8 16 32 64 k
/-- An operation on integers: on with its value, or the slow way. -/
abbrev XBin := IntKind → Int → Int → (EV → XS) → XS → XS
noncomputable def fitN (k : IntKind) (m : Nat) (ok : EV → XS) (z : XS) : XS := Bool.rec z (ok (.int k (.ofNat m))) (Nat.ble m (kmax k))
noncomputable def fitS (k : IntKind) (m : Nat) (ok : EV → XS) (z : XS) : XS := Bool.rec z (ok (.int k (.negSucc m))) (Nat.ble (Nat.succ m) (kneg k))
noncomputable def xfit (k : IntKind) (n : Int) (ok : EV → XS) (z : XS) : XS :=
  Int.rec (motive := fun _ => IntKind → (EV → XS) → XS → XS) (fun m k ok z => fitN k m ok z) (fun m k ok z => fitS k m ok z) n k ok z
noncomputable def xadd : XBin := fun k a b ok z =>
  Int.rec (motive := fun _ => IntKind → Int → (EV → XS) → XS → XS) (fun m k b ok z => Int.rec (motive := fun _ => IntKind → Nat → (EV → XS) → XS → XS) (fun n k m ok z => fitN k (Nat.add m n) ok z) (fun n k m ok z => xfit k (Int.add (.ofNat m) (.negSucc n)) ok z) b k m ok z) (fun m k b ok z => xfit k (Int.add (.negSucc m) b) ok z) a k b ok z
noncomputable def xsub : XBin := fun k a b ok z =>
  Int.rec (motive := fun _ => IntKind → Int → (EV → XS) → XS → XS) (fun m k b ok z => Int.rec (motive := fun _ => IntKind → Nat → (EV → XS) → XS → XS) (fun n k m ok z => Bool.rec (xfit k (Int.sub (.ofNat m) (.ofNat n)) ok z) (fitN k (Nat.sub m n) ok z) (Nat.ble n m)) (fun n k m ok z => xfit k (Int.sub (.ofNat m) (.negSucc n)) ok z) b k m ok z) (fun m k b ok z => xfit k (Int.sub (.negSucc m) b) ok z) a k b ok z
noncomputable def xmul : XBin := fun k a b ok z =>
  Int.rec (motive := fun _ => IntKind → Int → (EV → XS) → XS → XS) (fun m k b ok z => Int.rec (motive := fun _ => IntKind → Nat → (EV → XS) → XS → XS) (fun n k m ok z => fitN k (Nat.mul m n) ok z) (fun n k m ok z => xfit k (Int.mul (.ofNat m) (.negSucc n)) ok z) b k m ok z) (fun m k b ok z => xfit k (Int.mul (.negSucc m) b) ok z) a k b ok z
noncomputable def xand : XBin := fun k a b ok z =>
  Int.rec (motive := fun _ => IntKind → Int → (EV → XS) → XS → XS) (fun m k b ok z => Int.rec (motive := fun _ => IntKind → Nat → (EV → XS) → XS → XS) (fun n k m ok z => Bool.rec z (Bool.rec z (fitN k (Nat.land m n) ok z) (Nat.ble n (kmax k))) (Nat.ble m (kmax k))) (fun n k m ok z => z) b k m ok z) (fun m k b ok z => z) a k b ok z
noncomputable def xor_ : XBin := fun k a b ok z =>
  Int.rec (motive := fun _ => IntKind → Int → (EV → XS) → XS → XS) (fun m k b ok z => Int.rec (motive := fun _ => IntKind → Nat → (EV → XS) → XS → XS) (fun n k m ok z => Bool.rec z (Bool.rec z (fitN k (Nat.lor m n) ok z) (Nat.ble n (kmax k))) (Nat.ble m (kmax k))) (fun n k m ok z => z) b k m ok z) (fun m k b ok z => z) a k b ok z
noncomputable def xxor : XBin := fun k a b ok z =>
  Int.rec (motive := fun _ => IntKind → Int → (EV → XS) → XS → XS) (fun m k b ok z => Int.rec (motive := fun _ => IntKind → Nat → (EV → XS) → XS → XS) (fun n k m ok z => Bool.rec z (Bool.rec z (fitN k (Nat.xor m n) ok z) (Nat.ble n (kmax k))) (Nat.ble m (kmax k))) (fun n k m ok z => z) b k m ok z) (fun m k b ok z => z) a k b ok z
noncomputable def xquo : XBin := fun k a b ok z =>
  Int.rec (motive := fun _ => IntKind → Int → (EV → XS) → XS → XS) (fun m k b ok z => Int.rec (motive := fun _ => IntKind → Nat → (EV → XS) → XS → XS) (fun n k m ok z => Bool.rec (fitN k (Nat.div m n) ok z) z (Nat.beq n 0)) (fun n k m ok z => z) b k m ok z) (fun m k b ok z => z) a k b ok z
noncomputable def xrem : XBin := fun k a b ok z =>
  Int.rec (motive := fun _ => IntKind → Int → (EV → XS) → XS → XS) (fun m k b ok z => Int.rec (motive := fun _ => IntKind → Nat → (EV → XS) → XS → XS) (fun n k m ok z => Bool.rec (ok (.int k (.ofNat (Nat.mod m n)))) z (Nat.beq n 0)) (fun n k m ok z => z) b k m ok z) (fun m k b ok z => z) a k b ok z
noncomputable def xshl : XBin := fun k a b ok z =>
  Int.rec (motive := fun _ => IntKind → Int → (EV → XS) → XS → XS) (fun m k b ok z => Int.rec (motive := fun _ => IntKind → Nat → (EV → XS) → XS → XS) (fun n k m ok z => Bool.rec z (fitN k (Nat.shiftLeft m n) ok z) (Nat.ble n (kbits k))) (fun n k m ok z => z) b k m ok z) (fun m k b ok z => z) a k b ok z
noncomputable def xshr : XBin := fun k a b ok z =>
  Int.rec (motive := fun _ => IntKind → Int → (EV → XS) → XS → XS) (fun m k b ok z => Int.rec (motive := fun _ => IntKind → Nat → (EV → XS) → XS → XS) (fun n k m ok z => Bool.rec z (ok (.int k (.ofNat (Nat.shiftRight m n)))) (Nat.ble n (kbits k))) (fun n k m ok z => z) b k m ok z) (fun m k b ok z => z) a k b ok z
noncomputable def ilt (a b : Int) : Bool :=
  Int.rec (motive := fun _ => Int → Bool) (fun m b => Int.rec (motive := fun _ => Nat → Bool) (fun n m => Nat.ble (Nat.succ m) n) (fun _ _ => false) b m) (fun m b => Int.rec (motive := fun _ => Nat → Bool) (fun _ _ => true) (fun n m => Nat.ble (Nat.succ n) m) b m) a b
noncomputable def ieq (a b : Int) : Bool :=
  Int.rec (motive := fun _ => Int → Bool) (fun m b => Int.rec (motive := fun _ => Nat → Bool) (fun n m => Nat.beq m n) (fun _ _ => false) b m) (fun m b => Int.rec (motive := fun _ => Nat → Bool) (fun _ _ => false) (fun n m => Nat.beq m n) b m) a b
noncomputable def bnot (b : Bool) : Bool := Bool.rec true false b
noncomputable def xlss : XBin := fun _ a b ok _ => ok (.bool (ilt a b))
noncomputable def xgtr : XBin := fun _ a b ok _ => ok (.bool (ilt b a))
noncomputable def xleq : XBin := fun _ a b ok _ => ok (.bool (bnot (ilt b a)))
noncomputable def xgeq : XBin := fun _ a b ok _ => ok (.bool (bnot (ilt a b)))
noncomputable def xeql : XBin := fun _ a b ok _ => ok (.bool (ieq a b))
noncomputable def xneq : XBin := fun _ a b ok _ => ok (.bool (bnot (ieq a b)))
section
variable {β : Type}
noncomputable def EV.onInt (v : EV) (f : IntKind → Int → β) (z : β) : β := EV.rec (motive_1 := fun _ => (IntKind → Int → β) → β → β) (motive_2 := fun _ => Unit) (fun k n f _ => f k n) (fun _ _ z => z) (fun _ _ z => z) (fun _ _ _ z => z) (fun _ _ _ _ _ _ z => z) (fun _ _ _ z => z) (fun _ _ _ z => z) (fun _ _ _ _ _ _ z => z) () (fun _ _ _ _ => ()) v f z
noncomputable def EV.onBool (v : EV) (f : Bool → β) (z : β) : β := EV.rec (motive_1 := fun _ => (Bool → β) → β → β) (motive_2 := fun _ => Unit) (fun _ _ _ z => z) (fun b f _ => f b) (fun _ _ z => z) (fun _ _ _ z => z) (fun _ _ _ _ _ _ z => z) (fun _ _ _ z => z) (fun _ _ _ z => z) (fun _ _ _ _ _ _ z => z) () (fun _ _ _ _ => ()) v f z
noncomputable def EV.onPtr (v : EV) (f : Nat → Nat → β) (z : β) : β := EV.rec (motive_1 := fun _ => (Nat → Nat → β) → β → β) (motive_2 := fun _ => Unit) (fun _ _ _ z => z) (fun _ _ z => z) (fun _ _ z => z) (fun b o f _ => f b o) (fun _ _ _ _ _ _ z => z) (fun _ _ _ z => z) (fun _ _ _ z => z) (fun _ _ _ _ _ _ z => z) () (fun _ _ _ _ => ()) v f z
noncomputable def EV.onSl (v : EV) (f : Nat → Nat → Nat → Nat → Nat → β) (z : β) : β := EV.rec (motive_1 := fun _ => (Nat → Nat → Nat → Nat → Nat → β) → β → β) (motive_2 := fun _ => Unit) (fun _ _ _ z => z) (fun _ _ z => z) (fun _ _ z => z) (fun _ _ _ z => z) (fun b o n c k f _ => f b o n c k) (fun _ _ _ z => z) (fun _ _ _ z => z) (fun _ _ _ _ _ _ z => z) () (fun _ _ _ _ => ()) v f z
noncomputable def EV.onTup (v : EV) (f : List EV → β) (z : β) : β := EV.rec (motive_1 := fun _ => (List EV → β) → β → β) (motive_2 := fun _ => Unit) (fun _ _ _ z => z) (fun _ _ z => z) (fun _ _ z => z) (fun _ _ _ z => z) (fun _ _ _ _ _ _ z => z) (fun _ _ _ z => z) (fun l _ f _ => f l) (fun _ _ _ _ _ _ z => z) () (fun _ _ _ _ => ()) v f z
end
noncomputable def binW (y : EV) (k : IntKind) (a : Int) (f : XBin) (ok : EV → XS) (z : XS) : XS := EV.rec (motive_1 := fun _ => IntKind → Int → XBin → (EV → XS) → XS → XS) (motive_2 := fun _ => Unit) (fun k' b k a f ok z => Bool.rec z (f k a b ok z) (Nat.beq (kcode k) (kcode k'))) (fun _ _ _ _ _ z => z) (fun _ _ _ _ _ z => z) (fun _ _ _ _ _ _ z => z) (fun _ _ _ _ _ _ _ _ _ z => z) (fun _ _ _ _ _ _ z => z) (fun _ _ _ _ _ _ z => z) (fun _ _ _ _ _ _ _ _ _ z => z) () (fun _ _ _ _ => ()) y k a f ok z
noncomputable def binV (x y : EV) (f : XBin) (ok : EV → XS) (z : XS) : XS := EV.rec (motive_1 := fun _ => EV → XBin → (EV → XS) → XS → XS) (motive_2 := fun _ => Unit) (fun k a y f ok z => binW y k a f ok z) (fun _ _ _ _ z => z) (fun _ _ _ _ z => z) (fun _ _ _ _ _ z => z) (fun _ _ _ _ _ _ _ _ z => z) (fun _ _ _ _ _ z => z) (fun _ _ _ _ _ z => z) (fun _ _ _ _ _ _ _ _ z => z) () (fun _ _ _ _ => ()) x y f ok z
noncomputable def shfW (y : EV) (k : IntKind) (a : Int) (f : XBin) (ok : EV → XS) (z : XS) : XS := EV.rec (motive_1 := fun _ => IntKind → Int → XBin → (EV → XS) → XS → XS) (motive_2 := fun _ => Unit) (fun _ b k a f ok z => f k a b ok z) (fun _ _ _ _ _ z => z) (fun _ _ _ _ _ z => z) (fun _ _ _ _ _ _ z => z) (fun _ _ _ _ _ _ _ _ _ z => z) (fun _ _ _ _ _ _ z => z) (fun _ _ _ _ _ _ z => z) (fun _ _ _ _ _ _ _ _ _ z => z) () (fun _ _ _ _ => ()) y k a f ok z
noncomputable def shfV (x y : EV) (f : XBin) (ok : EV → XS) (z : XS) : XS := EV.rec (motive_1 := fun _ => EV → XBin → (EV → XS) → XS → XS) (motive_2 := fun _ => Unit) (fun k a y f ok z => shfW y k a f ok z) (fun _ _ _ _ z => z) (fun _ _ _ _ z => z) (fun _ _ _ _ _ z => z) (fun _ _ _ _ _ _ _ _ z => z) (fun _ _ _ _ _ z => z) (fun _ _ _ _ _ z => z) (fun _ _ _ _ _ _ _ _ z => z) () (fun _ _ _ _ => ()) x y f ok z
/-- The operation by its value; on with the rest. -/
noncomputable def xthen (r : XR) (s : XP) (k : XB) (ca : XCa) (T : XF) : XS :=
  XR.rec (motive := fun _ => XP → XB → XCa → XF → XS) (fun v H s k ca T => k.run ca (s.set v T) H) (fun _ _ _ _ => .no) r s k ca T
noncomputable def xgen (P : Program) (ca : XCa) (o : Oper) (T : XF) (H : EH) : XR := .of (evOp P ca.opt o (evT T) H)
noncomputable def cGen (P : Program) (o : Oper) (s : XP) (k : XB) : XB := ⟨fun ca T H => xthen (xgen P ca o T H) s k ca T⟩
noncomputable def cMv (x : XG) (s : XP) (k : XB) : XB := ⟨fun ca T H => k.run ca (s.set (x.get T) T) H⟩
noncomputable def cBin (f : XBin) (x y : XG) (P : Program) (o : Oper) (s : XP) (k : XB) : XB := ⟨fun ca T H => binV (x.get T) (y.get T) f (fun v => k.run ca (s.set v T) H) ((cGen P o s k).run ca T H)⟩
noncomputable def cShf (f : XBin) (x y : XG) (P : Program) (o : Oper) (s : XP) (k : XB) : XB := ⟨fun ca T H => shfV (x.get T) (y.get T) f (fun v => k.run ca (s.set v T) H) ((cGen P o s k).run ca T H)⟩
noncomputable def cNot (x : XG) (s : XP) (k : XB) : XB := ⟨fun ca T H => (x.get T).onBool (fun b => k.run ca (s.set (.bool (bnot b)) T) H) .no⟩
noncomputable def cCvt (q : IntKind) (x : XG) (P : Program) (o : Oper) (s : XP) (k : XB) : XB := ⟨fun ca T H => (x.get T).onInt (fun _ n => xfit q n (fun v => k.run ca (s.set v T) H) ((cGen P o s k).run ca T H)) ((cGen P o s k).run ca T H)⟩
noncomputable def cPick (c a b : XG) (s : XP) (k : XB) : XB := ⟨fun ca T H => (c.get T).onBool (fun t => k.run ca (s.set (Bool.rec (b.get T) (a.get T) t) T) H) .no⟩
noncomputable def cLen (x : XG) (P : Program) (o : Oper) (s : XP) (k : XB) : XB := ⟨fun ca T H => (x.get T).onSl (fun _ _ n _ _ => k.run ca (s.set (.int .i64 (.ofNat n)) T) H) ((cGen P o s k).run ca T H)⟩
noncomputable def onOpt {α β : Type} (r : Option α) (f : α → β) (z : β) : β := Option.rec (motive := fun _ => (α → β) → β → β) (fun _ z => z) (fun v f _ => f v) r f z
noncomputable def ldOne (b o : Nat) (H : EH) (f : EV → XS) : XS := onOpt (H.blk? b) (fun x => Bool.rec .no (f (x.get o)) (Nat.blt o x.size)) .no
noncomputable def cLd (x : XG) (s : XP) (k : XB) : XB := ⟨fun ca T H => (x.get T).onPtr (fun b o => ldOne b o H (fun v => k.run ca (s.set v T) H)) .no⟩
noncomputable def cLdt (P : Program) (t : TypeId) (x : XG) (s : XP) (k : XB) : XB := ⟨fun ca T H => (x.get T).onPtr (fun b o => onOpt (evLoad P t b o H) (fun v => k.run ca (s.set v T) H) .no) .no⟩
noncomputable def cFad (n : Nat) (x : XG) (s : XP) (k : XB) : XB := ⟨fun ca T H => (x.get T).onPtr (fun b o => k.run ca (s.set (.ptr b (Nat.add o n)) T) H) .no⟩
noncomputable def onNat {β : Type} (n : Int) (f : Nat → β) (z : β) : β := Int.rec (motive := fun _ => (Nat → β) → β → β) (fun m f _ => f m) (fun _ _ z => z) n f z
noncomputable def cIad (q : Nat) (x i : XG) (s : XP) (k : XB) : XB := ⟨fun ca T H => (x.get T).onSl (fun b o n _ _ => (i.get T).onInt (fun _ j => onNat j (fun j => Bool.rec .no (k.run ca (s.set (.ptr b (Nat.add o (Nat.mul j q))) T) H) (Nat.blt j n)) .no) .no) .no⟩
noncomputable def cExt (i : Nat) (x : XG) (P : Program) (o : Oper) (s : XP) (k : XB) : XB := ⟨fun ca T H => (x.get T).onTup (fun l => onOpt (l[i]?) (fun v => k.run ca (s.set v T) H) .no) ((cGen P o s k).run ca T H)⟩
noncomputable def evs (l : List XG) (T : XF) : List EV := List.rec (motive := fun _ => XF → List EV) (fun _ => []) (fun x _ ih T => x.get T :: ih T) l T
noncomputable def evps (l : List (Nat × XG)) (T : XF) : List (Nat × EV) := List.rec (motive := fun _ => XF → List (Nat × EV)) (fun _ => []) (fun x _ ih T => (x.1, x.2.get T) :: ih T) l T
noncomputable def cCall (f : Nat) (l : List XG) (s : XP) (k : XB) : XB := ⟨fun ca T H => xthen (ca f (evs l T) H) s k ca T⟩
noncomputable def cNil (x : XG) (s : XP) (k : XB) : XB := ⟨fun ca T H => Bool.rec .no (k.run ca (s.set (x.get T) T) H) (isSome' (x.get T))⟩
noncomputable def cSt (P : Program) (t : TypeId) (x y : XG) (s : XP) (k : XB) : XB := ⟨fun ca T H => (x.get T).onPtr (fun b o => onOpt (evStore P t b o (y.get T) H) (fun H => k.run ca (s.set (.lit undef) T) H) .no) .no⟩
noncomputable def cBox (x : XG) (s : XP) (k : XB) : XB := ⟨fun ca T H => k.run ca (s.set (.ptr H.next 0) T) (H.new (.of (x.get T).cellsV))⟩
noncomputable def cBs (P : Program) (t : TypeId) (n : Nat) (l : List (Nat × XG)) (s : XP) (k : XB) : XB := ⟨fun ca T H => xthen (.of (evBuildSlice P t n (evps l T) H)) s k ca T⟩
noncomputable def cBd (P : Program) (t : TypeId) (l : List (Nat × XG)) (s : XP) (k : XB) : XB := ⟨fun ca T H => onOpt (evBuild P t (evps l T)) (fun v => k.run ca (s.set v T) H) .no⟩
noncomputable def cApp (P : Program) (t tx : TypeId) (a x : XG) (s : XP) (k : XB) : XB := ⟨fun ca T H => xthen (.of (evAppend P t tx (a.get T) (x.get T) H)) s k ca T⟩
def cNo : XB := ⟨fun _ _ _ => .no⟩
noncomputable def compBin (op : BinOp) (P : Program) (x y : XG) (o : Oper) (s : XP) (k : XB) : XB :=
  match op with
  | .add => cBin xadd x y P o s k | .sub => cBin xsub x y P o s k | .mul => cBin xmul x y P o s k | .quo => cBin xquo x y P o s k | .rem => cBin xrem x y P o s k
  | .and => cBin xand x y P o s k | .or => cBin xor_ x y P o s k | .xor => cBin xxor x y P o s k | .shl => cShf xshl x y P o s k | .shr => cShf xshr x y P o s k | .andNot => cGen P o s k
  | .eql => cBin xeql x y P o s k | .neq => cBin xneq x y P o s k | .lss => cBin xlss x y P o s k | .leq => cBin xleq x y P o s k | .gtr => cBin xgtr x y P o s k | .geq => cBin xgeq x y P o s k
noncomputable def compI (P : Program) (o : Oper) (s : XP) (k : XB) : XB :=
  match o.op with
  | .move x => cMv (compG x) s k
  | .assign x => cMv (compG x) s k
  | .pick c a b => cPick (compG c) (compG a) (compG b) s k
  | .load t a => match aggSize P t with
    | some none => cLd (compG a) s k
    | _ => cLdt P t (compG a) s k
  | .fieldAddr t x f => match P.underlying t with
    | some (.struct fs) => match fs[f]? with
      | some f => match P.info? f.type with
        | some i => bif Nat.beq i.size 0 then cNo else cFad f.offset (compG x) s k
        | none => cNo
      | none => cNo
    | _ => cNo
  | .indexAddr t x i => match P.underlying t with
    | some (.slice e) => match P.info? e with
      | some f => cIad f.size (compG x) (compG i) s k
      | none => cNo
    | _ => cGen P o s k
  | .binOp op t x y _ => match P.underlying t with
    | some _ => compBin op P (compG x) (compG y) o s k
    | none => cNo
  | .unOp .not _ x => cNot (compG x) s k
  | .convert src dst x => match P.underlying src, P.underlying dst with
    | some _, some (.int q) => cCvt q (compG x) P o s k
    | _, _ => cGen P o s k
  | .extract x i => cExt i (compG x) P o s k
  | .nilCheck x => cNil (compG x) s k
  | .store t x y => cSt P t (compG x) (compG y) s k
  | .box _ x => cBox (compG x) s k
  | .buildSlice t n ps => cBs P t n (ps.toList.map fun x => (x.1, compG x.2)) s k
  | .build t ps => cBd P t (ps.toList.map fun x => (x.1, compG x.2)) s k
  | .call { callee := .value (.func f), args, .. } => cCall f (args.toList.map compG) s k
  | .call { callee := .builtin .append, args, argTypes } => match args.toList, argTypes.toList with
    | [a, x], [t, tx] => cApp P t tx (compG a) (compG x) s k
    | _, _ => cNo
  | .call { callee := .builtin .len, args, argTypes } => match args.toList, argTypes.toList with
    | [x], [t] => match P.underlying t with
      | some (.slice _) => cLen (compG x) P o s k
      | _ => cGen P o s k
    | _, _ => cNo
  | _ => cGen P o s k
noncomputable def litGd (v : Value) (b z : XS) : XS := match v with
  | .bool _ => z
  | _ => b
/-- On by a guard's value. -/
noncomputable def onGd (v : EV) (w : Bool) (a b z : XS) : XS := EV.rec (motive_1 := fun _ => Bool → XS → XS → XS → XS) (motive_2 := fun _ => Unit) (fun _ _ _ _ b _ => b) (fun t w a b _ => Bool.rec (Bool.rec a b w) (Bool.rec b a w) t) (fun v _ _ b z => litGd v b z) (fun _ _ _ _ b _ => b) (fun _ _ _ _ _ _ _ b _ => b) (fun _ _ _ _ b _ => b) (fun _ _ _ _ b _ => b) (fun _ _ _ _ _ _ _ b _ => b) () (fun _ _ _ _ => ()) v w a b z
/-- An operation under a guard. -/
noncomputable def cGd (g : XG) (w : Bool) (s : XP) (i k : XB) : XB := ⟨fun ca T H => onGd (g.get T) w (i.run ca T H) (k.run ca (s.set default T) H) .no⟩
noncomputable def compGd (ops : Array Oper) (o : Oper) (s : XP) (i k : XB) : XB := match o.guard with
  | none => i
  | some (j, w) => match (ops[j]?).bind (·.dst) with
    | some g => cGd (compG (.tmp g)) w s i k
    | none => cNo
noncomputable def compDst (nt : Nat) (o : Oper) : Option XP := match o.dst with
  | none => some noP
  | some d => bif Nat.blt d nt then some (compP d) else none
noncomputable def compOne (P : Program) (nt : Nat) (ops : Array Oper) (o : Oper) (k : XB) : XB := match compDst nt o with
  | none => cNo
  | some s => compGd ops o s (compI P o s k) k
/-- Operations, one after the other. -/
noncomputable def compL (P : Program) (nt : Nat) (ops : Array Oper) (l : List Oper) (k : XB) : XB :=
  match l with
  | [] => k
  | o :: r => compOne P nt ops o (compL P nt ops r k)
noncomputable def cRs (s : XP) (k : XB) : XB := ⟨fun ca T H => k.run ca (s.set (.ptr H.next 0) T) ⟨Nat.succ H.next, H.bl⟩⟩
noncomputable def cAl (P : Program) (o : Oper) (x : XG) (s : XP) (k : XB) : XB := ⟨fun ca T H => (x.get T).onPtr (fun n _ => onOpt (evA P o (evT T)) (fun r => k.run ca (s.set (mkA r.1 n) T) (H.upd n r.2)) .no) .no⟩
noncomputable def cRe (P : Program) (o : Oper) (x : XG) (k : XB) : XB := ⟨fun ca T H => onOpt (evOp P ca.opt o (evT T) H) (fun r => Bool.rec .no (k.run ca T H) (evSame 5 r.1 (x.get T))) .no⟩
noncomputable def compIx (P : Program) (nt : Nat) (ops : Array Oper) (i : Nat) (k : XB) : XB := match ops[i]? with
  | some o => compOne P nt ops o k
  | none => cNo
noncomputable def compEarly (P : Program) (nt : Nat) (ops : Array Oper) (l : List Nat) (k : XB) : XB := match l with
  | [] => k
  | i :: r => compIx P nt ops i (compEarly P nt ops r k)
noncomputable def compLate (P : Program) (nt : Nat) (ops : Array Oper) (l : List Nat) (k : XB) : XB := match l with
  | [] => k
  | i :: r => match ops[i]? with
    | some o => bif Nat.beq (opCls P o.op) 2 then (match o.dst with
        | some d => compGd ops o (compP d) (cAl P o (compG (.tmp d)) (compP d) (compLate P nt ops r k)) (compLate P nt ops r k)
        | none => cNo)
      else compOne P nt ops o (compLate P nt ops r k)
    | none => cNo
noncomputable def compRe (P : Program) (ops : Array Oper) (l : List Nat) (k : XB) : XB := match l with
  | [] => k
  | i :: r => match ops[i]? with
    | some o => match o.dst with
      | some d => compGd ops o noP (cRe P o (compG (.tmp d)) (compRe P ops r k)) (compRe P ops r k)
      | none => cNo
    | none => cNo
noncomputable def compRs (ops : Array Oper) (l : List Nat) (k : XB) : XB := match l with
  | [] => k
  | i :: r => match (ops[i]?).bind (·.dst) with
    | some d => cRs (compP d) (compRs ops r k)
    | none => cNo
noncomputable def compStages (P : Program) (nt : Nat) (ops : Array Oper) (early late : List Nat) (l : List RStage) (k : XB) : XB := match l with
  | [] => compEarly P nt ops early (compLate P nt ops late k)
  | s :: r => compEarly P nt ops s.early (compLate P nt ops s.late (compIx P nt ops s.eff (compRe P ops s.re (compStages P nt ops early late r k))))
noncomputable def compR (P : Program) (nt : Nat) (ops : Array Oper) (p : RPlan) (k : XB) : XB := compRs ops p.rs (compStages P nt ops p.early p.late p.stages k)
noncomputable def xseq (s : XS) (k : XB) (ca : XCa) : XS := XS.rec (motive := fun _ => XB → XCa → XS) (fun T H k ca => k.run ca T H) (fun id T H _ _ => .x id T H) (fun T H _ _ => .r T H) (fun _ _ => .no) s k ca
noncomputable def xblock (id : Nat) (s : XS) : XS := XS.rec (motive := fun _ => Nat → XS) (fun T H _ => .n T H) (fun j T H id => Bool.rec (.x j T H) (.n T H) (Nat.beq j id)) (fun T H _ => .r T H) (fun _ => .no) s id
noncomputable def xloop (n : Nat) : XB → XCa → XS → XS :=
  Nat.rec (motive := fun _ => XB → XCa → XS → XS) (fun _ _ _ => .no) (fun _ ih b ca s => XS.rec (motive := fun _ => (XB → XCa → XS → XS) → XB → XCa → XS) (fun T H ih b ca => ih b ca (b.run ca T H)) (fun id T H _ _ _ => .x id T H) (fun T H _ _ _ => .r T H) (fun _ _ _ => .no) s ih b ca) n
noncomputable def cCond (c : XG) (a b : XB) : XB := ⟨fun ca T H => (c.get T).onBool (fun t => Bool.rec (b.run ca T H) (a.run ca T H) t) .no⟩
def cEnd : XB := ⟨fun _ T H => .n T H⟩
noncomputable def compC (P : Program) (nt : Nat) : Code → XB → XB
  | .skip, k => k
  | .label _, k => k
  | .ret, _ => ⟨fun _ T H => .r T H⟩
  | .exit id, _ => ⟨fun _ T H => .x id T H⟩
  | .seq a b, k => compC P nt a (compC P nt b k)
  | .cond c a b, k => cCond (compG c) (compC P nt a k) (compC P nt b k)
  | .block id c, k => let b := compC P nt c cEnd; ⟨fun ca T H => xseq (xblock id (b.run ca T H)) k ca⟩
  | .scope c, k => compC P nt c k
  | .loop c, k => let b := compC P nt c cEnd; ⟨fun ca T H => xseq (xloop 1000000 b ca (b.run ca T H)) k ca⟩
  | .region _ ops d, k => bif d then compR P nt ops (planOf P ops.toList (bmasks ops.toList [])) k else compL P nt ops ops.toList k
  | _, _ => cNo
/-- Results. -/
noncomputable def resOne (P : Program) (T : XF) (H : EH) : ResultVar → Option EV
  | .tmp t => some (evT T (.tmp t))
  | .cell a t => (evT T (.tmp a)).onPtr (fun b o => evLoad P t b o H) none
noncomputable def resAll (P : Program) (T : XF) (H : EH) : List ResultVar → Option (List EV)
  | [] => some []
  | x :: l => match resOne P T H x, resAll P T H l with
    | some v, some vs => some (v :: vs)
    | _, _ => none
inductive XFn where
  | f (c : XB) (nt : Nat) (res : List ResultVar)
  | no
noncomputable def compF (P : Program) (f : Nat) : XFn :=
  match P.funcs[f]? with
  | none => .no
  | some fn => match fn.body with
    | none => .no
    | some c => bif Nat.ble fn.ntmps 256 then .f (compC P fn.ntmps c cEnd) fn.ntmps fn.results.toList else .no
noncomputable def xframe (l : List EV) (i : Nat) (T : XF) : XF := List.rec (motive := fun _ => Nat → XF → XF) (fun _ T => T) (fun v _ ih i T => ih (Nat.succ i) ((compP i).set v T)) l i T
def xempty : XF := XN.rep (XN.rep default)
noncomputable def xres (P : Program) (res : List ResultVar) (T : XF) (H : EH) : XR :=
  match resAll P T H res with
  | some [v] => .ok v H
  | some l => .ok (.tup l) H
  | none => .no
noncomputable def xend (s : XS) (P : Program) (res : List ResultVar) : XR := XS.rec (motive := fun _ => Program → List ResultVar → XR) (fun T H P res => xres P res T H) (fun _ _ _ _ _ => .no) (fun T H P res => xres P res T H) (fun _ _ => .no) s P res
/-- One call, those within by ca; the functions in m. -/
noncomputable def xnorm (P : Program) (m : Nat) (ca : XCa) : XCa := fun f args H => Bool.rec .no (XFn.rec (motive := fun _ => XCa → Program → List EV → EH → XR) (fun c nt res ca P args H => Bool.rec .no (xend (c.run ca (xframe args 0 xempty) H) P res) (Nat.ble args.length nt)) (fun _ _ _ _ => .no) (compF P f) ca P args H) (Nat.beq (Nat.land 1 (Nat.shiftRight m f)) 1)
/-- Calls: e may answer some itself. -/
noncomputable def xcall (P : Program) (e : XCa → XCa → XCa) (m n : Nat) : XCa :=
  Nat.rec (motive := fun _ => Program → (XCa → XCa → XCa) → Nat → XCa) (fun _ _ _ _ _ _ => .no) (fun _ ih P e m => e (ih P e m) (xnorm P m (ih P e m))) n P e m
end Go.Proofs.YtacmaphhbbadjaaGreatDoor
