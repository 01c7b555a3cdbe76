/- The small machine's fast form: one operation. -/
import Derived.Test.YtacmaphhbbadjaaGreatDoorEvK
import Derived.Test.YtacmaphhbbadjaaGreatDoorEvL
namespace Go.Proofs.YtacmaphhbbadjaaGreatDoor
set_option linter.all false
open Go.RowKit

def EOps (ρ : ERho) (w : World) (ev : Operand → EV) (a : Act) (o : Oper) : Prop := ∀ x ∈ o.op.operands, ER ρ w (ev x) (a.eval x)
/-- What an operation does, wherever its operands are these. -/
def OpSpec (P : Program) (o : Oper) (T : XF) (H : EH) (v : EV) (H' : EH) : Prop := ∀ ρ w a, ERep ρ w H → EOps ρ w (evT T) a o → EOut P o a ρ w H v H'

section
variable {P : Program} {ca : XCa} {o : Oper} {s : XP} {k : XB} {T : XF} {H H' : EH} {s0 : XS} {v : EV}
theorem OpSpec.of {ca : Nat → List EV → EH → Option (EV × EH)} (hca : ECa P ca) (h : evOp P ca o (evT T) H = some (v, H')) : OpSpec P o T H v H' := by
  intro ρ w a R F
  classical
  let ev : Operand → EV := fun x => if x ∈ o.op.operands then evT T x else .lit (a.eval x)
  have h' : evOp P ca o ev H = some (v, H') := by
    rw [← h]
    exact evOp_congr (fun x hx => by simp [ev, hx]) H
  refine evOp_ok hca R (fun x => ?_) h'
  by_cases hx : x ∈ o.op.operands
  · simp only [ev, hx, if_true]; exact F x hx
  · simp only [ev, hx, if_false]; exact rfl
/-- An operation and what follows. -/
structure IOk (P : Program) (ca : XCa) (o : Oper) (s : XP) (k : XB) (T : XF) (H : EH) (s0 : XS) (v : EV) (H' : EH) : Prop where
  spec : OpSpec P o T H v H'
  plain : opCls P o.op = 0 → ∀ G, OpSpec P o T G v G
  same : opCls P o.op < 2 → H' = H
  go : k.run ca (s.set v T) H' = s0
theorem evOp_reads {ca : Nat → List EV → EH → Option (EV × EH)} {ev : Operand → EV} (hc : opCls P o.op = 1) (h : evOp P ca o ev H = some (v, H')) : H' = H := by
  have m2 : ∀ {α : Type} {r : Option α} {g : α → EV} {H : EH} {p : EV × EH}, (r.map fun v => (g v, H)) = some p → p.2 = H := by
    intro α r g H p h
    cases r with
    | none => cases h
    | some v => injection h with h; rw [← h]
  obtain ⟨dst, op, type, pos, after, guard⟩ := o
  cases op with
  | call c =>
    obtain ⟨callee, args, argTypes⟩ := c
    cases callee with
    | value f => exact nomatch (show (3 : Nat) = 1 from hc)
    | invoke r m => exact nomatch (show (3 : Nat) = 1 from hc)
    | builtin b => cases b <;> first | exact nomatch (show (3 : Nat) = 1 from hc) | exact nomatch (show (0 : Nat) = 1 from hc)
  | convert src dst x =>
    simp only [evOp, cond_eq_ite] at h
    (repeat' split at h) <;> first | (cases h; done) | (cases h; rfl) | exact m2 (p := (v, H')) h
  | load t x =>
    simp only [evOp] at h
    split at h
    · exact m2 (p := (v, H')) h
    · cases h
  | _ => first
    | exact nomatch (show (3 : Nat) = 1 from hc)
    | exact nomatch (show (2 : Nat) = 1 from hc)
    | exact nomatch (show (0 : Nat) = 1 from hc)
theorem IOk.gen (hca : ECa P ca.opt) (h : evOp P ca.opt o (evT T) H = some (v, H')) (hk : k.run ca (s.set v T) H' = s0) : IOk P ca o s k T H s0 v H' :=
  ⟨.of hca h, fun hc G => .of hca ((evOp_plain hc h).2 G), fun hc => by
    rcases Nat.lt_or_ge 0 (opCls P o.op) with h1 | h1
    · exact evOp_reads (by omega) h
    · exact (evOp_plain (by omega) h).1, hk⟩
/-- An operation whose value asks nothing of the memory. -/
theorem IOk.plainly (h : ∀ G ρ w a, ERep ρ w G → EOps ρ w (evT T) a o → EOut P o a ρ w G v G) (hk : k.run ca (s.set v T) H = s0) : IOk P ca o s k T H s0 v H :=
  ⟨h H, fun _ G => h G, fun _ => rfl, hk⟩
theorem xgen_of {r : Option (EV × EH)} {ca : XCa} (h : xthen (.of r) s k ca T = s0) (hn : s0 ≠ .no) : ∃ v H', r = some (v, H') ∧ k.run ca (s.set v T) H' = s0 := by
  cases r with
  | none => exact absurd h.symm hn
  | some p => obtain ⟨v, H'⟩ := p; exact ⟨v, H', rfl, h⟩
theorem cGen_ok (hca : ECa P ca.opt) (h : (cGen P o s k).run ca T H = s0) (hn : s0 ≠ .no) : ∃ v H', IOk P ca o s k T H s0 v H' := by
  obtain ⟨v, H', h1, h2⟩ := xgen_of (r := evOp P ca.opt o (evT T) H) h hn
  exact ⟨v, H', .gen hca h1 h2⟩
theorem kcode_inj {j k : IntKind} (h : Nat.beq (kcode j) (kcode k) = true) : j = k := by cases j <;> cases k <;> first | rfl | cases h
theorem binV_ok {x y : EV} {f : XBin} {ok : EV → XS} {z : XS} (h : binV x y f ok z = s0) : (∃ k a b, x = .int k a ∧ y = .int k b ∧ f k a b ok z = s0) ∨ z = s0 := by
  cases x with
  | int k a =>
    have h : binW y k a f ok z = s0 := h
    cases y with
    | int j b =>
      have h : (Bool.rec z (f k a b ok z) (Nat.beq (kcode k) (kcode j)) : XS) = s0 := h
      cases q : Nat.beq (kcode k) (kcode j) with
      | false => rw [q] at h; exact .inr h
      | true => rw [q] at h; exact .inl ⟨k, a, b, rfl, by rw [kcode_inj q], h⟩
    | _ => exact .inr h
  | _ => exact .inr h
theorem shfV_ok {x y : EV} {f : XBin} {ok : EV → XS} {z : XS} (h : shfV x y f ok z = s0) : (∃ k a j b, x = .int k a ∧ y = .int j b ∧ f k a b ok z = s0) ∨ z = s0 := by
  cases x with
  | int k a =>
    have h : shfW y k a f ok z = s0 := h
    cases y with
    | int j b => exact .inl ⟨k, a, j, b, rfl, rfl, h⟩
    | _ => exact .inr h
  | _ => exact .inr h
theorem compG_ev (x : Operand) (T : XF) : (compG x).get T = evT T x := rfl
theorem bin_out {op : BinOp} {t t' : TypeId} {x y : Operand} (ho : o.op = .binOp op t x y t') {k j : IntKind} {a b : Int} (hx : evT T x = .int k a) (hy : evT T y = .int j b) {V : Value}
    (hr : ∀ (w : World), (binOp op t (.int k a) (.int j b)).run P w = Result.ok V w) : ∀ G ρ w a, ERep ρ w G → EOps ρ w (evT T) a o → EOut P o a ρ w G (.of V) G := by
  intro G ρ w a' R F
  have hX := F x (by rw [ho]; simp [Op.operands])
  have hY := F y (by rw [ho]; simp [Op.operands])
  rw [hx] at hX
  rw [hy] at hY
  have hX : a'.eval x = .int k a := hX
  have hY : a'.eval y = .int j b := hY
  refine .same R ?_ (.of V)
  have hg : (eqGuard op t x y (.int k a) (.int j b)).run P w = .ok () w := by
    unfold eqGuard
    split <;> rfl
  simp only [execOp, ho, hX, hY, Sem.run_bind, hg, hr w, Result.andThen_ok]
  rfl
theorem cBin_ok (hca : ECa P ca.opt) {op : BinOp} {f : XBin} (hf : XBinOk op f) {t t' : TypeId} {x y : Operand} (ho : o.op = .binOp op t x y t') (h : (cBin f (compG x) (compG y) P o s k).run ca T H = s0) (hn : s0 ≠ .no) :
    ∃ v H', IOk P ca o s k T H s0 v H' := by
  rcases binV_ok (x := evT T x) (y := evT T y) h with ⟨q, a, b, hx, hy, h⟩ | h
  · rcases hf _ _ _ _ _ _ h with ⟨V, h1, h2⟩ | h
    · exact ⟨_, H, .plainly (bin_out ho hx hy fun w => h2 P t w) h1⟩
    · exact cGen_ok hca h hn
  · exact cGen_ok hca h hn
theorem cShf_ok (hca : ECa P ca.opt) {op : BinOp} {f : XBin} (hf : XShfOk op f) {t t' : TypeId} {x y : Operand} (ho : o.op = .binOp op t x y t') (h : (cShf f (compG x) (compG y) P o s k).run ca T H = s0) (hn : s0 ≠ .no) :
    ∃ v H', IOk P ca o s k T H s0 v H' := by
  rcases shfV_ok (x := evT T x) (y := evT T y) h with ⟨q, a, j, b, hx, hy, h⟩ | h
  · rcases hf _ _ _ _ _ _ h with ⟨V, h1, h2⟩ | h
    · exact ⟨_, H, .plainly (bin_out ho hx hy fun w => h2 P t j w) h1⟩
    · exact cGen_ok hca h hn
  · exact cGen_ok hca h hn
theorem compBin_ok (hca : ECa P ca.opt) {op : BinOp} {t t' : TypeId} {x y : Operand} (ho : o.op = .binOp op t x y t') (h : (compBin op P (compG x) (compG y) o s k).run ca T H = s0) (hn : s0 ≠ .no) :
    ∃ v H', IOk P ca o s k T H s0 v H' := by
  cases op with
  | add => exact cBin_ok hca xadd_ok ho h hn
  | sub => exact cBin_ok hca xsub_ok ho h hn
  | mul => exact cBin_ok hca xmul_ok ho h hn
  | quo => exact cBin_ok hca xquo_ok ho h hn
  | rem => exact cBin_ok hca xrem_ok ho h hn
  | and => exact cBin_ok hca xand_ok ho h hn
  | or => exact cBin_ok hca xor__ok ho h hn
  | xor => exact cBin_ok hca xxor_ok ho h hn
  | shl => exact cShf_ok hca xshl_ok ho h hn
  | shr => exact cShf_ok hca xshr_ok ho h hn
  | andNot => exact cGen_ok hca h hn
  | eql => exact cBin_ok hca xeql_ok ho h hn
  | neq => exact cBin_ok hca xneq_ok ho h hn
  | lss => exact cBin_ok hca xlss_ok ho h hn
  | leq => exact cBin_ok hca xleq_ok ho h hn
  | gtr => exact cBin_ok hca xgtr_ok ho h hn
  | geq => exact cBin_ok hca xgeq_ok ho h hn
theorem onBool_ok {x : EV} {f : Bool → XS} {z : XS} (h : x.onBool f z = s0) : (∃ b, x = .bool b ∧ f b = s0) ∨ z = s0 := by
  cases x with
  | bool b => exact .inl ⟨b, rfl, h⟩
  | _ => exact .inr h
theorem onInt_ok {x : EV} {f : IntKind → Int → XS} {z : XS} (h : x.onInt f z = s0) : (∃ k n, x = .int k n ∧ f k n = s0) ∨ z = s0 := by
  cases x with
  | int k n => exact .inl ⟨k, n, rfl, h⟩
  | _ => exact .inr h
theorem onPtr_ok {x : EV} {f : Nat → Nat → XS} {z : XS} (h : x.onPtr f z = s0) : (∃ b o, x = .ptr b o ∧ f b o = s0) ∨ z = s0 := by
  cases x with
  | ptr b o => exact .inl ⟨b, o, rfl, h⟩
  | _ => exact .inr h
theorem onSl_ok {x : EV} {f : Nat → Nat → Nat → Nat → Nat → XS} {z : XS} (h : x.onSl f z = s0) : (∃ b o n c k, x = .sl b o n c k ∧ f b o n c k = s0) ∨ z = s0 := by
  cases x with
  | sl b o n c k => exact .inl ⟨b, o, n, c, k, rfl, h⟩
  | _ => exact .inr h
theorem onTup_ok {x : EV} {f : List EV → XS} {z : XS} (h : x.onTup f z = s0) : (∃ l, x = .tup l ∧ f l = s0) ∨ z = s0 := by
  cases x with
  | tup l => exact .inl ⟨l, rfl, h⟩
  | _ => exact .inr h
theorem onOpt_ok {α : Type} {x : Option α} {f : α → XS} {z : XS} (h : onOpt x f z = s0) : (∃ v, x = some v ∧ f v = s0) ∨ z = s0 := by
  cases x with
  | none => exact .inr h
  | some v => exact .inl ⟨v, rfl, h⟩
theorem onNat_ok {x : Int} {f : Nat → XS} {z : XS} (h : onNat x f z = s0) : (∃ n : Nat, x = n ∧ f n = s0) ∨ z = s0 := by
  cases x with
  | ofNat n => exact .inl ⟨n, rfl, h⟩
  | negSucc n => exact .inr h
theorem brec_ok {b : Bool} {x y : XS} (h : (Bool.rec x y b : XS) = s0) : (b = true ∧ y = s0) ∨ (b = false ∧ x = s0) := by
  cases b with
  | true => exact .inl ⟨rfl, h⟩
  | false => exact .inr ⟨rfl, h⟩
theorem cMv_ok (hca : ECa P ca.opt) {x : Operand} (ho : o.op = .move x ∨ o.op = .assign x) (h : (cMv (compG x) s k).run ca T H = s0) : ∃ v H', IOk P ca o s k T H s0 v H' :=
  ⟨_, _, .gen hca (v := evT T x) (by rcases ho with ho | ho <;> simp [evOp, ho]) h⟩
theorem cNot_ok {t : TypeId} {x : Operand} (ho : o.op = .unOp .not t x) (h : (cNot (compG x) s k).run ca T H = s0) (hn : s0 ≠ .no) : ∃ v H', IOk P ca o s k T H s0 v H' := by
  rcases onBool_ok (x := evT T x) h with ⟨b, hx, h⟩ | h
  · refine ⟨_, _, .plainly (fun G ρ w a R F => ?_) h⟩
    have hX := F x (by rw [ho]; simp [Op.operands])
    rw [hx] at hX
    have hX : a.eval x = .bool b := hX
    refine .same R (V := .bool !b) (by simp [execOp, ho, hX, Op.unary]) ?_
    rw [bnot_eq]; exact rfl
  · exact absurd h.symm hn
theorem cCvt_ok (hca : ECa P ca.opt) {src dst : TypeId} {x : Operand} (ho : o.op = .convert src dst x) {d : TypeDesc} {q : IntKind} (h1 : P.underlying src = some d) (h2 : P.underlying dst = some (.int q))
    (h : (cCvt q (compG x) P o s k).run ca T H = s0) (hn : s0 ≠ .no) : ∃ v H', IOk P ca o s k T H s0 v H' := by
  rcases onInt_ok (x := evT T x) h with ⟨j, n, hx, h⟩ | h
  · rcases xfit_ok h with ⟨h, hw⟩ | h
    · refine ⟨_, _, .plainly (fun G ρ w a R F => ?_) h⟩
      have hX := F x (by rw [ho]; simp [Op.operands])
      rw [hx] at hX
      have hX : a.eval x = .int j n := hX
      refine .same R (V := .int q n) ?_ rfl
      have : (convert src dst (.int j n)).run P w = .ok (.int q n) w := by
        cases d <;> simp [convert, run_underlying h1, run_underlying h2, Conv.intToInt, hw]
      simp [execOp, ho, hX, this]
    · exact cGen_ok hca h hn
  · exact cGen_ok hca h hn
theorem cPick_ok (hca : ECa P ca.opt) {c x y : Operand} (ho : o.op = .pick c x y) (h : (cPick (compG c) (compG x) (compG y) s k).run ca T H = s0) (hn : s0 ≠ .no) : ∃ v H', IOk P ca o s k T H s0 v H' := by
  rcases onBool_ok (x := evT T c) h with ⟨b, hx, h⟩ | h
  · refine ⟨_, _, .gen hca (v := Bool.rec (evT T y) (evT T x) b) ?_ h⟩
    simp only [evOp, ho, hx]
    cases b <;> rfl
  · exact absurd h.symm hn
theorem cLd_ok (hca : ECa P ca.opt) {t : TypeId} {x : Operand} (ho : o.op = .load t x) (ht : aggSize P t = some none) (h : (cLd (compG x) s k).run ca T H = s0) (hn : s0 ≠ .no) : ∃ v H', IOk P ca o s k T H s0 v H' := by
  rcases onPtr_ok (x := evT T x) h with ⟨b, p, hx, h⟩ | h
  · rcases onOpt_ok h with ⟨y, hb, h⟩ | h
    · rcases brec_ok h with ⟨q, h⟩ | ⟨_, h⟩
      · refine ⟨_, _, .gen hca (v := y.get p) ?_ h⟩
        simp [evOp, ho, hx, evLoad, hb, ht, q]
      · exact absurd h.symm hn
    · exact absurd h.symm hn
  · exact absurd h.symm hn
theorem cLdt_ok (hca : ECa P ca.opt) {t : TypeId} {x : Operand} (ho : o.op = .load t x) (h : (cLdt P t (compG x) s k).run ca T H = s0) (hn : s0 ≠ .no) : ∃ v H', IOk P ca o s k T H s0 v H' := by
  rcases onPtr_ok (x := evT T x) h with ⟨b, p, hx, h⟩ | h
  · rcases onOpt_ok h with ⟨v, hv, h⟩ | h
    · exact ⟨_, _, .gen hca (v := v) (by simp [evOp, ho, hx, hv]) h⟩
    · exact absurd h.symm hn
  · exact absurd h.symm hn
theorem cFad_ok (hca : ECa P ca.opt) {t : TypeId} {x : Operand} {f : Nat} (ho : o.op = .fieldAddr t x f) {fs : Array Field} {fd : Field} {i : TypeInfo} (h1 : P.underlying t = some (.struct fs)) (h2 : fs[f]? = some fd) (h3 : P.info? fd.type = some i) (h4 : Nat.beq i.size 0 = false)
    (h : (cFad fd.offset (compG x) s k).run ca T H = s0) (hn : s0 ≠ .no) : ∃ v H', IOk P ca o s k T H s0 v H' := by
  rcases onPtr_ok (x := evT T x) h with ⟨b, p, hx, h⟩ | h
  · exact ⟨_, _, .gen hca (v := .ptr b (p + fd.offset)) (by simp only [evOp, ho, hx, h1, h2, h3, h4, cond_false]) h⟩
  · exact absurd h.symm hn
theorem cIad_ok (hca : ECa P ca.opt) {t e : TypeId} {x i : Operand} (ho : o.op = .indexAddr t x i) {f : TypeInfo} (h1 : P.underlying t = some (.slice e)) (h2 : P.info? e = some f)
    (h : (cIad f.size (compG x) (compG i) s k).run ca T H = s0) (hn : s0 ≠ .no) : ∃ v H', IOk P ca o s k T H s0 v H' := by
  rcases onSl_ok (x := evT T x) h with ⟨b, p, n, c, q, hx, h⟩ | h
  · rcases onInt_ok (x := evT T i) h with ⟨kk, j, hi, h⟩ | h
    · rcases onNat_ok h with ⟨m, rfl, h⟩ | h
      · rcases brec_ok h with ⟨hlt, h⟩ | ⟨_, h⟩
        · refine ⟨_, _, .gen hca (v := .ptr b (p + m * f.size)) ?_ h⟩
          have : (EV.int kk (m : Int)).nat? = some m := rfl
          simp only [evOp, ho, hx, hi, evIndexAddr, h1, h2, this, hlt, cond_true, Option.map_some]
        · exact absurd h.symm hn
      · exact absurd h.symm hn
    · exact absurd h.symm hn
  · exact absurd h.symm hn
theorem cExt_ok (hca : ECa P ca.opt) {x : Operand} {i : Nat} (ho : o.op = .extract x i) (h : (cExt i (compG x) P o s k).run ca T H = s0) (hn : s0 ≠ .no) : ∃ v H', IOk P ca o s k T H s0 v H' := by
  rcases onTup_ok (x := evT T x) h with ⟨l, hx, h⟩ | h
  · rcases onOpt_ok h with ⟨v, hv, h⟩ | h
    · exact ⟨_, _, .gen hca (v := v) (by simp only [evOp, ho, hx, hv, Option.map_some]) h⟩
    · exact absurd h.symm hn
  · exact cGen_ok hca h hn
theorem evs_ok (T : XF) : ∀ l : List Operand, evs (l.map compG) T = l.map (evT T)
  | [] => rfl
  | x :: l => by show (compG x).get T :: evs (l.map compG) T = _; rw [evs_ok T l]; rfl
theorem evps_ok (T : XF) : ∀ l : List (Nat × Operand), evps (l.map fun x => (x.1, compG x.2)) T = evParts (evT T) l
  | [] => rfl
  | x :: l => by show (x.1, (compG x.2).get T) :: evps (l.map fun x => (x.1, compG x.2)) T = _; rw [evps_ok T l]; rfl
theorem xthen_ok {r : XR} (h : xthen r s k ca T = s0) (hn : s0 ≠ .no) : ∃ v H', r.opt = some (v, H') ∧ k.run ca (s.set v T) H' = s0 := by
  cases r with
  | no => exact absurd h.symm hn
  | ok v H' => exact ⟨v, H', rfl, h⟩
theorem compI_ok (hca : ECa P ca.opt) (h : (compI P o s k).run ca T H = s0) (hn : s0 ≠ .no) : ∃ v H', IOk P ca o s k T H s0 v H' := by
  have gen : (cGen P o s k).run ca T H = s0 → ∃ v H', IOk P ca o s k T H s0 v H' := fun h => cGen_ok hca h hn
  have no : cNo.run ca T H = s0 → ∃ v H', IOk P ca o s k T H s0 v H' := fun h => absurd h.symm hn
  unfold compI at h
  split at h
  · rename_i x ho; exact cMv_ok hca (.inl ho) h
  · rename_i x ho; exact cMv_ok hca (.inr ho) h
  · rename_i c a b ho; exact cPick_ok hca ho h hn
  · rename_i t a ho
    split at h
    · rename_i ht; exact cLd_ok hca ho ht h hn
    · exact cLdt_ok hca ho h hn
  · rename_i t x f ho
    split at h
    · rename_i fs h1
      split at h
      · rename_i fd h2
        split at h
        · rename_i i h3
          cases h4 : Nat.beq i.size 0 with
          | true => rw [h4] at h; exact no h
          | false => rw [h4] at h; exact cFad_ok hca ho h1 h2 h3 h4 h hn
        · exact no h
      · exact no h
    · exact no h
  · rename_i t x i ho
    split at h
    · rename_i e h1
      split at h
      · rename_i f h2; exact cIad_ok hca ho h1 h2 h hn
      · exact no h
    · exact gen h
  · rename_i op t x y t' ho
    split at h
    · exact compBin_ok hca ho h hn
    · exact no h
  · rename_i t x ho; exact cNot_ok ho h hn
  · rename_i src dst x ho
    split at h
    · rename_i d q h1 h2; exact cCvt_ok hca ho h1 h2 h hn
    · exact gen h
  · rename_i x i ho; exact cExt_ok hca ho h hn
  · rename_i x ho
    rcases brec_ok h with ⟨q, h⟩ | ⟨_, h⟩
    · exact ⟨_, _, .gen hca (v := evT T x) (by rw [compG_ev] at q; simp [evOp, ho, q]) h⟩
    · exact absurd h.symm hn
  · rename_i t x y ho
    rcases onPtr_ok (x := evT T x) h with ⟨b, p, hx, h⟩ | h
    · rcases onOpt_ok h with ⟨H', hv, h⟩ | h
      · rw [compG_ev] at hv
        exact ⟨_, _, .gen hca (v := .lit undef) (H' := H') (by simp only [evOp, ho, hx, hv, Option.map_some]) h⟩
      · exact absurd h.symm hn
    · exact absurd h.symm hn
  · rename_i e x ho
    exact ⟨_, _, .gen hca (v := .ptr H.next 0) (H' := H.new (.of (evT T x).cellsV)) (by simp only [evOp, ho, evNew]) h⟩
  · rename_i t n ps ho
    obtain ⟨v, H', h1, h2⟩ := xgen_of h hn
    rw [evps_ok] at h1
    exact ⟨_, _, .gen hca (by simp only [evOp, ho]; exact h1) h2⟩
  · rename_i t ps ho
    rcases onOpt_ok h with ⟨v, hv, h⟩ | h
    · rw [evps_ok] at hv
      exact ⟨_, _, .gen hca (v := v) (by simp only [evOp, ho, hv, Option.map_some]) h⟩
    · exact absurd h.symm hn
  · rename_i f args at_ ho
    obtain ⟨v, H', h1, h2⟩ := xthen_ok h hn
    rw [evs_ok] at h1
    refine ⟨_, _, .gen hca (v := v) (H' := H') ?_ h2⟩
    have e : evT T (.func f) = .fn f [] [] := rfl
    simp only [evOp, ho, e, List.nil_append, List.append_nil]
    exact h1
  · rename_i args tys ho
    split at h
    · rename_i a x t tx e1 e2
      obtain ⟨v, H', h1, h2⟩ := xgen_of h hn
      refine ⟨_, _, .gen hca (v := v) (H' := H') ?_ h2⟩
      simp only [evOp, ho, e1, e2]
      exact h1
    · exact no h
  · rename_i args tys ho
    split at h
    · rename_i x t e1 e2
      split at h
      · rename_i e hu
        rcases onSl_ok (x := evT T x) h with ⟨b, p, n, c, q, hx, h⟩ | h
        · refine ⟨_, _, .gen hca (v := .int .i64 (.ofNat n)) (H' := H) ?_ h⟩
          simp only [evOp, ho, e1, e2, hx, hu]
        · exact gen h
      · exact gen h
    · exact no h
  · exact gen h
end
end Go.Proofs.YtacmaphhbbadjaaGreatDoor
