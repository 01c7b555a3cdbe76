/- The small machine: a region in any order; a function's text. -/
import Derived.Test.YtacmaphhbbadjaaGreatDoorEvV
import Derived.Scope
namespace Go.Proofs.YtacmaphhbbadjaaGreatDoor
set_option linter.all false
open Go.RowKit

section
variable {P : Program} {ca : XCa} {ops : Array Oper} {nt : Nat} {T : XF} {H : EH} {s0 : XS} {k : XB} {ρ : ERho} {w : World} {a : Act}
theorem chkPlan_order {p : RPlan} (h : chkPlan P ops.toList (bmasks ops.toList []) nt p = true) : chkS P ops nt p.rs p.early p.late p.stages none 0 = some (2 ^ ops.size - 1) := by
  unfold chkPlan at h
  simp only [Bool.and_eq_true] at h
  have h := h.1.1.1
  split at h
  · rename_i seen hs
    have e : seen = 2 ^ ops.size - 1 := by simpa using beq_iff.1 h
    rw [← e]; exact hs
  · cases h
theorem compR_ok (hca : ECa P ca.opt) (h256 : nt ≤ 256) (hm : P.follows .mixedOrders = true) {p : RPlan} (hp : chkPlan P ops.toList (bmasks ops.toList []) nt p = true) {id : Nat} {Q : Exit → Act → World → Prop}
    (h : (compR P nt ops p k).run ca T H = s0) (hn : s0 ≠ .no) (R : ERep ρ w H) (Fr : XFrm nt ρ w T a)
    (hQ : ∀ T' H' ρ' w' a', EStep ρ w H ρ' w' H' → XFrm nt ρ' w' T' a' → a'.defers = a.defers → k.run ca T' H' = s0 → Q .normal a' w') : (Code.region id ops true).wp P Q a w := by
  have S := chkPlan_stat hp
  have hst := chkPlan_order hp
  refine wp_region_any hm ?_
  have h : (compRs ops p.rs (compStages P nt ops p.early p.late p.stages k)).run ca T H = s0 := h
  obtain ⟨T1, g1, g2, g3⟩ := compRs_ok h256 S.uniq p.rs T H (fun i hi => (S.res i hi).2) S.nodup h hn
  let nm : Nat → Nat := fun i => H.next + p.rs.idxOf i
  have R1 : RRun ops p.rs T nm 0 T1 := ⟨fun i hi _ o d ho hd => g2 i hi o d ho hd, fun t ht => g3 t fun i hi ho => (ht i ho).2 hi, fun i hi => by unfold Bit at hi; simp at hi⟩
  have nobit : ∀ i, ¬ Bit 0 i := fun i hi => by unfold Bit at hi; simp at hi
  obtain ⟨T2, Hf, g4, R2, g5⟩ := R1.stages hca h256 S p.stages none 0 T1 _ hst g1 hn fun F _ i hi => absurd hi (nobit i)
  obtain ⟨_, run⟩ := g5 T2 fun t _ => rfl
  have full : ∀ i, i < ops.size → Bit (2 ^ ops.size - 1) i := fun i hi => by unfold Bit; rw [Nat.testBit_two_pow_sub_one]; simpa using hi
  have X : RFix P ops nt p.rs T2 T nm (2 ^ ops.size - 1) p.early p.late := ⟨S, fun i hi j hj e => ?_, fun i hi hc => (chk_new _ _ _ _ hst run i (full i hi) (nobit i)).2 hc, fun i hi hc => (chk_new _ _ _ _ hst run i (full i hi) (nobit i)).1 hc, full, fun i o d ho hd => ?_, _, hst⟩
  · have nl : ∀ i, ¬ Lst (Array.replicate ops.size false) i := fun i q => by
      unfold Lst at q
      by_cases hi : i < ops.size <;> simp [hi] at q
    have I : RInv P ops nt p.rs T2 T nm (2 ^ ops.size - 1) p.early p.late Hf ρ w.drew H a.defers (Array.replicate ops.size false) a w.drew p.stages none 0 ⟨H.next + p.rs.length, H.bl⟩ ρ := by
      refine ⟨hst, run, by simp, fun i o ho hl => absurd hl (nl i), fun i _ => ⟨fun q => absurd q (nl i), fun q => absurd q (nobit i)⟩, fun i _ q => absurd q (nobit i), fun i _ q => absurd q (nobit i), ?_, fun t => ?_, Fr.size, rfl⟩
      · refine ⟨R.drew.reserve _ (Nat.le_add_right _ _), fun _ _ h => h, fun _ _ => rfl, .refl _ _, fun B hB => .inl (hB.same fun b x hx => ⟨x, hx⟩), Nat.le_add_right _ _, ?_, ?_, ?_⟩
        · rintro n x ⟨i, _, q, _⟩; exact absurd q (nl i)
        · rintro n x m y B ba bb ⟨i, _, q, _⟩; exact absurd q (nl i)
        · rintro n ⟨i, hi, _, rfl⟩
          exact ⟨R.next _ (Nat.le_add_right _ _), Nat.le_add_right _ _, Nat.add_lt_add_left (List.idxOf_lt_length_of_mem hi) _⟩
      · unfold curT
        rw [if_neg (fun ⟨j, _, q⟩ => nl j q)]
        exact (Fr.rel t).mono (.drew ρ w) _ _
    refine I.any X (fun t ht => R2.t0 t fun j hj => absurd hj (ht j)) (fun a' w' ρ' st fr hd => hQ T2 Hf ρ' w' a' ((EStep.drew R).trans st) fr hd g4) ops.size _ _ _ _ _ _ _ _ ?_
    have := List.count_le_length (a := false) (l := (Array.replicate ops.size false).toList)
    rwa [show (Array.replicate ops.size false).toList.length = ops.size by simp] at this
  · have e : p.rs.idxOf i = p.rs.idxOf j := Nat.add_left_cancel e
    have h1 := List.idxOf_lt_length_of_mem hi
    have q1 : p.rs[p.rs.idxOf i]'h1 = i := List.getElem_idxOf h1
    have h2 := List.idxOf_lt_length_of_mem hj
    have q2 : p.rs[p.rs.idxOf j]'h2 = j := List.getElem_idxOf h2
    rw [← q1, ← q2]
    congr 1
  · refine chk_all (p := fun i => ∀ o d, ops[i]? = some o → o.dst = some d → d < nt) (fun seen i hc o d ho hd => ?_) _ _ _ hst (fun j hj => absurd hj (nobit j)) i (full i (Array.getElem?_eq_some_iff.1 ho).1) o d ho hd
    obtain ⟨_, _, o', ho', q⟩ := chkOne_spec hc
    rw [ho] at ho'; injection ho' with ho'; subst ho'
    exact q d hd
theorem XFrm.eval (F : XFrm nt ρ w T a) (x : Operand) : ER ρ w (evT T x) (a.eval x) := by
  cases x with
  | tmp t => exact F.rel t
  | const v => exact .of v
  | func f => exact ⟨#[], #[], rfl, trivial, trivial⟩
  | global g => exact rfl
end
def chkC (P : Program) (nt : Nat) : Code → Bool
  | .region _ ops d => bif d then chkPlan P ops.toList (bmasks ops.toList []) nt (planOf P ops.toList (bmasks ops.toList [])) else true
  | .seq a b => chkC P nt a && chkC P nt b
  | .cond _ a b => chkC P nt a && chkC P nt b
  | .block _ c => chkC P nt c
  | .scope c => chkC P nt c
  | .loop c => chkC P nt c
  | _ => true
structure XAt (nt : Nat) (ρ : ERho) (w : World) (H : EH) (a : Act) (T' : XF) (H' : EH) (ρ' : ERho) (w' : World) (a' : Act) : Prop where
  step : EStep ρ w H ρ' w' H'
  frm : XFrm nt ρ' w' T' a'
  dfs : a'.defers = a.defers
def XPost (nt : Nat) (ca : XCa) (k : XB) (s0 : XS) (ρ : ERho) (w : World) (H : EH) (a : Act) : Exit → Act → World → Prop
  | .normal, a', w' => ∃ T' H' ρ', XAt nt ρ w H a T' H' ρ' w' a' ∧ k.run ca T' H' = s0
  | .exit id, a', w' => ∃ T' H' ρ', XAt nt ρ w H a T' H' ρ' w' a' ∧ s0 = .x id T' H'
  | .ret, a', w' => ∃ T' H' ρ', XAt nt ρ w H a T' H' ρ' w' a' ∧ s0 = .r T' H'
  | _, _, _ => False
section
variable {P : Program} {ca : XCa} {nt : Nat} {T T' : XF} {H H' : EH} {s0 : XS} {k : XB} {ρ ρ' : ERho} {w w' : World} {a a' : Act}
theorem XAt.trans {T'' : XF} {H'' : EH} {ρ'' : ERho} {w'' : World} {a'' : Act} (h : XAt nt ρ w H a T' H' ρ' w' a') (q : XAt nt ρ' w' H' a' T'' H'' ρ'' w'' a'') : XAt nt ρ w H a T'' H'' ρ'' w'' a'' := ⟨h.step.trans q.step, q.frm, q.dfs.trans h.dfs⟩
theorem XPost.trans (h : XAt nt ρ w H a T' H' ρ' w' a') {e : Exit} {b : Act} {v : World} (q : XPost nt ca k s0 ρ' w' H' a' e b v) : XPost nt ca k s0 ρ w H a e b v := by
  cases e <;> first | exact q | (obtain ⟨T'', H'', ρ'', q1, q2⟩ := q; exact ⟨T'', H'', ρ'', h.trans q1, q2⟩)
theorem compC_skip : compC P nt .skip k = k := rfl
theorem compC_label (l : Nat) : compC P nt (.label l) k = k := rfl
theorem compC_ret : compC P nt .ret k = ⟨fun _ T H => .r T H⟩ := rfl
theorem compC_exit (id : Nat) : compC P nt (.exit id) k = ⟨fun _ T H => .x id T H⟩ := rfl
theorem compC_seq (x y : Code) : compC P nt (.seq x y) k = compC P nt x (compC P nt y k) := rfl
theorem compC_cond (c : Operand) (x y : Code) : compC P nt (.cond c x y) k = cCond (compG c) (compC P nt x k) (compC P nt y k) := rfl
theorem compC_block (id : Nat) (c : Code) : compC P nt (.block id c) k = ⟨fun ca T H => xseq (xblock id ((compC P nt c cEnd).run ca T H)) k ca⟩ := rfl
theorem compC_scope (c : Code) : compC P nt (.scope c) k = compC P nt c k := rfl
theorem compC_region (id : Nat) (ops : Array Oper) (d : Bool) : compC P nt (.region id ops d) k = bif d then compR P nt ops (planOf P ops.toList (bmasks ops.toList [])) k else compL P nt ops ops.toList k := rfl
theorem compC_range (f : Operand) (ps : Array Tmp) (x y : Code) : compC P nt (.rangeFunc f ps x y) k = cNo := rfl
theorem compC_goto (l : Nat) : compC P nt (.goto l) k = cNo := rfl
theorem compC_loop (c : Code) : ∃ N : Nat, compC P nt (.loop c) k = ⟨fun ca T H => xseq (xloop N (compC P nt c cEnd) ca ((compC P nt c cEnd).run ca T H)) k ca⟩ := ⟨1000000, rfl⟩
def COk (P : Program) (ca : XCa) (nt : Nat) (c : Code) : Prop := ∀ (k : XB) (T : XF) (H : EH) (s0 : XS) (ρ : ERho) (w : World) (a : Act), chkC P nt c = true → (compC P nt c k).run ca T H = s0 → s0 ≠ .no → ERep ρ w H → XFrm nt ρ w T a →
    c.wp P (XPost nt ca k s0 ρ w H a) a w
theorem COk.skip : COk P ca nt .skip := fun k T H s0 ρ w a hc h hn R F => by
  rw [compC_skip] at h
  exact wp_skip ⟨T, H, ρ, ⟨.refl R, F, rfl⟩, h⟩
theorem COk.label (l : Nat) : COk P ca nt (.label l) := fun k T H s0 ρ w a hc h hn R F => by
  rw [compC_label] at h
  exact wp_label ⟨T, H, ρ, ⟨.refl R, F, rfl⟩, h⟩
theorem COk.ret : COk P ca nt .ret := fun k T H s0 ρ w a hc h hn R F => by
  rw [compC_ret] at h
  exact wp_ret ⟨T, H, ρ, ⟨.refl R, F, rfl⟩, h.symm⟩
theorem COk.exit (id : Nat) : COk P ca nt (.exit id) := fun k T H s0 ρ w a hc h hn R F => by
  rw [compC_exit] at h
  exact wp_exit ⟨T, H, ρ, ⟨.refl R, F, rfl⟩, h.symm⟩
theorem COk.seq {x y : Code} (hx : COk P ca nt x) (hy : COk P ca nt y) : COk P ca nt (.seq x y) := fun k T H s0 ρ w a hc h hn R F => by
  simp only [chkC, Bool.and_eq_true] at hc
  rw [compC_seq] at h
  refine wp_seq (wp_mono (hx (compC P nt y k) T H s0 ρ w a hc.1 h hn R F) fun e b v q => ?_)
  cases e with
  | normal =>
    obtain ⟨T', H', ρ', q1, q2⟩ := q
    exact wp_mono (hy k T' H' s0 ρ' v b hc.2 q2 hn q1.step.rep q1.frm) fun e b v q => q.trans q1
  | exit id => exact q
  | ret => exact q
  | goto l => exact q
  | panic l => exact q
  | outgrown => exact q
theorem COk.cond (c : Operand) {x y : Code} (hx : COk P ca nt x) (hy : COk P ca nt y) : COk P ca nt (.cond c x y) := fun k T H s0 ρ w a hc h hn R F => by
  simp only [chkC, Bool.and_eq_true] at hc
  rw [compC_cond] at h
  have h : (evT T c).onBool (fun t => Bool.rec ((compC P nt y k).run ca T H) ((compC P nt x k).run ca T H) t) .no = s0 := h
  rcases onBool_ok h with ⟨b, hb, h⟩ | h
  · have hv := F.eval c
    rw [hb] at hv
    have hv : a.eval c = .bool b := hv
    refine wp_cond hv ?_
    cases b with
    | true => exact hx k T H s0 ρ w a hc.1 h hn R F
    | false => exact hy k T H s0 ρ w a hc.2 h hn R F
  · exact absurd h.symm hn
theorem COk.block (id : Nat) {c : Code} (hx : COk P ca nt c) : COk P ca nt (.block id c) := fun k T H s0 ρ w a hc h hn R F => by
  rw [compC_block] at h
  have h : xseq (xblock id ((compC P nt c cEnd).run ca T H)) k ca = s0 := h
  generalize hs : (compC P nt c cEnd).run ca T H = s1 at h
  have hn1 : s1 ≠ .no := fun e => hn (by rw [e] at h; exact h.symm)
  refine wp_block (wp_mono (hx cEnd T H s1 ρ w a hc hs hn1 R F) fun e b v q => ?_)
  cases e with
  | normal =>
    obtain ⟨T', H', ρ', q1, q2⟩ := q
    have q2 : XS.n T' H' = s1 := q2
    rw [← q2] at h
    exact ⟨T', H', ρ', q1, h⟩
  | exit j =>
    obtain ⟨T', H', ρ', q1, q2⟩ := q
    rw [q2] at h
    have h : xseq (Bool.rec (.x j T' H') (.n T' H') (Nat.beq j id)) k ca = s0 := h
    show if j = id then _ else _
    by_cases e : j = id
    · rw [if_pos e]
      rw [e, Nat.beq_refl] at h
      exact ⟨T', H', ρ', q1, h⟩
    · rw [if_neg e]
      have : Nat.beq j id = false := by
        cases q : Nat.beq j id with
        | false => rfl
        | true => exact absurd (Nat.eq_of_beq_eq_true q) e
      rw [this] at h
      exact ⟨T', H', ρ', q1, h.symm⟩
  | ret =>
    obtain ⟨T', H', ρ', q1, q2⟩ := q
    rw [q2] at h
    exact ⟨T', H', ρ', q1, h.symm⟩
  | goto l => exact q
  | panic l => exact q
  | outgrown => exact q
theorem COk.scope {c : Code} (hx : COk P ca nt c) : COk P ca nt (.scope c) := fun k T H s0 ρ w a hc h hn R F => by
  rw [compC_scope] at h
  refine wp_scope_straight (wp_mono (hx k T H s0 ρ w a hc h hn R F) fun e b v q => ?_)
  cases e <;> exact q
theorem xloop_zero (b : XB) (s : XS) : xloop 0 b ca s = .no := rfl
theorem xloop_n (n : Nat) (b : XB) (T : XF) (H : EH) : xloop (n + 1) b ca (.n T H) = xloop n b ca (b.run ca T H) := rfl
theorem xloop_x (n : Nat) (b : XB) (j : Nat) (T : XF) (H : EH) : xloop (n + 1) b ca (.x j T H) = .x j T H := rfl
theorem xloop_r (n : Nat) (b : XB) (T : XF) (H : EH) : xloop (n + 1) b ca (.r T H) = .r T H := rfl
theorem xloop_no (n : Nat) (b : XB) : xloop (n + 1) b ca .no = .no := rfl
def LoopAt (P : Program) (ca : XCa) (nt : Nat) (c : Code) (s1 : XS) (ρ : ERho) (w : World) (H : EH) (a : Act) (n : Nat) (b : Act) (v : World) : Prop :=
  ∃ T' H' ρ', XAt nt ρ w H a T' H' ρ' v b ∧ xloop n (compC P nt c cEnd) ca ((compC P nt c cEnd).run ca T' H') = s1
theorem least {p : Nat → Prop} (h : ∃ n, p n) : ∃ n, p n ∧ ∀ m, p m → n ≤ m := by
  obtain ⟨n, hn⟩ := h
  induction n using Nat.strongRecOn with
  | _ n ih =>
    by_cases q : ∃ m, m < n ∧ p m
    · obtain ⟨m, q1, q2⟩ := q
      exact ih m q1 q2
    · exact ⟨n, hn, fun m hm => Nat.le_of_not_lt fun q' => q ⟨m, q', hm⟩⟩
theorem loop_wp {c : Code} {Q : Exit → Act → World → Prop} (J : Nat → Act → World → Prop) {N : Nat} (h0 : J N a w) (hz : ∀ b v, ¬ J 0 b v)
    (round : ∀ n b v, J (n + 1) b v → c.wp P (Exit.then (J n) Q) b v) : (Code.loop c).wp P Q a w := by
  classical
  refine wp_loop (fun b v => ∃ n, J n b v) (fun b v => if q : ∃ n, J n b v then (least q).choose else 0) ⟨N, h0⟩ fun b v hJ => ?_
  have hspec := (least hJ).choose_spec.1
  rw [dif_pos hJ]
  generalize (least hJ).choose = m at hspec
  cases m with
  | zero => exact absurd hspec (hz b v)
  | succ m =>
    refine wp_mono (round m b v hspec) fun e b' v' q => ?_
    cases e with
    | normal =>
      have q : J m b' v' := q
      refine ⟨⟨m, q⟩, ?_⟩
      rw [dif_pos ⟨m, q⟩]
      exact Nat.lt_succ_of_le ((least ⟨m, q⟩).choose_spec.2 _ q)
    | _ => exact q
theorem COk.loop {c : Code} (hx : COk P ca nt c) : COk P ca nt (.loop c) := fun k T H s0 ρ w a hc h hn R F => by
  obtain ⟨N, hN⟩ := compC_loop (P := P) (nt := nt) (k := k) c
  rw [hN] at h
  have h : xseq (xloop N (compC P nt c cEnd) ca ((compC P nt c cEnd).run ca T H)) k ca = s0 := h
  generalize hs1 : xloop N (compC P nt c cEnd) ca ((compC P nt c cEnd).run ca T H) = s1 at h
  have hn1 : s1 ≠ .no := fun e => hn (by rw [e] at h; exact h.symm)
  refine loop_wp (LoopAt P ca nt c s1 ρ w H a) (N := N) ⟨T, H, ρ, ⟨.refl R, F, rfl⟩, hs1⟩ ?_ fun m b v hJ => ?_
  · rintro b v ⟨T', H', ρ', _, q⟩
    rw [xloop_zero] at q
    exact hn1 q.symm
  · obtain ⟨T', H', ρ', q1, q2⟩ := hJ
    generalize hs2 : (compC P nt c cEnd).run ca T' H' = s2 at q2
    have hn2 : s2 ≠ .no := fun e => hn1 (by rw [e, xloop_no] at q2; exact q2.symm)
    refine wp_mono (hx cEnd T' H' s2 ρ' v b hc hs2 hn2 q1.step.rep q1.frm) fun e b' v' q => ?_
    cases e with
    | normal =>
      obtain ⟨T2, H2, ρ2, q3, q4⟩ := q
      have q4 : XS.n T2 H2 = s2 := q4
      rw [← q4, xloop_n] at q2
      exact ⟨T2, H2, ρ2, q1.trans q3, q2⟩
    | exit j =>
      obtain ⟨T2, H2, ρ2, q3, q4⟩ := q
      rw [q4, xloop_x] at q2
      rw [← q2] at h
      exact ⟨T2, H2, ρ2, q1.trans q3, h.symm⟩
    | ret =>
      obtain ⟨T2, H2, ρ2, q3, q4⟩ := q
      rw [q4, xloop_r] at q2
      rw [← q2] at h
      exact ⟨T2, H2, ρ2, q1.trans q3, h.symm⟩
    | goto l => exact q
    | panic l => exact q
    | outgrown => exact q
theorem COk.region (hca : ECa P ca.opt) (h256 : nt ≤ 256) (hm : P.follows .mixedOrders = true) (id : Nat) (ops : Array Oper) (d : Bool) : COk P ca nt (.region id ops d) := fun k T H s0 ρ w a hc h hn R F => by
  rw [compC_region] at h
  cases d with
  | true => exact compR_ok hca h256 hm hc h hn R F fun T' H' ρ' w' a' s f hd hk => ⟨T', H', ρ', ⟨s, f, hd⟩, hk⟩
  | false => exact wp_region_list (compL_ok hca h256 _ T H s0 ρ w a h hn R F fun T' H' ρ' w' a' s f hd hk => ⟨T', H', ρ', ⟨s, f, hd⟩, hk⟩)
theorem compC_ok (hca : ECa P ca.opt) (h256 : nt ≤ 256) (hm : P.follows .mixedOrders = true) (c : Code) : COk P ca nt c := by
  induction c with
  | skip => exact .skip
  | region id ops d => exact .region hca h256 hm id ops d
  | seq x y hx hy => exact .seq hx hy
  | cond c x y hx hy => exact .cond c hx hy
  | block id c hx => exact .block id hx
  | loop c hx => exact .loop hx
  | rangeFunc f ps x y hx hy =>
    intro k T H s0 ρ w a hc h hn R F
    rw [compC_range] at h
    exact absurd h.symm hn
  | exit id => exact .exit id
  | scope c hx => exact .scope hx
  | label l => exact .label l
  | goto l =>
    intro k T H s0 ρ w a hc h hn R F
    rw [compC_goto] at h
    exact absurd h.symm hn
  | ret => exact .ret
  | refuse r =>
    intro k T H s0 ρ w a hc h hn R F
    have h : XS.no = s0 := h
    exact absurd h.symm hn
end
end Go.Proofs.YtacmaphhbbadjaaGreatDoor
