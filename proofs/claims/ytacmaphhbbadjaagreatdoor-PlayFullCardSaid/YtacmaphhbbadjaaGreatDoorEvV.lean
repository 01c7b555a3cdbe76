/- Regions in any order, 7: one operation of any order; the end. -/
import Derived.Test.YtacmaphhbbadjaaGreatDoorEvU
namespace Go.Proofs.YtacmaphhbbadjaaGreatDoor
set_option linter.all false
open Go.RowKit

section
variable {P : Program} {ops : Array Oper} {nt : Nat} {rs : List Nat} {F T0 : XF} {nm : Nat → Nat} {seen tot : Nat} {T : XF} {H H' Hf H0 : EH} {pe : Option Nat} {early late : List Nat} {st : List RStage} {listed : Array Bool} {ρ ρ' ρ0 : ERho} {w w' w0 : World} {D : List Deferred} {a : Act} {o : Oper} {i : Nat} {v : EV} {V : Value}
theorem ready_not (hs : listed.size = ops.size) (hr : i ∈ Region.ready .any ops listed) : ¬ Lst listed i := fun q => by
  obtain ⟨r1, r2, _⟩ := ready_spec hr
  unfold Lst at q
  have hlt : i < listed.size := by rw [hs]; exact r2
  simp [hlt] at q r1
  rw [q] at r1; cases r1
/-- An operation that works nothing, and is no new block. -/
theorem RInv.still (X : RFix P ops nt rs F T0 nm tot early late) (I : RInv P ops nt rs F T0 nm tot early late Hf ρ0 w0 H0 D listed a w st pe seen H ρ) (hr : i ∈ Region.ready .any ops listed) (hi : ops[i]? = some o) (hc : RC P ops i < 2)
    (s : EStep ρ w H ρ' w' H) (r : ER ρ' w' v V) (hf : FFits F o v) : RInv P ops nt rs F T0 nm tot early late Hf ρ0 w0 H0 D (listed.setIfInBounds i true) (a.put o.dst V) w' st pe seen H ρ' := by
  have hlt : i < listed.size := by rw [I.size]; exact (ready_spec hr).2.1
  have other : ∀ j, RC P ops j ≥ 2 → (Lst (listed.setIfInBounds i true) j ↔ Lst listed j) := fun j hj => by
    rw [Lst.set hlt]
    constructor
    · rintro (rfl | h)
      · omega
      · exact h
    · exact .inr
  refine ⟨I.chk, I.run, by simp [I.size], I.dc.set hr hlt, fun j hj => (other j (by omega)).trans (I.eff j hj), fun j hj hb => (other j (by omega)).2 (I.new j hj hb), fun j hj hb hn => I.rd j hj hb fun q => hn ((Lst.set hlt).2 (.inr q)), (I.core.step s).weaken ?_ ?_, tmps_put X I.size hi I.asz I.tmps s.grow hf r, by rw [put_size]; exact I.asz, by rw [put_defers]; exact I.dfs⟩
  · rintro n x ⟨j, h1, h2, h3, h4, h5⟩
    exact ⟨j, h1, (other j (by rw [(X.S.res j h1).1]; decide)).1 h2, h3, h4, h5⟩
  · rintro n ⟨j, h1, h2, h3⟩
    exact ⟨j, h1, fun q => h2 ((other j (by rw [(X.S.res j h1).1]; decide)).2 q), h3⟩
theorem RInv.birth (X : RFix P ops nt rs F T0 nm tot early late) (I : RInv P ops nt rs F T0 nm tot early late Hf ρ0 w0 H0 D listed a w st pe seen H ρ) (hr : i ∈ Region.ready .any ops listed) (hi : ops[i]? = some o) (hc : RC P ops i = 2) (hrs : i ∈ rs)
    (g : EGrow ρ ρ' w w') (r : ER ρ' w' v V) (hf : FFits F o v) (c : RCore ρ0 w0 H0 (Pds P ops rs F T0 nm (listed.setIfInBounds i true) seen) (Ubs rs nm (listed.setIfInBounds i true)) ρ' w' H) :
    RInv P ops nt rs F T0 nm tot early late Hf ρ0 w0 H0 D (listed.setIfInBounds i true) (a.put o.dst V) w' st pe seen H ρ' := by
  have hlt : i < listed.size := by rw [I.size]; exact (ready_spec hr).2.1
  refine ⟨I.chk, I.run, by simp [I.size], I.dc.set hr hlt, fun j hj => ?_, fun j hj hb => (Lst.set hlt).2 (.inr (I.new j hj hb)), fun j hj hb hn => I.rd j hj hb fun q => hn ((Lst.set hlt).2 (.inr q)), c, tmps_put X I.size hi I.asz I.tmps g hf r, by rw [put_size]; exact I.asz, by rw [put_defers]; exact I.dfs⟩
  rw [Lst.set hlt, ← I.eff j hj]
  constructor
  · rintro (rfl | h)
    · rw [hc] at hj; cases hj
    · exact h
  · exact .inr
theorem RInv.work (X : RFix P ops nt rs F T0 nm tot early late) {s : RStage} {r : List RStage} (I : RInv P ops nt rs F T0 nm tot early late Hf ρ0 w0 H0 D listed a w (s :: r) pe seen H ρ) (hr : s.eff ∈ Region.ready .any ops listed) (hi : ops[s.eff]? = some o) {Q : Exit → Act → World → Prop} {K : Act → World → Prop}
    (hK : ∀ a' w' st' pe' seen' H' ρ', RInv P ops nt rs F T0 nm tot early late Hf ρ0 w0 H0 D (listed.setIfInBounds s.eff true) a' w' st' pe' seen' H' ρ' → K a' w') : wpOp P ops Q s.eff K a w := by
  obtain ⟨s1, s2, s3, c⟩ := chkS_cons I.chk
  obtain ⟨b, b2, b3, _, b5, b6⟩ := c.bits
  obtain ⟨e1, H2, H3, e2, e3, e4, e5⟩ := I.run
  have hlt : s.eff < listed.size := by rw [I.size]; exact (ready_spec hr).2.1
  have up1 : ∀ j, Bit seen j → Bit s1 j := fun j hj => ((chkList_spec c.e1).2 j).2 (.inr hj)
  have c1 := RCore.wakes (P := P) (F := F) (T0 := T0) (ok := chkLate P ops.toList (bmasks ops.toList []) rs (some s.eff)) X.inj s.late s1 s2 H H2 c.l2 (fun i hi => (late_mem c hi).imp id fun q => ⟨q.1, q.2.1, I.dc.ready hr q.2.2⟩) e2 (I.core.weaken (fun n x h => h.less up1) fun _ h => h)
  obtain ⟨o', T, v, hi', hat, hs, hf⟩ := e3
  rw [hi] at hi'; injection hi' with hi'; subst hi'
  refine hs.wpOp c1.rep (I.looks X hr hi hat) hi fun V ρ' w' st rv => ?_
  refine hK _ _ r (some s.eff) s3 H3 ρ' ⟨c.rest, e5, by simp [I.size], I.dc.set hr hlt, fun j hj => ?_, fun j hj hb => ?_, fun j hj hb hn => ?_, (c1.step st).weaken ?_ ?_, tmps_put X I.size hi I.asz I.tmps st.grow hf rv, by rw [put_size]; exact I.asz, by rw [put_defers]; exact I.dfs⟩
  · rw [Lst.set hlt, I.eff j hj, b]
    constructor
    · rintro (h | h)
      · exact .inl h
      · exact .inr (.inr (.inr h))
    · rintro (h | h | h | h)
      · exact .inl h
      · rcases late_mem c h with q | ⟨q, _⟩ <;> rw [q] at hj <;> cases hj
      · rcases early_mem c h with q | q <;> rw [q] at hj <;> cases hj
      · exact .inr h
  · rw [Lst.set hlt]
    rcases (b j).1 hb with h | h | h | h
    · rw [h, b3] at hj; cases hj
    · rcases late_mem c h with q | ⟨_, _, q⟩
      · rw [q] at hj; cases hj
      · exact .inr (I.dc.ready hr q)
    · rcases early_mem c h with q | q <;> rw [q] at hj <;> cases hj
    · exact .inr (I.new j hj h)
  · have hjs : j < ops.size := by
      apply Classical.byContradiction
      intro q
      have : RC P ops j = 3 := by
        unfold RC cOf
        rw [List.getElem?_eq_none (by simpa using q)]
      rw [hj] at this; cases this
    rcases c.all j hjs hb hj with q | q
    · exact absurd ((Lst.set hlt).2 (.inr (I.dc.ready hr q))) hn
    · exact e4 j q
  · rintro n x ⟨j, h1, h2, h3, h4, h5⟩
    refine ⟨j, h1, ?_, fun q => ?_, h4, h5⟩
    · rcases (Lst.set hlt).1 h2 with rfl | h2
      · have := (X.S.res _ h1).1; rw [b3] at this; cases this
      · exact h2
    · refine h3 ((b j).2 ?_)
      rcases ((chkList_spec c.l2).2 j).1 q with q | q
      · exact .inr (.inl q)
      · rcases ((chkList_spec c.e1).2 j).1 q with q | q
        · exact .inr (.inr (.inl q))
        · exact .inr (.inr (.inr q))
  · rintro n ⟨j, h1, h2, h3⟩
    exact ⟨j, h1, fun q => h2 ((Lst.set hlt).2 (.inr q)), h3⟩
/-- One operation, whichever. -/
theorem RInv.step (X : RFix P ops nt rs F T0 nm tot early late) (I : RInv P ops nt rs F T0 nm tot early late Hf ρ0 w0 H0 D listed a w st pe seen H ρ) (hr : i ∈ Region.ready .any ops listed) {Q : Exit → Act → World → Prop} {K : Act → World → Prop}
    (hK : ∀ a' w' st' pe' seen' H' ρ', RInv P ops nt rs F T0 nm tot early late Hf ρ0 w0 H0 D (listed.setIfInBounds i true) a' w' st' pe' seen' H' ρ' → K a' w') : wpOp P ops Q i K a w := by
  obtain ⟨_, r2, o, hi, _⟩ := ready_spec hr
  have hnl := ready_not I.size hr
  have hlt : i < listed.size := by rw [I.size]; exact r2
  have hcls : RC P ops i = 0 ∨ RC P ops i = 1 ∨ RC P ops i = 2 ∨ RC P ops i = 3 := by
    have : ∀ op : Op, opCls P op = 0 ∨ opCls P op = 1 ∨ opCls P op = 2 ∨ opCls P op = 3 := by
      intro op
      unfold opCls
      (repeat' split) <;> simp
    rw [RC_eq hi]; exact this _
  have hun : ¬ ∃ e, RC P ops e = 3 ∧ ¬ Bit seen e ∧ RB ops i e := by
    rintro ⟨e, h1, h2, h3⟩
    exact h2 ((I.eff e h1).1 (I.dc.ready hr h3))
  rcases hcls with hc | hc | hc | hc
  · obtain ⟨o', T, v, hi', hat, hs, hf⟩ := X.plain i r2 hc
    rw [hi] at hi'; injection hi' with hi'; subst hi'
    exact (hs H).wpOp I.core.rep (I.looks X hr hi hat) hi fun V ρ' w' s r => hK _ _ _ _ _ _ _ (I.still X hr hi (by omega) s r hf)
  · have hE : FEff P ops F T0 i H H := by
      by_cases hb : Bit seen i
      · exact I.rd i hc hb hnl
      · have h1 := (chk_read st pe seen I.chk i (X.full i r2) hb hc).resolve_right hun
        have := I.run
        cases st with
        | nil => exact (this.1 i h1).2 hc
        | cons s r => exact (this.1 i h1).2 hc
    obtain ⟨o', T, v, hi', hat, hs, hf⟩ := hE
    rw [hi] at hi'; injection hi' with hi'; subst hi'
    exact hs.wpOp I.core.rep (I.looks X hr hi hat) hi fun V ρ' w' s r => hK _ _ _ _ _ _ _ (I.still X hr hi (by omega) s r hf)
  · obtain ⟨hrs, x, hx⟩ := X.new i r2 hc
    have hub : Ubs rs nm listed (nm i) := ⟨i, hrs, hnl, rfl⟩
    have lset : ∀ j, j ≠ i → (Lst (listed.setIfInBounds i true) j ↔ Lst listed j) := fun j hj => by rw [Lst.set hlt]; simp [hj]
    have ub' : ∀ n, Ubs rs nm (listed.setIfInBounds i true) n → Ubs rs nm listed n ∧ n ≠ nm i := by
      rintro n ⟨j, h1, h2, h3⟩
      have hj : j ≠ i := fun e => h2 ((Lst.set hlt).2 (.inl e))
      exact ⟨⟨j, h1, fun q => h2 ((Lst.set hlt).2 (.inr q)), h3⟩, fun e => hj (X.inj j h1 i hrs (by rw [← h3, e]))⟩
    cases x with
    | none =>
      obtain ⟨o', T, d, hi', hat, hw, hd, hv⟩ := hx
      rw [hi] at hi'; injection hi' with hi'; subst hi'
      have hw' := hw ρ w a (I.looks X hr hi hat)
      unfold wpOp
      simp only [hi]
      rw [hw', if_neg (by simp)]
      refine hK _ _ _ _ _ _ _ (I.birth X hr hi hc hrs (.refl _ _) .default (fun d' hd' => by rw [hd] at hd'; injection hd' with hd'; rw [← hd', hv]) (I.core.weaken ?_ fun n hn => (ub' n hn).1))
      rintro n x ⟨j, h1, h2, h3, h4, h5⟩
      refine ⟨j, h1, (lset j fun e => ?_).1 h2, h3, h4, h5⟩
      subst e
      obtain ⟨o2, T2, q2, d2, hi2, hat2, hw2, _⟩ := h5
      rw [hi] at hi2; injection hi2 with hi2; subst hi2
      have := hw2 ρ w a (I.looks X hr hi hat2)
      rw [hw'] at this; cases this
    | some x =>
      have hx0 := hx
      obtain ⟨o', T, q, d, hi', hat, hw, hA, hd, hv⟩ := hx
      rw [hi] at hi'; injection hi' with hi'; subst hi'
      have L := I.looks X hr hi hat
      obtain ⟨cs, t, hrun, hbc⟩ := evA_ok L.eops hA
      obtain ⟨c1, g⟩ := I.core.birth (t := t) hub hbc
      unfold wpOp
      simp only [hi]
      rw [hw ρ w a L, if_pos rfl]
      refine .inl ?_
      unfold Oper.wp
      rw [hrun, Oper.upon_value]
      refine hK _ _ _ _ _ _ _ (I.birth X hr hi hc hrs g (v := mkA q (nm i)) (mkA_ok (rho_self _ _ _)) (fun d' hd' => by rw [hd] at hd'; injection hd' with hd'; rw [← hd', hv]) (c1.weaken ?_ ub'))
      rintro n y ⟨j, h1, h2, h3, h4, h5⟩
      by_cases e : j = i
      · subst e
        exact .inr ⟨h4, h5.one hx0⟩
      · exact .inl ⟨j, h1, (lset j e).1 h2, h3, h4, h5⟩
  · rcases chk_eff st pe seen I.chk i (X.full i r2) (fun q => hnl ((I.eff i hc).2 q)) hc with ⟨s, r, rfl, rfl⟩ | q
    · exact RInv.work X I hr hi hK
    · exact absurd q hun
theorem count_set {l : Array Bool} {i : Nat} (h : l[i]? = some false) : (l.setIfInBounds i true).toList.count false + 1 = l.toList.count false := by
  have hlt : i < l.size := (Array.getElem?_eq_some_iff.1 h).1
  have he : l.toList[i]? = some false := by simpa using h
  have : ∀ (m : List Bool) (i : Nat), m[i]? = some false → (m.set i true).count false + 1 = m.count false := by
    intro m
    induction m with
    | nil => intro i h; simp at h
    | cons b m ih =>
      intro i h
      cases i with
      | zero =>
        have hb : b = false := by simpa using h
        subst hb; simp
      | succ i =>
        have := ih i (by simpa using h)
        simp only [List.set_cons_succ, List.count_cons]
        omega
  have q := this _ _ he
  simpa using q
theorem RInv.any (X : RFix P ops nt rs F T0 nm tot early late) {Q : Exit → Act → World → Prop} (hF : ∀ t, (∀ j, ¬ Owns ops t j) → evT F (.tmp t) = evT T0 (.tmp t))
    (hQ : ∀ a w ρ, EStep ρ0 w0 H0 ρ w Hf → XFrm nt ρ w F a → a.defers = D → Q .normal a w) : ∀ (fuel : Nat) (listed : Array Bool) (a : Act) (w : World) (st : List RStage) (pe : Option Nat) (seen : Nat) (H : EH) (ρ : ERho), RInv P ops nt rs F T0 nm tot early late Hf ρ0 w0 H0 D listed a w st pe seen H ρ →
    listed.toList.count false ≤ fuel → wpAny P .any ops Q fuel listed a w := by
  have fin : ∀ (listed : Array Bool) (a : Act) (w : World) (st : List RStage) (pe : Option Nat) (seen : Nat) (H : EH) (ρ : ERho), RInv P ops nt rs F T0 nm tot early late Hf ρ0 w0 H0 D listed a w st pe seen H ρ → Region.ready .any ops listed = [] → Q .normal a w := by
    intro listed a w st pe seen H ρ I hr
    obtain ⟨st0, hst0⟩ := X.order
    have hall := all_listed I.size hr st0 none 0 hst0 (fun j hj => by unfold Bit at hj; simp at hj)
    have hall' : ∀ j, j < ops.size → Lst listed j := fun j hj => hall j (X.full j hj)
    cases st with
    | cons s r =>
      obtain ⟨s1, s2, s3, c⟩ := chkS_cons I.chk
      obtain ⟨b, _, b3, _, _, b6⟩ := c.bits
      obtain ⟨e1, _, _⟩ := chkCons c.eff
      obtain ⟨_, _, o, ho, _⟩ := chkOne_spec e1
      exact absurd ((I.eff _ b3).1 (hall' _ (Array.getElem?_eq_some_iff.1 ho).1)) b6
    | nil =>
      obtain ⟨s1, c1, c2⟩ := chkS_nil I.chk
      obtain ⟨e1, e2⟩ := I.run
      have up1 : ∀ j, Bit seen j → Bit s1 j := fun j hj => ((chkList_spec c1).2 j).2 (.inr hj)
      have c := RCore.wakes (P := P) (F := F) (T0 := T0) (ok := chkLate P ops.toList (bmasks ops.toList []) rs none) X.inj late s1 tot H Hf c2 (fun i hi => (late_cls ((chkList_spec c2).1 i hi).1).imp id fun q => ⟨q.1, q.2.1, hall' i ((chkList_spec c2).1 i hi).2.2⟩) e2 (I.core.weaken (fun n x h => h.less up1) fun _ h => h)
      refine hQ a w ρ ⟨c.ext, c.rep, c.kp, c.new, c.next, c.old⟩ ⟨fun t => ?_, I.asz⟩ I.dfs
      have q := I.tmps t
      unfold curT at q
      split at q
      · exact q
      · rename_i h
        rw [hF t fun j hj => h ⟨j, hj, ?_⟩]
        · exact q
        · obtain ⟨o, ho, _⟩ := hj
          exact hall' j (Array.getElem?_eq_some_iff.1 ho).1
  intro fuel
  induction fuel with
  | zero =>
    intro listed a w st pe seen H ρ I hc
    have hr : Region.ready .any ops listed = [] := by
      apply List.eq_nil_iff_forall_not_mem.2
      intro i hi
      obtain ⟨r1, r2, _⟩ := ready_spec hi
      have hlt : i < listed.size := by rw [I.size]; exact r2
      have h0 : listed.toList.count false = 0 := by omega
      rw [List.count_eq_zero] at h0
      refine h0 ?_
      simp [hlt] at r1
      rw [← r1]
      simp
    exact ⟨hr, fin _ _ _ _ _ _ _ _ I hr⟩
  | succ fuel ih =>
    intro listed a w st pe seen H ρ I hc
    refine ⟨fin _ _ _ _ _ _ _ _ I, fun i hi => ?_⟩
    refine I.step X hi fun a' w' st' pe' seen' H' ρ' I' => ih _ _ _ _ _ _ _ _ I' ?_
    obtain ⟨r1, r2, _⟩ := ready_spec hi
    have hlt : i < listed.size := by rw [I.size]; exact r2
    have := count_set (l := listed) (i := i) (by simp [hlt] at r1 ⊢; exact r1)
    omega
end
end Go.Proofs.YtacmaphhbbadjaaGreatDoor
