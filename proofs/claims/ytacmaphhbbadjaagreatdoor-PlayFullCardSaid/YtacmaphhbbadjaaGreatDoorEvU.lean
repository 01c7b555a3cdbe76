/- Regions in any order, 6: any order does what the checked one does. -/
import Derived.Test.YtacmaphhbbadjaaGreatDoorEvT
namespace Go.Proofs.YtacmaphhbbadjaaGreatDoor
set_option linter.all false
open Go.RowKit

/-- New blocks that sleep: they are there, but their turn has not come. -/
def Pds (P : Program) (ops : Array Oper) (rs : List Nat) (F T0 : XF) (nm : Nat → Nat) (listed : Array Bool) (seen n : Nat) (x : EBlk) : Prop := ∃ i, i ∈ rs ∧ Lst listed i ∧ ¬ Bit seen i ∧ n = nm i ∧ FNew P ops F T0 nm i (some x)
def Ubs (rs : List Nat) (nm : Nat → Nat) (listed : Array Bool) (n : Nat) : Prop := ∃ i, i ∈ rs ∧ ¬ Lst listed i ∧ n = nm i
open Classical in
noncomputable def curT (ops : Array Oper) (F T0 : XF) (listed : Array Bool) (t : Nat) : EV := if ∃ j, Owns ops t j ∧ Lst listed j then evT F (.tmp t) else evT T0 (.tmp t)
structure RFix (P : Program) (ops : Array Oper) (nt : Nat) (rs : List Nat) (F T0 : XF) (nm : Nat → Nat) (tot : Nat) (early late : List Nat) : Prop where
  S : RStat P ops nt rs
  inj : ∀ i ∈ rs, ∀ j ∈ rs, nm i = nm j → i = j
  plain : ∀ i, i < ops.size → RC P ops i = 0 → FPlain P ops F T0 i
  new : ∀ i, i < ops.size → RC P ops i = 2 → i ∈ rs ∧ ∃ x, FNew P ops F T0 nm i x
  full : ∀ i, i < ops.size → Bit tot i
  dst : ∀ (i : Nat) o d, ops[i]? = some o → o.dst = some d → d < nt
  order : ∃ st, chkS P ops nt rs early late st none 0 = some tot
structure RInv (P : Program) (ops : Array Oper) (nt : Nat) (rs : List Nat) (F T0 : XF) (nm : Nat → Nat) (tot : Nat) (early late : List Nat) (Hf : EH) (ρ0 : ERho) (w0 : World) (H0 : EH) (D : List Deferred)
    (listed : Array Bool) (a : Act) (w : World) (st : List RStage) (pe : Option Nat) (seen : Nat) (H : EH) (ρ : ERho) : Prop where
  chk : chkS P ops nt rs early late st pe seen = some tot
  run : StagesRun P ops F T0 nm early late st H Hf
  size : listed.size = ops.size
  dc : DC ops listed
  eff : ∀ i, RC P ops i = 3 → (Lst listed i ↔ Bit seen i)
  new : ∀ i, RC P ops i = 2 → Bit seen i → Lst listed i
  rd : ∀ i, RC P ops i = 1 → Bit seen i → ¬ Lst listed i → FEff P ops F T0 i H H
  core : RCore ρ0 w0 H0 (Pds P ops rs F T0 nm listed seen) (Ubs rs nm listed) ρ w H
  tmps : ∀ t, ER ρ w (curT ops F T0 listed t) (a.tmps.getD t undef)
  asz : a.tmps.size = nt
  dfs : a.defers = D
section
variable {P : Program} {ops : Array Oper} {nt : Nat} {rs : List Nat} {F T0 : XF} {nm : Nat → Nat} {seen tot : Nat} {T : XF} {H Hf H0 : EH} {pe : Option Nat} {early late : List Nat} {st : List RStage} {listed : Array Bool} {ρ ρ' ρ0 : ERho} {w w' w0 : World} {D : List Deferred} {a : Act} {o : Oper} {i : Nat} {v : EV} {V : Value}
theorem list_all {p : Nat → Prop} (hp : ∀ seen i, chkOne ops.toList (bmasks ops.toList []) nt seen i = true → p i) {ok : Nat → Bool} : ∀ (l : List Nat) (seen s' : Nat), chkL ops nt ok l seen = some s' → (∀ j, Bit seen j → p j) → ∀ j, Bit s' j → p j
  | [], seen, s', h, hs, j, hj => by simp [chkL, chkList] at h; subst h; exact hs j hj
  | i :: l, seen, s', h, hs, j, hj => by
    obtain ⟨c1, _, c3⟩ := chkCons h
    refine list_all hp l _ s' c3 (fun m hm => ?_) j hj
    rcases Bit_set.1 hm with rfl | hm
    · exact hp _ _ c1
    · exact hs m hm
theorem chk_all {p : Nat → Prop} (hp : ∀ seen i, chkOne ops.toList (bmasks ops.toList []) nt seen i = true → p i) : ∀ (st : List RStage) (pe : Option Nat) (seen : Nat), chkS P ops nt rs early late st pe seen = some tot → (∀ j, Bit seen j → p j) → ∀ j, Bit tot j → p j
  | [], pe, seen, h, hs, j, hj => by
    obtain ⟨s1, c1, c2⟩ := chkS_nil h
    exact list_all hp _ _ _ c2 (list_all hp _ _ _ c1 hs) j hj
  | s :: r, pe, seen, h, hs, j, hj => by
    obtain ⟨s1, s2, s3, c⟩ := chkS_cons h
    exact chk_all hp r _ s3 c.rest (list_all hp _ _ _ c.eff (list_all hp _ _ _ c.l2 (list_all hp _ _ _ c.e1 hs))) j hj
theorem Pds.less {s s' n : Nat} {x : EBlk} (h : Pds P ops rs F T0 nm listed s' n x) (hs : ∀ j, Bit s j → Bit s' j) : Pds P ops rs F T0 nm listed s n x := by
  obtain ⟨i, h1, h2, h3, h4, h5⟩ := h
  exact ⟨i, h1, h2, fun q => h3 (hs i q), h4, h5⟩
theorem RCore.wakes (hinj : ∀ i ∈ rs, ∀ j ∈ rs, nm i = nm j → i = j) {U : Nat → Prop} {ok : Nat → Bool} : ∀ (l : List Nat) (s s' : Nat) (H H2 : EH), chkL ops nt ok l s = some s' → (∀ i ∈ l, RC P ops i = 0 ∨ (RC P ops i = 2 ∧ i ∈ rs ∧ Lst listed i)) → LateRun P ops F T0 nm l H H2 →
    RCore ρ0 w0 H0 (Pds P ops rs F T0 nm listed s) U ρ w H → RCore ρ0 w0 H0 (Pds P ops rs F T0 nm listed s') U ρ w H2
  | [], s, s', H, H2, hc, _, hr, c => by
    simp [chkL, chkList] at hc; subst hc
    have hr : H2 = H := hr
    subst hr; exact c
  | i :: l, s, s', H, H2, hc, hl, hr, c => by
    obtain ⟨c1, _, c3⟩ := chkCons hc
    obtain ⟨d1, _⟩ := chkOne_spec c1
    have up : ∀ n x, Pds P ops rs F T0 nm listed (s ||| 2 ^ i) n x → Pds P ops rs F T0 nm listed s n x := fun n x h => h.less fun j hj => Bit_set.2 (.inr hj)
    rcases hr with ⟨q, _, hr⟩ | ⟨q, x, hx, hr⟩
    · exact RCore.wakes hinj l _ s' H H2 c3 (fun j hj => hl j (by simp [hj])) hr (c.weaken up fun _ h => h)
    · cases x with
      | none => exact RCore.wakes hinj l _ s' H H2 c3 (fun j hj => hl j (by simp [hj])) hr (c.weaken up fun _ h => h)
      | some x =>
        obtain ⟨_, h2, h3⟩ := (hl i (by simp)).resolve_left (by rw [q]; decide)
        have hp : Pds P ops rs F T0 nm listed s (nm i) x := ⟨i, h2, h3, d1, rfl, hx⟩
        refine RCore.wakes hinj l _ s' _ H2 c3 (fun j hj => hl j (by simp [hj])) hr ((c.wake hp).weaken (fun n y h => ⟨up n y h, fun e => ?_⟩) fun _ h => h)
        obtain ⟨j, j1, j2, j3, j4, j5⟩ := h
        have : j = i := hinj j j1 i h2 (by rw [← j4, e])
        exact j3 (by rw [this]; exact Bit_set.2 (.inl rfl))
theorem RInv.looks (X : RFix P ops nt rs F T0 nm tot early late) (I : RInv P ops nt rs F T0 nm tot early late Hf ρ0 w0 H0 D listed a w st pe seen H ρ) (hr : i ∈ Region.ready .any ops listed) (hi : ops[i]? = some o) (h : AtT ops F T0 i T) : Looks ops ρ w T a o := by
  intro t ht
  have q := I.tmps t
  rw [h o hi t ht]
  obtain ⟨r1, r2, _⟩ := ready_spec hr
  have hnl : ¬ Lst listed i := fun q => by
    unfold Lst at q
    have hlt : i < listed.size := by rw [I.size]; exact r2
    simp [hlt] at q r1
    rw [q] at r1; cases r1
  have e : wantT ops F T0 i t = curT ops F T0 listed t := by
    unfold wantT curT
    by_cases h1 : ∃ j, Owns ops t j ∧ RB ops i j
    · obtain ⟨j, h1, h2⟩ := h1
      rw [if_pos ⟨j, h1, h2⟩, if_pos ⟨j, h1, I.dc.ready hr h2⟩]
    · rw [if_neg h1, if_neg]
      rintro ⟨j, h2, h3⟩
      rcases X.S.look i o hi t ht j h2 with h4 | ⟨_, rfl | h4⟩
      · exact h1 ⟨j, h2, h4⟩
      · exact hnl h3
      · exact hnl (I.dc.closed _ _ h4 h3)
  rw [e]; exact q
theorem tmps_put (X : RFix P ops nt rs F T0 nm tot early late) (hs : listed.size = ops.size) (hi : ops[i]? = some o) (asz : a.tmps.size = nt) (h : ∀ t, ER ρ w (curT ops F T0 listed t) (a.tmps.getD t undef)) (g : EGrow ρ ρ' w w') (hf : FFits F o v) (r : ER ρ' w' v V) :
    ∀ t, ER ρ' w' (curT ops F T0 (listed.setIfInBounds i true) t) ((a.put o.dst V).tmps.getD t undef) := by
  intro t
  have hlt : i < listed.size := by rw [hs]; exact (Array.getElem?_eq_some_iff.1 hi).1
  by_cases hd : o.dst = some t
  · have e : curT ops F T0 (listed.setIfInBounds i true) t = v := by
      unfold curT
      rw [if_pos ⟨i, ⟨o, hi, hd⟩, (Lst.set hlt).2 (.inl rfl)⟩]
      exact hf t hd
    rw [e, hd, put_getD (by rw [asz]; exact X.dst i o t hi hd), if_pos rfl]
    exact r
  · have e : curT ops F T0 (listed.setIfInBounds i true) t = curT ops F T0 listed t := by
      unfold curT
      by_cases h1 : ∃ j, Owns ops t j ∧ Lst listed j
      · obtain ⟨j, h1, h2⟩ := h1
        rw [if_pos ⟨j, h1, (Lst.set hlt).2 (.inr h2)⟩, if_pos ⟨j, h1, h2⟩]
      · rw [if_neg h1, if_neg]
        rintro ⟨j, h2, h3⟩
        rcases (Lst.set hlt).1 h3 with rfl | h3
        · obtain ⟨o', h4, h5⟩ := h2
          rw [hi] at h4; injection h4 with h4; subst h4
          exact hd h5
        · exact h1 ⟨j, h2, h3⟩
    have e2 : (a.put o.dst V).tmps.getD t undef = a.tmps.getD t undef := by
      cases hq : o.dst with
      | none => rfl
      | some d =>
        rw [put_getD (by rw [asz]; exact X.dst i o d hi hq), if_neg]
        rintro rfl
        exact hd hq
    rw [e, e2]
    exact (h t).mono g _ _
theorem OneSpecP.wpOp {Q : Exit → Act → World → Prop} {K : Act → World → Prop} {H' : EH} (e : OneSpecP P ops o T H v H') (R : ERep ρ w H) (L : Looks ops ρ w T a o) (hi : ops[i]? = some o)
    (hK : ∀ V ρ' w', EStep ρ w H ρ' w' H' → ER ρ' w' v V → K (a.put o.dst V) w') : wpOp P ops Q i K a w := by
  unfold Go.wpOp
  simp only [hi]
  rcases e _ _ _ R L with ⟨hw, e⟩ | ⟨hw, rfl, rfl⟩
  · rw [hw, if_pos rfl]
    exact .inl (e.wp hK)
  · rw [hw, if_neg (by simp)]
    exact hK _ _ _ (.refl R) .default
/-- A block's cells are one block's. -/
theorem FNew.one {x y : EBlk} (h1 : FNew P ops F T0 nm i (some x)) (h2 : FNew P ops F T0 nm i (some y)) : x = y := by
  obtain ⟨o, T, q, d, hi, hat, _, hA, _⟩ := h1
  obtain ⟨o', T', q', d', hi', hat', _, hA', _⟩ := h2
  rw [hi] at hi'; injection hi' with hi'; subst hi'
  have e : evA P o (evT T) = evA P o (evT T') := evA_congr fun z hz => by
    cases z with
    | tmp t =>
      have ht : t ∈ o.looksAt ops := by
        simp only [Oper.looksAt, List.mem_append, List.mem_filterMap]
        exact .inl ⟨.tmp t, by simpa using hz, rfl⟩
      show evT T (.tmp t) = evT T' (.tmp t)
      rw [hat o hi t ht, hat' o hi t ht]
    | _ => rfl
  rw [e, hA'] at hA
  injection hA with hA; injection hA with _ hA
  exact hA.symm
end
end Go.Proofs.YtacmaphhbbadjaaGreatDoor
