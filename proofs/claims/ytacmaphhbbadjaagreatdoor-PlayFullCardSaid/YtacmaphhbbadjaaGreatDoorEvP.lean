/- Regions in any order, 2: what the order's check says; what the run of one order shows. -/
import Derived.Test.YtacmaphhbbadjaaGreatDoorEvO
namespace Go.Proofs.YtacmaphhbbadjaaGreatDoor
set_option linter.all false
open Go.RowKit

def Owns (ops : Array Oper) (t j : Nat) : Prop := ∃ o, ops[j]? = some o ∧ o.dst = some t
def Bit (s i : Nat) : Prop := s.testBit i = true
def RC (P : Program) (ops : Array Oper) (i : Nat) : Nat := cOf P ops.toList i
/-- What the check says of the operations. -/
structure RStat (P : Program) (ops : Array Oper) (nt : Nat) (rs : List Nat) : Prop where
  uniq : ∀ i j t, Owns ops t i → Owns ops t j → i = j
  look : ∀ i o, ops[i]? = some o → ∀ t ∈ o.looksAt ops, ∀ j, Owns ops t j → RB ops i j ∨ (RC P ops j ≠ 2 ∧ (i = j ∨ RB ops j i))
  res : ∀ i ∈ rs, RC P ops i = 2 ∧ ∃ o d, ops[i]? = some o ∧ o.dst = some d ∧ d < nt
  nodup : rs.Nodup
section
variable {P : Program} {ca : XCa} {ops : Array Oper} {nt : Nat} {rs : List Nat}
theorem RC_eq {i : Nat} {o : Oper} (h : ops[i]? = some o) : RC P ops i = opCls P o.op := by
  unfold RC cOf
  have : ops.toList[i]? = some o := by simpa using h
  rw [this]
theorem beq_iff {a b : Nat} : Nat.beq a b = true ↔ a = b := ⟨Nat.eq_of_beq_eq_true, fun h => by subst h; exact Nat.beq_refl _⟩
theorem zipIdx_all {f : Oper × Nat → Bool} (h : ops.toList.zipIdx.all f = true) {i : Nat} {o : Oper} (hi : ops[i]? = some o) : f (o, i) = true := by
  rw [List.all_eq_true] at h
  refine h _ ?_
  rw [List.mem_zipIdx_iff_getElem?]
  simpa using hi
theorem chkPlan_stat {p : RPlan} (h : chkPlan P ops.toList (bmasks ops.toList []) nt p = true) : RStat P ops nt p.rs := by
  unfold chkPlan at h
  simp only [Bool.and_eq_true] at h
  obtain ⟨⟨⟨_, h2⟩, h3⟩, h4⟩ := h
  refine ⟨?_, ?_, ?_, of_decide_eq_true h3⟩
  · rintro i j t ⟨o, hi, hd⟩ ⟨o', hj, hd'⟩
    have := zipIdx_all h4 hi
    simp only [Bool.and_eq_true] at this
    have := zipIdx_all this.2 hj
    rw [hd] at this
    simp only [Bool.or_eq_true, beq_iff, bne_iff_ne, ne_eq, hd', not_true, or_false] at this
    exact this
  · rintro i o hi t ht j ⟨o', hj, hd'⟩
    have := zipIdx_all h4 hi
    simp only [Bool.and_eq_true] at this
    have := this.1
    rw [List.all_eq_true] at this
    have := zipIdx_all (this t (by simpa using ht)) hj
    simp only [Bool.or_eq_true, Bool.and_eq_true, bne_iff_ne, ne_eq, hd', not_true, false_or, Bool.not_eq_true', beq_iff] at this
    rcases this with h | ⟨h1, h2⟩
    · exact .inl h
    · refine .inr ⟨?_, h2⟩
      rw [RC_eq hj]
      intro q
      rw [q] at h1; cases h1
  · intro i hi
    rw [List.all_eq_true] at h2
    have := h2 i hi
    split at this
    · rename_i o ho
      have ho : ops[i]? = some o := by simpa using ho
      simp only [Bool.and_eq_true, beq_iff] at this
      obtain ⟨h1, h2⟩ := this
      split at h2
      · rename_i d hd
        exact ⟨by rw [RC_eq ho]; exact h1, o, d, ho, hd, blt_lt h2⟩
      · cases h2
    · cases this
theorem chkOne_spec {seen i : Nat} (h : chkOne ops.toList (bmasks ops.toList []) nt seen i = true) : ¬ Bit seen i ∧ (∀ j, RB ops i j → Bit seen j) ∧ ∃ o, ops[i]? = some o ∧ ∀ d, o.dst = some d → d < nt := by
  unfold chkOne at h
  split at h
  · rename_i o ho
    simp only [Bool.and_eq_true, Bool.not_eq_true', beq_iff] at h
    obtain ⟨⟨h1, h2⟩, h3⟩ := h
    refine ⟨fun q => (by unfold Bit at q; rw [h1] at q; cases q), fun j hj => ?_, o, by simpa using ho, fun d hd => ?_⟩
    · unfold RB at hj
      rw [← h2, Nat.testBit_and, Bool.and_eq_true] at hj
      exact hj.2
    · rw [hd] at h3; exact blt_lt h3
  · cases h
theorem Bit_set {s i j : Nat} : Bit (s ||| 2 ^ i) j ↔ j = i ∨ Bit s j := by
  unfold Bit
  rw [Nat.testBit_or, Bool.or_eq_true, Nat.testBit_two_pow, decide_eq_true_eq]
  constructor
  · rintro (h | h)
    · exact .inr h
    · exact .inl h.symm
  · rintro (h | h)
    · exact .inr h.symm
    · exact .inl h
theorem chkList_spec {ok : Nat → Bool} : ∀ {l : List Nat} {seen seen' : Nat}, chkList ops.toList (bmasks ops.toList []) nt ok l seen = some seen' →
    (∀ i ∈ l, ok i = true ∧ ¬ Bit seen i ∧ i < ops.size) ∧ (∀ j, Bit seen' j ↔ j ∈ l ∨ Bit seen j)
  | [], seen, seen', h => by simp [chkList] at h; subst h; exact ⟨by simp, by simp⟩
  | i :: l, seen, seen', h => by
    simp only [chkList] at h
    cases q : (chkOne ops.toList (bmasks ops.toList []) nt seen i && ok i) with
    | false => rw [q] at h; cases h
    | true =>
      rw [q] at h
      simp only [Bool.and_eq_true] at q
      obtain ⟨k1, k2⟩ := chkList_spec (l := l) h
      obtain ⟨c1, c2, o, c3, _⟩ := chkOne_spec q.1
      refine ⟨fun j hj => ?_, fun j => ?_⟩
      · rcases List.mem_cons.1 hj with rfl | hj
        · exact ⟨q.2, c1, (Array.getElem?_eq_some_iff.1 c3).1⟩
        · exact ⟨(k1 j hj).1, fun hb => (k1 j hj).2.1 (Bit_set.2 (.inr hb)), (k1 j hj).2.2⟩
      · rw [k2 j, Bit_set, List.mem_cons]
        constructor
        · rintro (h | h | h)
          · exact .inl (.inr h)
          · exact .inl (.inl h)
          · exact .inr h
        · rintro ((h | h) | h)
          · exact .inr (.inl h)
          · exact .inl h
          · exact .inr (.inr h)

open Classical in
/-- What stands in a temporary when operation i looks at it. -/
noncomputable def wantT (ops : Array Oper) (F T0 : XF) (i t : Nat) : EV := if ∃ j, Owns ops t j ∧ RB ops i j then evT F (.tmp t) else evT T0 (.tmp t)
def AtT (ops : Array Oper) (F T0 : XF) (i : Nat) (T : XF) : Prop := ∀ o, ops[i]? = some o → ∀ t ∈ o.looksAt ops, evT T (.tmp t) = wantT ops F T0 i t
def FFits (F : XF) (o : Oper) (v : EV) : Prop := ∀ d, o.dst = some d → evT F (.tmp d) = v
def OneSpecP (P : Program) (ops : Array Oper) (o : Oper) (T : XF) (H : EH) (v : EV) (H' : EH) : Prop := ∀ ρ w a, ERep ρ w H → Looks ops ρ w T a o →
  (Region.wanted o (yielded ops a.tmps) = true ∧ EOut P o a ρ w H v H') ∨ (Region.wanted o (yielded ops a.tmps) = false ∧ v = default ∧ H' = H)
theorem OneSpec.p {o : Oper} {T : XF} {H : EH} {v : EV} {H' : EH} (h : OneSpec P ops o T H v H') : OneSpecP P ops o T H v H' := fun ρ w a R L => by
  rcases h with ⟨h1, h2⟩ | ⟨h1, h2, h3⟩
  · exact .inl ⟨h1 _ _ _ L, h2 _ _ _ R L.eops⟩
  · exact .inr ⟨h1 _ _ _ L, h2, h3⟩
def FPlain (P : Program) (ops : Array Oper) (F T0 : XF) (i : Nat) : Prop := ∃ o T v, ops[i]? = some o ∧ AtT ops F T0 i T ∧ (∀ G, OneSpecP P ops o T G v G) ∧ FFits F o v
def FEff (P : Program) (ops : Array Oper) (F T0 : XF) (i : Nat) (H H' : EH) : Prop := ∃ o T v, ops[i]? = some o ∧ AtT ops F T0 i T ∧ OneSpecP P ops o T H v H' ∧ FFits F o v
def FGd (P : Program) (ops : Array Oper) (F T0 : XF) (i : Nat) : Prop := ∃ o T v, ops[i]? = some o ∧ AtT ops F T0 i T ∧ FFits F o v ∧ (Wants ops o T true ∨ (Wants ops o T false ∧ v = default))
def FNew (P : Program) (ops : Array Oper) (F T0 : XF) (nm : Nat → Nat) (i : Nat) : Option EBlk → Prop
  | some x => ∃ o T q d, ops[i]? = some o ∧ AtT ops F T0 i T ∧ Wants ops o T true ∧ evA P o (evT T) = some (q, x) ∧ o.dst = some d ∧ evT F (.tmp d) = mkA q (nm i)
  | none => ∃ o T d, ops[i]? = some o ∧ AtT ops F T0 i T ∧ Wants ops o T false ∧ o.dst = some d ∧ evT F (.tmp d) = default
def EarlyOk (P : Program) (ops : Array Oper) (F T0 : XF) (H : EH) (l : List Nat) : Prop := ∀ i ∈ l, (RC P ops i = 0 → FPlain P ops F T0 i) ∧ (RC P ops i = 1 → FEff P ops F T0 i H H)
noncomputable def putA (H : EH) (n : Nat) : Option EBlk → EH
  | some x => H.upd n x
  | none => H
def LateRun (P : Program) (ops : Array Oper) (F T0 : XF) (nm : Nat → Nat) : List Nat → EH → EH → Prop
  | [], H, H2 => H2 = H
  | i :: r, H, H2 => (RC P ops i = 0 ∧ FPlain P ops F T0 i ∧ LateRun P ops F T0 nm r H H2) ∨ (RC P ops i = 2 ∧ ∃ x, FNew P ops F T0 nm i x ∧ LateRun P ops F T0 nm r (putA H (nm i) x) H2)
def StagesRun (P : Program) (ops : Array Oper) (F T0 : XF) (nm : Nat → Nat) (early late : List Nat) : List RStage → EH → EH → Prop
  | [], H, Hf => EarlyOk P ops F T0 H early ∧ LateRun P ops F T0 nm late H Hf
  | s :: r, H, Hf => EarlyOk P ops F T0 H s.early ∧ ∃ H2 H3, LateRun P ops F T0 nm s.late H H2 ∧ FEff P ops F T0 s.eff H2 H3 ∧ (∀ i ∈ s.re, FEff P ops F T0 i H3 H3) ∧ StagesRun P ops F T0 nm early late r H3 Hf

/-- The run of the order, part of the way: those in seen have come up. -/
structure RRun (ops : Array Oper) (rs : List Nat) (T0 : XF) (nm : Nat → Nat) (seen : Nat) (T : XF) : Prop where
  rsv : ∀ i ∈ rs, ¬ Bit seen i → ∀ o d, ops[i]? = some o → o.dst = some d → evT T (.tmp d) = .ptr (nm i) 0
  t0 : ∀ t, (∀ j, Owns ops t j → ¬ Bit seen j ∧ j ∉ rs) → evT T (.tmp t) = evT T0 (.tmp t)
  closed : ∀ i, Bit seen i → ∀ j, RB ops i j → Bit seen j
def FinT (ops : Array Oper) (seen : Nat) (T F : XF) : Prop := ∀ t, (∀ j, Owns ops t j → Bit seen j) → evT F (.tmp t) = evT T (.tmp t)
variable {F T0 : XF} {nm : Nat → Nat} {seen seen' : Nat} {T T' : XF} {H H' : EH} {s0 : XS} {k : XB}
theorem compDst_set {o : Oper} {s : XP} (h256 : nt ≤ 256) (h : compDst nt o = some s) (v : EV) (T : XF) (t : Nat) : evT (s.set v T) (.tmp t) = if o.dst = some t then v else evT T (.tmp t) := by
  unfold compDst at h
  split at h
  · rename_i hd; injection h with h; subst h; rw [hd, if_neg (by simp)]; rfl
  · rename_i d hd
    cases q : Nat.blt d nt with
    | false => rw [q] at h; cases h
    | true =>
      rw [q] at h; injection h with h; subst h
      rw [evT_set (Nat.lt_of_lt_of_le (blt_lt q) h256), hd]
      by_cases e : t = d
      · subst e; simp
      · rw [if_neg e, if_neg (by simp; exact fun h => e h.symm)]
/-- One comes up, and its place is set. -/
theorem RRun.next (S : RStat P ops nt rs) (R : RRun ops rs T0 nm seen T) {i : Nat} {o : Oper} (hi : ops[i]? = some o) (hb : ∀ j, RB ops i j → Bit seen j) {v : EV} (hT : ∀ t, evT T' (.tmp t) = if o.dst = some t then v else evT T (.tmp t)) : RRun ops rs T0 nm (seen ||| 2 ^ i) T' := by
  refine ⟨fun j hj hn o' d hj' hd => ?_, fun t h => ?_, fun j hj l hl => ?_⟩
  · have hne : j ≠ i := fun e => hn (Bit_set.2 (.inl e))
    rw [hT, if_neg (fun e => hne (S.uniq j i d ⟨o', hj', hd⟩ ⟨o, hi, e⟩))]
    exact R.rsv j hj (fun q => hn (Bit_set.2 (.inr q))) o' d hj' hd
  · rw [hT, if_neg (fun e => (h i ⟨o, hi, e⟩).1 (Bit_set.2 (.inl rfl)))]
    exact R.t0 t fun j hj => ⟨fun q => (h j hj).1 (Bit_set.2 (.inr q)), (h j hj).2⟩
  · rcases Bit_set.1 hj with rfl | hj
    · exact Bit_set.2 (.inr (hb l hl))
    · exact Bit_set.2 (.inr (R.closed j hj l hl))
theorem FinT.prev {i : Nat} {o : Oper} (hi : ops[i]? = some o) (hn : ¬ Bit seen i) {v : EV} (hT : ∀ t, evT T' (.tmp t) = if o.dst = some t then v else evT T (.tmp t)) (h : FinT ops (seen ||| 2 ^ i) T' F) : FinT ops seen T F := fun t ht => by
  rw [h t (fun j hj => Bit_set.2 (.inr (ht j hj))), hT, if_neg (fun e => hn (ht i ⟨o, hi, e⟩))]
theorem FinT.fits (S : RStat P ops nt rs) {i : Nat} {o : Oper} (hi : ops[i]? = some o) {v : EV} (hT : ∀ t, evT T' (.tmp t) = if o.dst = some t then v else evT T (.tmp t)) (h : FinT ops (seen ||| 2 ^ i) T' F) : FFits F o v := fun d hd => by
  rw [h d (fun j hj => by rw [S.uniq j i d hj ⟨o, hi, hd⟩]; exact Bit_set.2 (.inl rfl)), hT, if_pos hd]
theorem RRun.at (S : RStat P ops nt rs) (R : RRun ops rs T0 nm seen T) {i : Nat} (hn : ¬ Bit seen i) (hb : ∀ j, RB ops i j → Bit seen j) (h : FinT ops seen T F) : AtT ops F T0 i T := by
  intro o hi t ht
  unfold wantT
  by_cases ho : ∃ j, Owns ops t j
  · obtain ⟨j, hj⟩ := ho
    have only : ∀ l, Owns ops t l → l = j := fun l hl => S.uniq l j t hl hj
    rcases S.look i o hi t ht j hj with hr | ⟨h2, hr⟩
    · rw [if_pos ⟨j, hj, hr⟩]
      exact (h t fun l hl => by rw [only l hl]; exact hb j hr).symm
    · have hns : ¬ Bit seen j := fun q => by
        rcases hr with rfl | hr
        · exact hn q
        · exact hn (R.closed j q i hr)
      rw [if_neg (by
        rintro ⟨l, hl, hr'⟩
        rw [only l hl] at hr'
        exact hns (hb j hr'))]
      exact R.t0 t fun l hl => by
        rw [only l hl]
        exact ⟨hns, fun q => h2 (S.res j q).1⟩
  · rw [if_neg (fun ⟨j, hj, _⟩ => ho ⟨j, hj⟩)]
    exact R.t0 t fun j hj => absurd ⟨j, hj⟩ ho
/-- One operation of the order, not a new block. -/
theorem RRun.one (hca : ECa P ca.opt) (h256 : nt ≤ 256) (S : RStat P ops nt rs) (R : RRun ops rs T0 nm seen T) {i : Nat} {o : Oper} (hi : ops[i]? = some o) (hc : chkOne ops.toList (bmasks ops.toList []) nt seen i = true)
    (h : (compOne P nt ops o k).run ca T H = s0) (hn : s0 ≠ .no) : ∃ T' H', k.run ca T' H' = s0 ∧ RRun ops rs T0 nm (seen ||| 2 ^ i) T' ∧ (RC P ops i < 2 → H' = H) ∧
      ∀ F, FinT ops (seen ||| 2 ^ i) T' F → FinT ops seen T F ∧ FEff P ops F T0 i H H' ∧ (RC P ops i = 0 → FPlain P ops F T0 i) ∧ FGd P ops F T0 i := by
  obtain ⟨c1, c2, _, _, _⟩ := chkOne_spec hc
  obtain ⟨s, v, H', ok⟩ := compOne_ok hca h hn
  have hT := compDst_set h256 ok.dst v T
  refine ⟨s.set v T, H', ok.go, R.next S hi c2 hT, fun q => ok.same (by rwa [RC_eq hi] at q), fun F hF => ?_⟩
  have hF' := hF.prev hi c1 hT
  have hat := R.at S c1 c2 hF'
  have hfit : FFits F o v := hF.fits S hi hT
  refine ⟨hF', ⟨o, T, v, hi, hat, ok.spec.p, hfit⟩, fun q => ⟨o, T, v, hi, hat, fun G => (ok.plain (by rwa [RC_eq hi] at q) G).p, hfit⟩, o, T, v, hi, hat, hfit, ?_⟩
  rcases ok.spec with ⟨q, _⟩ | ⟨q, e, _⟩
  · exact .inl q
  · exact .inr ⟨q, e⟩
end
end Go.Proofs.YtacmaphhbbadjaaGreatDoor
