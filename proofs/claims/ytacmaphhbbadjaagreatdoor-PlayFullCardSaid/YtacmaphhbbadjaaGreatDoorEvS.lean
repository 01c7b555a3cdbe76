/- Regions in any order, 4: the run of the checked order, whole. -/
import Derived.Test.YtacmaphhbbadjaaGreatDoorEvQ
namespace Go.Proofs.YtacmaphhbbadjaaGreatDoor
set_option linter.all false
open Go.RowKit

section
variable {P : Program} {ca : XCa} {ops : Array Oper} {nt : Nat} {rs : List Nat} {F T0 : XF} {nm : Nat → Nat} {seen tot : Nat} {T : XF} {H Hf : EH} {s0 : XS} {k : XB} {pe : Option Nat} {early late : List Nat}
abbrev chkL (ops : Array Oper) (nt : Nat) (ok : Nat → Bool) (l : List Nat) (seen : Nat) : Option Nat := chkList ops.toList (bmasks ops.toList []) nt ok l seen
abbrev chkS (P : Program) (ops : Array Oper) (nt : Nat) (rs early late : List Nat) (st : List RStage) (pe : Option Nat) (seen : Nat) : Option Nat := chkStages P ops.toList (bmasks ops.toList []) nt rs (early, late) st pe seen
def effOk (P : Program) (ops : Array Oper) (pe : Option Nat) (e : Nat) : Bool := Nat.beq (cOf P ops.toList e) 3 && match pe with
  | some p => (bOf (bmasks ops.toList []) e).testBit p
  | none => true
/-- What the check says of a stage. -/
structure StageOk (P : Program) (ops : Array Oper) (nt : Nat) (rs early late : List Nat) (s : RStage) (r : List RStage) (pe : Option Nat) (seen tot s1 s2 s3 : Nat) : Prop where
  e1 : chkL ops nt (chkEarly P ops.toList (bmasks ops.toList []) pe) s.early seen = some s1
  l2 : chkL ops nt (chkLate P ops.toList (bmasks ops.toList []) rs (some s.eff)) s.late s1 = some s2
  eff : chkL ops nt (effOk P ops pe) [s.eff] s2 = some s3
  all : ∀ i, i < ops.size → Bit s3 i → RC P ops i = 1 → RB ops s.eff i ∨ i ∈ s.re
  re : ∀ i ∈ s.re, Bit s3 i ∧ RC P ops i = 1 ∧ chkRe ops.toList (bmasks ops.toList []) s3 i = true
  rest : chkS P ops nt rs early late r (some s.eff) s3 = some tot
theorem cond_some {α : Type} {b : Bool} {x : Option α} {y : α} (h : (bif b then x else none) = some y) : b = true ∧ x = some y := by
  cases b
  · cases h
  · exact ⟨rfl, h⟩
theorem chkS_cons {s : RStage} {r : List RStage} (h : chkS P ops nt rs early late (s :: r) pe seen = some tot) : ∃ s1 s2 s3, StageOk P ops nt rs early late s r pe seen tot s1 s2 s3 := by
  unfold chkS chkStages at h
  split at h
  · cases h
  · rename_i s2 h12
    rw [Option.bind_eq_some_iff] at h12
    obtain ⟨s1, h1, h2⟩ := h12
    split at h
    · cases h
    · rename_i s3 h3
      obtain ⟨a1, h⟩ := cond_some h
      obtain ⟨a2, h⟩ := cond_some h
      refine ⟨s1, s2, s3, h1, h2, h3, fun i hi hb hc => ?_, fun i hi => ?_, h⟩
      · rw [List.all_eq_true] at a1
        have := a1 i (by simpa using hi)
        simp only [Bool.or_eq_true, Bool.not_eq_true', List.contains_eq_mem, decide_eq_true_eq] at this
        rcases this with ((q | q) | q) | q
        · unfold Bit at hb; rw [hb] at q; cases q
        · rw [show cOf P ops.toList i = 1 from hc] at q; cases q
        · exact .inl q
        · exact .inr q
      · rw [List.all_eq_true] at a2
        have := a2 i hi
        simp only [Bool.and_eq_true, beq_iff] at this
        exact ⟨this.1.1, this.1.2, this.2⟩
theorem chkS_nil (h : chkS P ops nt rs early late [] pe seen = some tot) : ∃ s1, chkL ops nt (chkEarly P ops.toList (bmasks ops.toList []) pe) early seen = some s1 ∧ chkL ops nt (chkLate P ops.toList (bmasks ops.toList []) rs none) late s1 = some tot := by
  unfold chkS chkStages at h
  rw [Option.bind_eq_some_iff] at h
  exact h
theorem early_cls {i : Nat} (h : chkEarly P ops.toList (bmasks ops.toList []) pe i = true) : RC P ops i = 0 ∨ (RC P ops i = 1 ∧ ∀ p, pe = some p → RB ops i p) := by
  unfold chkEarly at h
  simp only [Bool.or_eq_true, Bool.and_eq_true, beq_iff] at h
  rcases h with h | ⟨h, q⟩
  · exact .inl h
  · exact .inr ⟨h, fun p hp => by rw [hp] at q; exact q⟩
theorem late_cls {i : Nat} {ne : Option Nat} (h : chkLate P ops.toList (bmasks ops.toList []) rs ne i = true) : RC P ops i = 0 ∨ (RC P ops i = 2 ∧ i ∈ rs ∧ ∀ e, ne = some e → RB ops e i) := by
  unfold chkLate at h
  simp only [Bool.or_eq_true, Bool.and_eq_true, beq_iff, List.contains_eq_mem, decide_eq_true_eq] at h
  rcases h with h | ⟨⟨h, q⟩, r⟩
  · exact .inl h
  · exact .inr ⟨h, q, fun e he => by rw [he] at r; exact r⟩
theorem eff_cls {i : Nat} (h : effOk P ops pe i = true) : RC P ops i = 3 ∧ ∀ p, pe = some p → RB ops i p := by
  unfold effOk at h
  simp only [Bool.and_eq_true, beq_iff] at h
  exact ⟨h.1, fun p hp => by have := h.2; rw [hp] at this; exact this⟩
/-- The reserved names. -/
theorem compRs_ok (h256 : nt ≤ 256) (uniq : ∀ i j t, Owns ops t i → Owns ops t j → i = j) : ∀ (l : List Nat) (T : XF) (H : EH), (∀ i ∈ l, ∃ o d, ops[i]? = some o ∧ o.dst = some d ∧ d < nt) → l.Nodup → (compRs ops l k).run ca T H = s0 → s0 ≠ .no →
    ∃ T', k.run ca T' ⟨H.next + l.length, H.bl⟩ = s0 ∧ (∀ i ∈ l, ∀ o d, ops[i]? = some o → o.dst = some d → evT T' (.tmp d) = .ptr (H.next + l.idxOf i) 0) ∧ ∀ t, (∀ i ∈ l, ¬ Owns ops t i) → evT T' (.tmp t) = evT T (.tmp t)
  | [], T, H, hl, hd, h, hn => ⟨T, h, (by intro i hi; cases hi), fun _ _ => rfl⟩
  | i :: l, T, H, hl, hd, h, hn => by
    obtain ⟨o, d, ho, hod, hlt⟩ := hl i (by simp)
    unfold compRs at h
    simp only [ho, Option.bind_some, hod] at h
    have h : (compRs ops l k).run ca ((compP d).set (.ptr H.next 0) T) ⟨Nat.succ H.next, H.bl⟩ = s0 := h
    obtain ⟨T', g1, g2, g3⟩ := compRs_ok h256 uniq l _ _ (fun j hj => hl j (by simp [hj])) (List.nodup_cons.1 hd).2 h hn
    have hs := fun t => evT_set (Nat.lt_of_lt_of_le hlt h256) (.ptr H.next 0) T t
    refine ⟨T', ?_, fun j hj o' d' hj' hd' => ?_, fun t ht => ?_⟩
    · rw [← g1]
      congr 1
      simp; omega
    · rcases List.mem_cons.1 hj with rfl | hj
      · rw [ho] at hj'; injection hj' with hj'; subst hj'
        rw [hod] at hd'; injection hd' with hd'; subst hd'
        rw [g3 d fun m hm hw => (List.nodup_cons.1 hd).1 (by rw [uniq j m d ⟨o, ho, hod⟩ hw]; exact hm), hs, if_pos rfl]
        simp
      · rw [g2 j hj o' d' hj' hd']
        have hne : i ≠ j := fun e => (List.nodup_cons.1 hd).1 (by rw [e]; exact hj)
        have e : (i :: l).idxOf j = l.idxOf j + 1 := by rw [List.idxOf_cons, beq_false_of_ne hne]; rfl
        rw [e]
        show EV.ptr (H.next + 1 + _) 0 = _
        congr 1
        omega
    · rw [g3 t fun m hm => ht m (by simp [hm]), hs, if_neg (fun e => ht i (by simp) ⟨o, ho, by rw [hod, e]⟩)]
theorem RRun.stages (hca : ECa P ca.opt) (h256 : nt ≤ 256) (S : RStat P ops nt rs) : ∀ (st : List RStage) (pe : Option Nat) (seen : Nat) (T : XF) (H : EH), RRun ops rs T0 nm seen T → chkS P ops nt rs early late st pe seen = some tot →
    (compStages P nt ops early late st k).run ca T H = s0 → s0 ≠ .no → (∀ F, FinT ops seen T F → ∀ i, Bit seen i → RC P ops i = 1 → FGd P ops F T0 i) →
    ∃ T' Hf, k.run ca T' Hf = s0 ∧ RRun ops rs T0 nm tot T' ∧ ∀ F, FinT ops tot T' F → FinT ops seen T F ∧ StagesRun P ops F T0 nm early late st H Hf
  | [], pe, seen, T, H, R, hc, h, hn, hg => by
    obtain ⟨s1, c1, c2⟩ := chkS_nil hc
    have h : (compEarly P nt ops early (compLate P nt ops late k)).run ca T H = s0 := h
    obtain ⟨T1, g1, R1, f1⟩ := R.early hca h256 S early seen T c1 h hn
    obtain ⟨T2, H2, g2, R2, f2⟩ := R1.late hca h256 S late s1 T1 H c2 g1 hn
    refine ⟨T2, H2, g2, R2, fun F hF => ?_⟩
    obtain ⟨q1, q2⟩ := f2 F hF
    obtain ⟨q3, q4, _⟩ := f1 F q1
    exact ⟨q3, q4, q2⟩
  | s :: r, pe, seen, T, H, R, hc, h, hn, hg => by
    obtain ⟨s1, s2, s3, c⟩ := chkS_cons hc
    have h : (compEarly P nt ops s.early (compLate P nt ops s.late (compIx P nt ops s.eff (compRe P ops s.re (compStages P nt ops early late r k))))).run ca T H = s0 := h
    obtain ⟨T1, g1, R1, f1⟩ := R.early hca h256 S s.early seen T c.e1 h hn
    obtain ⟨T2, H2, g2, R2, f2⟩ := R1.late hca h256 S s.late s1 T1 H c.l2 g1 hn
    obtain ⟨e1, e2, e3⟩ := chkCons c.eff
    have e3 : s2 ||| 2 ^ s.eff = s3 := by simpa [chkList] using e3
    obtain ⟨_, _, o, hi, _⟩ := chkOne_spec e1
    unfold compIx at g2
    simp only [hi] at g2
    obtain ⟨T3, H3, g3, R3, _, f3⟩ := R2.one hca h256 S hi e1 g2 hn
    rw [e3] at R3 f3
    obtain ⟨b1, b2⟩ := chkList_spec c.e1
    obtain ⟨b3, b4⟩ := chkList_spec c.l2
    have hg3 : ∀ F, FinT ops s3 T3 F → ∀ i, Bit s3 i → RC P ops i = 1 → FGd P ops F T0 i := by
      intro F hF i hb hc1
      obtain ⟨q1, q2, q3, q4⟩ := f3 F hF
      obtain ⟨q5, q6⟩ := f2 F q1
      obtain ⟨q7, q8, q9⟩ := f1 F q5
      rw [← e3] at hb
      rcases Bit_set.1 hb with rfl | hb
      · rw [(eff_cls e2).1] at hc1; cases hc1
      · rcases (b4 i).1 hb with hb | hb
        · rcases late_cls (b3 i hb).1 with q | ⟨q, _⟩ <;> rw [q] at hc1 <;> cases hc1
        · rcases (b2 i).1 hb with hb | hb
          · exact q9 i hb
          · exact hg F q7 i hb hc1
    obtain ⟨g4, f4⟩ := R3.re hca S s.re c.re (fun F hF i hi => hg3 F hF i (c.re i hi).1 (c.re i hi).2.1) g3 hn
    obtain ⟨T5, Hf, g5, R5, f5⟩ := RRun.stages hca h256 S r (some s.eff) s3 T3 H3 R3 c.rest g4 hn hg3
    refine ⟨T5, Hf, g5, R5, fun F hF => ?_⟩
    obtain ⟨q1, q2⟩ := f5 F hF
    obtain ⟨q3, q4, _⟩ := f3 F q1
    obtain ⟨q5, q6⟩ := f2 F q3
    obtain ⟨q7, q8, _⟩ := f1 F q5
    exact ⟨q7, q8, H2, H3, q6, q4, f4 F q1, q2⟩
end
end Go.Proofs.YtacmaphhbbadjaaGreatDoor
