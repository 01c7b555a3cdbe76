/- Regions in any order, 5: any order does what the checked one does. -/
import Derived.Test.YtacmaphhbbadjaaGreatDoorEvS
namespace Go.Proofs.YtacmaphhbbadjaaGreatDoor
set_option linter.all false
open Go.RowKit

section
variable {P : Program} {ca : XCa} {ops : Array Oper} {nt : Nat} {rs : List Nat} {F T0 : XF} {nm : Nat → Nat} {seen tot : Nat} {T : XF} {H Hf : EH} {s0 : XS} {k : XB} {pe : Option Nat} {early late : List Nat} {st : List RStage} {listed : Array Bool}
def firstEarly (early : List Nat) : List RStage → List Nat
  | [] => early
  | s :: _ => s.early
theorem first_cls (h : chkS P ops nt rs early late st pe seen = some tot) {i : Nat} (hi : i ∈ firstEarly early st) : RC P ops i = 0 ∨ (RC P ops i = 1 ∧ ∀ p, pe = some p → RB ops i p) := by
  cases st with
  | nil => obtain ⟨s1, c1, _⟩ := chkS_nil h; exact early_cls ((chkList_spec c1).1 i hi).1
  | cons s r => obtain ⟨s1, s2, s3, c⟩ := chkS_cons h; exact early_cls ((chkList_spec c.e1).1 i hi).1
/-- The stages' sets. -/
theorem StageOk.bits {s : RStage} {r : List RStage} {s1 s2 s3 : Nat} (c : StageOk P ops nt rs early late s r pe seen tot s1 s2 s3) :
    (∀ j, Bit s3 j ↔ j = s.eff ∨ j ∈ s.late ∨ j ∈ s.early ∨ Bit seen j) ∧ (¬ Bit s2 s.eff) ∧ RC P ops s.eff = 3 ∧ (∀ p, pe = some p → RB ops s.eff p) ∧ (∀ j, Bit seen j → Bit s3 j) ∧ ¬ Bit seen s.eff := by
  obtain ⟨e1, e2, e3⟩ := chkCons c.eff
  have e3 : s2 ||| 2 ^ s.eff = s3 := by simpa [chkList] using e3
  obtain ⟨e4, _⟩ := chkOne_spec e1
  obtain ⟨_, b2⟩ := chkList_spec c.e1
  obtain ⟨_, b4⟩ := chkList_spec c.l2
  have key : ∀ j, Bit s3 j ↔ j = s.eff ∨ j ∈ s.late ∨ j ∈ s.early ∨ Bit seen j := fun j => by rw [← e3, Bit_set, b4, b2]
  exact ⟨key, e4, (eff_cls e2).1, (eff_cls e2).2, fun j hj => (key j).2 (.inr (.inr (.inr hj))), fun q => e4 ((b4 _).2 (.inr ((b2 _).2 (.inr q))))⟩
theorem early_mem {s : RStage} {r : List RStage} {s1 s2 s3 : Nat} (c : StageOk P ops nt rs early late s r pe seen tot s1 s2 s3) {i : Nat} (h : i ∈ s.early) : RC P ops i = 0 ∨ RC P ops i = 1 :=
  (early_cls ((chkList_spec c.e1).1 i h).1).imp id (·.1)
theorem late_mem {s : RStage} {r : List RStage} {s1 s2 s3 : Nat} (c : StageOk P ops nt rs early late s r pe seen tot s1 s2 s3) {i : Nat} (h : i ∈ s.late) : RC P ops i = 0 ∨ (RC P ops i = 2 ∧ i ∈ rs ∧ RB ops s.eff i) :=
  (late_cls ((chkList_spec c.l2).1 i h).1).imp id fun q => ⟨q.1, q.2.1, q.2.2 _ rfl⟩
theorem chk_read : ∀ (st : List RStage) (pe : Option Nat) (seen : Nat), chkS P ops nt rs early late st pe seen = some tot → ∀ i, Bit tot i → ¬ Bit seen i → RC P ops i = 1 →
    i ∈ firstEarly early st ∨ ∃ e, RC P ops e = 3 ∧ ¬ Bit seen e ∧ RB ops i e
  | [], pe, seen, h, i, ht, hs, hc => by
    obtain ⟨s1, c1, c2⟩ := chkS_nil h
    rcases ((chkList_spec c2).2 i).1 ht with q | q
    · rcases late_cls ((chkList_spec c2).1 i q).1 with q | ⟨q, _⟩ <;> rw [q] at hc <;> cases hc
    · rcases ((chkList_spec c1).2 i).1 q with q | q
      · exact .inl q
      · exact absurd q hs
  | s :: r, pe, seen, h, i, ht, hs, hc => by
    obtain ⟨s1, s2, s3, c⟩ := chkS_cons h
    obtain ⟨b, _, b3, _, b5, b6⟩ := c.bits
    by_cases q : Bit s3 i
    · rcases (b i).1 q with q | q | q | q
      · rw [q, b3] at hc; cases hc
      · rcases late_mem c q with q | ⟨q, _⟩ <;> rw [q] at hc <;> cases hc
      · exact .inl q
      · exact absurd q hs
    · rcases chk_read r _ s3 c.rest i ht q hc with q | ⟨e, h1, h2, h3⟩
      · rcases first_cls c.rest q with q | ⟨_, q⟩
        · rw [q] at hc; cases hc
        · exact .inr ⟨s.eff, b3, b6, q _ rfl⟩
      · exact .inr ⟨e, h1, fun q => h2 (b5 e q), h3⟩
theorem chk_eff : ∀ (st : List RStage) (pe : Option Nat) (seen : Nat), chkS P ops nt rs early late st pe seen = some tot → ∀ i, Bit tot i → ¬ Bit seen i → RC P ops i = 3 →
    (∃ s r, st = s :: r ∧ i = s.eff) ∨ ∃ e, RC P ops e = 3 ∧ ¬ Bit seen e ∧ RB ops i e
  | [], pe, seen, h, i, ht, hs, hc => by
    obtain ⟨s1, c1, c2⟩ := chkS_nil h
    rcases ((chkList_spec c2).2 i).1 ht with q | q
    · rcases late_cls ((chkList_spec c2).1 i q).1 with q | ⟨q, _⟩ <;> rw [q] at hc <;> cases hc
    · rcases ((chkList_spec c1).2 i).1 q with q | q
      · rcases early_cls ((chkList_spec c1).1 i q).1 with q | ⟨q, _⟩ <;> rw [q] at hc <;> cases hc
      · exact absurd q hs
  | s :: r, pe, seen, h, i, ht, hs, hc => by
    obtain ⟨s1, s2, s3, c⟩ := chkS_cons h
    obtain ⟨b, _, b3, _, b5, b6⟩ := c.bits
    by_cases q : Bit s3 i
    · rcases (b i).1 q with q | q | q | q
      · exact .inl ⟨s, r, rfl, q⟩
      · rcases late_mem c q with q | ⟨q, _⟩ <;> rw [q] at hc <;> cases hc
      · rcases early_mem c q with q | q <;> rw [q] at hc <;> cases hc
      · exact absurd q hs
    · rcases chk_eff r _ s3 c.rest i ht q hc with ⟨s', r', q1, q2⟩ | ⟨e, h1, h2, h3⟩
      · subst q1
        obtain ⟨t1, t2, t3, c'⟩ := chkS_cons c.rest
        exact .inr ⟨s.eff, b3, b6, by rw [q2]; exact c'.bits.2.2.2.1 _ rfl⟩
      · exact .inr ⟨e, h1, fun q => h2 (b5 e q), h3⟩
theorem late_new : ∀ (l : List Nat) (H H2 : EH), LateRun P ops F T0 nm l H H2 → ∀ i ∈ l, RC P ops i = 2 → ∃ x, FNew P ops F T0 nm i x
  | [], _, _, _, i, hi, _ => nomatch hi
  | j :: l, H, H2, h, i, hi, hc => by
    rcases h with ⟨q, _, h⟩ | ⟨q, x, hx, h⟩
    · rcases List.mem_cons.1 hi with rfl | hi
      · rw [q] at hc; cases hc
      · exact late_new l _ _ h i hi hc
    · rcases List.mem_cons.1 hi with rfl | hi
      · exact ⟨x, hx⟩
      · exact late_new l _ _ h i hi hc
theorem late_plain : ∀ (l : List Nat) (H H2 : EH), LateRun P ops F T0 nm l H H2 → ∀ i ∈ l, RC P ops i = 0 → FPlain P ops F T0 i
  | [], _, _, _, i, hi, _ => nomatch hi
  | j :: l, H, H2, h, i, hi, hc => by
    rcases h with ⟨q, hx, h⟩ | ⟨q, x, hx, h⟩
    · rcases List.mem_cons.1 hi with rfl | hi
      · exact hx
      · exact late_plain l _ _ h i hi hc
    · rcases List.mem_cons.1 hi with rfl | hi
      · rw [q] at hc; cases hc
      · exact late_plain l _ _ h i hi hc
theorem chk_new : ∀ (st : List RStage) (pe : Option Nat) (seen : Nat) (H : EH), chkS P ops nt rs early late st pe seen = some tot → StagesRun P ops F T0 nm early late st H Hf → ∀ i, Bit tot i → ¬ Bit seen i →
    (RC P ops i = 2 → i ∈ rs ∧ ∃ x, FNew P ops F T0 nm i x) ∧ (RC P ops i = 0 → FPlain P ops F T0 i)
  | [], pe, seen, H, h, hr, i, ht, hs => by
    obtain ⟨s1, c1, c2⟩ := chkS_nil h
    obtain ⟨r1, r2⟩ := hr
    rcases ((chkList_spec c2).2 i).1 ht with q | q
    · refine ⟨fun hc => ?_, fun hc => late_plain _ _ _ r2 i q hc⟩
      rcases late_cls ((chkList_spec c2).1 i q).1 with q' | ⟨_, q', _⟩
      · rw [q'] at hc; cases hc
      · exact ⟨q', late_new _ _ _ r2 i q hc⟩
    · rcases ((chkList_spec c1).2 i).1 q with q | q
      · refine ⟨fun hc => ?_, (r1 i q).1⟩
        rcases early_cls ((chkList_spec c1).1 i q).1 with q | ⟨q, _⟩ <;> rw [q] at hc <;> cases hc
      · exact absurd q hs
  | s :: r, pe, seen, H, h, hr, i, ht, hs => by
    obtain ⟨s1, s2, s3, c⟩ := chkS_cons h
    obtain ⟨r1, H2, H3, r2, r3, r4, r5⟩ := hr
    obtain ⟨b, _, b3, _, b5, b6⟩ := c.bits
    by_cases q : Bit s3 i
    · rcases (b i).1 q with q | q | q | q
      · rw [q, b3]; exact ⟨fun h => absurd h (by decide), fun h => absurd h (by decide)⟩
      · refine ⟨fun hc => ?_, fun hc => late_plain _ _ _ r2 i q hc⟩
        rcases late_mem c q with q' | ⟨_, q', _⟩
        · rw [q'] at hc; cases hc
        · exact ⟨q', late_new _ _ _ r2 i q hc⟩
      · refine ⟨fun hc => ?_, (r1 i q).1⟩
        rcases early_mem c q with q | q <;> rw [q] at hc <;> cases hc
      · exact absurd q hs
    · exact chk_new r _ s3 H3 c.rest r5 i ht q
theorem unlisted {i : Nat} (hsz : listed.size = ops.size) (hi : i < ops.size) (h : ¬ Lst listed i) : listed.getD i true = false := by
  unfold Lst at h
  have hlt : i < listed.size := by omega
  simp [hlt] at h ⊢
  exact h
theorem list_listed (hsz : listed.size = ops.size) (hr : Region.ready .any ops listed = []) {ok : Nat → Bool} : ∀ (l : List Nat) (seen s' : Nat), chkL ops nt ok l seen = some s' → (∀ j, Bit seen j → Lst listed j) → ∀ j, Bit s' j → Lst listed j
  | [], seen, s', h, hs, j, hj => by simp [chkL, chkList] at h; subst h; exact hs j hj
  | i :: l, seen, s', h, hs, j, hj => by
    obtain ⟨c1, _, c3⟩ := chkCons h
    obtain ⟨_, c4, o, ho, _⟩ := chkOne_spec c1
    refine list_listed hsz hr l _ s' c3 (fun m hm => ?_) j hj
    rcases Bit_set.1 hm with rfl | hm
    · apply Classical.byContradiction
      intro q
      have : m ∈ Region.ready .any ops listed := mem_ready.2 ⟨unlisted hsz (Array.getElem?_eq_some_iff.1 ho).1 q, o, ho, fun e he hb => hs _ (c4 _ ((RB_iff ho).2 ⟨e, he, hb, .inl rfl⟩))⟩
      rw [hr] at this; cases this
    · exact hs m hm
theorem all_listed (hsz : listed.size = ops.size) (hr : Region.ready .any ops listed = []) : ∀ (st : List RStage) (pe : Option Nat) (seen : Nat), chkS P ops nt rs early late st pe seen = some tot → (∀ j, Bit seen j → Lst listed j) → ∀ j, Bit tot j → Lst listed j
  | [], pe, seen, h, hs, j, hj => by
    obtain ⟨s1, c1, c2⟩ := chkS_nil h
    exact list_listed hsz hr _ _ _ c2 (list_listed hsz hr _ _ _ c1 hs) j hj
  | s :: r, pe, seen, h, hs, j, hj => by
    obtain ⟨s1, s2, s3, c⟩ := chkS_cons h
    exact all_listed hsz hr r _ s3 c.rest (list_listed hsz hr _ _ _ c.eff (list_listed hsz hr _ _ _ c.l2 (list_listed hsz hr _ _ _ c.e1 hs))) j hj
end
end Go.Proofs.YtacmaphhbbadjaaGreatDoor
