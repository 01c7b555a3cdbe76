/- The small machine's operations against the model's, 8: one operation. -/
import Derived.Test.YtacmaphhbbadjaaGreatDoorEvI
namespace Go.Proofs.YtacmaphhbbadjaaGreatDoor
set_option linter.all false
open Go.RowKit

/-- What a call by the small machine is worth. -/
def ECall (P : Program) (f : Nat) (A : Array Value) (ρ : ERho) (w : World) (H : EH) (v : EV) (H' : EH) : Prop :=
  Calls P f A w fun e w' => ∃ V ρ', e = .returned V ∧ EStep ρ w H ρ' w' H' ∧ ER ρ' w' v V
def ECa (P : Program) (ca : Nat → List EV → EH → Option (EV × EH)) : Prop :=
  ∀ f args H v H', ca f args H = some (v, H') → (∀ A w, (callFunc f A).run P w = .ok (.enter f A) w) ∧ ∀ ρ w A, ERep ρ w H → ERs ρ w args A.toList → ECall P f A ρ w H v H'
structure EVal (P : Program) (o : Oper) (a : Act) (ρ : ERho) (w : World) (H : EH) (v : EV) (H' : EH) (V : Value) (ρ' : ERho) (w' : World) : Prop where
  run : (execOp a.eval o).run P w = .ok (.value V) w' ∨ (execOp a.eval o).run P w = .ok .skip w' ∧ V = undef
  step : EStep ρ w H ρ' w' H'
  val : ER ρ' w' v V
def EOut (P : Program) (o : Oper) (a : Act) (ρ : ERho) (w : World) (H : EH) (v : EV) (H' : EH) : Prop :=
  (∃ V ρ' w', EVal P o a ρ w H v H' V ρ' w') ∨ ∃ f A, (execOp a.eval o).run P w = .ok (.enter f A) w ∧ ECall P f A ρ w H v H'

section
variable {P : Program} {ρ ρ' : ERho} {w w' : World} {H H' : EH} {ev : Operand → EV} {a : Act}
theorem EOut.same (R : ERep ρ w H) {o : Oper} {v : EV} {V : Value} (h : (execOp a.eval o).run P w = .ok (.value V) w) (r : ER ρ w v V) : EOut P o a ρ w H v H := .inl ⟨V, ρ, w, .inl h, .refl R, r⟩
theorem EOut.pure (R : ERep ρ w H) (F : ∀ x, ER ρ w (ev x) (a.eval x)) {o : Oper} {v : EV} (hs : ∀ cs b, o.op ≠ .select cs b) (h : (evPure P ev o).map (fun v => (v, H)) = some (v, H')) : EOut P o a ρ w H v H' := by
  simp only [Option.map_eq_some_iff, Prod.mk.injEq] at h
  obtain ⟨u, h1, rfl, rfl⟩ := h
  obtain ⟨V, h2, h3⟩ := evPure_ok F hs h1
  exact .same R h2 h3
theorem nilCmp_run {t : TypeId} {d : TypeDesc} (hd : P.underlying t = some d) {x y : EV} {X Y : Value} (hX : ER ρ w x X) (hY : ER ρ w y Y) (h : (nilCmp d x y || nilCmp d y x) = true) (op : BinOp) (ox oy : Operand) (r : Bool) (hop : op = .eql ∧ r = false ∨ op = .neq ∧ r = true) :
    ((do eqGuard op t ox oy X Y; binOp op t X Y) : Sem Value).run P w = .ok (.bool r) w := by
  have key : ∀ A B : Value, (∃ e ad, d = .pointer e ∧ A = .pointer (some ad) ∧ B = .pointer none) ∨ (∃ e ad n c m k, d = .slice e ∧ A = .slice (some ad) n c ∧ B = .slice none m k) ∨ (∃ p q v f s c, d = .func p q v ∧ A = .func f s c ∧ B = .nilFunc) →
      (∀ q, (Op.equalIn (q + 1) t A B).run P w = .ok false w ∧ (Op.equalIn (q + 1) t B A).run P w = .ok false w) ∧ (∀ C D, (C = A ∧ D = B ∨ C = B ∧ D = A) → (eqGuard op t ox oy C D).run P w = .ok () w ∧ binOp op t C D = (do let q ← Op.equalIn (9999 + 1) t C D; pure (.bool (if r then !q else q)))) := by
    rintro A B (⟨e, ad, rfl, rfl, rfl⟩ | ⟨e, ad, n, c, m, k, rfl, rfl, rfl⟩ | ⟨p, q, v, f, s, c, rfl, rfl, rfl⟩)
    all_goals
      refine ⟨fun q => ⟨by simp only [Op.equalIn, Sem.run_bind, run_underlying hd, Result.andThen_ok]; rfl, by simp only [Op.equalIn, Sem.run_bind, run_underlying hd, Result.andThen_ok]; rfl⟩, ?_⟩
      rintro C D (⟨rfl, rfl⟩ | ⟨rfl, rfl⟩) <;> rcases hop with ⟨rfl, rfl⟩ | ⟨rfl, rfl⟩ <;> exact ⟨rfl, rfl⟩
  have fin : ∀ C D, (eqGuard op t ox oy C D).run P w = .ok () w → binOp op t C D = (do let q ← Op.equalIn (9999 + 1) t C D; pure (.bool (if r then !q else q))) → (Op.equalIn (9999 + 1) t C D).run P w = .ok false w → ((do eqGuard op t ox oy C D; binOp op t C D) : Sem Value).run P w = .ok (.bool r) w := by
    intro C D h1 h2 h3
    rw [h2, Sem.run_bind, h1, Result.andThen_ok, Sem.run_bind, h3, Result.andThen_ok]
    cases r <;> rfl
  have one : ∀ x y X Y, ER ρ w x X → ER ρ w y Y → nilCmp d x y = true → (∃ e ad, d = .pointer e ∧ X = .pointer (some ad) ∧ Y = .pointer none) ∨ (∃ e ad n c m k, d = .slice e ∧ X = .slice (some ad) n c ∧ Y = .slice none m k) ∨ (∃ p q v f s c, d = .func p q v ∧ X = .func f s c ∧ Y = .nilFunc) := by
    intro x y X Y hX hY h
    unfold nilCmp at h
    split at h
    · split at h
      · obtain ⟨_, _, _, rfl⟩ := hX
        exact .inl ⟨_, _, rfl, rfl, hY⟩
      · cases h
    · split at h
      · obtain ⟨_, _, _, _, _, rfl, _⟩ := hX
        exact .inr (.inl ⟨_, _, _, _, _, _, rfl, rfl, hY⟩)
      · cases h
    · split at h
      · obtain ⟨_, _, rfl, _⟩ := hX
        exact .inr (.inr ⟨_, _, _, _, _, _, rfl, rfl, hY⟩)
      · cases h
    · cases h
  rw [Bool.or_eq_true] at h
  rcases h with h | h
  · obtain ⟨k1, k2⟩ := key _ _ (one _ _ _ _ hX hY h)
    obtain ⟨g1, g2⟩ := k2 X Y (.inl ⟨rfl, rfl⟩)
    exact fin _ _ g1 g2 (k1 9999).1
  · obtain ⟨k1, k2⟩ := key _ _ (one _ _ _ _ hY hX h)
    obtain ⟨g1, g2⟩ := k2 X Y (.inr ⟨rfl, rfl⟩)
    exact fin _ _ g1 g2 (k1 9999).2
theorem nilCheck_ok {x : EV} {X : Value} (hX : ER ρ w x X) (h : isSome' x = true) {o : Oper} {ox : Operand} (ho : o.op = .nilCheck ox) (hx : a.eval ox = X) : (execOp a.eval o).run P w = .ok (.value X) w := by
  cases x with
  | ptr _ _ => obtain ⟨_, _, _, rfl⟩ := hX; simp [execOp, ho, hx]
  | sl _ _ _ _ _ => obtain ⟨_, _, _, _, _, rfl, _⟩ := hX; simp [execOp, ho, hx]
  | fn _ _ _ => obtain ⟨_, _, rfl, _⟩ := hX; simp [execOp, ho, hx]
  | _ => cases h
theorem ERep.freeze (R : ERep ρ w H) {b B base : Nat} {x : EBlk} (hb : H.blk? b = some x) (hρ : ρ b = some (B, base)) : ∃ n, w.shape? B = some n ∧ EStep ρ w H ρ (w.freeze ⟨B, n.2, none⟩ 1) H := by
  obtain ⟨B', base', e', cs, t, fr, h1, h2, h3, h4⟩ := R.blk _ _ hb
  rw [hρ] at e'; injection e' with e'; injection e' with e1 e2; subst e1; subst e2
  obtain ⟨lo, hi⟩ := fr
  have hx : (w.freeze ⟨B, cs.size, none⟩ 1).heap = w.heap.modify B fun | .cells c elem (lo, hi) => .cells c elem (if lo == hi then (cs.size, cs.size + 1) else (min lo cs.size, max hi (cs.size + 1))) | o => o := by unfold World.freeze; rfl
  have hB : ∃ fr', (w.freeze ⟨B, cs.size, none⟩ 1).heap[B]? = some (.cells cs t fr') ∧ (fr'.1 = fr'.2 ∨ cs.size ≤ fr'.1) := by
    refine ⟨_, by rw [hx]; simp [Array.getElem?_modify, h1]; rfl, ?_⟩
    by_cases q : lo = hi
    · simp [q]
    · have : cs.size ≤ lo := h3.resolve_left q
      right
      simp [q]; omega
  obtain ⟨fr', g1, g2⟩ := hB
  have oth : ∀ k, k ≠ B → (w.freeze ⟨B, cs.size, none⟩ 1).heap[k]? = w.heap[k]? := fun k hk => by rw [hx, Array.getElem?_modify, if_neg (Ne.symm hk)]
  have hsz : ∀ k n, eSize w k = some n → eSize (w.freeze ⟨B, cs.size, none⟩ 1) k = some n := fun k n h => by
    by_cases q : k = B
    · subst q
      unfold eSize at h ⊢
      rw [h1] at h; rw [g1]; exact h
    · unfold eSize at h ⊢; rw [oth k q]; exact h
  have hs : (w.freeze ⟨B, cs.size, none⟩ 1).heap.size = w.heap.size := by rw [hx]; simp
  have hw : (w.freeze ⟨B, cs.size, none⟩ 1) = { w with heap := (w.freeze ⟨B, cs.size, none⟩ 1).heap } := by simp [World.freeze]
  have g : EGrow ρ ρ w (w.freeze ⟨B, cs.size, none⟩ 1) := ⟨fun _ _ h => h, hsz⟩
  refine ⟨(t, cs.size), by simp [World.shape?, h1], fun _ _ h => h, ⟨R.next, fun c y hc => ?_, R.inj, fun c p hp => by rw [hs]; exact R.bnd c p hp⟩, ⟨by rw [hw], by rw [hw], by rw [hw], Nat.le_of_eq hs.symm, fun k hk hn => oth k fun q => hn (q ▸ ⟨b, x, base, hb, hρ⟩), hsz⟩, fun _ h => .inl h, Nat.le_refl _, fun _ _ => rfl⟩
  by_cases q : c = b
  · subst q
    rw [hb] at hc; injection hc with hc; subst hc
    exact ⟨B, base, hρ, cs, t, fr', g1, h2, g2, fun i hi => by obtain ⟨V, e, r⟩ := h4 i hi; exact ⟨V, e, ER.mono g _ _ r⟩⟩
  · obtain ⟨B', base', e', k⟩ := R.blk _ _ hc
    exact ⟨B', base', e', k.mono g (oth B' (R.inj c b y x B' base' B base hc hb e' hρ q))⟩
theorem evOp_ok {ca : Nat → List EV → EH → Option (EV × EH)} (hca : ECa P ca) (R : ERep ρ w H) (F : ∀ x, ER ρ w (ev x) (a.eval x)) {o : Oper} {v : EV} (h : evOp P ca o ev H = some (v, H')) : EOut P o a ρ w H v H' := by
  obtain ⟨dst, op, type, pos, after, guard⟩ := o
  cases op with
  | move x =>
    simp only [evOp, Option.some.injEq, Prod.mk.injEq] at h
    obtain ⟨rfl, rfl⟩ := h
    exact .same R rfl (F x)
  | assign x =>
    simp only [evOp, Option.some.injEq, Prod.mk.injEq] at h
    obtain ⟨rfl, rfl⟩ := h
    exact .same R rfl (F x)
  | pick c x y =>
    simp only [evOp] at h
    split at h
    · rename_i t hc
      simp only [Option.some.injEq, Prod.mk.injEq] at h
      obtain ⟨rfl, rfl⟩ := h
      have hc' := F c
      rw [hc] at hc'
      have hc' : a.eval c = .bool t := hc'
      refine .same R (V := a.eval (bif t then x else y)) ?_ (F _)
      cases t <;> simp [execOp, hc', asBool]
    · cases h
  | alloc e =>
    simp only [evOp] at h
    split at h
    · rename_i i hi
      simp only [Option.map_eq_some_iff] at h
      obtain ⟨z, hz, h⟩ := h
      obtain ⟨u, hu, rfl⟩ := zeroCells_ok hz
      obtain ⟨s, r, _⟩ := evNew_ok R e (L := u.cells) (ERs.ofs _)
      rw [h] at s r
      exact .inl ⟨_, _, _, .inl (by simp [execOp, Instr.alloc, zeroValue, typeInfo, hi, hu, newVar, newRow]), s, r⟩
    · cases h
  | box e x =>
    simp only [evOp, Option.some.injEq] at h
    obtain ⟨s, r, _⟩ := evNew_ok R e (L := (a.eval x).cells) (cellsV_ok (F x))
    rw [h] at s r
    exact .inl ⟨_, _, _, .inl (by simp [execOp, Instr.box, newVar, newRow]), s, r⟩
  | buildSlice t n ps =>
    simp only [evOp] at h
    have hp := evParts_ok (a := a) F ps.toList
    obtain ⟨V, ρ', w', r1, r2, r3⟩ := evBuildSlice_ok (P := P) R (ps := ps.map fun (i, x) => (i, a.eval x)) (by simpa using hp) h
    exact .inl ⟨V, ρ', w', .inl (by simp only [execOp, Sem.run_bind, r1, Result.andThen_ok]; rfl), r2, r3⟩
  | build t ps =>
    simp only [evOp, Option.map_eq_some_iff, Prod.mk.injEq] at h
    obtain ⟨u, h1, rfl, rfl⟩ := h
    have hp := evParts_ok (a := a) F ps.toList
    obtain ⟨V, r1, r2⟩ := evBuild_ok (P := P) (ps := ps.map fun (i, x) => (i, a.eval x)) (by simpa using hp) h1
    exact .same R (by simp only [execOp, Sem.run_bind, r1, Result.andThen_ok]; rfl) r2
  | load t x =>
    simp only [evOp] at h
    split at h
    · rename_i b o hx
      simp only [Option.map_eq_some_iff, Prod.mk.injEq] at h
      obtain ⟨u, h1, rfl, rfl⟩ := h
      obtain ⟨V, r1, r2⟩ := evLoad_ok (P := P) R (hx ▸ F x) h1
      exact .same R (by simp [execOp, r1]) r2
    · cases h
  | store t x y =>
    simp only [evOp] at h
    split at h
    · rename_i b o hx
      simp only [Option.map_eq_some_iff, Prod.mk.injEq] at h
      obtain ⟨u, h1, rfl, rfl⟩ := h
      obtain ⟨w', r1, r2⟩ := evStore_ok (P := P) R (hx ▸ F x) (F y) h1
      exact .inl ⟨undef, ρ, w', .inr ⟨by simp [execOp, r1], rfl⟩, r2, rfl⟩
    · cases h
  | nilCheck x =>
    simp only [evOp] at h
    cases hs : isSome' (ev x) with
    | false => rw [hs] at h; cases h
    | true =>
      rw [hs] at h
      simp only [cond_true, Option.some.injEq, Prod.mk.injEq] at h
      obtain ⟨rfl, rfl⟩ := h
      exact .same R (nilCheck_ok (F x) hs rfl rfl) (F x)
  | fieldAddr s x f =>
    simp only [evOp] at h
    split at h
    · rename_i fs b o hs hx
      split at h
      · rename_i fd hf
        split at h
        · rename_i i hi
          cases hz : Nat.beq i.size 0 with
          | true => rw [hz] at h; cases h
          | false =>
            rw [hz] at h
            simp only [cond_false, Option.some.injEq, Prod.mk.injEq] at h
            obtain ⟨rfl, rfl⟩ := h
            obtain ⟨V, r1, r2⟩ := evFieldAddr_ok (P := P) hs hf hi (fun q => by rw [q] at hz; cases hz) (hx ▸ F x)
            exact .same R (by simp [execOp, r1]) r2
        · cases h
      · cases h
    · cases h
  | field t x f =>
    simp only [evOp] at h
    split at h
    · rename_i fs l ht hx
      obtain ⟨cs, hcs, r⟩ := ofAgg_ok hx (F x)
      split at h
      · rename_i fd hf
        simp only [Option.map_eq_some_iff, Prod.mk.injEq] at h
        obtain ⟨u, h1, rfl, rfl⟩ := h
        obtain ⟨V, r1, r2⟩ := evPart_ok (P := P) r h1
        exact .same R (by simp [execOp, Instr.field, run_underlying ht, hf, hcs, asAgg, r1]) r2
      · cases h
    · cases h
  | indexAddr t x i =>
    simp only [evOp, Option.map_eq_some_iff, Prod.mk.injEq] at h
    obtain ⟨u, h1, rfl, rfl⟩ := h
    obtain ⟨V, r1, r2⟩ := evIndexAddr_ok (P := P) (F x) (F i) h1
    exact .same R (by simp [execOp, r1]) r2
  | index t x i =>
    simp only [evOp] at h
    split at h
    · rename_i n e ht
      split at h
      · rename_i l j f hx hi hf
        obtain ⟨cs, hcs, r⟩ := ofAgg_ok hx (F x)
        obtain ⟨ki, hk⟩ := nat?_ok hi (F i)
        cases hlt : Nat.blt j n with
        | false => rw [hlt] at h; cases h
        | true =>
          rw [hlt] at h
          have hlt : j < n := Nat.le_of_ble_eq_true hlt
          simp only [cond_true, Option.map_eq_some_iff, Prod.mk.injEq] at h
          obtain ⟨u, h1, rfl, rfl⟩ := h
          obtain ⟨V, r1, r2⟩ := evPart_ok (P := P) r h1
          exact .same R (by simp [execOp, Instr.index, run_underlying ht, hcs, hk, asIntOf, hlt, sizeOf, typeInfo, hf, r1]) r2
      · cases h
    · exact .pure R F (fun _ _ => by simp) h
    · cases h
  | makeSlice t l c =>
    simp only [evOp] at h
    obtain ⟨V, ρ', w', r1, r2, r3⟩ := evMake_ok (P := P) R (F l) (F c) h
    exact .inl ⟨V, ρ', w', .inl (by simp [execOp, r1]), r2, r3⟩
  | slice t x lo hi mx =>
    simp only [evOp] at h
    split at h
    · exact .pure R F (fun _ _ => by simp) h
    · simp only [Option.map_eq_some_iff, Prod.mk.injEq] at h
      obtain ⟨u, h1, rfl, rfl⟩ := h
      have opt : ∀ q : Option Operand, EOpt ρ w (q.map ev) (q.map a.eval) := fun q => by cases q with | none => trivial | some q => exact F q
      obtain ⟨V, r1, r2⟩ := evSlice_ok (P := P) (F x) (opt lo) (opt hi) (opt mx) h1
      exact .same R (by simp [execOp, r1]) r2
  | extract x i =>
    simp only [evOp] at h
    split at h
    · rename_i l hx
      simp only [Option.map_eq_some_iff, Prod.mk.injEq] at h
      obtain ⟨u, h1, rfl, rfl⟩ := h
      have hx' := F x
      rw [hx] at hx'
      obtain ⟨cs, hcs, r⟩ := hx'
      obtain ⟨V, e, r⟩ := r.get i u h1
      have e' : cs[i]? = some V := by simpa using e
      exact .same R (by simp [execOp, Instr.extract, hcs, e']) r
    · exact .pure R F (fun _ _ => by simp) h
  | binOp op t x y t' =>
    simp only [evOp] at h
    split at h
    · rename_i d hd
      cases hn : (nilCmp d (ev x) (ev y) || nilCmp d (ev y) (ev x)) with
      | false => rw [hn] at h; exact .pure R F (fun _ _ => by simp) h
      | true =>
        rw [hn] at h
        simp only [cond_true] at h
        split at h
        · simp only [Option.some.injEq, Prod.mk.injEq] at h
          obtain ⟨rfl, rfl⟩ := h
          have := nilCmp_run hd (F x) (F y) hn .eql x y false (.inl ⟨rfl, rfl⟩)
          exact .same R (V := .bool false) (by simp only [execOp]; rw [Sem.run_bind, this]; rfl) rfl
        · simp only [Option.some.injEq, Prod.mk.injEq] at h
          obtain ⟨rfl, rfl⟩ := h
          have := nilCmp_run hd (F x) (F y) hn .neq x y true (.inr ⟨rfl, rfl⟩)
          exact .same R (V := .bool true) (by simp only [execOp]; rw [Sem.run_bind, this]; rfl) rfl
        · cases h
    · cases h
  | convert src dst x =>
    simp only [evOp] at h
    split at h
    · rename_i b ofs n c k hx
      have hX := F x
      rw [hx] at hX
      split at h
      · rename_i e y h1 h2 hb
        split at h
        · rename_i h3
          cases hle : Nat.ble (ofs + n) y.size with
          | false => rw [hle] at h; cases h
          | true =>
            rw [hle] at h
            simp only [cond_true, Option.map_eq_some_iff, Prod.mk.injEq] at h
            obtain ⟨us, hu, rfl, rfl⟩ := h
            have := evString_ok (P := P) R hX h1 h2 h3 hb (Nat.le_of_ble_eq_true hle) hu
            exact .same R (V := .string ⟨us.toArray⟩) (by simp [execOp, this]) rfl
        · cases h
      · rename_i e1 e y h1 h2 hb
        split at h
        · rename_i h3
          cases hc : (Nat.beq src dst && Nat.blt 0 n) with
          | false => rw [hc] at h; cases h
          | true =>
            rw [hc] at h
            simp only [cond_true, Option.some.injEq, Prod.mk.injEq] at h
            obtain ⟨rfl, rfl⟩ := h
            simp only [Bool.and_eq_true] at hc
            obtain rfl := Nat.eq_of_beq_eq_true hc.1
            have hpos : 0 < n := Nat.le_of_ble_eq_true hc.2
            obtain ⟨B, base, A, C, hρ, hV, hC, h4⟩ := id hX
            rcases h4 with ⟨rfl, h5⟩ | ⟨h5, _⟩
            · obtain ⟨sh, hsh, st⟩ := R.freeze hb hρ
              refine .inl ⟨a.eval x, ρ, _, .inl ?_, st, ER.mono st.grow _ _ hX⟩
              rw [h1] at h2; injection h2 with h2; injection h2 with h2; subst h2
              obtain ⟨sh1, sh2⟩ := sh
              simp [execOp, convert, run_underlying h1, run_underlying h3, hV, markStringish, shape, freeze, Sem.run, hsh]
            · omega
        · cases h
      · cases h
    · rename_i n c hx
      have hX : a.eval x = .slice none n c := by have := F x; rw [hx] at this; exact this
      split at h
      · rename_i e h1 h2
        split at h
        · rename_i h3
          simp only [Option.some.injEq, Prod.mk.injEq] at h
          obtain ⟨rfl, rfl⟩ := h
          exact .same R (V := .string .empty) (by simp [execOp, convert, run_underlying h1, run_underlying h2, run_underlying h3, hX, Conv.bytesToString]) rfl
        · cases h
      · cases h
    · exact .pure R F (fun _ _ => by simp) h
  | makeFunc fn first cap =>
    cases fn with
    | func f =>
      simp only [evOp, Option.some.injEq, Prod.mk.injEq] at h
      obtain ⟨rfl, rfl⟩ := h
      refine .same R (V := .func (.func f) (first.map a.eval) (cap.map a.eval)) (by simp [execOp, Instr.makeFunc]) ⟨_, _, rfl, ?_, ?_⟩
      · simpa using ERs.map (ρ := ρ) (w := w) (f := ev) (g := a.eval) first.toList F
      · simpa using ERs.map (ρ := ρ) (w := w) (f := ev) (g := a.eval) cap.toList F
    | _ => simp [evOp] at h
  | call c =>
    obtain ⟨callee, args, argTypes⟩ := c
    cases callee with
    | value f =>
      simp only [evOp] at h
      split at h
      · rename_i g first cap hf
        obtain ⟨h1, h2⟩ := hca _ _ _ _ _ h
        have hF := F f
        rw [hf] at hF
        obtain ⟨x', y', e, r1, r2⟩ := hF
        refine .inr ⟨g, x' ++ args.map a.eval ++ y', ?_, h2 ρ w _ R ?_⟩
        · have := h1 (x' ++ args.map a.eval ++ y') w
          simpa [execOp, resolve, Deferred.ofValue, e, invoke] using this
        · have := (r1.append (ERs.map (ρ := ρ) (w := w) (f := ev) (g := a.eval) args.toList F)).append r2
          simpa using this
      · cases h
    | invoke _ _ => simp [evOp] at h
    | builtin b =>
      obtain ⟨args⟩ := args
      obtain ⟨argTypes⟩ := argTypes
      cases b with
      | append =>
        simp only [evOp] at h
        split at h
        · rename_i s x t tx
          obtain ⟨V, ρ', w', r1, r2, r3⟩ := evAppend_ok (P := P) (ty := type) R (F s) (F x) h
          exact .inl ⟨V, ρ', w', .inl (by simp [execOp, resolve, invoke, builtin, r1]), r2, r3⟩
        · cases h
      | copy =>
        simp only [evOp] at h
        split at h
        · rename_i s x t tx
          obtain ⟨V, ρ', w', r1, r2, r3⟩ := evCopy_ok (P := P) (ty := type) R (F s) (F x) h
          exact .inl ⟨V, ρ', w', .inl (by simp [execOp, resolve, invoke, builtin, r1]), r2, r3⟩
        · cases h
      | len =>
        simp only [evOp] at h
        split at h
        · rename_i x t
          split at h
          · rename_i b o n c k e hx hu
            simp only [Option.some.injEq, Prod.mk.injEq] at h
            obtain ⟨rfl, rfl⟩ := h
            have hX := F x
            rw [hx] at hX
            obtain ⟨_, _, _, _, _, hV, _⟩ := hX
            exact .same R (V := .int .i64 n) (by simp [execOp, resolve, invoke, builtin, Builtin.len_, run_underlying hu, hV, goInt]) rfl
          · cases h
          · exact .pure R F (fun _ _ => by simp) h
        · cases h
      | cap =>
        simp only [evOp] at h
        split at h
        · rename_i x t
          split at h
          · rename_i b o n c e hx hu
            simp only [Option.some.injEq, Prod.mk.injEq] at h
            obtain ⟨rfl, rfl⟩ := h
            have hX := F x
            rw [hx] at hX
            obtain ⟨_, _, _, C, _, hV, hC, _⟩ := hX
            simp only [if_true] at hC
            subst hC
            exact .same R (V := .int .i64 C) (by simp [execOp, resolve, invoke, builtin, Builtin.cap_, run_underlying hu, hV, goInt]) rfl
          · exact .pure R F (fun _ _ => by simp) h
          · cases h
        · cases h
      | min => simp only [evOp] at h; exact .pure R F (fun _ _ => by simp) h
      | max => simp only [evOp] at h; exact .pure R F (fun _ _ => by simp) h
      | _ => simp [evOp] at h
  | unOp op t x => simp only [evOp] at h; exact .pure R F (fun _ _ => by simp) h
  | makeInterface t x => simp only [evOp] at h; exact .pure R F (fun _ _ => by simp) h
  | _ => simp [evOp] at h
end
end Go.Proofs.YtacmaphhbbadjaaGreatDoor
