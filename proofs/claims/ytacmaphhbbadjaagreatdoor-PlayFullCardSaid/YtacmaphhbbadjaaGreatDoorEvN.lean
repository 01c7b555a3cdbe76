/- The small machine's fast form: frames, guards, operations one after the other. -/
import Derived.Test.YtacmaphhbbadjaaGreatDoorEvM
import Derived.Tactics
namespace Go.Proofs.YtacmaphhbbadjaaGreatDoor
set_option linter.all false
open Go.RowKit

theorem blt_lt {a b : Nat} (h : Nat.blt a b = true) : a < b := Nat.le_of_ble_eq_true h
theorem lt_blt {a b : Nat} (h : a < b) : Nat.blt a b = true := Nat.ble_eq_true_of_le h
theorem evT_set {d : Nat} (hd : d < 256) (v : EV) (T : XF) (t : Nat) : evT ((compP d).set v T) (.tmp t) = if t = d then v else evT T (.tmp t) := by
  have hdv : ∀ a b, Nat.div a b = a / b := fun _ _ => rfl
  have hmo : ∀ a b, Nat.mod a b = a % b := fun _ _ => rfl
  unfold evT compG compP
  simp only [hdv, hmo]
  cases q : Nat.blt t 256 with
  | false =>
    have : t ≠ d := fun e => by
      subst e
      rw [lt_blt hd] at q
      cases q
    simp [this]
  | true =>
    have ht : t < 256 := blt_lt q
    simp only [cond_true]
    by_cases e0 : t / 16 = d / 16
    · rw [e0, dig_same _ (by omega)]
      by_cases e1 : t % 16 = d % 16
      · rw [e1, dig_same _ (by omega), if_pos (by omega)]
      · rw [dig_other (by omega) (by omega) e1, if_neg (by intro e; exact e1 (by rw [e]))]
    · rw [dig_other (by omega) (by omega) e0, if_neg (by intro e; exact e0 (by rw [e]))]
theorem evT_big (T : XF) {t : Nat} (h : 256 ≤ t) : evT T (.tmp t) = default := by
  unfold evT compG
  have : Nat.blt t 256 = false := by
    cases q : Nat.blt t 256 with
    | false => rfl
    | true => have := blt_lt q; omega
  simp only [this]; rfl
/-- The temporaries of a frame. -/
structure XFrm (nt : Nat) (ρ : ERho) (w : World) (T : XF) (a : Act) : Prop where
  rel : ∀ t, ER ρ w (evT T (.tmp t)) (a.tmps.getD t undef)
  size : a.tmps.size = nt
/-- Those that an operation looks at. -/
def Looks (ops : Array Oper) (ρ : ERho) (w : World) (T : XF) (a : Act) (o : Oper) : Prop := ∀ t ∈ o.looksAt ops, ER ρ w (evT T (.tmp t)) (a.tmps.getD t undef)
section
variable {P : Program} {ca : XCa} {ops : Array Oper} {o : Oper} {s : XP} {k i : XB} {T : XF} {H H' : EH} {s0 : XS} {v : EV} {ρ ρ' : ERho} {w w' : World} {a : Act} {nt : Nat} {V : Value}
theorem XFrm.looks (F : XFrm nt ρ w T a) (ops : Array Oper) (o : Oper) : Looks ops ρ w T a o := fun t _ => F.rel t
theorem Looks.eops (L : Looks ops ρ w T a o) : EOps ρ w (evT T) a o := by
  intro x hx
  cases x with
  | tmp t =>
    refine L t ?_
    simp only [Oper.looksAt, List.mem_append, List.mem_filterMap]
    exact .inl ⟨.tmp t, by simpa using hx, rfl⟩
  | const v => exact .of v
  | func f => exact ⟨#[], #[], rfl, trivial, trivial⟩
  | global g => exact rfl
theorem Looks.guard {j g : Nat} {b : Bool} (L : Looks ops ρ w T a o) (hg : o.guard = some (j, b)) (hd : (ops[j]?).bind (·.dst) = some g) : ER ρ w (evT T (.tmp g)) (a.tmps.getD g undef) := by
  refine L g ?_
  simp only [Oper.looksAt, List.mem_append, hg, hd]
  exact .inr (by simp)
theorem XFrm.mono (F : XFrm nt ρ w T a) (g : EGrow ρ ρ' w w') : XFrm nt ρ' w' T a := ⟨fun t => ER.mono g _ _ (F.rel t), F.size⟩
theorem put_getD {d : Nat} (hd : d < a.tmps.size) (V : Value) (t : Nat) : (a.put (some d) V).tmps.getD t undef = if t = d then V else a.tmps.getD t undef := by
  unfold Act.put
  simp only [Array.getD_eq_getD_getElem?, Array.getElem?_setIfInBounds]
  by_cases h : d = t
  · subst h; simp [hd]
  · rw [if_neg h, if_neg (Ne.symm h)]
theorem put_size (d : Option Nat) (V : Value) : (a.put d V).tmps.size = a.tmps.size := by cases d <;> simp [Act.put]
theorem put_defers (d : Option Nat) (V : Value) : (a.put d V).defers = a.defers := by cases d <;> rfl
theorem XFrm.put (F : XFrm nt ρ w T a) (h256 : nt ≤ 256) (hs : compDst nt o = some s) (r : ER ρ w v V) : XFrm nt ρ w (s.set v T) (a.put o.dst V) := by
  unfold compDst at hs
  split at hs
  · rename_i hd
    injection hs with hs; subst hs
    rw [hd]
    exact F
  · rename_i d hd
    cases q : Nat.blt d nt with
    | false => rw [q] at hs; cases hs
    | true =>
      rw [q] at hs
      injection hs with hs; subst hs
      have hlt : d < nt := blt_lt q
      rw [hd]
      refine ⟨fun t => ?_, by rw [put_size]; exact F.size⟩
      rw [put_getD (by rw [F.size]; exact hlt), evT_set (Nat.lt_of_lt_of_le hlt h256)]
      by_cases h : t = d
      · rw [if_pos h, if_pos h]; exact r
      · rw [if_neg h, if_neg h]; exact F.rel t
def isW (V : Value) (b : Bool) : Bool := (match V with | .bool c => some c | _ => none) == some b
theorem wanted_eq {j g : Nat} {b : Bool} (hg : o.guard = some (j, b)) (hd : (ops[j]?).bind (·.dst) = some g) : Region.wanted o (yielded ops a.tmps) = isW (a.tmps.getD g undef) b := by
  unfold Region.wanted yielded isW
  rw [hg]
  simp only [hd, Option.bind_some]
  by_cases h : g < a.tmps.size
  · simp [h]
    congr 1
    cases a.tmps[g] <;> rfl
  · simp [h]
    exact fun q => by cases q
theorem onGd_ok {x : EV} {b : Bool} {y z : XS} (h : onGd x b y z .no = s0) (hn : s0 ≠ .no) : ((∀ ρ w V, ER ρ w x V → isW V b = true) ∧ y = s0) ∨ ((∀ ρ w V, ER ρ w x V → isW V b = false) ∧ z = s0) := by
  cases x with
  | bool c =>
    cases c <;> cases b
    · exact .inl ⟨fun ρ w V r => by have r : V = _ := r; subst r; rfl, h⟩
    · exact .inr ⟨fun ρ w V r => by have r : V = _ := r; subst r; rfl, h⟩
    · exact .inr ⟨fun ρ w V r => by have r : V = _ := r; subst r; rfl, h⟩
    · exact .inl ⟨fun ρ w V r => by have r : V = _ := r; subst r; rfl, h⟩
  | lit u =>
    have h : litGd u z .no = s0 := h
    unfold litGd at h
    split at h
    · exact absurd h.symm hn
    · rename_i hq
      refine .inr ⟨fun ρ w V r => ?_, h⟩
      have r : V = u := r
      subst r
      unfold isW
      cases V <;> first | rfl | exact absurd rfl (hq _)
  | int _ _ => exact .inr ⟨fun ρ w V r => by have r : V = _ := r; subst r; rfl, h⟩
  | ptr _ _ => exact .inr ⟨fun ρ w V r => by obtain ⟨_, _, _, rfl⟩ := r; rfl, h⟩
  | sl _ _ _ _ _ => exact .inr ⟨fun ρ w V r => by obtain ⟨_, _, _, _, _, rfl, _⟩ := r; rfl, h⟩
  | agg _ => exact .inr ⟨fun ρ w V r => by obtain ⟨_, rfl, _⟩ := r; rfl, h⟩
  | tup _ => exact .inr ⟨fun ρ w V r => by obtain ⟨_, rfl, _⟩ := r; rfl, h⟩
  | fn _ _ _ => exact .inr ⟨fun ρ w V r => by obtain ⟨_, _, rfl, _⟩ := r; rfl, h⟩
/-- Whether the operation is wanted, by what it looks at. -/
def Wants (ops : Array Oper) (o : Oper) (T : XF) (t : Bool) : Prop := ∀ ρ w a, Looks ops ρ w T a o → Region.wanted o (yielded ops a.tmps) = t
theorem compGd_ok (h : (compGd ops o s i k).run ca T H = s0) (hn : s0 ≠ .no) : (Wants ops o T true ∧ i.run ca T H = s0) ∨ (Wants ops o T false ∧ k.run ca (s.set default T) H = s0) := by
  unfold compGd at h
  split at h
  · rename_i hg
    exact .inl ⟨fun ρ w a _ => by simp [Region.wanted, hg], h⟩
  · rename_i j b hg
    split at h
    · rename_i g hd
      rcases onGd_ok (x := evT T (.tmp g)) h hn with ⟨q, h⟩ | ⟨q, h⟩
      · exact .inl ⟨fun ρ w a L => by rw [wanted_eq hg hd]; exact q _ _ _ (L.guard hg hd), h⟩
      · exact .inr ⟨fun ρ w a L => by rw [wanted_eq hg hd]; exact q _ _ _ (L.guard hg hd), h⟩
    · exact absurd h.symm hn
/-- What an operation does, guard and all. -/
def OneSpec (P : Program) (ops : Array Oper) (o : Oper) (T : XF) (H : EH) (v : EV) (H' : EH) : Prop :=
  (Wants ops o T true ∧ OpSpec P o T H v H') ∨ (Wants ops o T false ∧ v = default ∧ H' = H)
structure OneOk (P : Program) (ca : XCa) (nt : Nat) (ops : Array Oper) (o : Oper) (s : XP) (k : XB) (T : XF) (H : EH) (s0 : XS) (v : EV) (H' : EH) : Prop where
  dst : compDst nt o = some s
  spec : OneSpec P ops o T H v H'
  plain : opCls P o.op = 0 → ∀ G, OneSpec P ops o T G v G
  same : opCls P o.op < 2 → H' = H
  go : k.run ca (s.set v T) H' = s0
theorem compOne_ok (hca : ECa P ca.opt) (h : (compOne P nt ops o k).run ca T H = s0) (hn : s0 ≠ .no) : ∃ s v H', OneOk P ca nt ops o s k T H s0 v H' := by
  unfold compOne at h
  split at h
  · exact absurd h.symm hn
  · rename_i s hs
    rcases compGd_ok h hn with ⟨hw, h⟩ | ⟨hw, h⟩
    · obtain ⟨v, H', ok⟩ := compI_ok hca h hn
      exact ⟨s, v, H', hs, .inl ⟨hw, ok.spec⟩, fun hc G => .inl ⟨hw, ok.plain hc G⟩, ok.same, ok.go⟩
    · exact ⟨s, default, H, hs, .inr ⟨hw, rfl, rfl⟩, fun _ G => .inr ⟨hw, rfl, rfl⟩, fun _ => rfl, h⟩
theorem EOut.wp {K : Act → World → Prop} {Q : Exit → Act → World → Prop} (e : EOut P o a ρ w H v H') (hK : ∀ V ρ' w', EStep ρ w H ρ' w' H' → ER ρ' w' v V → K (a.put o.dst V) w') : o.wp P a w K Q := by
  unfold Oper.wp
  rcases e with ⟨V, ρ', w', e⟩ | ⟨f, A, hr, e⟩
  · rcases e.run with hr | ⟨hr, hV⟩
    · rw [hr, Oper.upon_value]; exact hK V ρ' w' e.step e.val
    · rw [hr, Oper.upon_skip, ← hV]; exact hK V ρ' w' e.step e.val
  · rw [hr, Oper.upon_enter]
    refine e.mono fun e w' he => ?_
    obtain ⟨V, ρ', rfl, s, r⟩ := he
    exact hK V ρ' w' s r
theorem ER.default : ER ρ w (default : EV) undef := rfl
theorem OneSpec.wpOp {i : Nat} {K : Act → World → Prop} {Q : Exit → Act → World → Prop} (e : OneSpec P ops o T H v H') (R : ERep ρ w H) (L : Looks ops ρ w T a o) (hi : ops[i]? = some o)
    (hK : ∀ V ρ' w', EStep ρ w H ρ' w' H' → ER ρ' w' v V → K (a.put o.dst V) w') : wpOp P ops Q i K a w := by
  unfold Go.wpOp
  simp only [hi]
  rcases e with ⟨hw, e⟩ | ⟨hw, rfl, rfl⟩
  · rw [hw _ _ _ L, if_pos rfl]
    exact .inl ((e ρ w a R L.eops).wp hK)
  · rw [hw _ _ _ L, if_neg (by simp)]
    exact hK _ _ _ (.refl R) .default
theorem compL_ok (hca : ECa P ca.opt) (h256 : nt ≤ 256) {Q : Exit → Act → World → Prop} : ∀ (l : List Oper) (T : XF) (H : EH) (s0 : XS) (ρ : ERho) (w : World) (a : Act), (compL P nt ops l k).run ca T H = s0 → s0 ≠ .no → ERep ρ w H → XFrm nt ρ w T a →
    (∀ T' H' ρ' w' a', EStep ρ w H ρ' w' H' → XFrm nt ρ' w' T' a' → a'.defers = a.defers → k.run ca T' H' = s0 → Q .normal a' w') → wpList P ops Q l a w
  | [], T, H, s0, ρ, w, a, h, hn, R, F, hQ => hQ T H ρ w a (.refl R) F rfl h
  | o :: l, T, H, s0, ρ, w, a, h, hn, R, F, hQ => by
    obtain ⟨s, v, H', ok⟩ := compOne_ok hca h hn
    have next : ∀ V ρ' w', EStep ρ w H ρ' w' H' → ER ρ' w' v V → wpList P ops Q l (a.put o.dst V) w' := fun V ρ' w' st r =>
      compL_ok hca h256 l _ _ s0 ρ' w' _ ok.go hn st.rep ((F.mono st.grow).put h256 ok.dst r) fun T'' H'' ρ'' w'' a'' st' F' hd hk => hQ T'' H'' ρ'' w'' a'' (st.trans st') F' (by rw [hd, put_defers]) hk
    unfold wpList
    rcases ok.spec with ⟨hw, e⟩ | ⟨hw, e1, e2⟩
    · rw [hw _ _ _ (F.looks ops o), if_pos rfl]
      exact .inl ((e ρ w a R (F.looks ops o).eops).wp next)
    · rw [hw _ _ _ (F.looks ops o), if_neg (by simp)]
      subst e1; subst e2
      exact next _ _ _ (.refl R) .default
end
end Go.Proofs.YtacmaphhbbadjaaGreatDoor
