/- Regions in any order, 1: what stands before what; memory with blocks that sleep. -/
import Derived.Test.YtacmaphhbbadjaaGreatDoorEvN
namespace Go.Proofs.YtacmaphhbbadjaaGreatDoor
set_option linter.all false
open Go.RowKit

/-- j must stand before i. -/
def RB (ops : Array Oper) (i j : Nat) : Prop := (bOf (bmasks ops.toList []) i).testBit j = true
def Lst (listed : Array Bool) (i : Nat) : Prop := listed.getD i false = true
/-- All before those that are listed are listed. -/
def DC (ops : Array Oper) (listed : Array Bool) : Prop := ∀ i o, ops[i]? = some o → Lst listed i → ∀ e ∈ o.after, Region.binds .any e = true → Lst listed e.on
section
variable {ops : Array Oper} {listed : Array Bool}
theorem bmask_bit {acc : List Nat} {o : Oper} {j : Nat} : (bmask acc o).testBit j = true ↔ ∃ e ∈ o.after, Region.binds .any e = true ∧ (e.on = j ∨ (acc.getD e.on 0).testBit j = true) := by
  unfold bmask
  have key : ∀ l : List Edge, (l.foldr (fun e s => bif Region.binds .any e then s ||| (2 ^ e.on ||| acc.getD e.on 0) else s) 0).testBit j = true ↔ ∃ e ∈ l, Region.binds .any e = true ∧ (e.on = j ∨ (acc.getD e.on 0).testBit j = true) := by
    intro l
    induction l with
    | nil => simp
    | cons e l ih =>
      simp only [List.foldr_cons]
      cases hb : Region.binds .any e with
      | false =>
        simp only [cond_false, ih]
        constructor
        · rintro ⟨f, hf, h⟩; exact ⟨f, by simp [hf], h⟩
        · rintro ⟨f, hf, h⟩
          rcases List.mem_cons.1 hf with rfl | hf
          · rw [hb] at h; exact absurd h.1 (by simp)
          · exact ⟨f, hf, h⟩
      | true =>
        simp only [cond_true, Nat.testBit_or, Bool.or_eq_true, ih, Nat.testBit_two_pow, decide_eq_true_eq]
        constructor
        · rintro (⟨f, hf, h⟩ | h)
          · exact ⟨f, by simp [hf], h⟩
          · exact ⟨e, by simp, hb, h⟩
        · rintro ⟨f, hf, h⟩
          rcases List.mem_cons.1 hf with rfl | hf
          · exact .inr h.2
          · exact .inl ⟨f, hf, h⟩
  simpa using key o.after.toList
theorem bmasks_spec : ∀ (l : List Oper) (acc : List Nat), ∃ t, bmasks l acc = acc ++ t ∧ t.length = l.length ∧ ∀ k o, l[k]? = some o → ∃ q, (acc ++ t).getD (acc.length + k) 0 = bmask q o ∧ q = (acc ++ t).take (acc.length + k)
  | [], acc => ⟨[], by simp [bmasks], rfl, by simp⟩
  | o :: l, acc => by
    obtain ⟨t, h1, h2, h3⟩ := bmasks_spec l (acc ++ [bmask acc o])
    refine ⟨bmask acc o :: t, by simp [bmasks, h1], by simp [h2], fun k o' hk => ?_⟩
    cases k with
    | zero =>
      simp at hk; subst hk
      exact ⟨acc, by simp [List.getD], by simp⟩
    | succ k =>
      obtain ⟨q, e1, e2⟩ := h3 k o' (by simpa using hk)
      have : acc ++ [bmask acc o] ++ t = acc ++ bmask acc o :: t := by simp
      rw [this] at e1 e2
      simp only [List.length_append, List.length_singleton] at e1 e2
      exact ⟨q, by rw [show acc.length + (k + 1) = acc.length + 1 + k by omega]; exact e1, by rw [show acc.length + (k + 1) = acc.length + 1 + k by omega]; exact e2⟩
theorem RB_iff {i j : Nat} {o : Oper} (hi : ops[i]? = some o) : RB ops i j ↔ ∃ e ∈ o.after, Region.binds .any e = true ∧ (e.on = j ∨ (e.on < i ∧ RB ops e.on j)) := by
  obtain ⟨t, h1, h2, h3⟩ := bmasks_spec ops.toList []
  obtain ⟨q, e1, e2⟩ := h3 i o (by simpa using hi)
  have hlen : i < t.length := by
    rw [h2]
    have := (Array.getElem?_eq_some_iff.1 hi).1
    simpa using this
  unfold RB bOf
  rw [h1]
  simp only [List.nil_append, List.length_nil, Nat.zero_add] at e1 e2 ⊢
  rw [e1, bmask_bit]
  have hq : ∀ k, (q.getD k 0).testBit j = true ↔ k < i ∧ (t.getD k 0).testBit j = true := by
    intro k
    rw [e2]
    by_cases hk : k < i
    · simp [List.getD, List.getElem?_take, hk]
    · simp [List.getD, List.getElem?_take, hk]
  simp only [hq]
theorem RB_lt {i j : Nat} (h : RB ops i j) : i < ops.size := by
  obtain ⟨t, h1, h2, h3⟩ := bmasks_spec ops.toList []
  unfold RB bOf at h
  rw [h1] at h
  rcases Nat.lt_or_ge i ops.size with hi | hi
  · exact hi
  · have : ([] ++ t).getD i 0 = 0 := by simp [List.getD, List.getElem?_eq_none (show t.length ≤ i by rw [h2]; simpa using hi)]
    rw [this] at h; simp at h
theorem DC.closed (hd : DC ops listed) : ∀ i j, RB ops i j → Lst listed i → Lst listed j := by
  intro i
  induction i using Nat.strongRecOn with
  | _ i ih =>
    intro j hb hl
    have hlt := RB_lt hb
    have hi : ops[i]? = some ops[i] := by simp [hlt]
    obtain ⟨e, he, hbd, h⟩ := (RB_iff hi).1 hb
    have hl' := hd i _ hi hl e he hbd
    rcases h with h | ⟨h1, h2⟩
    · rw [← h]; exact hl'
    · exact ih e.on h1 j h2 hl'
theorem ready_spec {i : Nat} (h : i ∈ Region.ready .any ops listed) : listed.getD i true = false ∧ i < ops.size ∧ ∃ o, ops[i]? = some o ∧ ∀ e ∈ o.after, Region.binds .any e = true → Lst listed e.on := by
  obtain ⟨h1, o, h2, h3⟩ := mem_ready.1 h
  exact ⟨h1, (Array.getElem?_eq_some_iff.1 h2).1, o, h2, h3⟩
theorem DC.ready (hd : DC ops listed) {i j : Nat} (h : i ∈ Region.ready .any ops listed) (hb : RB ops i j) : Lst listed j := by
  obtain ⟨_, _, o, ho, h3⟩ := ready_spec h
  obtain ⟨e, he, hbd, h⟩ := (RB_iff ho).1 hb
  rcases h with h | ⟨h1, h2⟩
  · rw [← h]; exact h3 e he hbd
  · exact hd.closed _ _ h2 (h3 e he hbd)
theorem Lst.set {i j : Nat} (hi : i < listed.size) : Lst (listed.setIfInBounds i true) j ↔ j = i ∨ Lst listed j := by
  unfold Lst
  by_cases h : j = i
  · subst h; simp [hi]
  · simp [Array.getElem?_setIfInBounds, Ne.symm h, h]
theorem DC.set (hd : DC ops listed) {i : Nat} (h : i ∈ Region.ready .any ops listed) (hi : i < listed.size) : DC ops (listed.setIfInBounds i true) := by
  intro j o ho hl e he hb
  rw [Lst.set hi]
  right
  rcases (Lst.set hi).1 hl with rfl | hl
  · obtain ⟨_, _, o', ho', h3⟩ := ready_spec h
    rw [ho] at ho'; injection ho' with ho'; subst ho'
    exact h3 e he hb
  · exact hd j o ho hl e he hb
end

/-- Memory within a region: what stands, blocks that sleep under their names, names that wait. -/
structure RCore (ρ0 : ERho) (w0 : World) (H0 : EH) (Pd : Nat → EBlk → Prop) (Ub : Nat → Prop) (ρ : ERho) (w : World) (H : EH) : Prop where
  rep : ERep ρ w H
  ext : ∀ (b : Nat) (x : Nat × Nat), ρ0 b = some x → ρ b = some x
  old : ∀ b, b < H0.next → ρ b = ρ0 b
  kp : EKp (ELive ρ0 H0) w0 w
  new : ∀ B, ELive ρ H B → ELive ρ0 H0 B ∨ w0.heap.size ≤ B
  next : H0.next ≤ H.next
  pd : ∀ n x, Pd n x → ∃ B, ρ n = some (B, 0) ∧ EBOk ρ w x B 0 ∧ ¬ ELive ρ H B ∧ w0.heap.size ≤ B ∧ H0.next ≤ n ∧ n < H.next
  pdist : ∀ n x m y B ba bb, Pd n x → Pd m y → ρ n = some (B, ba) → ρ m = some (B, bb) → n = m
  ub : ∀ n, Ub n → ρ n = none ∧ H0.next ≤ n ∧ n < H.next
section
variable {ρ0 ρ ρ' : ERho} {w0 w w' : World} {H0 H H' : EH} {Pd Pd' : Nat → EBlk → Prop} {Ub Ub' : Nat → Prop}
theorem RCore.weaken (c : RCore ρ0 w0 H0 Pd Ub ρ w H) (hp : ∀ n x, Pd' n x → Pd n x) (hu : ∀ n, Ub' n → Ub n) : RCore ρ0 w0 H0 Pd' Ub' ρ w H :=
  ⟨c.rep, c.ext, c.old, c.kp, c.new, c.next, fun n x h => c.pd n x (hp n x h), fun n x m y B ba bb h1 h2 => c.pdist n x m y B ba bb (hp n x h1) (hp m y h2), fun n h => c.ub n (hu n h)⟩
theorem RCore.step (c : RCore ρ0 w0 H0 Pd Ub ρ w H) (s : EStep ρ w H ρ' w' H') : RCore ρ0 w0 H0 Pd Ub ρ' w' H' := by
  refine ⟨s.rep, fun b x h => s.ext b x (c.ext b x h), fun b hb => (s.old b (Nat.lt_of_lt_of_le hb c.next)).trans (c.old b hb), c.kp.trans s.kp c.new, fun B hB => ?_, Nat.le_trans c.next s.next, fun n x h => ?_, fun n x m y B ba bb h1 h2 e1 e2 => ?_, fun n h => ?_⟩
  · rcases s.new B hB with h | h
    · exact c.new B h
    · exact .inr (Nat.le_trans c.kp.hsize h)
  · obtain ⟨B, e, ok, hd, hB, h1, h2⟩ := c.pd n x h
    have hlt := c.rep.bnd _ _ e
    refine ⟨B, s.ext _ _ e, ok.mono s.grow (s.kp.block B hlt hd), fun hl => ?_, hB, h1, Nat.lt_of_lt_of_le h2 s.next⟩
    rcases s.new B hl with h | h
    · exact hd h
    · exact absurd hlt (Nat.not_lt.2 h)
  · obtain ⟨B1, _, _, _, _, _, l1⟩ := c.pd n x h1
    obtain ⟨B2, _, _, _, _, _, l2⟩ := c.pd m y h2
    rw [s.old _ l1] at e1
    rw [s.old _ l2] at e2
    exact c.pdist n x m y B ba bb h1 h2 e1 e2
  · obtain ⟨h1, h2, h3⟩ := c.ub n h
    exact ⟨(s.old _ h3).trans h1, h2, Nat.lt_of_lt_of_le h3 s.next⟩
theorem RCore.wake (c : RCore ρ0 w0 H0 Pd Ub ρ w H) {n : Nat} {x : EBlk} (h : Pd n x) : RCore ρ0 w0 H0 (fun m y => Pd m y ∧ m ≠ n) Ub ρ w (H.upd n x) := by
  obtain ⟨B, e, ok, hd, hB, h1, h2⟩ := c.pd n x h
  have live : ∀ B', ELive ρ (H.upd n x) B' → B' = B ∨ ELive ρ H B' := by
    rintro B' ⟨b, y, ba, hb, e'⟩
    rcases blk?_upd hb with ⟨rfl, _⟩ | ⟨_, hb⟩
    · rw [e] at e'; injection e' with e'; injection e' with e' _; exact .inl e'.symm
    · exact .inr ⟨b, y, ba, hb, e'⟩
  refine ⟨c.rep.wake e x ok hd (fun b y hb => blk?_upd hb) (Nat.le_refl _), c.ext, c.old, c.kp, fun B' hl => ?_, c.next, fun m y hm => ?_, fun n' x' m y B' ba bb h1 h2 => c.pdist n' x' m y B' ba bb h1.1 h2.1, c.ub⟩
  · rcases live B' hl with rfl | hl
    · exact .inr hB
    · exact c.new B' hl
  · obtain ⟨B', e', ok', hd', hB', h1', h2'⟩ := c.pd m y hm.1
    refine ⟨B', e', ok', fun hl => ?_, hB', h1', h2'⟩
    rcases live B' hl with rfl | hl
    · exact hm.2 (c.pdist m y n x B' 0 0 hm.1 h e' e)
    · exact hd' hl
theorem RCore.birth (c : RCore ρ0 w0 H0 Pd Ub ρ w H) {n : Nat} (hn : Ub n) {x : EBlk} {cs : Array Value} {t : TypeId} (h : EBC ρ w x cs) :
    RCore ρ0 w0 H0 (fun m y => Pd m y ∨ (m = n ∧ y = x)) (fun m => Ub m ∧ m ≠ n) (ePutρ ρ n (w.heap.size, 0)) (w.alloc (.cells cs t (0, 0))) H ∧ EGrow ρ (ePutρ ρ n (w.heap.size, 0)) w (w.alloc (.cells cs t (0, 0))) := by
  obtain ⟨u1, u2, u3⟩ := c.ub n hn
  obtain ⟨k1, k2, k3⟩ := c.rep.born u1 x cs t (0, 0) (Nat.le_of_eq h.1) (.inl rfl) h.2 u3
  have kp : EKp (fun _ => False) w (w.alloc (.cells cs t (0, 0))) := .alloc _ _ _
  have g : EGrow ρ (ePutρ ρ n (w.heap.size, 0)) w (w.alloc (.cells cs t (0, 0))) := kp.grow (rho_put _ u1 _)
  have dead : ∀ b y, H.blk? b = some y → b ≠ n := fun b y hb q => by
    obtain ⟨_, _, e, _⟩ := c.rep.blk b y hb
    rw [q, u1] at e; cases e
  have live : ∀ B, ELive (ePutρ ρ n (w.heap.size, 0)) H B → ELive ρ H B := by
    rintro B ⟨b, y, ba, hb, e⟩
    rw [rho_other _ _ (dead b y hb)] at e
    exact ⟨b, y, ba, hb, e⟩
  have pne : ∀ m y, Pd m y → m ≠ n := fun m y hm q => by
    obtain ⟨_, e, _⟩ := c.pd m y hm
    rw [q, u1] at e; cases e
  refine ⟨⟨k1, fun b p hb => rho_put _ u1 _ _ _ (c.ext b p hb), fun b hb => (rho_other _ _ (by omega)).trans (c.old b hb), c.kp.trans (.alloc (ELive ρ H) _ _) c.new, fun B hl => c.new B (live B hl), c.next, fun m y hm => ?_, fun m y m' y' B ba bb hm hm' e e' => ?_, fun m hm => ?_⟩, g⟩
  · rcases hm with hm | ⟨rfl, rfl⟩
    · obtain ⟨B, e, ok, hd, hB, h1, h2⟩ := c.pd m y hm
      have hlt := c.rep.bnd _ _ e
      exact ⟨B, rho_put _ u1 _ _ _ e, ok.mono g (Below.heap_alloc _ _ _ hlt), fun hl => hd (live B hl), hB, h1, h2⟩
    · refine ⟨w.heap.size, rho_self _ _ _, k2, fun hl => ?_, c.kp.hsize, u2, u3⟩
      exact absurd (ELive.lt c.rep (live _ hl)) (Nat.lt_irrefl _)
  · rcases hm with hm | ⟨rfl, rfl⟩ <;> rcases hm' with hm' | ⟨rfl, rfl⟩
    · rw [rho_other _ _ (pne m y hm)] at e
      rw [rho_other _ _ (pne m' y' hm')] at e'
      exact c.pdist m y m' y' B ba bb hm hm' e e'
    · rw [rho_other _ _ (pne m y hm)] at e
      rw [rho_self] at e'; injection e' with e'; injection e' with e' _
      have hlt : B < w.heap.size := c.rep.bnd _ _ e
      omega
    · rw [rho_other _ _ (pne m' y' hm')] at e'
      rw [rho_self] at e; injection e with e; injection e with e _
      have hlt : B < w.heap.size := c.rep.bnd _ _ e'
      omega
    · rfl
  · obtain ⟨h1, h2, h3⟩ := c.ub m hm.1
    exact ⟨(rho_other _ _ hm.2).trans h1, h2, h3⟩
end
end Go.Proofs.YtacmaphhbbadjaaGreatDoor
