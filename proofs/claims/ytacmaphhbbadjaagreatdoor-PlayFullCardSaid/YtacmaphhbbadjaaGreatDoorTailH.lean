/- A region that draws its order and ends in forced operations: what comes ahead of them only reads, or keeps a condition S on the world; S need not hold behind the end. After the kit's 'held' and 'still tail' laws. -/
import Derived.StillTail
import Derived.OrdersHeld
import Derived.Deep.RegionHeld
namespace Go.Proofs.YtacmaphhbbadjaaGreatDoor
set_option linter.all false
section
variable {P : Program} {ops : Array Oper} {md : Region.Mode} {Q : Exit → Act → World → Prop} {S : World → Prop}

def headH (P : Program) (md : Region.Mode) (ops : Array Oper) (Q : Exit → Act → World → Prop) (S : World → Prop) (n : Nat) (L : Array Bool → Act → World → Prop) : Nat → Array Bool → Act → World → Prop
  | 0, listed, a, w => L listed a w
  | f + 1, listed, a, w => Region.ready md ops listed ≠ [] ∧ ∀ i ∈ Region.ready md ops listed, i < n ∧ wpOp P ops Q i (fun a' w' => S w' ∧ headH P md ops Q S n L f (listed.setIfInBounds i true) a' w') a w
theorem wpAny_of_headH {n g : Nat} {L : Array Bool → Act → World → Prop} (hL : ∀ listed a w, S w → L listed a w → wpAny P md ops Q g listed a w) :
    ∀ (f : Nat) (listed : Array Bool) (a : Act) (w : World), S w → headH P md ops Q S n L f listed a w → wpAny P md ops Q (f + g) listed a w
  | 0, listed, a, w, hS, h => by rw [Nat.zero_add]; exact hL _ _ _ hS h
  | f + 1, listed, a, w, hS, h => by
    rw [show f + 1 + g = (f + g) + 1 by omega]
    exact ⟨fun h0 => absurd h0 h.1, fun i hi => wpOp_mono (fun a' w' h' => wpAny_of_headH hL f _ a' w' h'.1 h'.2) (h.2 i hi).2⟩
theorem headH_first {n i : Nat} {oi : Oper} {v : Value} {L : Array Bool → Act → World → Prop} (hi : ops[i]? = some oi) (hsel : ∀ (j : Nat) (o : Oper) cs b, ops[j]? = some o → o.op ≠ .select cs b)
    (hs : Region.sinkB md ops n = true) (hc : Region.chainB md ops n = true) (hn : n < ops.size) (hin : i < n)
    (hQ : ∀ c a w, Q (.panic c) (a.put oi.dst v) w → Q (.panic c) a w) (hdone : ∀ listed a w, L listed a w → ∀ j ∈ Region.ready md ops listed, n ≤ j) :
    ∀ (f : Nat) (listed : Array Bool) (a : Act) (w : World), HeadInv md ops n listed →
      (∀ j oj, ops[j]? = some oj → j ≠ i → listed.getD j true = false → (∀ e ∈ oj.after, Region.binds md e = true → e.on ≠ i) → oi.apart ops oj = true) →
      i ∈ Region.ready md ops listed → YieldsIf P ops S oi v a → S w →
      headH P md ops Q S n L f (listed.setIfInBounds i true) (a.put oi.dst v) w → headH P md ops Q S n L (f + 1) listed a w := by
  intro f
  induction f with
  | zero =>
    intro listed a w inv _ hr hy hS H
    have hun := (mem_ready.1 hr).1
    refine ⟨fun h => (by rw [h] at hr; cases hr), fun j hj => ?_⟩
    have hjn : j < n := by
      rcases Nat.lt_or_ge j n with h | h
      · exact h
      · exact absurd hj (tail_waits hs hc hn inv _ i rfl hin hun j h)
    refine ⟨hjn, ?_⟩
    by_cases hji : j = i
    · subst hji; exact hy.wpOp hi hS ⟨hS, H⟩
    · have := hdone _ _ _ H j (ready_mono hj hji)
      omega
  | succ f ih =>
    intro listed a w inv hfree hr hy hS H
    have hun := (mem_ready.1 hr).1
    refine ⟨fun h => (by rw [h] at hr; cases hr), fun j hj => ?_⟩
    have hjn : j < n := by
      rcases Nat.lt_or_ge j n with h | h
      · exact h
      · exact absurd hj (tail_waits hs hc hn inv _ i rfl hin hun j h)
    refine ⟨hjn, ?_⟩
    by_cases hji : j = i
    · subst hji; exact hy.wpOp hi hS ⟨hS, H⟩
    · have h1 := (H.2 j (ready_mono hj hji)).2
      obtain ⟨hjun, oj, hoj, hall⟩ := mem_ready.1 hj
      have hnot : ∀ e ∈ oj.after, Region.binds md e = true → e.on ≠ i := fun e he hb heq => by
        have h1 := hall e he hb
        rw [heq, getD_both hun] at h1
        cases h1
      have h2 := wpOp_putIf hoj (hfree j oj hoj hji hjun hnot) (fun cs b => hsel i oi cs b hi) (fun cs b => hsel j oj cs b hoj) hQ hy h1
      have hfree' : ∀ k ok, ops[k]? = some ok → k ≠ i → (listed.setIfInBounds j true).getD k true = false →
          (∀ e ∈ ok.after, Region.binds md e = true → e.on ≠ i) → oi.apart ops ok = true := fun k ok hk hki hun hno => by
        refine hfree k ok hk hki ?_ hno
        by_cases hjk : j = k
        · subst hjk; exact hjun
        · rw [getD_set_ne true hjk] at hun; exact hun
      refine wpOp_mono (fun a' w' h3 => ⟨h3.2.1, ih (listed.setIfInBounds j true) a' w' (inv.set hj hjn) hfree' (ready_mono hr (Ne.symm hji)) h3.1 h3.2.1 ?_⟩) h2
      rw [Array.setIfInBounds_comm _ _ hji]
      exact h3.2.2
/-- The same under the head's invariant, for a walk. -/
def hH (P : Program) (md : Region.Mode) (ops : Array Oper) (Q : Exit → Act → World → Prop) (S : World → Prop) (n : Nat) (f : Nat) (listed : Array Bool) (a : Act) (w : World) : Prop :=
  HeadInv md ops n listed → headH P md ops Q S n (fun listed a w => Region.seqB md ops (ops.size - n) n listed = true ∧ wpList P ops Q (ops.toList.drop n) a w) f listed a w
theorem hH_take {n i : Nat} {oi : Oper} {v : Value} {f : Nat} {listed : Array Bool} {a : Act} {w : World} (hB : (Region.noSelect ops && Region.sinkB md ops n && Region.chainB md ops n && decide (n < ops.size)) = true) (hi : ops[i]? = some oi) (hin : i < n)
    (hf : Region.free md ops listed i = true) (hr : (Region.ready md ops listed).contains i = true) (hQ : ∀ c a w, Q (.panic c) (a.put oi.dst v) w → Q (.panic c) a w)
    (hy : YieldsIf P ops S oi v a) (hS : S w) (h : hH P md ops Q S n f (listed.setIfInBounds i true) (a.put oi.dst v) w) : hH P md ops Q S n (f + 1) listed a w := fun inv => by
  simp only [Bool.and_eq_true, decide_eq_true_eq] at hB
  have hr' : i ∈ Region.ready md ops listed := by simpa using hr
  exact headH_first hi (Region.noSelect_spec hB.1.1.1) hB.1.1.2 hB.1.2 hB.2 hin hQ (fun _ _ _ hL => seqB_ready hL.1) f listed a w inv (Region.free_spec hi hf) hr' hy hS (h (inv.set hr' hin))
/-- The same, its closed conditions in one. -/
theorem hT {n i : Nat} {oi : Oper} {v : Value} {f : Nat} {listed : Array Bool} {a : Act} {w : World} (hB : ((Region.noSelect ops && Region.sinkB md ops n && Region.chainB md ops n && decide (n < ops.size)) && decide (i < n) && Region.free md ops listed i && (Region.ready md ops listed).contains i) = true) (hi : ops[i]? = some oi)
    (hQ : ∀ c a w, Q (.panic c) (a.put oi.dst v) w → Q (.panic c) a w) (h1 : Region.wanted oi (yielded ops a.tmps) = true) (hS : S w) (hy : ∀ w, S w → (execOp a.eval oi).run P w = .ok (.value v) w)
    (h : hH P md ops Q S n f (listed.setIfInBounds i true) (a.put oi.dst v) w) : hH P md ops Q S n (f + 1) listed a w := by
  rw [Bool.and_eq_true, Bool.and_eq_true, Bool.and_eq_true] at hB
  exact hH_take hB.1.1.1 hi (of_decide_eq_true hB.1.1.2) hB.1.2 hB.2 hQ (.inl ⟨h1, hy⟩) hS h
/-- One operation alone may come up. -/
theorem hH_one {n i : Nat} {o : Oper} {f : Nat} {listed : Array Bool} {a : Act} {w : World} (ho : ops[i]? = some o) (hin : i < n) (hr : Region.ready md ops listed = [i])
    (h : ∀ K' : Act → World → Prop, Shut (∀ a w, S w → hH P md ops Q S n f (listed.setIfInBounds i true) a w → K' a w) → if Region.wanted o (yielded ops a.tmps) = true then Oper.wp P o a w K' Q else K' (a.put o.dst undef) w) :
    hH P md ops Q S n (f + 1) listed a w := fun inv => by
  refine ⟨by rw [hr]; simp, fun j hj => ?_⟩
  rw [hr] at hj
  obtain rfl : j = i := by simpa using hj
  have hjr : j ∈ Region.ready md ops listed := by rw [hr]; simp
  exact ⟨hin, wpOp_step ho fun K' hK => h K' fun a w hS hH => hK a w ⟨hS, hH (inv.set hjr hin)⟩⟩
theorem hH_done {n : Nat} {listed : Array Bool} {a : Act} {w : World} (hs : Region.seqB md ops (ops.size - n) n listed = true) (h : wpList P ops Q (ops.toList.drop n) a w) : hH P md ops Q S n 0 listed a w := fun _ => ⟨hs, h⟩
theorem wp_region_headH {id : Nat} {a : Act} {w : World} (n : Nat) (hm : P.follows .mixedOrders = true) (hn : n < ops.size) (hS : S w.drew)
    (h : hH P .any ops Q S n n (Array.replicate ops.size false) a w.drew) : (Code.region id ops true).wp P Q a w := by
  have inv0 : HeadInv .any ops n (Array.replicate ops.size false) :=
    ⟨by simp, fun j oj _ hl => (by rw [getD_replicate_false] at hl; cases hl), fun t _ ht => getD_in (by simpa using ht) (getD_replicate_false _ _)⟩
  refine wp_region_any hm ?_
  have h2 := wpAny_of_headH (P := P) (md := .any) (ops := ops) (Q := Q) (S := S) (n := n) (g := ops.size - n) (fun listed a' w' hw' hL => by
    have := wpAny_of_seq (Q' := Q) (md := .any) (ops := ops) (ops.toList.drop n) n listed a' w' (fun j => by simp) (by simpa using hL.1) hL.2
    simpa using this) n _ a w.drew hS (h inv0)
  have hsz : n + (ops.size - n) = ops.size := by omega
  rw [hsz] at h2
  exact h2
end
section
variable {P : Program} {ops : Array Oper} {md : Region.Mode} {Q : Exit → Act → World → Prop} {S : World → Prop}
/-- hH, with the number of the next operation, and what is closed told once. -/
def hK (P : Program) (md : Region.Mode) (ops : Array Oper) (Q : Exit → Act → World → Prop) (S : World → Prop) (n _i f : Nat) (listed : Array Bool) (a : Act) (w : World) : Prop :=
  (Region.noSelect ops && Region.sinkB md ops n && Region.chainB md ops n && decide (n < ops.size)) = true → hH P md ops Q S n f listed a w
theorem hK_to {n i f : Nat} {listed : Array Bool} {a : Act} {w : World} (j : Nat) (h : hK P md ops Q S n j f listed a w) : hK P md ops Q S n i f listed a w := h
theorem hU {n i : Nat} {oi : Oper} {v : Value} {f : Nat} {listed : Array Bool} {a : Act} {w : World} (hB : (decide (i < n) && Region.free md ops listed i && (Region.ready md ops listed).contains i) = true) (hi : ops[i]? = some oi)
    (hQ : ∀ c a w, Q (.panic c) (a.put oi.dst v) w → Q (.panic c) a w) (h1 : Region.wanted oi (yielded ops a.tmps) = true) (hS : S w) (hy : ∀ w, S w → (execOp a.eval oi).run P w = .ok (.value v) w)
    (h : hK P md ops Q S n (i + 1) f (listed.setIfInBounds i true) (a.put oi.dst v) w) : hK P md ops Q S n i (f + 1) listed a w := fun hs => by
  rw [Bool.and_eq_true, Bool.and_eq_true] at hB
  exact hH_take hs hi (of_decide_eq_true hB.1.1) hB.1.2 hB.2 hQ (.inl ⟨h1, hy⟩) hS (h hs)
theorem hK_one {n i : Nat} {o : Oper} {f : Nat} {listed : Array Bool} {a : Act} {w : World} (ho : ops[i]? = some o) (hin : i < n) (hr : Region.ready md ops listed = [i])
    (h : ∀ K' : Act → World → Prop, Shut (∀ a w, S w → hK P md ops Q S n (i + 1) f (listed.setIfInBounds i true) a w → K' a w) → if Region.wanted o (yielded ops a.tmps) = true then Oper.wp P o a w K' Q else K' (a.put o.dst undef) w) :
    hK P md ops Q S n i (f + 1) listed a w := fun hs => hH_one ho hin hr fun K' hK' => h K' (fun a w hS hh => hK'.out a w hS (hh hs))
theorem hK_done {n i : Nat} {listed : Array Bool} {a : Act} {w : World} (hs : Region.seqB md ops (ops.size - n) n listed = true) (h : wpList P ops Q (ops.toList.drop n) a w) : hK P md ops Q S n i 0 listed a w := fun _ => hH_done hs h
theorem wp_region_headK {id : Nat} {a : Act} {w : World} (n : Nat) (hm : P.follows .mixedOrders = true) (hs : (Region.noSelect ops && Region.sinkB .any ops n && Region.chainB .any ops n && decide (n < ops.size)) = true) (hS : S w.drew)
    (h : hK P .any ops Q S n 0 n (Array.replicate ops.size false) a w.drew) : (Code.region id ops true).wp P Q a w :=
  wp_region_headH n hm (by simp only [Bool.and_eq_true, decide_eq_true_eq] at hs; exact hs.2) hS (h hs)
end
end Go.Proofs.YtacmaphhbbadjaaGreatDoor
