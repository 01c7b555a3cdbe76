/- The small machine: what it answers, a call of the program answers. -/
import Derived.Test.YtacmaphhbbadjaaGreatDoorEvW
namespace Go.Proofs.YtacmaphhbbadjaaGreatDoor
set_option linter.all false
open Go.RowKit

section
variable {P : Program} {ca : XCa} {nt : Nat} {T T' : XF} {H H' : EH} {s0 : XS} {k : XB} {ρ ρ' : ERho} {w w' : World} {a a' : Act}
theorem evT_empty (t : Nat) : evT xempty (.tmp t) = default := by
  rcases Nat.lt_or_ge t 256 with ht | ht
  · have h1 : Nat.div t 16 < 16 := by show t / 16 < 16; omega
    have h2 : Nat.mod t 16 < 16 := Nat.mod_lt _ (by decide)
    unfold evT compG xempty
    simp only [lt_blt ht, cond_true]
    rw [dig_rep _ h1, dig_rep _ h2]
  · exact evT_big _ ht
theorem xframe_cons (v : EV) (l : List EV) (i : Nat) (T : XF) : xframe (v :: l) i T = xframe l (i + 1) ((compP i).set v T) := rfl
theorem xframe_at : ∀ (l : List EV) (i : Nat) (T : XF), i + l.length ≤ 256 → ∀ t : Nat, evT (xframe l i T) (.tmp t) = if i ≤ t then (l[t - i]?).getD (evT T (.tmp t)) else evT T (.tmp t)
  | [], i, T, h, t => by simp [xframe]
  | v :: l, i, T, h, t => by
    simp only [List.length_cons] at h
    rw [xframe_cons, xframe_at l (i + 1) _ (by omega), evT_set (by omega)]
    by_cases h1 : i + 1 ≤ t
    · have h2 : i ≤ t := by omega
      have h3 : ¬ t = i := by omega
      have h4 : t - i = (t - (i + 1)) + 1 := by omega
      simp only [h1, h2, h3, h4, if_true, if_false, List.getElem?_cons_succ]
    · by_cases h2 : t = i
      · subst h2
        have h3 : ¬ t + 1 ≤ t := by omega
        simp [h3]
      · have h3 : ¬ i ≤ t := by omega
        simp only [h1, h2, h3, if_false]
theorem frame_ok {args : List EV} {A : Array Value} (r : ERs ρ w args A.toList) (h : args.length ≤ nt) (h256 : nt ≤ 256) : XFrm nt ρ w (xframe args 0 xempty) { tmps := A ++ Array.replicate (nt - A.size) undef, defers := [] } := by
  have hl : args.length = A.size := by simpa using r.length
  refine ⟨fun t => ?_, by simp; omega⟩
  rw [xframe_at _ _ _ (by omega), if_pos (Nat.zero_le _), evT_empty, Nat.sub_zero]
  cases q : args[t]? with
  | none =>
    have ht : args.length ≤ t := by simpa using q
    have e : (A ++ Array.replicate (nt - A.size) undef).getD t undef = undef := by
      rw [Array.getD_eq_getD_getElem?, Array.getElem?_append_right (by omega), Array.getElem?_replicate]
      split <;> rfl
    rw [show ({ tmps := A ++ Array.replicate (nt - A.size) undef, defers := [] } : Act).tmps = A ++ Array.replicate (nt - A.size) undef from rfl, e]
    exact .default
  | some v =>
    obtain ⟨V, hV, hr⟩ := r.get t v q
    have hV : A[t]? = some V := by simpa using hV
    have e : (A ++ Array.replicate (nt - A.size) undef).getD t undef = V := by
      rw [Array.getD_eq_getD_getElem?, Array.getElem?_append_left (Array.getElem?_eq_some_iff.1 hV).1, hV]; rfl
    rw [show ({ tmps := A ++ Array.replicate (nt - A.size) undef, defers := [] } : Act).tmps = A ++ Array.replicate (nt - A.size) undef from rfl, e]
    exact hr
/-- One result. -/
def resSem (tmps : Array Value) : ResultVar → Sem Value
  | .tmp t => pure (tmps.getD t undef)
  | .cell a t => do loadVar t (← asAddr (tmps.getD a undef))
theorem resOne_ok (R : ERep ρ w H) (F : XFrm nt ρ w T a) {x : ResultVar} {v : EV} (h : resOne P T H x = some v) : ∃ V, (resSem a.tmps x).run P w = .ok V w ∧ ER ρ w v V := by
  cases x with
  | tmp t =>
    have h : some (evT T (.tmp t)) = some v := h
    injection h with h
    exact ⟨_, rfl, h ▸ F.rel t⟩
  | cell p t =>
    have h : (evT T (.tmp p)).onPtr (fun b o => evLoad P t b o H) none = some v := h
    have hp := F.rel p
    revert h hp
    generalize evT T (.tmp p) = x
    intro h hp
    cases x with
    | ptr b o =>
      obtain ⟨V, h1, h2⟩ := evLoad_ok (P := P) R hp h
      obtain ⟨B, base, _, hV⟩ := hp
      refine ⟨V, ?_, h2⟩
      show (do loadVar t (← asAddr (a.tmps.getD p undef)) : Sem Value).run P w = _
      rw [hV] at h1 ⊢
      simpa [Instr.loadAt, Instr.sureAddr, asAddr] using h1
    | _ => cases h
theorem resAll_ok (R : ERep ρ w H) (F : XFrm nt ρ w T a) : ∀ (l : List ResultVar) (vs : List EV), resAll P T H l = some vs → ∃ VS, (l.mapM (resSem a.tmps)).run P w = .ok VS w ∧ ERs ρ w vs VS
  | [], vs, h => by
    have h : some [] = some vs := h
    injection h with h
    subst h
    exact ⟨[], rfl, trivial⟩
  | x :: l, vs, h => by
    simp only [resAll] at h
    split at h
    · rename_i v vs' h1 h2
      injection h with h; subst h
      obtain ⟨V, q1, q2⟩ := resOne_ok R F h1
      obtain ⟨VS, q3, q4⟩ := resAll_ok R F l _ h2
      exact ⟨V :: VS, by simp [List.mapM_cons, Sem.run_bind, q1, q3], q2, q4⟩
    · cases h
theorem xres_ok (R : ERep ρ w H) (F : XFrm nt ρ w T a) {fn : Func} {v : EV} {H' : EH} (h : (xres P fn.results.toList T H).opt = some (v, H')) : H' = H ∧ ∃ V, (results fn a.tmps).run P w = .ok V w ∧ ER ρ w v V := by
  have key : ∀ vs, resAll P T H fn.results.toList = some vs → ∃ VS : List Value, (results fn a.tmps).run P w = .ok (if h : VS.toArray.size = 1 then VS.toArray[0] else .tuple VS.toArray) w ∧ ERs ρ w vs VS := by
    intro vs hvs
    obtain ⟨VS, h1, h2⟩ := resAll_ok R F _ _ hvs
    refine ⟨VS, ?_, h2⟩
    show (do
      let vs ← fn.results.mapM (resSem a.tmps)
      pure (if h : vs.size = 1 then vs[0] else .tuple vs) : Sem Value).run P w = _
    rw [Array.mapM_eq_mapM_toList]
    simp [Sem.run_bind, h1]
  unfold xres at h
  split at h
  · rename_i u hu
    have h : some (u, H) = some (v, H') := h
    injection h with h; injection h with e1 e2; subst e1; subst e2
    obtain ⟨VS, h1, h2⟩ := key _ hu
    match VS, h2 with
    | [V], h2 => exact ⟨rfl, V, by simpa using h1, h2.1⟩
  · rename_i l hl hu
    have h : some (.tup l, H) = some (v, H') := h
    injection h with h; injection h with e1 e2; subst e1; subst e2
    obtain ⟨VS, h1, h2⟩ := key _ hu
    have hlen := h2.length
    refine ⟨rfl, .tuple VS.toArray, ?_, ⟨VS.toArray, rfl, by simpa using h2⟩⟩
    rw [h1, dif_neg]
    intro q
    have q : VS.length = 1 := by simpa using q
    match l, hl with
    | [], _ => simp at hlen; omega
    | [u], hl => exact hl u rfl
    | u :: u' :: l, _ => simp at hlen; omega
  · cases h
end
def chkF (P : Program) (f : Nat) : Bool := match P.funcs[f]? with
  | some fn => match fn.body with
    | some c => chkC P fn.ntmps c && !(fn.name == "runtime.NumGoroutine")
    | none => true
  | none => true
/-- The functions in m are checked. -/
def ChkM (P : Program) (m : Nat) : Prop := ∀ f, Nat.beq (Nat.land 1 (Nat.shiftRight m f)) 1 = true → chkF P f = true
section
variable {P : Program} {m : Nat} {H H' : EH} {ρ : ERho} {w : World}
theorem xnorm_step (ca : XCa) (f : Nat) (args : List EV) (H : EH) : xnorm P m ca f args H = (Bool.rec .no (XFn.rec (motive := fun _ => XCa → Program → List EV → EH → XR) (fun c nt res ca P args H => Bool.rec .no (xend (c.run ca (xframe args 0 xempty) H) P res) (Nat.ble args.length nt)) (fun _ _ _ _ => .no) (compF P f) ca P args H) (Nat.beq (Nat.land 1 (Nat.shiftRight m f)) 1) : XR) := rfl
theorem xnorm_ok (hm : P.follows .mixedOrders = true) (hc : ChkM P m) {ca : XCa} (ih : ECa P ca.opt) : ECa P (xnorm P m ca).opt := by
  intro f args H v H' h
  have h : (xnorm P m ca f args H).opt = some (v, H') := h
  rw [xnorm_step] at h
  cases hb : Nat.beq (Nat.land 1 (Nat.shiftRight m f)) 1 with
  | false => rw [hb] at h; cases h
  | true =>
    rw [hb] at h
    have hchk := hc f hb
    cases hf : P.funcs[f]? with
    | none =>
      have e : compF P f = .no := by unfold compF; rw [hf]
      rw [e] at h; cases h
    | some fn =>
      cases hbo : fn.body with
      | none =>
        have e : compF P f = .no := by unfold compF; rw [hf]; simp only [hbo]
        rw [e] at h; cases h
      | some c =>
        cases h256 : Nat.ble fn.ntmps 256 with
        | false =>
          have e : compF P f = .no := by unfold compF; rw [hf]; simp only [hbo, h256]; rfl
          rw [e] at h; cases h
        | true =>
          have e : compF P f = .f (compC P fn.ntmps c cEnd) fn.ntmps fn.results.toList := by unfold compF; rw [hf]; simp only [hbo, h256]; rfl
          rw [e] at h
          have h256 := Nat.le_of_ble_eq_true h256
          have h : (Bool.rec XR.no (xend ((compC P fn.ntmps c cEnd).run (ca) (xframe args 0 xempty) H) P fn.results.toList) (Nat.ble args.length fn.ntmps) : XR).opt = some (v, H') := h
          cases hlen : Nat.ble args.length fn.ntmps with
          | false => rw [hlen] at h; cases h
          | true =>
            rw [hlen] at h
            have hlen := Nat.le_of_ble_eq_true hlen
            have h : (xend ((compC P fn.ntmps c cEnd).run (ca) (xframe args 0 xempty) H) P fn.results.toList).opt = some (v, H') := h
            unfold chkF at hchk
            rw [hf] at hchk
            simp only [hbo, Bool.and_eq_true, Bool.not_eq_true', beq_eq_false_iff_ne] at hchk
            refine ⟨fun A w => ?_, fun ρ w A R r => ?_⟩
            · have : (fn.name == "runtime.NumGoroutine") = false := beq_false_of_ne hchk.2
              simp [callFunc, Sem.run, hf, hchk.2, hbo]
            · generalize hs0 : (compC P fn.ntmps c cEnd).run (ca) (xframe args 0 xempty) H = s0 at h
              have hn : s0 ≠ .no := fun e => by rw [e] at h; cases h
              refine calls_of_wp hf hbo (wp_mono (compC_ok ih h256 hm c cEnd _ H s0 ρ w _ hchk.1 hs0 hn R (frame_ok r hlen h256)) fun e b v' q => ?_)
              cases e with
              | normal =>
                obtain ⟨T', H2, ρ', q1, q2⟩ := q
                have q2 : XS.n T' H2 = s0 := q2
                rw [← q2] at h
                obtain ⟨rfl, V, h1, h2⟩ := xres_ok (P := P) q1.step.rep q1.frm (fn := fn) h
                exact ⟨q1.dfs, V, h1, V, ρ', rfl, q1.step, h2⟩
              | ret =>
                obtain ⟨T', H2, ρ', q1, q2⟩ := q
                rw [q2] at h
                obtain ⟨rfl, V, h1, h2⟩ := xres_ok (P := P) q1.step.rep q1.frm (fn := fn) h
                exact ⟨q1.dfs, V, h1, V, ρ', rfl, q1.step, h2⟩
              | exit j =>
                obtain ⟨T', H2, ρ', q1, q2⟩ := q
                rw [q2] at h; cases h
              | goto l => exact q.elim
              | panic l => exact q.elim
              | outgrown => exact q.elim
/-- e answers rightly, if those below do. -/
def EExt (P : Program) (e : XCa → XCa → XCa) : Prop := ∀ ca d, ECa P ca.opt → ECa P d.opt → ECa P (e ca d).opt
theorem EExt.none : EExt P fun _ d => d := fun _ _ _ h => h
theorem xcall_ok (hm : P.follows .mixedOrders = true) (hc : ChkM P m) {e : XCa → XCa → XCa} (he : EExt P e) : ∀ n, ECa P (xcall P e m n).opt := by
  intro n
  induction n with
  | zero =>
    intro f args H v H' h
    have h : (none : Option (EV × EH)) = some (v, H') := h
    cases h
  | succ n ih => exact he _ _ ih (xnorm_ok hm hc ih)
/-- What the machine answers, the call answers. -/
theorem machine {n f : Nat} {args : List EV} {A : Array Value} {v : EV} (hm : P.follows .mixedOrders = true) (hc : ChkM P m) {e : XCa → XCa → XCa} (he : EExt P e) (h : xcall P e m n f args H = .ok v H') (R : ERep ρ w H) (r : ERs ρ w args A.toList) : ECall P f A ρ w H v H' :=
  (xcall_ok hm hc he n f args H v H' (by show (xcall P e m n f args H).opt = _; rw [h]; rfl)).2 ρ w A R r
end
end Go.Proofs.YtacmaphhbbadjaaGreatDoor
