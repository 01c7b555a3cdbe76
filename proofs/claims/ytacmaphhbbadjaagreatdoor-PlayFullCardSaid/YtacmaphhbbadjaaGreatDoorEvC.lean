/- The small machine's operations against the model's, 1: frames, plain operations, loads, stores, new blocks. -/
import Derived.Test.YtacmaphhbbadjaaGreatDoorEvB
import Derived.Deep.AppendSrc
import Derived.Laws.MakeOwn
namespace Go.Proofs.YtacmaphhbbadjaaGreatDoor
set_option linter.all false
open Go.RowKit

/-- One step of the machine, in the world. -/
structure EStep (ρ : ERho) (w : World) (H : EH) (ρ' : ERho) (w' : World) (H' : EH) : Prop where
  ext : ∀ (b : Nat) (x : Nat × Nat), ρ b = some x → ρ' b = some x
  rep : ERep ρ' w' H'
  kp : EKp (ELive ρ H) w w'
  new : ∀ B, ELive ρ' H' B → ELive ρ H B ∨ w.heap.size ≤ B
  next : H.next ≤ H'.next
  old : ∀ b, b < H.next → ρ' b = ρ b
section
variable {P : Program} {ρ ρ' : ERho} {w w' : World} {H H' : EH} {ev : Operand → EV} {a : Act}
theorem EStep.grow (s : EStep ρ w H ρ' w' H') : EGrow ρ ρ' w w' := ⟨s.ext, s.kp.size⟩
theorem EStep.refl (R : ERep ρ w H) : EStep ρ w H ρ w H := ⟨fun _ _ h => h, R, .refl _ _, fun _ h => .inl h, Nat.le_refl _, fun _ _ => rfl⟩
theorem EStep.trans {ρ'' : ERho} {w'' : World} {H'' : EH} (s : EStep ρ w H ρ' w' H') (k : EStep ρ' w' H' ρ'' w'' H'') : EStep ρ w H ρ'' w'' H'' :=
  ⟨fun b x h => k.ext b x (s.ext b x h), k.rep, s.kp.trans k.kp s.new, fun B hB => by
    rcases k.new B hB with h | h
    · exact s.new B h
    · exact .inr (Nat.le_trans s.kp.hsize h), Nat.le_trans s.next k.next, fun b hb => (k.old b (Nat.lt_of_lt_of_le hb s.next)).trans (s.old b hb)⟩
theorem ELive.same (h : ∀ b x, H'.blk? b = some x → ∃ y, H.blk? b = some y) {B : Nat} (hB : ELive ρ H' B) : ELive ρ H B := by
  obtain ⟨b, x, ba, hb, e⟩ := hB
  obtain ⟨y, hy⟩ := h b x hb
  exact ⟨b, y, ba, hy, e⟩
theorem ELive.upd {b : Nat} {x y : EBlk} (hb : H.blk? b = some x) {B : Nat} (h : ELive ρ (H.upd b y) B) : ELive ρ H B := h.same fun c z hc => by
  rcases blk?_upd hc with ⟨rfl, _⟩ | ⟨_, hc⟩
  · exact ⟨x, hb⟩
  · exact ⟨z, hc⟩
theorem ELive.kill {b : Nat} {B : Nat} (h : ELive ρ (H.kill b) B) : ELive ρ H B := h.same fun c z hc => ⟨z, (blk?_kill hc).2⟩
theorem atom_ok {v : EV} {x V : Value} (h : v.atom = some x) (r : ER ρ w v V) : V = x := by
  cases v <;> simp [EV.atom] at h <;> (subst h; exact r)
theorem litAll_ok : ∀ {l : List EV} {vs : List Value} {L : List Value}, litAll l = some vs → ERs ρ w l L → L = vs
  | [], vs, L, h, r => by
    simp [litAll] at h; subst h
    cases L with | nil => rfl | cons _ _ => exact r.elim
  | x :: l, vs, L, h, r => by
    simp only [litAll] at h
    split at h
    · rename_i v us h1 h2
      injection h with h; subst h
      cases L with
      | nil => exact r.elim
      | cons y m => rw [atom_ok h1 r.1, litAll_ok h2 r.2]
    · cases h
theorem toLit_ok {v : EV} {x V : Value} (h : v.toLit = some x) (r : ER ρ w v V) : V = x := by
  cases v with
  | agg l =>
    simp only [EV.toLit, Option.map_eq_some_iff] at h
    obtain ⟨vs, h1, rfl⟩ := h
    obtain ⟨cs, rfl, r⟩ := r
    rw [← litAll_ok h1 r]
  | _ => exact atom_ok (by simpa [EV.toLit] using h) r
theorem runP_run {α : Type} : ∀ (s : Sem α) (x : α) (w : World), runP P s = some x → s.run P w = .ok x w
  | .pure y, x, w, h => by simp [runP] at h; subst h; rfl
  | .program k, x, w, h => runP_run (k P) x w h
  | .mark _ k, x, w, h => runP_run k x w h
  | .load .., _, _, h => by simp [runP] at h
  | .store .., _, _, h => by simp [runP] at h
  | .new .., _, _, h => by simp [runP] at h
  | .shape .., _, _, h => by simp [runP] at h
  | .freeze .., _, _, h => by simp [runP] at h
  | .frozen .., _, _, h => by simp [runP] at h
  | .getObj .., _, _, h => by simp [runP] at h
  | .setObj .., _, _, h => by simp [runP] at h
  | .choose .., _, _, h => by simp [runP] at h
  | .sys .., _, _, h => by simp [runP] at h
  | .halt _, _, _, h => by simp [runP] at h
theorem allLit_mem : ∀ {l : List Operand}, allLit ev l = true → ∀ x ∈ l, ∃ v, (ev x).toLit = some v
  | [], _, x, hx => by cases hx
  | y :: l, h, x, hx => by
    simp only [allLit] at h
    split at h
    · rename_i v e
      rcases List.mem_cons.1 hx with rfl | hx
      · exact ⟨v, e⟩
      · exact allLit_mem h x hx
    · cases h
theorem evPure_ok (F : ∀ x, ER ρ w (ev x) (a.eval x)) {o : Oper} {v : EV} (hs : ∀ cs b, o.op ≠ .select cs b) (h : evPure P ev o = some v) :
    ∃ V, (execOp a.eval o).run P w = .ok (.value V) w ∧ ER ρ w v V := by
  unfold evPure at h
  cases e : allLit ev o.op.operands.toList with
  | false => rw [e] at h; cases h
  | true =>
    rw [e] at h
    simp only [cond_true] at h
    split at h
    · rename_i x e1
      injection h with h; subst h
      refine ⟨x, ?_, .of x⟩
      have : execOp a.eval o = execOp (fun x => (ev x).toLit.getD undef) o := execOp_congr o hs fun x hx => by
        obtain ⟨v, hv⟩ := allLit_mem e x (by simpa using hx)
        rw [toLit_ok hv (F x), hv]; rfl
      rw [this]
      exact runP_run _ _ _ e1
    · cases h
end
end Go.Proofs.YtacmaphhbbadjaaGreatDoor
