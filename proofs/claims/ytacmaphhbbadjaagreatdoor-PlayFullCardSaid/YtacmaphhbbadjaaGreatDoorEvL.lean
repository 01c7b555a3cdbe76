/- The small machine's operations hang on their operands alone. -/
import Derived.Test.YtacmaphhbbadjaaGreatDoorEvJ
import Derived.Test.YtacmaphhbbadjaaGreatDoorEvR
namespace Go.Proofs.YtacmaphhbbadjaaGreatDoor
set_option linter.all false
open Go.RowKit

section
variable {P : Program} {ev ev' : Operand → EV} {ca : Nat → List EV → EH → Option (EV × EH)}
theorem allLit_congr : ∀ {l : List Operand}, (∀ x ∈ l, ev x = ev' x) → allLit ev l = allLit ev' l
  | [], _ => rfl
  | y :: l, h => by
    have h1 := h y (by simp)
    have h2 := allLit_congr (l := l) fun x hx => h x (by simp [hx])
    simp only [allLit, h1, h2]
theorem evPure_congr {o : Oper} (hs : ∀ cs b, o.op ≠ .select cs b) (h : ∀ x ∈ o.op.operands, ev x = ev' x) : evPure P ev o = evPure P ev' o := by
  unfold evPure
  rw [allLit_congr (ev := ev) (ev' := ev') fun x hx => h x (by simpa using hx)]
  have : execOp (fun x => (ev x).toLit.getD undef) o = execOp (fun x => (ev' x).toLit.getD undef) o := execOp_congr o hs fun x hx => by rw [h x hx]
  rw [this]
theorem evParts_congr {l : List (Nat × Operand)} (h : ∀ x ∈ l.map (·.2), ev x = ev' x) : evParts ev l = evParts ev' l := by
  unfold evParts
  refine List.map_congr_left fun x hx => ?_
  rw [h x.2 (List.mem_map.2 ⟨x, hx, rfl⟩)]
theorem map_ev_congr {l : List Operand} (h : ∀ x ∈ l, ev x = ev' x) : l.map ev = l.map ev' := List.map_congr_left h
theorem optmap_ev_congr {x : Option Operand} (h : ∀ y ∈ x.toArray, ev y = ev' y) : x.map ev = x.map ev' := by
  cases x with
  | none => rfl
  | some y => simp [h y (by simp)]
theorem evOp_congr {o : Oper} (h : ∀ x ∈ o.op.operands, ev x = ev' x) (H : EH) : evOp P ca o ev H = evOp P ca o ev' H := by
  have hp : (∀ cs b, o.op ≠ .select cs b) → evPure P ev o = evPure P ev' o := fun hs => evPure_congr hs h
  obtain ⟨dst, op, type, pos, after, guard⟩ := o
  cases op with
  | call c =>
    obtain ⟨callee, args, argTypes⟩ := c
    cases callee with
    | value f =>
      simp [Op.operands, Call.operands] at h
      have h2 : args.toList.map ev = args.toList.map ev' := map_ev_congr fun x hx => h.2 x (by simpa using hx)
      simp only [evOp, h.1, h2]
    | invoke r m => simp [evOp]
    | builtin b =>
      simp [Op.operands, Call.operands] at h
      have h2 : ∀ x ∈ args.toList, ev x = ev' x := fun x hx => h x (by simpa using hx)
      have hq := hp (by simp)
      cases b <;> simp only [evOp, hq]
      all_goals (split <;> first | rfl | (rename_i e1 e2; rw [e1] at h2; simp at h2; simp only [h2]))
  | slice t x lo hi mx =>
    simp only [Op.operands, Array.mem_append] at h
    have hx : ev x = ev' x := h x (by simp)
    have h1 := optmap_ev_congr (x := lo) fun y hy => h y (.inl (.inl (.inr hy)))
    have h2 := optmap_ev_congr (x := hi) fun y hy => h y (.inl (.inr hy))
    have h3 := optmap_ev_congr (x := mx) fun y hy => h y (.inr hy)
    simp only [evOp, hp (by simp), hx, h1, h2, h3]
  | build t ps =>
    have h2 : evParts ev ps.toList = evParts ev' ps.toList := evParts_congr fun x hx => h x (by simpa [Op.operands] using hx)
    simp only [evOp, h2]
  | buildSlice t n ps =>
    have h2 : evParts ev ps.toList = evParts ev' ps.toList := evParts_congr fun x hx => h x (by simpa [Op.operands] using hx)
    simp only [evOp, h2]
  | makeFunc g first cap =>
    simp only [Op.operands, Array.mem_append] at h
    have h1 : first.toList.map ev = first.toList.map ev' := map_ev_congr fun x hx => h x (.inl (by simpa using hx))
    have h2 : cap.toList.map ev = cap.toList.map ev' := map_ev_congr fun x hx => h x (.inr (by simpa using hx))
    cases g <;> simp only [evOp, h1, h2]
  | pick c a b =>
    simp [Op.operands] at h
    simp only [evOp, h]
    split
    · rename_i t _; cases t <;> simp [h]
    · rfl
  | select cs b => simp [evOp]
  | _ => first
    | (simp [Op.operands] at h; simp only [evOp, hp (by simp), h])
    | simp only [evOp, hp (by simp)]
    | simp [evOp]
theorem evA_congr {o : Oper} (h : ∀ x ∈ o.op.operands, ev x = ev' x) : evA P o ev = evA P o ev' := by
  obtain ⟨dst, op, type, pos, after, guard⟩ := o
  cases op with
  | buildSlice t n ps =>
    have h2 : evParts ev ps.toList = evParts ev' ps.toList := evParts_congr fun x hx => h x (by simpa [Op.operands] using hx)
    simp only [evA, h2]
  | box t x => simp [Op.operands] at h; simp only [evA, h]
  | makeSlice t l c => simp [Op.operands] at h; simp only [evA, h]
  | _ => first | rfl | simp [evA]
theorem map_pair (r : Option EV) (H G : EH) : (r.map fun v => (v, G)) = (r.map fun v => (v, H)).map fun p => (p.1, G) := by cases r <;> rfl
theorem map_snd {r : Option EV} {H : EH} {p : EV × EH} (h : (r.map fun v => (v, H)) = some p) : p.2 = H := by
  cases r with
  | none => cases h
  | some v => injection h with h; rw [← h]
/-- A plain operation asks nothing of the memory. -/
theorem evOp_plain {o : Oper} (hc : opCls P o.op = 0) {H H' : EH} {v : EV} (h : evOp P ca o ev H = some (v, H')) : H' = H ∧ ∀ G, evOp P ca o ev G = some (v, G) := by
  have key : (∀ G, evOp P ca o ev G = (evOp P ca o ev H).map fun p => (p.1, G)) ∧ ∀ p, evOp P ca o ev H = some p → p.2 = H := by
    clear h
    obtain ⟨dst, op, type, pos, after, guard⟩ := o
    cases op with
    | call c =>
      obtain ⟨callee, args, argTypes⟩ := c
      cases callee with
      | value f => exact nomatch (show (3 : Nat) = 0 from hc)
      | invoke r m => exact nomatch (show (3 : Nat) = 0 from hc)
      | builtin b =>
        cases b <;> first | exact nomatch (show (3 : Nat) = 0 from hc) | skip
        all_goals
          simp only [evOp]
          refine ⟨fun G => ?_, fun p h => ?_⟩
          · repeat' split
            all_goals first | rfl | exact map_pair _ _ _
          · (repeat' split at h) <;> first | (cases h; done) | (cases h; rfl) | exact map_snd h
    | convert src dst x =>
      simp only [evOp]
      have hs : ∀ e, P.underlying src ≠ some (.slice e) := fun e q => by simp [opCls, q] at hc
      refine ⟨fun G => ?_, fun p h => ?_⟩
      · cases ev x with
        | sl _ _ _ _ _ =>
          simp only
          cases hq : P.underlying src with
          | none => rfl
          | some d => cases d <;> first | exact absurd hq (hs _) | rfl
        | lit u =>
          cases u <;> (try simp only) <;> first | exact map_pair _ _ _ | skip
          all_goals
            rename_i a b c
            cases a with
            | some _ => exact map_pair _ _ _
            | none =>
              simp only
              cases hq : P.underlying src with
              | none => rfl
              | some d => cases d <;> first | exact absurd hq (hs _) | rfl
        | _ => exact map_pair _ _ _
      · split at h
        · split at h <;> first | (rename_i q _ _; exact absurd q (hs _)) | cases h | skip
        · split at h <;> first | (rename_i q _; exact absurd q (hs _)) | cases h
        · exact map_snd h
    | makeFunc g first cap =>
      cases g <;> simp only [evOp]
      all_goals exact ⟨fun G => rfl, fun p h => by first | (cases h; done) | (cases h; rfl)⟩
    | _ => first
      | exact nomatch (show (3 : Nat) = 0 from hc)
      | exact nomatch (show (2 : Nat) = 0 from hc)
      | exact nomatch (show (1 : Nat) = 0 from hc)
      | (simp only [evOp, cond_eq_ite]
         refine ⟨fun G => ?_, fun p h => ?_⟩
         · repeat' split
           all_goals first | rfl | exact map_pair _ _ _
         · (repeat' split at h) <;> first | (cases h; done) | (cases h; rfl) | exact map_snd h)
  obtain ⟨k1, k2⟩ := key
  refine ⟨k2 _ h, fun G => ?_⟩
  rw [k1 G, h]; rfl
end
end Go.Proofs.YtacmaphhbbadjaaGreatDoor
