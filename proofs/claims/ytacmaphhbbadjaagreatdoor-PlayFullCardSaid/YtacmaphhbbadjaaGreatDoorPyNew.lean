/- play.New of the song's Info, run by the small machine at each bound. -/
import Derived.Test.YtacmaphhbbadjaaGreatDoorPyPlay
namespace Go.Proofs.YtacmaphhbbadjaaGreatDoor
set_option linter.all false
open Go.RowKit

noncomputable def infoH : EH := EH.upd ⟨1, EH.empty.bl⟩ 0 (.of (infoN.map evi))
noncomputable def newR (k : Nat) : XR := xcall Tryz.prog undoE msk 60 6 [.sl 0 0 1 1 0, .int .i64 (.ofNat (k + 1))] infoH
def newStrE : List EV := infoN.map evi ++ [.lit (.slice none 0 0), evi 0, evi 0, .int .i64 (.negSucc 0), .bool false, .bool false, evi 0, evi 0, evi 0, .lit (.slice none 0 0)]
def newPlE (k : Nat) : List EV := [.sl 7 0 1 1 20, evi (k + 1), .int .i64 (.negSucc 0), .bool false]
theorem new_runs : (List.range 256).all (fun k => chkRun (.tup [.ptr 1 0, evi 0]) [(1, newPlE k), (7, newStrE)] (newR k)) = true := by kernel_rfl
/-- What a stream holds besides its Info. -/
def rest (Q : Value) (last e s : Int) : List Value := [Q, .int .i64 last, .int .i64 e, .int .i64 s, .bool false, .bool false, iv 0, iv 0, iv 0, .slice none 0 0]
/-- A player with one stream of sound in memory. -/
structure PlAt (w : World) (B o S oS c m : Nat) (now : Int) (Q : Value) (last e s : Int) : Prop where
  pl : Pre w B o [.slice (some ⟨S, oS, none⟩) 1 c, iv m, .int .i64 now, .bool false]
  st : Pre w S oS (strV (rest Q last e s))
  ne : B ≠ S
theorem one_rep' {w : World} {D o : Nat} {l : List EV} {V : List Value} (h : Pre w D o V) (hl : ERs (oneR D o) w l V) : ERep (oneR D o) w (EH.upd ⟨1, EH.empty.bl⟩ 0 (.of l)) := by
  refine ERep.add (n := 0) (B := D) (o := o) (.start _ _ _ (fun b hb => ?_) (fun b p hb => ?_)) rfl h hl (fun b ba hb => ?_) (blk?_empty 1 0)
  · match b, hb with
    | b + 1, _ => rfl
  · match b, hb with
    | 0, hb => injection hb with hb; rw [← hb]; exact h.lt
  · match b, hb with
    | 0, _ => rfl
set_option maxRecDepth 100000 in
theorem new_ok {w : World} {T o m : Nat} (h : Pre w T o (infoN.map iv)) (h1 : 1 ≤ m) (h2 : m ≤ 256) : Calls Tryz.prog 6 #[.slice (some ⟨T, o, none⟩) 1 1, iv m] w fun x w' =>
    ∃ B oB S oS c, x = .returned (.tuple #[.pointer (some ⟨B, oB, none⟩), iv 0]) ∧ Chg [T] w w' ∧ (B = T ∨ w.heap.size ≤ B) ∧ (S = T ∨ w.heap.size ≤ S) ∧ 1 ≤ c ∧ PlAt w' B oB S oS c m (-1) (.slice none 0 0) 0 0 (-1) := by
  obtain ⟨k, rfl⟩ : ∃ k, m = k + 1 := ⟨m - 1, by omega⟩
  have hr := new_runs
  rw [List.all_eq_true] at hr
  obtain ⟨H, e, hb⟩ := chkRun_ok (hr k (by simp; omega))
  have R := one_rep' h ((ERs.lits (g := iv) (f := evi) (fun a ρ w V => Iff.rfl) infoN _).2 rfl)
  have hsl : ER (oneR T o) w (.sl 0 0 1 1 0) (.slice (some ⟨T, o, none⟩) 1 1) := ⟨T, o, _, _, rfl, rfl, by simp, .inl ⟨rfl, .inl rfl⟩⟩
  refine (machine follows_mixed chk_fns undoE_ok e R (A := #[.slice (some ⟨T, o, none⟩) 1 1, iv (k + 1)]) ⟨hsl, rfl, trivial⟩).mono ?_
  rintro x w' ⟨V, ρ', rfl, st, r⟩
  have live : ∀ B, ELive (oneR T o) infoH B → B = T := by
    rintro B ⟨b, x, ba, hb, e⟩
    match b, e with
    | 0, e => injection e with e; injection e with e _; exact e.symm
  obtain ⟨cs, rfl, r1⟩ := r
  obtain ⟨l⟩ := cs
  obtain ⟨B, oB, VB, g1, p1, l1⟩ := st.rep.preIs (p := (1, newPlE k)) (hb _ (by simp))
  obtain ⟨S, oS, VS, g2, p2, l2⟩ := st.rep.preIs (p := (7, newStrE)) (hb _ (by simp))
  obtain ⟨x1, b1, _⟩ := hb (1, newPlE k) (by simp)
  obtain ⟨x2, b2, _⟩ := hb (7, newStrE) (by simp)
  have n1 := st.rep.inj _ _ _ _ _ _ _ _ b1 b2 g1 g2 (show (1 : Nat) ≠ 7 by decide)
  have hnew : ∀ b x B o', H.blk? b = some x → ρ' b = some (B, o') → B = T ∨ w.heap.size ≤ B := fun b x B o' hb e => (st.new B ⟨b, x, o', hb, e⟩).imp (live B) id
  match l, r1 with
  | [x, y], r1 =>
    obtain ⟨⟨_, _, e, rfl⟩, rfl, _⟩ := r1
    rw [g1] at e; injection e with e; injection e with e1 e2; subst e1; subst e2
    match VB, l1 with
    | [v0, v1, v2, v3], l1 =>
      obtain ⟨s0, rfl, rfl, rfl, _⟩ := l1
      obtain ⟨_, _, c, e, rfl, hc⟩ := s0.slice (by decide)
      rw [g2] at e; injection e with e; injection e with e1 e2; subst e1; subst e2
      have hVS : VS = strV (rest (.slice none 0 0) 0 0 (-1)) := by
        refine ERs.lits_inv l2 (W := strV (rest (.slice none 0 0) 0 0 (-1))) (ERs.append ((ERs.lits (g := iv) (f := evi) (fun a ρ w V => Iff.rfl) infoN _).2 rfl) ⟨rfl, rfl, rfl, rfl, rfl, rfl, rfl, rfl, rfl, rfl, trivial⟩) fun x hx A B hA hB => ?_
        simp only [newStrE, List.mem_append, List.mem_map, List.mem_cons, List.not_mem_nil, or_false] at hx
        rcases hx with ⟨_, _, rfl⟩ | rfl | rfl | rfl | rfl | rfl | rfl | rfl | rfl | rfl | rfl <;> exact (show A = _ from hA).trans (show B = _ from hB).symm
      subst hVS
      exact ⟨B, oB, S, oS, c, rfl, st.chg fun B hB => by rw [live B hB]; simp, hnew _ _ _ _ b1 g1, hnew _ _ _ _ b2 g2, hc, p1, p2, n1⟩
end Go.Proofs.YtacmaphhbbadjaaGreatDoor

