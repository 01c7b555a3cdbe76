/- The play law's song(), run by the small machine. -/
import Derived.Test.YtacmaphhbbadjaaGreatDoorPyLay
namespace Go.Proofs.YtacmaphhbbadjaaGreatDoor
set_option linter.all false
open Go.RowKit

def infoM : List Nat := [1, 1, 1, 4, 1, 8, 0, 0, 0, 0]
theorem song_run : chkRun (.tup [.agg (infoM.map evi), .sl 2391 0 2 2 6]) [(2391, pkE 0 (.sl 2236 0 15 15 1) ++ pkE 2 (.sl 2372 0 15 15 1)), (2236, d0.map evb), (2372, d1.map evb)] (xcall Tryz.prog undoE msk 100 4 [] EH.empty) = true := by kernel_rfl
/-- The song's packets in memory: at B, their bytes at D and E. -/
structure SongAt (w : World) (B o D oD cD E oE cE : Nat) : Prop where
  pk : Pre w B o (pkV 0 (.slice (some ⟨D, oD, none⟩) 15 cD) ++ pkV 2 (.slice (some ⟨E, oE, none⟩) 15 cE))
  fst : Pre w D oD (d0.map bv)
  snd : Pre w E oE (d1.map bv)
  bd : B ≠ D
  be : B ≠ E
  de : D ≠ E
/-- Room for what a slice may grow to. -/
def Room (w : World) (B o n c k : Nat) : Prop := n ≤ c ∧ ∃ m, eSize w B = some m ∧ o + c * k ≤ m
theorem ER.room {ρ : ERho} {w : World} {b n c k : Nat} {V : Value} (r : ER ρ w (.sl b 0 n c (k + 1)) V) (hn : 0 < n) : ∃ B o C, ρ b = some (B, o) ∧ V = .slice (some ⟨B, o, none⟩) n C ∧ Room w B o c C (k + 1) := by
  obtain ⟨B, base, A, C, h1, h2, h3, h4⟩ := r
  rcases h4 with ⟨h4, h5⟩ | ⟨h4, _⟩
  · rcases h5 with h5 | ⟨m, h5, h6⟩
    · cases h5
    · exact ⟨B, base, C, h1, by rw [h2, h4]; rfl, h3, m, h5, h6⟩
  · omega
theorem song_all (w : World) : Calls Tryz.prog 4 #[] w fun e w' => ∃ B o D oD cD E oE cE c, e = .returned (.tuple #[.agg (infoM.map iv).toArray, .slice (some ⟨B, o, none⟩) 2 c]) ∧ 2 ≤ c ∧ Chg [] w w' ∧ SongAt w' B o D oD cD E oE cE ∧
    (w.heap.size ≤ B ∧ w.heap.size ≤ D ∧ w.heap.size ≤ E) ∧ Room w' B o 2 c 6 ∧ Room w' D oD 15 cD 1 ∧ Room w' E oE 15 cE 1 := by
  obtain ⟨H, e, hb⟩ := chkRun_ok song_run
  have R : ERep (fun _ => none) w EH.empty := .start _ _ 0 (fun _ _ => rfl) (fun _ _ h => by cases h)
  refine (machine follows_mixed chk_fns undoE_ok e R (A := #[]) trivial).mono ?_
  rintro e w' ⟨V, ρ', rfl, st, r⟩
  have live0 : ∀ B, ¬ ELive (fun _ => none) EH.empty B := by rintro B ⟨_, _, _, _, e⟩; cases e
  obtain ⟨cs, rfl, r1⟩ := r
  obtain ⟨l⟩ := cs
  obtain ⟨B, o, VB, h1, p1, l1⟩ := st.rep.preIs (p := (2391, pkE 0 (.sl 2236 0 15 15 1) ++ pkE 2 (.sl 2372 0 15 15 1))) (hb _ (by simp))
  obtain ⟨D, oD, VD, h2, p2, l2⟩ := st.rep.preIs (p := (2236, d0.map evb)) (hb _ (by simp))
  obtain ⟨E, oE, VE, h3, p3, l3⟩ := st.rep.preIs (p := (2372, d1.map evb)) (hb _ (by simp))
  have q1 := hb (2391, pkE 0 (.sl 2236 0 15 15 1) ++ pkE 2 (.sl 2372 0 15 15 1)) (by simp)
  have q2 := hb (2236, d0.map evb) (by simp)
  have q3 := hb (2372, d1.map evb) (by simp)
  obtain ⟨x1, b1, _⟩ := q1
  obtain ⟨x2, b2, _⟩ := q2
  obtain ⟨x3, b3, _⟩ := q3
  have n1 := st.rep.inj _ _ _ _ _ _ _ _ b1 b2 h1 h2 (by decide)
  have n2 := st.rep.inj _ _ _ _ _ _ _ _ b1 b3 h1 h3 (by decide)
  have n3 := st.rep.inj _ _ _ _ _ _ _ _ b2 b3 h2 h3 (by decide)
  have hnew : ∀ b x B o, H.blk? b = some x → ρ' b = some (B, o) → w.heap.size ≤ B := fun b x B o hb e => (st.new B ⟨b, x, o, hb, e⟩).resolve_left (live0 B)
  rw [(ERs.lits (g := bv) (fun a ρ w V => Iff.rfl) d0 _).1 l2] at p2
  rw [(ERs.lits (g := bv) (fun a ρ w V => Iff.rfl) d1 _).1 l3] at p3
  match l, r1 with
  | [x, y], r1 =>
    obtain ⟨⟨cs, rfl, rc⟩, ry, _⟩ := r1
    obtain ⟨_, _, c, e, rfl, hc⟩ := ry.room (by decide)
    rw [h1] at e; injection e with e; injection e with e1 e2; subst e1; subst e2
    have hcs : cs = (infoM.map iv).toArray := by
      apply Array.toList_inj.1
      rw [(ERs.lits (g := iv) (fun a ρ w V => Iff.rfl) infoM _).1 rc]
    subst hcs
    match VB, l1 with
    | [v0, v1, v2, v3, v4, v5, v6, v7, v8, v9, v10, v11], l1 =>
      obtain ⟨rfl, rfl, rfl, rfl, rfl, s5, rfl, rfl, rfl, rfl, rfl, s11, _⟩ := l1
      obtain ⟨_, _, cD, e, rfl, m5⟩ := s5.room (by decide)
      rw [h2] at e; injection e with e; injection e with e1 e2; subst e1; subst e2
      obtain ⟨_, _, cE, e, rfl, m11⟩ := s11.room (by decide)
      rw [h3] at e; injection e with e; injection e with e1 e2; subst e1; subst e2
      exact ⟨B, o, D, oD, cD, E, oE, cE, c, rfl, hc.1, st.chg fun B hB => absurd hB (live0 B), ⟨p1, p2, p3, n1, n2, n3⟩, ⟨hnew _ _ _ _ b1 h1, hnew _ _ _ _ b2 h2, hnew _ _ _ _ b3 h3⟩, hc, m5, m11⟩
theorem song_ok (w : World) : Calls Tryz.prog 4 #[] w fun e w' => ∃ B o D oD cD E oE cE c, e = .returned (.tuple #[.agg (infoM.map iv).toArray, .slice (some ⟨B, o, none⟩) 2 c]) ∧ 2 ≤ c ∧ Chg [] w w' ∧ SongAt w' B o D oD cD E oE cE ∧
    w.heap.size ≤ B ∧ w.heap.size ≤ D ∧ w.heap.size ≤ E :=
  (song_all w).mono fun _ _ ⟨B, o, D, oD, cD, E, oE, cE, c, h1, h2, h3, h4, h5, _⟩ => ⟨B, o, D, oD, cD, E, oE, cE, c, h1, h2, h3, h4, h5⟩
end Go.Proofs.YtacmaphhbbadjaaGreatDoor
