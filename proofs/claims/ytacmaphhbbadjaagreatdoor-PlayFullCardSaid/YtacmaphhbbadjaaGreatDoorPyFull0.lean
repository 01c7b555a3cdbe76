/- PlayFull: what its loop keeps. -/
import Derived.Test.YtacmaphhbbadjaaGreatDoorPyRun
import Derived.Test.YtacmaphhbbadjaaGreatDoorPyPut2
import Derived.Test.YtacmaphhbbadjaaGreatDoorPyPut3
import Derived.Test.YtacmaphhbbadjaaGreatDoorPyLast
import Derived.Test.YtacmaphhbbadjaaGreatDoorPySong
import Derived.Test.YtacmaphhbbadjaaGreatDoorPyKn
import Derived.Test.YtacmaphhbbadjaaGreatDoorPyKp
namespace Go.Proofs.YtacmaphhbbadjaaGreatDoor
set_option linter.all false
open Go.RowKit

section
variable {w w' w0 : World} {sb so D oD cD E oE cE : Nat} {B o S oS c m q : Nat} {F : List Nat}
theorem SongAt.keep (h : SongAt w sb so D oD cD E oE cE) (hc : Chg (D :: F) w w') (hD : Pre w' D oD (d0.map bv)) (h1 : sb ∉ F) (h2 : E ∉ F) : SongAt w' sb so D oD cD E oE cE :=
  ⟨h.pk.chg hc (by simp; exact ⟨h.bd, h1⟩), hD, h.snd.chg hc (by simp; exact ⟨h.de.symm, h2⟩), h.bd, h.be, h.de⟩
theorem SongAt.chg (h : SongAt w sb so D oD cD E oE cE) (hc : Chg F w w') (h1 : sb ∉ F) (h2 : D ∉ F) (h3 : E ∉ F) : SongAt w' sb so D oD cD E oE cE :=
  ⟨h.pk.chg hc h1, h.fst.chg hc h2, h.snd.chg hc h3, h.bd, h.be, h.de⟩
theorem SongAt.one (h : SongAt w sb so D oD cD E oE cE) : w.cell? ⟨sb, so, none⟩ = some (.int .i64 0) ∧ w.cell? ⟨sb, so + 1, none⟩ = some (.int .i64 0) ∧ w.cell? ⟨sb, so + 2, none⟩ = some (.int .i64 2) ∧ w.cell? ⟨sb, so + 3, none⟩ = some (.bool true) ∧ w.cell? ⟨sb, so + 4, none⟩ = some (.bool false) ∧
    w.cell? ⟨sb, so + 5, none⟩ = some (.slice (some ⟨D, oD, none⟩) 15 cD) := ⟨h.pk.cell (i := 0) rfl, h.pk.cell (i := 1) rfl, h.pk.cell (i := 2) rfl, h.pk.cell (i := 3) rfl, h.pk.cell (i := 4) rfl, h.pk.cell (i := 5) rfl⟩
theorem SongAt.two (h : SongAt w sb so D oD cD E oE cE) : w.cell? ⟨sb, so + 6, none⟩ = some (.int .i64 0) ∧ w.cell? ⟨sb, so + 6 + 1, none⟩ = some (.int .i64 2) ∧ w.cell? ⟨sb, so + 6 + 2, none⟩ = some (.int .i64 2) ∧ w.cell? ⟨sb, so + 6 + 3, none⟩ = some (.bool true) ∧ w.cell? ⟨sb, so + 6 + 4, none⟩ = some (.bool false) ∧
    w.cell? ⟨sb, so + 6 + 5, none⟩ = some (.slice (some ⟨E, oE, none⟩) 15 cE) := ⟨h.pk.cell (i := 6) rfl, h.pk.cell (i := 7) rfl, h.pk.cell (i := 8) rfl, h.pk.cell (i := 9) rfl, h.pk.cell (i := 10) rfl, h.pk.cell (i := 11) rfl⟩
/-- What lies still while packets are put. -/
structure FullFix (w0 : World) (sb D E B S : Nat) : Prop where
  lt : ∀ x ∈ [sb, D, E, B, S], x < w0.heap.size
  bs : B ≠ S
  sb : B ≠ sb ∧ S ≠ sb
  sd : D ≠ B ∧ D ≠ S
  se : E ≠ B ∧ E ≠ S
/-- q packets wait. -/
structure FullAt (w0 : World) (sb so D oD cD E oE cE B o S oS c m q : Nat) (w : World) : Prop where
  ex : ∃ (Q : Value) (F : List Nat) (ws : List (Nat × Nat)), PlAt w B o S oS c m (-1) Q 0 0 (-1) ∧ OwnK w 64 7 Q F q (ws.flatMap fun x : Nat × Nat => wtV x.1 x.2) ∧ ws.length = q ∧ (∀ x ∈ ws, WtOk w x ∧ w0.heap.size ≤ x.1) ∧ (ws.map (·.1)).Nodup ∧
    (∀ y ∈ F, w0.heap.size ≤ y ∧ y ∉ ws.map (·.1)) ∧ SongAt w sb so D oD cD E oE cE ∧ Chg [D, S] w0 w
theorem FullAt.same (h : FullAt w0 sb so D oD cD E oE cE B o S oS c m q w) (hc : Chg [] w w') : FullAt w0 sb so D oD cD E oE cE B o S oS c m q w' := by
  obtain ⟨Q, F, ws, h1, h2, h3, h4, h5, h6, h7, h8⟩ := h.ex
  exact ⟨Q, F, ws, h1.same hc, h2.same hc, h3, fun x hx => ⟨(h4 x hx).1.chg hc (by simp), (h4 x hx).2⟩, h5, h6, h7.chg hc (by simp) (by simp) (by simp), h8.trans_same (hc.mono (by simp))⟩
theorem full_put (X : FullFix w0 sb D E B S) (h : FullAt w0 sb so D oD cD E oE cE B o S oS c m q w) (hq : q < m) (hm : m ≤ 256) :
    Calls Tryz.prog 7 #[.pointer (some ⟨B, o, none⟩), .agg #[.int .i64 0, .int .i64 0, .int .i64 2, .bool true, .bool false, .slice (some ⟨D, oD, none⟩) 15 cD]] w fun x w' => x = .returned (.int .i64 0) ∧ FullAt w0 sb so D oD cD E oE cE B o S oS c m (q + 1) w' := by
  obtain ⟨Q, F, ws, h1, h2, h3, h4, h5, h6, h7, h8⟩ := h.ex
  have nF : ∀ x ∈ [sb, D, E, B, S], x ∉ F := fun x hx hF => by
    have a1 := X.lt x hx
    have a2 := (h6 x hF).1
    omega
  refine (put_ok (cD := cD) (e' := 0) (s' := 0) h1 (by decide) h2 (nF B (by simp)) (nF S (by simp)) h7.fst (nF D (by simp)) X.sd.1 X.sd.2 hq hm).mono ?_
  rintro x w' ⟨rfl, G, cap, D', c', g1, g2, g3, g4, g5, g6, g7, g8, g9, g10⟩
  have z := h8.size
  have notin : ∀ y, w0.heap.size ≤ y → y < w.heap.size → y ∉ F → y ∉ D :: S :: F := fun y a1 _ a3 => by
    have b1 := X.lt D (by simp)
    have b2 := X.lt S (by simp)
    simp
    exact ⟨by omega, by omega, a3⟩
  refine ⟨rfl, _, [G], ws ++ [(D', c')], g1, by simpa using g2, by simp [h3], fun x hx => ?_, ?_, fun y hy => ?_, h7.keep g9 g10 (by simp; exact ⟨X.sb.2.symm, nF sb (by simp)⟩) (by simp; exact ⟨X.se.2, nF E (by simp)⟩), h8.trans (F' := D :: S :: F) g9 fun x hx => ?_⟩
  · rcases List.mem_append.1 hx with hx | hx
    · obtain ⟨a1, a2⟩ := h4 x hx
      exact ⟨a1.chg g9 (notin x.1 a2 a1.pre.lt fun q => (h6 _ q).2 (List.mem_map_of_mem hx)), a2⟩
    · simp at hx
      subst hx
      exact ⟨⟨g3, g4, g5⟩, by omega⟩
  · rw [List.map_append, List.nodup_append]
    refine ⟨h5, by simp, fun a ha b hb => ?_⟩
    simp at hb
    subst hb
    obtain ⟨y, hy, rfl⟩ := List.mem_map.1 ha
    have := (h4 y hy).1.pre.lt
    omega
  · simp at hy
    subst hy
    refine ⟨?_, ?_⟩
    · rcases g8 with g8 | g8
      · exact (h6 _ g8).1
      · omega
    · rw [List.map_append, List.mem_append]
      rintro (hy | hy)
      · rcases g8 with g8 | g8
        · exact (h6 _ g8).2 hy
        · obtain ⟨u, hu, e⟩ := List.mem_map.1 hy
          have := (h4 u hu).1.pre.lt
          rw [e] at this
          omega
      · simp at hy
        exact g7 hy.symm
  · simp only [List.mem_cons] at hx
    rcases hx with rfl | rfl | hx
    · exact .inl (by simp)
    · exact .inl (by simp)
    · exact .inr (h6 x hx).1
theorem full_not (X : FullFix w0 sb D E B S) (h : FullAt w0 sb so D oD cD E oE cE B o S oS c m q w) (hq : m ≤ q) :
    Calls Tryz.prog 7 #[.pointer (some ⟨B, o, none⟩), .agg #[.int .i64 0, .int .i64 0, .int .i64 2, .bool true, .bool false, .slice (some ⟨D, oD, none⟩) 15 cD]] w fun x w' => x = .returned (.int .i64 9) ∧ FullAt w0 sb so D oD cD E oE cE B o S oS c m q w' := by
  obtain ⟨Q, F, ws, h1, h2, h3, h4, h5, h6, h7, h8⟩ := h.ex
  obtain ⟨A, cq, rfl⟩ := h2.shape
  refine (put_full (cD := cD) h1 h7.fst X.sd.1 X.sd.2 hq).mono ?_
  rintro x w' ⟨rfl, g9, g10⟩
  have nD : ∀ y, w0.heap.size ≤ y → y ∉ ([D] : List Nat) := fun y a1 => by
    have b1 := X.lt D (by simp)
    simp; omega
  refine ⟨rfl, _, F, ws, h1.chg g9 (by simpa using X.sd.1.symm) (by simpa using X.sd.2.symm), h2.chg g9 (fun y hy => nD y (h6 y hy).1), h3, fun x hx => ⟨(h4 x hx).1.chg g9 (nD _ (h4 x hx).2), (h4 x hx).2⟩, h5, h6, h7.keep (F := []) g9 g10 (by simp) (by simp), h8.trans g9 fun x hx => .inl (by simp at hx; simp [hx])⟩
theorem OwnK.queue {Q : Value} {ws : List (Nat × Nat)} (h : OwnK w 64 7 Q F m (ws.flatMap fun x => wtV x.1 x.2)) (hl : ws.length = m) (hm : 1 ≤ m) : ∃ G cap, Q = .slice (some ⟨G, 0, none⟩) m cap ∧ F = [G] ∧ QAt w G 0 m cap ws := by
  obtain ⟨⟨h1, h2⟩, fp⟩ := h
  rcases h2 with ⟨_, h2⟩ | ⟨G, cap, cur, rfl, _, hb, hle, _, hsz, htk⟩
  · omega
  · refine ⟨G, cap, rfl, fp, ⟨⟨cur, _, (0, 0), hb, .inl rfl, by rw [h1, hsz, Nat.zero_add]; exact Nat.mul_le_mul_right 7 hle, fun i v hi => ?_⟩, hl, hle, cur.size, ?_, by rw [hsz]; omega⟩⟩
    · have hlt : i < (ws.flatMap fun x => wtV x.1 x.2).length := (List.getElem?_eq_some_iff.1 hi).1
      rw [← htk, List.getElem?_take, if_pos (by omega)] at hi
      simpa using hi
    · unfold eSize
      rw [hb]
end
end Go.Proofs.YtacmaphhbbadjaaGreatDoor
