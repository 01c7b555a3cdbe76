/- play.Run of the song's packets: the walk. -/
import Derived.Test.YtacmaphhbbadjaaGreatDoorPyRun0
namespace Go.Proofs.YtacmaphhbbadjaaGreatDoor
set_option linter.all false
open Go.RowKit

section
variable {w w' : World} {B o S oS c m : Nat} {now : Int} {Q : Value} {last e s : Int} {F : List Nat}
/-- Between two rounds: j packets wait, the others were played. -/
structure RunAt (w0 : World) (Ds : List Nat) (B o S oS c m : Nat) (now s : Int) (G j : Nat) (v5 v6 : Value) (w : World) : Prop where
  ex : ∃ g cap ws e F xs, PlAt w B o S oS c m now (.slice (some ⟨G, g, none⟩) j cap) 0 e s ∧ QAt w G g j cap ws ∧ (∀ x ∈ ws, WtOk w x ∧ x.1 ∈ Ds) ∧ (ws.map (·.1)).Nodup ∧ OwnK w 67 8 v5 F (m - j) xs ∧ (∀ y ∈ F, w0.heap.size ≤ y) ∧
    Chg (S :: Ds) w0 w ∧ (j < m → e = 2) ∧ j ≤ m
  nil : j = 0 → v6 = .pointer none
  ptr : 0 < j → v6 = .pointer (some ⟨S, oS, none⟩)
/-- What lies still while Run runs. -/
structure RunEnd (w0 : World) (Ds : List Nat) (B o S oS c m : Nat) (tt : Int) (G : Nat) (v5 : Value) (w : World) : Prop where
  ex : ∃ A capO g capQ s, v5 = .slice A (m + if 2 ≤ tt then 1 else 0) capO ∧ PlAt w B o S oS c m tt (.slice (some ⟨G, g, none⟩) 0 capQ) 0 2 s ∧ QAt w G g 0 capQ [] ∧ Chg (B :: S :: Ds) w0 w
/-- What Run hands back, and leaves. -/
def RunPost (w0 : World) (Ds : List Nat) (B o S oS c m : Nat) (tt : Int) (G : Nat) (x : Ending) (w : World) : Prop := ∃ v5, x = .returned v5 ∧ RunEnd w0 Ds B o S oS c m tt G v5 w
structure RunFix (w0 : World) (Ds : List Nat) (B S G : Nat) : Prop where
  lt : ∀ x ∈ B :: S :: G :: Ds, x < w0.heap.size
  bs : B ≠ S
  bg : B ≠ G
  sg : S ≠ G
  out : B ∉ Ds ∧ S ∉ Ds ∧ G ∉ Ds
set_option maxRecDepth 100000 in
set_option maxHeartbeats 4000000 in
theorem run_ok {G cap : Nat} {ws : List (Nat × Nat)} {tt : Int} (h : PlAt w B o S oS c m (-1) (.slice (some ⟨G, 0, none⟩) m cap) 0 0 (-1)) (hq : QAt w G 0 m cap ws) (hw : ∀ x ∈ ws, WtOk w x) (hnd : (ws.map (·.1)).Nodup) (hfix : RunFix w (ws.map (·.1)) B S G)
    (hm : 1 ≤ m) (hm2 : m ≤ 256) (ht : 0 ≤ tt) (ht2 : tt ≤ 1023) :
    Calls Tryz.prog 9 #[.pointer (some ⟨B, o, none⟩), .int .i64 tt] w (RunPost w (ws.map (·.1)) B o S oS c m tt G) := by
  have t1 : decide (tt ≤ -1) = false := by simp; omega
  have t2 : decide ((1125899906842624 : Int) < tt) = false := by simp; omega
  obtain ⟨nw, hnw⟩ : ∃ nw : Int, nw = -1 := ⟨_, rfl⟩
  rw [← hnw] at h t1
  have HN := hid hnw
  clear hnw
  obtain ⟨⟨b0, b1, b2, b3⟩, _⟩ := h.pcells
  have HP := hid h
  have HQ := hid hq
  have HWS := hid hw
  have HND := hid hnd
  have HX := hid hfix
  clear h hq hw hnd hfix
  go_enter Tryz.func9, Tryz.ntmps9
  go_wp2_with fail
  obtain ⟨M, hM⟩ : ∃ M, m = M + 1 := ⟨m - 1, by omega⟩
  obtain ⟨x0, ws0, hx0⟩ : ∃ x0 ws0, ws = x0 :: ws0 := by
    have := HQ.out.len
    cases ws with
    | nil => simp at this; omega
    | cons x0 ws0 => exact ⟨x0, ws0, rfl⟩
  have hnx := next_some (n := M) (tt := tt) (by rw [← hM]; exact HP.out) ((show QAt w G 0 (M + 1) cap (x0 :: ws0) by rw [← hM, ← hx0]; exact HQ.out).cells.2.1) ht
  have HM := hid hM
  clear hM hx0 b0 b1 b2 b3 t1 t2
  refine hnx.mono ?_
  rintro x w1 ⟨rfl, nq, rfl⟩
  clear hnx
  go_wp2_with fail
  go_loopg [5, 6, 7, 8] m (fun j v5 v6 v7 v8 wr => RunAt w (ws.map (·.1)) B o S oS c m nw nw G j v5 v6 wr)
  case atStart =>
    have CQ : Chg [] w (w.drewN nq) := (Chg.refl [] w).drewN nq
    exact ⟨⟨0, cap, ws, 0, [], [], HP.out.same CQ, HQ.out.chg CQ (by simp), fun x hx => ⟨(HWS.out x hx).chg CQ (by simp), List.mem_map_of_mem hx⟩, HND.out, by rw [Nat.sub_self]; exact OwnK.nil _ _ _, by simp, CQ.mono (by simp), fun q => absurd q (Nat.lt_irrefl _), Nat.le_refl _⟩, fun q => by omega, fun _ => rfl⟩
  case round =>
    obtain ⟨⟨g, cap1, ws1, ev, F, xs, hP, hQ, hW, hN1, hO, hF, hC, hev, hj⟩, h0, h1⟩ := hrel
    rcases gk with _ | j
    · obtain rfl := h0 rfl
      clear h0 h1
      obtain rfl := hev (by omega)
      obtain rfl : ws1 = [] := List.eq_nil_of_length_eq_zero hQ.len
      rw [Nat.sub_zero] at hO
      obtain ⟨A5, c5, rfl⟩ := hO.shape
      obtain ⟨⟨b0, b1, b2, b3⟩, fb⟩ := hP.pcells
      obtain ⟨w2, hw2⟩ : ∃ w2, w2 = wr.setCell ⟨B, o + 2, none⟩ (.int .i64 tt) := ⟨_, rfl⟩
      have C2 : Chg [B] wr w2 := by rw [hw2]; exact (Chg.refl [B] wr).setCell (.inl (by simp)) _
      have P2 : PlAt w2 B o S oS c m tt (.slice (some ⟨G, g, none⟩) 0 cap1) 0 2 nw := by rw [hw2]; exact hP.setNow tt
      have Q2 := hQ.chg C2 (by simpa using HX.out.bg.symm)
      have O2 := hO.chg C2 (fun y hy => by
        have h1 := hF y hy
        have h2 := HX.out.lt B (by simp)
        simp; omega)
      have C02 : Chg (B :: S :: ws.map (·.1)) w w2 := (hC.mono (fun y hy _ => List.mem_cons_of_mem _ hy)).trans C2 (fun y hy => .inl (by simp at hy; simp [hy]))
      obtain ⟨⟨p0, p1, p2, p3⟩, _⟩ := P2.pcells
      obtain ⟨⟨c0, c1, c2, c3⟩, f0, f1, f2, f3⟩ := P2.scells
      have HW2 := hid hw2
      have HFa := hid (And.intro P2 (And.intro Q2 (And.intro O2 (And.intro C02 hF))))
      clear hP hQ hW hN1 hO hF hC hev hj hw2 C2 P2 Q2 O2 C02
      go_wp2_with fail
      rw [← HW2.out]
      go_loopg [5, 9, 10, 11, 77] 1 (fun j v5 v9 v10 v11 v77 wx => (j = 1 ∧ v77 = .int .i64 0 ∧ v5 = .slice A5 m c5 ∧ w2 = wx) ∨ (j = 0 ∧ v77 = .int .i64 1 ∧ RunEnd w (ws.map (·.1)) B o S oS c m tt G v5 wx))
      case atStart => exact .inl ⟨rfl, rfl, rfl, rfl⟩
      case round =>
        rcases hrel with ⟨hj, rfl, rfl, rfl⟩ | ⟨hj, rfl, hE⟩
        · obtain rfl : gk = 0 + 1 := hj
          by_cases hb : 2 ≤ tt
          · have g1 : decide (tt < 2) = false := by simp; omega
            have g2 : (nw == 2) = false := by rw [HN.out]; rfl
            obtain ⟨R, hR⟩ : ∃ R, R = w2.heap.size := ⟨_, rfl⟩
            obtain ⟨w3, hw3⟩ : ∃ w3, w3 = w2.alloc (.cells #[.int .i64 2, .int .i64 0, .int .i64 0, .slice none 0 0, .int .i64 0, .int .i64 0, .int .i64 0, .slice none 0 0] 67) := ⟨_, rfl⟩
            have C3 : Chg [] w2 w3 := by rw [hw3]; exact (Chg.refl [] w2).alloc _
            have P3 := HFa.out.1.same C3
            have bR3 : Blk w3 R 67 #[.int .i64 2, .int .i64 0, .int .i64 0, .slice none 0 0, .int .i64 0, .int .i64 0, .int .i64 0, .slice none 0 0] := by rw [hw3, hR]; exact Blk.new _ _ _
            obtain ⟨⟨x0, x1, x2, x3⟩, _⟩ := P3.pcells
            obtain ⟨⟨y0, y1, y2, y3⟩, h0, h1, h2, h3⟩ := P3.scells
            have HW3 := hid hw3
            have HR := hid hR
            have HB3 := hid (And.intro bR3 P3)
            rw [hw3] at x3
            clear hw3 hR
            go_upto_region 24 with (fail)
            rw [← HW3.out]
            rw [← HW3.out] at x3
            go_quiet (fail)
            go_upto_region 26 with (fail)
            clear x0 x1 x2 x3 y0 y1 y2 y3 h0 h1 h2 h3 p0 p1 p2 p3 c0 c1 c2 c3 f0 f1 f2 f3
            obtain ⟨w4, hw4⟩ : ∃ w4, w4 = (w3.drewN nq).setCell ⟨S, oS + 13, none⟩ (.int .i64 2) := ⟨_, rfl⟩
            rw [← hw4, ← HR.out]
            obtain ⟨bR3, P3⟩ := HB3.out
            have hRS : R ≠ S := by have := HFa.out.1.st.lt; have := HR.out; omega
            have CD : Chg [] w3 (w3.drewN nq) := (Chg.refl [] w3).drewN nq
            have P4 : PlAt w4 B o S oS c m tt (.slice (some ⟨G, g, none⟩) 0 cap1) 0 2 2 := by rw [hw4]; exact (P3.same CD).setSt 2
            have C34 : Chg [S] w3 w4 := by rw [hw4]; exact (CD.mono (by simp)).setCell (.inl (by simp)) _
            have bR4 := bR3.chg C34 (by simpa using hRS)
            have e2 := bR4.cell 2
            have k2 := bR4.frozen 2
            simp at e2
            obtain ⟨w5, hw5⟩ : ∃ w5, w5 = w4.setCell ⟨R, 2, none⟩ (.int .i64 3) := ⟨_, rfl⟩
            have C45 : Chg [R] w4 w5 := by rw [hw5]; exact (Chg.refl [R] w4).setCell (.inl (by simp)) _
            have bR5 : Blk w5 R 67 #[.int .i64 2, .int .i64 0, .int .i64 3, .slice none 0 0, .int .i64 0, .int .i64 0, .int .i64 0, .slice none 0 0] := by rw [hw5]; exact bR4.set_ 2 _
            have hRB : R ≠ B := by have := HFa.out.1.pl.lt; have := HR.out; omega
            have P5 := P4.chg C45 (by simpa using hRB.symm) (by simpa using hRS.symm)
            have C25 : Chg [S] w2 w5 := (((C3.mono (by simp)).trans_same C34).trans C45 (fun y hy => .inr (by have := HR.out; simp at hy; omega)))
            have hFS : ∀ y ∈ F, y ∉ ([S] : List Nat) := fun y hy => by
              have h1 := HFa.out.2.2.2.2 y hy
              have h2 := HX.out.lt S (by simp)
              simp; omega
            have O5 := HFa.out.2.2.1.chg C25 hFS
            have Q5 := HFa.out.2.1.chg C25 (by simpa using HX.out.sg.symm)
            have C05 : Chg (B :: S :: ws.map (·.1)) w w5 := HFa.out.2.2.2.1.trans C25 (fun y hy => .inl (by simp at hy; simp [hy]))
            have s0 := bR5.cell 0
            have s1 := bR5.cell 1
            have s2 := bR5.cell 2
            have s3 := bR5.cell 3
            have s4 := bR5.cell 4
            have s5 := bR5.cell 5
            have s6 := bR5.cell 6
            have s7 := bR5.cell 7
            simp at s0 s1 s2 s3 s4 s5 s6 s7
            have HW5 := hid hw5
            have HB5 := hid (And.intro P5 (And.intro Q5 (And.intro O5 C05)))
            clear hw4 hw5 bR3 P3 hRS CD P4 C34 bR4 C45 bR5 hRB P5 C25 hFS O5 Q5 C05 HB3 HW3 C3
            go_upto_region 27 with (fail)
            rw [← HW5.out]
            clear e2 k2
            go_wp2_with (at_builtin; refine wpList_append_k1 rfl rfl seen_el rfl (by decide) rfl (HB5.out.2.2.1.same ((Chg.refl [] w5).alloc _)) [.int .i64 2, .int .i64 0, .int .i64 3, .slice none 0 0, .int .i64 0, .int .i64 0, .int .i64 0, .slice none 0 0] rfl ?c1 ?c2 ?c3 ?c4 ?c5 ?_)
            case c1 => rfl
            case c2 => exact newA _ _ _
            case c3 =>
              intro u hu
              simp only [List.mem_cons, List.not_mem_nil, or_false] at hu
              rcases hu with rfl | rfl | rfl | rfl | rfl | rfl | rfl | rfl <;> rfl
            case c4 => omega
            case c5 => omega
            intro G6 cap6 w6 hown6 hgr6
            obtain ⟨P5, Q5, O5, C05⟩ := HB5.out
            have C56 : Chg F w5 w6 := (Grow.pre ((Chg.refl [] w5).alloc _) hgr6).chg
            have out0 : ∀ y ∈ B :: S :: G :: ws.map (·.1), y ∉ F := fun y hy hF => by
              have h1 := HX.out.lt y hy
              have h2 := HFa.out.2.2.2.2 y hF
              omega
            have hfin : RunEnd w (ws.map (·.1)) B o S oS c m tt G (.slice (some ⟨G6, 0, none⟩) (m + 1) cap6) w6 :=
              ⟨_, cap6, g, cap1, 2, by rw [if_pos hb], P5.chg C56 (out0 B (by simp)) (out0 S (by simp)), Q5.chg C56 (out0 G (by simp)), C05.trans C56 (fun y hy => .inr (HFa.out.2.2.2.2 y hy))⟩
            have HFIN := hid hfin
            clear P5 Q5 O5 C05 C56 out0 hfin hown6 hgr6 HB5 s0 s1 s2 s3 s4 s5 s6 s7
            go_wp2_with fail
            go_roundg 0
            case measure => omega
            case rel => exact .inr ⟨rfl, rfl, HFIN.out⟩
          · have g1 : decide (tt < 2) = true := by simp; omega
            go_wp2_with fail
            go_roundg 0
            case measure => omega
            case rel => exact .inr ⟨rfl, rfl, ⟨A5, c5, g, cap1, nw, by rw [if_neg (Int.not_le.2 hb)]; rfl, HFa.out.1, HFa.out.2.1, HFa.out.2.2.2.1⟩⟩
        · go_wp2_with fail
          go_ret
          exact ⟨_, rfl, hE⟩
    · obtain rfl := h1 (Nat.succ_pos _)
      clear h0 h1
      obtain ⟨x, ws2, rfl⟩ : ∃ x ws2, ws1 = x :: ws2 := by
        have := hQ.len
        cases ws1 with
        | nil => simp at this
        | cons x ws2 => exact ⟨x, ws2, rfl⟩
      obtain ⟨q0, q1, q2, q3, q4, q5, q6⟩ := hQ.cells
      obtain ⟨⟨c0, c1, c2, c3⟩, f0, f1, f2, f3⟩ := hP.scells
      obtain ⟨⟨p0, p1, p2, p3⟩, _⟩ := hP.pcells
      have hpop := pop_run G g j cap1 hQ.le
      have HPa := hid (And.intro hP hQ)
      have HWa := hid (And.intro hW hN1)
      have HOa := hid (And.intro hO (And.intro hF hC))
      have HE := hid (And.intro hev hj)
      obtain ⟨j1, hj1⟩ : ∃ j1, j1 = j + 1 := ⟨_, rfl⟩
      have HJ := hid hj1
      obtain ⟨D, hD⟩ : ∃ D, D = x.1 := ⟨_, rfl⟩
      obtain ⟨cD, hcD⟩ : ∃ cD, cD = x.2 := ⟨_, rfl⟩
      have HD := hid (And.intro hD hcD)
      rw [← hD, ← hcD] at q5
      rw [← hj1] at hpop c0
      have t5 : 0 < j1 := by omega
      have t6 : decide ((0 : Int) < (j1 : Int)) = true := by simp; omega
      clear hP hQ hW hN1 hO hF hC hev hj hD hcD
      obtain ⟨X, hX⟩ : ∃ X, X = wr.heap.size := ⟨_, rfl⟩
      obtain ⟨w1, hw1⟩ : ∃ w1, w1 = wr.alloc (.cells #[.int .i64 0, .int .i64 0, .int .i64 2, .bool true, .bool false, .slice (some ⟨D, 0, none⟩) 15 cD, .bool false] 64) := ⟨_, rfl⟩
      obtain ⟨w2, hw2⟩ : ∃ w2, w2 = w1.setCell ⟨S, oS + 10, none⟩ (.slice (some ⟨G, popG g cap1, none⟩) j (cap1 - 1)) := ⟨_, rfl⟩
      have C1 : Chg [] wr w1 := by rw [hw1]; exact (Chg.refl [] wr).alloc _
      have C2 : Chg [S] w1 w2 := by rw [hw2]; exact (Chg.refl [S] w1).setCell (.inl (by simp)) _
      have C12 : Chg [S] wr w2 := (C1.mono (by simp)).trans_same C2
      have hXS : X ≠ S := by have := HPa.out.1.st.lt; omega
      have bX1 : Blk w1 X 64 #[.int .i64 0, .int .i64 0, .int .i64 2, .bool true, .bool false, .slice (some ⟨D, 0, none⟩) 15 cD, .bool false] := by rw [hw1, hX]; exact Blk.new _ _ _
      have bX2 := bX1.chg C2 (by simpa using hXS)
      have P1 := HPa.out.1.same C1
      have P2 : PlAt w2 B o S oS c m nw (.slice (some ⟨G, popG g cap1, none⟩) j (cap1 - 1)) 0 ev nw := by rw [hw2]; exact P1.setQ _
      obtain ⟨⟨r0, _⟩, k0, _⟩ := P1.scells
      rw [← hj1] at r0
      have y0 := bX2.cell 0
      have y1 := bX2.cell 1
      simp at y0 y1
      have HX2 := hid (And.intro hX hXS)
      have HW2 := hid hw2
      have HW1 := hid hw1
      have HB2 := hid (And.intro bX2 (And.intro P2 C12))
      rw [hw1] at r0 k0
      clear hX hw1 hw2 C1 C2 C12 hXS bX1 bX2 P1 P2 hj1
      go_upto_region 9 with (fail)
      rw [← HX2.out.1, ← HW1.out, ← HW2.out]
      clear q0 q1 q2 q3 q4 q5 q6 c0 c1 c2 c3 f0 f1 f2 f3 p0 p1 p2 p3 r0 k0 hpop
      obtain ⟨R, hR⟩ : ∃ R, R = w2.heap.size := ⟨_, rfl⟩
      obtain ⟨w3, hw3⟩ : ∃ w3, w3 = w2.alloc (.cells #[.int .i64 0, .int .i64 0, .int .i64 0, .slice none 0 0, .int .i64 0, .int .i64 0, .int .i64 0, .slice none 0 0] 67) := ⟨_, rfl⟩
      obtain ⟨bX2, P2, C12⟩ := HB2.out
      have C3 : Chg [] w2 w3 := by rw [hw3]; exact (Chg.refl [] w2).alloc _
      have C13 : Chg [S] wr w3 := C12.trans_same (C3.mono (by simp))
      have bX3 := bX2.same' C3
      have P3 := P2.same C3
      have bR3 : Blk w3 R 67 #[.int .i64 0, .int .i64 0, .int .i64 0, .slice none 0 0, .int .i64 0, .int .i64 0, .int .i64 0, .slice none 0 0] := by rw [hw3, hR]; exact Blk.new _ _ _
      have hWx := HWa.out.1 x (by simp)
      have hDS : D ≠ S := by rw [HD.out.1]; rintro q; exact HX.out.out.2.1 (by rw [← q]; exact hWx.2)
      have hDB : D ≠ B := by rw [HD.out.1]; rintro q; exact HX.out.out.1 (by rw [← q]; exact hWx.2)
      have hW3 : WtOk w3 x := hWx.1.chg C13 (by rw [← HD.out.1]; simpa using hDS)
      have hD0 : D < wr.heap.size := by rw [HD.out.1]; exact hWx.1.pre.lt
      have hS0 : S < wr.heap.size := HPa.out.1.st.lt
      have hB0 : B < wr.heap.size := HPa.out.1.pl.lt
      have z12 := C12.size
      have hRD : D ≠ R := by omega
      have hRS : S ≠ R := by omega
      have hRX : X ≠ R := by have := bX2.lt; omega
      have hXD : X ≠ D := by have := HX2.out.1; omega
      have hplay : Calls Tryz.prog 17 #[.pointer (some ⟨S, oS, none⟩), .agg #[.int .i64 0, .int .i64 0, .int .i64 2, .bool true, .bool false, .slice (some ⟨D, 0, none⟩) 15 cD, .bool false], .pointer (some ⟨R, 0, none⟩)] w3 fun y w' =>
          y = .returned (.bool true) ∧ Chg [D, S, R] w3 w' ∧ Pre w' S oS (strV (rest (.slice (some ⟨G, popG g cap1, none⟩) j (cap1 - 1)) 0 ev nw)) ∧ ∃ us : List Value, us.length = 8 ∧ Pre w' R 0 us ∧ ∀ u ∈ us, u.oneCell' = true :=
        play_ok (cap := cD) (by rw [HD.out.1]; exact hW3.pre) (by rw [HD.out.1, HD.out.2]; exact hW3.size) (by rw [HD.out.2]; exact hW3.le) P3.st (Pre.of_blk bR3) hDS hRD hRS
      have z0 := bX3.cell 0
      have z1 := bX3.cell 1
      have z2 := bX3.cell 2
      have z3 := bX3.cell 3
      have z4 := bX3.cell 4
      have z5 := bX3.cell 5
      have z6 := bX3.cell 6
      simp at z0 z1 z2 z3 z4 z5 z6
      rw [hw3] at z0 z1 z2 z3 z4 z5 z6
      have HW3 := hid hw3
      have HR := hid hR
      have HB3 := hid (And.intro bX3 (And.intro P3 C13))
      have HNE := hid (And.intro hDS (And.intro hDB (And.intro hRD (And.intro hRS (And.intro hRX hXD)))))
      have HLT := hid (And.intro hD0 (And.intro hS0 (And.intro hB0 z12)))
      have HPL := hid hplay
      clear hR hw3 bX2 P2 C12 C3 C13 bX3 P3 bR3 hWx hDS hDB hW3 hD0 hS0 hB0 z12 hRD hRS hRX hXD hplay HB2
      go_wp2_with fail
      rw [← HW3.out, ← HR.out]
      refine HPL.out.mono ?_
      rintro y w4 ⟨rfl, C34, st4, us, hus, pR4, hone⟩
      clear z0 z1 z2 z3 z4 z5 z6 y0 y1
      obtain ⟨u0, u1, u2, u3, u4, u5', u6, u7', rfl⟩ : ∃ u0 u1 u2 u3 u4 u5 u6 u7, us = [u0, u1, u2, u3, u4, u5, u6, u7] := by
        match us, hus with
        | [u0, u1, u2, u3, u4, u5, u6, u7], _ => exact ⟨_, _, _, _, _, _, _, _, rfl⟩
      obtain ⟨bX3, P3, C13⟩ := HB3.out
      obtain ⟨hDS, hDB, hRD, hRS, hRX, hXD⟩ := HNE.out
      obtain ⟨hD0, hS0, hB0, z12⟩ := HLT.out
      have hBS := HX.out.bs
      have hBR : B ≠ R := by have := HR.out; omega
      have P4 : PlAt w4 B o S oS c m nw (.slice (some ⟨G, popG g cap1, none⟩) j (cap1 - 1)) 0 ev nw := ⟨P3.pl.chg C34 (by simp; exact ⟨hDB.symm, hBS, hBR⟩), st4, P3.ne⟩
      have bX4 := bX3.chg C34 (by simp; exact ⟨hXD, HX2.out.2, hRX⟩)
      have C14 : Chg [S, D] wr w4 := (C13.mono (by simp)).trans C34 (fun y hy => by
        simp at hy
        rcases hy with rfl | rfl | rfl
        · exact .inl (by simp)
        · exact .inl (by simp)
        · exact .inr (by have := HR.out; omega))
      have hFn : ∀ y ∈ F, y ∉ ([S, D] : List Nat) := fun y hy => by
        have h1 := HOa.out.2.1 y hy
        have h2 := HX.out.lt S (by simp)
        have h3 := HX.out.lt D (by
          have := (HWa.out.1 x (by simp)).2
          rw [HD.out.1]; simp [this])
        simp; omega
      have O4 := HOa.out.1.chg C14 hFn
      have r0 : w4.cell? ⟨R, 0, none⟩ = some u0 := pR4.cell (i := 0) rfl
      have r1 : w4.cell? ⟨R, 1, none⟩ = some u1 := pR4.cell (i := 1) rfl
      have r2 : w4.cell? ⟨R, 2, none⟩ = some u2 := pR4.cell (i := 2) rfl
      have r3 : w4.cell? ⟨R, 3, none⟩ = some u3 := pR4.cell (i := 3) rfl
      have r4 : w4.cell? ⟨R, 4, none⟩ = some u4 := pR4.cell (i := 4) rfl
      have r5 : w4.cell? ⟨R, 5, none⟩ = some u5' := pR4.cell (i := 5) rfl
      have r6 : w4.cell? ⟨R, 6, none⟩ = some u6 := pR4.cell (i := 6) rfl
      have r7 : w4.cell? ⟨R, 7, none⟩ = some u7' := pR4.cell (i := 7) rfl
      have HB4 := hid (And.intro P4 (And.intro bX4 C14))
      have HO4 := hid O4
      have HON := hid hone
      clear bX3 P3 C13 hDS hDB hRD hRS hRX hXD hD0 hS0 hB0 z12 hBS hBR P4 bX4 C14 hFn O4 pR4 st4 C34 hus hone HB3 HW3
      go_wp2_with (at_builtin; refine wpList_append_k1 rfl rfl seen_el rfl (by decide) rfl (HO4.out.same ((Chg.refl [] w4).alloc _)) [u0, u1, u2, u3, u4, u5', u6, u7'] rfl ?c1 ?c2 ?c3 ?c4 ?c5 ?_)
      case c1 => rfl
      case c2 => exact newA _ _ _
      case c3 => exact HON.out
      case c4 => omega
      case c5 => omega
      intro G6 cap6 w6 hown6 hgr6
      obtain ⟨P4, bX4, C14⟩ := HB4.out
      have C46 : Chg F w4 w6 := (Grow.pre ((Chg.refl [] w4).alloc _) hgr6).chg
      have hG6 : ∀ y ∈ [G6], w.heap.size ≤ y := fun y hy => by
        rcases (Grow.pre ((Chg.refl [] w4).alloc _) hgr6).new y hy with q | q
        · exact HOa.out.2.1 y q
        · have q1 := C14.size
          have q2 := HOa.out.2.2.size
          omega
      have hltF : ∀ y ∈ F, y < wr.heap.size := HOa.out.1.lt
      have out0 : ∀ y ∈ B :: S :: G :: ws.map (·.1), y ∉ F := fun y hy hF => by
        have h1 := HX.out.lt y hy
        have h2 := HOa.out.2.1 y hF
        omega
      have hXF : X ∉ F := fun hF => by
        have h1 := hltF X hF
        have h2 := HX2.out.1
        omega
      have P6 := P4.chg C46 (out0 B (by simp)) (out0 S (by simp))
      have bX6 := bX4.chg C46 hXF
      have v1 := bX6.cell 1
      have v2 := bX6.cell 2
      simp at v1 v2
      obtain ⟨⟨_, _, v3, _⟩, _, _, k2, _⟩ := P6.scells
      obtain ⟨w7, hw7⟩ : ∃ w7, w7 = w6.setCell ⟨S, oS + 12, none⟩ (.int .i64 2) := ⟨_, rfl⟩
      have P7 : PlAt w7 B o S oS c m nw (.slice (some ⟨G, popG g cap1, none⟩) j (cap1 - 1)) 0 2 nw := by rw [hw7]; exact P6.setEnd 2
      have C67 : Chg [S] w6 w7 := by rw [hw7]; exact (Chg.refl [S] w6).setCell (.inl (by simp)) _
      have C17 : Chg (S :: D :: F) wr w7 := ((C14.mono (fun y hy _ => by simp at hy; rcases hy with rfl | rfl <;> simp)).trans C46 (fun y hy => .inl (by simp [hy]))).trans C67 (fun y hy => .inl (by simp at hy; simp [hy]))
      have hGn : G ∉ S :: D :: F := by
        simp
        refine ⟨HX.out.sg.symm, ?_, out0 G (by simp)⟩
        rintro rfl
        exact HX.out.out.2.2 (by rw [HD.out.1]; exact (HWa.out.1 x (by simp)).2)
      have Q7 := HPa.out.2.pop.chg C17 hGn
      have hxN := HWa.out.2
      simp only [List.map_cons, List.nodup_cons] at hxN
      have W7 : ∀ y ∈ ws2, WtOk w7 y ∧ y.1 ∈ ws.map (·.1) := fun y hy => by
        have hy1 := HWa.out.1 y (by simp [hy])
        refine ⟨hy1.1.chg C17 ?_, hy1.2⟩
        simp
        refine ⟨?_, ?_, out0 y.1 (by simp only [List.mem_cons]; exact .inr (.inr (.inr hy1.2)))⟩
        · intro q; exact HX.out.out.2.1 (by rw [← q]; exact hy1.2)
        · intro q; exact hxN.1 (by rw [← HD.out.1, ← q]; exact List.mem_map_of_mem hy)
      have hSG6 : ∀ y ∈ [G6], y ∉ [S] := fun y hy => by
        have h1 := hG6 y hy
        have h2 := HX.out.lt S (by simp)
        simp; omega
      have O7 := hown6.chg C67 hSG6
      have C07 : Chg (S :: ws.map (·.1)) w w7 := HOa.out.2.2.trans C17 (fun y hy => by
        simp only [List.mem_cons] at hy
        rcases hy with rfl | rfl | hy
        · exact .inl (by simp)
        · exact .inl (by rw [HD.out.1]; exact List.mem_cons_of_mem _ (HWa.out.1 x (by simp)).2)
        · exact .inr (HOa.out.2.1 y hy))
      have hjm : j + 1 ≤ m := HE.out.2
      have hcnt : m - (j + 1) + 1 = m - j := by omega
      have HFIN := hid (show ∀ w8, Chg [] w7 w8 → ∀ v6 : Value, (j = 0 → v6 = .pointer none) → (0 < j → v6 = .pointer (some ⟨S, oS, none⟩)) → RunAt w (ws.map (·.1)) B o S oS c m nw nw G j (.slice (some ⟨G6, 0, none⟩) (m - (j + 1) + 1) cap6) v6 w8 from fun w8 hc v6 q0 q1 =>
        ⟨⟨popG g cap1, cap1 - 1, ws2, 2, [G6], _, P7.same hc, Q7.chg hc (by simp), fun y hy => ⟨(W7 y hy).1.chg hc (by simp), (W7 y hy).2⟩, hxN.2, (show OwnK w8 67 8 _ [G6] (m - j) _ by rw [← hcnt]; exact O7.same hc), hG6, C07.trans_same (hc.mono (by simp)), fun _ => rfl, by omega⟩, q0, q1⟩)
      have HW7 := hid hw7
      have HP7 := hid (And.intro P7 Q7)
      clear P4 bX4 C14 C46 hG6 hltF out0 hXF P6 bX6 hw7 P7 C67 C17 hGn Q7 hxN W7 hSG6 O7 C07 hcnt hown6 hgr6 HB4 HO4 r0 r1 r2 r3 r4 r5 r6 r7
      go_wp2_with fail
      rw [← HW7.out]
      rcases j with _ | jj
      · refine (next_none HP7.out.1).mono ?_
        rintro y w8 ⟨rfl, rfl⟩
        go_wp2_with fail
        go_roundg 0
        case measure => omega
        case rel =>
          have := HFIN.out w7 (Chg.refl _ _) _ (fun _ => rfl) (fun h => absurd h (Nat.lt_irrefl _))
          rwa [show m - (0 + 1) + 1 = m by omega] at this
      · obtain ⟨x3, ws3, hx3⟩ : ∃ x3 ws3, ws2 = x3 :: ws3 := by
          have := HP7.out.2.len
          cases ws2 with
          | nil => simp at this
          | cons x3 ws3 => exact ⟨x3, ws3, rfl⟩
        have hnx := next_some (n := jj) (tt := tt) HP7.out.1 ((show QAt w7 G (popG g cap1) (jj + 1) (cap1 - 1) (x3 :: ws3) by rw [← hx3]; exact HP7.out.2).cells.2.1) ht
        clear hx3
        refine hnx.mono ?_
        rintro y w8 ⟨rfl, nq8, rfl⟩
        clear hnx
        go_wp2_with fail
        go_roundg (jj + 1)
        case measure => omega
        case rel => exact HFIN.out _ ((Chg.refl [] w7).drewN nq8) _ (fun h => absurd h (by omega)) (fun _ => rfl)
end
end Go.Proofs.YtacmaphhbbadjaaGreatDoor
