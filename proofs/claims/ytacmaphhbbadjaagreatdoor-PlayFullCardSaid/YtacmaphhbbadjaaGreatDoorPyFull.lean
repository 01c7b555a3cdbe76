/- PlayFull: the walk. -/
import Derived.Test.YtacmaphhbbadjaaGreatDoorPyFull0
namespace Go.Proofs.YtacmaphhbbadjaaGreatDoor
set_option linter.all false
open Go.RowKit

theorem wrap_small {n : Int} (h1 : 0 ≤ n) (h2 : n ≤ 4294967296) : IntKind.i64.wrap n = n := by rw [IntKind.wrap_i64]; omega
set_option maxRecDepth 100000 in
set_option maxHeartbeats 4000000 in
theorem pfull_ok (w : World) (a : Int) (ha : In64 a) (b : Int) (hb : In64 b) :
    Calls Tryz.prog 3 #[.int .i64 a, .int .i64 b] w fun e w' => e = .returned (.bool true) ∧ Chg [] w w' := by
  obtain ⟨m0, hm0⟩ : ∃ m0, m0 = withinI a 1 256 := ⟨_, rfl⟩
  obtain ⟨q0, q1⟩ := within_in a (lo := 1) (hi := 256) (by decide)
  have hwi := fun w' => within_ok a 1 256 w' ha (by decide) (by decide) (by decide)
  rw [← hm0] at q0 q1 hwi
  obtain ⟨m, rfl⟩ : ∃ m : Nat, m0 = (m : Int) := ⟨m0.toNat, by omega⟩
  have hm1 : 1 ≤ m := by omega
  have hm2 : m ≤ 256 := by omega
  obtain ⟨N, hN1, hN2⟩ := i64_and_low b 1023 (by decide)
  replace hN2 : bits .and .i64 b 1023 = (N : Int) := hN2
  clear hm0 q0 q1
  have HWI := hid hwi
  have HM := hid (And.intro hm1 hm2)
  have HN := hid hN1
  clear hwi hm1 hm2 hN1 ha hb
  go_enter Tryz.func3, Tryz.ntmps3
  go_wp2_with fail
  refine (song_ok w).mono ?_
  rintro e w1 ⟨sb, so, D, oD, cD, E, oE, cE, c0, rfl, hc0, C1, hsong, n1, n2, n3⟩
  have HS1 := hid (And.intro C1 (And.intro hsong (And.intro n1 (And.intro n2 n3))))
  clear C1 hsong n1 n2 n3
  have eInfo : (infoM.map iv).toArray = #[.int .i64 1, .int .i64 1, .int .i64 1, .int .i64 4, .int .i64 1, .int .i64 8, .int .i64 0, .int .i64 0, .int .i64 0, .int .i64 0] := rfl
  rw [eInfo]
  obtain ⟨X, hX⟩ : ∃ X, X = w1.heap.size := ⟨_, rfl⟩
  obtain ⟨w2, hw2⟩ : ∃ w2, w2 = w1.alloc (.cells #[.int .i64 1, .int .i64 1, .int .i64 1, .int .i64 4, .int .i64 1, .int .i64 8, .int .i64 0, .int .i64 0, .int .i64 0, .int .i64 0] 27) := ⟨_, rfl⟩
  have bX2 : Blk w2 X 27 #[.int .i64 1, .int .i64 1, .int .i64 1, .int .i64 4, .int .i64 1, .int .i64 8, .int .i64 0, .int .i64 0, .int .i64 0, .int .i64 0] := by rw [hw2, hX]; exact Blk.new _ _ _
  have C12 : Chg [] w1 w2 := by rw [hw2]; exact (Chg.refl [] w1).alloc _
  have HW2 := hid hw2
  have HX := hid hX
  have HB2 := hid (And.intro bX2 C12)
  have x0 := bX2.cell 0
  have x1 := bX2.cell 1
  have x2 := bX2.cell 2
  have x3 := bX2.cell 3
  have x4 := bX2.cell 4
  have x5 := bX2.cell 5
  have x6 := bX2.cell 6
  have x7 := bX2.cell 7
  have x8 := bX2.cell 8
  have x9 := bX2.cell 9
  simp at x0 x1 x2 x3 x4 x5 x6 x7 x8 x9
  obtain ⟨T, hT⟩ : ∃ T, T = w2.heap.size := ⟨_, rfl⟩
  obtain ⟨w3, hw3⟩ : ∃ w3, w3 = w2.alloc (.cells #[.int .i64 1, .int .i64 1, .int .i64 1, .int .i64 4, .int .i64 1, .int .i64 8, .int .i64 0, .int .i64 0, .int .i64 0, .int .i64 0] 27) := ⟨_, rfl⟩
  have bT3 : Blk w3 T 27 #[.int .i64 1, .int .i64 1, .int .i64 1, .int .i64 4, .int .i64 1, .int .i64 8, .int .i64 0, .int .i64 0, .int .i64 0, .int .i64 0] := by rw [hw3, hT]; exact Blk.new _ _ _
  have C23 : Chg [] w2 w3 := by rw [hw3]; exact (Chg.refl [] w2).alloc _
  have hnew : Calls Tryz.prog 6 #[.slice (some ⟨T, 0, none⟩) 1 1, .int .i64 (m : Int)] w3 fun x w' =>
      ∃ B oB S oS c, x = .returned (.tuple #[.pointer (some ⟨B, oB, none⟩), .int .i64 0]) ∧ Chg [T] w3 w' ∧ (B = T ∨ w3.heap.size ≤ B) ∧ (S = T ∨ w3.heap.size ≤ S) ∧ 1 ≤ c ∧ PlAt w' B oB S oS c m (-1) (.slice none 0 0) 0 0 (-1) := new_ok (Pre.of_blk bT3) HM.out.1 HM.out.2
  have HW3 := hid hw3
  have HT := hid hT
  have HC3 := hid C23
  have HNEW := hid hnew
  clear hX hw2 bX2 C12 hT hw3 bT3 C23 hnew
  go_wp2_with fail
  rw [← HW2.out, ← HX.out]
  refine (HWI.out w2).mono ?_
  rintro e w2' ⟨rfl, rfl⟩
  go_wp2_with fail
  rw [← HW3.out, ← HT.out]
  refine HNEW.out.mono ?_
  rintro e w4 ⟨B, oB, S, oS, c, rfl, C34, hB, hS, hc, hP4⟩
  obtain ⟨C1, hsong, n1, n2, n3⟩ := HS1.out
  have C13 : Chg [] w1 w3 := HB2.out.2.trans_same HC3.out
  have z1 := C1.size
  have z2 := HB2.out.2.size
  have z3 := HC3.out.size
  have z4 := C34.size
  have hTl := HT.out
  have ls := hsong.pk.lt
  have lD := hsong.fst.lt
  have lE := hsong.snd.lt
  have lB := hP4.pl.lt
  have lS := hP4.st.lt
  have hfix : FullFix w4 sb D E B S := by
    refine ⟨fun x hx => ?_, hP4.ne, ⟨?_, ?_⟩, ⟨?_, ?_⟩, ⟨?_, ?_⟩⟩
    · simp only [List.mem_cons, List.not_mem_nil, or_false] at hx
      rcases hx with rfl | rfl | rfl | rfl | rfl <;> omega
    all_goals (rcases hB with rfl | hB <;> rcases hS with rfl | hS <;> omega)
  have hat : FullAt w4 sb so D oD cD E oE cE B oB S oS c m 0 w4 :=
    ⟨.slice none 0 0, [], [], hP4, OwnK.nil _ _ _, rfl, by simp, by simp, by simp, (hsong.chg C13 (by simp) (by simp) (by simp)).chg C34 (by simp; omega) (by simp; omega) (by simp; omega), Chg.refl _ _⟩
  have C04 : Chg [] w w4 := (C1.trans_same C13).trans C34 (fun x hx => .inr (by simp at hx; omega))
  have hBS : w.heap.size ≤ B ∧ w.heap.size ≤ S := by rcases hB with rfl | hB <;> rcases hS with rfl | hS <;> omega
  have HFX := hid hfix
  have HAT := hid hat
  have HC4 := hid (And.intro C04 hBS)
  clear C1 hsong C13 z1 z2 z3 z4 hTl ls lD lE lB lS hfix hat C04 C34 hB hS hP4 HW2 HX HB2 HW3 HT HC3 HNEW hBS
  clear x0 x1 x2 x3 x4 x5 x6 x7 x8 x9
  obtain ⟨m3, hm3⟩ : ∃ m3 : Nat, m3 = m + 3 := ⟨_, rfl⟩
  have e3 : (m : Int) + 3 = (m3 : Int) := by omega
  have e3w : IntKind.i64.wrap (m3 : Int) = (m3 : Int) := wrap_small (by have := HM.out.2; omega) (by have := HM.out.2; omega)
  have HM3 := hid hm3
  clear hm3
  go_wp2_with fail
  go_loopg [10, 11] m3 (fun j v10 v11 wr => ∃ k : Nat, k + j = m3 ∧ v10 = .int .i64 (k : Int) ∧ FullAt w4 sb so D oD cD E oE cE B oB S oS c m (min k m) wr)
  case atStart => exact ⟨0, by omega, rfl, by rw [Nat.zero_min]; exact HAT.out⟩
  case round =>
    obtain ⟨k, hk, rfl, hat⟩ := hrel
    rcases gk with _ | j
    · obtain rfl : k = m3 := by omega
      have t1 : decide (k < k) = false := by simp
      have t2 : decide ((k : Int) < (k : Int)) = false := by simp
      rw [Nat.min_eq_right (by have := HM3.out; omega)] at hat
      obtain ⟨Q, F, ws, hP, hO, hl, hw, hnd, hFn, hsong, hC⟩ := hat.ex
      obtain ⟨G, cap, rfl, rfl, hQ⟩ := OwnK.queue hO hl HM.out.1
      have hG := hFn G (by simp)
      have ltw : ∀ x ∈ [sb, D, E, B, S], x < w4.heap.size := HFX.out.lt
      have hrf : RunFix wr (ws.map (·.1)) B S G := by
        have zz := hC.size
        have b1 := ltw B (by simp)
        have b2 := ltw S (by simp)
        have hD : ∀ y ∈ ws.map (·.1), w4.heap.size ≤ y ∧ y < wr.heap.size := fun y hy => by
          obtain ⟨u, hu, rfl⟩ := List.mem_map.1 hy
          exact ⟨(hw u hu).2, (hw u hu).1.pre.lt⟩
        refine ⟨fun x hx => ?_, HFX.out.bs, by omega, by omega, fun q => by have := (hD _ q).1; omega, fun q => by have := (hD _ q).1; omega, hG.2⟩
        simp only [List.mem_cons] at hx
        rcases hx with rfl | rfl | rfl | hx
        · exact hP.pl.lt
        · exact hP.st.lt
        · exact hQ.pre.lt
        · exact (hD x hx).2
      have hrun := run_ok (tt := (N : Int)) hP hQ (fun x hx => (hw x hx).1) hnd hrf HM.out.1 HM.out.2 (by omega) (by have := HN.out; omega)
      have hwt := waits_ok hP
      have HR := hid hrun
      have HS := hid (And.intro hsong (And.intro hC (And.intro hrf (And.intro hw hG))))
      have t3 : ((m : Int) == (m : Int)) = true := by simp
      clear hat hP hO hl hw hnd hFn hsong hC hQ hG ltw hrf hrun
      go_wp2_with fail
      refine hwt.mono ?_
      rintro e w6 ⟨rfl, rfl⟩
      clear hwt
      go_wp2_with fail
      refine HR.out.mono ?_
      rintro e w7 ⟨v5, rfl, hE⟩
      obtain ⟨A, capO, g7, capQ, s7, rfl, hP7, hQ7, hC7⟩ := hE.ex
      clear hE
      obtain ⟨L, hL⟩ : ∃ L, L = m + if 2 ≤ (N : Int) then 1 else 0 := ⟨_, rfl⟩
      obtain ⟨st, hst⟩ : ∃ st, st = starveI (N : Int) := ⟨_, rfl⟩
      obtain ⟨m1, hm1⟩ : ∃ m1 : Nat, m1 = m + 1 := ⟨_, rfl⟩
      have f1 : (m : Int) + 1 = (m1 : Int) := by omega
      have f1w : IntKind.i64.wrap (m1 : Int) = (m1 : Int) := wrap_small (by omega) (by have := HM.out.2; omega)
      have f2 : (m1 : Int) - st = (L : Int) := by
        rw [hst, hL, hm1]
        unfold starveI
        split <;> omega
      have f2w : IntKind.i64.wrap (L : Int) = (L : Int) := wrap_small (by omega) (by have := HM.out.2; rw [hL]; split <;> omega)
      have t4 : ((L : Int) == (L : Int)) = true := by simp
      have hstar := starving_ok (N : Int) w7
      rw [← hst] at hstar
      rw [← hL]
      obtain ⟨hsong, hC, hrf, hw, hG⟩ := HS.out
      have hDs : ∀ y ∈ ws.map (·.1), w4.heap.size ≤ y := fun y hy => by
        obtain ⟨u, hu, rfl⟩ := List.mem_map.1 hy
        exact (hw u hu).2
      have ltw : ∀ x ∈ [sb, D, E, B, S], x < w4.heap.size := HFX.out.lt
      have lsb := ltw sb (by simp)
      have lD := ltw D (by simp)
      have lE := ltw E (by simp)
      have nsd : ∀ y, y < w4.heap.size → y ≠ B → y ≠ S → y ∉ B :: S :: ws.map (·.1) := fun y a1 a2 a3 q => by
        simp only [List.mem_cons] at q
        rcases q with q | q | q
        · exact a2 q
        · exact a3 q
        · have := hDs y q
          omega
      have hsong7 := hsong.chg hC7 (nsd sb lsb HFX.out.sb.1.symm HFX.out.sb.2.symm) (nsd D lD HFX.out.sd.1 HFX.out.sd.2) (nsd E lE HFX.out.se.1 HFX.out.se.2)
      obtain ⟨y0, y1, y2, y3, y4, y5⟩ := hsong7.two
      have hwt := waits_ok hP7
      obtain ⟨M, hM⟩ : ∃ M, m = M + 1 := ⟨m - 1, by have := HM.out.1; omega⟩
      obtain ⟨z, hz, hzr⟩ := hQ7.room
      have hlast : Calls Tryz.prog 7 #[.pointer (some ⟨B, oB, none⟩), .agg #[.int .i64 0, .int .i64 2, .int .i64 2, .bool true, .bool false, .slice (some ⟨E, oE, none⟩) 15 cE]] w7 fun x w' => x = .returned (.int .i64 0) ∧ Chg [E, B, S, G] w7 w' :=
        last_ok (k := M) (by rw [← hM]; exact hP7) hQ7.pre hz hzr hsong7.snd HFX.out.se.1 HFX.out.se.2 (by have := hG.1; omega) HFX.out.bs hrf.bg hrf.sg
      have C07 : Chg [] w w7 ∧ (∀ x ∈ [E, B, S, G], w.heap.size ≤ x) := by
        obtain ⟨c04, cB, cS⟩ := HC4.out
        obtain ⟨_, _, nS, nD, nE⟩ := HS1.out
        have zz := c04.size
        have c0r : Chg [] w wr := c04.trans hC (fun x hx => by simp at hx; rcases hx with rfl | rfl <;> exact .inr (by assumption))
        refine ⟨c0r.trans hC7 (fun x hx => ?_), fun x hx => ?_⟩
        · simp only [List.mem_cons] at hx
          rcases hx with rfl | rfl | hx
          · exact .inr cB
          · exact .inr cS
          · exact .inr (Nat.le_trans zz (hDs x hx))
        · simp only [List.mem_cons, List.not_mem_nil, or_false] at hx
          rcases hx with rfl | rfl | rfl | rfl
          · exact nE
          · exact cB
          · exact cS
          · exact Nat.le_trans zz hG.1
      have HWT := hid hwt
      have HST := hid hstar
      have HLA := hid hlast
      have HC7 := hid C07
      clear hP7 hQ7 hC7 hL hst hm1 hstar hsong hC hrf hw hG hDs ltw lsb lD lE nsd hsong7 hwt hM hz hzr hlast C07 HS HR
      go_wp2_with fail
      refine HST.out.mono ?_
      rintro e w8 ⟨rfl, rfl⟩
      go_wp2_with fail
      refine HWT.out.mono ?_
      rintro e w8 ⟨rfl, rfl⟩
      go_wp2_with fail
      refine HLA.out.mono ?_
      rintro e w8 ⟨rfl, C78⟩
      have C08 := hid (HC7.out.1.trans C78 fun x hx => .inr (HC7.out.2 x hx))
      clear C78 y0 y1 y2 y3 y4 y5
      go_wp2_with fail
      refine (pknown_ok w8).mono ?_
      rintro e w9 ⟨rfl, C89⟩
      have C09 := hid (C08.out.trans_same C89)
      clear C89
      go_wp2_with fail
      go_ret
      exact ⟨rfl, C09.out⟩
    · have t1 : decide (k < m3) = true := by simp; omega
      have t2 : decide ((k : Int) < (m3 : Int)) = true := by simp; omega
      obtain ⟨k1, hk1⟩ : ∃ k1 : Nat, k1 = k + 1 := ⟨_, rfl⟩
      have e4 : (k : Int) + 1 = (k1 : Int) := by omega
      have e4w : IntKind.i64.wrap (k1 : Int) = (k1 : Int) := wrap_small (by omega) (by have := HM.out.2; have := HM3.out; omega)
      have HK := hid (And.intro hk hk1)
      obtain ⟨_, _, _, _, _, _, _, _, _, hsong, _⟩ := hat.ex
      obtain ⟨y0, y1, y2, y3, y4, y5⟩ := hsong.one
      by_cases hkm : k < m
      · have hput := full_put (w := wr) (so := so) (oD := oD) (cD := cD) (oE := oE) (cE := cE) (o := oB) (oS := oS) (c := c) (m := m) HFX.out (q := k) (by have q := hat; rw [Nat.min_eq_left (Nat.le_of_lt hkm)] at q; exact q) hkm HM.out.2
        have t3 : decide (k < m) = true := decide_eq_true hkm
        have t4 : decide ((k : Int) < (m : Int)) = true := by simp; omega
        have HKM := hid hkm
        clear hk hk1 hsong hat hkm
        go_wp2_with fail
        refine hput.mono ?_
        rintro e w6 ⟨rfl, hat6⟩
        have H6 := hid hat6
        clear hat6 hput y0 y1 y2 y3 y4 y5
        go_wp2_with fail
        go_roundg j
        case measure => omega
        case rel => exact ⟨k1, by have := HK.out; omega, rfl, by rw [show min k1 m = k + 1 by have := HK.out.2; have := HKM.out; omega]; exact H6.out⟩
      · have hput := full_not (w := wr) (so := so) (oD := oD) (cD := cD) (oE := oE) (cE := cE) (o := oB) (oS := oS) (c := c) (m := m) HFX.out (q := m) (by have q := hat; rw [Nat.min_eq_right (Nat.le_of_not_lt hkm)] at q; exact q) (Nat.le_refl _)
        have t3 : decide (k < m) = false := decide_eq_false hkm
        have t4 : decide ((k : Int) < (m : Int)) = false := by simp; omega
        have HKM := hid (Nat.le_of_not_lt hkm)
        clear hk hk1 hsong hat hkm
        go_wp2_with fail
        refine hput.mono ?_
        rintro e w6 ⟨rfl, hat6⟩
        have H6 := hid hat6
        clear hat6 hput y0 y1 y2 y3 y4 y5
        go_wp2_with fail
        go_roundg j
        case measure => omega
        case rel => exact ⟨k1, by have := HK.out; omega, rfl, by rw [show min k1 m = m by have := HK.out.2; have := HKM.out; omega]; exact H6.out⟩
end Go.Proofs.YtacmaphhbbadjaaGreatDoor
