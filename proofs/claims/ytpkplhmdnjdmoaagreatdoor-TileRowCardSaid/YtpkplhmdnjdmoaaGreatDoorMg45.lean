/- package kinorakeep2 by its contracts, the third part: Plane. -/
import Derived.Test.YtpkplhmdnjdmoaaGreatDoorMg44
import Derived.Deep.CutRange
set_option linter.unusedVariables false
set_option linter.unusedSimpArgs false
namespace Go.Proofs.YtpkplhmdnjdmoaaGreatDoor
set_option linter.unusedSimpArgs false
set_option linter.unusedVariables false
open Go.RowKit

theorem plane_round {w3 wx w4 : World} {b cap a2 d P r i j n rb s : Nat} {A : Option Addr} {L : List Int} {l : List Int} {F : List Nat} {g2 cap2 : Nat} {o : Obj}
    (hrw : IsRw wx rb s) (htp : IsTp wx b A cap L a2) (hch : Chg [rb] w3 wx) (hF : ∀ x ∈ F, rb < x) (hll : l.length = i) (hsm : SmpOk d l) (hrP : r < P) (hP : P = 2 ^ d)
    (hsz : w3.heap.size ≤ wx.heap.size) (hs3 : w3.heap.size = rb + 1) (hb : b < rb) (hap : Apt A L F) (hij : i + (j + 1) = n)
    (hr4 : Row w4 3 (.slice (some ⟨g2, 0, none⟩) (i + 1) cap2) g2 (l.map vi ++ [.int .i64 (r : Int)])) (gr4 : Grow F [g2] (wx.alloc o) w4) :
    ∃ (i' s' : Nat) (l' : List Int) (F' : List Nat), Value.int .i64 ((i : Int) + 1) = .int .i64 (i' : Int) ∧ i' + j = n ∧ Own w4 3 (.slice (some ⟨g2, 0, none⟩) (i + 1) cap2) F' (l'.map vi) ∧ l'.length = i' ∧ Hid (SmpOk d l') ∧ IsRw w4 rb s' ∧ (∀ x ∈ F', rb < x) ∧ IsTp w4 b A cap L a2 ∧ Chg [rb] w3 w4 := by
  have hch4 : Chg F wx w4 := ((Chg.refl [] wx).alloc o).mono (by simp) |>.trans_same gr4.chg
  have hrbF : rb ∉ F := fun hm => by have := hF rb hm; omega
  have hbF : b ∉ F := fun hm => by have := hF b hm; omega
  refine ⟨i + 1, s, l ++ [(r : Int)], [g2], by simp, by omega, ?_, by simp [hll], ?_, ⟨hrw.1.chg hch4 hrbF, hrw.2⟩, ?_, ?_, ?_⟩
  · have := hr4.toOwn
    simpa [vi] using this
  · refine hid ?_
    intro z hz
    rcases List.mem_append.1 hz with h1 | h1
    · exact hsm z h1
    · simp at h1
      subst h1
      have e : (2 : Int) ^ d = (P : Int) := by rw [hP]; simp
      rw [e]
      omega
  · intro y hy
    simp at hy
    subst hy
    rcases gr4.new y (by simp) with h1 | h1
    · exact hF y h1
    · simp at h1
      omega
  · exact htp.same hch4 hbF hap
  · exact hch.trans hch4 fun x hx => .inr (by have := hF x hx; omega)

set_option maxRecDepth 100000 in
set_option maxHeartbeats 4000000 in
theorem plane_tp (w : World) (b cap at_ W H d : Nat) (A : Option Addr) (L : List Int) (h : IsTp w b A cap L at_) (hw0 : 1 ≤ W) (hw1 : W ≤ 64) (hh0 : 1 ≤ H) (hh1 : H ≤ 64) (h0 : 1 ≤ d) (h1 : d ≤ 16) :
    Calls Tryz.prog 39 #[.pointer (some ⟨b, 0, none⟩), .int .i64 W, .int .i64 H, .int .i64 d] w fun e w' => ∃ (v : Value) (g : Nat) (l : List Int) (at' : Nat), e = .returned v ∧ Row w' 3 v g (l.map vi) ∧ l.length = W * H ∧ SmpOk d l ∧ IsTp w' b A cap L at' ∧ Chg [b] w w' ∧ w.heap.size ≤ g := by
  have hn7 := next_tp w b cap at_ 7 A L h (by omega) (by omega)
  obtain ⟨n, hn⟩ : ∃ n, n = W * H := ⟨_, rfl⟩
  have hnI : (W : Int) * (H : Int) = (n : Int) := by rw [hn]; simp
  have hn4 : n ≤ 4096 := by rw [hn]; exact Nat.mul_le_mul hw1 hh1
  have hn1 : 1 ≤ n := by rw [hn]; exact Nat.mul_pos hw0 hh0
  have hnW : n ≤ 64 * W := by rw [hn, Nat.mul_comm]; exact Nat.mul_le_mul_right W hh1
  obtain ⟨P, hP⟩ : ∃ P, P = 2 ^ d := ⟨_, rfl⟩
  have hPI : (2 : Int) ^ d = (P : Int) := by rw [hP]; simp
  have hP0 : 1 ≤ P := by rw [hP]; exact Nat.two_pow_pos d
  have hP1 : P ≤ 65536 := by rw [hP]; exact Nat.pow_le_pow_right (n := 2) (by decide) h1
  have hPne : (P : Int) ≠ 0 := by omega
  have hWne : (W : Int) ≠ 0 := by omega
  have HP := hid hP
  have HN := hid hn
  have hbl := h.blk.lt
  rw [← hn]
  clear hn hP h
  go_enter Tryz.func39, Tryz.ntmps39
  go_wp2_with fail
  refine hn7.mono ?_
  rintro e w1 ⟨kd, a1, rfl, hkd, htp1, ch1⟩
  have hn20 := next_tp w1 b cap a1 1048576 A L htp1 (by omega) (by omega)
  clear hn7 htp1
  go_wp2_with fail
  refine hn20.mono ?_
  rintro e w2 ⟨sd, a2, rfl, hsd, htp2, ch2⟩
  obtain ⟨rb, hrb⟩ : ∃ rb, rb = w2.heap.size := ⟨_, rfl⟩
  obtain ⟨w3, hw3⟩ : ∃ w3, w3 = w2.alloc (.cells #[.int .i64 (sd : Int)] 113) := ⟨_, rfl⟩
  have hrw : IsRw w3 rb sd := ⟨by rw [hw3, hrb]; exact Blk.new w2 _ _, by omega⟩
  have HAF : Hid (∀ F : List Nat, (∀ x ∈ F, rb < x) → Apt A L F) := hid (fun F hF => Apt.fresh htp2.cells (fun x hx => by have := hF x hx; omega))
  have HAP : Hid (Apt A L [rb]) := hid (Apt.fresh htp2.cells (by simp; omega))
  have htp3 : IsTp w3 b A cap L a2 := htp2.fresh (by rw [hw3]; exact (Chg.refl [] w2).alloc _)
  have ch12 := ch1.trans_same ch2
  have hs2 := ch12.size
  have hch3 : Chg [b] w w3 := by rw [hw3]; exact ch12.alloc _
  have hrbb : rb ≠ b := by have := htp2.blk.lt; omega
  have HRBB : Hid (b < rb) := hid (by have := htp2.blk.lt; omega)
  have hs3 : w3.heap.size = rb + 1 := by rw [hw3, hrb]; simp
  have HW3 := hid hw3
  have HRB := hid hrb
  have HS3 := hid hs3
  have hrbw : w.heap.size ≤ rb := by omega
  clear hn20 htp2 ch1 ch2 ch12 hw3 hrb hs3
  go_wp2_with fail
  rw [← HW3.out, ← HRB.out]
  go_loopg [13, 14, 15, 16, 17] n (fun j vo vi' v15 v16 v17 wr => ∃ (i s : Nat) (l : List Int) (F : List Nat), vi' = .int .i64 (i : Int) ∧ i + j = n ∧ Own wr 3 vo F (l.map vi) ∧ l.length = i ∧ Hid (SmpOk d l) ∧ IsRw wr rb s ∧ (∀ x ∈ F, rb < x) ∧ IsTp wr b A cap L a2 ∧ Chg [rb] w3 wr)
  case atStart => exact ⟨0, sd, [], [], rfl, by omega, Own.nil _ _, rfl, hid (by intro s hs; simp at hs), hrw, by simp, htp3, Chg.refl _ _⟩
  case round =>
    clear hrw htp3
    obtain ⟨i, s, l, F, rfl, hij, hown, hll, HSM, hrw, hF, htp, hch⟩ := hrel
    obtain ⟨Ao, co, rfl, hco, hcom, _⟩ := hown.open_map
    rcases gk with _ | j
    · obtain rfl : i = n := by omega
      have hchw : Chg [b] w wr := hch3.trans hch (fun x hx => by rw [List.mem_singleton.1 hx]; exact .inr hrbw)
      rcases hown.cases with ⟨_, hnil, _⟩ | ⟨g, hrow, rfl⟩
      · exfalso
        have := congrArg List.length hnil
        rw [List.length_map] at this
        simp at this
        rw [this] at hll
        simp at hll
        omega
      have hgF := hF g (by simp)
      clear hown hF
      go_wp2
      go_ret
      exact ⟨_, g, l, a2, rfl, hrow, hll, HSM.out, htp, hchw, by omega⟩
    · have hin : i < n := by omega
      obtain ⟨x, hx⟩ : ∃ x, x = i % W := ⟨_, rfl⟩
      obtain ⟨y, hy⟩ : ∃ y, y = i / W := ⟨_, rfl⟩
      have hx64 : x < 64 := by have := Nat.mod_lt i (show W > 0 by omega); omega
      have hy64 : y < 64 := by rw [hy]; exact Nat.div_lt_of_lt_mul (by rw [Nat.mul_comm]; omega)
      have ex1 : (i : Int) % (W : Int) = (x : Int) := by rw [hx]; simp
      have ey1 : (i : Int) / (W : Int) = (y : Int) := by rw [hy]; simp
      have ex2 : (i : Int).tmod (W : Int) = (x : Int) := by rw [Int.tmod_eq_emod_of_nonneg (by omega)]; exact ex1
      have ey2 : (i : Int).tdiv (W : Int) = (y : Int) := by rw [Int.tdiv_eq_ediv_of_nonneg (by omega)]; exact ey1
      have hnx := fun n (a : 1 ≤ n) (b : n ≤ 1073741824) w' (hc : Chg [] wr w') => next_rw w' rb s n ⟨hrw.1.chg hc (by simp), hrw.2⟩ a b
      have HNX := hid hnx
      have HTP := hid htp
      have HRW := hid hrw
      have HOWN : Hid (Own wr 3 (.slice Ao i co) F (l.map vi)) := hid (by rw [← hll]; exact hown)
      rw [hll]
      have HLL := hid hll
      have HFF := hid hF
      have HCH := hid hch
      clear hx hy hnx htp hrw hown hF hch hll hco
      go_wp2
      go_quiet (fail)
      obtain ⟨p3, hp3⟩ : ∃ q, q = x / 3 := ⟨_, rfl⟩
      obtain ⟨p4, hp4⟩ : ∃ q, q = y / 4 := ⟨_, rfl⟩
      have hp3b : p3 < 64 := by omega
      have hp4b : p4 < 64 := by omega
      have x3 : (x : Int) / 3 = (p3 : Int) := by omega
      have y4 : (y : Int) / 4 = (p4 : Int) := by omega
      have x3t : (x : Int).tdiv 3 = (p3 : Int) := by rw [Int.tdiv_eq_ediv_of_nonneg (by omega)]; exact x3
      have y4t : (y : Int).tdiv 4 = (p4 : Int) := by rw [Int.tdiv_eq_ediv_of_nonneg (by omega)]; exact y4
      obtain ⟨xx, hxx⟩ : ∃ q, q = x * x := ⟨_, rfl⟩
      obtain ⟨yy, hyy⟩ : ∃ q, q = y * y := ⟨_, rfl⟩
      have hxxb : xx ≤ 4096 := by rw [hxx]; exact Nat.mul_le_mul (Nat.le_of_lt hx64) (Nat.le_of_lt hx64)
      have hyyb : yy ≤ 4096 := by rw [hyy]; exact Nat.mul_le_mul (Nat.le_of_lt hy64) (Nat.le_of_lt hy64)
      have hxxI : (x : Int) * (x : Int) = (xx : Int) := by rw [hxx]; simp
      have hyyI : (y : Int) * (y : Int) = (yy : Int) := by rw [hyy]; simp
      obtain ⟨p2, hp2⟩ : ∃ q, q = yy / 2 := ⟨_, rfl⟩
      have hp2b : p2 ≤ 4096 := by omega
      have y2 : (yy : Int) / 2 = (p2 : Int) := by omega
      have y2t : (yy : Int).tdiv 2 = (p2 : Int) := by rw [Int.tdiv_eq_ediv_of_nonneg (by omega)]; exact y2
      obtain ⟨mm, hmm⟩ : ∃ q, q = (x + 3 * y) % 5 := ⟨_, rfl⟩
      have hmb : mm < 5 := by omega
      have hmI : ((x : Int) + 3 * (y : Int)) % 5 = (mm : Int) := by omega
      have hmI2 : ((x : Int) + 3 * (y : Int)).tmod 5 = (mm : Int) := by rw [Int.tmod_eq_emod_of_nonneg (by omega)]; exact hmI
      clear hxx hyy hmm hp2 hp3 hp4
      obtain ⟨wy, hwy⟩ : ∃ wy, wy = wr.drewN nq := ⟨_, rfl⟩
      have HQ : Hid (Chg [rb] wr wy) := hid (by rw [hwy]; exact ((Chg.refl [] wr).drewN nq).mono (by simp))
      have HQN := fun n a b => HNX.out n a b wy (by rw [hwy]; exact (Chg.refl [] wr).drewN nq)
      have HRY : Hid (IsRw wy rb s) := hid (by rw [hwy]; exact ⟨HRW.out.1.drewN _, HRW.out.2⟩)
      have HQM := hid HQN
      rw [← hwy]
      clear HNX HRW HQN hwy
      rcases (by omega : kd = 0 ∨ kd = 1 ∨ kd = 2 ∨ kd = 3 ∨ kd = 4 ∨ kd = 5 ∨ kd = 6) with rfl | rfl | rfl | rfl | rfl | rfl | rfl
      · obtain ⟨v, rfl⟩ : ∃ v, v = sd := ⟨_, rfl⟩
        obtain ⟨r, hr⟩ : ∃ r, r = v % P := ⟨_, rfl⟩
        have hrP : r < P := by rw [hr]; exact Nat.mod_lt _ (by omega)
        have er1 : (v : Int) % (P : Int) = (r : Int) := by rw [hr]; simp
        have er2 : (v : Int).tmod (P : Int) = (r : Int) := by rw [Int.tmod_eq_emod_of_nonneg (by omega)]; exact er1
        have hchx : Chg [rb] wr wy := HQ.out
        have hown2 : Own wy 3 (.slice Ao i co) F (l.map vi) := HOWN.out.chg hchx (fun y hy => by have := HFF.out y hy; simp; omega)
        have HRW2 := HRY
        have hch2 := HCH.out.trans_same hchx
        have htp2 := HTP.out.same hchx (by simpa using hrbb.symm) HAP.out
        have HTP2 := hid htp2
        have HCH2 := hid hch2
        have HRP := hid hrP
        have HSZ := hid hch2.size
        clear hr hrP htp2 hchx hch2 HQM HTP HOWN HCH HQ HRY
        go_wp2_with (at_builtin; refine wpList_append_o1 rfl rfl int_elem rfl rfl (hown2.alloc _) (.int .i64 r) rfl ?c1 ?c2 ?c3 ?c4 ?_)
        case c1 => simp [go_sem]
        case c2 => rfl
        case c3 => rw [List.length_map, HLL.out]; omega
        case c4 => rw [List.length_map, HLL.out]; omega
        intro g2 cap2 w4 hr4 gr4
        rw [HLL.out] at hr4 ⊢
        go_wp2_with fail
        go_roundg j
        case measure => omega
        case rel => exact plane_round HRW2.out HTP2.out HCH2.out HFF.out HLL.out HSM.out HRP.out HP.out HSZ.out HS3.out HRBB.out (HAF.out F HFF.out) (by omega) hr4 gr4
      · have hc1 := HQM.out 65536 (by omega) (by omega)
        rw [show ((65536 : Nat) : Int) = 65536 from rfl] at hc1
        go_wp2_with fail
        refine hc1.mono ?_
        rintro e wz ⟨q, s1, rfl, hq, hr1, ch1⟩
        clear hc1
        obtain ⟨v, rfl⟩ : ∃ v, v = q := ⟨_, rfl⟩
        obtain ⟨r, hr⟩ : ∃ r, r = v % P := ⟨_, rfl⟩
        have hrP : r < P := by rw [hr]; exact Nat.mod_lt _ (by omega)
        have er1 : (v : Int) % (P : Int) = (r : Int) := by rw [hr]; simp
        have er2 : (v : Int).tmod (P : Int) = (r : Int) := by rw [Int.tmod_eq_emod_of_nonneg (by omega)]; exact er1
        have hchx : Chg [rb] wr wz := HQ.out.trans_same ch1
        have hown2 : Own wz 3 (.slice Ao i co) F (l.map vi) := HOWN.out.chg hchx (fun y hy => by have := HFF.out y hy; simp; omega)
        have HRW2 := hid hr1
        have hch2 := HCH.out.trans_same hchx
        have htp2 := HTP.out.same hchx (by simpa using hrbb.symm) HAP.out
        have HTP2 := hid htp2
        have HCH2 := hid hch2
        have HRP := hid hrP
        have HSZ := hid hch2.size
        clear hr hrP htp2 hchx hch2 HQM HTP HOWN HCH HQ HRY
        go_wp2_with (at_builtin; refine wpList_append_o1 rfl rfl int_elem rfl rfl (hown2.alloc _) (.int .i64 r) rfl ?c1 ?c2 ?c3 ?c4 ?_)
        case c1 => simp [go_sem]
        case c2 => rfl
        case c3 => rw [List.length_map, HLL.out]; omega
        case c4 => rw [List.length_map, HLL.out]; omega
        intro g2 cap2 w4 hr4 gr4
        rw [HLL.out] at hr4 ⊢
        go_wp2_with fail
        go_roundg j
        case measure => omega
        case rel => exact plane_round HRW2.out HTP2.out HCH2.out HFF.out HLL.out HSM.out HRP.out HP.out HSZ.out HS3.out HRBB.out (HAF.out F HFF.out) (by omega) hr4 gr4
      · have hc1 := HQM.out 3 (by omega) (by omega)
        rw [show ((3 : Nat) : Int) = 3 from rfl] at hc1
        go_wp2_with fail
        refine hc1.mono ?_
        rintro e wz ⟨q, s1, rfl, hq, hr1, ch1⟩
        clear hc1
        obtain ⟨v, hv⟩ : ∃ v, v = sd + 3 * x + 2 * y + q := ⟨_, rfl⟩
        have hvI : (sd : Int) + 3 * (x : Int) + 2 * (y : Int) + (q : Int) = (v : Int) := by omega
        have hvb : v < 1073741824 := by omega
        clear hv
        obtain ⟨r, hr⟩ : ∃ r, r = v % P := ⟨_, rfl⟩
        have hrP : r < P := by rw [hr]; exact Nat.mod_lt _ (by omega)
        have er1 : (v : Int) % (P : Int) = (r : Int) := by rw [hr]; simp
        have er2 : (v : Int).tmod (P : Int) = (r : Int) := by rw [Int.tmod_eq_emod_of_nonneg (by omega)]; exact er1
        have hchx : Chg [rb] wr wz := HQ.out.trans_same ch1
        have hown2 : Own wz 3 (.slice Ao i co) F (l.map vi) := HOWN.out.chg hchx (fun y hy => by have := HFF.out y hy; simp; omega)
        have HRW2 := hid hr1
        have hch2 := HCH.out.trans_same hchx
        have htp2 := HTP.out.same hchx (by simpa using hrbb.symm) HAP.out
        have HTP2 := hid htp2
        have HCH2 := hid hch2
        have HRP := hid hrP
        have HSZ := hid hch2.size
        clear hr hrP htp2 hchx hch2 HQM HTP HOWN HCH HQ HRY
        go_wp2_with (at_builtin; refine wpList_append_o1 rfl rfl int_elem rfl rfl (hown2.alloc _) (.int .i64 r) rfl ?c1 ?c2 ?c3 ?c4 ?_)
        case c1 => simp [go_sem]
        case c2 => rfl
        case c3 => rw [List.length_map, HLL.out]; omega
        case c4 => rw [List.length_map, HLL.out]; omega
        intro g2 cap2 w4 hr4 gr4
        rw [HLL.out] at hr4 ⊢
        go_wp2_with fail
        go_roundg j
        case measure => omega
        case rel => exact plane_round HRW2.out HTP2.out HCH2.out HFF.out HLL.out HSM.out HRP.out HP.out HSZ.out HS3.out HRBB.out (HAF.out F HFF.out) (by omega) hr4 gr4
      · have hc1 := HQM.out 5 (by omega) (by omega)
        rw [show ((5 : Nat) : Int) = 5 from rfl] at hc1
        go_wp2_with fail
        refine hc1.mono ?_
        rintro e wz ⟨q, s1, rfl, hq, hr1, ch1⟩
        clear hc1
        obtain ⟨v, hv⟩ : ∃ v, v = sd + q * 7 := ⟨_, rfl⟩
        have hvI : (sd : Int) + (q : Int) * 7 = (v : Int) := by omega
        have hvb : v < 1073741824 := by omega
        clear hv
        obtain ⟨r, hr⟩ : ∃ r, r = v % P := ⟨_, rfl⟩
        have hrP : r < P := by rw [hr]; exact Nat.mod_lt _ (by omega)
        have er1 : (v : Int) % (P : Int) = (r : Int) := by rw [hr]; simp
        have er2 : (v : Int).tmod (P : Int) = (r : Int) := by rw [Int.tmod_eq_emod_of_nonneg (by omega)]; exact er1
        have hchx : Chg [rb] wr wz := HQ.out.trans_same ch1
        have hown2 : Own wz 3 (.slice Ao i co) F (l.map vi) := HOWN.out.chg hchx (fun y hy => by have := HFF.out y hy; simp; omega)
        have HRW2 := hid hr1
        have hch2 := HCH.out.trans_same hchx
        have htp2 := HTP.out.same hchx (by simpa using hrbb.symm) HAP.out
        have HTP2 := hid htp2
        have HCH2 := hid hch2
        have HRP := hid hrP
        have HSZ := hid hch2.size
        clear hr hrP htp2 hchx hch2 HQM HTP HOWN HCH HQ HRY
        go_wp2_with (at_builtin; refine wpList_append_o1 rfl rfl int_elem rfl rfl (hown2.alloc _) (.int .i64 r) rfl ?c1 ?c2 ?c3 ?c4 ?_)
        case c1 => simp [go_sem]
        case c2 => rfl
        case c3 => rw [List.length_map, HLL.out]; omega
        case c4 => rw [List.length_map, HLL.out]; omega
        intro g2 cap2 w4 hr4 gr4
        rw [HLL.out] at hr4 ⊢
        go_wp2_with fail
        go_roundg j
        case measure => omega
        case rel => exact plane_round HRW2.out HTP2.out HCH2.out HFF.out HLL.out HSM.out HRP.out HP.out HSZ.out HS3.out HRBB.out (HAF.out F HFF.out) (by omega) hr4 gr4
      · obtain ⟨v, hv⟩ : ∃ v, v = sd + p3 * 11 + p4 := ⟨_, rfl⟩
        have hvI : (sd : Int) + (p3 : Int) * 11 + (p4 : Int) = (v : Int) := by omega
        have hvb : v < 1073741824 := by omega
        clear hv
        obtain ⟨r, hr⟩ : ∃ r, r = v % P := ⟨_, rfl⟩
        have hrP : r < P := by rw [hr]; exact Nat.mod_lt _ (by omega)
        have er1 : (v : Int) % (P : Int) = (r : Int) := by rw [hr]; simp
        have er2 : (v : Int).tmod (P : Int) = (r : Int) := by rw [Int.tmod_eq_emod_of_nonneg (by omega)]; exact er1
        have hchx : Chg [rb] wr wy := HQ.out
        have hown2 : Own wy 3 (.slice Ao i co) F (l.map vi) := HOWN.out.chg hchx (fun y hy => by have := HFF.out y hy; simp; omega)
        have HRW2 := HRY
        have hch2 := HCH.out.trans_same hchx
        have htp2 := HTP.out.same hchx (by simpa using hrbb.symm) HAP.out
        have HTP2 := hid htp2
        have HCH2 := hid hch2
        have HRP := hid hrP
        have HSZ := hid hch2.size
        clear hr hrP htp2 hchx hch2 HQM HTP HOWN HCH HQ HRY
        go_wp2_with (at_builtin; refine wpList_append_o1 rfl rfl int_elem rfl rfl (hown2.alloc _) (.int .i64 r) rfl ?c1 ?c2 ?c3 ?c4 ?_)
        case c1 => simp [go_sem]
        case c2 => rfl
        case c3 => rw [List.length_map, HLL.out]; omega
        case c4 => rw [List.length_map, HLL.out]; omega
        intro g2 cap2 w4 hr4 gr4
        rw [HLL.out] at hr4 ⊢
        go_wp2_with fail
        go_roundg j
        case measure => omega
        case rel => exact plane_round HRW2.out HTP2.out HCH2.out HFF.out HLL.out HSM.out HRP.out HP.out HSZ.out HS3.out HRBB.out (HAF.out F HFF.out) (by omega) hr4 gr4
      · obtain ⟨v, hv⟩ : ∃ v, v = sd + xx + p2 := ⟨_, rfl⟩
        have hvI : (sd : Int) + (xx : Int) + (p2 : Int) = (v : Int) := by omega
        have hvb : v < 1073741824 := by omega
        clear hv
        obtain ⟨r, hr⟩ : ∃ r, r = v % P := ⟨_, rfl⟩
        have hrP : r < P := by rw [hr]; exact Nat.mod_lt _ (by omega)
        have er1 : (v : Int) % (P : Int) = (r : Int) := by rw [hr]; simp
        have er2 : (v : Int).tmod (P : Int) = (r : Int) := by rw [Int.tmod_eq_emod_of_nonneg (by omega)]; exact er1
        have hchx : Chg [rb] wr wy := HQ.out
        have hown2 : Own wy 3 (.slice Ao i co) F (l.map vi) := HOWN.out.chg hchx (fun y hy => by have := HFF.out y hy; simp; omega)
        have HRW2 := HRY
        have hch2 := HCH.out.trans_same hchx
        have htp2 := HTP.out.same hchx (by simpa using hrbb.symm) HAP.out
        have HTP2 := hid htp2
        have HCH2 := hid hch2
        have HRP := hid hrP
        have HSZ := hid hch2.size
        clear hr hrP htp2 hchx hch2 HQM HTP HOWN HCH HQ HRY
        go_wp2_with (at_builtin; refine wpList_append_o1 rfl rfl int_elem rfl rfl (hown2.alloc _) (.int .i64 r) rfl ?c1 ?c2 ?c3 ?c4 ?_)
        case c1 => simp [go_sem]
        case c2 => rfl
        case c3 => rw [List.length_map, HLL.out]; omega
        case c4 => rw [List.length_map, HLL.out]; omega
        intro g2 cap2 w4 hr4 gr4
        rw [HLL.out] at hr4 ⊢
        go_wp2_with fail
        go_roundg j
        case measure => omega
        case rel => exact plane_round HRW2.out HTP2.out HCH2.out HFF.out HLL.out HSM.out HRP.out HP.out HSZ.out HS3.out HRBB.out (HAF.out F HFF.out) (by omega) hr4 gr4
      · obtain ⟨v, hv⟩ : ∃ v, v = sd + mm * 9 := ⟨_, rfl⟩
        have hvI : (sd : Int) + (mm : Int) * 9 = (v : Int) := by omega
        have hvb : v < 1073741824 := by omega
        clear hv
        obtain ⟨r, hr⟩ : ∃ r, r = v % P := ⟨_, rfl⟩
        have hrP : r < P := by rw [hr]; exact Nat.mod_lt _ (by omega)
        have er1 : (v : Int) % (P : Int) = (r : Int) := by rw [hr]; simp
        have er2 : (v : Int).tmod (P : Int) = (r : Int) := by rw [Int.tmod_eq_emod_of_nonneg (by omega)]; exact er1
        have hchx : Chg [rb] wr wy := HQ.out
        have hown2 : Own wy 3 (.slice Ao i co) F (l.map vi) := HOWN.out.chg hchx (fun y hy => by have := HFF.out y hy; simp; omega)
        have HRW2 := HRY
        have hch2 := HCH.out.trans_same hchx
        have htp2 := HTP.out.same hchx (by simpa using hrbb.symm) HAP.out
        have HTP2 := hid htp2
        have HCH2 := hid hch2
        have HRP := hid hrP
        have HSZ := hid hch2.size
        clear hr hrP htp2 hchx hch2 HQM HTP HOWN HCH HQ HRY
        go_wp2_with (at_builtin; refine wpList_append_o1 rfl rfl int_elem rfl rfl (hown2.alloc _) (.int .i64 r) rfl ?c1 ?c2 ?c3 ?c4 ?_)
        case c1 => simp [go_sem]
        case c2 => rfl
        case c3 => rw [List.length_map, HLL.out]; omega
        case c4 => rw [List.length_map, HLL.out]; omega
        intro g2 cap2 w4 hr4 gr4
        rw [HLL.out] at hr4 ⊢
        go_wp2_with fail
        go_roundg j
        case measure => omega
        case rel => exact plane_round HRW2.out HTP2.out HCH2.out HFF.out HLL.out HSM.out HRP.out HP.out HSZ.out HS3.out HRBB.out (HAF.out F HFF.out) (by omega) hr4 gr4
end Go.Proofs.YtpkplhmdnjdmoaaGreatDoor
