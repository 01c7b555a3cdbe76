/- packages kinorakeep2, kinoraref24 and kinoralaw27 by their contracts: New, drawn, Ints, Wrap, Side, Depth. -/
import Derived.Test.YtpkplhmdnjdmoaaGreatDoorMg45
import Derived.Test.YtpkplhmdnjdmoaaGreatDoorMg19
set_option linter.unusedVariables false
set_option linter.unusedSimpArgs false
namespace Go.Proofs.YtpkplhmdnjdmoaaGreatDoor
set_option linter.unusedSimpArgs false
set_option linter.unusedVariables false
open Go.RowKit

set_option maxRecDepth 100000 in
set_option maxHeartbeats 1000000 in
theorem drawn_tp (w : World) (b cap at_ : Nat) (A : Option Addr) (L : List Int) (h : IsTp w b A cap L at_) :
    Calls Tryz.prog 13 #[.pointer (some ⟨b, 0, none⟩)] w fun e w' => ∃ (v : Value) (g : Nat) (l : List Int) (at' W H d : Nat), e = .returned (.tuple #[v, .int .i64 (W : Int), .int .i64 (H : Int), .int .i64 (d : Int)]) ∧ Row w' 3 v g (l.map vi) ∧ l.length = W * H ∧ SmpOk d l ∧ IsTp w' b A cap L at' ∧ Chg [b] w w' ∧ w.heap.size ≤ g ∧ 1 ≤ W ∧ W ≤ 16 ∧ 1 ≤ H ∧ H ≤ 16 ∧ 1 ≤ d ∧ d ≤ 16 := by
  have hn := next_tp w b cap at_ 16 A L h (by omega) (by omega)
  clear h
  go_enter Tryz.func13, Tryz.ntmps13
  go_wp2_with fail
  refine hn.mono ?_
  rintro e w1 ⟨W0, a1, rfl, hW, h1, ch1⟩
  have hn2 := next_tp w1 b cap a1 16 A L h1 (by omega) (by omega)
  clear hn h1
  obtain ⟨W, hWW⟩ : ∃ W, W = W0 + 1 := ⟨_, rfl⟩
  have eW : (1 : Int) + (W0 : Int) = (W : Int) := by omega
  have HA1 : Hid (1 ≤ W ∧ W ≤ 16) := hid (by omega)
  have hWb : W ≤ 16 := by omega
  clear hWW
  go_wp2_with fail
  refine hn2.mono ?_
  rintro e w2 ⟨H0, a2, rfl, hH, h2, ch2⟩
  have hn3 := depth_tp w2 b cap a2 A L h2
  clear hn2 h2
  obtain ⟨H, hHH⟩ : ∃ H, H = H0 + 1 := ⟨_, rfl⟩
  have eH : (1 : Int) + (H0 : Int) = (H : Int) := by omega
  have HA2 : Hid (1 ≤ H ∧ H ≤ 16) := hid (by omega)
  have hHb : H ≤ 16 := by omega
  clear hHH
  go_wp2_with fail
  refine hn3.mono ?_
  rintro e w3 ⟨d, a3, rfl, hd0, hd1, h3, ch3⟩
  have hn4 := plane_tp w3 b cap a3 W H d A L h3 HA1.out.1 (by have := HA1.out; omega) HA2.out.1 (by have := HA2.out; omega) hd0 hd1
  have ch13 := (ch1.trans_same ch2).trans_same ch3
  have HCH := hid ch13
  have hsz := hid ch13.size
  clear hn3 h3 ch1 ch2 ch3 ch13
  go_wp2_with fail
  refine hn4.mono ?_
  rintro e w4 ⟨v, g, l, a4, rfl, hrow, hll, hsm, h4, ch4, hg⟩
  have HLL := hid hll
  clear hll hn4
  go_wp2
  refine bodyPost_ret (v := .tuple #[v, .int .i64 (W : Int), .int .i64 (H : Int), .int .i64 (d : Int)]) (by simp [results, Tryz.results13, go_sem]) rfl ?_
  exact ⟨v, g, l, a4, W, H, d, rfl, hrow, HLL.out, hsm, h4, HCH.out.trans_same ch4, by have := hsz.out; omega, HA1.out.1, HA1.out.2, HA2.out.1, HA2.out.2, hd0, hd1⟩

set_option maxRecDepth 100000 in
theorem side24_yes (c : Nat) (w : World) (h0 : 1 ≤ c) (h1 : c ≤ 64) : Calls Tryz.prog 36 #[.int .i64 c] w fun e w' => e = .returned (.bool true) ∧ w = w' := by
  have t1 : decide ((1 : Int) ≤ (c : Int)) = true := decide_eq_true (by omega)
  have t2 : decide ((c : Int) ≤ 64) = true := decide_eq_true (by omega)
  go_enter Tryz.func36, Tryz.ntmps36
  go_wp2
  go_ret
  exact ⟨rfl, rfl⟩
set_option maxRecDepth 100000 in
theorem depth24_yes (c : Nat) (w : World) (h0 : 1 ≤ c) (h1 : c ≤ 16) : Calls Tryz.prog 63 #[.int .i64 c] w fun e w' => e = .returned (.bool true) ∧ w = w' := by
  have t1 : decide ((1 : Int) ≤ (c : Int)) = true := decide_eq_true (by omega)
  have t2 : decide ((c : Int) ≤ 16) = true := decide_eq_true (by omega)
  go_enter Tryz.func63, Tryz.ntmps63
  go_wp2
  go_ret
  exact ⟨rfl, rfl⟩
set_option maxRecDepth 100000 in
set_option maxHeartbeats 1000000 in
theorem wrap24_ok (v : Int) (d : Nat) (w : World) (h0 : 1 ≤ d) (h1 : d ≤ 16) : Calls Tryz.prog 27 #[.int .i64 v, .int .i64 d] w fun e w' => e = .returned (.int .i64 (wrapI v d)) ∧ w = w' := by
  obtain ⟨hp0, hp1⟩ := pow_d h0 h1
  have hm := band_mask v (i := d) (by omega)
  have hdp := depth24_yes d w h0 h1
  have HM := hid hm
  clear hm
  go_enter Tryz.func27, Tryz.ntmps27
  go_wp2_with fail
  refine hdp.mono ?_
  rintro e w1 ⟨rfl, rfl⟩
  go_wp2
  go_ret
  exact ⟨congrArg (fun z => Ending.returned (.int .i64 z)) HM.out, rfl⟩

set_option maxRecDepth 100000 in
theorem tape_new (w : World) (A : Option Addr) (cap : Nat) (L : List Int) (hc : Cells vi w A L) (hin : ∀ x ∈ L, In64 x) (hlen : L.length ≤ 9223372036854775807) :
    Calls Tryz.prog 14 #[.slice A L.length cap] w fun e w' => ∃ b, e = .returned (.pointer (some ⟨b, 0, none⟩)) ∧ IsTp w' b A cap L 0 ∧ Chg [] w w' ∧ w.heap.size ≤ b := by
  have HC := hid hc
  have HI := hid hin
  clear hc hin
  go_enter Tryz.func14, Tryz.ntmps14
  go_wp2
  go_ret
  have ch : Chg [] w (w.alloc (.cells #[.slice A L.length cap, .int .i64 0] 74)) := (Chg.refl [] w).alloc _
  exact ⟨w.heap.size, rfl, ⟨Blk.new w _ _, HC.out.chg ch (by simp), Apt.fresh HC.out (by simp), HI.out, Nat.zero_le _, hlen⟩, ch, Nat.le_refl _⟩

set_option maxRecDepth 100000 in
set_option maxHeartbeats 1000000 in
theorem ints_ok (w : World) (A B : Option Addr) (ca cb : Nat) (la lb : List Int) (hA : Cells vi w A la) (hB : Cells vi w B lb) (ha : la.length ≤ 4096) (hb : lb.length ≤ 4611686018427387904) :
    Calls Tryz.prog 33 #[.slice A la.length ca, .slice B lb.length cb] w fun e w' => e = .returned (.bool (decide (la = lb))) ∧ ∃ q, w' = w.drewN q := by
  by_cases hne : la.length = lb.length
  · obtain ⟨n, hn⟩ : ∃ n, n = la.length := ⟨_, rfl⟩
    have hn2 : lb.length = n := by rw [hn, hne]
    rw [hn2]
    rw [← hn] at ha ⊢
    have HA := hid hn
    have HB := hid hn2
    clear hn hn2 hne hb
    have t1 : ((n : Int) == (n : Int)) = true := by simp
    have t2 : ((n : Int) != (n : Int)) = false := by simp
    go_enter Tryz.func33, Tryz.ntmps33
    go_wp2_with fail
    go_loopg [5] n (fun j iv wr => ∃ i q : Nat, iv = .int .i64 (i : Int) ∧ i + j = n ∧ Hid (la.take i = lb.take i) ∧ wr = w.drewN q)
    case atStart => exact ⟨0, 0, rfl, by omega, hid rfl, rfl⟩
    case round =>
      obtain ⟨i, q, rfl, hij, HT, rfl⟩ := hrel
      rcases gk with _ | j
      · obtain rfl : i = n := by omega
        have ht := HT.out
        rw [List.take_of_length_le (by rw [← HA.out]; exact Nat.le_refl _), List.take_of_length_le (by rw [HB.out]; exact Nat.le_refl _)] at ht
        have hE : Hid (decide (la = lb) = true) := hid (decide_eq_true ht)
        clear ht
        go_wp2
        go_ret
        exact ⟨by rw [hE.out]; rfl, q, rfl⟩
      · have hin : i < n := by omega
        have hla : i < la.length := by rw [← HA.out]; exact hin
        have hlb : i < lb.length := by rw [HB.out]; exact hin
        obtain ⟨ga, oa, rfl, hcA⟩ := hA.at_ hla
        obtain ⟨gb, ob, rfl, hcB⟩ := hB.at_ hlb
        obtain ⟨x, hx⟩ : ∃ x, x = la[i] := ⟨_, rfl⟩
        obtain ⟨y, hy⟩ : ∃ y, y = lb[i] := ⟨_, rfl⟩
        rw [← hx] at hcA
        rw [← hy] at hcB
        have cA : w.cell? ⟨ga, oa + i, none⟩ = some (.int .i64 x) := hcA
        have cB : w.cell? ⟨gb, ob + i, none⟩ = some (.int .i64 y) := hcB
        have HX := hid hx
        have HY := hid hy
        have HLA := hid hla
        have HLB := hid hlb
        have HCA := hid hA
        have HCB := hid hB
        clear hx hy hcA hcB hA hB
        go_wp2
        go_quiet (fail)
        by_cases hxy : x = y
        · subst hxy
          have t5 : (x != x) = false := by simp
          go_wp2
          go_roundg j
          case measure => omega
          case rel =>
            refine ⟨i + 1, q + nq, by go_num, by omega, hid ?_, by first | rfl | rw [World.drewN_drewN]⟩
            rw [List.take_succ_eq_append_getElem HLA.out, List.take_succ_eq_append_getElem HLB.out, HT.out, ← HX.out, ← HY.out]
        · have t5 : (x != y) = true := by simpa using hxy
          have hd : decide (la = lb) = false := decide_eq_false fun e => hxy (by rw [HX.out, HY.out]; subst e; rfl)
          have HD := hid hd
          clear hd
          go_wp2
          go_ret
          exact ⟨by rw [HD.out]; rfl, q + nq, by first | rfl | rw [World.drewN_drewN]⟩
  · have hd : decide (la = lb) = false := decide_eq_false fun e => hne (by rw [e])
    rw [hd]
    have t1 : ((la.length : Int) == (lb.length : Int)) = false := by simpa using (by omega : ¬ (la.length : Int) = lb.length)
    have t2 : (la.length == lb.length) = false := by simpa using hne
    go_enter Tryz.func33, Tryz.ntmps33
    go_wp2
    go_ret
    exact ⟨rfl, 0, rfl⟩
end Go.Proofs.YtpkplhmdnjdmoaaGreatDoor
