/- pic.Wrap, Fold; guess.distance, nearest, isPlane, areKinds by their contracts. -/
import Derived.Test.YtpkplhmdnjdmoaaGreatDoorMg06
import Derived.Test.YtpkplhmdnjdmoaaGreatDoorMg02
import Derived.Test.YtpkplhmdnjdmoaaGreatDoorMg20
set_option linter.unusedVariables false
set_option linter.unusedSimpArgs false
namespace Go.Proofs.YtpkplhmdnjdmoaaGreatDoor
set_option linter.unusedSimpArgs false
set_option linter.unusedVariables false
open Go.RowKit

theorem pow_d {d : Nat} (h0 : 1 ≤ d) (h1 : d ≤ 16) : (2 : Int) ≤ 2 ^ d ∧ (2 : Int) ^ d ≤ 65536 := by
  have e0 : (2 : Int) ^ 1 ≤ 2 ^ d := by
    have := Nat.pow_le_pow_right (n := 2) (by decide) h0
    exact_mod_cast this
  have e1 : (2 : Int) ^ d ≤ 2 ^ 16 := by
    have := Nat.pow_le_pow_right (n := 2) (by decide) h1
    exact_mod_cast this
  omega
theorem wrap_ok (v : Int) (d : Nat) (w : World) (h0 : 1 ≤ d) (h1 : d ≤ 16) : Calls Tryz.prog 45 #[.int .i64 v, .int .i64 d] w fun e w' => e = .returned (.int .i64 (wrapI v d)) ∧ w = w' := by
  have t1 : decide ((d : Int) < 1) = false := decide_eq_false (by omega)
  have t2 : decide ((16 : Int) < (d : Int)) = false := decide_eq_false (by omega)
  obtain ⟨hp0, hp1⟩ := pow_d h0 h1
  have hm := band_mask v (i := d) (by omega)
  have HM := hid hm
  clear hm
  go_enter Tryz.func45, Tryz.ntmps45
  go_wp2
  go_ret
  refine ⟨?_, rfl⟩
  first | exact congrArg (fun z => Ending.returned (.int .i64 z)) HM.out
theorem fold_ok (v : Int) (d : Nat) (w : World) (h0 : 1 ≤ d) (h1 : d ≤ 16) : Calls Tryz.prog 18 #[.int .i64 v, .int .i64 d] w fun e w' => e = .returned (.int .i64 (foldI v d)) ∧ w = w' := by
  have t1 : decide ((d : Int) < 1) = false := decide_eq_false (by omega)
  have t2 : decide ((16 : Int) < (d : Int)) = false := decide_eq_false (by omega)
  obtain ⟨hp0, hp1⟩ := pow_d h0 h1
  have hh := two_pow_half h0
  have hq0 := two_pow_pos' (d - 1)
  have hw := wrap_ok v d w h0 h1
  have hw0 := wrapI_lo v d
  have hw1 := wrapI_hi v d
  have hdef : foldI v d = if 2 ^ (d - 1) ≤ wrapI v d then wrapI v d - 2 ^ d else wrapI v d := rfl
  obtain ⟨u, hu⟩ : ∃ u, u = wrapI v d := ⟨_, rfl⟩
  rw [← hu] at hw hw0 hw1 hdef
  have HD := hid hdef
  have e1 : (2 : Int) ^ ((d : Int) - 1).toNat = 2 ^ (d - 1) := by congr 1; omega
  have hq1 : (2 : Int) ^ (d - 1) ≤ 32768 := by omega
  clear hdef hu hh
  by_cases hs : 2 ^ (d - 1) ≤ u
  · have t3 : decide ((2 : Int) ^ (d - 1) ≤ u) = true := by simpa using hs
    rw [if_pos hs] at HD
    go_enter Tryz.func18, Tryz.ntmps18
    go_wp2_with (go_at_call 45; refine hw.mono ?_; rintro e w' ⟨rfl, rfl⟩)
    go_ret
    rw [HD.out]
    exact ⟨rfl, rfl⟩
  · have t3 : decide ((2 : Int) ^ (d - 1) ≤ u) = false := by simpa using hs
    rw [if_neg hs] at HD
    go_enter Tryz.func18, Tryz.ntmps18
    go_wp2_with (go_at_call 45; refine hw.mono ?_; rintro e w' ⟨rfl, rfl⟩)
    go_ret
    rw [HD.out]
    exact ⟨rfl, rfl⟩
/-- A number far from the machine's ends. -/
def midP (x : Int) : Prop := -1152921504606846976 ≤ x ∧ x ≤ 1152921504606846976
theorem dist_ok (a b : Int) (w : World) (ha : midP a) (hb : midP b) : Calls Tryz.prog 85 #[.int .i64 a, .int .i64 b] w fun e w' => e = .returned (.int .i64 (distI a b)) ∧ w = w' := by
  obtain ⟨a1, a2⟩ := ha
  obtain ⟨b1, b2⟩ := hb
  by_cases h : a < b
  · have t1 : decide (a < b) = true := decide_eq_true h
    have hd : distI a b = b - a := by unfold distI; rw [if_pos h]
    have HD := hid hd
    clear hd
    go_enter Tryz.func85, Tryz.ntmps85
    go_wp2
    go_ret
    rw [HD.out]
    exact ⟨rfl, rfl⟩
  · have t1 : decide (a < b) = false := decide_eq_false h
    have hd : distI a b = a - b := by unfold distI; rw [if_neg h]
    have HD := hid hd
    clear hd
    go_enter Tryz.func85, Tryz.ntmps85
    go_wp2
    go_ret
    rw [HD.out]
    exact ⟨rfl, rfl⟩
set_option maxRecDepth 100000 in
set_option maxHeartbeats 1000000 in
theorem nearest_ok (t a b c : Int) (B : Nat) (cap : Nat) (w : World) (ht : midP t) (ha : midP a) (hb : midP b) (hc : midP c) (h0 : w.cell? ⟨B, 0, none⟩ = some (.int .i64 a)) (h1 : w.cell? ⟨B, 1, none⟩ = some (.int .i64 b)) (h2 : w.cell? ⟨B, 2, none⟩ = some (.int .i64 c)) :
    Calls Tryz.prog 131 #[.int .i64 t, .slice (some ⟨B, 0, none⟩) 3 cap] w fun e w' => e = .returned (.int .i64 (nearest3 t a b c)) ∧ w = w' := by
  obtain ⟨b1, hb1⟩ : ∃ b1, b1 = if distI b t < distI a t then b else a := ⟨_, rfl⟩
  have hdef : nearest3 t a b c = if distI c t < distI b1 t then c else b1 := by rw [hb1]; rfl
  have hmb1 : midP b1 := by rw [hb1]; split <;> assumption
  have ca := dist_ok a t w ha ht
  have cb := dist_ok b t w hb ht
  have cc := dist_ok c t w hc ht
  have cb1 := dist_ok b1 t w hmb1 ht
  have HD := hid hdef
  have HB := hid hb1
  obtain ⟨da, hda⟩ : ∃ x, x = distI a t := ⟨_, rfl⟩
  obtain ⟨db, hdb⟩ : ∃ x, x = distI b t := ⟨_, rfl⟩
  obtain ⟨dc, hdc⟩ : ∃ x, x = distI c t := ⟨_, rfl⟩
  obtain ⟨d1, hd1⟩ : ∃ x, x = distI b1 t := ⟨_, rfl⟩
  rw [← hda] at ca HB
  rw [← hdb] at cb HB
  rw [← hdc] at cc HD
  rw [← hd1] at cb1 HD
  clear hdef hb1 hda hdb hdc hd1 hmb1 ht ha hb hc
  go_enter Tryz.func131, Tryz.ntmps131
  go_wp2_with fail
  go_loopg [5, 13] 3 (fun j bv iv wr => w = wr ∧ ((j = 3 ∧ iv = .int .i64 0 ∧ bv = .int .i64 a) ∨ (j = 2 ∧ iv = .int .i64 1 ∧ bv = .int .i64 a) ∨ (j = 1 ∧ iv = .int .i64 2 ∧ bv = .int .i64 b1) ∨ (j = 0 ∧ iv = .int .i64 3 ∧ bv = .int .i64 (nearest3 t a b c))))
  case atStart => exact ⟨rfl, .inl ⟨rfl, rfl, rfl⟩⟩
  case round =>
    obtain ⟨rfl, hrel⟩ := hrel
    rcases hrel with ⟨rfl, rfl, rfl⟩ | ⟨rfl, rfl, rfl⟩ | ⟨rfl, rfl, rfl⟩ | ⟨rfl, rfl, rfl⟩
    · go_wp2_with (go_at_call 85; refine ca.mono ?_; rintro e w' ⟨rfl, rfl⟩)
      go_roundg 2
      case measure => omega
      case rel => exact ⟨rfl, .inr (.inl ⟨rfl, rfl, rfl⟩)⟩
    · by_cases hlt : db < da
      · have t1 : decide (db < da) = true := decide_eq_true hlt
        rw [if_pos hlt] at HB
        go_wp2_with (first | (go_at_call 85; ((with_reducible refine cb.mono ?_); rintro e w' ⟨rfl, rfl⟩)) | (go_at_call 85; ((with_reducible refine ca.mono ?_); rintro e w' ⟨rfl, rfl⟩)))
        go_roundg 1
        case measure => omega
        case rel => exact ⟨rfl, .inr (.inr (.inl ⟨rfl, rfl, by rw [HB.out]⟩))⟩
      · have t1 : decide (db < da) = false := decide_eq_false hlt
        rw [if_neg hlt] at HB
        go_wp2_with (first | (go_at_call 85; ((with_reducible refine cb.mono ?_); rintro e w' ⟨rfl, rfl⟩)) | (go_at_call 85; ((with_reducible refine ca.mono ?_); rintro e w' ⟨rfl, rfl⟩)))
        go_roundg 1
        case measure => omega
        case rel => exact ⟨rfl, .inr (.inr (.inl ⟨rfl, rfl, by rw [HB.out]⟩))⟩
    · by_cases hlt : dc < d1
      · have t1 : decide (dc < d1) = true := decide_eq_true hlt
        rw [if_pos hlt] at HD
        go_wp2_with (first | (go_at_call 85; ((with_reducible refine cc.mono ?_); rintro e w' ⟨rfl, rfl⟩)) | (go_at_call 85; ((with_reducible refine cb1.mono ?_); rintro e w' ⟨rfl, rfl⟩)))
        go_roundg 0
        case measure => omega
        case rel => exact ⟨rfl, .inr (.inr (.inr ⟨rfl, rfl, by rw [HD.out]⟩))⟩
      · have t1 : decide (dc < d1) = false := decide_eq_false hlt
        rw [if_neg hlt] at HD
        go_wp2_with (first | (go_at_call 85; ((with_reducible refine cc.mono ?_); rintro e w' ⟨rfl, rfl⟩)) | (go_at_call 85; ((with_reducible refine cb1.mono ?_); rintro e w' ⟨rfl, rfl⟩)))
        go_roundg 0
        case measure => omega
        case rel => exact ⟨rfl, .inr (.inr (.inr ⟨rfl, rfl, by rw [HD.out]⟩))⟩
    · go_wp2
      go_ret
      exact ⟨rfl, rfl⟩

set_option maxRecDepth 100000 in
theorem isPlane_yes (l : List Int) (A : Option Addr) (cap W H d : Nat) (w : World) (hw0 : 1 ≤ W) (hw1 : W ≤ 64) (hh0 : 1 ≤ H) (hh1 : H ≤ 64) (h0 : 1 ≤ d) (h1 : d ≤ 16) (hl : l.length = W * H) (hs : SmpOk d l) (hc : Cells vi w A l) :
    Calls Tryz.prog 41 #[.slice A l.length cap, .int .i64 W, .int .i64 H, .int .i64 d] w fun e w' => e = .returned (.bool true) ∧ w = w' := by
  have t1 : decide ((W : Int) < 1) = false := decide_eq_false (by omega)
  have t2 : decide ((64 : Int) < (W : Int)) = false := decide_eq_false (by omega)
  have t3 : decide ((H : Int) < 1) = false := decide_eq_false (by omega)
  have t4 : decide ((64 : Int) < (H : Int)) = false := decide_eq_false (by omega)
  have t5 : decide ((d : Int) < 1) = false := decide_eq_false (by omega)
  have t6 : decide ((16 : Int) < (d : Int)) = false := decide_eq_false (by omega)
  obtain ⟨hp0, hp1⟩ := pow_d h0 h1
  obtain ⟨m, hm⟩ : ∃ m, m = l.length := ⟨_, rfl⟩
  rw [← hm] at hl ⊢
  have hmul : (W : Int) * (H : Int) = (m : Int) := by rw [hl]; simp
  have t7 : ((m : Int) != (m : Int)) = false := by simp
  have hm4 : m ≤ 4096 := by rw [hl]; exact Nat.mul_le_mul hw1 hh1
  have HN := hid hm
  have HS := hid hs
  clear hm hl hs
  go_enter Tryz.func41, Tryz.ntmps41
  go_wp2_with fail
  go_loopg [41] m (fun j i wr => j ≤ m ∧ i = .int .i64 ((m - j : Nat) : Int) ∧ w = wr)
  case atStart => exact ⟨Nat.le_refl _, by simp, rfl⟩
  case round =>
    obtain ⟨hj, rfl, rfl⟩ := hrel
    rcases gk with _ | j
    · have t8 : decide (((m - 0 : Nat) : Int) < (m : Int)) = false := by simp
      go_wp2
      go_ret
      exact ⟨rfl, rfl⟩
    · obtain ⟨i, hi1⟩ : ∃ i, i = m - (j + 1) := ⟨_, rfl⟩
      rw [← hi1]
      have hi2 : i < m := by omega
      have hi3 : m - j = i + 1 := by omega
      have HI := hid hi3
      clear hi1 hi3
      have hml : i < l.length := by rw [← HN.out]; exact hi2
      obtain ⟨g, o, rfl, hcell⟩ := hc.at_ hml
      have hx := HS.out l[i] (List.getElem_mem _)
      obtain ⟨x, hxx⟩ : ∃ x, x = l[i] := ⟨_, rfl⟩
      rw [← hxx] at hcell hx
      have hcell' : w.cell? ⟨g, o + i, none⟩ = some (.int .i64 x) := hcell
      obtain ⟨hx0, hx1⟩ := hx
      have t9 : decide (x < 0) = false := decide_eq_false (by omega)
      have t10 : decide ((2 : Int) ^ d ≤ x) = false := decide_eq_false (by omega)
      clear hcell hxx hml
      go_wp2
      go_roundg j
      case measure => omega
      case rel =>
        rw [HI.out]
        exact ⟨by omega, by go_num, rfl⟩
set_option maxRecDepth 100000 in
theorem areKinds_yes (ks : List Nat) (A : Option Addr) (cap : Nat) (w : World) (hks : ∀ k ∈ ks, k < 10) (hl : ks.length ≤ 64) (hc : Cells i64 w A ks) :
    Calls Tryz.prog 44 #[.slice A ks.length cap, .int .i64 ks.length] w fun e w' => e = .returned (.bool true) ∧ w = w' := by
  obtain ⟨m, hm⟩ : ∃ m, m = ks.length := ⟨_, rfl⟩
  rw [← hm] at hl ⊢
  have t7 : ((m : Int) != (m : Int)) = false := by simp
  have HN := hid hm
  have HS := hid hks
  clear hm hks
  go_enter Tryz.func44, Tryz.ntmps44
  go_wp2_with fail
  go_loopg [13] m (fun j i wr => j ≤ m ∧ i = .int .i64 ((m - j : Nat) : Int) ∧ w = wr)
  case atStart => exact ⟨Nat.le_refl _, by simp, rfl⟩
  case round =>
    obtain ⟨hj, rfl, rfl⟩ := hrel
    rcases gk with _ | j
    · have t8 : decide (((m - 0 : Nat) : Int) < (m : Int)) = false := by simp
      go_wp2
      go_ret
      exact ⟨rfl, rfl⟩
    · obtain ⟨i, hi1⟩ : ∃ i, i = m - (j + 1) := ⟨_, rfl⟩
      rw [← hi1]
      have hi2 : i < m := by omega
      have hi3 : m - j = i + 1 := by omega
      have HI := hid hi3
      clear hi1 hi3
      have hml : i < ks.length := by rw [← HN.out]; exact hi2
      obtain ⟨g, o, rfl, hcell⟩ := hc.at_ hml
      have hx := HS.out ks[i] (List.getElem_mem _)
      obtain ⟨x, hxx⟩ : ∃ x, x = ks[i] := ⟨_, rfl⟩
      rw [← hxx] at hcell hx
      have hcell' : w.cell? ⟨g, o + i, none⟩ = some (.int .i64 (x : Int)) := hcell
      have t9 : decide ((x : Int) < 0) = false := decide_eq_false (by omega)
      have t10 : decide ((10 : Int) ≤ (x : Int)) = false := decide_eq_false (by omega)
      clear hcell hxx hml
      go_wp2
      go_roundg j
      case measure => omega
      case rel =>
        rw [HI.out]
        exact ⟨by omega, by go_num, rfl⟩
end Go.Proofs.YtpkplhmdnjdmoaaGreatDoor

/- guess.Near, One by their contracts. -/
namespace Go.Proofs.YtpkplhmdnjdmoaaGreatDoor
set_option linter.unusedSimpArgs false
set_option linter.unusedVariables false
open Go.RowKit

theorem Cells.vi_getD {w : World} {b o : Nat} {l : List Int} (hc : ∀ (i : Nat) (a : Int), l[i]? = some a → w.cell? ⟨b, o + i, none⟩ = some (vi a)) {m : Nat} (hm : m < l.length) : w.cell? ⟨b, o + m, none⟩ = some (.int .i64 (l.getD m 0)) := by
  have := hc m l[m] (List.getElem?_eq_getElem hm)
  rw [this, List.getD_eq_getElem?_getD, List.getElem?_eq_getElem hm]
  rfl
set_option maxRecDepth 100000 in
set_option maxHeartbeats 2000000 in
theorem near_ok (l : List Int) (A : Option Addr) (cap W x y : Nat) (w : World) (hw0 : 1 ≤ W) (hw1 : W ≤ 64) (hx : x < W) (hy : y < 64) (hl : y * W + x ≤ l.length) (hc : Cells vi w A l) (hlm : l.length ≤ 1099511627776) :
    Calls Tryz.prog 86 #[.slice A l.length cap, .int .i64 W, .int .i64 x, .int .i64 y] w fun e w' => e = .returned (.tuple #[.int .i64 (nbr l W x y).w, .int .i64 (nbr l W x y).n, .int .i64 (nbr l W x y).nw, .int .i64 (nbr l W x y).ne]) ∧ ∃ n, w' = w.drewN n := by
  have t1 : decide ((W : Int) < 1) = false := decide_eq_false (by omega)
  have t2 : decide ((64 : Int) < (W : Int)) = false := decide_eq_false (by omega)
  have t3 : decide ((x : Int) < 0) = false := decide_eq_false (by omega)
  have t4 : decide (W ≤ x) = false := decide_eq_false (by omega)
  have t5 : decide ((y : Int) < 0) = false := decide_eq_false (by omega)
  have t6 : decide ((64 : Int) ≤ (y : Int)) = false := decide_eq_false (by omega)
  obtain ⟨m, hm⟩ : ∃ m, m = l.length := ⟨_, rfl⟩
  obtain ⟨yw, hyw⟩ : ∃ yw, yw = y * W := ⟨_, rfl⟩
  obtain ⟨p, hp⟩ : ∃ p, p = y * W + x := ⟨_, rfl⟩
  have hywI : (y : Int) * (W : Int) = (yw : Int) := by rw [hyw]; simp
  have hpI : (yw : Int) + (x : Int) = (p : Int) := by rw [hp, hyw]; simp
  have hcell := fun (h : 0 < l.length) => hc.ex h
  have hdef : nbr l W x y = if y = 0 then (if x = 0 then ⟨0, 0, 0, 0⟩ else ⟨l.getD (p - 1) 0, l.getD (p - 1) 0, l.getD (p - 1) 0, l.getD (p - 1) 0⟩)
      else ⟨if 0 < x then l.getD (p - 1) 0 else l.getD (p - W) 0, l.getD (p - W) 0, if 0 < x then l.getD (p - W - 1) 0 else l.getD (p - W) 0, if x < W - 1 then l.getD (p - W + 1) 0 else l.getD (p - W) 0⟩ := by
    unfold nbr; rw [← hp]
  have hyW : y ≠ 0 → W ≤ y * W := fun h => le_mul_pos h
  rw [← hp] at hl
  rw [← hyw] at hyW hp
  rw [← hm] at hl hlm ⊢
  have t7 : decide ((m : Int) < (p : Int)) = false := decide_eq_false (by omega)
  have t7' : decide (m < p) = false := decide_eq_false (by omega)
  have HD := hid hdef
  have HM := hid hm
  have HC := hid hcell
  have HYW := hid hyW
  have HP := hid hp
  clear hdef hm hcell hyw hp hc hyW
  by_cases hy0 : y = 0
  · have t8 : ((y : Int) == 0) = true := by rw [beq_iff_eq]; omega
    rw [if_pos hy0] at HD
    by_cases hx0 : x = 0
    · have t9 : ((x : Int) == 0) = true := by rw [beq_iff_eq]; omega
      rw [if_pos hx0] at HD
      clear hy0 hx0
      go_enter Tryz.func86, Tryz.ntmps86
      go_wp2
      refine bodyPost_ret (v := .tuple #[.int .i64 0, .int .i64 0, .int .i64 0, .int .i64 0]) (by simp [results, Tryz.results86, go_sem]) rfl ⟨by rw [HD.out], 0, rfl⟩
    · have t9 : ((x : Int) == 0) = false := by rw [beq_eq_false_iff_ne]; omega
      rw [if_neg hx0] at HD
      have hp1 : 1 ≤ p := by have := HP.out; omega
      obtain ⟨p1, hp1d⟩ : ∃ p1, p1 = p - 1 := ⟨_, rfl⟩
      have hpI1 : (p : Int) - 1 = (p1 : Int) := by omega
      rw [← hp1d] at HD
      have hp1m : p1 < m := by omega
      obtain ⟨b, o, rfl, _, hcc⟩ := HC.out (by rw [← HM.out]; omega)
      have hv := Cells.vi_getD hcc (m := p1) (by rw [← HM.out]; exact hp1m)
      obtain ⟨v, hvd⟩ : ∃ v, v = l.getD p1 0 := ⟨_, rfl⟩
      rw [← hvd] at hv HD
      clear hy0 hx0 hcc hvd hp1d
      go_enter Tryz.func86, Tryz.ntmps86
      go_wp2
      refine bodyPost_ret (v := .tuple #[.int .i64 v, .int .i64 v, .int .i64 v, .int .i64 v]) (by simp [results, Tryz.results86, go_sem]) rfl ⟨by rw [HD.out], 0, rfl⟩
  · have t8 : ((y : Int) == 0) = false := by rw [beq_eq_false_iff_ne]; omega
    rw [if_neg hy0] at HD
    have hW := HYW.out hy0
    have hpp := HP.out
    obtain ⟨q, hq⟩ : ∃ q, q = p - W := ⟨_, rfl⟩
    have hqI : (p : Int) - (W : Int) = (q : Int) := by omega
    rw [← hq] at HD
    have hqm : q < m := by omega
    obtain ⟨b, o, rfl, _, hcc⟩ := HC.out (by rw [← HM.out]; omega)
    have hvn := Cells.vi_getD hcc (m := q) (by rw [← HM.out]; exact hqm)
    obtain ⟨vn, hvnd⟩ : ∃ v, v = l.getD q 0 := ⟨_, rfl⟩
    rw [← hvnd] at hvn HD
    obtain ⟨q2, hq2⟩ : ∃ q2, q2 = q + 1 := ⟨_, rfl⟩
    have hqI2 : (q : Int) + 1 = (q2 : Int) := by omega
    rw [← hq2] at HD
    obtain ⟨W1, hW1⟩ : ∃ W1, W1 = W - 1 := ⟨_, rfl⟩
    have hWI1 : (W : Int) - 1 = (W1 : Int) := by omega
    rw [← hW1] at HD
    by_cases hx0 : 0 < x
    · have t9 : decide ((0 : Int) < (x : Int)) = true := decide_eq_true (by omega)
      have t9' : decide (0 < x) = true := decide_eq_true hx0
      rw [if_pos hx0, if_pos hx0] at HD
      obtain ⟨p1, hp1d⟩ : ∃ p1, p1 = p - 1 := ⟨_, rfl⟩
      have hpI1 : (p : Int) - 1 = (p1 : Int) := by omega
      obtain ⟨q1, hq1d⟩ : ∃ q1, q1 = q - 1 := ⟨_, rfl⟩
      have hqI1 : (q : Int) - 1 = (q1 : Int) := by omega
      rw [← hp1d, ← hq1d] at HD
      have hp1m : p1 < m := by omega
      have hq1m : q1 < m := by omega
      have hvw := Cells.vi_getD hcc (m := p1) (by rw [← HM.out]; exact hp1m)
      have hvnw := Cells.vi_getD hcc (m := q1) (by rw [← HM.out]; exact hq1m)
      obtain ⟨vw, hvwd⟩ : ∃ v, v = l.getD p1 0 := ⟨_, rfl⟩
      obtain ⟨vnw, hvnwd⟩ : ∃ v, v = l.getD q1 0 := ⟨_, rfl⟩
      rw [← hvwd] at hvw HD
      rw [← hvnwd] at hvnw HD
      by_cases hx1 : x < W1
      · have t10 : decide (x < W1) = true := decide_eq_true hx1
        rw [if_pos hx1] at HD
        have hq2m : q2 < m := by omega
        have hvne := Cells.vi_getD hcc (m := q2) (by rw [← HM.out]; exact hq2m)
        obtain ⟨vne, hvned⟩ : ∃ v, v = l.getD q2 0 := ⟨_, rfl⟩
        rw [← hvned] at hvne HD
        clear hy0 hx0 hcc hvned hvnd hvwd hvnwd hp1d hq1d hq hq2 hW1 hpp
        go_enter Tryz.func86, Tryz.ntmps86
        go_wp2
        go_quiet (fail)
        go_wp2
        refine bodyPost_ret (v := .tuple #[.int .i64 vw, .int .i64 vn, .int .i64 vnw, .int .i64 vne]) (by simp [results, Tryz.results86, go_sem]) rfl ⟨by rw [HD.out], _, rfl⟩
      · have t10 : decide (x < W1) = false := decide_eq_false hx1
        rw [if_neg hx1] at HD
        clear hy0 hx0 hcc hvnd hvwd hvnwd hp1d hq1d hq hq2 hW1 hpp
        go_enter Tryz.func86, Tryz.ntmps86
        go_wp2
        go_quiet (fail)
        go_wp2
        refine bodyPost_ret (v := .tuple #[.int .i64 vw, .int .i64 vn, .int .i64 vnw, .int .i64 vn]) (by simp [results, Tryz.results86, go_sem]) rfl ⟨by rw [HD.out], _, rfl⟩
    · have t9 : decide ((0 : Int) < (x : Int)) = false := decide_eq_false (by omega)
      have t9' : decide (0 < x) = false := decide_eq_false hx0
      rw [if_neg hx0, if_neg hx0] at HD
      by_cases hx1 : x < W1
      · have t10 : decide (x < W1) = true := decide_eq_true hx1
        rw [if_pos hx1] at HD
        have hq2m : q2 < m := by omega
        have hvne := Cells.vi_getD hcc (m := q2) (by rw [← HM.out]; exact hq2m)
        obtain ⟨vne, hvned⟩ : ∃ v, v = l.getD q2 0 := ⟨_, rfl⟩
        rw [← hvned] at hvne HD
        clear hy0 hx0 hcc hvned hvnd hq hq2 hW1 hpp
        go_enter Tryz.func86, Tryz.ntmps86
        go_wp2
        refine bodyPost_ret (v := .tuple #[.int .i64 vn, .int .i64 vn, .int .i64 vn, .int .i64 vne]) (by simp [results, Tryz.results86, go_sem]) rfl ⟨by rw [HD.out], 0, rfl⟩
      · have t10 : decide (x < W1) = false := decide_eq_false hx1
        rw [if_neg hx1] at HD
        clear hy0 hx0 hcc hvnd hq hq2 hW1 hpp
        go_enter Tryz.func86, Tryz.ntmps86
        go_wp2
        refine bodyPost_ret (v := .tuple #[.int .i64 vn, .int .i64 vn, .int .i64 vn, .int .i64 vn]) (by simp [results, Tryz.results86, go_sem]) rfl ⟨by rw [HD.out], 0, rfl⟩
end Go.Proofs.YtpkplhmdnjdmoaaGreatDoor

/- guess.One by its contract. -/
namespace Go.Proofs.YtpkplhmdnjdmoaaGreatDoor
set_option linter.unusedSimpArgs false
set_option linter.unusedVariables false
open Go.RowKit

set_option maxRecDepth 100000 in
set_option maxHeartbeats 4000000 in
theorem one_ok (kind : Nat) (g : Nbr) (d : Nat) (w : World) (hk : kind < 10) (h0 : 1 ≤ d) (h1 : d ≤ 16) (hg : NbrOk d g) :
    Calls Tryz.prog 87 #[.int .i64 kind, .int .i64 g.w, .int .i64 g.n, .int .i64 g.nw, .int .i64 g.ne, .int .i64 d] w fun e w' => e = .returned (.int .i64 (guessI kind g d)) ∧ Chg [] w w' := by
  have t1 : decide ((kind : Int) < 0) = false := decide_eq_false (by omega)
  have t2 : decide ((10 : Int) ≤ (kind : Int)) = false := decide_eq_false (by omega)
  have t5 : decide ((d : Int) < 1) = false := decide_eq_false (by omega)
  have t6 : decide ((16 : Int) < (d : Int)) = false := decide_eq_false (by omega)
  obtain ⟨hp0, hp1⟩ := pow_d h0 h1
  obtain ⟨a, b, c, e⟩ := g
  obtain ⟨⟨a1, a2⟩, ⟨b1, b2⟩, ⟨c1, c2⟩, ⟨e1, e2⟩⟩ := hg
  simp only at a1 a2 b1 b2 c1 c2 e1 e2 ⊢
  have u1 : decide (a < 0) = false := decide_eq_false (by omega)
  have u2 : decide ((2 : Int) ^ d ≤ a) = false := decide_eq_false (by omega)
  have u3 : decide (b < 0) = false := decide_eq_false (by omega)
  have u4 : decide ((2 : Int) ^ d ≤ b) = false := decide_eq_false (by omega)
  have u5 : decide (c < 0) = false := decide_eq_false (by omega)
  have u6 : decide ((2 : Int) ^ d ≤ c) = false := decide_eq_false (by omega)
  have u7 : decide (e < 0) = false := decide_eq_false (by omega)
  have u8 : decide ((2 : Int) ^ d ≤ e) = false := decide_eq_false (by omega)
  have i0 : ∀ w, (Instr.index 25 (.agg #[.int .i64 a, .int .i64 b, .int .i64 c, .int .i64 e]) (.int .i64 0)).run Tryz.prog w = .ok (.int .i64 a) w := fun _ => by kernel_rfl
  have i1 : ∀ w, (Instr.index 25 (.agg #[.int .i64 a, .int .i64 b, .int .i64 c, .int .i64 e]) (.int .i64 1)).run Tryz.prog w = .ok (.int .i64 b) w := fun _ => by kernel_rfl
  have i2 : ∀ w, (Instr.index 25 (.agg #[.int .i64 a, .int .i64 b, .int .i64 c, .int .i64 e]) (.int .i64 2)).run Tryz.prog w = .ok (.int .i64 c) w := fun _ => by kernel_rfl
  have i3 : ∀ w, (Instr.index 25 (.agg #[.int .i64 a, .int .i64 b, .int .i64 c, .int .i64 e]) (.int .i64 3)).run Tryz.prog w = .ok (.int .i64 e) w := fun _ => by kernel_rfl
  go_enter Tryz.func87, Tryz.ntmps87
  go_wp2_with fail
  go_loopg [35] 4 (fun j iv wr => w = wr ∧ ((j = 4 ∧ iv = .int .i64 0) ∨ (j = 3 ∧ iv = .int .i64 1) ∨ (j = 2 ∧ iv = .int .i64 2) ∨ (j = 1 ∧ iv = .int .i64 3) ∨ (j = 0 ∧ iv = .int .i64 4)))
  case atStart => exact ⟨rfl, .inl ⟨rfl, rfl⟩⟩
  case round =>
    obtain ⟨rfl, hrel⟩ := hrel
    rcases hrel with ⟨rfl, rfl⟩ | ⟨rfl, rfl⟩ | ⟨rfl, rfl⟩ | ⟨rfl, rfl⟩ | ⟨rfl, rfl⟩
    · go_wp2
      go_roundg 3
      case measure => omega
      case rel => exact ⟨rfl, .inr (.inl ⟨rfl, rfl⟩)⟩
    · go_wp2
      go_roundg 2
      case measure => omega
      case rel => exact ⟨rfl, .inr (.inr (.inl ⟨rfl, rfl⟩))⟩
    · go_wp2
      go_roundg 1
      case measure => omega
      case rel => exact ⟨rfl, .inr (.inr (.inr (.inl ⟨rfl, rfl⟩)))⟩
    · go_wp2
      go_roundg 0
      case measure => omega
      case rel => exact ⟨rfl, .inr (.inr (.inr (.inr ⟨rfl, rfl⟩)))⟩
    · clear i0 i1 i2 i3 u1 u2 u3 u4 u5 u6 u7 u8
      obtain rfl | rfl | rfl | rfl | rfl | rfl | rfl | rfl | rfl | rfl : kind = 0 ∨ kind = 1 ∨ kind = 2 ∨ kind = 3 ∨ kind = 4 ∨ kind = 5 ∨ kind = 6 ∨ kind = 7 ∨ kind = 8 ∨ kind = 9 := by omega
      · go_wp2
        go_ret
        exact ⟨rfl, Chg.refl _ _⟩
      · go_wp2
        go_ret
        exact ⟨rfl, Chg.refl _ _⟩
      · go_wp2
        go_ret
        exact ⟨rfl, Chg.refl _ _⟩
      · go_wp2
        go_ret
        exact ⟨rfl, Chg.refl _ _⟩
      · go_wp2
        go_ret
        exact ⟨rfl, Chg.refl _ _⟩
      · go_wp2
        go_ret
        exact ⟨rfl, Chg.refl _ _⟩
      · have hnear := nearest_ok (a + b - c) a b c w.heap.size 3 (w.alloc (.cells #[.int .i64 a, .int .i64 b, .int .i64 c] 3)) (by unfold midP; omega) (by unfold midP; omega) (by unfold midP; omega) (by unfold midP; omega) (by simp [go_sem]) (by simp [go_sem]) (by simp [go_sem])
        go_wp2_with (go_at_call 131; refine hnear.mono ?_; rintro e w' ⟨rfl, rfl⟩)
        go_ret
        exact ⟨rfl, (Chg.refl _ _).alloc _⟩
      · go_wp2
        all_goals
          go_ret
          exact ⟨congrArg (fun z => Ending.returned (.int .i64 z)) (show _ = max (min a b) (min (max a b) (a + b - c)) by omega), Chg.refl _ _⟩
      · go_wp2
        all_goals
          go_ret
          exact ⟨congrArg (fun z => Ending.returned (.int .i64 z)) (show _ = min (max (a + b - c) 0) (2 ^ d - 1) by omega), Chg.refl _ _⟩
      · go_wp2
        go_ret
        exact ⟨rfl, Chg.refl _ _⟩
end Go.Proofs.YtpkplhmdnjdmoaaGreatDoor

/- guess.row, Weight by their contracts. -/
namespace Go.Proofs.YtpkplhmdnjdmoaaGreatDoor
set_option linter.unusedSimpArgs false
set_option linter.unusedVariables false
open Go.RowKit

/-- A row that was made, all 0. -/
theorem Row.zeros (w : World) (n : Nat) (h : n ≤ 1048576) : Row (w.alloc (.cells (List.replicate n (Value.int .i64 0)).toArray 3)) 3 (.slice (some ⟨w.heap.size, 0, none⟩) n n) w.heap.size ((fillL [] n).map vi) := by
  have := Row.made w 3 (List.replicate n (Value.int .i64 0)) (by simp [maxLen]; omega)
  rw [fillL_nil, List.map_replicate]
  simpa [vi] using this
theorem Row.fill {w : World} {v : Value} {g : Nat} {done : List Int} {n : Nat} (h : Row w 3 v g ((fillL done n).map vi)) (hl : done.length < n) (x : Int) :
    Row (w.setCell ⟨g, done.length, none⟩ (.int .i64 x)) 3 v g ((fillL (done ++ [x]) n).map vi) := by
  have h1 := h.set_ (i := done.length) (by rw [List.length_map, fillL_len (by omega)]; exact hl) (vi x)
  rw [← List.map_set, fillL_set hl] at h1
  exact h1
theorem Row.fill_cell {w : World} {v : Value} {g : Nat} {done : List Int} {n : Nat} (h : Row w 3 v g ((fillL done n).map vi)) (hl : done.length < n) :
    w.cell? ⟨g, done.length, none⟩ = some (.int .i64 0) ∧ w.frozen? ⟨g, done.length, none⟩ = false := by
  obtain ⟨cap, h1, h2, h3, h4, h5⟩ := h.open_map
  refine ⟨h4 done.length 0 ?_, h5 _⟩
  unfold fillL
  rw [List.getElem?_append_right (Nat.le_refl _), Nat.sub_self, List.getElem?_replicate]
  rw [if_pos (by omega)]

set_option maxRecDepth 100000 in
set_option maxHeartbeats 2000000 in
theorem row_ok (l : List Int) (A : Option Addr) (cap W H y d kind : Nat) (w : World) (hw0 : 1 ≤ W) (hw1 : W ≤ 64) (hh1 : H ≤ 64) (hy : y < H) (h0 : 1 ≤ d) (h1 : d ≤ 16) (hk : kind < 10) (hl : l.length = W * H) (hs : SmpOk d l) (hc : Cells vi w A l) :
    Calls Tryz.prog 43 #[.slice A l.length cap, .int .i64 W, .int .i64 y, .int .i64 d, .int .i64 kind] w fun e w' => ∃ v G, e = .returned v ∧ Own w' 3 v G ((rowL l W y d kind).map vi) ∧ Chg [] w w' ∧ ∀ x ∈ G, w.heap.size ≤ x := by
  have hmk := run_make1 (P := Tryz.prog) int_elem rfl .i64 .i64 W (by omega) (by omega)
  have hnear := fun x (hx : x < W) w hc => near_ok l A cap W x y w hw0 hw1 hx (by omega) (by
    rw [hl]
    have : (y + 1) * W ≤ H * W := Nat.mul_le_mul_right W hy
    rw [Nat.add_mul, Nat.one_mul] at this
    rw [Nat.mul_comm W H]
    omega) hc (by rw [hl]; exact Nat.le_trans (Nat.mul_le_mul hw1 hh1) (by decide))
  have hone := fun x w => one_ok kind (nbr l W x y) d w hk h0 h1 (nbr_ok hs W x y)
  have hin : ∀ x, x < W → y * W + x < l.length := fun x hx => by
    rw [hl]
    have : (y + 1) * W ≤ H * W := Nat.mul_le_mul_right W hy
    rw [Nat.add_mul, Nat.one_mul] at this
    rw [Nat.mul_comm W H]
    omega
  have hl4 : l.length ≤ 4096 := by rw [hl]; exact Nat.mul_le_mul hw1 hh1
  obtain ⟨m, hm⟩ : ∃ m, m = l.length := ⟨_, rfl⟩
  rw [← hm] at hnear hin hl4 ⊢
  obtain ⟨yw, hyw⟩ : ∃ yw, yw = y * W := ⟨_, rfl⟩
  have hywI : (y : Int) * (W : Int) = (yw : Int) := by rw [hyw]; simp
  rw [← hyw] at hin
  have HN := hid hnear
  have HO := hid hone
  have HIn := hid hin
  have HS := hid hs
  have HM := hid hm
  have HYW := hid hyw
  clear hnear hone hin hs hm hl hyw
  go_enter Tryz.func43, Tryz.ntmps43
  go_wp2_with fail
  have hrow0 := Row.zeros w W (by omega)
  obtain ⟨B, hB⟩ : ∃ B, B = w.heap.size := ⟨_, rfl⟩
  rw [← hB] at hrow0 ⊢
  have HB := hid hB
  have ch0 : Chg [] w (w.alloc (.cells (List.replicate W (Value.int .i64 0)).toArray 3)) := (Chg.refl [] w).alloc _
  clear hB
  go_loopg [22] W (fun j iv wr => ∃ done : List Int, iv = .int .i64 (done.length : Int) ∧ done.length + j = W ∧ Hid (done = (List.range done.length).map (restAt l W d kind y)) ∧ Row wr 3 (.slice (some ⟨B, 0, none⟩) W W) B ((fillL done W).map vi) ∧ Chg [] w wr)
  case atStart => exact ⟨[], rfl, by simp, hid (by simp), hrow0, ch0⟩
  case round =>
    obtain ⟨done, rfl, hdl, Hd, hrow, hch⟩ := hrel
    clear hrow0 ch0
    obtain ⟨m1, hm1⟩ : ∃ m1, m1 = done.length := ⟨_, rfl⟩
    rcases gk with _ | j
    · rw [← hm1] at hdl ⊢
      obtain rfl : m1 = W := by omega
      have t1 : decide ((m1 : Int) < (m1 : Int)) = false := by simp
      have HM1 := hid hm1
      clear hm1 hdl
      go_wp2
      go_ret
      refine ⟨_, [B], rfl, ?_, hch, fun x hx => by have := HB.out; simp at hx; omega⟩
      have e : fillL done m1 = rowL l m1 y d kind := by
        rw [fillL_full HM1.out.symm, Hd.out, ← HM1.out]
        rfl
      rw [← e]
      exact hrow.toOwn
    · obtain ⟨hce, hfr⟩ := hrow.fill_cell (by omega)
      have hfill := fun x => hrow.fill (by omega) x
      have hstep : ∀ x, x = restAt l W d kind y m1 → done ++ [x] = (List.range (m1 + 1)).map (restAt l W d kind y) := fun x hx => by
        rw [hx, List.range_succ, List.map_append, hm1, ← Hd.out]
        rfl
      rw [← hm1] at hdl hce hfr hfill ⊢
      have hmW : m1 < W := by omega
      have hin := HIn.out m1 hmW
      have hcl := hc.same hch
      obtain ⟨b, o, rfl, hbl, hcc⟩ := hcl.ex (by rw [← HM.out]; omega)
      have hbB : b ≠ B := by
        intro e
        subst e
        obtain ⟨b', o', e', hb', _⟩ := hc.ex (by rw [← HM.out]; omega)
        injection e' with e'
        injection e' with e' _ _
        have := HB.out
        omega
      obtain ⟨q, hq⟩ : ∃ q, q = yw + m1 := ⟨_, rfl⟩
      have hqI : (yw : Int) + (m1 : Int) = (q : Int) := by omega
      have hnr := HN.out m1 hmW wr hcl
      have hon := HO.out m1
      have hrest : restAt l W d kind y m1 = wrapI (l.getD q 0 - guessI kind (nbr l W m1 y) d) d := by unfold restAt; rw [hq, HYW.out]
      have hgr := guessI_ok (nbr_ok HS.out W m1 y) kind
      have hvr := getD_ok HS.out q
      have hqm : q < m := by omega
      obtain ⟨hp0, hp1⟩ := pow_d h0 h1
      have HP := hid hp1
      obtain ⟨g, hg⟩ : ∃ g, g = nbr l W m1 y := ⟨_, rfl⟩
      rw [← hg] at hnr hon hrest hgr
      obtain ⟨gs, hgs⟩ : ∃ x, x = guessI kind g d := ⟨_, rfl⟩
      rw [← hgs] at hon hrest hgr
      obtain ⟨v, hv⟩ : ∃ x, x = l.getD q 0 := ⟨_, rfl⟩
      rw [← hv] at hrest hvr
      have HST := hid hstep
      have HRe := hid hrest
      have HFi := hid hfill
      have HDL := hid hdl
      have HM1 := hid hm1
      have hcv : ∀ w', Chg [] wr w' → w'.cell? ⟨b, o + q, none⟩ = some (.int .i64 v) := fun w' h' => by
        obtain ⟨b', o', e', _, hcc'⟩ := (hcl.same h').ex (by rw [← HM.out]; omega)
        injection e' with e'
        injection e' with e1 e2 _
        subst e1
        subst e2
        rw [Cells.vi_getD hcc' (by rw [← HM.out]; exact hqm), ← hv]
      have HCV := hid hcv
      have hv0 : -65536 ≤ v - gs := by omega
      have hv1 : v - gs ≤ 65536 := by omega
      have HVR := hid hvr
      clear hstep hrest hfill hcv hv hgs hg hcc hq hdl hm1 hgr hcl hp0 hp1
      go_wp2_with fail
      refine hnr.mono ?_
      rintro e w1 ⟨rfl, nq, rfl⟩
      go_wp2_with fail
      refine (hon (wr.drewN nq)).mono ?_
      rintro e w2 ⟨rfl, ch2⟩
      have ch2' : Chg [] wr w2 := ((Chg.refl [] wr).drewN nq).trans_same ch2
      have hcv2 := HCV.out w2 ch2'
      have hce2 : w2.cell? ⟨B, m1, none⟩ = some (.int .i64 0) := by
        have := (hrow.chg ch2' (by simp)).fill_cell (by have := HDL.out; have := HM1.out; omega)
        rw [HM1.out]
        exact this.1
      have hfr2 : w2.frozen? ⟨B, m1, none⟩ = false := by
        have := (hrow.chg ch2' (by simp)).fill_cell (by have := HDL.out; have := HM1.out; omega)
        rw [HM1.out]
        exact this.2
      have hwr := wrap_ok (v - gs) d w2 h0 h1
      obtain ⟨rv, hrv⟩ : ∃ x, x = wrapI (v - gs) d := ⟨_, rfl⟩
      rw [← hrv] at hwr HRe
      have HRV := hid hrv
      clear hce hfr hrv hnr hon
      have hvr := HVR.out
      go_wp2_with fail
      refine hwr.mono ?_
      rintro e w3 ⟨rfl, rfl⟩
      go_wp2_with fail
      go_roundg j
      case measure => omega
      case rel =>
        have hrow2 := (hrow.chg ch2' (by simp)).fill (by have := HDL.out; have := HM1.out; omega) rv
        refine ⟨done ++ [rv], ?_, ?_, hid ?_, ?_, ?_⟩
        · rw [List.length_append, List.length_singleton, ← HM1.out]; go_num
        · rw [List.length_append, List.length_singleton, ← HM1.out]; have := HDL.out; omega
        · rw [List.length_append, List.length_singleton, ← HM1.out]
          exact HST.out rv HRe.out.symm
        · rw [← HM1.out] at hrow2
          exact hrow2
        · exact (hch.trans_same ch2').setCell (.inr (by have := HB.out; simp; omega)) _

set_option maxRecDepth 100000 in
theorem weight_ok (l : List Int) (A : Option Addr) (cap d : Nat) (w : World) (h0 : 1 ≤ d) (h1 : d ≤ 16) (hl : l.length ≤ 65536) (hc : Cells vi w A l) :
    Calls Tryz.prog 42 #[.slice A l.length cap, .int .i64 d] w fun e w' => e = .returned (.int .i64 (weightI l d)) ∧ w = w' := by
  obtain ⟨n, hn⟩ : ∃ n, n = l.length := ⟨_, rfl⟩
  rw [← hn] at hl ⊢
  have HN := hid hn
  clear hn
  go_enter Tryz.func42, Tryz.ntmps42
  go_wp2_with fail
  go_loopg [5, 10] n (fun j s i wr => j ≤ n ∧ i = .int .i64 ((n - j : Nat) : Int) ∧ s = .int .i64 (weightI (l.take (n - j)) d) ∧ w = wr)
  case atStart => exact ⟨Nat.le_refl _, by simp, by simp [weightI], rfl⟩
  case round =>
    obtain ⟨hj, rfl, rfl, rfl⟩ := hrel
    rcases gk with _ | j
    · have t4 : decide (((n - 0 : Nat) : Int) < (n : Int)) = false := by simp
      have e : l.take n = l := by rw [HN.out, List.take_length]
      rw [Nat.sub_zero, e]
      go_wp2
      go_ret
      exact ⟨rfl, rfl⟩
    · obtain ⟨m, hm1⟩ : ∃ m, m = n - (j + 1) := ⟨_, rfl⟩
      rw [← hm1]
      have hm2 : m < n := by omega
      have hm3 : n - j = m + 1 := by omega
      have HM := hid hm3
      clear hm1 hm3
      have hml : m < l.length := by rw [← HN.out]; exact hm2
      obtain ⟨b, o, rfl, hcell⟩ := hc.at_ hml
      have hsn := weightI_snoc (l.take m) l[m] d
      rw [← take_snoc' l hml] at hsn
      have hle := weightI_ok h0 h1 (l.take m)
      rw [List.length_take] at hle
      obtain ⟨x, hx⟩ : ∃ x, x = l[m] := ⟨_, rfl⟩
      rw [← hx] at hcell hsn
      have hcell' : w.cell? ⟨b, o + m, none⟩ = some (.int .i64 x) := hcell
      obtain ⟨s, hs⟩ : ∃ s, s = weightI (l.take m) d := ⟨_, rfl⟩
      rw [← hs] at hsn hle ⊢
      have hs0 : 0 ≤ s := hle.1
      have hs65 : s ≤ 2147483648 := by omega
      have hfo := fold_ok x d w h0 h1
      have hfr := foldI_range x h0
      have ha := absFold_ok h0 h1 x
      have hdd : absFold d x = distI (foldI x d) 0 := rfl
      obtain ⟨f, hf⟩ : ∃ f, f = foldI x d := ⟨_, rfl⟩
      rw [← hf] at hfo hdd hfr
      have hp15 : (2 : Int) ^ (d - 1) ≤ 2 ^ 15 := by
        have := Nat.pow_le_pow_right (n := 2) (by decide) (show d - 1 ≤ 15 by omega)
        exact_mod_cast this
      have hdi := dist_ok f 0 w (by unfold midP; omega) (by unfold midP; omega)
      rw [← hdd] at hdi
      obtain ⟨a, ha'⟩ : ∃ a, a = absFold d x := ⟨_, rfl⟩
      rw [← ha'] at hdi ha hsn
      obtain ⟨ha0, ha1⟩ := ha
      have HS := hid hsn
      clear hsn hcell hx hs hle hml hfr hdd hf ha' hp15
      go_wp2_with (first | (go_at_call 18; refine hfo.mono ?_; rintro e w' ⟨rfl, rfl⟩) | (go_at_call 85; refine hdi.mono ?_; rintro e w' ⟨rfl, rfl⟩))
      go_roundg j
      case measure => omega
      case rel =>
        rw [HM.out, HS.out]
        exact ⟨by omega, by go_num, rfl, rfl⟩
end Go.Proofs.YtpkplhmdnjdmoaaGreatDoor
