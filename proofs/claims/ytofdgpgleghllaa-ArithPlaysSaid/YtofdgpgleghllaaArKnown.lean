/- The law's own first question, known(): a coder and a decoder of a 0 and a number 0. -/
import Derived.Test.YtofdgpgleghllaaArCod3
import Derived.Test.YtofdgpgleghllaaArDec4
import Derived.Laws.BytesArg
namespace Go.Proofs.Ytofdgpgleghllaa
set_option linter.unusedSimpArgs false
set_option linter.unusedVariables false
open Go.RowKit

theorem dodds_in (w : World) (b g h : Nat) (D : Dec) (ctx : Nat) (hc : IsDec 69 w b g h D) (hctx : ctx < D.odds.length) :
    Calls Try.prog 31 #[.pointer (some ⟨b, 0, none⟩), .int .i64 ctx] w fun e w' => e = .returned (.int .i64 (dOddsAt D ctx)) ∧ w' = w := by
  obtain ⟨vl, vo, hb, hl, ho⟩ := hc.ex
  obtain ⟨capo, rfl, hco, hcom, hcello, hfro⟩ := ho.open_map
  have ho1 : w.cell? ⟨h, ctx, none⟩ = some (.int .i64 (dOddsAt D ctx : Int)) := hcello ctx _ (dec_oddsAt hctx)
  have hc2 := hb.cell 4
  simp at hc2
  clear hcello hfro hb hl ho hc
  have t1 : decide ((ctx : Int) < 0) = false := by simp
  have t2 : decide (D.odds.length ≤ ctx) = false := by simp; omega
  generalize dOddsAt D ctx = o at *
  go_enter Try.func31, Try.ntmps31
  go_wp2
  go_ret
  exact ⟨rfl, rfl⟩

def knownCod : Cod := numL (putL (newCod 40) 0 0) 1 0
theorem knownCod_low : knownCod.low = [0, 0, 0, 0] := by decide +kernel
theorem knownCod_odds0 : oddsAt knownCod 0 = 2112 := by decide +kernel
theorem knownCod_odds1 : oddsAt knownCod 1 = 2112 := by decide +kernel
theorem knownCod_len : knownCod.odds.length = 40 := by decide +kernel
theorem knownCod_ok : CodOk knownCod := numL_ok (putL_ok (newCod_ok 40) (by decide) 0) (by decide) (by decide)

set_option maxRecDepth 100000 in
set_option maxHeartbeats 4000000 in
theorem known_ok (w : World) : Calls Try.prog 10 #[] w fun e w' => e = .returned (.bool true) ∧ Chg [] w w' := by
  go_enter Try.func10, Try.ntmps10
  go_wp2_with fail
  refine (newCoder_ok 40 w (by decide) (by decide)).mono ?_
  rintro e w1 ⟨b, g, h, rfl, hc1, ch1, hb1, hg1, hh1⟩
  go_wp2_with fail
  refine (put_ok w1 b g h (newCod 40) 0 0 hc1 (newCod_ok 40) (by decide) (by simp) (by decide)).mono ?_
  rintro e w2 ⟨rfl, g2, hc2, ch2, hg2⟩
  go_wp2_with fail
  refine (num_ok w2 b g2 h (putL (newCod 40) 0 0) 1 0 hc2 (putL_ok (newCod_ok 40) (by decide) 0) (by decide) (by decide) (by decide)).mono ?_
  rintro e w3 ⟨rfl, g3, hc3, ch3, hg3⟩
  have ch3' : Chg [] w w3 := by
    have s1 := ch1.size
    have s2 := ch2.size
    refine (ch1.trans ch2 ?_).trans ch3 ?_
    · intro x hx; simp at hx; right; omega
    · intro x hx; simp at hx; right; omega
  have hc3' : IsCod 61 w3 b g3 h knownCod := hc3
  clear hc1 hc2 hc3 ch1 ch2 ch3
  go_wp2_with fail
  refine (bytes_ok w3 b g3 h knownCod hc3' knownCod_ok (by rw [knownCod_low]; decide)).mono ?_
  rintro e w4 ⟨g4, cap4, rfl, hr4, ch4, hg4⟩
  rw [knownCod_low] at *
  obtain ⟨cap4', e4, l4, m4, cl4, -⟩ := hr4.open_map
  obtain rfl : cap4 = cap4' := by simpa using e4
  clear e4
  have CL4 := hid cl4
  clear cl4
  go_wp2_with fail
  refine (newDecoder_ok g4 cap4 [0, 0, 0, 0] 40 w4 (by decide) (by decide) l4 m4 CL4.out (by decide) (by decide) (by decide) (by decide)).mono ?_
  rintro e w5 ⟨b5, g5, h5, rfl, hd5, ch5, hb5, hg5, hh5⟩
  have hr5 := hr4.chg ch5 (by simp)
  have hc5 := (hc3'.same ch4).same ch5
  have ch5' := (ch3'.trans_same ch4).trans_same ch5
  have lt4 := (hc3'.same ch4).lt
  have ltr := hr4.lt
  have sz5 := ch5.size
  clear hr4 ch4 ch5 ch3' hc3'
  have hok5 : DecOk (newDec [0, 0, 0, 0] 40) := ⟨by decide, by decide, by decide, by decide, by decide, by decide⟩
  have hS5 : Syn (newDec [0, 0, 0, 0] 40) (newCod 40) := syn_new _ _
  have hF : Fut [0, 0, 0, 0] knownCod := by have := fut_self knownCod_ok; rwa [knownCod_low] at this
  have hfit : CodFit (putL (newCod 40) 0 0) := putL_fit (newCod_ok 40) (newCod_fit 40) (by decide) 0
  have hF1 : Fut [0, 0, 0, 0] (putL (newCod 40) 0 0) := fut_num (by decide) (putL_ok (newCod_ok 40) (by decide) 0) hfit (v := 0) (ctx := 1) (by decide) (by decide) hF
  have hsy := dget_syn hS5 hok5 (newCod_ok 40) (newCod_fit 40) (ctx := 0) (bit := 0) (by decide) (by simp) hF1
  have hok6 := dget_ok hok5 (ctx := 0) (by decide)
  have hdat := dget_data (newDec [0, 0, 0, 0] 40) 0
  go_wp2_with fail
  refine (dget_any w5 b5 g5 h5 _ 0 hd5 hok5 rfl (by decide)).mono ?_
  rintro e w6 ⟨rfl, hd6, ch6⟩
  rw [hsy.1]
  obtain ⟨D6, e6⟩ : ∃ D6, D6 = (dget (newDec [0, 0, 0, 0] 40) 0).2 := ⟨_, rfl⟩
  rw [← e6] at hd6 hok6 hdat hsy
  have hS6 := hsy.2
  have HD := hid hdat
  clear hsy e6 hdat hd5
  go_wp2_with fail
  refine (dnum_syn w6 b5 g5 h5 D6 (putL (newCod 40) 0 0) 1 0 5 hd6 hok6 hS6 (putL_ok (newCod_ok 40) (by decide) 0) hfit (by decide) (by decide) (by decide) (by rw [HD.out]; exact hF)).mono ?_
  rintro e w7 hp
  obtain ⟨rfl, D7, hd7, hx7, hdat7, ch7⟩ := hp
  simp only [Nat.zero_le, if_true] at hx7 ⊢
  have hfr : ∀ x, x < w4.heap.size → x ∉ [b5, h5] := fun x hx => by simp; omega
  have hc7 := (hc5.chg ch6 (hfr _ lt4.1) (hfr _ lt4.2.1) (hfr _ lt4.2.2)).chg ch7 (hfr _ lt4.1) (hfr _ lt4.2.1) (hfr _ lt4.2.2)
  have hr7 := (hr5.chg ch6 (hfr _ ltr)).chg ch7 (hfr _ ltr)
  have ch7' : Chg [] w w7 := by
    have s1 := ch5'.size
    have s2 := ch6.size
    have s0 := ch5'
    refine (ch5'.trans ch6 ?_).trans ch7 ?_
    · intro x hx; simp at hx; right; omega
    · intro x hx; simp at hx; right; omega
  obtain ⟨hok7, hS7⟩ := hx7
  have hD7 : D7.data = [0, 0, 0, 0] := by rw [hdat7, HD.out]; rfl
  have e7 : dOddsAt D7 0 = 2112 := by rw [dOdds_syn hS7]; exact knownCod_odds0
  have l7 : D7.odds.length = 40 := by rw [hS7.odds]; exact knownCod_len
  have p7 : D7.pos = 4 := by rw [hS7.pos]; exact congrArg List.length knownCod_low
  have r7 : D7.err = 0 := hS7.err
  have E7 := hid e7
  have HL7 := hid l7
  have P7 := hid p7
  have R7 := hid r7
  have HD7 := hid hD7
  clear e7 l7 p7 r7 hD7 hdat7 hc5 hr5 ch6 ch7 hd6 hfr lt4 ltr sz5 hok6 hS6
  go_wp2_with fail
  refine (odds_in w7 b g3 h knownCod 0 hc7 (by rw [knownCod_len]; decide)).mono ?_
  rintro e wx ⟨rfl, rfl⟩
  rw [knownCod_odds0]
  go_wp2_with fail
  refine (dodds_in _ b5 g5 h5 D7 0 hd7 (by rw [HL7.out]; decide)).mono ?_
  rintro e wx ⟨rfl, rfl⟩
  rw [E7.out]
  go_wp2_with fail
  refine (odds_in _ b g3 h knownCod 1 hc7 (by rw [knownCod_len]; decide)).mono ?_
  rintro e wx ⟨rfl, rfl⟩
  rw [knownCod_odds1]
  have hcv : (Go.convert 39 9 (.slice (some ⟨g4, 0, none⟩) 4 cap4)).run Try.prog wx = .ok (.string ⟨#[0, 0, 0, 0]⟩) wx := by
    obtain ⟨_, _, _, _, cl, _⟩ := hr7.open_map
    exact run_convert_bytes_arg wx 39 5 Try.underlying39 Try.underlying5 g4 0 4 cap4 [0, 0, 0, 0] rfl (fun i hi => by
      have := cl i 0 (by
        match i, hi with
        | 0, _ => rfl
        | 1, _ => rfl
        | 2, _ => rfl
        | 3, _ => rfl)
      rw [Nat.zero_add, this]
      match i, hi with
      | 0, _ => rfl
      | 1, _ => rfl
      | 2, _ => rfl
      | 3, _ => rfl) 9 Try.underlying9
  go_wp2_with fail
  refine (left_any wx b5 g5 h5 D7 hd7 (by rw [P7.out, HD7.out]; decide)).mono ?_
  rintro e wy ⟨rfl, ny, rfl⟩
  have hl : (D7.data.length - D7.pos) = 0 := by rw [P7.out, HD7.out]; rfl
  rw [hl]
  go_wp2_with fail
  refine (err_any (wx.drewN ny) b5 g5 h5 D7 (hd7.same ((Chg.refl _ _).drewN ny))).mono ?_
  rintro e wz ⟨rfl, rfl⟩
  rw [R7.out]
  go_wp2_with fail
  go_ret
  exact ⟨rfl, ch7'.drewN ny⟩
end Go.Proofs.Ytofdgpgleghllaa
