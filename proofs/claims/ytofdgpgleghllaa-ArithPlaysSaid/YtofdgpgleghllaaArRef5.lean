/- The reference's coder, part 5: digits, Number. -/
import Derived.Test.YtofdgpgleghllaaArRef3
import Derived.Test.YtofdgpgleghllaaArRef4
namespace Go.Proofs.Ytofdgpgleghllaa
set_option linter.unusedSimpArgs false
set_option linter.unusedVariables false
open Go.RowKit

theorem digits_any (v : Nat) (w : World) (hv : v < 4294967296) :
    Calls Try.prog 39 #[.int .u64 v] w fun e w' => e = .returned (.int .i64 (Nat.log2 (v + 1) : Nat)) ∧ w' = w := by
  obtain ⟨d, hd⟩ : ∃ d, d = Nat.log2 (v + 1) := ⟨_, rfl⟩
  have hd32 : d ≤ 32 := by rw [hd]; exact log2_le hv
  have h1 : 2 ^ d ≤ v + 1 := by rw [hd]; exact Nat.log2_self_le (by omega)
  have h2 : v + 1 < 2 ^ (d + 1) := by rw [hd]; exact Nat.lt_log2_self
  rw [← hd]
  clear hd
  have H1 := hid h1
  have H2 := hid h2
  clear h1 h2
  go_enter Try.func39, Try.ntmps39
  go_wp2
  go_loopg [3] d (fun k i wr => k ≤ d ∧ i = .int .i64 ((d - k : Nat) : Int) ∧ wr = w)
  case atStart => exact ⟨Nat.le_refl _, by simp, rfl⟩
  case round =>
    obtain ⟨hk, rfl, rfl⟩ := hrel
    rcases gk with _ | k
    · simp only [Nat.sub_zero]
      have t4 : decide ((1 : Int) < ((v : Int) + 1) / 2 ^ d) = false := by
        have e : ((v : Int) + 1) / 2 ^ d = (((v + 1) / 2 ^ d : Nat) : Int) := by simp
        rw [e]
        have : (v + 1) / 2 ^ d < 2 := by rw [Nat.div_lt_iff_lt_mul (Nat.two_pow_pos d)]; have := H2.out; rw [Nat.pow_succ] at this; omega
        generalize (v + 1) / 2 ^ d = q at *
        simp; omega
      go_wp2
      go_ret
      exact ⟨rfl, rfl⟩
    · obtain ⟨m, hm⟩ : ∃ m, m = d - (k + 1) := ⟨_, rfl⟩
      rw [← hm]
      have hm1 : m < d := by omega
      have hm2 : d - k = m + 1 := by omega
      have HM := hid hm2
      clear hm hm2
      have t4 : decide ((1 : Int) < ((v : Int) + 1) / 2 ^ m) = true := by
        have e : ((v : Int) + 1) / 2 ^ m = (((v + 1) / 2 ^ m : Nat) : Int) := by simp
        rw [e]
        have : 2 ≤ (v + 1) / 2 ^ m := by
          rw [Nat.le_div_iff_mul_le (Nat.two_pow_pos m)]
          have h1 := H1.out
          have h2 : 2 ^ (m + 1) ≤ 2 ^ d := Nat.pow_le_pow_right (by omega) (by omega)
          rw [Nat.pow_succ] at h2
          omega
        generalize (v + 1) / 2 ^ m = q at *
        simp; omega
      go_wp2
      go_roundg k
      case measure => omega
      case rel =>
        rw [HM.out]
        exact ⟨by omega, by go_num, rfl⟩

theorem and_low (v d : Nat) (h : 2 ^ d ≤ v + 1) (h2 : v + 1 < 2 ^ (d + 1)) (hv : v < 4294967296) : bits BinOp.and IntKind.u64 ((v : Int) + 1) (IntKind.u64.wrap (IntKind.u64.wrap ((2 : Int) ^ d) - 1)) = ((v + 1 - 2 ^ d : Nat) : Int) := by
  have e : ((2 : Int) ^ d) = ((2 ^ d : Nat) : Int) := by simp
  have hp : 0 < 2 ^ d := Nat.two_pow_pos d
  have h3 : (v + 1) &&& (2 ^ d - 1) = (v + 1) % 2 ^ d := Nat.and_two_pow_sub_one_eq_mod _ _
  have h4 : (v + 1) % 2 ^ d = v + 1 - 2 ^ d := by
    rw [Nat.pow_succ] at h2
    rw [Nat.mod_eq_sub_mod h, Nat.mod_eq_of_lt (by omega)]
  rw [e]
  generalize 2 ^ d = p at *
  rw [IntWalk.u64_in (p : Int) (by omega), IntWalk.u64_in _ (by omega)]
  have h5 := u64_and_nat (v + 1) (p - 1) (by omega) (by omega)
  rw [h3, h4] at h5
  have e1 : ((v + 1 : Nat) : Int) = (v : Int) + 1 := by omega
  have e2 : ((p - 1 : Nat) : Int) = (p : Int) - 1 := by omega
  rw [e1, e2] at h5
  exact h5

set_option maxRecDepth 100000 in
set_option maxHeartbeats 2000000 in
theorem num_ok_r (w : World) (b g h : Nat) (c : Cod) (ctx v : Nat) (hc : IsCod 63 w b g h c) (hok : CodOk c) (hctx : ctx + 33 ≤ c.odds.length) (hv : v < 4294967296)
    (hlen : c.low.length ≤ 274877906944) :
    Calls Try.prog 18 #[.pointer (some ⟨b, 0, none⟩), .int .i64 ctx, .int .u64 v] w fun e w' => e = .returned (.int .i64 0) ∧
      ∃ g', IsCod 63 w' b g' h (numL c ctx v) ∧ Chg [b, g, h] w w' ∧ (g' = g ∨ w.heap.size ≤ g') := by
  obtain ⟨vl, vo, hb, hl, ho⟩ := hc.ex
  obtain ⟨capo, rfl, hco, hcom, -, -⟩ := ho.open_map
  have hc2 := hb.cell 2
  simp at hc2
  clear hb hl ho
  have t1 : decide ((4294967296 : Int) ≤ (v : Int)) = false := by simp; omega
  have t2 : decide ((ctx : Int) < 0) = false := by simp
  have t3 : decide ((c.odds.length : Int) - 33 < (ctx : Int)) = false := by simp; omega
  obtain ⟨d, hd⟩ : ∃ d, d = Nat.log2 (v + 1) := ⟨_, rfl⟩
  have hd32 : d ≤ 32 := by rw [hd]; exact log2_le hv
  have hbl := digits_any v
  rw [← hd] at hbl
  have hmid := numL_mid_ok hok hv hctx
  have hone : CodOk (onesL c ctx d) := onesL_ok hok (by omega)
  have honel := onesL_len c ctx d
  have honeo := onesL_odds_len c ctx d
  have h2d : 2 ^ d ≤ v + 1 := by rw [hd]; exact Nat.log2_self_le (by omega)
  have h2d' : v + 1 < 2 ^ (d + 1) := by rw [hd]; exact Nat.lt_log2_self
  have hnum : numL c ctx v = rawL (if d < 32 then putL (onesL c ctx d) (ctx + d) 0 else onesL c ctx d) (v + 1 - 2 ^ d) d := by rw [hd]; rfl
  rw [← hd] at hmid
  have HD := hid hd
  have HN := hid hnum
  have HO := hid honeo
  have HB := hid hbl
  clear hd hnum honeo hbl
  go_enter Try.func18, Try.ntmps18
  go_wp2_with (go_at_call 39; refine (HB.out _ hv).mono ?_; rintro e w' ⟨he, hw'⟩; subst he; have hw'' := hw'.symm; subst hw''; clear hw')
  go_loopg [8] d (fun k j wr => ∃ g', k ≤ d ∧ j = .int .i64 ((d - k : Nat) : Int) ∧ IsCod 63 wr b g' h (onesL c ctx (d - k)) ∧ Chg [b, g, h] w wr ∧ (g' = g ∨ w.heap.size ≤ g'))
  case atStart => exact ⟨g, Nat.le_refl _, by simp, by simpa [onesL] using hc, Chg.refl _ _, .inl rfl⟩
  case round =>
    obtain ⟨g', hk, rfl, hcr, hch, hg'⟩ := hrel
    rcases gk with _ | k
    · have t4 : decide (((d - 0 : Nat) : Int) < d) = false := by simp
      simp only [Nat.sub_zero] at hcr
      go_upto_if 38 with fail
      obtain ⟨mid, hm⟩ : ∃ mid, mid = (if d < 32 then putL (onesL c ctx d) (ctx + d) 0 else onesL c ctx d) := ⟨_, rfl⟩
      rw [← hm] at hmid
      have hmidl : mid.low.length ≤ c.low.length + 33 := by
        rw [hm]
        split
        · have := putL_len (onesL c ctx d) (ctx + d) 0
          omega
        · omega
      have HM := hid hm
      clear hm
      go_cut [] (fun wx => ∃ g2, IsCod 63 wx b g2 h mid ∧ Chg [b, g, h] w wx ∧ (g2 = g ∨ w.heap.size ≤ g2))
      case first =>
        by_cases hlt : d < 32
        · have t5 : decide ((d : Int) < 32) = true := by simp; omega
          go_wp2_with fail
          rw [show ((ctx : Int) + d) = ((ctx + d : Nat) : Int) from by omega]
          refine (put_ok_r wr b g' h (onesL c ctx d) (ctx + d) 0 hcr hone (by rw [HO.out]; omega) (by simp) (by omega)).mono ?_
          rintro e w1 ⟨rfl, g2, hc2, hch2, hg2⟩
          go_wp2_with fail
          go_meet
          case rel =>
            have hsz := hch.size
            refine ⟨g2, ?_, hch.trans hch2 ?_, ?_⟩
            · rw [HM.out, if_pos hlt]; exact hc2
            · intro x hx
              simp at hx
              rcases hx with rfl | rfl | rfl
              · exact .inl (by simp)
              · rcases hg' with rfl | hg'
                · exact .inl (by simp)
                · exact .inr hg'
              · exact .inl (by simp)
            · rcases hg2 with rfl | hg2
              · exact hg'
              · exact .inr (by omega)
        · have t5 : decide ((d : Int) < 32) = false := by simp; omega
          go_wp2_with fail
          go_meet
          case rel => exact ⟨g', by rw [HM.out, if_neg hlt]; exact hcr, hch, hg'⟩
      case rest =>
        obtain ⟨g2, hc2', hch2, hg2⟩ := hcut
        go_wp2_with fail
        rw [and_low v d h2d h2d' hv]
        have hlt : v + 1 - 2 ^ d < 2 ^ d := by rw [Nat.pow_succ] at h2d'; omega
        refine (raw_ok_r wc b g2 h mid (v + 1 - 2 ^ d) d hc2' hmid hd32 hlt (by omega) (by omega)).mono ?_
        rintro e w1 ⟨rfl, g3, hc3, hch3, hg3⟩
        have hsz := hch2.size
        go_wp2_with fail
        go_ret
        refine ⟨rfl, g3, ?_, hch2.trans hch3 ?_, ?_⟩
        · rw [HN.out, ← HM.out]; exact hc3
        · intro x hx
          simp at hx
          rcases hx with rfl | rfl | rfl
          · exact .inl (by simp)
          · rcases hg2 with rfl | hg2
            · exact .inl (by simp)
            · exact .inr hg2
          · exact .inl (by simp)
        · rcases hg3 with rfl | hg3
          · exact hg2
          · exact .inr (by omega)
    · obtain ⟨m, hm⟩ : ∃ m, m = d - (k + 1) := ⟨_, rfl⟩
      rw [← hm] at hcr ⊢
      have hm1 : m < d := by omega
      have hm2 : d - k = m + 1 := by omega
      have HM := hid hm2
      clear hm hm2
      have hokm : CodOk (onesL c ctx m) := onesL_ok hok (by omega)
      have hlm := onesL_len c ctx m
      have Hom := hid (onesL_odds_len c ctx m)
      go_wp2_with fail
      rw [show ((ctx : Int) + m) = ((ctx + m : Nat) : Int) from by omega]
      refine (put_ok_r wr b g' h (onesL c ctx m) (ctx + m) 1 hcr hokm (by rw [Hom.out]; omega) (by simp) (by omega)).mono ?_
      rintro e w1 ⟨rfl, g2, hc2, hch2, hg2⟩
      go_wp2_with fail
      go_roundg k
      case measure => omega
      case rel =>
        rw [HM.out]
        have hsz := hch.size
        refine ⟨g2, by omega, by go_num, hc2, hch.trans hch2 ?_, ?_⟩
        · intro x hx
          simp at hx
          rcases hx with rfl | rfl | rfl
          · exact .inl (by simp)
          · rcases hg' with rfl | hg'
            · exact .inl (by simp)
            · exact .inr hg'
          · exact .inl (by simp)
        · rcases hg2 with rfl | hg2
          · exact hg'
          · exact .inr (by omega)

theorem num_bad_r (w : World) (b g h : Nat) (c : Cod) (ctx v : Int) (hc : IsCod 63 w b g h c) (hbad : 4294967296 ≤ v ∨ ctx < 0 ∨ (c.odds.length : Int) - 33 < ctx) :
    Calls Try.prog 18 #[.pointer (some ⟨b, 0, none⟩), .int .i64 ctx, .int .u64 v] w fun e w' => e = .returned (.int .i64 1) ∧ w' = w := by
  obtain ⟨vl, vo, hb, hl, ho⟩ := hc.ex
  obtain ⟨capo, rfl, hco, hcom, -, -⟩ := ho.open_map
  have hc2 := hb.cell 2
  simp at hc2
  clear hb hl ho hc
  by_cases h0 : 4294967296 ≤ v
  · have t1 : decide ((4294967296 : Int) ≤ v) = true := by simpa using h0
    clear hbad h0
    go_enter Try.func18, Try.ntmps18
    go_wp2_with fail
    go_ret
    exact ⟨rfl, rfl⟩
  · have t1 : decide ((4294967296 : Int) ≤ v) = false := by simpa using h0
    by_cases h1 : ctx < 0
    · have t2 : decide (ctx < 0) = true := by simpa using h1
      clear hbad h0
      go_enter Try.func18, Try.ntmps18
      go_wp2_with fail
      go_ret
      exact ⟨rfl, rfl⟩
    · have t2 : decide (ctx < 0) = false := by simpa using h1
      have t3 : decide ((c.odds.length : Int) - 33 < ctx) = true := by simp; omega
      clear hbad h0
      go_enter Try.func18, Try.ntmps18
      go_wp2_with fail
      go_ret
      exact ⟨rfl, rfl⟩
end Go.Proofs.Ytofdgpgleghllaa
