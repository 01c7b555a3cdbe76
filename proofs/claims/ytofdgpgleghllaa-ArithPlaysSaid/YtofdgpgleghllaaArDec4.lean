/- The decoder's functions, the fourth part: Raw and Number of a decoder that stands where the coder stood. -/
import Derived.Test.YtofdgpgleghllaaArDec3
import Derived.Test.YtofdgpgleghllaaArSync
namespace Go.Proofs.Ytofdgpgleghllaa
set_option linter.unusedSimpArgs false
set_option linter.unusedVariables false
open Go.RowKit

theorem or_bit (q bit : Nat) (hq : q < 4294967296) (hb : bit = 0 ∨ bit = 1) : bits BinOp.or IntKind.u64 ((q : Int) * 2) (bit : Int) = ((q * 2 + bit : Nat) : Int) := by
  have h1 := u64_or_nat (q * 2) bit (by omega) (by omega)
  have h2 : q * 2 ||| bit = q * 2 + bit := by
    have := Nat.two_pow_add_eq_or_of_lt (i := 1) (b := bit) (by omega) q
    rw [Nat.mul_comm q 2]
    simpa using this.symm
  rw [h2] at h1
  have e : ((q * 2 : Nat) : Int) = (q : Int) * 2 := by simp
  rw [← e]
  exact h1

set_option maxRecDepth 100000 in
set_option maxHeartbeats 2000000 in
theorem draw_syn (w : World) (b g h : Nat) (D : Dec) (c : Cod) (v n : Nat) (hc : IsDec 69 w b g h D) (hok : DecOk D) (hS : Syn D c) (hco : CodOk c) (hf : CodFit c) (hn : n ≤ 32) (hv : v < 2 ^ n) (hv64 : v < 4294967296)
    (hF : Fut D.data (rawL c v n)) :
    Calls Try.prog 40 #[.pointer (some ⟨b, 0, none⟩), .int .i64 n] w fun e w' => e = .returned (.int .u64 v) ∧
      ∃ D', IsDec 69 w' b g h D' ∧ DecOk D' ∧ Syn D' (rawL c v n) ∧ D'.data = D.data ∧ Chg [b] w w' := by
  have t1 : decide ((n : Int) < 0) = false := by simp
  have t2 : decide ((32 : Int) < n) = false := by simp; omega
  have HF := hid hF
  have HV := hid hv
  clear hF hv
  have c5 : w.cell? ⟨b, 5, none⟩ = some (.int .i64 0) := by
    obtain ⟨vd, vo, hb, -, -⟩ := hc.ex
    have := hb.cell 5
    simpa [hS.err] using this
  go_enter Try.func40, Try.ntmps40
  go_wp2_with fail
  go_loopg [5, 21] n (fun k x i wr => ∃ (D' : Dec) (c' : Cod), k ≤ n ∧ x = .int .u64 ((v / 2 ^ k : Nat) : Int) ∧ i = .int .i64 ((n - k : Nat) : Int) ∧ IsDec 69 wr b g h D' ∧ DecOk D' ∧ Syn D' c' ∧ CodOk c' ∧ CodFit c' ∧
      Hid (rawL c v n = rawL c' v k) ∧ Hid (D'.data = D.data) ∧ Chg [b] w wr)
  case atStart => exact ⟨D, c, Nat.le_refl _, by rw [Nat.div_eq_of_lt HV.out]; rfl, by simp, hc, hok, hS, hco, hf, hid rfl, hid rfl, Chg.refl _ _⟩
  case round =>
    obtain ⟨D', c', hk, rfl, rfl, hcr, hokr, hSr, hcor, hfr, Hr, Hdata, hch⟩ := hrel
    rcases gk with _ | k
    · have t4 : decide (((n - 0 : Nat) : Int) < n) = false := by simp
      go_wp2_with fail
      go_ret
      refine ⟨by simp, D', hcr, hokr, ?_, Hdata.out, hch⟩
      rw [Hr.out]; exact hSr
    · obtain ⟨m, hm⟩ : ∃ m, m = n - (k + 1) := ⟨_, rfl⟩
      rw [← hm]
      have hm1 : m < n := by omega
      have hm2 : n - k = m + 1 := by omega
      have HM := hid hm2
      clear hm hm2
      obtain ⟨bit, hbit⟩ : ∃ bit, bit = v / 2 ^ k % 2 := ⟨_, rfl⟩
      have hvk : v / 2 ^ k = (v / 2 ^ (k + 1)) * 2 + bit := by
        rw [hbit, Nat.pow_succ, ← Nat.div_div_eq_div_mul]; omega
      have hle : v / 2 ^ (k + 1) ≤ v := Nat.div_le_self _ _
      obtain ⟨q, hq⟩ : ∃ q, q = v / 2 ^ (k + 1) := ⟨_, rfl⟩
      rw [← hq] at hvk hle ⊢
      have hbit1 : bit = 0 ∨ bit = 1 := by omega
      have HVK := hid hvk
      have hF2 : Fut D'.data (rawL (codeL c' (c'.W / 2) bit) v k) := by
        have := HF.out
        rw [Hr.out] at this
        rw [Hdata.out, hbit]
        exact this
      have Hr2 : Hid (rawL c v n = rawL (codeL c' (c'.W / 2) bit) v k) := by
        refine hid ?_
        rw [Hr.out, hbit]
        rfl
      have hbd := bound_raw hcor
      have hF3 := fut_raw hokr.dig v k (codeL_ok hcor hbd bit) (codeL_fit hcor hfr hbd bit) hF2
      have hsy := dcode_syn hSr hokr hcor hfr hbd hbit1 hF3
      have hdata2 := (dcode_data D' (c'.W / 2)).1
      have hok2 := dcode_ok hokr (bound := c'.W / 2) (by rw [hSr.W]; exact hbd)
      have HB1 := hid hbit1
      have hbit2 : bit ≤ 1 := by omega
      have HSY := hid hsy
      have HD2 := hid hdata2
      clear hbit hvk hq hbit1 hsy hdata2 hF2 hF3
      obtain ⟨vd, vo, hb, hl, ho⟩ := hcr.ex
      have c3 := hb.cell 3
      simp at c3
      have HW := hid hSr.W
      rw [hSr.W] at c3
      obtain ⟨W2, hW2⟩ : ∃ W2, W2 = c'.W / 2 := ⟨_, rfl⟩
      have hw2 : IntKind.u64.wrap ((c'.W : Int) / 2) = (W2 : Int) := by
        have e : (c'.W : Int) / 2 = ((c'.W / 2 : Nat) : Int) := by simp
        rw [e, hW2]
        exact IntWalk.u64_in _ (by have := hcor.hi; omega)
      rw [← hW2] at HSY HD2 hok2 hbd Hr2
      have HW2 := hid hW2
      clear hW2 hb hl ho
      go_wp2_with fail
      refine (dcode_any wr b g h D' W2 hcr hokr (by rw [HW.out]; exact hbd)).mono ?_
      rintro e w1 ⟨rfl, hc1, hch1⟩
      rw [HSY.out.1]
      have c5' : w1.cell? ⟨b, 5, none⟩ = some (.int .i64 0) := by
        obtain ⟨vd, vo, hb, -, -⟩ := hc1.ex
        have := hb.cell 5
        simpa [HSY.out.2.err] using this
      go_wp2_with fail
      rw [or_bit q bit (by omega) HB1.out]
      go_roundg k
      case measure => omega
      case rel =>
        rw [HM.out]
        refine ⟨_, _, by omega, by rw [HVK.out], by go_num, hc1, hok2, HSY.out.2, codeL_ok hcor hbd bit, codeL_fit hcor hfr hbd bit, Hr2, hid ?_, hch.trans_same hch1⟩
        rw [HD2.out]; exact Hdata.out

theorem num_val (v d : Nat) (h : 2 ^ d ≤ v + 1) (hv : v < 4294967296) : IntKind.u64.wrap (IntKind.u64.wrap (IntKind.u64.wrap ((2 : Int) ^ d) + ((v + 1 - 2 ^ d : Nat) : Int)) - 1) = (v : Int) := by
  have e : ((2 : Int) ^ d) = ((2 ^ d : Nat) : Int) := by simp
  rw [e]
  generalize 2 ^ d = p at *
  rw [IntWalk.u64_in (p : Int) (by omega), IntWalk.u64_in ((p : Int) + ((v + 1 - p : Nat) : Int)) (by omega), IntWalk.u64_in _ (by omega)]
  omega

/-- What a number's decoding leaves. -/
def NumPost (T : TypeId) (w : World) (b g h : Nat) (D : Dec) (c : Cod) (ctx v most : Nat) (e : Ending) (w' : World) : Prop :=
  e = .returned (.int .u64 ((if v ≤ most then v else 0 : Nat) : Int)) ∧
    ∃ D', IsDec T w' b g h D' ∧ (if v ≤ most then DecOk D' ∧ Syn D' (numL c ctx v) else D'.err = 2) ∧ D'.data = D.data ∧ Chg [b, h] w w'

set_option maxRecDepth 100000 in
set_option maxHeartbeats 2000000 in
theorem dnum_syn (w : World) (b g h : Nat) (D : Dec) (c : Cod) (ctx v most : Nat) (hc : IsDec 69 w b g h D) (hok : DecOk D) (hS : Syn D c) (hco : CodOk c) (hf : CodFit c) (hctx : ctx + 33 ≤ c.odds.length) (hv : v < 4294967296)
    (hmost : most < 18446744073709551616) (hF : Fut D.data (numL c ctx v)) :
    Calls Try.prog 28 #[.pointer (some ⟨b, 0, none⟩), .int .i64 ctx, .int .u64 most] w (NumPost 69 w b g h D c ctx v most) := by
  obtain ⟨vd, vo, hb, hl, ho⟩ := hc.ex
  obtain ⟨capo, rfl, hcp, hcom, -, -⟩ := ho.open_map
  have c4 := hb.cell 4
  have c5 := hb.cell 5
  simp at c4 c5
  rw [hS.err] at c5
  rw [hS.odds] at c4 hcp
  clear hb hl ho
  have t2 : decide ((ctx : Int) < 0) = false := by simp
  have t3 : decide ((c.odds.length : Int) - 33 < (ctx : Int)) = false := by simp; omega
  obtain ⟨d, hd⟩ : ∃ d, d = Nat.log2 (v + 1) := ⟨_, rfl⟩
  have hd32 : d ≤ 32 := by rw [hd]; exact log2_le hv
  have h2d : 2 ^ d ≤ v + 1 := by rw [hd]; exact Nat.log2_self_le (by omega)
  have h2d' : v + 1 < 2 ^ (d + 1) := by rw [hd]; exact Nat.lt_log2_self
  have hnum : numL c ctx v = rawL (midL c ctx d) (v + 1 - 2 ^ d) d := by rw [hd]; rfl
  have hmidok : CodOk (midL c ctx d) := midL_ok hco hd32 hctx
  have hmidf : CodFit (midL c ctx d) := midL_fit hco hf hd32 hctx
  have hF1 : Fut D.data (rawL (midL c ctx d) (v + 1 - 2 ^ d) d) := by rw [← hnum]; exact hF
  have hF2 : Fut D.data (midL c ctx d) := fut_raw hok.dig _ _ hmidok hmidf hF1
  have hF3 : Fut D.data (onesL c ctx d) := fut_mid hok.dig hco hf hd32 hctx hF2
  have hF4 : ∀ j, j ≤ d → Fut D.data (onesL c ctx j) := fun j hj => fut_ones hok.dig hco hf (by omega) j hj hF3
  have HF1 := hid hF1
  have HF2 := hid hF2
  have HF4 := hid hF4
  have HN := hid hnum
  have H2 := hid h2d'
  clear hd hnum hF hF1 hF2 hF3 hF4 h2d'
  go_enter Try.func28, Try.ntmps28
  go_wp2_with fail
  go_loopg [7] d (fun k n wr => ∃ (D' : Dec), k ≤ d ∧ n = .int .i64 ((d - k : Nat) : Int) ∧ IsDec 69 wr b g h D' ∧ DecOk D' ∧ Syn D' (onesL c ctx (d - k)) ∧ Hid (D'.data = D.data) ∧ Chg [b, h] w wr)
  case atStart => exact ⟨D, Nat.le_refl _, by simp, hc, hok, by simpa [onesL] using hS, hid rfl, Chg.refl _ _⟩
  case round =>
    obtain ⟨D', hk, rfl, hcr, hokr, hSr, Hdata, hch⟩ := hrel
    have hdone : ∀ Dz, DecOk Dz → Syn Dz (midL c ctx d) → Dz.data = D.data → True := fun _ _ _ _ => trivial
    clear hdone
    rcases gk with _ | k
    · simp only [Nat.sub_zero] at hSr ⊢
      have hlo : CodOk (onesL c ctx d) := onesL_ok hco (by omega)
      have hlf : CodFit (onesL c ctx d) := onesL_fit hco hf (by omega)
      have hol : ctx + d ≤ (onesL c ctx d).odds.length := by rw [onesL_odds_len]; omega
      by_cases hlt : d < 32
      · have t4 : decide ((d : Int) < 32) = true := by simp; omega
        have hmid : midL c ctx d = putL (onesL c ctx d) (ctx + d) 0 := by unfold midL; rw [if_pos hlt]
        have hcl : ctx + d < (onesL c ctx d).odds.length := by rw [onesL_odds_len]; omega
        have hsy := dget_syn hSr hokr hlo hlf hcl (bit := 0) (by simp) (by rw [Hdata.out, ← hmid]; exact HF2.out)
        have hok2 := dget_ok hokr (ctx := ctx + d) (by rw [hSr.odds]; exact hcl)
        have hdat := dget_data D' (ctx + d)
        have HS := hid hsy
        have HM := hid hmid
        have HDt := hid hdat
        clear hmid hsy hdat
        go_wp2_with fail
        rw [show ((ctx : Int) + d) = ((ctx + d : Nat) : Int) from by omega]
        refine (dget_any wr b g h D' (ctx + d) hcr hokr hSr.err (by rw [hSr.odds]; exact hcl)).mono ?_
        rintro e wz ⟨rfl, hcz, hchz⟩
        rw [HS.out.1]
        have hokz := hok2
        have hSz : Syn (dget D' (ctx + d)).2 (midL c ctx d) := by rw [HM.out]; exact HS.out.2
        have hdz : Hid ((dget D' (ctx + d)).2.data = D.data) := hid (by rw [HDt.out]; exact Hdata.out)
        have hchz2 : Chg [b, h] w wz := hch.trans_same hchz
        generalize (dget D' (ctx + d)).2 = Dz at *
        go_wp2_with fail
        refine (draw_syn wz b g h Dz (midL c ctx d) (v + 1 - 2 ^ d) d hcz hokz hSz hmidok hmidf hd32 (by have := H2.out; rw [Nat.pow_succ] at this; omega) (by have : 1 ≤ 2 ^ d := Nat.one_le_two_pow; omega) (by rw [hdz.out]; exact HF1.out)).mono ?_
        rintro e w2 ⟨rfl, D2, hc2, hok3, hS2, hd2, hch2⟩
        obtain ⟨vd2, vo2, hb2, hl2, ho2⟩ := hc2.ex
        have c5z := hb2.cell 5
        simp at c5z
        rw [hS2.err] at c5z
        have f5z := hb2.frozen 5
        have hgb2 := hl2.ne_ hb2 (by decide)
        have hhb2 := ho2.ne_ hb2 (by decide)
        have HD2 := hid hd2
        have hval := num_val v d h2d hv
        have hch3 : Chg [b, h] w w2 := hchz2.trans hch2 (by simp)
        clear hd2
        by_cases hm : v ≤ most
        · have t6 : decide (most < v) = false := by simpa using hm
          go_wp2
          go_ret
          unfold NumPost
          simp only [if_pos hm]
          exact ⟨rfl, D2, hc2, ⟨hok3, by rw [HN.out]; exact hS2⟩, by rw [HD2.out]; exact hdz.out, hch3⟩
        · have t6 : decide (most < v) = true := by simp; omega
          go_wp2
          go_ret
          unfold NumPost
          simp only [if_neg hm]
          refine ⟨rfl, { D2 with err := 2 }, ⟨vd2, vo2, ?_, hl2.far (p := ⟨b, 5, none⟩) hgb2 _, ho2.far (p := ⟨b, 5, none⟩) hhb2 _⟩, rfl, by simp only; rw [HD2.out]; exact hdz.out, hch3.setCell (by simp) _⟩
          have := hb2.set_ 5 (.int .i64 2)
          simpa using this
      · have t4 : decide ((d : Int) < 32) = false := by simp; omega
        have hmid : midL c ctx d = onesL c ctx d := by unfold midL; rw [if_neg hlt]
        have hcz := hcr
        have hokz := hokr
        have hSz : Syn D' (midL c ctx d) := by rw [hmid]; exact hSr
        have hdz := Hdata
        have hchz2 := hch
        clear hmid
        generalize D' = Dz at *
        obtain ⟨wz, hwz⟩ : ∃ wz, wz = wr := ⟨_, rfl⟩
        subst hwz
        go_wp2_with fail
        refine (draw_syn wz b g h Dz (midL c ctx d) (v + 1 - 2 ^ d) d hcz hokz hSz hmidok hmidf hd32 (by have := H2.out; rw [Nat.pow_succ] at this; omega) (by have : 1 ≤ 2 ^ d := Nat.one_le_two_pow; omega) (by rw [hdz.out]; exact HF1.out)).mono ?_
        rintro e w2 ⟨rfl, D2, hc2, hok3, hS2, hd2, hch2⟩
        obtain ⟨vd2, vo2, hb2, hl2, ho2⟩ := hc2.ex
        have c5z := hb2.cell 5
        simp at c5z
        rw [hS2.err] at c5z
        have f5z := hb2.frozen 5
        have hgb2 := hl2.ne_ hb2 (by decide)
        have hhb2 := ho2.ne_ hb2 (by decide)
        have HD2 := hid hd2
        have hval := num_val v d h2d hv
        have hch3 : Chg [b, h] w w2 := hchz2.trans hch2 (by simp)
        clear hd2
        by_cases hm : v ≤ most
        · have t6 : decide (most < v) = false := by simpa using hm
          go_wp2
          go_ret
          unfold NumPost
          simp only [if_pos hm]
          exact ⟨rfl, D2, hc2, ⟨hok3, by rw [HN.out]; exact hS2⟩, by rw [HD2.out]; exact hdz.out, hch3⟩
        · have t6 : decide (most < v) = true := by simp; omega
          go_wp2
          go_ret
          unfold NumPost
          simp only [if_neg hm]
          refine ⟨rfl, { D2 with err := 2 }, ⟨vd2, vo2, ?_, hl2.far (p := ⟨b, 5, none⟩) hgb2 _, ho2.far (p := ⟨b, 5, none⟩) hhb2 _⟩, rfl, by simp only; rw [HD2.out]; exact hdz.out, hch3.setCell (by simp) _⟩
          have := hb2.set_ 5 (.int .i64 2)
          simpa using this
    · obtain ⟨m, hm⟩ : ∃ m, m = d - (k + 1) := ⟨_, rfl⟩
      rw [← hm] at hSr ⊢
      have hm1 : m < d := by omega
      have hm2 : d - k = m + 1 := by omega
      have HM := hid hm2
      clear hm hm2
      have t4 : decide ((m : Int) < 32) = true := by simp; omega
      have hlo : CodOk (onesL c ctx m) := onesL_ok hco (by omega)
      have hlf : CodFit (onesL c ctx m) := onesL_fit hco hf (by omega)
      have hcl : ctx + m < (onesL c ctx m).odds.length := by rw [onesL_odds_len]; omega
      have hsy := dget_syn hSr hokr hlo hlf hcl (bit := 1) (by simp) (by rw [Hdata.out]; exact HF4.out (m + 1) (by omega))
      have hok2 := dget_ok hokr (ctx := ctx + m) (by rw [hSr.odds]; exact hcl)
      have hdat := dget_data D' (ctx + m)
      have HS := hid hsy
      have HDt := hid hdat
      clear hsy hdat
      go_wp2_with fail
      rw [show ((ctx : Int) + m) = ((ctx + m : Nat) : Int) from by omega]
      refine (dget_any wr b g h D' (ctx + m) hcr hokr hSr.err (by rw [hSr.odds]; exact hcl)).mono ?_
      rintro e wz ⟨rfl, hcz, hchz⟩
      rw [HS.out.1]
      go_wp2_with fail
      go_roundg k
      case measure => omega
      case rel =>
        rw [HM.out]
        exact ⟨_, by omega, by go_num, hcz, hok2, HS.out.2, hid (by rw [HDt.out]; exact Hdata.out), hch.trans_same hchz⟩
end Go.Proofs.Ytofdgpgleghllaa
