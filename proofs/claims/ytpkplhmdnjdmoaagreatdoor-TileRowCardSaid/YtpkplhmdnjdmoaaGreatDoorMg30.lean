/- parts.Best by its contract. -/
import Derived.Test.YtpkplhmdnjdmoaaGreatDoorMg29
import Derived.Deep.RegionLaw
set_option linter.unusedVariables false
set_option linter.unusedSimpArgs false
namespace Go.Proofs.YtpkplhmdnjdmoaaGreatDoor
set_option linter.unusedSimpArgs false
set_option linter.unusedVariables false
open Go.RowKit

theorem planOf_len (o n warm : Nat) (l : List Int) : (planOf o n warm l).length = (sizesL o n warm).length := by unfold planOf; rw [List.length_map, splitL_len]
theorem planOf_ok (o n warm : Nat) (l : List Int) : KsOk (planOf o n warm l) := by
  intro k hk
  obtain ⟨p, _, rfl⟩ := List.mem_map.1 hk
  exact chooseK_ok p

set_option maxRecDepth 100000 in
set_option maxHeartbeats 2000000 in
theorem pbest_ok (n warm most : Nat) (l : List Int) (Al : Option Addr) (capl : Nat) (w : World) (h1 : 1 ≤ n) (h2 : n ≤ 4096) (h3 : warm ≤ n) (hm : most ≤ 8) (hll : l.length = n - warm) (hw : ∀ x ∈ l, wideP x) (hcl : Cells vi w Al l) (hcap1 : l.length ≤ capl) (hcap2 : capl ≤ 9223372036854775807) :
    Calls Tryz.prog 19 #[.int .i64 n, .int .i64 warm, .int .i64 most, .slice Al l.length capl] w fun e w' => ∃ v G, e = .returned (.tuple #[.agg #[.int .i64 (bestPlan n warm most l).order, v], .int .i64 0]) ∧ Own w' 3 v G ((bestPlan n warm most l).ks.map i64) ∧ Chg [] w w' ∧ ∀ x ∈ G, w.heap.size ≤ x := by
  obtain ⟨L, hL⟩ : ∃ L, L = l.length := ⟨_, rfl⟩
  have hright := fun w hc => right_yes n warm l Al capl w h1 h2 h3 hll hw hc
  have hsizes := fun o (ho : o ≤ 8) w => sizes_ok o n warm w ho h1 h2 h3
  have hcost := fun o (ho : o ≤ 8) (hne : sizesL o n warm ≠ []) A cap w hc hcl => pcost_ok o n warm (planOf o n warm l) A cap l Al capl w ho h1 h2 h3 hne (planOf_len o n warm l) (planOf_ok o n warm l) hc hll hw hcl hcap1 hcap2
  rw [← hL] at hright hcost hll hcap1 ⊢
  have HRight := hid hright
  have HSizes := hid hsizes
  have HCost := hid hcost
  have HW := hid hw
  have HL := hid hL
  have HLL := hid hll
  have hL4 : L ≤ 4096 := by omega
  have hmax : max (most : Int) 0 = (most : Int) := by omega
  have hmin : min (most : Int) 8 = (most : Int) := by omega
  have hbp : bestPlan n warm most l = plans n warm l (most + 1) := by unfold bestPlan; rw [Nat.min_eq_left hm]
  have HBP := hid hbp
  clear hright hsizes hcost hw hL hll hbp
  go_enter Tryz.func19, Tryz.ntmps19
  go_wp2_with fail
  have ch0 : Chg [] w (w.alloc (.cells #[.int .i64 0, .slice none 0 0] 46)) := (Chg.refl [] w).alloc _
  refine (HRight.out _ (hcl.same ch0)).mono ?_
  rintro e w1' ⟨rfl, rfl⟩
  go_wp2_with fail
  have hbb := (Blk.new (w.alloc (.cells #[.int .i64 0, .slice none 0 0] 46)) 46 #[.int .i64 0, .slice none 0 0])
  have hbr := (Blk.new w 46 #[.int .i64 0, .slice none 0 0]).alloc (.cells #[.int .i64 0, .slice none 0 0] 46)
  have chA : Chg [] w ((w.alloc (.cells #[.int .i64 0, .slice none 0 0] 46)).alloc (.cells #[.int .i64 0, .slice none 0 0] 46)) := ((Chg.refl [] w).alloc _).alloc _
  have hne0 : w.heap.size ≠ w.heap.size + 1 := by omega
  have hsz1 : (w.alloc (.cells #[.int .i64 0, .slice none 0 0] 46)).heap.size = w.heap.size + 1 := by simp
  rw [hsz1] at hbb
  generalize hwA : (w.alloc (.cells #[.int .i64 0, .slice none 0 0] 46)).alloc (.cells #[.int .i64 0, .slice none 0 0] 46) = wA at *
  obtain ⟨br, hbrd⟩ : ∃ x, x = w.heap.size := ⟨_, rfl⟩
  obtain ⟨bb, hbbd⟩ : ∃ x, x = w.heap.size + 1 := ⟨_, rfl⟩
  rw [← hbbd] at hne0 hbb ⊢
  rw [← hbrd] at hne0 hbr ⊢
  have hltb := hbb.lt
  have HBR := hid hbrd
  have HBB := hid hbbd
  have hcA := hcl.same chA
  have HWA := hid hwA
  have HCLW := hid hcl
  clear hsz1 hwA hbrd hbbd ch0 hcl
  go_loopg [11, 12] (most + 1) (fun j lv ov wr => j ≤ most + 1 ∧ ov = .int .i64 ((most + 1 - j : Nat) : Int) ∧ ∃ so sks sc v G, lv = .int .i64 ((sc : Nat) : Int) ∧ Hid (plans n warm l (most + 1 - j) = ⟨so, sks, sc⟩) ∧
      Blk wr bb 46 #[.int .i64 ((so : Nat) : Int), v] ∧ Own wr 3 v G (sks.map i64) ∧ Chg [bb] wA wr ∧ ∀ x ∈ G, wA.heap.size ≤ x)
  case atStart => exact ⟨Nat.le_refl _, by simp, 0, [], 0, .slice none 0 0, [], rfl, hid (by simp [plans]), hbb, Own.nil _ _, Chg.refl _ _, by simp⟩
  case round =>
    obtain ⟨hj, rfl, so, sks, sc, v, G, rfl, Hpl, hbbr, hownr, hchr, hG⟩ := hrel
    have HG := hid hG
    obtain ⟨Av, capv, rfl, -, -, -⟩ := hownr.open_map
    clear hG hbb
    rcases gk with _ | j
    · have t4 : decide ((most : Int) + 1 ≤ (most : Int)) = false := decide_eq_false (by omega)
      have hbrr := hbr.chg hchr (by simpa using hne0)
      have hb0 := hbbr.cell 0
      have hb1 := hbbr.cell 1
      have hb2 := hbrr.cell 0
      have hb3 := hbrr.cell 1
      have hb4 := hbrr.frozen 0
      have hb5 := hbrr.frozen 1
      simp at hb0 hb1 hb2 hb3
      go_wp2_with fail
      have hF := (hbrr.set_ 0 (.int .i64 (so : Int))).set_ 1 (.slice Av sks.length capv)
      have hoF := (hownr.far (p := ⟨br, 0, none⟩) (fun hm => by have h7 := HG.out _ hm; have h8 := hbr.lt; simp at h7; omega) (.int .i64 (so : Int))).far (p := ⟨br, 1, none⟩) (fun hm => by have h7 := HG.out _ hm; have h8 := hbr.lt; simp at h7; omega) (.slice Av sks.length capv)
      have chF : Chg [bb, br] wA ((wr.setCell ⟨br, 0, none⟩ (.int .i64 (so : Int))).setCell ⟨br, 1, none⟩ (.slice Av sks.length capv)) := ((hchr.mono (by simp)).setCell (by simp) _).setCell (by simp) _
      generalize hwF : (wr.setCell ⟨br, 0, none⟩ (.int .i64 (so : Int))).setCell ⟨br, 1, none⟩ (.slice Av sks.length capv) = wF at *
      have hF0 := hF.cell 0
      have hF1 := hF.cell 1
      simp at hF0 hF1
      have e1 : bestPlan n warm most l = ⟨so, sks, sc⟩ := by rw [HBP.out, ← Hpl.out]; rfl
      refine bodyPost_ret (v := .tuple #[.agg #[.int .i64 (so : Int), .slice Av sks.length capv], .int .i64 0]) (by simp [results, Tryz.results19, go_sem, hF0, hF1]) rfl ⟨.slice Av sks.length capv, G, ?_, ?_, ?_, ?_⟩
      · rw [e1]
      · rw [e1]; exact hoF
      · refine chA.trans chF ?_
        intro x hx
        right
        have := HBR.out
        have := HBB.out
        simp at hx
        omega
      · intro x hx
        have := HG.out x hx
        have := chA.size
        omega
    · obtain ⟨i, hi1⟩ : ∃ i, i = most + 1 - (j + 1) := ⟨_, rfl⟩
      rw [← hi1] at Hpl ⊢
      have hi2 : i ≤ most := by omega
      have hi3 : most + 1 - j = i + 1 := by omega
      have HI := hid hi3
      have t4 : decide (i ≤ most) = true := decide_eq_true hi2
      clear hi1 hi3
      have hstep := plans_succ n warm l i
      rw [Hpl.out] at hstep
      have hi8 : i ≤ 8 := by omega
      go_wp2_with fail
      refine (HSizes.out i hi8 _).mono ?_
      rintro e w2 ⟨v2, G2, rfl, hown2, ch2, hG2⟩
      obtain ⟨A2, cap2, rfl, hcl2, hcm2, -⟩ := hown2.open_map
      by_cases hne : sizesL i n warm = []
      · have hst : plans n warm l (i + 1) = ⟨so, sks, sc⟩ := by rw [hstep, planStep, if_pos hne]
        have HST := hid hst
        rw [hne] at hown2 hcl2 ⊢
        clear hne hstep hst
        simp only [List.length_nil]
        go_wp2_with fail
        go_roundg j
        case measure => omega
        case rel =>
          rw [HI.out]
          exact ⟨by omega, by go_num, so, sks, sc, _, G, rfl, HST, hbbr.chg ch2 (by simp), hownr.same ch2, hchr.trans_same (ch2.mono (by simp)), HG.out⟩
      · have hN := sizesL_len hne
        have hsum := sizesL_sum hne
        obtain ⟨ss, hss⟩ : ∃ ss, ss = sizesL i n warm := ⟨_, rfl⟩
        have hP2 : 2 ^ i ≤ 256 := Nat.pow_le_pow_right (n := 2) (j := 8) (by decide) hi8
        have hP1 := Nat.two_pow_pos i
        rw [← hN] at hP1 hP2
        have hstc := HCost.out i hi8 hne
        rw [planStep, if_neg hne] at hstep
        rw [← hss] at hN hsum hown2 hcl2 hP1 hP2 hstep hstc ⊢
        have hpl : planOf i n warm l = (splitL ss l).map chooseK := by unfold planOf; rw [← hss]
        have hpll := planOf_len i n warm l
        rw [← hss] at hpll
        obtain ⟨N, hNd⟩ : ∃ N, N = ss.length := ⟨_, rfl⟩
        rw [← hNd] at hP1 hP2 hcl2 hpll ⊢
        have t5 : ((N : Int) == 0) = false := by rw [beq_eq_false_iff_ne]; omega
        have HN := hid hNd
        have HStep := hid hstep
        have HStc := hid hstc
        have HPL := hid hpl
        have HPLL := hid hpll
        have HSS := hid hss
        have HSum := hid hsum
        clear hN hsum hss hstep hstc hpl hpll hNd hne
        go_wp2_with fail
        have hbp := Blk.new w2 46 #[.int .i64 i, .slice none 0 0]
        have hch2 : Chg [bb] wA w2 := hchr.trans_same (ch2.mono (by simp))
        have hcS : Cells i64 w2 A2 ss := by have := hown2.cells; exact this
        have hcL2 := HCLW.out.same (chA.trans hch2 (by
          intro x hx
          right
          have := HBB.out
          simp at hx
          omega))
        obtain ⟨bp, hbpd⟩ : ∃ x, x = w2.heap.size := ⟨_, rfl⟩
        rw [← hbpd] at hbp ⊢
        have HBP2 := hid hbpd
        have HLe : Hid (L ≤ capl) := hid hcap1
        have HLe2 := hid hcap2
        have ch3 : Chg [] w2 (w2.alloc (.cells #[.int .i64 i, .slice none 0 0] 46)) := (Chg.refl [] w2).alloc _
        clear hbpd hcap1 hcap2 hcl2 hcm2
        go_loopg [15, 44] N (fun q rv iv wx => q ≤ N ∧ iv = .int .i64 ((N - q : Nat) : Int) ∧ ∃ A' c' rest v G ks, rv = .slice A' rest.length c' ∧ Hid (rest = l.drop (startOf ss (N - q))) ∧ Cells vi w2 A' rest ∧ rest.length ≤ c' ∧ c' ≤ 9223372036854775807 ∧ rest.length ≤ 4096 ∧
          Blk wx bp 46 #[.int .i64 i, v] ∧ Own wx 3 v G (ks.map i64) ∧ Hid (ks = ((splitL ss l).map chooseK).take (N - q)) ∧ Chg [] w2 wx ∧ ∀ x ∈ G, w2.heap.size < x)
        case atStart =>
          refine ⟨Nat.le_refl _, by simp, Al, capl, l, .slice none 0 0, [], [], ?_, hid (by simp [startOf]), hcL2, ?_, HLe2.out, ?_, hbp, Own.nil _ _, hid (by simp), ch3, by simp⟩
          · rw [← HL.out]
          · rw [← HL.out]; exact HLe.out
          · rw [← HL.out]; exact hL4
        case round =>
          obtain ⟨hq, rfl, A', c', rest, vp, Gp, ks, rfl, Hrest, hcR, hrc, hcm, hr4, hbpx, hownp, Hks, hchx, hGp⟩ := hrel
          have HGp := hid hGp
          clear hGp hbp ch3
          obtain ⟨Ap, capp, rfl, -, -, -⟩ := hownp.open_map
          rcases gk with _ | q
          · have t7 : decide (((N - 0 : Nat) : Int) < (N : Int)) = false := by simp
            have hp0 := hbpx.cell 0
            have hp1 := hbpx.cell 1
            simp at hp0 hp1
            have e2 : ((splitL ss l).map chooseK).take (N - 0) = (splitL ss l).map chooseK := by rw [Nat.sub_zero, HN.out, ← splitL_len ss l, ← List.length_map (f := chooseK), List.take_length]
            have hksN : ks.length = N := by rw [Hks.out, e2, ← HPL.out, HPLL.out, HN.out]
            have hcKs : Cells i64 wr Ap (planOf i n warm l) := by
              have h9 := hownp.cells
              rw [Hks.out, e2, ← HPL.out] at h9
              exact h9
            have hcost := HStc.out Ap capp wr hcKs (hcL2.same hchx)
            have e3 : (planOf i n warm l).length = N := by rw [HPLL.out, HN.out]
            rw [e3] at hcost
            obtain ⟨CC, hCC⟩ : ∃ C, C = costP (planOf i n warm l) (splitL ss l) := ⟨_, rfl⟩
            rw [← hCC] at hcost
            have hst := HStep.out
            rw [← hCC] at hst
            have HST := hid hst
            have HCC := hid hCC
            have HKSN := hid hksN
            rw [hksN] at hp1 hbpx hownp
            have hHks : Hid (ks = planOf i n warm l) := hid (by rw [Hks.out, e2, HPL.out])
            clear e2 e3 hCC hst hksN hcKs
            go_wp2_with fail
            refine hcost.mono ?_
            rintro e w4 ⟨rfl, ch4⟩
            have ch4' : Chg [] w2 w4 := hchx.trans_same ch4
            have hbp4 := hbpx.chg ch4 (by simp)
            have hown4 := hownp.same ch4
            have hbb4 := hbbr.chg (ch2.trans_same ch4') (by simp)
            have hownr4 := hownr.same (ch2.trans_same ch4')
            have hch4 : Chg [bb] wA w4 := hchr.trans_same ((ch2.trans_same ch4').mono (by simp))
            have hp0 := hbp4.cell 0
            have hp1 := hbp4.cell 1
            have hq0 := hbb4.cell 0
            have hq1 := hbb4.cell 1
            have hq2 := hbb4.frozen 0
            have hq3 := hbb4.frozen 1
            simp at hp0 hp1 hq0 hq1
            clear hcost
            by_cases hc0 : sc = 0
            · have t8 : ((sc : Int) == 0) = true := by rw [beq_iff_eq]; omega
              have hres := HST.out
              rw [if_pos (.inl hc0)] at hres
              have HRES := hid hres
              clear hres hc0
              go_wp2_with fail
              go_roundg j
              case measure => omega
              case rel =>
                rw [HI.out]
                have h1 := (hbb4.set_ 0 (.int .i64 (i : Int))).set_ 1 (.slice Ap N capp)
                have h2 := (hown4.far (p := ⟨bb, 0, none⟩) (fun hm => by have h7 := HGp.out _ hm; have h8 := hch2.size; simp at h7; omega) (.int .i64 (i : Int))).far (p := ⟨bb, 1, none⟩) (fun hm => by have h7 := HGp.out _ hm; have h8 := hch2.size; simp at h7; omega) (.slice Ap N capp)
                rw [hHks.out] at h2
                refine ⟨by omega, by go_num, i, planOf i n warm l, CC, .slice Ap N capp, Gp, rfl, HRES, by simpa using h1, h2, (hch4.setCell (by simp) _).setCell (by simp) _, fun x hx => ?_⟩
                have h7 := HGp.out x hx
                have h8 := hch2.size
                omega
            · have t8 : ((sc : Int) == 0) = false := by rw [beq_eq_false_iff_ne]; omega
              by_cases hc1 : CC < sc
              · have t9 : decide (CC < sc) = true := by simpa using hc1
                have hres := HST.out
                rw [if_pos (.inr hc1)] at hres
                have HRES := hid hres
                clear hres hc0
                go_wp2_with fail
                go_roundg j
                case measure => omega
                case rel =>
                  rw [HI.out]
                  have h1 := (hbb4.set_ 0 (.int .i64 (i : Int))).set_ 1 (.slice Ap N capp)
                  have h2 := (hown4.far (p := ⟨bb, 0, none⟩) (fun hm => by have h7 := HGp.out _ hm; have h8 := hch2.size; simp at h7; omega) (.int .i64 (i : Int))).far (p := ⟨bb, 1, none⟩) (fun hm => by have h7 := HGp.out _ hm; have h8 := hch2.size; simp at h7; omega) (.slice Ap N capp)
                  rw [hHks.out] at h2
                  refine ⟨by omega, by go_num, i, planOf i n warm l, CC, .slice Ap N capp, Gp, rfl, HRES, by simpa using h1, h2, (hch4.setCell (by simp) _).setCell (by simp) _, fun x hx => ?_⟩
                  have h7 := HGp.out x hx
                  have h8 := hch2.size
                  omega
              · have t9 : decide (CC < sc) = false := by simpa using hc1
                have hres := HST.out
                rw [if_neg (by rintro (h | h); exact hc0 h; exact hc1 h)] at hres
                have HRES := hid hres
                clear hres hc0
                go_wp2_with fail
                go_roundg j
                case measure => omega
                case rel =>
                  rw [HI.out]
                  exact ⟨by omega, by go_num, so, sks, sc, _, G, rfl, HRES, hbb4, hownr4, hch4, HG.out⟩
          · obtain ⟨m, hm1⟩ : ∃ m, m = N - (q + 1) := ⟨_, rfl⟩
            rw [← hm1] at Hrest Hks ⊢
            have hm2 : m < N := by omega
            have hm3 : N - q = m + 1 := by omega
            have HM := hid hm3
            have his : m < ss.length := by rw [← HN.out]; exact hm2
            obtain ⟨gs_, os_, rfl, hcells⟩ := (hcS.same hchx).i64_at his
            have hget := splitL_get ss l m his
            have hfit := startOf_fit ss m his
            have hdr := drop_startOf l ss m his
            rw [← Hrest.out] at hget hdr
            have hkl : m < ((splitL ss l).map chooseK).length := by rw [List.length_map, splitL_len]; exact his
            have hkt := take_snoc' ((splitL ss l).map chooseK) hkl
            have hkm : ((splitL ss l).map chooseK)[m] = chooseK (rest.take ss[m]) := by
              have h9 : ((splitL ss l).map chooseK)[m]? = some (chooseK (rest.take ss[m])) := by rw [List.getElem?_map, hget]; rfl
              exact (List.getElem?_eq_some_iff.1 h9).2
            rw [hkm, ← Hks.out] at hkt
            obtain ⟨s, hs⟩ : ∃ s, s = ss[m] := ⟨_, rfl⟩
            rw [← hs] at hcells hfit hdr hkt
            have hsr : s ≤ rest.length := by
              have := HSum.out
              have := HLL.out
              have := HL.out
              rw [Hrest.out, List.length_drop]
              omega
            have hwp : ∀ x ∈ rest.take s, wideP x := fun x hx => HW.out x (by
              have := List.mem_of_mem_take hx
              rw [Hrest.out] at this
              exact List.mem_of_mem_drop this)
            have hpl : (rest.take s).length = s := by rw [List.length_take]; omega
            have hcP := (hcR.take s).same hchx
            have hch_ := choose_ok (rest.take s) A' c' wr.drew hwp (hcP.same (Chg.refl [] wr).drew) (by omega)
            rw [hpl] at hch_
            obtain ⟨A3, hsl, -, hcl3⟩ := slice_from (P := Tryz.prog) Tryz.underlying29 size_int A' rest.length c' s hsr hrc
            have hcR3 := hcl3 Int vi w2 rest rfl hcR
            have HDR : Hid (rest.drop s = l.drop (startOf ss (m + 1))) := hid hdr
            have hdl : rest.length - s = (rest.drop s).length := by rw [List.length_drop]
            rw [hdl] at hsl
            have hs4 : (rest.drop s).length ≤ 4096 := by rw [List.length_drop]; omega
            have hsc : (rest.drop s).length ≤ c' - s := by rw [List.length_drop]; omega
            obtain ⟨rest2, hrest2⟩ : ∃ r, r = rest.drop s := ⟨_, rfl⟩
            rw [← hrest2] at hsl hs4 hsc hcR3 HDR
            have hsc' : s ≤ c' := by omega
            obtain ⟨kc, hkc⟩ : ∃ r, r = chooseK (rest.take s) := ⟨_, rfl⟩
            rw [← hkc] at hch_ hkt
            have HKT := hid hkt
            have hksl : ks.length ≤ 256 := by rw [Hks.out, List.length_take]; omega
            have hd1 := hbpx.cell 1
            have hf1 := hbpx.frozen 1
            simp at hd1
            clear hkt hkm hkl hget hdr hs hwp hcl3 hfit hdl hrest2 his hm1 hm3 hcR hpl hkc
            have hbGp : bp ∉ Gp := fun hm => by have := HGp.out _ hm; have := HBP2.out; omega
            have hba := hbpx.alloc (.cells #[.int .i64 (kc : Int)] 3)
            have n1 : (wr.alloc (Obj.cells #[.int .i64 (kc : Int)] 3)).cell? ⟨bp, 1, none⟩ = some (.slice Ap ks.length capp) := by simpa using hba.cell 1
            clear hba
            go_wp2_with fail
            go_region_law (first | (refine step_append_o1 (by rfl) (by rfl) int_elem (by rfl) (by rfl) ((hownp.alloc (.cells #[.int .i64 (kc : Int)] 3)).drew) (.int .i64 (kc : Int)) (by rfl) (by simp [go_sem]) (by rfl) (by rw [List.length_map]; omega) (by rw [List.length_map]; omega) ?_; intro g2 cap2 w3 hr2 gr2; have hbb : Blk w3 bp 46 #[.int .i64 i, .slice Ap ks.length capp] := ((hbpx.alloc (.cells #[.int .i64 (kc : Int)] 3)).drew).chg gr2.chg hbGp; have y1 := hbb.cell 1; have z1 := hbb.frozen 1; simp at y1) | (go_simp; go_at_call 48; refine hch_.mono ?_; rintro e w' ⟨rfl, rfl⟩))
            all_goals
              go_wp2_with fail
              go_roundg q
              case measure => omega
              case rel =>
                rw [HM.out]
                have h1 := hbb.set_ 1 (.slice (some ⟨g2, 0, none⟩) (ks.length + 1) cap2)
                have hgb : g2 ≠ bp := by
                  intro he
                  rcases gr2.new g2 (by simp) with h9 | h9
                  · exact hbGp (he ▸ h9)
                  · have h8 := hbpx.lt
                    simp at h9
                    omega
                have hr3 := hr2.far (p := ⟨bp, 1, none⟩) hgb (.slice (some ⟨g2, 0, none⟩) (ks.length + 1) cap2)
                have h2 := hr3.toOwn
                have e5 : (List.map i64 ks).length = ks.length := List.length_map _
                rw [e5] at h2
                have ch5 : Chg [] w2 w3 := ((hchx.alloc (.cells #[.int .i64 (kc : Int)] 3)).drew).trans gr2.chg (fun x hx => .inr (Nat.le_of_lt (HGp.out x hx)))
                refine ⟨by omega, by go_num, A3, _, rest2, .slice (some ⟨g2, 0, none⟩) (ks.length + 1) cap2, [g2], ks ++ [kc], rfl, HDR, hcR3, hsc, by omega, hs4, ?_, ?_, hid ?_, ?_, ?_⟩
                · simpa using h1
                · simpa [i64] using h2
                · rw [HKT.out]
                · exact ch5.setCell (.inr (by have := HBP2.out; simp; omega)) _
                · intro x hx
                  have hx' : x = g2 := by simpa using hx
                  rcases gr2.new x (by simp [hx']) with h9 | h9
                  · exact HGp.out _ h9
                  · have h8 := hbpx.lt
                    have := HBP2.out
                    simp at h9
                    omega
end Go.Proofs.YtpkplhmdnjdmoaaGreatDoor
