/- The law TileBuilt by its contract. -/
import Derived.Test.YtpkplhmdnjdmoaaGreatDoorMg50
set_option linter.unusedVariables false
set_option linter.unusedSimpArgs false
namespace Go.Proofs.YtpkplhmdnjdmoaaGreatDoor
set_option linter.unusedSimpArgs false
set_option linter.unusedVariables false
open Go.RowKit

set_option maxRecDepth 100000 in
set_option maxHeartbeats 4000000 in
theorem built_ok (w : World) (A : Option Addr) (cap : Nat) (L : List Int) (hc : Cells vi w A L) (hin : ∀ x ∈ L, In64 x) (hlen : L.length ≤ 9223372036854775807) (hp : Pts w) :
    Calls Tryz.prog 4 #[.slice A L.length cap] w fun e w' => e = .returned (.bool true) ∧ Chg [] w w' := by
  have hnew := tape_new w A cap L hc hin hlen
  have HP := hid hp
  clear hc hin hlen hp
  go_enter Tryz.func4, Tryz.ntmps4
  go_wp2_with fail
  refine hnew.mono ?_
  rintro e w1 ⟨b, rfl, htp, ch1, hb⟩
  have hdr := drawn_tp w1 b cap 0 A L htp
  clear hnew htp
  go_wp2_with fail
  refine hdr.mono ?_
  rintro e w2 ⟨vl, g, l, at', W, H, d, rfl, hrow, hll, hsm, _, ch2, hg, hW0, hW1, hH0, hH1, hd0, hd1⟩
  have HC2 := hid (ch1.trans ch2 fun x hx => .inr (by simp at hx; omega))
  obtain ⟨capl, rfl, hcl⟩ := Row.cells_vi hrow
  have hglt := hrow.lt
  have HT : Hid (Tile w2 l (some ⟨g, 0, none⟩) W H d) := hid ⟨hW0, hW1, hH0, hH1, hd0, hd1, hll, hsm, hcl⟩
  have HP2 : Hid (Pts w2) := hid (HP.out.same HC2.out)
  have hpw := HP2.out.lt
  obtain ⟨m, hm⟩ : ∃ m, m = l.length := ⟨_, rfl⟩
  have hm1 : 1 ≤ m := by rw [hm]; exact HT.out.pos
  have hm256 : m ≤ 256 := by rw [hm]; exact HT.out.le
  -- what the layers give
  have hgb := fun w c => gbest_ok l (some ⟨g, 0, none⟩) capl W H d w hW0 (by omega) hH0 (by omega) hd0 hd1 hll hsm c
  have hgf := fun Ak capk w hc hck => gfore_ok l (some ⟨g, 0, none⟩) capl W H d (bestKinds l W H d) Ak capk w hW0 (by omega) hH0 (by omega) hd0 hd1 hll hsm hc (bestKinds_len l W H d) (bestKinds_ok l W H d) hck
  have hel := foreL_len l W H d (bestKinds l W H d)
  have hfl := foreF_len l W H d
  have hfw := foreF_wide l W H d hd0 hd1
  have hgbits : tileBits 2 l W H d = bitsOf 2 3 ++ (allOf (kindsI l W H d) 4 ++ planBits (foreF l W H d) (W * H)) := rfl
  rw [← hll, ← hm] at hel hfl hgbits
  have hki := kindsI_vi l W H d
  have hkl := kindsI_len l W H d
  have hko := kindsI_ok l W H d
  have hff : foreF l W H d = (foreL l W H d (bestKinds l W H d)).map fun v => foldI v d := rfl
  rw [hki] at hgb
  rw [bestKinds_len] at hgf
  have hck' : ∀ Ak w, Cells vi w Ak (kindsI l W H d) → Cells i64 w Ak (bestKinds l W H d) := fun Ak w h => Cells.map (f := vi) (k := Int.ofNat) h
  generalize foreL l W H d (bestKinds l W H d) = E at *
  obtain ⟨EF, hEF⟩ : ∃ EF, EF = foreF l W H d := ⟨_, rfl⟩
  rw [← hEF] at hfl hfw hgbits hff
  obtain ⟨K, hK⟩ : ∃ K, K = kindsI l W H d := ⟨_, rfl⟩
  rw [← hK] at hgb hkl hko hgbits hck'
  rw [← hm] at hgb hgf ⊢
  have hko' := ksOk_best (n := m) EF
  have hkl' := ks_len_best (n := m) EF
  have hpo := bestPlan_ok (n := m) (warm := 0) (most := 4) (by omega) EF
  have hpb : planBits EF m = bitsP (bestPlan m 0 4 EF).order (bestPlan m 0 4 EF).ks (splitL (sizesL (bestPlan m 0 4 EF).order m 0) EF) := rfl
  rw [hpb] at hgbits
  have hpn := hpo.1.1
  have hpo8 := hpo.2.1
  obtain ⟨T2, hT2⟩ : ∃ T, T = tileBits 2 l W H d := ⟨_, rfl⟩
  obtain ⟨T3, hT3⟩ : ∃ T, T = tileBits 3 l W H d := ⟨_, rfl⟩
  obtain ⟨T4, hT4⟩ : ∃ T, T = tileBits 4 l W H d := ⟨_, rfl⟩
  rw [← hT2] at hgbits
  have HB2 := hid hgbits
  have HT2 := hid hT2
  have HT3 := hid hT3
  have HT4 := hid hT4
  have HKLEN := hid hkl
  have HGB := hid hgb
  have HGF := hid hgf
  have HCK := hid hck'
  have HFW := hid hfw
  have HFF := hid hff
  have HKO := hid hko
  have HKO' := hid hko'
  have HKL' := hid hkl'
  have HPN := hid hpn
  have HM := hid hm
  have HLL := hid hll
  have HSM := hid hsm
  clear hgf hck' hfw hff hko hko' hkl' hpn hm hll hsm hgbits hEF hK hki hpo hpb hkl hgb hrow hcl ch1 ch2 hg hdr hT2 hT3 hT4
  -- the writers
  obtain ⟨b1, hb1⟩ : ∃ b1, b1 = w2.heap.size := ⟨_, rfl⟩
  obtain ⟨wa, hwa⟩ : ∃ wa, wa = w2.alloc (.cells #[.slice none 0 0, .int .i64 0] 37) := ⟨_, rfl⟩
  obtain ⟨wb, hwb⟩ : ∃ wb, wb = wa.alloc (.cells #[.slice none 0 0, .int .i64 0] 37) := ⟨_, rfl⟩
  obtain ⟨w3, hw3⟩ : ∃ wc, wc = wb.alloc (.cells #[.slice none 0 0, .int .i64 0] 37) := ⟨_, rfl⟩
  have cha : Chg [] w2 wa := by rw [hwa]; exact (Chg.refl [] w2).alloc _
  have chb : Chg [] wa wb := by rw [hwb]; exact (Chg.refl [] wa).alloc _
  have chc : Chg [] wb w3 := by rw [hw3]; exact (Chg.refl [] wb).alloc _
  have has : wa.heap.size = b1 + 1 := by rw [hwa, hb1]; simp
  have hbs : wb.heap.size = b1 + 1 + 1 := by rw [hwb]; simp [has]
  have hcs : w3.heap.size = b1 + 1 + 1 + 1 := by rw [hw3]; simp [hbs]
  have hwra : IsWr w3 b1 [b1] [] := by
    have := IsWr.new w2
    rw [← hwa, ← hb1] at this
    exact (this.same chb).same chc
  have hwrb : IsWr w3 (b1 + 1) [b1 + 1] [] := by
    have := IsWr.new wa
    rw [← hwb, has] at this
    exact this.same chc
  have hwrc : IsWr w3 (b1 + 1 + 1) [b1 + 1 + 1] [] := by
    have := IsWr.new wb
    rw [← hw3, hbs] at this
    exact this
  have HC3 : Hid (Chg [] w2 w3) := hid ((cha.trans_same chb).trans_same chc)
  have hgb1 : g < b1 := by rw [hb1]; exact hglt
  have hb10 : 0 < b1 := by rw [hb1]; exact hpw
  have HWA := hid hwa
  have HWB := hid hwb
  have HW3 := hid hw3
  have HB1 := hid hb1
  have HCS := hid hcs
  have HWRB := hid hwrb
  have HWRC := hid hwrc
  clear hwa hwb hw3 hb1 has hbs hcs cha chb chc hwrb hwrc hglt hpw
  go_wp2_with fail
  rw [← HB1.out, ← HWA.out, ← HWB.out, ← HW3.out]
  refine (wput_ok w3 b1 [b1] [] 2 3 hwra (by omega) (by decide) (by simp)).mono ?_
  rintro e w4 ⟨rfl, F4, hwr4, hgr4⟩
  rw [List.nil_append] at hwr4
  clear hwra
  have hc4 : Cells vi w4 (some ⟨g, 0, none⟩) l := (HT.out.cells.same HC3.out).keep (apt_block (by simp; omega)) hgr4.chg
  go_wp2_with fail
  refine (HGB.out w4 hc4).mono ?_
  rintro e w5 ⟨v5, G5, rfl, own5, ch5, hG5⟩
  obtain ⟨A5, c5, rfl, hcp5, hcm5, hc5⟩ := own5.open_map
  have hlt4 := hwr4.lt
  have hap5 : Apt A5 K F4 := own5.apt (fun x hx hm => by have := hlt4 x hm; have := hG5 x hx; omega)
  have hgr5 := hgr4.same ch5
  have hwr5 := hwr4.same ch5
  have hc5l := hc4.same ch5
  have hTl : (bitsOf 2 3).length = 3 := bitsOf_len _ _
  clear own5 hwr4 hgr4 hc4 hlt4 ch5 hG5
  rw [HKLEN.out]
  go_wp2_with fail
  go_loopg [11] H (fun j iv wr => ∃ (i : Nat) (F' bs' : List Nat), iv = .int .i64 (i : Int) ∧ i + j = H ∧ IsWr wr b1 F' bs' ∧ Hid (bs' = bitsOf 2 3 ++ allOf (K.take i) 4) ∧ bs'.length ≤ 3 + 16 * i ∧ Grow F4 F' w5 wr)
  case atStart => exact ⟨0, F4, bitsOf 2 3, rfl, by omega, hwr5, hid (by simp [allOf]), by omega, Grow.refl _ _⟩
  case round =>
    clear hwr5
    obtain ⟨i, F', bs', rfl, hij, hwr, Hb, hbl, hgr⟩ := hrel
    rcases gk with _ | j
    · obtain rfl : H = i := by omega
      have t1 : decide (H < H) = false := by simp
      have hKt : K.take H = K := by rw [← HKLEN.out, List.take_length]
      have hbs' := Hb.out
      rw [hKt] at hbs'
      have HBS := hid hbs'
      have hbl2 : bs'.length ≤ 3 + 16 * 16 := by omega
      have hgrA := hgr5.trans (Grow.pre (Chg.refl [] w5) hgr)
      have hapL : Apt (some ⟨g, 0, none⟩) l F4 := apt_block (fun hm => by
        rcases hgr5.new g hm with h | h
        · simp at h; omega
        · rw [HCS.out] at h; omega)
      have hcl2 := hc5l.keep hapL hgr.chg
      have hc5' := hc5.keep hap5 hgr.chg
      have hgf := HGF.out A5 c5 wr hcl2 (HCK.out _ _ hc5')
      clear hbs' hbl hgr hgr5 hc5 hap5 Hb hKt hc5' hapL hcl2 hc5l
      go_wp2_with fail
      refine hgf.mono ?_
      rintro e w7 ⟨v7, G7, rfl, own7, ch7, hG7⟩
      rcases own7.cases with ⟨_, hnil, _⟩ | ⟨g3, row3, rfl⟩
      · exfalso
        have := congrArg List.length hnil
        rw [List.length_map, hel] at this
        simp at this
        omega
      obtain ⟨cap3, rfl, hcp3, hcm3, _, _⟩ := row3.open_map
      have hg3 : wr.heap.size ≤ g3 := hG7 g3 (by simp)
      have hwr7 := hwr.same ch7
      have hg3F : g3 ∉ F' := fun hm => by have := hwr.lt _ hm; omega
      have hgr7 := hgrA.same ch7
      have hg3w : w3.heap.size ≤ g3 := Nat.le_trans hgrA.size hg3
      clear hgf own7 hG7 hwr hgrA ch7 hg3
      rw [hel] at hcp3 row3 ⊢
      generalize wr = w6 at *
      go_wp2_with fail
      go_loopg [14] m (fun j iv wr => ∃ (i : Nat), iv = .int .i64 (i : Int) ∧ i + j = m ∧ Row wr 3 (.slice (some ⟨g3, 0, none⟩) m cap3) g3 ((mixL (fun v => foldI v d) E i).map vi) ∧ Chg [g3] w7 wr)
      case atStart => exact ⟨0, rfl, by omega, by rw [mixL_zero]; exact row3, Chg.refl _ _⟩
      case round =>
        clear row3
        obtain ⟨i, rfl, hij, hrow, hch⟩ := hrel
        rcases gk with _ | j
        · obtain rfl : m = i := by omega
          have t1 : decide (m < m) = false := by simp
          rw [← hel, mixL_full, ← HFF.out, hel] at hrow
          have hcF : Cells vi wr (some ⟨g3, 0, none⟩) EF := by
            have := hrow.toOwn.cells
            exact this
          have hwr8 := hwr7.chg hch (fun x hx hm => by rw [List.mem_singleton.1 hm] at hx; exact hg3F hx)
          have hgr8 : Grow [b1] F' w3 wr := ⟨hgr7.chg.trans hch (fun x hx => by rw [List.mem_singleton.1 hx]; exact .inr hg3w), hgr7.new⟩
          have hbest := pbest_ok m 0 4 EF (some ⟨g3, 0, none⟩) cap3 wr hm1 (by omega) (by omega) (by omega) (by omega) HFW.out hcF (by omega) hcm3
          rw [hfl] at hbest
          clear hwr7 hgr7 hrow hch
          generalize wr = w8 at *
          go_wp2_with fail
          refine hbest.mono ?_
          rintro e w9 ⟨v9, G9, rfl, own9, ch9, hG9⟩
          obtain ⟨A9, c9, rfl, hcp9, hcm9, hc9⟩ := own9.open_map
          have hsz8 := hgr8.size
          have hlt8 := hwr8.lt
          have hap9 : Apt A9 (bestPlan m 0 4 EF).ks F' := own9.apt (fun x hx hm => by have := hlt8 x hm; have := hG9 x hx; omega)
          have hap3 : Apt (some ⟨g3, 0, none⟩) EF F' := apt_block hg3F
          have hwr9 := hwr8.same ch9
          have hcF9 := hcF.same ch9
          have hgr9 := hgr8.same ch9
          clear hbest own9 hwr8 hcF hgr8 hG9 hlt8 ch9
          obtain ⟨ks, hks⟩ : ∃ ks, ks = (bestPlan m 0 4 EF).ks := ⟨_, rfl⟩
          obtain ⟨po, hpo⟩ : ∃ po, po = (bestPlan m 0 4 EF).order := ⟨_, rfl⟩
          have hkl' := HKL'.out
          have hpn := HPN.out
          have hko' := HKO'.out
          rw [← hks, ← hpo] at hkl'
          rw [← hpo] at hpn hpo8
          rw [← hks] at hko' hc9 hap9 hcp9
          rw [← hks, ← hpo]
          have HKS := hid hks
          have HPO := hid hpo
          have HKL2 := hid hkl'
          have HPN2 := hid hpn
          have HKO2 := hid hko'
          clear hks hpo hkl' hpn hko'
          have hput := fun o => pput_ok _ b1 F' _ po m 0 ks A9 c9 EF (some ⟨g3, 0, none⟩) cap3 (hwr9.same ((Chg.refl [] w9).alloc o)) (by omega) hm1 (by omega) (by omega) HPN2.out HKL2.out HKO2.out (hc9.same ((Chg.refl [] w9).alloc _)) (by omega) HFW.out (hcF9.same ((Chg.refl [] w9).alloc _)) (by omega) hcm3 hap9 hap3 (by omega)
          rw [hfl] at hput
          go_wp2_with fail
          refine (hput _).mono ?_
          rintro e w10 ⟨rfl, F10, hwr10, hgr10⟩
          have hgrA := hgr9.trans (Grow.pre ((Chg.refl [] w9).alloc _) hgr10)
          have hb2 : bs' ++ bitsP po ks (splitL (sizesL po m 0) EF) = T2 := by rw [HBS.out, HB2.out, HKS.out, HPO.out, List.append_assoc]
          rw [hb2] at hwr10
          have HA10 : Hid (IsWr w10 b1 F10 T2) := hid hwr10
          have HGA := hid hgrA
          have HC10 : Hid (Chg [] w2 w10) := hid (HC3.out.trans hgrA.chg fun x hx => .inr (by simp at hx; have := HB1.out; omega))
          have hwb10 : IsWr w10 (b1 + 1) [b1 + 1] [] := HWRB.out.chg hgrA.chg (by simp)
          have HWC10 : Hid (IsWr w10 (b1 + 1 + 1) [b1 + 1 + 1] []) := hid (HWRC.out.chg hgrA.chg (by simp; omega))
          clear hput hwr10 hgr10 hgrA hb2 hwr9 hgr9 hc9 hcF9 hap9 hap3 hcp9 hcm9 hcp3 hcm3 hg3F hg3w hsz8 hbl2 hcp5 hcm5 hpo8
          -- the model
          go_wp2_with fail
          refine (wput_ok w10 (b1 + 1) [b1 + 1] [] 3 3 hwb10 (by omega) (by decide) (by simp)).mono ?_
          rintro e w11 ⟨rfl, F11, hwr11, hgr11⟩
          rw [List.nil_append] at hwr11
          clear hwb10
          have hap11 : Apt (some ⟨g, 0, none⟩) l F11 := apt_block (fun hm => by
            rcases hgr11.new g hm with h | h
            · simp at h; omega
            · have := HC10.out.size; have := HB1.out; omega)
          have hcl11 := (HT.out.cells.same HC10.out).keep (apt_block (by simp; omega)) hgr11.chg
          have hmp := mput_ok w11 (b1 + 1) F11 (bitsOf 3 3) l (some ⟨g, 0, none⟩) capl W H d hwr11 hW0 (by omega) hH0 (by omega) hd0 hd1 HLL.out HSM.out hcl11 hap11 (by rw [bitsOf_len]; omega)
          rw [← HM.out] at hmp
          clear hwr11 hap11 hcl11
          go_wp2_with fail
          refine hmp.mono ?_
          rintro e w12 ⟨rfl, F12, hwr12, hgr12⟩
          have hgrB := hgr11.trans hgr12
          have hb3 : bitsOf 3 3 ++ modelBits l W d (W * H) = T3 := HT3.out.symm
          rw [hb3] at hwr12
          have HB12 : Hid (IsWr w12 (b1 + 1) F12 T3) := hid hwr12
          have HGB2 := hid hgrB
          have HA12 : Hid (IsWr w12 b1 F10 T2) := hid (HA10.out.chg hgrB.chg (fun x hx hm => by
            simp at hm
            exact HGA.out.out (g := b1 + 1) (by rw [HCS.out]; omega) (by simp) (hm ▸ hx)))
          have HC12 : Hid (Chg [] w2 w12) := hid (HC10.out.trans hgrB.chg fun x hx => .inr (by simp at hx; have := HB1.out; omega))
          have hwc12 : IsWr w12 (b1 + 1 + 1) [b1 + 1 + 1] [] := HWC10.out.chg hgrB.chg (by simp)
          have HS10 : Hid (b1 + 1 + 1 + 1 ≤ w10.heap.size) := hid (by have := HGA.out.size; rw [HCS.out] at this; exact this)
          clear hmp hwr12 hgr12 hgr11 hgrB hb3
          -- the copies
          go_wp2_with fail
          refine (wput_ok w12 (b1 + 1 + 1) [b1 + 1 + 1] [] 4 3 hwc12 (by omega) (by decide) (by simp)).mono ?_
          rintro e w13 ⟨rfl, F13, hwr13, hgr13⟩
          rw [List.nil_append] at hwr13
          have hcl13 := (HT.out.cells.same HC12.out).keep (apt_block (by simp; omega)) hgr13.chg
          have hlea := least_ok l (some ⟨g, 0, none⟩) capl (d + 1) 12 w13 (by rw [← HM.out]; omega) hcl13 (by omega) (by omega) (by decide) (by decide)
          rw [← HM.out] at hlea
          have ed : ((d + 1 : Nat) : Int) = (d : Int) + 1 := by omega
          rw [ed] at hlea
          rw [show ((12 : Nat) : Int) = 12 from rfl] at hlea
          have hTL := leastF_len l (d + 1) 12
          have hTok := leastF_tok HSM.out (d + 1) 12
          have hb4 : bitsOf 4 3 ++ matchBits (leastF l (d + 1) 12) W d = T4 := HT4.out.symm
          obtain ⟨TT, hTT⟩ : ∃ TT, TT = leastF l (d + 1) 12 := ⟨_, rfl⟩
          rw [← hTT] at hlea hTL hTok hb4
          rw [← HM.out] at hTL
          have HTOK := hid hTok
          have HB4 := hid hb4
          clear hwc12 hcl13 hTT hTok hb4
          go_wp2_with fail
          refine hlea.mono ?_
          rintro e w14 ⟨A14, c14, rfl, htoks, ch14, hA14⟩
          have hlt13 := hwr13.lt
          have h0F : 0 ∉ F13 := fun hm => by
            rcases hgr13.new 0 hm with h | h
            · simp at h
            · have := HC12.out.size; have := HB1.out; omega
          have hp14 : Pts w14 := ((HP2.out.same HC12.out).chg hgr13.chg (by simp)).same ch14
          have hmt := mtput_ok w14 (b1 + 1 + 1) F13 (bitsOf 4 3) TT A14 c14 W d (hwr13.same ch14) hp14 h0F hW0 (by omega) hd0 hd1 (by omega) HTOK.out htoks (fun ad had hm => by have := hA14 ad had; have := hlt13 _ hm; omega) (by rw [bitsOf_len]; omega)
          rw [HB4.out] at hmt
          clear hlea hlt13 h0F hp14 htoks hA14 hTL hwr13
          go_wp2_with fail
          refine hmt.mono ?_
          rintro e w15 ⟨rfl, F15, hwr15, hgr15⟩
          have hgrC := hgr13.trans (Grow.pre ch14 hgr15)
          have HC15 : Hid (Chg [] w2 w15) := hid (HC12.out.trans hgrC.chg fun x hx => .inr (by simp at hx; have := HB1.out; omega))
          have HA15 : Hid (IsWr w15 b1 F10 T2) := hid (HA12.out.chg hgrC.chg (fun x hx hm => by
            simp at hm
            exact HGA.out.out (g := b1 + 1 + 1) (by rw [HCS.out]; omega) (by simp; omega) (hm ▸ hx)))
          have HB15 : Hid (IsWr w15 (b1 + 1) F12 T3) := hid (HB12.out.chg hgrC.chg (fun x hx hm => by
            simp at hm
            exact HGB2.out.out (g := b1 + 1 + 1) (by have := HS10.out; omega) (by simp) (hm ▸ hx)))
          have HC15' : Hid (IsWr w15 (b1 + 1 + 1) F15 T4) := hid hwr15
          clear hmt hgr13 hgr15 hgrC ch14 hwr15
          -- the three tiles
          have hpb2 := fun wz (hz : Chg [] w2 wz) => lputBy_ok capl (HT.out.same hz) (HP2.out.same hz) 2 (by decide) (by rfl)
          have hpb3 := fun wz (hz : Chg [] w2 wz) => lputBy_ok capl (HT.out.same hz) (HP2.out.same hz) 3 (by decide) (by rfl)
          have hpb4 := fun wz (hz : Chg [] w2 wz) => lputBy_ok capl (HT.out.same hz) (HP2.out.same hz) 4 (by decide) (by rfl)
          rw [← HM.out, ← HT2.out] at hpb2
          rw [← HM.out, ← HT3.out] at hpb3
          rw [← HM.out, ← HT4.out] at hpb4
          have HPB3 := hid hpb3
          have HPB4 := hid hpb4
          have hpb2' := hpb2 w15 HC15.out
          clear hpb2 hpb3 hpb4
          go_wp2_with fail
          refine hpb2'.mono ?_
          rintro e w16 ⟨x1, X1, rfl, hx16, ch16, hX1⟩
          have HC16 := hid (HC15.out.trans_same ch16)
          have hpb3' := HPB3.out w16 HC16.out
          clear hpb2'
          go_wp2_with fail
          refine hpb3'.mono ?_
          rintro e w17 ⟨y1, Y1, rfl, hy17, ch17, hY1⟩
          have HC17 := hid (HC16.out.trans_same ch17)
          have hpb4' := HPB4.out w17 HC17.out
          clear hpb3'
          go_wp2_with fail
          refine hpb4'.mono ?_
          rintro e w18 ⟨z1, Z1, rfl, hz18, ch18, hZ1⟩
          have HC18 := hid (HC17.out.trans_same ch18)
          have c1518 := (ch16.trans_same ch17).trans_same ch18
          have la : LenAt w18 b1 T2.length := lenAt_of (HA15.out.same c1518)
          have lb : LenAt w18 (b1 + 1) T3.length := lenAt_of (HB15.out.same c1518)
          have lc : LenAt w18 (b1 + 1 + 1) T4.length := lenAt_of (HC15'.out.same c1518)
          have lx : LenAt w18 x1 T2.length := lenAt_of ((hx16.same ch17).same ch18)
          have ly : LenAt w18 y1 T3.length := lenAt_of (hy17.same ch18)
          have lz : LenAt w18 z1 T4.length := lenAt_of hz18
          have hp2 : 0 < T2.length ∧ T2.length < 549755813888 := by
            rw [HT2.out]
            exact tile_two_len l hd0 hd1 hW1 hH1
          have hp3 : 0 < T3.length ∧ T3.length < 549755813888 := by
            rw [HT3.out]
            exact tile_three_len l hd0 hd1 hW1 hH1
          have hp4 : 0 < T4.length ∧ T4.length < 549755813888 := by
            rw [HT4.out]
            exact tile_four_len l hd1 (by rw [← HM.out]; exact hm256)
          have ba : BytesAt w18 b1 (strT T2) := bytesAt_of (HA15.out.same c1518) hp2.1 hp2.2
          have bb : BytesAt w18 (b1 + 1) (strT T3) := bytesAt_of (HB15.out.same c1518) hp3.1 hp3.2
          have bc : BytesAt w18 (b1 + 1 + 1) (strT T4) := bytesAt_of (HC15'.out.same c1518) hp4.1 hp4.2
          have bx : BytesAt w18 x1 (strT T2) := bytesAt_of ((hx16.same ch17).same ch18) hp2.1 hp2.2
          have bY : BytesAt w18 y1 (strT T3) := bytesAt_of (hy17.same ch18) hp3.1 hp3.2
          have bz : BytesAt w18 z1 (strT T4) := bytesAt_of hz18 hp4.1 hp4.2
          have HKN : Hid (∀ wz, Chg [] w18 wz → Calls Tryz.prog 12 #[] wz fun e w' => e = .returned (.bool true) ∧ Chg [] wz w') := hid (fun wz hz => known_ok wz (HP2.out.same (HC18.out.trans_same hz)))
          have HCW : Hid (Chg [] w w18) := hid (HC2.out.trans_same HC18.out)
          have HL := hid (And.intro la (And.intro lb (And.intro lc (And.intro lx (And.intro ly lz)))))
          have HBY := hid (And.intro ba (And.intro bb (And.intro bc (And.intro bx (And.intro bY bz)))))
          generalize T2.length = n2 at *
          generalize T3.length = n3 at *
          generalize T4.length = n4 at *
          generalize strT T2 = S2 at *
          generalize strT T3 = S3 at *
          generalize strT T4 = S4 at *
          clear hpb4' hp2 hp3 hp4 la lb lc lx ly lz ba bb bc bx bY bz c1518 hx16 ch17 ch18 ch16 hy17 hz18 hX1 hY1 hZ1
          clear HT HP HP2 HT2 HT3 HT4 HKLEN HGB HGF HCK HFW HFF HKO HKO' HKL' HPN HM HLL HSM HWA HWB HW3 HB1 HCS HWRB HWRC HC3 HBS HKS HPO HKL2 HPN2 HKO2 HA10 HGA HC10 HWC10 HB12 HGB2 HA12 HC12 HS10 HTOK HB4 HC15 HA15 HB15 HC15' HPB3 HPB4 HC16 HC17 HC18 HB2 HC2
          go_wp2_with fail
          refine wp_region_held_drew (S := fun w' => Chg [] w18 w') (by kernel_rfl) ((Chg.refl [] w18).drew) (fun hS0 => ?_)
          refine wpAnyH_take (i := 0) (oi := { dst := some 157, op := Op.move (Operand.tmp 21), type := 4, pos := "more.go:47", after := #[], guard := none }) (v := .bool true) rfl (by kernel_rfl) (by kernel_rfl) (by kernel_rfl) (fun _ _ _ h => h) (Or.inl ⟨by rfl, fun w hSw => by (try dsimp only at hSw); go_simp; try rfl⟩) hS0 ?_
          try simp only [Act.put, List.setIfInBounds_toArray, List.set_cons_zero, List.set_cons_succ]
          refine wpAnyH_take (i := 1) (oi := { dst := some 158, op := Op.move (Operand.tmp 157), type := 4, pos := "more.go:47", after := #[{ on := 0, ground := Ground.data }], guard := none }) (v := .bool true) rfl (by kernel_rfl) (by kernel_rfl) (by kernel_rfl) (fun _ _ _ h => h) (Or.inl ⟨by rfl, fun w hSw => by (try dsimp only at hSw); go_simp; try rfl⟩) hS0 ?_
          try simp only [Act.put, List.setIfInBounds_toArray, List.set_cons_zero, List.set_cons_succ]
          refine wpAnyH_take (i := 2) (oi := { dst := some 159, op := Op.move (Operand.tmp 23), type := 4, pos := "more.go:47", after := #[{ on := 1, ground := Ground.guard }], guard := some (1, true) }) (v := .bool true) rfl (by kernel_rfl) (by kernel_rfl) (by kernel_rfl) (fun _ _ _ h => h) (Or.inl ⟨by rfl, fun w hSw => by (try dsimp only at hSw); go_simp; try rfl⟩) hS0 ?_
          try simp only [Act.put, List.setIfInBounds_toArray, List.set_cons_zero, List.set_cons_succ]
          refine wpAnyH_take (i := 3) (oi := { dst := some 160, op := Op.pick (Operand.tmp 158) (Operand.tmp 159) (Operand.const (Value.bool false)), type := 4, pos := "more.go:47", after := #[{ on := 1, ground := Ground.data }, { on := 2, ground := Ground.data }], guard := none }) (v := .bool true) rfl (by kernel_rfl) (by kernel_rfl) (by kernel_rfl) (fun _ _ _ h => h) (Or.inl ⟨by rfl, fun w hSw => by (try dsimp only at hSw); go_simp; try rfl⟩) hS0 ?_
          try simp only [Act.put, List.setIfInBounds_toArray, List.set_cons_zero, List.set_cons_succ]
          refine wpAnyH_take (i := 4) (oi := { dst := some 161, op := Op.move (Operand.tmp 160), type := 4, pos := "more.go:47", after := #[{ on := 3, ground := Ground.data }, { on := 1, ground := Ground.chain }], guard := none }) (v := .bool true) rfl (by kernel_rfl) (by kernel_rfl) (by kernel_rfl) (fun _ _ _ h => h) (Or.inl ⟨by rfl, fun w hSw => by (try dsimp only at hSw); go_simp; try rfl⟩) hS0 ?_
          try simp only [Act.put, List.setIfInBounds_toArray, List.set_cons_zero, List.set_cons_succ]
          refine wpAnyH_take (i := 5) (oi := { dst := some 162, op := Op.move (Operand.tmp 25), type := 4, pos := "more.go:47", after := #[{ on := 4, ground := Ground.guard }], guard := some (4, true) }) (v := .bool true) rfl (by kernel_rfl) (by kernel_rfl) (by kernel_rfl) (fun _ _ _ h => h) (Or.inl ⟨by rfl, fun w hSw => by (try dsimp only at hSw); go_simp; try rfl⟩) hS0 ?_
          try simp only [Act.put, List.setIfInBounds_toArray, List.set_cons_zero, List.set_cons_succ]
          refine wpAnyH_take (i := 6) (oi := { dst := some 163, op := Op.pick (Operand.tmp 161) (Operand.tmp 162) (Operand.const (Value.bool false)), type := 4, pos := "more.go:47", after := #[{ on := 4, ground := Ground.data }, { on := 5, ground := Ground.data }], guard := none }) (v := .bool true) rfl (by kernel_rfl) (by kernel_rfl) (by kernel_rfl) (fun _ _ _ h => h) (Or.inl ⟨by rfl, fun w hSw => by (try dsimp only at hSw); go_simp; try rfl⟩) hS0 ?_
          try simp only [Act.put, List.setIfInBounds_toArray, List.set_cons_zero, List.set_cons_succ]
          refine wpAnyH_take (i := 7) (oi := { dst := some 164, op := Op.move (Operand.tmp 163), type := 4, pos := "more.go:47", after := #[{ on := 6, ground := Ground.data }, { on := 4, ground := Ground.chain }], guard := none }) (v := .bool true) rfl (by kernel_rfl) (by kernel_rfl) (by kernel_rfl) (fun _ _ _ h => h) (Or.inl ⟨by rfl, fun w hSw => by (try dsimp only at hSw); go_simp; try rfl⟩) hS0 ?_
          try simp only [Act.put, List.setIfInBounds_toArray, List.set_cons_zero, List.set_cons_succ]
          refine wpAnyH_take (i := 8) (oi := { dst := some 165, op := Op.move (Operand.tmp 20), type := 34, pos := "more.go:47", after := #[{ on := 7, ground := Ground.guard }], guard := some (7, true) }) (v := .pointer (some ⟨x1, 0, none⟩)) rfl (by kernel_rfl) (by kernel_rfl) (by kernel_rfl) (fun _ _ _ h => h) (Or.inl ⟨by rfl, fun w hSw => by (try dsimp only at hSw); go_simp; try rfl⟩) hS0 ?_
          try simp only [Act.put, List.setIfInBounds_toArray, List.set_cons_zero, List.set_cons_succ]
          refine wpAnyH_take (i := 10) (oi := { dst := some 167, op := Op.move (Operand.tmp 7), type := 34, pos := "more.go:47", after := #[{ on := 7, ground := Ground.guard }], guard := some (7, true) }) (v := .pointer (some ⟨b1, 0, none⟩)) rfl (by kernel_rfl) (by kernel_rfl) (by kernel_rfl) (fun _ _ _ h => h) (Or.inl ⟨by rfl, fun w hSw => by (try dsimp only at hSw); go_simp; try rfl⟩) hS0 ?_
          try simp only [Act.put, List.setIfInBounds_toArray, List.set_cons_zero, List.set_cons_succ]
          refine wpAnyH_ready (rs := [9]) (by kernel_rfl) (by simp) ?_
          refine AllReadyH.cons (o := { dst := some 166, op := Op.call { callee := Callee.value (Operand.func 25), args := #[Operand.tmp 165], argTypes := #[34] }, type := 3, pos := "more.go:47", after := #[{ on := 8, ground := Ground.data }, { on := 7, ground := Ground.chain }, { on := 7, ground := Ground.guard }], guard := some (7, true) }) rfl (fun K hK => ?_) AllReadyH.nil
          go_simp
          refine (HL.out.2.2.2.1 _ hS0).mono ?_
          rintro e wq ⟨rfl, rfl⟩
          go_wp2_with fail
          refine hK.out _ _ hS0 (fun _ => ?_)
          clear hK K
          try simp only [Act.put, List.setIfInBounds_toArray, List.set_cons_zero, List.set_cons_succ]
          refine wpAnyH_ready (rs := [11]) (by kernel_rfl) (by simp) ?_
          refine AllReadyH.cons (o := { dst := some 168, op := Op.call { callee := Callee.value (Operand.func 25), args := #[Operand.tmp 167], argTypes := #[34] }, type := 3, pos := "more.go:47", after := #[{ on := 10, ground := Ground.data }, { on := 9, ground := Ground.chain }, { on := 7, ground := Ground.guard }], guard := some (7, true) }) rfl (fun K hK => ?_) AllReadyH.nil
          go_simp
          refine (HL.out.1 _ hS0).mono ?_
          rintro e wq ⟨rfl, rfl⟩
          go_wp2_with fail
          refine hK.out _ _ hS0 (fun _ => ?_)
          clear hK K
          try simp only [Act.put, List.setIfInBounds_toArray, List.set_cons_zero, List.set_cons_succ]
          refine wpAnyH_take (i := 12) (oi := { dst := some 169, op := Op.binOp BinOp.eql 3 (Operand.tmp 166) (Operand.tmp 168) 3, type := 4, pos := "more.go:47", after := #[{ on := 9, ground := Ground.data }, { on := 11, ground := Ground.data }, { on := 7, ground := Ground.guard }], guard := some (7, true) }) (v := .bool true) rfl (by kernel_rfl) (by kernel_rfl) (by kernel_rfl) (fun _ _ _ h => h) (Or.inl ⟨by rfl, fun w hSw => by (try dsimp only at hSw); go_simp; try rfl⟩) hS0 ?_
          try simp only [Act.put, List.setIfInBounds_toArray, List.set_cons_zero, List.set_cons_succ]
          refine wpAnyH_take (i := 13) (oi := { dst := some 170, op := Op.pick (Operand.tmp 164) (Operand.tmp 169) (Operand.const (Value.bool false)), type := 4, pos := "more.go:47", after := #[{ on := 7, ground := Ground.data }, { on := 12, ground := Ground.data }], guard := none }) (v := .bool true) rfl (by kernel_rfl) (by kernel_rfl) (by kernel_rfl) (fun _ _ _ h => h) (Or.inl ⟨by rfl, fun w hSw => by (try dsimp only at hSw); go_simp; try rfl⟩) hS0 ?_
          try simp only [Act.put, List.setIfInBounds_toArray, List.set_cons_zero, List.set_cons_succ]
          refine wpAnyH_take (i := 14) (oi := { dst := some 171, op := Op.move (Operand.tmp 170), type := 4, pos := "more.go:47", after := #[{ on := 13, ground := Ground.data }, { on := 11, ground := Ground.chain }], guard := none }) (v := .bool true) rfl (by kernel_rfl) (by kernel_rfl) (by kernel_rfl) (fun _ _ _ h => h) (Or.inl ⟨by rfl, fun w hSw => by (try dsimp only at hSw); go_simp; try rfl⟩) hS0 ?_
          try simp only [Act.put, List.setIfInBounds_toArray, List.set_cons_zero, List.set_cons_succ]
          refine wpAnyH_take (i := 15) (oi := { dst := some 172, op := Op.move (Operand.tmp 20), type := 34, pos := "more.go:47", after := #[{ on := 14, ground := Ground.guard }], guard := some (14, true) }) (v := .pointer (some ⟨x1, 0, none⟩)) rfl (by kernel_rfl) (by kernel_rfl) (by kernel_rfl) (fun _ _ _ h => h) (Or.inl ⟨by rfl, fun w hSw => by (try dsimp only at hSw); go_simp; try rfl⟩) hS0 ?_
          try simp only [Act.put, List.setIfInBounds_toArray, List.set_cons_zero, List.set_cons_succ]
          refine wpAnyH_take (i := 18) (oi := { dst := some 175, op := Op.move (Operand.tmp 7), type := 34, pos := "more.go:47", after := #[{ on := 14, ground := Ground.guard }], guard := some (14, true) }) (v := .pointer (some ⟨b1, 0, none⟩)) rfl (by kernel_rfl) (by kernel_rfl) (by kernel_rfl) (fun _ _ _ h => h) (Or.inl ⟨by rfl, fun w hSw => by (try dsimp only at hSw); go_simp; try rfl⟩) hS0 ?_
          try simp only [Act.put, List.setIfInBounds_toArray, List.set_cons_zero, List.set_cons_succ]
          refine wpAnyH_ready (rs := [16]) (by kernel_rfl) (by simp) ?_
          refine AllReadyH.cons (o := { dst := some 173, op := Op.call { callee := Callee.value (Operand.func 26), args := #[Operand.tmp 172], argTypes := #[34] }, type := 35, pos := "more.go:47", after := #[{ on := 15, ground := Ground.data }, { on := 14, ground := Ground.chain }, { on := 14, ground := Ground.guard }], guard := some (14, true) }) rfl (fun K hK => ?_) AllReadyH.nil
          go_simp
          refine (HBY.out.2.2.2.1 _ hS0).mono ?_
          rintro e u1 ⟨v1, rfl, hcv1, hcn, hch1⟩
          go_wp2_with fail
          refine hK.out _ _ hcn (fun _ => ?_)
          clear hK K
          try simp only [Act.put, List.setIfInBounds_toArray, List.set_cons_zero, List.set_cons_succ]
          refine wpAnyH_mono (S' := fun w' => Chg [] u1 w') (fun w h => hcn.trans_same h) _ _ _ _ ?_
          have hc : Chg [] w18 u1 := hcn
          clear hcn
          have hS1 : (fun w' => Chg [] u1 w') u1 := Chg.refl _ _
          refine wpAnyH_take (i := 17) (oi := { dst := some 174, op := Op.convert 35 9 (Operand.tmp 173), type := 9, pos := "more.go:47", after := #[{ on := 16, ground := Ground.data }, { on := 14, ground := Ground.guard }], guard := some (14, true) }) (v := .string S2) rfl (by kernel_rfl) (by kernel_rfl) (by kernel_rfl) (fun _ _ _ h => h) (Or.inl ⟨by rfl, fun w hSw => by (try dsimp only at hSw); have hcvw := hcv1 w hSw; go_simp; try rfl⟩) hS1 ?_
          try simp only [Act.put, List.setIfInBounds_toArray, List.set_cons_zero, List.set_cons_succ]
          refine wpAnyH_ready (rs := [19]) (by kernel_rfl) (by simp) ?_
          refine AllReadyH.cons (o := { dst := some 176, op := Op.call { callee := Callee.value (Operand.func 26), args := #[Operand.tmp 175], argTypes := #[34] }, type := 35, pos := "more.go:47", after := #[{ on := 18, ground := Ground.data }, { on := 16, ground := Ground.chain }, { on := 14, ground := Ground.guard }], guard := some (14, true) }) rfl (fun K hK => ?_) AllReadyH.nil
          go_simp
          refine (HBY.out.1 _ hc).mono ?_
          rintro e u2 ⟨v2, rfl, hcv2, hcn, hch2⟩
          go_wp2_with fail
          refine hK.out _ _ hch2 (fun _ => ?_)
          clear hK K
          try simp only [Act.put, List.setIfInBounds_toArray, List.set_cons_zero, List.set_cons_succ]
          refine wpAnyH_mono (S' := fun w' => Chg [] u2 w') (fun w h => hch2.trans_same h) _ _ _ _ ?_
          have hc : Chg [] w18 u2 := hcn
          clear hcn
          have hS2 : (fun w' => Chg [] u2 w') u2 := Chg.refl _ _
          refine wpAnyH_take (i := 20) (oi := { dst := some 177, op := Op.convert 35 9 (Operand.tmp 176), type := 9, pos := "more.go:47", after := #[{ on := 19, ground := Ground.data }, { on := 14, ground := Ground.guard }], guard := some (14, true) }) (v := .string S2) rfl (by kernel_rfl) (by kernel_rfl) (by kernel_rfl) (fun _ _ _ h => h) (Or.inl ⟨by rfl, fun w hSw => by (try dsimp only at hSw); have hcvw := hcv2 w hSw; go_simp; try rfl⟩) hS2 ?_
          try simp only [Act.put, List.setIfInBounds_toArray, List.set_cons_zero, List.set_cons_succ]
          refine wpAnyH_take (i := 21) (oi := { dst := some 178, op := Op.binOp BinOp.eql 9 (Operand.tmp 174) (Operand.tmp 177) 9, type := 4, pos := "more.go:47", after := #[{ on := 17, ground := Ground.data }, { on := 20, ground := Ground.data }, { on := 14, ground := Ground.guard }], guard := some (14, true) }) (v := .bool true) rfl (by kernel_rfl) (by kernel_rfl) (by kernel_rfl) (fun _ _ _ h => h) (Or.inl ⟨by rfl, fun w hSw => by (try dsimp only at hSw); go_simp; try rfl⟩) hS2 ?_
          try simp only [Act.put, List.setIfInBounds_toArray, List.set_cons_zero, List.set_cons_succ]
          refine wpAnyH_take (i := 22) (oi := { dst := some 179, op := Op.pick (Operand.tmp 171) (Operand.tmp 178) (Operand.const (Value.bool false)), type := 4, pos := "more.go:47", after := #[{ on := 14, ground := Ground.data }, { on := 21, ground := Ground.data }], guard := none }) (v := .bool true) rfl (by kernel_rfl) (by kernel_rfl) (by kernel_rfl) (fun _ _ _ h => h) (Or.inl ⟨by rfl, fun w hSw => by (try dsimp only at hSw); go_simp; try rfl⟩) hS2 ?_
          try simp only [Act.put, List.setIfInBounds_toArray, List.set_cons_zero, List.set_cons_succ]
          refine wpAnyH_take (i := 23) (oi := { dst := some 180, op := Op.move (Operand.tmp 179), type := 4, pos := "more.go:47", after := #[{ on := 22, ground := Ground.data }, { on := 19, ground := Ground.chain }], guard := none }) (v := .bool true) rfl (by kernel_rfl) (by kernel_rfl) (by kernel_rfl) (fun _ _ _ h => h) (Or.inl ⟨by rfl, fun w hSw => by (try dsimp only at hSw); go_simp; try rfl⟩) hS2 ?_
          try simp only [Act.put, List.setIfInBounds_toArray, List.set_cons_zero, List.set_cons_succ]
          refine wpAnyH_take (i := 24) (oi := { dst := some 181, op := Op.move (Operand.tmp 22), type := 34, pos := "more.go:47", after := #[{ on := 23, ground := Ground.guard }], guard := some (23, true) }) (v := .pointer (some ⟨y1, 0, none⟩)) rfl (by kernel_rfl) (by kernel_rfl) (by kernel_rfl) (fun _ _ _ h => h) (Or.inl ⟨by rfl, fun w hSw => by (try dsimp only at hSw); go_simp; try rfl⟩) hS2 ?_
          try simp only [Act.put, List.setIfInBounds_toArray, List.set_cons_zero, List.set_cons_succ]
          refine wpAnyH_take (i := 26) (oi := { dst := some 183, op := Op.move (Operand.tmp 8), type := 34, pos := "more.go:47", after := #[{ on := 23, ground := Ground.guard }], guard := some (23, true) }) (v := .pointer (some ⟨b1 + 1, 0, none⟩)) rfl (by kernel_rfl) (by kernel_rfl) (by kernel_rfl) (fun _ _ _ h => h) (Or.inl ⟨by rfl, fun w hSw => by (try dsimp only at hSw); go_simp; try rfl⟩) hS2 ?_
          try simp only [Act.put, List.setIfInBounds_toArray, List.set_cons_zero, List.set_cons_succ]
          refine wpAnyH_ready (rs := [25]) (by kernel_rfl) (by simp) ?_
          refine AllReadyH.cons (o := { dst := some 182, op := Op.call { callee := Callee.value (Operand.func 25), args := #[Operand.tmp 181], argTypes := #[34] }, type := 3, pos := "more.go:47", after := #[{ on := 24, ground := Ground.data }, { on := 23, ground := Ground.chain }, { on := 23, ground := Ground.guard }], guard := some (23, true) }) rfl (fun K hK => ?_) AllReadyH.nil
          go_simp
          refine (HL.out.2.2.2.2.1 _ hc).mono ?_
          rintro e wq ⟨rfl, rfl⟩
          go_wp2_with fail
          refine hK.out _ _ hS2 (fun _ => ?_)
          clear hK K
          try simp only [Act.put, List.setIfInBounds_toArray, List.set_cons_zero, List.set_cons_succ]
          refine wpAnyH_ready (rs := [27]) (by kernel_rfl) (by simp) ?_
          refine AllReadyH.cons (o := { dst := some 184, op := Op.call { callee := Callee.value (Operand.func 25), args := #[Operand.tmp 183], argTypes := #[34] }, type := 3, pos := "more.go:47", after := #[{ on := 26, ground := Ground.data }, { on := 25, ground := Ground.chain }, { on := 23, ground := Ground.guard }], guard := some (23, true) }) rfl (fun K hK => ?_) AllReadyH.nil
          go_simp
          refine (HL.out.2.1 _ hc).mono ?_
          rintro e wq ⟨rfl, rfl⟩
          go_wp2_with fail
          refine hK.out _ _ hS2 (fun _ => ?_)
          clear hK K
          try simp only [Act.put, List.setIfInBounds_toArray, List.set_cons_zero, List.set_cons_succ]
          refine wpAnyH_take (i := 28) (oi := { dst := some 185, op := Op.binOp BinOp.eql 3 (Operand.tmp 182) (Operand.tmp 184) 3, type := 4, pos := "more.go:47", after := #[{ on := 25, ground := Ground.data }, { on := 27, ground := Ground.data }, { on := 23, ground := Ground.guard }], guard := some (23, true) }) (v := .bool true) rfl (by kernel_rfl) (by kernel_rfl) (by kernel_rfl) (fun _ _ _ h => h) (Or.inl ⟨by rfl, fun w hSw => by (try dsimp only at hSw); go_simp; try rfl⟩) hS2 ?_
          try simp only [Act.put, List.setIfInBounds_toArray, List.set_cons_zero, List.set_cons_succ]
          refine wpAnyH_take (i := 29) (oi := { dst := some 186, op := Op.pick (Operand.tmp 180) (Operand.tmp 185) (Operand.const (Value.bool false)), type := 4, pos := "more.go:47", after := #[{ on := 23, ground := Ground.data }, { on := 28, ground := Ground.data }], guard := none }) (v := .bool true) rfl (by kernel_rfl) (by kernel_rfl) (by kernel_rfl) (fun _ _ _ h => h) (Or.inl ⟨by rfl, fun w hSw => by (try dsimp only at hSw); go_simp; try rfl⟩) hS2 ?_
          try simp only [Act.put, List.setIfInBounds_toArray, List.set_cons_zero, List.set_cons_succ]
          refine wpAnyH_take (i := 30) (oi := { dst := some 187, op := Op.move (Operand.tmp 186), type := 4, pos := "more.go:47", after := #[{ on := 29, ground := Ground.data }, { on := 27, ground := Ground.chain }], guard := none }) (v := .bool true) rfl (by kernel_rfl) (by kernel_rfl) (by kernel_rfl) (fun _ _ _ h => h) (Or.inl ⟨by rfl, fun w hSw => by (try dsimp only at hSw); go_simp; try rfl⟩) hS2 ?_
          try simp only [Act.put, List.setIfInBounds_toArray, List.set_cons_zero, List.set_cons_succ]
          refine wpAnyH_take (i := 31) (oi := { dst := some 188, op := Op.move (Operand.tmp 22), type := 34, pos := "more.go:47", after := #[{ on := 30, ground := Ground.guard }], guard := some (30, true) }) (v := .pointer (some ⟨y1, 0, none⟩)) rfl (by kernel_rfl) (by kernel_rfl) (by kernel_rfl) (fun _ _ _ h => h) (Or.inl ⟨by rfl, fun w hSw => by (try dsimp only at hSw); go_simp; try rfl⟩) hS2 ?_
          try simp only [Act.put, List.setIfInBounds_toArray, List.set_cons_zero, List.set_cons_succ]
          refine wpAnyH_take (i := 34) (oi := { dst := some 191, op := Op.move (Operand.tmp 8), type := 34, pos := "more.go:47", after := #[{ on := 30, ground := Ground.guard }], guard := some (30, true) }) (v := .pointer (some ⟨b1 + 1, 0, none⟩)) rfl (by kernel_rfl) (by kernel_rfl) (by kernel_rfl) (fun _ _ _ h => h) (Or.inl ⟨by rfl, fun w hSw => by (try dsimp only at hSw); go_simp; try rfl⟩) hS2 ?_
          try simp only [Act.put, List.setIfInBounds_toArray, List.set_cons_zero, List.set_cons_succ]
          refine wpAnyH_ready (rs := [32]) (by kernel_rfl) (by simp) ?_
          refine AllReadyH.cons (o := { dst := some 189, op := Op.call { callee := Callee.value (Operand.func 26), args := #[Operand.tmp 188], argTypes := #[34] }, type := 35, pos := "more.go:47", after := #[{ on := 31, ground := Ground.data }, { on := 30, ground := Ground.chain }, { on := 30, ground := Ground.guard }], guard := some (30, true) }) rfl (fun K hK => ?_) AllReadyH.nil
          go_simp
          refine (HBY.out.2.2.2.2.1 _ hc).mono ?_
          rintro e u3 ⟨v3, rfl, hcv3, hcn, hch3⟩
          go_wp2_with fail
          refine hK.out _ _ hch3 (fun _ => ?_)
          clear hK K
          try simp only [Act.put, List.setIfInBounds_toArray, List.set_cons_zero, List.set_cons_succ]
          refine wpAnyH_mono (S' := fun w' => Chg [] u3 w') (fun w h => hch3.trans_same h) _ _ _ _ ?_
          have hc : Chg [] w18 u3 := hcn
          clear hcn
          have hS3 : (fun w' => Chg [] u3 w') u3 := Chg.refl _ _
          refine wpAnyH_take (i := 33) (oi := { dst := some 190, op := Op.convert 35 9 (Operand.tmp 189), type := 9, pos := "more.go:47", after := #[{ on := 32, ground := Ground.data }, { on := 30, ground := Ground.guard }], guard := some (30, true) }) (v := .string S3) rfl (by kernel_rfl) (by kernel_rfl) (by kernel_rfl) (fun _ _ _ h => h) (Or.inl ⟨by rfl, fun w hSw => by (try dsimp only at hSw); have hcvw := hcv3 w hSw; go_simp; try rfl⟩) hS3 ?_
          try simp only [Act.put, List.setIfInBounds_toArray, List.set_cons_zero, List.set_cons_succ]
          refine wpAnyH_ready (rs := [35]) (by kernel_rfl) (by simp) ?_
          refine AllReadyH.cons (o := { dst := some 192, op := Op.call { callee := Callee.value (Operand.func 26), args := #[Operand.tmp 191], argTypes := #[34] }, type := 35, pos := "more.go:47", after := #[{ on := 34, ground := Ground.data }, { on := 32, ground := Ground.chain }, { on := 30, ground := Ground.guard }], guard := some (30, true) }) rfl (fun K hK => ?_) AllReadyH.nil
          go_simp
          refine (HBY.out.2.1 _ hc).mono ?_
          rintro e u4 ⟨v4, rfl, hcv4, hcn, hch4⟩
          go_wp2_with fail
          refine hK.out _ _ hch4 (fun _ => ?_)
          clear hK K
          try simp only [Act.put, List.setIfInBounds_toArray, List.set_cons_zero, List.set_cons_succ]
          refine wpAnyH_mono (S' := fun w' => Chg [] u4 w') (fun w h => hch4.trans_same h) _ _ _ _ ?_
          have hc : Chg [] w18 u4 := hcn
          clear hcn
          have hS4 : (fun w' => Chg [] u4 w') u4 := Chg.refl _ _
          refine wpAnyH_take (i := 36) (oi := { dst := some 193, op := Op.convert 35 9 (Operand.tmp 192), type := 9, pos := "more.go:47", after := #[{ on := 35, ground := Ground.data }, { on := 30, ground := Ground.guard }], guard := some (30, true) }) (v := .string S3) rfl (by kernel_rfl) (by kernel_rfl) (by kernel_rfl) (fun _ _ _ h => h) (Or.inl ⟨by rfl, fun w hSw => by (try dsimp only at hSw); have hcvw := hcv4 w hSw; go_simp; try rfl⟩) hS4 ?_
          try simp only [Act.put, List.setIfInBounds_toArray, List.set_cons_zero, List.set_cons_succ]
          refine wpAnyH_take (i := 37) (oi := { dst := some 194, op := Op.binOp BinOp.eql 9 (Operand.tmp 190) (Operand.tmp 193) 9, type := 4, pos := "more.go:47", after := #[{ on := 33, ground := Ground.data }, { on := 36, ground := Ground.data }, { on := 30, ground := Ground.guard }], guard := some (30, true) }) (v := .bool true) rfl (by kernel_rfl) (by kernel_rfl) (by kernel_rfl) (fun _ _ _ h => h) (Or.inl ⟨by rfl, fun w hSw => by (try dsimp only at hSw); go_simp; try rfl⟩) hS4 ?_
          try simp only [Act.put, List.setIfInBounds_toArray, List.set_cons_zero, List.set_cons_succ]
          refine wpAnyH_take (i := 38) (oi := { dst := some 195, op := Op.pick (Operand.tmp 187) (Operand.tmp 194) (Operand.const (Value.bool false)), type := 4, pos := "more.go:47", after := #[{ on := 30, ground := Ground.data }, { on := 37, ground := Ground.data }], guard := none }) (v := .bool true) rfl (by kernel_rfl) (by kernel_rfl) (by kernel_rfl) (fun _ _ _ h => h) (Or.inl ⟨by rfl, fun w hSw => by (try dsimp only at hSw); go_simp; try rfl⟩) hS4 ?_
          try simp only [Act.put, List.setIfInBounds_toArray, List.set_cons_zero, List.set_cons_succ]
          refine wpAnyH_take (i := 39) (oi := { dst := some 196, op := Op.move (Operand.tmp 195), type := 4, pos := "more.go:47", after := #[{ on := 38, ground := Ground.data }, { on := 35, ground := Ground.chain }], guard := none }) (v := .bool true) rfl (by kernel_rfl) (by kernel_rfl) (by kernel_rfl) (fun _ _ _ h => h) (Or.inl ⟨by rfl, fun w hSw => by (try dsimp only at hSw); go_simp; try rfl⟩) hS4 ?_
          try simp only [Act.put, List.setIfInBounds_toArray, List.set_cons_zero, List.set_cons_succ]
          refine wpAnyH_take (i := 40) (oi := { dst := some 197, op := Op.move (Operand.tmp 24), type := 34, pos := "more.go:47", after := #[{ on := 39, ground := Ground.guard }], guard := some (39, true) }) (v := .pointer (some ⟨z1, 0, none⟩)) rfl (by kernel_rfl) (by kernel_rfl) (by kernel_rfl) (fun _ _ _ h => h) (Or.inl ⟨by rfl, fun w hSw => by (try dsimp only at hSw); go_simp; try rfl⟩) hS4 ?_
          try simp only [Act.put, List.setIfInBounds_toArray, List.set_cons_zero, List.set_cons_succ]
          refine wpAnyH_take (i := 42) (oi := { dst := some 199, op := Op.move (Operand.tmp 9), type := 34, pos := "more.go:47", after := #[{ on := 39, ground := Ground.guard }], guard := some (39, true) }) (v := .pointer (some ⟨b1 + 1 + 1, 0, none⟩)) rfl (by kernel_rfl) (by kernel_rfl) (by kernel_rfl) (fun _ _ _ h => h) (Or.inl ⟨by rfl, fun w hSw => by (try dsimp only at hSw); go_simp; try rfl⟩) hS4 ?_
          try simp only [Act.put, List.setIfInBounds_toArray, List.set_cons_zero, List.set_cons_succ]
          refine wpAnyH_ready (rs := [41]) (by kernel_rfl) (by simp) ?_
          refine AllReadyH.cons (o := { dst := some 198, op := Op.call { callee := Callee.value (Operand.func 25), args := #[Operand.tmp 197], argTypes := #[34] }, type := 3, pos := "more.go:47", after := #[{ on := 40, ground := Ground.data }, { on := 39, ground := Ground.chain }, { on := 39, ground := Ground.guard }], guard := some (39, true) }) rfl (fun K hK => ?_) AllReadyH.nil
          go_simp
          refine (HL.out.2.2.2.2.2 _ hc).mono ?_
          rintro e wq ⟨rfl, rfl⟩
          go_wp2_with fail
          refine hK.out _ _ hS4 (fun _ => ?_)
          clear hK K
          try simp only [Act.put, List.setIfInBounds_toArray, List.set_cons_zero, List.set_cons_succ]
          refine wpAnyH_ready (rs := [43]) (by kernel_rfl) (by simp) ?_
          refine AllReadyH.cons (o := { dst := some 200, op := Op.call { callee := Callee.value (Operand.func 25), args := #[Operand.tmp 199], argTypes := #[34] }, type := 3, pos := "more.go:47", after := #[{ on := 42, ground := Ground.data }, { on := 41, ground := Ground.chain }, { on := 39, ground := Ground.guard }], guard := some (39, true) }) rfl (fun K hK => ?_) AllReadyH.nil
          go_simp
          refine (HL.out.2.2.1 _ hc).mono ?_
          rintro e wq ⟨rfl, rfl⟩
          go_wp2_with fail
          refine hK.out _ _ hS4 (fun _ => ?_)
          clear hK K
          try simp only [Act.put, List.setIfInBounds_toArray, List.set_cons_zero, List.set_cons_succ]
          refine wpAnyH_take (i := 44) (oi := { dst := some 201, op := Op.binOp BinOp.eql 3 (Operand.tmp 198) (Operand.tmp 200) 3, type := 4, pos := "more.go:47", after := #[{ on := 41, ground := Ground.data }, { on := 43, ground := Ground.data }, { on := 39, ground := Ground.guard }], guard := some (39, true) }) (v := .bool true) rfl (by kernel_rfl) (by kernel_rfl) (by kernel_rfl) (fun _ _ _ h => h) (Or.inl ⟨by rfl, fun w hSw => by (try dsimp only at hSw); go_simp; try rfl⟩) hS4 ?_
          try simp only [Act.put, List.setIfInBounds_toArray, List.set_cons_zero, List.set_cons_succ]
          refine wpAnyH_take (i := 45) (oi := { dst := some 202, op := Op.pick (Operand.tmp 196) (Operand.tmp 201) (Operand.const (Value.bool false)), type := 4, pos := "more.go:47", after := #[{ on := 39, ground := Ground.data }, { on := 44, ground := Ground.data }], guard := none }) (v := .bool true) rfl (by kernel_rfl) (by kernel_rfl) (by kernel_rfl) (fun _ _ _ h => h) (Or.inl ⟨by rfl, fun w hSw => by (try dsimp only at hSw); go_simp; try rfl⟩) hS4 ?_
          try simp only [Act.put, List.setIfInBounds_toArray, List.set_cons_zero, List.set_cons_succ]
          refine wpAnyH_take (i := 46) (oi := { dst := some 203, op := Op.move (Operand.tmp 202), type := 4, pos := "more.go:47", after := #[{ on := 45, ground := Ground.data }, { on := 43, ground := Ground.chain }], guard := none }) (v := .bool true) rfl (by kernel_rfl) (by kernel_rfl) (by kernel_rfl) (fun _ _ _ h => h) (Or.inl ⟨by rfl, fun w hSw => by (try dsimp only at hSw); go_simp; try rfl⟩) hS4 ?_
          try simp only [Act.put, List.setIfInBounds_toArray, List.set_cons_zero, List.set_cons_succ]
          refine wpAnyH_take (i := 47) (oi := { dst := some 204, op := Op.move (Operand.tmp 24), type := 34, pos := "more.go:47", after := #[{ on := 46, ground := Ground.guard }], guard := some (46, true) }) (v := .pointer (some ⟨z1, 0, none⟩)) rfl (by kernel_rfl) (by kernel_rfl) (by kernel_rfl) (fun _ _ _ h => h) (Or.inl ⟨by rfl, fun w hSw => by (try dsimp only at hSw); go_simp; try rfl⟩) hS4 ?_
          try simp only [Act.put, List.setIfInBounds_toArray, List.set_cons_zero, List.set_cons_succ]
          refine wpAnyH_take (i := 50) (oi := { dst := some 207, op := Op.move (Operand.tmp 9), type := 34, pos := "more.go:47", after := #[{ on := 46, ground := Ground.guard }], guard := some (46, true) }) (v := .pointer (some ⟨b1 + 1 + 1, 0, none⟩)) rfl (by kernel_rfl) (by kernel_rfl) (by kernel_rfl) (fun _ _ _ h => h) (Or.inl ⟨by rfl, fun w hSw => by (try dsimp only at hSw); go_simp; try rfl⟩) hS4 ?_
          try simp only [Act.put, List.setIfInBounds_toArray, List.set_cons_zero, List.set_cons_succ]
          refine wpAnyH_ready (rs := [48]) (by kernel_rfl) (by simp) ?_
          refine AllReadyH.cons (o := { dst := some 205, op := Op.call { callee := Callee.value (Operand.func 26), args := #[Operand.tmp 204], argTypes := #[34] }, type := 35, pos := "more.go:47", after := #[{ on := 47, ground := Ground.data }, { on := 46, ground := Ground.chain }, { on := 46, ground := Ground.guard }], guard := some (46, true) }) rfl (fun K hK => ?_) AllReadyH.nil
          go_simp
          refine (HBY.out.2.2.2.2.2 _ hc).mono ?_
          rintro e u5 ⟨v5, rfl, hcv5, hcn, hch5⟩
          go_wp2_with fail
          refine hK.out _ _ hch5 (fun _ => ?_)
          clear hK K
          try simp only [Act.put, List.setIfInBounds_toArray, List.set_cons_zero, List.set_cons_succ]
          refine wpAnyH_mono (S' := fun w' => Chg [] u5 w') (fun w h => hch5.trans_same h) _ _ _ _ ?_
          have hc : Chg [] w18 u5 := hcn
          clear hcn
          have hS5 : (fun w' => Chg [] u5 w') u5 := Chg.refl _ _
          refine wpAnyH_take (i := 49) (oi := { dst := some 206, op := Op.convert 35 9 (Operand.tmp 205), type := 9, pos := "more.go:47", after := #[{ on := 48, ground := Ground.data }, { on := 46, ground := Ground.guard }], guard := some (46, true) }) (v := .string S4) rfl (by kernel_rfl) (by kernel_rfl) (by kernel_rfl) (fun _ _ _ h => h) (Or.inl ⟨by rfl, fun w hSw => by (try dsimp only at hSw); have hcvw := hcv5 w hSw; go_simp; try rfl⟩) hS5 ?_
          try simp only [Act.put, List.setIfInBounds_toArray, List.set_cons_zero, List.set_cons_succ]
          refine wpAnyH_ready (rs := [51]) (by kernel_rfl) (by simp) ?_
          refine AllReadyH.cons (o := { dst := some 208, op := Op.call { callee := Callee.value (Operand.func 26), args := #[Operand.tmp 207], argTypes := #[34] }, type := 35, pos := "more.go:47", after := #[{ on := 50, ground := Ground.data }, { on := 48, ground := Ground.chain }, { on := 46, ground := Ground.guard }], guard := some (46, true) }) rfl (fun K hK => ?_) AllReadyH.nil
          go_simp
          refine (HBY.out.2.2.1 _ hc).mono ?_
          rintro e u6 ⟨v6, rfl, hcv6, hcn, hch6⟩
          go_wp2_with fail
          refine hK.out _ _ hch6 (fun _ => ?_)
          clear hK K
          try simp only [Act.put, List.setIfInBounds_toArray, List.set_cons_zero, List.set_cons_succ]
          refine wpAnyH_mono (S' := fun w' => Chg [] u6 w') (fun w h => hch6.trans_same h) _ _ _ _ ?_
          have hc : Chg [] w18 u6 := hcn
          clear hcn
          have hS6 : (fun w' => Chg [] u6 w') u6 := Chg.refl _ _
          refine wpAnyH_take (i := 52) (oi := { dst := some 209, op := Op.convert 35 9 (Operand.tmp 208), type := 9, pos := "more.go:47", after := #[{ on := 51, ground := Ground.data }, { on := 46, ground := Ground.guard }], guard := some (46, true) }) (v := .string S4) rfl (by kernel_rfl) (by kernel_rfl) (by kernel_rfl) (fun _ _ _ h => h) (Or.inl ⟨by rfl, fun w hSw => by (try dsimp only at hSw); have hcvw := hcv6 w hSw; go_simp; try rfl⟩) hS6 ?_
          try simp only [Act.put, List.setIfInBounds_toArray, List.set_cons_zero, List.set_cons_succ]
          refine wpAnyH_take (i := 53) (oi := { dst := some 210, op := Op.binOp BinOp.eql 9 (Operand.tmp 206) (Operand.tmp 209) 9, type := 4, pos := "more.go:47", after := #[{ on := 49, ground := Ground.data }, { on := 52, ground := Ground.data }, { on := 46, ground := Ground.guard }], guard := some (46, true) }) (v := .bool true) rfl (by kernel_rfl) (by kernel_rfl) (by kernel_rfl) (fun _ _ _ h => h) (Or.inl ⟨by rfl, fun w hSw => by (try dsimp only at hSw); go_simp; try rfl⟩) hS6 ?_
          try simp only [Act.put, List.setIfInBounds_toArray, List.set_cons_zero, List.set_cons_succ]
          refine wpAnyH_take (i := 54) (oi := { dst := some 211, op := Op.pick (Operand.tmp 203) (Operand.tmp 210) (Operand.const (Value.bool false)), type := 4, pos := "more.go:47", after := #[{ on := 46, ground := Ground.data }, { on := 53, ground := Ground.data }], guard := none }) (v := .bool true) rfl (by kernel_rfl) (by kernel_rfl) (by kernel_rfl) (fun _ _ _ h => h) (Or.inl ⟨by rfl, fun w hSw => by (try dsimp only at hSw); go_simp; try rfl⟩) hS6 ?_
          try simp only [Act.put, List.setIfInBounds_toArray, List.set_cons_zero, List.set_cons_succ]
          refine wpAnyH_take (i := 55) (oi := { dst := some 212, op := Op.move (Operand.tmp 211), type := 4, pos := "more.go:47", after := #[{ on := 54, ground := Ground.data }, { on := 51, ground := Ground.chain }], guard := none }) (v := .bool true) rfl (by kernel_rfl) (by kernel_rfl) (by kernel_rfl) (fun _ _ _ h => h) (Or.inl ⟨by rfl, fun w hSw => by (try dsimp only at hSw); go_simp; try rfl⟩) hS6 ?_
          try simp only [Act.put, List.setIfInBounds_toArray, List.set_cons_zero, List.set_cons_succ]
          refine wpAnyH_ready (rs := [56]) (by kernel_rfl) (by simp) ?_
          refine AllReadyH.cons (o := { dst := some 213, op := Op.call { callee := Callee.value (Operand.func 12), args := #[], argTypes := #[] }, type := 4, pos := "more.go:47", after := #[{ on := 55, ground := Ground.chain }, { on := 55, ground := Ground.guard }], guard := some (55, true) }) rfl (fun K hK => ?_) AllReadyH.nil
          go_simp
          refine (HKN.out _ hc).mono ?_
          rintro e uk ⟨rfl, hchk⟩
          go_wp2_with fail
          refine hK.out _ _ hchk (fun _ => ?_)
          clear hK K
          try simp only [Act.put, List.setIfInBounds_toArray, List.set_cons_zero, List.set_cons_succ]
          have hck : Chg [] w18 uk := hc.trans_same hchk
          refine wpAnyH_take (i := 57) (oi := { dst := some 214, op := Op.pick (Operand.tmp 212) (Operand.tmp 213) (Operand.const (Value.bool false)), type := 4, pos := "more.go:47", after := #[{ on := 55, ground := Ground.data }, { on := 56, ground := Ground.data }], guard := none }) (v := .bool true) rfl (by kernel_rfl) (by kernel_rfl) (by kernel_rfl) (fun _ _ _ h => h) (Or.inl ⟨by rfl, fun w hSw => by (try dsimp only at hSw); go_simp; try rfl⟩) hchk ?_
          try simp only [Act.put, List.setIfInBounds_toArray, List.set_cons_zero, List.set_cons_succ]
          refine wpAnyH_take (i := 58) (oi := { dst := some 2, op := Op.assign (Operand.tmp 214), type := 4, pos := "more.go:47", after := #[{ on := 57, ground := Ground.data }, { on := 56, ground := Ground.chain }, { on := 0, ground := Ground.phase }, { on := 1, ground := Ground.phase }, { on := 2, ground := Ground.phase }, { on := 3, ground := Ground.phase }, { on := 4, ground := Ground.phase }, { on := 5, ground := Ground.phase }, { on := 6, ground := Ground.phase }, { on := 7, ground := Ground.phase }, { on := 8, ground := Ground.phase }, { on := 9, ground := Ground.phase }, { on := 10, ground := Ground.phase }, { on := 11, ground := Ground.phase }, { on := 12, ground := Ground.phase }, { on := 13, ground := Ground.phase }, { on := 14, ground := Ground.phase }, { on := 15, ground := Ground.phase }, { on := 16, ground := Ground.phase }, { on := 17, ground := Ground.phase }, { on := 18, ground := Ground.phase }, { on := 19, ground := Ground.phase }, { on := 20, ground := Ground.phase }, { on := 21, ground := Ground.phase }, { on := 22, ground := Ground.phase }, { on := 23, ground := Ground.phase }, { on := 24, ground := Ground.phase }, { on := 25, ground := Ground.phase }, { on := 26, ground := Ground.phase }, { on := 27, ground := Ground.phase }, { on := 28, ground := Ground.phase }, { on := 29, ground := Ground.phase }, { on := 30, ground := Ground.phase }, { on := 31, ground := Ground.phase }, { on := 32, ground := Ground.phase }, { on := 33, ground := Ground.phase }, { on := 34, ground := Ground.phase }, { on := 35, ground := Ground.phase }, { on := 36, ground := Ground.phase }, { on := 37, ground := Ground.phase }, { on := 38, ground := Ground.phase }, { on := 39, ground := Ground.phase }, { on := 40, ground := Ground.phase }, { on := 41, ground := Ground.phase }, { on := 42, ground := Ground.phase }, { on := 43, ground := Ground.phase }, { on := 44, ground := Ground.phase }, { on := 45, ground := Ground.phase }, { on := 46, ground := Ground.phase }, { on := 47, ground := Ground.phase }, { on := 48, ground := Ground.phase }, { on := 49, ground := Ground.phase }, { on := 50, ground := Ground.phase }, { on := 51, ground := Ground.phase }, { on := 52, ground := Ground.phase }, { on := 53, ground := Ground.phase }, { on := 54, ground := Ground.phase }, { on := 55, ground := Ground.phase }, { on := 56, ground := Ground.phase }, { on := 57, ground := Ground.phase }], guard := none }) (v := .bool true) rfl (by kernel_rfl) (by kernel_rfl) (by kernel_rfl) (fun _ _ _ h => h) (Or.inl ⟨by rfl, fun w hSw => by (try dsimp only at hSw); go_simp; try rfl⟩) hchk ?_
          try simp only [Act.put, List.setIfInBounds_toArray, List.set_cons_zero, List.set_cons_succ]
          refine wpAnyH_done (by kernel_rfl) ?_ _
          go_wp2
          go_ret
          exact ⟨rfl, HCW.out.trans_same hck⟩
        · have him : i < m := by omega
          have t1 : decide (i < m) = true := decide_eq_true him
          have hiE : i < E.length := by rw [hel]; exact him
          obtain ⟨cap', heq, _, _, hcell, hfro⟩ := hrow.open_map
          have hce := hcell i _ (mixL_at (fun v => foldI v d) E hiE)
          have hfr := hfro i
          have hset := hrow.set_ (i := i) (by rw [List.length_map, mixL_len]; exact hiE) (vi (foldI (E.getD i 0) d))
          rw [← List.map_set, mixL_set (fun v => foldI v d) E hiE] at hset
          have hfd := fun w => fold_ok (E.getD i 0) d w hd0 hd1
          generalize E.getD i 0 = x at *
          obtain ⟨y, hy⟩ : ∃ y, y = foldI x d := ⟨_, rfl⟩
          rw [← hy] at hset hfd
          have hce' : wr.cell? ⟨g3, i, none⟩ = some (.int .i64 x) := hce
          have hset' : Row (wr.setCell ⟨g3, i, none⟩ (.int .i64 y)) _ _ _ _ := hset
          clear heq hcell hfro hce hset hy hrow
          go_wp2_with (go_at_call 18; refine (hfd _).mono ?_; rintro e w' ⟨rfl, rfl⟩)
          go_roundg j
          case measure => omega
          case rel =>
            exact ⟨i + 1, by go_num, by omega, hset', hch.setCell (.inl (by simp)) _⟩
    · have him : i < H := by omega
      have hil : i < K.length := by rw [HKLEN.out]; exact him
      have t1 : decide (i < H) = true := decide_eq_true him
      obtain ⟨gg, o, rfl, cl⟩ := (hc5.keep hap5 hgr.chg).at_ hil
      have htk := take_snoc' K hil
      have hsx := HKO.out K[i] (List.getElem_mem hil)
      obtain ⟨x, hx⟩ : ∃ x, x = K[i] := ⟨_, rfl⟩
      rw [← hx] at cl htk hsx
      have hxn : x = ((x.toNat : Nat) : Int) := (Int.toNat_of_nonneg hsx.1).symm
      have hlt : x.toNat < 2 ^ 4 := by
        have e2 : ((2 ^ 4 : Nat) : Int) = (2 : Int) ^ 4 := by simp
        omega
      have hal := allOf_snoc (K.take i) x 4
      rw [← htk] at hal
      obtain ⟨k, hk⟩ : ∃ k, k = x.toNat := ⟨_, rfl⟩
      rw [← hk] at hxn hlt hal
      rw [hxn] at cl
      have cl' : _ = some (Value.int .i64 (k : Int)) := cl
      have hk16 : k < 16 := hlt
      have HAL := hid hal
      have HLT := hid hlt
      clear hal hlt hk hxn hsx htk hx cl hil
      go_wp2_with fail
      refine (wput_ok _ b1 F' bs' k 4 hwr (by omega) HLT.out (by omega)).mono ?_
      rintro e w6 ⟨rfl, F2, h2, g2⟩
      go_wp2_with fail
      go_roundg j
      case measure => omega
      case rel =>
        refine ⟨i + 1, F2, _, by go_num, by omega, h2, hid ?_, ?_, hgr.trans g2⟩
        · rw [HAL.out, Hb.out, List.append_assoc]
        · rw [List.length_append, bitsOf_len]; omega
end Go.Proofs.YtpkplhmdnjdmoaaGreatDoor
