/- ArithCut, the walk: truncated bytes are rejected with ErrShort, by NewDecoder or by the decoder that is asked for all bits. -/
import Derived.Test.YtofdgpgleghllaaArOdds
namespace Go.Proofs.Ytofdgpgleghllaa
set_option linter.unusedSimpArgs false
set_option linter.unusedVariables false
open Go.RowKit

def bitOf (b : Bool) : Nat := if b then 1 else 0
def bitAct (b : Bool) : ActV := ⟨0, 0, bitOf b, 0, 0⟩
theorem bitAct_wf (b : Bool) : WfA (bitAct b) := by unfold WfA bitAct; simp
theorem bitAct_ok {N : Nat} (h : 1 ≤ N) (b : Bool) : okAct N (bitAct b) = true := by
  unfold okAct bitAct bitOf
  cases b <;> simp <;> omega
theorem bitAct_apply (c : Cod) (b : Bool) : applyA c (bitAct b) = putL c 0 (bitOf b) := by
  unfold applyA bitAct
  simp
def bitsA (l : List Bool) : List ActV := l.map bitAct
theorem bitsA_ok {N : Nat} (h : 1 ≤ N) (l : List Bool) : ∀ a ∈ bitsA l, WfA a ∧ okAct N a = true := by
  intro a ha
  obtain ⟨b, _, rfl⟩ := List.mem_map.1 ha
  exact ⟨bitAct_wf b, bitAct_ok h b⟩
theorem bitsA_snoc (l : List Bool) (b : Bool) (c : Cod) : runA c (bitsA (l ++ [b])) = putL (runA c (bitsA l)) 0 (bitOf b) := by
  unfold bitsA
  rw [List.map_append, List.map_cons, List.map_nil, runA_snoc, bitAct_apply]
theorem fut_bits {data : List Nat} (hd : ∀ d ∈ data, d < 256) {c : Cod} (h : CodOk c) (hf : CodFit c) (hk : 1 ≤ c.odds.length) (l : List Bool) (m : Nat) (hF : Fut data (runA c (bitsA l))) : Fut data (runA c (bitsA (l.take m))) := by
  obtain ⟨k1, k2, k3, -⟩ := runA_ok (bitsA (l.take m)) h hf (bitsA_ok hk _)
  have hs : runA c (bitsA l) = runA (runA c (bitsA (l.take m))) (bitsA (l.drop m)) := by
    unfold runA bitsA
    rw [← List.foldl_append, ← List.map_append, List.take_append_drop]
  exact fut_run (bitsA (l.drop m)) hd k1 k2 (fun a ha => by rw [k3]; exact bitsA_ok hk _ a ha) (by rw [← hs]; exact hF)
theorem bitOf_01 (b : Bool) : bitOf b = 0 ∨ bitOf b = 1 := by unfold bitOf; cases b <;> simp

set_option maxRecDepth 100000 in
set_option maxHeartbeats 8000000 in
theorem cut_walk (w : World) (A : Option Addr) (cap : Nat) (l : List Bool) (hl : Cells Value.bool w A l) (cut : Int) :
    Calls Try.prog 8 #[.slice A l.length cap, .int .i64 cut] w fun e w' => e = .returned (.bool true) ∧ Below w.heap.size w w' := by
  by_cases c0 : 300 < l.length
  · have t0 : decide ((300 : Int) < (l.length : Int)) = true := by simp; omega
    go_enter Try.func8, Try.ntmps8
    go_wp2_with fail
    refine (known_ok w).mono ?_
    rintro e w1 ⟨rfl, ch1⟩
    go_wp2_with fail
    go_ret
    exact ⟨rfl, ch1.below (by simp)⟩
  have t0 : decide ((300 : Int) < (l.length : Int)) = false := by simp; omega
  obtain ⟨k0, hk0, hand⟩ := i64_and_low cut 65535 (by decide)
  replace hand : bits .and .i64 cut 65535 = (k0 : Int) := hand
  have h1 : 1 ≤ (newCod 1).odds.length := by decide
  obtain ⟨kok, kfit, kod, klen⟩ := runA_ok (bitsA l) (newCod_ok 1) (newCod_fit 1) (bitsA_ok h1 l)
  obtain ⟨cF, hcF⟩ : ∃ cF, cF = runA (newCod 1) (bitsA l) := ⟨_, rfl⟩
  rw [← hcF] at kok kfit kod klen
  have hF := fut_self kok
  have hF0 : Fut cF.low (newCod 1) := fut_bits kok.dig (newCod_ok 1) (newCod_fit 1) h1 l 0 (by rw [← hcF]; exact hF)
  have hff := first_four kok kfit kok.dig hF0
  have hlow : cF.low.length ≤ 100000 := by
    have h5 : (newCod 1).low.length = 4 := rfl
    have h6 : (bitsA l).length = l.length := by simp [bitsA]
    omega
  have h4 := kok.len
  obtain ⟨k, hk⟩ : ∃ k, k = k0 % cF.low.length := ⟨_, rfl⟩
  have hkl : k < cF.low.length := by rw [hk]; exact Nat.mod_lt _ (by omega)
  have hmod : (k0 : Int) % (cF.low.length : Int) = (k : Int) := by rw [hk]; simp
  have HDIG := hid kok.dig
  have HFF := hid hff
  have HCF := hid hcF
  clear hff hcF kod klen hk
  go_enter Try.func8, Try.ntmps8
  go_wp2_with fail
  refine (known_ok w).mono ?_
  rintro e w1 ⟨rfl, ch1⟩
  go_wp2_with fail
  refine (newCoder_ok 1 w1 (by decide) (by decide)).mono ?_
  rintro e w2 ⟨b, g, h, rfl, hc2, ch2, hb2, hg2, hh2⟩
  have hch2 : Chg [] w w2 := ch1.trans_same ch2
  have s1 := ch1.size
  go_wp2_with fail
  go_loopg [7] l.length (fun m i wr => ∃ (g' : Nat), m ≤ l.length ∧ i = .int .i64 ((l.length - m : Nat) : Int) ∧ IsCod 61 wr b g' h (runA (newCod 1) (bitsA (l.take (l.length - m)))) ∧ Chg [] w wr ∧ w.heap.size ≤ g')
  case atStart => exact ⟨g, Nat.le_refl _, by simp, by simpa [runA, bitsA] using hc2, hch2, by omega⟩
  case round =>
    obtain ⟨g', hm, rfl, hcr, hch, hg'⟩ := hrel
    rcases gk with _ | q
    · have t1 : decide (((l.length - 0 : Nat) : Int) < l.length) = false := by simp
      have hcr' : IsCod 61 wr b g' h cF := by rw [HCF.out]; simpa using hcr
      clear hcr
      go_wp2_with fail
      refine (bytes_ok wr b g' h cF hcr' kok (by omega)).mono ?_
      rintro e w3 ⟨g3, cap3, rfl, hr3, ch3, hg3⟩
      obtain ⟨cap3', e3, l3, m3, cl3, -⟩ := hr3.open_map
      obtain rfl : cap3 = cap3' := by simpa using e3
      clear e3
      have CL3 := hid cl3
      clear cl3
      have hch3 := hch.trans_same ch3
      have t2 : ((cF.low.length : Int) == 0) = false := by rw [beq_eq_false_iff_ne]; omega
      by_cases hk4 : k < 4
      · go_wp2_with fail
        refine (newDecoder_short (some ⟨g3, 0, none⟩) k cap3 1 w3 (by decide) (by decide) hk4).mono ?_
        rintro e w4 ⟨rfl, rfl⟩
        go_wp2_with fail
        go_ret
        exact ⟨rfl, hch3.below (by simp)⟩
      · have hlk : (cF.low.take k).length = k := by rw [List.length_take]; omega
        have hdk : ∀ d ∈ cF.low.take k, d < 256 := fun d hd => HDIG.out d (List.mem_of_mem_take hd)
        have hfk : Fut (cF.low.take k) (newCod 1) := ⟨by rw [hlk]; show 4 ≤ k; omega, by rw [pre_take (by show 4 ≤ k; omega)]; exact hF0.lo, by rw [pre_take (by show 4 ≤ k; omega)]; exact hF0.hi⟩
        have hffk : valD ((cF.low.take k).take 4) ≠ 4294967295 := by rw [List.take_take, Nat.min_eq_left (by omega)]; exact HFF.out
        have hokD : DecOk (newDec (cF.low.take k) 1) := newDec_ok 1 hdk (by omega) hfk
        have hcell : ∀ (i d : Nat), (cF.low.take k)[i]? = some d → w3.cell? ⟨g3, i, none⟩ = some (b8 d) := fun i d hd => by
          rw [List.getElem?_take] at hd
          split at hd
          · exact CL3.out i d hd
          · cases hd
        have HLK := hid hlk
        have HDK := hid hdk
        have HFFK := hid hffk
        have HCELL := hid hcell
        clear hlk hdk hfk hffk hcell
        go_wp2_with fail
        rw [show (Value.slice (some ⟨g3, 0, none⟩) k cap3) = Value.slice (some ⟨g3, 0, none⟩) (cF.low.take k).length cap3 from by rw [HLK.out]]
        refine (newDecoder_ok g3 cap3 (cF.low.take k) 1 w3 (by decide) (by decide) (by rw [HLK.out]; omega) m3 HCELL.out HDK.out (by rw [HLK.out]; omega) (by rw [HLK.out]; omega) HFFK.out).mono ?_
        rintro e w4 ⟨b4, g4, h4', rfl, hd4, ch4, hb4, hg4, hh4⟩
        have hch4 := hch3.trans_same ch4
        have s3 := hch3.size
        go_wp2_with fail
        go_loopg [12] l.length (fun m i wz => ∃ (D : Dec), m ≤ l.length ∧ i = .int .i64 ((l.length - m : Nat) : Int) ∧ IsDec 69 wz b4 g4 h4' D ∧ Hid (D.data = cF.low.take k) ∧
          Hid (D.err = 3 ∨ (DecOk D ∧ Syn D (runA (newCod 1) (bitsA (l.take (l.length - m)))))) ∧ Chg [] w wz)
        case atStart => exact ⟨newDec (cF.low.take k) 1, Nat.le_refl _, by simp, hd4, hid rfl, hid (.inr ⟨hokD, by simpa [runA, bitsA] using syn_new (cF.low.take k) 1⟩), hch4⟩
        case round =>
          obtain ⟨D, hm, rfl, hdr, Hdat, Hcase, hchr⟩ := hrel
          rcases gk with _ | q
          · have t3 : decide (((l.length - 0 : Nat) : Int) < l.length) = false := by simp
            have herr : D.err = 3 := by
              rcases Hcase.out with h9 | ⟨hokr, hSr⟩
              · exact h9
              · exfalso
                have hS : Syn D cF := by rw [HCF.out]; simpa using hSr
                have h10 := hokr.pos
                rw [hS.pos, Hdat.out, HLK.out] at h10
                omega
            go_wp2_with fail
            refine (err_any wr b4 g4 h4' D hdr).mono ?_
            rintro e wx ⟨rfl, rfl⟩
            rw [herr]
            go_wp2_with fail
            go_ret
            exact ⟨rfl, hchr.below (by simp)⟩
          · obtain ⟨m, hmm⟩ : ∃ m, m = l.length - (q + 1) := ⟨_, rfl⟩
            rw [← hmm] at Hcase ⊢
            have hm1 : m < l.length := by omega
            have hm2 : l.length - q = m + 1 := by omega
            have HM := hid hm2
            clear hmm hm2
            by_cases he : D.err = 0
            · obtain ⟨hokr, hSr⟩ : DecOk D ∧ Syn D (runA (newCod 1) (bitsA (l.take m))) := by
                rcases Hcase.out with h9 | h9
                · omega
                · exact h9
              obtain ⟨bb, hbb⟩ : ∃ bb, l[m]? = some bb := ⟨_, List.getElem?_eq_getElem hm1⟩
              have htk : l.take (m + 1) = l.take m ++ [bb] := by rw [List.take_add_one, hbb]; rfl
              have hnext : runA (newCod 1) (bitsA (l.take (m + 1))) = putL (runA (newCod 1) (bitsA (l.take m))) 0 (bitOf bb) := by rw [htk, bitsA_snoc]
              obtain ⟨k1, k2, k3, -⟩ := runA_ok (bitsA (l.take m)) (newCod_ok 1) (newCod_fit 1) (bitsA_ok h1 _)
              have hk3 : 0 < (runA (newCod 1) (bitsA (l.take m))).odds.length := by rw [k3]; decide
              have hF1 : Fut cF.low (putL (runA (newCod 1) (bitsA (l.take m))) 0 (bitOf bb)) := by
                rw [← hnext]
                exact fut_bits kok.dig (newCod_ok 1) (newCod_fit 1) h1 l (m + 1) (by rw [← HCF.out]; exact hF)
              have hcut := dget_cut (F := cF.low) (k := k) hSr Hdat.out (by omega) hokr.pos HDIG.out k1 k2 hk3 (bitOf_01 bb) hF1
              have hd0 : 0 < D.odds.length := by rw [hSr.odds]; exact hk3
              have hok2 := dget_ok hokr hd0
              have hdat2 := dget_data D 0
              have HNX := hid hnext
              have HCUT := hid hcut
              have HD2 := hid hdat2
              clear hbb htk hnext hF1 hcut hdat2 k1 k2 k3 hk3
              go_wp2_with fail
              refine (dget_any wr b4 g4 h4' D 0 hdr hokr he hd0).mono ?_
              rintro e w7 ⟨rfl, hd7, ch7⟩
              have hch7 := hchr.trans ch7 (by intro x hx; simp at hx; right; omega)
              go_wp2_with fail
              go_roundg q
              case measure => omega
              case rel =>
                rw [HM.out]
                refine ⟨_, by omega, by go_num, hd7, hid (by rw [HD2.out]; exact Hdat.out), hid ?_, hch7⟩
                rw [HNX.out]
                rcases Nat.lt_or_ge k (putL (runA (newCod 1) (bitsA (l.take m))) 0 (bitOf bb)).low.length with h11 | h11
                · exact .inl (HCUT.out.2 h11)
                · exact .inr ⟨hok2, (HCUT.out.1 h11).2⟩
            · have herr : D.err = 3 := by
                rcases Hcase.out with h9 | ⟨hokr, hSr⟩
                · exact h9
                · exact absurd hSr.err he
              have HE := hid herr
              clear herr
              go_wp2_with fail
              refine (dget_dead wr b4 g4 h4' D 0 hdr he).mono ?_
              rintro e w7 ⟨rfl, rfl⟩
              go_wp2_with fail
              go_roundg q
              case measure => omega
              case rel =>
                rw [HM.out]
                exact ⟨D, by omega, by go_num, hdr, Hdat, hid (.inl HE.out), hchr⟩
    · obtain ⟨m, hmm⟩ : ∃ m, m = l.length - (q + 1) := ⟨_, rfl⟩
      rw [← hmm] at hcr ⊢
      have hm1 : m < l.length := by omega
      have hm2 : l.length - q = m + 1 := by omega
      have HM := hid hm2
      clear hmm hm2
      obtain ⟨bb, hbb⟩ : ∃ bb, l[m]? = some bb := ⟨_, List.getElem?_eq_getElem hm1⟩
      obtain ⟨b0, o0, rfl, hb0, hcells⟩ := hl.ex (by omega)
      have r0 : wr.cell? ⟨b0, o0 + m, none⟩ = some (.bool bb) := (World.cell?_of_block (w := w) (hch.block b0 hb0 (by simp))).trans (hcells m bb hbb)
      have htk : l.take (m + 1) = l.take m ++ [bb] := by rw [List.take_add_one, hbb]; rfl
      have hnext : runA (newCod 1) (bitsA (l.take (m + 1))) = putL (runA (newCod 1) (bitsA (l.take m))) 0 (bitOf bb) := by rw [htk, bitsA_snoc]
      obtain ⟨k1, k2, k3, k4⟩ := runA_ok (bitsA (l.take m)) (newCod_ok 1) (newCod_fit 1) (bitsA_ok h1 _)
      have hk3 : 0 < (runA (newCod 1) (bitsA (l.take m))).odds.length := by rw [k3]; decide
      have hlowm : (runA (newCod 1) (bitsA (l.take m))).low.length ≤ 100000 := by
        have h5 : (newCod 1).low.length = 4 := rfl
        have h6 : (bitsA (l.take m)).length ≤ l.length := by simp [bitsA, List.length_take]; omega
        omega
      have HNX := hid hnext
      generalize runA (newCod 1) (bitsA (l.take m)) = c1 at *
      have lt2 := hcr.lt
      have hsz := hch.size
      clear hcells hbb htk hnext k3 k4
      cases bb
      all_goals
        go_wp2_with fail
        refine (put_ok wr b g' h c1 0 _ hcr k1 hk3 (by first | exact .inl rfl | exact .inr rfl) (by omega)).mono ?_
        rintro e w3 ⟨rfl, g3, hc3, ch3, hg3⟩
        go_wp2_with fail
        go_roundg q
        case measure => omega
        case rel =>
          rw [HM.out]
          refine ⟨g3, by omega, by go_num, by rw [HNX.out]; exact hc3, hch.trans ch3 ?_, ?_⟩
          · intro x hx
            simp at hx
            right
            omega
          · rcases hg3 with rfl | hg3
            · exact hg'
            · omega
end Go.Proofs.Ytofdgpgleghllaa
