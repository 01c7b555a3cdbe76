/- ArithNumbers, the walk: numbers of any size are decoded in order; one above the maximum gives ErrForm. -/
import Derived.Test.YtofdgpgleghllaaArOdds
import Derived.Test.YtofdgpgleghllaaArOpen
namespace Go.Proofs.Ytofdgpgleghllaa
set_option linter.unusedSimpArgs false
set_option linter.unusedVariables false
open Go.RowKit

def numAct (k : Nat) (n : Fin 4294967296) : ActV := ⟨2, k, 0, 0, n.val⟩
theorem numAct_wf (k : Nat) (n : Fin 4294967296) : WfA (numAct k n) := by
  have := n.isLt
  unfold WfA numAct
  simp only
  omega
theorem numAct_ok {N k : Nat} (h : k + 33 ≤ N) (n : Fin 4294967296) : okAct N (numAct k n) = true := by
  have := n.isLt
  unfold okAct numAct
  simp
  omega
theorem numAct_apply (c : Cod) (k : Nat) (n : Fin 4294967296) : applyA c (numAct k n) = numL c k n.val := rfl
def nums (k : Nat) (l : List (Fin 4294967296)) : List ActV := l.map (numAct k)
theorem nums_ok {N k : Nat} (h : k + 33 ≤ N) (l : List (Fin 4294967296)) : ∀ a ∈ nums k l, WfA a ∧ okAct N a = true := by
  intro a ha
  obtain ⟨n, _, rfl⟩ := List.mem_map.1 ha
  exact ⟨numAct_wf k n, numAct_ok h n⟩
theorem nums_snoc (k : Nat) (l : List (Fin 4294967296)) (n : Fin 4294967296) (c : Cod) : runA c (nums k (l ++ [n])) = numL (runA c (nums k l)) k n.val := by
  unfold nums
  rw [List.map_append, List.map_cons, List.map_nil, runA_snoc, numAct_apply]
theorem fut_nums {data : List Nat} (hd : ∀ d ∈ data, d < 256) {c : Cod} (h : CodOk c) (hf : CodFit c) {k : Nat} (hk : k + 33 ≤ c.odds.length) (l : List (Fin 4294967296)) (m : Nat) (hF : Fut data (runA c (nums k l))) : Fut data (runA c (nums k (l.take m))) := by
  obtain ⟨k1, k2, k3, -⟩ := runA_ok (nums k (l.take m)) h hf (nums_ok hk _)
  have hs : runA c (nums k l) = runA (runA c (nums k (l.take m))) (nums k (l.drop m)) := by
    unfold runA nums
    rw [← List.foldl_append, ← List.map_append, List.take_append_drop]
  exact fut_run (nums k (l.drop m)) hd k1 k2 (fun a ha => by rw [k3]; exact nums_ok hk _ a ha) (by rw [← hs]; exact hF)

set_option maxRecDepth 100000 in
set_option maxHeartbeats 8000000 in
theorem numbers_walk (w : World) (A : Option Addr) (cap : Nat) (l : List (Fin 4294967296)) (hl : Cells u32v w A l) (cx : Int) :
    Calls Try.prog 7 #[.slice A l.length cap, .int .i64 cx] w fun e w' => e = .returned (.bool true) ∧ Below w.heap.size w w' := by
  by_cases c0 : 60 < l.length
  · have t0 : decide ((60 : Int) < (l.length : Int)) = true := by simp; omega
    go_enter Try.func7, Try.ntmps7
    go_wp2_with fail
    refine (known_ok w).mono ?_
    rintro e w1 ⟨rfl, ch1⟩
    go_wp2_with fail
    go_ret
    exact ⟨rfl, ch1.below (by simp)⟩
  have t0 : decide ((60 : Int) < (l.length : Int)) = false := by simp; omega
  obtain ⟨k, hk31, hand⟩ := i64_and_low cx 31 (by decide)
  replace hand : bits .and .i64 cx 31 = (k : Int) := hand
  have hk64 : k + 33 ≤ (newCod 64).odds.length := by simp [newCod]; omega
  obtain ⟨kok, kfit, kod, klen⟩ := runA_ok (nums k l) (newCod_ok 64) (newCod_fit 64) (nums_ok hk64 l)
  obtain ⟨cF, hcF⟩ : ∃ cF, cF = runA (newCod 64) (nums k l) := ⟨_, rfl⟩
  rw [← hcF] at kok kfit kod klen
  have hF := fut_self kok
  have hF0 : Fut cF.low (newCod 64) := fut_nums kok.dig (newCod_ok 64) (newCod_fit 64) hk64 l 0 (by rw [← hcF]; exact hF)
  have hff := first_four kok kfit kok.dig (fut_new hF0)
  have hlow : cF.low.length ≤ 100000 := by
    have : (newCod 64).low.length = 4 := rfl
    have : (nums k l).length = l.length := by simp [nums]
    omega
  have h4 := kok.len
  have hokD : DecOk (newDec cF.low 64) := newDec_ok 64 kok.dig h4 hF0
  have HDIG := hid kok.dig
  have HFF := hid hff
  have HCF := hid hcF
  have HK64 := hid hk64
  clear hff hcF kod klen hk64
  go_enter Try.func7, Try.ntmps7
  go_wp2_with fail
  refine (known_ok w).mono ?_
  rintro e w1 ⟨rfl, ch1⟩
  go_wp2_with fail
  refine (newCoder_ok 64 w1 (by decide) (by decide)).mono ?_
  rintro e w2 ⟨b, g, h, rfl, hc2, ch2, hb2, hg2, hh2⟩
  have hch2 : Chg [] w w2 := ch1.trans_same ch2
  have s1 := ch1.size
  go_wp2_with fail
  go_loopg [8] l.length (fun m i wr => ∃ (g' : Nat), m ≤ l.length ∧ i = .int .i64 ((l.length - m : Nat) : Int) ∧ IsCod 61 wr b g' h (runA (newCod 64) (nums k (l.take (l.length - m)))) ∧ Chg [] w wr ∧ w.heap.size ≤ g')
  case atStart => exact ⟨g, Nat.le_refl _, by simp, by simpa [runA, nums] using hc2, hch2, by omega⟩
  case round =>
    obtain ⟨g', hm, rfl, hcr, hch, hg'⟩ := hrel
    rcases gk with _ | q
    · have t1 : decide (((l.length - 0 : Nat) : Int) < l.length) = false := by simp
      have hcr' : IsCod 61 wr b g' h cF := by rw [HCF.out]; simpa using hcr
      clear hcr
      go_wp2_with fail
      refine (bytes_ok wr b g' h cF hcr' kok (by omega)).mono ?_
      rintro e w3 ⟨g3, cap3, rfl, hr3, ch3, hg3⟩
      obtain ⟨cap3', e3, l3, m3, cl3, -⟩ := hr3.open_map
      obtain rfl : cap3 = cap3' := by simpa using e3
      clear e3
      have CL3 := hid cl3
      clear cl3
      go_wp2_with fail
      refine (newDecoder_ok g3 cap3 cF.low 64 w3 (by decide) (by decide) l3 m3 CL3.out HDIG.out h4 (by omega) HFF.out).mono ?_
      rintro e w4 ⟨b4, g4, h4', rfl, hd4, ch4, hb4, hg4, hh4⟩
      obtain ⟨cap3'', e3, -, -, cl3, -⟩ := (hr3.chg ch4 (by simp)).open_map
      obtain rfl : cap3 = cap3'' := by simpa using e3
      clear e3
      have CL4 := hid cl3
      clear cl3
      go_wp2_with fail
      refine (newDecoder_ok g3 cap3 cF.low 64 w4 (by decide) (by decide) l3 m3 CL4.out HDIG.out h4 (by omega) HFF.out).mono ?_
      rintro e w5 ⟨b5, g5, h5, rfl, hd5, ch5, hb5, hg5, hh5⟩
      have hd4' := hd4.same ch5
      have hch5 : Chg [] w w5 := ((hch.trans_same ch3).trans_same ch4).trans_same ch5
      have ltd := hd4.lt
      have s3 := ((hch.trans_same ch3)).size
      have s4 := ch4.size
      have s5 := ch5.size
      clear hd4 hr3 ch3 ch4 ch5
      go_wp2_with fail
      go_loopg [14] l.length (fun m i wz => ∃ (D : Dec), m ≤ l.length ∧ i = .int .i64 ((l.length - m : Nat) : Int) ∧ IsDec 69 wz b4 g4 h4' D ∧ DecOk D ∧ Syn D (runA (newCod 64) (nums k (l.take (l.length - m)))) ∧ Hid (D.data = cF.low) ∧
        IsDec 69 wz b5 g5 h5 (newDec cF.low 64) ∧ Chg [] w wz ∧ w5.heap.size ≤ wz.heap.size)
      case atStart => exact ⟨newDec cF.low 64, Nat.le_refl _, by simp, hd4', hokD, by simpa [runA, nums] using syn_new cF.low 64, hid rfl, hd5, hch5, Nat.le_refl _⟩
      case round =>
        obtain ⟨D, hm, rfl, hdr, hokr, hSr, Hdat, hd5r, hchr, hszr⟩ := hrel
        rcases gk with _ | q
        · have t1 : decide (((l.length - 0 : Nat) : Int) < l.length) = false := by simp
          have hS : Syn D cF := by rw [HCF.out]; simpa using hSr
          clear hSr
          go_wp2_with fail
          refine (err_any wr b4 g4 h4' D hdr).mono ?_
          rintro e wx ⟨rfl, rfl⟩
          rw [hS.err]
          go_wp2_with fail
          refine (left_any wx b4 g4 h4' D hdr hokr.pos).mono ?_
          rintro e wx2 ⟨rfl, n6, rfl⟩
          have hleft : D.data.length - D.pos = 0 := by rw [Hdat.out, hS.pos]; simp
          rw [hleft]
          have hch6 : Chg [] w (wx.drewN n6) := hchr.drewN n6
          have hd6 : IsDec 69 (wx.drewN n6) b5 g5 h5 (newDec cF.low 64) := hd5r.same ((Chg.refl _ _).drewN n6)
          clear hleft
          by_cases hnil : l.length = 0
          · have t2 : ((l.length : Int) == 0) = true := by rw [beq_iff_eq]; omega
            have HNIL := hid hnil
            clear hnil
            go_wp2_with fail
            go_ret
            exact ⟨rfl, hch6.below (by simp)⟩
          · have t2 : ((l.length : Int) == 0) = false := by rw [beq_eq_false_iff_ne]; omega
            have hpos : 0 < l.length := by omega
            obtain ⟨n0, hn0⟩ : ∃ n0, l[0]? = some n0 := ⟨_, List.getElem?_eq_getElem hpos⟩
            obtain ⟨b0, o0, rfl, hb0, hcells⟩ := hl.ex hpos
            have hc0 := hcells 0 n0 hn0
            have hold : ∀ wz, Chg [] w wz → wz.cell? ⟨b0, o0, none⟩ = some (.int .u32 (n0.val : Int)) := fun wz hz => (World.cell?_of_block (w := w) (hz.block b0 hb0 (by simp))).trans hc0
            have r0 := hold _ hch6
            have r0' : wx.cell? ⟨b0, o0, none⟩ = some (.int .u32 (n0.val : Int)) := hold _ hchr
            have hnum : numL (newCod 64) k n0.val = runA (newCod 64) (nums k (l.take 1)) := by
              have : l.take 1 = [n0] := by
                rw [List.take_one, List.head?_eq_getElem?, hn0]
                rfl
              rw [this]
              rfl
            have hF1 : Fut cF.low (numL (newCod 64) k n0.val) := by
              rw [hnum]
              exact fut_nums kok.dig (newCod_ok 64) (newCod_fit 64) HK64.out l 1 (by rw [← HCF.out]; exact hF)
            have hlt := n0.isLt
            obtain ⟨n, hn⟩ : ∃ n, n = n0.val := ⟨_, rfl⟩
            rw [← hn] at hF1 hlt r0 r0'
            have HF1 := hid hF1
            have HOLD := hid hold
            clear hcells hc0 hn0 hold hnum hn hF1 hnil
            by_cases hz : n = 0
            · have t3 : ((n : Int) == 0) = true := by rw [beq_iff_eq]; omega
              have HZ := hid hz
              clear hz
              go_wp2_with fail
              go_ret
              exact ⟨rfl, hch6.below (by simp)⟩
            · have t3 : ((n : Int) == 0) = false := by rw [beq_eq_false_iff_ne]; omega
              have hn1 : 1 ≤ n := by omega
              clear hz
              go_wp2_with fail
              rw [show ((n : Int) - 1) = ((n - 1 : Nat) : Int) from by omega]
              refine (dnum_syn (wx.drewN n6) b5 g5 h5 (newDec cF.low 64) (newCod 64) k n (n - 1) hd6 hokD (syn_new _ _) (newCod_ok 64) (newCod_fit 64) HK64.out hlt (by omega) HF1.out).mono ?_
              rintro e w7 hp
              obtain ⟨rfl, D7, hd7, hx7, hdat7, ch7⟩ := hp
              rw [if_neg (by omega)] at hx7 ⊢
              have hch7 : Chg [] w w7 := hch6.trans ch7 (by intro x hx; simp at hx; right; omega)
              clear hdat7
              go_wp2_with fail
              refine (err_any w7 b5 g5 h5 D7 hd7).mono ?_
              rintro e w8 ⟨rfl, rfl⟩
              rw [hx7]
              go_wp2_with fail
              refine (dget_dead _ b5 g5 h5 D7 k hd7 (by omega)).mono ?_
              rintro e w8 ⟨rfl, rfl⟩
              go_wp2_with fail
              refine (err_any _ b5 g5 h5 D7 hd7).mono ?_
              rintro e w8 ⟨rfl, rfl⟩
              rw [hx7]
              go_wp2_with fail
              go_ret
              exact ⟨rfl, hch7.below (by simp)⟩
        · obtain ⟨m, hmm⟩ : ∃ m, m = l.length - (q + 1) := ⟨_, rfl⟩
          rw [← hmm] at hSr ⊢
          have hm1 : m < l.length := by omega
          have hm2 : l.length - q = m + 1 := by omega
          have HM := hid hm2
          clear hmm hm2
          obtain ⟨n0, hn0⟩ : ∃ n0, l[m]? = some n0 := ⟨_, List.getElem?_eq_getElem hm1⟩
          obtain ⟨b0, o0, rfl, hb0, hcells⟩ := hl.ex (by omega)
          have hold : ∀ wz, Chg [] w wz → wz.cell? ⟨b0, o0 + m, none⟩ = some (.int .u32 (n0.val : Int)) := fun wz hz => (World.cell?_of_block (w := w) (hz.block b0 hb0 (by simp))).trans (hcells m n0 hn0)
          have r0 := hold _ hchr
          have htk : l.take (m + 1) = l.take m ++ [n0] := by rw [List.take_add_one, hn0]; rfl
          have hF1 : Fut D.data (numL (runA (newCod 64) (nums k (l.take m))) k n0.val) := by
            rw [Hdat.out, ← nums_snoc, ← htk]
            exact fut_nums kok.dig (newCod_ok 64) (newCod_fit 64) HK64.out l (m + 1) (by rw [← HCF.out]; exact hF)
          have hnext : runA (newCod 64) (nums k (l.take (m + 1))) = numL (runA (newCod 64) (nums k (l.take m))) k n0.val := by rw [htk, nums_snoc]
          obtain ⟨k1, k2, k3, -⟩ := runA_ok (nums k (l.take m)) (newCod_ok 64) (newCod_fit 64) (nums_ok HK64.out _)
          have hk33 : k + 33 ≤ (runA (newCod 64) (nums k (l.take m))).odds.length := by rw [k3]; exact HK64.out
          have hlt := n0.isLt
          have HNX := hid hnext
          generalize runA (newCod 64) (nums k (l.take m)) = c1 at *
          obtain ⟨n, hn⟩ : ∃ n, n = n0.val := ⟨_, rfl⟩
          rw [← hn] at hF1 hlt r0
          have HN := hid hn
          have HF1 := hid hF1
          have HOLD := hid hold
          have lt5 := hd5r.lt
          have lt4 := hdr.lt
          clear hcells hn0 hold htk hnext hn hF1 k3
          go_wp2_with fail
          have hwr : IntKind.u64.wrap (n : Int) = (n : Int) := IntWalk.u64_in _ (by omega)
          go_region_held3 (fun w' => w'.cell? ⟨b0, o0 + m, none⟩ = some (.int .u32 (n : Int))) (first | (go_keep; done) | exact y1)
            (first | (go_at_call 28; refine (dnum_syn _ b4 g4 h4' D c1 k n 4294967295 (hdr.same ((Chg.refl _ _).drew)) hokr hSr k1 k2 hk33 hlt (by omega) HF1.out).mono ?_; rintro e w7 hp; obtain ⟨rfl, D7, hd7, hx7, hdat7, ch7⟩ := hp; rw [if_pos (by omega)] at hx7 ⊢; have hch7 : Chg [] w w7 := ((hchr.drew).trans ch7 (by intro x hx; simp at hx; right; omega)); have y1 : w7.cell? ⟨b0, o0 + m, none⟩ = some (.int .u32 (n : Int)) := (by rw [HN.out]; exact HOLD.out _ hch7)))
          have HD7 : Hid (D7.data = cF.low) := hid (by rw [hdat7]; exact Hdat.out)
          obtain ⟨hok7, hS7⟩ := hx7
          have hd5' := hd5r.chg (((Chg.refl [b4, h4'] wr).drew).trans ch7 (by simp)) (by simp; omega) (by simp; omega) (by simp; omega)
          have hsz7 := ch7.size
          clear hdat7
          go_wp2_with fail
          go_roundg q
          case measure => omega
          case rel =>
            rw [HM.out]
            refine ⟨D7, by omega, by go_num, hd7, hok7, ?_, HD7, hd5', hch7, ?_⟩
            · rw [HNX.out, ← HN.out]; exact hS7
            · simp at hsz7; omega
    · obtain ⟨m, hmm⟩ : ∃ m, m = l.length - (q + 1) := ⟨_, rfl⟩
      rw [← hmm] at hcr ⊢
      have hm1 : m < l.length := by omega
      have hm2 : l.length - q = m + 1 := by omega
      have HM := hid hm2
      clear hmm hm2
      obtain ⟨n0, hn0⟩ : ∃ n0, l[m]? = some n0 := ⟨_, List.getElem?_eq_getElem hm1⟩
      obtain ⟨b0, o0, rfl, hb0, hcells⟩ := hl.ex (by omega)
      have r0 : wr.cell? ⟨b0, o0 + m, none⟩ = some (.int .u32 (n0.val : Int)) := (World.cell?_of_block (w := w) (hch.block b0 hb0 (by simp))).trans (hcells m n0 hn0)
      have htk : l.take (m + 1) = l.take m ++ [n0] := by rw [List.take_add_one, hn0]; rfl
      have hnext : runA (newCod 64) (nums k (l.take (m + 1))) = numL (runA (newCod 64) (nums k (l.take m))) k n0.val := by rw [htk, nums_snoc]
      obtain ⟨k1, k2, k3, k4⟩ := runA_ok (nums k (l.take m)) (newCod_ok 64) (newCod_fit 64) (nums_ok HK64.out _)
      have hk33 : k + 33 ≤ (runA (newCod 64) (nums k (l.take m))).odds.length := by rw [k3]; exact HK64.out
      have hlowm : (runA (newCod 64) (nums k (l.take m))).low.length ≤ 100000 := by
        have h1 : (newCod 64).low.length = 4 := rfl
        have h2 : (nums k (l.take m)).length ≤ l.length := by simp [nums, List.length_take]; omega
        omega
      have hlt := n0.isLt
      have HNX := hid hnext
      generalize runA (newCod 64) (nums k (l.take m)) = c1 at *
      obtain ⟨n, hn⟩ : ∃ n, n = n0.val := ⟨_, rfl⟩
      rw [← hn] at hlt r0
      have HN := hid hn
      have lt2 := hcr.lt
      clear hcells hn0 htk hnext hn k3 k4
      go_wp2_with fail
      refine (num_ok wr b g' h c1 k n hcr k1 hk33 hlt (by omega)).mono ?_
      rintro e w3 ⟨rfl, g3, hc3, ch3, hg3⟩
      have hsz := hch.size
      go_wp2_with fail
      go_roundg q
      case measure => omega
      case rel =>
        rw [HM.out]
        refine ⟨g3, by omega, by go_num, by rw [HNX.out, ← HN.out]; exact hc3, hch.trans ch3 ?_, ?_⟩
        · intro x hx
          simp at hx
          right
          omega
        · rcases hg3 with rfl | hg3
          · exact hg'
          · omega
end Go.Proofs.Ytofdgpgleghllaa
