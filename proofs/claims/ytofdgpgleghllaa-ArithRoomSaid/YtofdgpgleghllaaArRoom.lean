/- ArithRoom, the walk: there are at least four bytes, and at most four plus one for each bit (65 for a Number); 600 equal bits in one context take at most 16 bytes. -/
import Derived.Test.YtofdgpgleghllaaArBack
namespace Go.Proofs.Ytofdgpgleghllaa
set_option linter.unusedSimpArgs false
set_option linter.unusedVariables false
open Go.RowKit

def costA (a : ActV) : Int := if a.what = 0 then 1 else if a.what = 1 then a.n else 65
def costL : List ActV → Int
  | [] => 0
  | a :: l => costA a + costL l
theorem costL_snoc (l : List ActV) (a : ActV) : costL (l ++ [a]) = costL l + costA a := by
  induction l with
  | nil => simp [costL]
  | cons x l ih => rw [List.cons_append, costL, ih, costL]; omega
theorem costA_ok {N : Nat} {a : ActV} (h : okAct N a = true) : 0 ≤ costA a ∧ costA a ≤ 65 := by
  unfold okAct at h
  unfold costA
  by_cases h0 : a.what = 0
  · rw [if_pos h0]; omega
  · rw [if_neg h0] at h ⊢
    by_cases h1 : a.what = 1
    · rw [if_pos h1] at h ⊢
      simp only [decide_eq_true_eq] at h
      omega
    · rw [if_neg h1]; omega
theorem costL_ok {N : Nat} (l : List ActV) (h : ∀ a ∈ l, okAct N a = true) : 0 ≤ costL l ∧ costL l ≤ 65 * l.length := by
  induction l with
  | nil => simp [costL]
  | cons a l ih =>
    have h1 := costA_ok (h a (by simp))
    have h2 := ih fun x hx => h x (by simp [hx])
    rw [costL, List.length_cons]
    omega
theorem applyA_cost {c : Cod} (a : ActV) (hw : WfA a) (ha : okAct c.odds.length a = true) : ((applyA c a).low.length : Int) ≤ c.low.length + costA a := by
  unfold okAct at ha
  unfold applyA costA
  by_cases h0 : a.what = 0
  · rw [if_pos h0, if_pos h0]
    have := (putL_len c a.ctx.toNat a.bit.toNat).2
    omega
  · rw [if_neg h0] at ha
    rw [if_neg h0, if_neg h0]
    by_cases h1 : a.what = 1
    · rw [if_pos h1] at ha
      rw [if_pos h1, if_pos h1]
      simp only [decide_eq_true_eq] at ha
      have := (rawL_len a.v.toNat a.n.toNat c).2
      omega
    · rw [if_neg h1] at ha
      rw [if_neg h1, if_neg h1]
      simp only [decide_eq_true_eq] at ha
      have := (numL_len c a.ctx.toNat (v := a.v.toNat) (by have := hw.1; omega)).2
      omega
theorem runA_cost (l : List ActV) : ∀ {c : Cod}, CodOk c → (∀ a ∈ l, WfA a ∧ okAct c.odds.length a = true) → ((runA c l).low.length : Int) ≤ c.low.length + costL l := by
  induction l with
  | nil => intro c _ _; simp [runA, costL]
  | cons a l ih =>
    intro c h hl
    obtain ⟨hw, ha⟩ := hl a (by simp)
    obtain ⟨h1, h2, h3, h4, h5⟩ := applyA_ok h hw ha
    have k1 := ih h1 fun x hx => by rw [h3]; exact hl x (by simp [hx])
    have k2 := applyA_cost a hw ha
    rw [costL]
    show ((runA (applyA c a) l).low.length : Int) ≤ _
    omega
/-- So many bits 0 in context 0. -/
def zerC : Nat → Cod
  | 0 => newCod 1
  | n + 1 => putL (zerC n) 0 0
theorem zerC_ok (n : Nat) : CodOk (zerC n) ∧ (zerC n).odds.length = 1 ∧ (zerC n).low.length ≤ 4 + n := by
  induction n with
  | zero => exact ⟨newCod_ok 1, rfl, Nat.le_refl _⟩
  | succ n ih =>
    obtain ⟨h1, h2, h3⟩ := ih
    have := putL_len (zerC n) 0 0
    exact ⟨putL_ok h1 (by omega) 0, by unfold zerC; rw [putL_odds_len]; exact h2, by unfold zerC; omega⟩
theorem zerC_600 : (zerC 600).low.length ≤ 16 := by decide +kernel

set_option maxRecDepth 100000 in
set_option maxHeartbeats 8000000 in
theorem room_walk (w : World) (nc : Int) (A : Option Addr) (cap : Nat) (l : List ActV) (hl : Acts w A l) :
    Calls Try.prog 9 #[.int .i64 nc, .slice A l.length cap] w fun e w' => e = .returned (.bool true) ∧ Below w.heap.size w w' := by
  by_cases c0 : 80 < l.length
  · have t0 : decide ((80 : Int) < (l.length : Int)) = true := by simp; omega
    go_enter Try.func9, Try.ntmps9
    go_wp2_with fail
    refine (known_ok w).mono ?_
    rintro e w1 ⟨rfl, ch1⟩
    go_wp2_with fail
    go_ret
    exact ⟨rfl, ch1.below (by simp)⟩
  have t0 : decide ((80 : Int) < (l.length : Int)) = false := by simp; omega
  by_cases c1 : nc < 1
  · have t1 : decide (nc < 1) = true := by simpa using c1
    go_enter Try.func9, Try.ntmps9
    go_wp2_with fail
    refine (known_ok w).mono ?_
    rintro e w1 ⟨rfl, ch1⟩
    go_wp2_with fail
    go_ret
    exact ⟨rfl, ch1.below (by simp)⟩
  have t1 : decide (nc < 1) = false := by simpa using c1
  by_cases c2 : 4096 < nc
  · have t2 : decide (4096 < nc) = true := by simpa using c2
    go_enter Try.func9, Try.ntmps9
    go_wp2_with fail
    refine (known_ok w).mono ?_
    rintro e w1 ⟨rfl, ch1⟩
    go_wp2_with fail
    go_ret
    exact ⟨rfl, ch1.below (by simp)⟩
  have t2 : decide (4096 < nc) = false := by simpa using c2
  obtain ⟨N, rfl⟩ := Int.eq_ofNat_of_zero_le (show 0 ≤ nc by omega)
  have hN1 : 1 ≤ N := by omega
  have hN2 : N ≤ 4096 := by omega
  clear c1 c2
  have hall := filter_all (N := N) hl
  have hfl : (l.filter (okAct N)).length ≤ 80 := Nat.le_trans (List.length_filter_le _ _) (by omega)
  generalize hdone : l.filter (okAct N) = done at hall hfl
  have hall2 : ∀ a ∈ done, WfA a ∧ okAct (newCod N).odds.length a = true := fun a ha => ⟨(hall a ha).1, by simpa [newCod] using (hall a ha).2⟩
  obtain ⟨kok, kfit, kod, klen⟩ := runA_ok done (newCod_ok N) (newCod_fit N) hall2
  have hcost := runA_cost done (newCod_ok N) hall2
  have hcb := costL_ok done (fun a ha => (hall2 a ha).2)
  obtain ⟨cF, hcF⟩ : ∃ cF, cF = runA (newCod N) done := ⟨_, rfl⟩
  rw [← hcF] at kok kfit kod klen hcost
  have h40 : (newCod N).low.length = 4 := rfl
  have hlow : cF.low.length ≤ 100000 := by omega
  rw [h40] at hcost
  have h4 := kok.len
  have HALL := hid hall
  have HDONE := hid hdone
  have HCF := hid hcF
  clear hall hall2 kod klen hdone hcF h40
  go_enter Try.func9, Try.ntmps9
  go_wp2_with fail
  refine (known_ok w).mono ?_
  rintro e w1 ⟨rfl, ch1⟩
  have hl1 : Acts w1 A l := hl.chg ch1 (by simp)
  go_wp2_with fail
  refine (coded_ok w1 N A cap l hN1 hN2 hl1 (by omega)).mono ?_
  rintro e w2 ⟨b, g, h, vd, rfl, hc2, ho2, ch2, hb2, hg2, hh2, hv2⟩
  rw [HDONE.out, ← HCF.out] at hc2
  rw [HDONE.out] at ho2
  obtain ⟨A2, cap2, rfl, hacts2, hob2⟩ := acts_of_own ho2 (fun a ha => (HALL.out a ha).1)
  have hch2 : Chg [] w w2 := ch1.trans_same ch2
  clear ho2 hv2 hob2
  go_wp2_with fail
  go_loopg [7, 8] done.length (fun m n i wr => wr = w2 ∧ m ≤ done.length ∧ i = .int .i64 ((done.length - m : Nat) : Int) ∧ ∃ z : Int, n = .int .i64 z ∧ 0 ≤ z ∧ z ≤ 65 * (done.length - m : Nat) ∧ Hid (z = costL (done.take (done.length - m))))
  case atStart => exact ⟨rfl, Nat.le_refl _, by simp, 0, rfl, Int.le_refl _, by simp, hid (by simp [costL])⟩
  case round =>
    obtain ⟨rfl, hm, rfl, z, rfl, hz0, hz1, Hz⟩ := hrel
    rcases gk with _ | q
    · have t3 : decide (((done.length - 0 : Nat) : Int) < done.length) = false := by simp
      have hz : z = costL done := by rw [Hz.out]; simp
      have hbig : (cF.low.length : Int) ≤ 4 + z := by omega
      have HZ := hid hz
      clear hz hcost
      go_wp2_with fail
      refine (newCoder_ok 1 wr (by decide) (by decide)).mono ?_
      rintro e w3 ⟨b3, g3, h3, rfl, hc3, ch3, hb3, hg3, hh3⟩
      have hc2' := hc2.same ch3
      have hch3 := hch2.trans_same ch3
      have lt2 := hc2.lt
      go_wp2_with fail
      go_loopg [11] 600 (fun m i wz => ∃ g' : Nat, m ≤ 600 ∧ i = .int .i64 ((600 - m : Nat) : Int) ∧ IsCod 61 wz b3 g' h3 (zerC (600 - m)) ∧ IsCod 61 wz b g h cF ∧ Chg [] w wz ∧ w3.heap.size ≤ wz.heap.size ∧ wr.heap.size ≤ g')
      case atStart => exact ⟨g3, Nat.le_refl _, rfl, hc3, hc2', hch3, Nat.le_refl _, hg3⟩
      case round =>
        obtain ⟨g', hm, rfl, hcr, hcFr, hchr, hszr, hg'⟩ := hrel
        rcases gk with _ | q
        · have t4 : decide (((600 - 0 : Nat) : Int) < 600) = false := by decide
          have hzok := zerC_ok 600
          go_wp2_with fail
          refine (bytes_ok wr b g h cF hcFr kok (by omega)).mono ?_
          rintro e w4 ⟨g4, cap4, rfl, hr4, ch4, hg4⟩
          have t5 : decide ((4 : Int) ≤ (cF.low.length : Int)) = true := by simp; omega
          have t6 : decide ((cF.low.length : Int) ≤ 4 + z) = true := by simp; omega
          go_wp2_with fail
          refine (bytes_ok w4 b g h cF (hcFr.same ch4) kok (by omega)).mono ?_
          rintro e w5 ⟨g5, cap5, rfl, hr5, ch5, hg5⟩
          go_wp2_with fail
          refine (bytes_ok w5 b3 g' h3 (zerC 600) ((hcr.same ch4).same ch5) hzok.1 (by omega)).mono ?_
          rintro e w6 ⟨g6, cap6, rfl, hr6, ch6, hg6⟩
          have t7 : decide (((zerC 600).low.length : Int) ≤ 16) = true := by have := zerC_600; simp; omega
          go_wp2_with fail
          go_ret
          exact ⟨rfl, (((hchr.trans_same ch4).trans_same ch5).trans_same ch6).below (by simp)⟩
        · obtain ⟨m, hmm⟩ : ∃ m, m = 600 - (q + 1) := ⟨_, rfl⟩
          rw [← hmm] at hcr ⊢
          have hm1 : m < 600 := by omega
          have hm2 : 600 - q = m + 1 := by omega
          have HM := hid hm2
          clear hmm hm2
          have hzok := zerC_ok m
          have hsz := hchr.size
          have lt4 := hcr.lt
          go_wp2_with fail
          refine (put_ok wr b3 g' h3 (zerC m) 0 0 hcr hzok.1 (by omega) (by simp) (by omega)).mono ?_
          rintro e w4 ⟨rfl, g4, hc4, ch4, hg4⟩
          have hsz4 := ch4.size
          go_wp2_with fail
          go_roundg q
          case measure => omega
          case rel =>
            rw [HM.out]
            refine ⟨g4, by omega, by go_num, hc4, hcFr.chg ch4 (by simp; omega) (by simp; omega) (by simp; omega), hchr.trans ch4 ?_, by omega, ?_⟩
            · intro x hx
              simp at hx
              right
              have := hch2.size
              omega
            · rcases hg4 with rfl | hg4
              · exact hg'
              · omega
    · obtain ⟨m, hmm⟩ : ∃ m, m = done.length - (q + 1) := ⟨_, rfl⟩
      rw [← hmm] at Hz hz1 ⊢
      have hm1 : m < done.length := by omega
      have hm2 : done.length - q = m + 1 := by omega
      have HM := hid hm2
      clear hmm hm2
      obtain ⟨a, ha⟩ : ∃ a, done[m]? = some a := ⟨_, List.getElem?_eq_getElem hm1⟩
      obtain ⟨b0, o0, rfl, hb0, hcells⟩ := hacts2.ex (by omega)
      have r0 : wr.cell? ⟨b0, o0 + m * 5, none⟩ = some (.int .i64 a.what) := hcells m a ha 0 _ rfl
      have r3 : wr.cell? ⟨b0, o0 + m * 5 + 3, none⟩ = some (.int .i64 a.n) := hcells m a ha 3 _ rfl
      have hok := (HALL.out a (List.mem_of_getElem? ha)).2
      have hca := costA_ok hok
      have hnext : costL (done.take (m + 1)) = costL (done.take m) + costA a := by
        rw [List.take_add_one, ha]
        exact costL_snoc _ _
      have HNX := hid hnext
      have HOK := hid hok
      clear ha hcells hnext hok hcost
      by_cases q0 : a.what = 0
      · have t5 : (a.what == 0) = true := by rw [beq_iff_eq]; exact q0
        have e1 : costA a = 1 := by unfold costA; rw [if_pos q0]
        have HE := hid e1
        clear q0 e1 hca
        go_wp2_with fail
        go_roundg q
        case measure => omega
        case rel =>
          rw [HM.out]
          exact ⟨rfl, by omega, by go_num, z + 1, by go_num, by omega, by omega, hid (by rw [HNX.out, HE.out, Hz.out])⟩
      · have t5 : (a.what == 0) = false := by rw [beq_eq_false_iff_ne]; exact q0
        by_cases q1 : a.what = 1
        · have t6 : (a.what == 1) = true := by rw [beq_iff_eq]; exact q1
          have e1 : costA a = a.n := by unfold costA; rw [if_neg q0, if_pos q1]
          rw [e1] at hca
          have HE := hid e1
          clear q0 q1 e1
          go_wp2_with fail
          go_roundg q
          case measure => omega
          case rel =>
            rw [HM.out]
            exact ⟨rfl, by omega, by go_num, z + a.n, by go_num, by omega, by omega, hid (by rw [HNX.out, HE.out, Hz.out])⟩
        · have t6 : (a.what == 1) = false := by rw [beq_eq_false_iff_ne]; exact q1
          have e1 : costA a = 65 := by unfold costA; rw [if_neg q0, if_neg q1]
          have HE := hid e1
          clear q0 q1 e1 hca
          go_wp2_with fail
          go_roundg q
          case measure => omega
          case rel =>
            rw [HM.out]
            exact ⟨rfl, by omega, by go_num, z + 65, by go_num, by omega, by omega, hid (by rw [HNX.out, HE.out, Hz.out])⟩
end Go.Proofs.Ytofdgpgleghllaa
