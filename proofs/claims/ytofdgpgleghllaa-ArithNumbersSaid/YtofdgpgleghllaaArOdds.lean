/- ArithOdds, the walk: odds stay from 31 to 4065; a bit 0 never lowers them, a bit 1 never raises them; the odds of other contexts do not change. -/
import Derived.Test.YtofdgpgleghllaaArBack
namespace Go.Proofs.Ytofdgpgleghllaa
set_option linter.unusedSimpArgs false
set_option linter.unusedVariables false
open Go.RowKit

theorem i64_and_low (x : Int) (m : Nat) (hm : m < 9223372036854775808) : ∃ k : Nat, k ≤ m ∧ bits .and .i64 x (m : Int) = (k : Int) := by
  refine ⟨(BitVec.ofInt 64 x &&& BitVec.ofInt 64 (m : Int)).toNat, ?_, ?_⟩
  · rw [BitVec.toNat_and]
    have e : (BitVec.ofInt 64 (m : Int)).toNat = m := by
      rw [BitVec.ofInt_natCast, BitVec.toNat_ofNat]
      exact Nat.mod_eq_of_lt (by omega)
    rw [e]
    exact Nat.and_le_right
  · show IntKind.i64.wrap ((BitVec.ofInt 64 x &&& BitVec.ofInt 64 (m : Int)).toNat : Int) = _
    have hle : (BitVec.ofInt 64 x &&& BitVec.ofInt 64 (m : Int)).toNat ≤ m := by
      rw [BitVec.toNat_and]
      have e : (BitVec.ofInt 64 (m : Int)).toNat = m := by
        rw [BitVec.ofInt_natCast, BitVec.toNat_ofNat]
        exact Nat.mod_eq_of_lt (by omega)
      rw [e]
      exact Nat.and_le_right
    generalize (BitVec.ofInt 64 x &&& BitVec.ofInt 64 (m : Int)).toNat = q at *
    exact IntWalk.i64_in _ (by omega)
theorem xor_one (k : Nat) (hk : k < 8) : ∃ k' : Nat, k' < 8 ∧ k' ≠ k ∧ bits .xor .i64 (k : Int) 1 = (k' : Int) := by
  match k, hk with
  | 0, _ => exact ⟨1, by decide, by decide, by decide +kernel⟩
  | 1, _ => exact ⟨0, by decide, by decide, by decide +kernel⟩
  | 2, _ => exact ⟨3, by decide, by decide, by decide +kernel⟩
  | 3, _ => exact ⟨2, by decide, by decide, by decide +kernel⟩
  | 4, _ => exact ⟨5, by decide, by decide, by decide +kernel⟩
  | 5, _ => exact ⟨4, by decide, by decide, by decide +kernel⟩
  | 6, _ => exact ⟨7, by decide, by decide, by decide +kernel⟩
  | 7, _ => exact ⟨6, by decide, by decide, by decide +kernel⟩
theorem odds_put_same {c : Cod} {k : Nat} (hk : k < c.odds.length) (bit : Nat) : oddsAt (putL c k bit) k = adaptN (oddsAt c k) bit := by
  have e : oddsAt (putL c k bit) k = (c.odds.set k (adaptN (oddsAt c k) bit)).getD k 0 := rfl
  rw [e, List.getD_eq_getElem?_getD, List.getElem?_set_self hk]
  rfl
theorem odds_put_other {c : Cod} {k k' : Nat} (hne : k' ≠ k) (bit : Nat) : oddsAt (putL c k bit) k' = oddsAt c k' := by
  have e : oddsAt (putL c k bit) k' = (c.odds.set k (adaptN (oddsAt c k) bit)).getD k' 0 := rfl
  rw [e, List.getD_eq_getElem?_getD, List.getElem?_set_ne (Ne.symm hne)]
  rfl

set_option maxRecDepth 100000 in
set_option maxHeartbeats 4000000 in
theorem odds_walk (w : World) (A : Option Addr) (cap : Nat) (l : List Bool) (hl : Cells Value.bool w A l) (cx : Int) :
    Calls Try.prog 6 #[.slice A l.length cap, .int .i64 cx] w fun e w' => e = .returned (.bool true) ∧ Below w.heap.size w w' := by
  by_cases c0 : 600 < l.length
  · have t0 : decide ((600 : Int) < (l.length : Int)) = true := by simp; omega
    go_enter Try.func6, Try.ntmps6
    go_wp2_with fail
    refine (known_ok w).mono ?_
    rintro e w1 ⟨rfl, ch1⟩
    go_wp2_with fail
    go_ret
    exact ⟨rfl, ch1.below (by simp)⟩
  have t0 : decide ((600 : Int) < (l.length : Int)) = false := by simp; omega
  obtain ⟨k, hk7, hand⟩ := i64_and_low cx 7 (by decide)
  replace hand : bits .and .i64 cx 7 = (k : Int) := hand
  obtain ⟨k', hk', hne, hxor⟩ := xor_one k (by omega)
  go_enter Try.func6, Try.ntmps6
  go_wp2_with fail
  refine (known_ok w).mono ?_
  rintro e w1 ⟨rfl, ch1⟩
  go_wp2_with fail
  refine (newCoder_ok 8 w1 (by decide) (by decide)).mono ?_
  rintro e w2 ⟨b, g, h, rfl, hc2, ch2, hb2, hg2, hh2⟩
  have hch2 : Chg [] w w2 := ch1.trans_same ch2
  have s1 := ch1.size
  go_wp2_with fail
  go_loopg [7] l.length (fun m i wr => ∃ (g' : Nat) (c : Cod), m ≤ l.length ∧ i = .int .i64 ((l.length - m : Nat) : Int) ∧ IsCod 61 wr b g' h c ∧ CodOk c ∧ Hid (c.odds.length = 8) ∧ Hid (oddsAt c k' = 2048) ∧ c.low.length + m ≤ 4 + l.length ∧ Chg [] w wr ∧ w.heap.size ≤ g')
  case atStart => exact ⟨g, newCod 8, Nat.le_refl _, by simp, hc2, newCod_ok 8, hid rfl, hid (by unfold oddsAt newCod; simp only [List.getD_eq_getElem?_getD]; rw [List.getElem?_replicate, if_pos hk']; rfl), by simp [newCod], hch2, by omega⟩
  case round =>
    obtain ⟨g', c, hm, rfl, hcr, hokr, Hlen, H2048, hlow, hch, hg'⟩ := hrel
    rcases gk with _ | q
    · have t1 : decide (((l.length - 0 : Nat) : Int) < l.length) = false := by simp
      go_wp2_with fail
      refine (odds_out wr b g' h c 8 hcr (by rw [Hlen.out]; right; decide)).mono ?_
      rintro e wx ⟨rfl, rfl⟩
      go_wp2_with fail
      refine (odds_out _ b g' h c (-1) hcr (by left; decide)).mono ?_
      rintro e wx ⟨rfl, rfl⟩
      go_wp2_with fail
      go_ret
      exact ⟨rfl, hch.below (by simp)⟩
    · obtain ⟨m, hmm⟩ : ∃ m, m = l.length - (q + 1) := ⟨_, rfl⟩
      rw [← hmm]
      have hm1 : m < l.length := by omega
      have hm2 : l.length - q = m + 1 := by omega
      have HM := hid hm2
      clear hmm hm2
      obtain ⟨bb, hbb⟩ : ∃ bb, l[m]? = some bb := ⟨_, List.getElem?_eq_getElem hm1⟩
      obtain ⟨b0, o0, rfl, hb0, hcells⟩ := hl.ex (by omega)
      have hold : ∀ wz, Chg [] w wz → wz.cell? ⟨b0, o0 + m, none⟩ = some (.bool bb) := fun wz hz => (World.cell?_of_block (w := w) (hz.block b0 hb0 (by simp))).trans (hcells m bb hbb)
      have HOLD := hid hold
      have r0 := hold wr hch
      have hkl : k < c.odds.length := by rw [Hlen.out]; omega
      have hk'l : k' < c.odds.length := by rw [Hlen.out]; omega
      have hoa := oddsAt_ok hokr hkl
      have lt := hcr.lt
      clear hold hbb hcells
      have hput := fun (bit : Nat) => putL_ok hokr hkl bit
      have HPUT := hid hput
      have HSAME := hid (fun bit => odds_put_same hkl bit)
      have HOTH := hid (fun bit => odds_put_other (c := c) hne bit)
      clear hput
      go_wp2_with fail
      refine (odds_in wr b g' h c k hcr hkl).mono ?_
      rintro e wx ⟨rfl, rfl⟩
      obtain ⟨o, ho⟩ : ∃ o, o = oddsAt c k := ⟨_, rfl⟩
      rw [← ho] at hoa ⊢
      have HO := hid ho
      clear ho
      cases bb
      · go_wp2_with fail
        refine (put_ok wx b g' h c k 0 hcr hokr hkl (by simp) (by omega)).mono ?_
        rintro e w3 ⟨rfl, g3, hc3, ch3, hg3⟩
        have hch3 : Chg [] w w3 := hch.trans ch3 (by intro x hx; simp at hx; right; omega)
        have r1 := HOLD.out w3 hch3
        have hok3 := HPUT.out 0
        have hlen3 := putL_odds_len c k 0
        have hlow3 := putL_len c k 0
        have hg3' : w.heap.size ≤ g3 := by
          rcases hg3 with rfl | hg3
          · exact hg'
          · have := hch.size; omega
        obtain ⟨o2, ho2⟩ : ∃ o2, o2 = adaptN o 0 := ⟨_, rfl⟩
        have hsm : oddsAt (putL c k 0) k = o2 := by rw [HSAME.out 0, ← HO.out, ho2]
        have hot : oddsAt (putL c k 0) k' = 2048 := by rw [HOTH.out 0]; exact H2048.out
        have hrange : 31 ≤ o2 ∧ o2 ≤ 4065 ∧ o ≤ o2 := by
          rw [ho2]
          unfold adaptN
          simp
          omega
        have HSM := hid hsm
        have HOT := hid hot
        have HL3 : Hid ((putL c k 0).odds.length = 8) := hid (hlen3.trans Hlen.out)
        clear hsm hot ho2 hlen3
        generalize putL c k 0 = c3 at *
        go_wp2_with fail
        refine (odds_in w3 b g3 h c3 k hc3 (by rw [HL3.out]; omega)).mono ?_
        rintro e wy ⟨rfl, rfl⟩
        rw [HSM.out]
        have t2 : decide ((o2 : Int) < 31) = false := by simp; omega
        have t3 : decide ((4065 : Int) < (o2 : Int)) = false := by simp; omega
        have t4 : decide (o2 < o) = false := by simp; omega
        go_wp2_with fail
        refine (odds_in _ b g3 h c3 k' hc3 (by rw [HL3.out]; omega)).mono ?_
        rintro e wz ⟨rfl, rfl⟩
        rw [HOT.out]
        go_wp2_with fail
        go_roundg q
        case measure => omega
        case rel =>
          rw [HM.out]
          exact ⟨g3, c3, by omega, by go_num, hc3, hok3, HL3, HOT, by omega, hch3, hg3'⟩
      · go_wp2_with fail
        refine (put_ok wx b g' h c k 1 hcr hokr hkl (by simp) (by omega)).mono ?_
        rintro e w3 ⟨rfl, g3, hc3, ch3, hg3⟩
        have hch3 : Chg [] w w3 := hch.trans ch3 (by intro x hx; simp at hx; right; omega)
        have r1 := HOLD.out w3 hch3
        have hok3 := HPUT.out 1
        have hlen3 := putL_odds_len c k 1
        have hlow3 := putL_len c k 1
        have hg3' : w.heap.size ≤ g3 := by
          rcases hg3 with rfl | hg3
          · exact hg'
          · have := hch.size; omega
        obtain ⟨o2, ho2⟩ : ∃ o2, o2 = adaptN o 1 := ⟨_, rfl⟩
        have hsm : oddsAt (putL c k 1) k = o2 := by rw [HSAME.out 1, ← HO.out, ho2]
        have hot : oddsAt (putL c k 1) k' = 2048 := by rw [HOTH.out 1]; exact H2048.out
        have hrange : 31 ≤ o2 ∧ o2 ≤ 4065 ∧ o2 ≤ o := by
          rw [ho2]
          unfold adaptN
          simp
          omega
        have HSM := hid hsm
        have HOT := hid hot
        have HL3 : Hid ((putL c k 1).odds.length = 8) := hid (hlen3.trans Hlen.out)
        clear hsm hot ho2 hlen3
        generalize putL c k 1 = c3 at *
        go_wp2_with fail
        refine (odds_in w3 b g3 h c3 k hc3 (by rw [HL3.out]; omega)).mono ?_
        rintro e wy ⟨rfl, rfl⟩
        rw [HSM.out]
        have t2 : decide ((o2 : Int) < 31) = false := by simp; omega
        have t3 : decide ((4065 : Int) < (o2 : Int)) = false := by simp; omega
        have t4 : decide (o < o2) = false := by simp; omega
        go_wp2_with fail
        refine (odds_in _ b g3 h c3 k' hc3 (by rw [HL3.out]; omega)).mono ?_
        rintro e wz ⟨rfl, rfl⟩
        rw [HOT.out]
        go_wp2_with fail
        go_roundg q
        case measure => omega
        case rel =>
          rw [HM.out]
          exact ⟨g3, c3, by omega, by go_num, hc3, hok3, HL3, HOT, by omega, hch3, hg3'⟩
end Go.Proofs.Ytofdgpgleghllaa
