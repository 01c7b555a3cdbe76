/- ArithPlays, the walk: whatever steps the coder and the reference are told, they take the same ones, keep the same odds, and their bytes are alike. -/
import Derived.Test.YtofdgpgleghllaaArSame
namespace Go.Proofs.Ytofdgpgleghllaa
set_option linter.unusedSimpArgs false
set_option linter.unusedVariables false
open Go.RowKit

set_option maxRecDepth 100000 in
set_option maxHeartbeats 8000000 in
theorem plays_walk (w : World) (nc : Int) (A : Option Addr) (cap : Nat) (l : List ActV) (hl : Acts w A l) (cx : Int) :
    Calls Try.prog 3 #[.int .i64 nc, .slice A l.length cap, .int .i64 cx] w fun e w' => e = .returned (.bool true) ∧ Below w.heap.size w w' := by
  by_cases c0 : 100 < l.length
  · have t0 : decide ((100 : Int) < (l.length : Int)) = true := by simp; omega
    go_enter Try.func3, Try.ntmps3
    go_wp2_with fail
    refine (known_ok w).mono ?_
    rintro e w1 ⟨rfl, ch1⟩
    go_wp2_with fail
    go_ret
    exact ⟨rfl, ch1.below (by simp)⟩
  have t0 : decide ((100 : Int) < (l.length : Int)) = false := by simp; omega
  by_cases c1 : nc < 1 ∨ 4096 < nc
  · go_enter Try.func3, Try.ntmps3
    go_wp2_with fail
    refine (known_ok w).mono ?_
    rintro e w1 ⟨rfl, ch1⟩
    go_wp2_with fail
    refine (newCoder_bad nc w1 c1).mono ?_
    rintro e w2 ⟨rfl, rfl⟩
    go_wp2_with fail
    refine (newCoder_bad_r nc w2 c1).mono ?_
    rintro e w3 ⟨rfl, rfl⟩
    go_wp2_with fail
    go_ret
    exact ⟨rfl, ch1.below (by simp)⟩
  obtain ⟨N, rfl⟩ := Int.eq_ofNat_of_zero_le (show 0 ≤ nc by omega)
  have hN1 : 1 ≤ N := by omega
  have hN2 : N ≤ 4096 := by omega
  clear c1
  go_enter Try.func3, Try.ntmps3
  go_wp2_with fail
  refine (known_ok w).mono ?_
  rintro e w1 ⟨rfl, ch1⟩
  go_wp2_with fail
  refine (newCoder_ok N w1 hN1 hN2).mono ?_
  rintro e w2 ⟨b, g, h, rfl, i1, ch2, hb, hg, hh⟩
  go_wp2_with fail
  refine (newCoder_ok_r N w2 hN1 hN2).mono ?_
  rintro e w3 ⟨b2, g2, h2, rfl, i2, ch3, hb2, hg2, hh2⟩
  have s1 := ch1.size
  have s2 := ch2.size
  have lt := i1.lt
  have two : Two w w3 b h b2 h2 (newCod N) (newCod N) := ⟨g, g2, i1.same ch3, i2, by omega, by omega, (ch1.trans_same ch2).trans_same ch3, by omega, by omega, by omega, by omega, by omega, by omega⟩
  clear i1 i2 ch1 ch2 ch3 hb hg hh hb2 hg2 hh2 s1 s2 lt
  go_wp2_with fail
  go_loopg [11] l.length (fun k i wr => ∃ c, k ≤ l.length ∧ i = .int .i64 ((l.length - k : Nat) : Int) ∧ Two w wr b h b2 h2 c c ∧ CodOk c ∧ c.low.length ≤ 4 + 65 * (l.length - k))
  case atStart => exact ⟨newCod N, Nat.le_refl _, by simp, two, newCod_ok N, by simp [newCod]⟩
  case round =>
    clear two
    obtain ⟨c, hk, rfl, two, hok, hlow⟩ := hrel
    rcases gk with _ | k
    · have t1 : decide (((l.length - 0 : Nat) : Int) < l.length) = false := by simp
      obtain ⟨g, g2, i1, i2, n1, n2, ch, lo⟩ := two.ex
      go_wp2_with fail
      refine (bytes_ok wr b g h c i1 hok (by omega)).mono ?_
      rintro e w4 ⟨g4, cap4, rfl, r4, ch4, hg4⟩
      go_wp2_with fail
      refine (bytes_ok_r w4 b2 g2 h2 c (i2.same ch4) hok (by omega)).mono ?_
      rintro e w5 ⟨g5, cap5, rfl, r5, ch5, hg5⟩
      go_wp2_with fail
      refine (same_ok w5 g4 c.low.length cap4 g5 cap5 c.low rfl (r4.chg ch5 (by simp)) r5).mono ?_
      rintro e w6 ⟨rfl, rfl⟩
      go_wp2_with fail
      go_ret
      exact ⟨rfl, ((ch.trans_same ch4).trans_same ch5).below (by simp)⟩
    · obtain ⟨m, hm⟩ : ∃ m, m = l.length - (k + 1) := ⟨_, rfl⟩
      rw [← hm] at hlow ⊢
      have hm1 : m < l.length := by omega
      have hm2 : l.length - k = m + 1 := by omega
      have HM := hid hm2
      clear hm hm2
      obtain ⟨a, ha⟩ : ∃ a, l[m]? = some a := ⟨_, List.getElem?_eq_getElem hm1⟩
      obtain ⟨b0, o0, rfl, hb0, hcells⟩ := hl.ex (by omega)
      have hac := hcells m a ha
      obtain ⟨-, -, -, -, -, -, hch, -⟩ := two.ex
      have hrd : ∀ (j : Nat) (u : Value), (actCells a)[j]? = some u → wr.cell? ⟨b0, o0 + m * 5 + j, none⟩ = some u := fun j u hu => (World.cell?_of_block (w := w) (hch.block b0 hb0 (by simp))).trans (hac j u hu)
      have r0 : wr.cell? ⟨b0, o0 + m * 5, none⟩ = some (.int .i64 a.what) := hrd 0 _ rfl
      have r1 : wr.cell? ⟨b0, o0 + m * 5 + 1, none⟩ = some (.int .i64 a.ctx) := hrd 1 _ rfl
      have r2 : wr.cell? ⟨b0, o0 + m * 5 + 2, none⟩ = some (.int .i64 a.bit) := hrd 2 _ rfl
      have r3 : wr.cell? ⟨b0, o0 + m * 5 + 3, none⟩ = some (.int .i64 a.n) := hrd 3 _ rfl
      have r4 : wr.cell? ⟨b0, o0 + m * 5 + 4, none⟩ = some (.int .u64 a.v) := hrd 4 _ rfl
      have HC := hid hcells
      have hwf := hl.wf a (List.mem_of_getElem? ha)
      clear ha hcells hac hrd
      have hst := stepc_ok hok hwf
      have hlow1 : c.low.length ≤ 100000 := by omega
      have HST := hid hst
      clear hst
      have hB := Blk.new wr 33 #[.int .i64 a.what, .int .i64 a.ctx, .int .i64 a.bit, .int .i64 a.n, .int .u64 a.v]
      have tw := two.same ((Chg.refl _ _).alloc (.cells #[.int .i64 a.what, .int .i64 a.ctx, .int .i64 a.bit, .int .i64 a.n, .int .u64 a.v] 33))
      go_wp2_with fail
      · have q0 : Hid (a.what = 0) := hid (eq_of_beq (by assumption))
        go_region_held3 (fun w' => w'.cell? ⟨wr.heap.size, 1, none⟩ = some (.int .i64 a.ctx) ∧ w'.cell? ⟨wr.heap.size, 2, none⟩ = some (.int .i64 a.bit)) (first | (go_keep; done) | exact ⟨y1, y2⟩)
          (first
            | (go_at_call 13; first | (refine (two_put1 (a := a) hq2 hB2 hok hlow1 q0.out).mono ?_; rintro e w5 ⟨rfl, hq3, hB3⟩; have y1 := hB3.cell 1; have y2 := hB3.cell 2; simp at y1 y2) | (refine (two_put1 (a := a) (tw.same ((Chg.refl _ _).drew)) hB.drew hok hlow1 q0.out).mono ?_; rintro e w4 ⟨rfl, hq1, hB1⟩; have y1 := hB1.cell 1; have y2 := hB1.cell 2; simp at y1 y2))
            | (go_at_call 14; first | (refine (two_put2 (a := a) hq1 hB1 hok hlow1 q0.out).mono ?_; rintro e w5 ⟨rfl, hq3, hB3⟩; have y1 := hB3.cell 1; have y2 := hB3.cell 2; simp at y1 y2) | (refine (two_put2 (a := a) (tw.same ((Chg.refl _ _).drew)) hB.drew hok hlow1 q0.out).mono ?_; rintro e w4 ⟨rfl, hq2, hB2⟩; have y1 := hB2.cell 1; have y2 := hB2.cell 2; simp at y1 y2)))
        all_goals
          have z1 : w5.cell? ⟨wr.heap.size, 1, none⟩ = some (.int .i64 a.ctx) := by simpa using hB3.cell 1
          clear y1 y2
          go_wp2_with fail
          go_quiet (first
            | (go_at_call 19; exact Calls.quiet_of_same (two_odds1 (hq3.same ((Chg.refl _ _).drewN _)) _))
            | (go_at_call 20; exact Calls.quiet_of_same (two_odds2 (hq3.same ((Chg.refl _ _).drewN _)) _)))
          go_wp2_with fail
          go_roundg k
          case measure => omega
          case rel =>
            rw [HM.out]
            exact ⟨stepc c a, by omega, by go_num, hq3.same ((Chg.refl _ _).drewN _), HST.out.1, by have := HST.out.2.2; omega⟩
      · have q0 : Hid (a.what = 1) := hid (eq_of_beq (by assumption))
        go_region_held3 (fun w' => w'.cell? ⟨wr.heap.size, 4, none⟩ = some (.int .u64 a.v) ∧ w'.cell? ⟨wr.heap.size, 3, none⟩ = some (.int .i64 a.n)) (first | (go_keep; done) | exact ⟨y1, y2⟩)
          (first
            | (go_at_call 15; first | (refine (two_raw1 (a := a) hq2 hB2 hok hlow1 hwf q0.out).mono ?_; rintro e w5 ⟨rfl, hq3, hB3⟩; have y1 := hB3.cell 4; have y2 := hB3.cell 3; simp at y1 y2) | (refine (two_raw1 (a := a) (tw.same ((Chg.refl _ _).drew)) hB.drew hok hlow1 hwf q0.out).mono ?_; rintro e w4 ⟨rfl, hq1, hB1⟩; have y1 := hB1.cell 4; have y2 := hB1.cell 3; simp at y1 y2))
            | (go_at_call 16; first | (refine (two_raw2 (a := a) hq1 hB1 hok hlow1 hwf q0.out).mono ?_; rintro e w5 ⟨rfl, hq3, hB3⟩; have y1 := hB3.cell 4; have y2 := hB3.cell 3; simp at y1 y2) | (refine (two_raw2 (a := a) (tw.same ((Chg.refl _ _).drew)) hB.drew hok hlow1 hwf q0.out).mono ?_; rintro e w4 ⟨rfl, hq2, hB2⟩; have y1 := hB2.cell 4; have y2 := hB2.cell 3; simp at y1 y2)))
        all_goals
          have z1 : w5.cell? ⟨wr.heap.size, 1, none⟩ = some (.int .i64 a.ctx) := by simpa using hB3.cell 1
          clear y1 y2
          go_wp2_with fail
          go_quiet (first
            | (go_at_call 19; exact Calls.quiet_of_same (two_odds1 (hq3.same ((Chg.refl _ _).drewN _)) _))
            | (go_at_call 20; exact Calls.quiet_of_same (two_odds2 (hq3.same ((Chg.refl _ _).drewN _)) _)))
          go_wp2_with fail
          go_roundg k
          case measure => omega
          case rel =>
            rw [HM.out]
            exact ⟨stepc c a, by omega, by go_num, hq3.same ((Chg.refl _ _).drewN _), HST.out.1, by have := HST.out.2.2; omega⟩
      · have q0 : Hid (¬ a.what = 0) := hid (beq_eq_false_iff_ne.1 (by assumption))
        have q1 : Hid (¬ a.what = 1) := hid (beq_eq_false_iff_ne.1 (by assumption))
        go_region_held3 (fun w' => w'.cell? ⟨wr.heap.size, 1, none⟩ = some (.int .i64 a.ctx) ∧ w'.cell? ⟨wr.heap.size, 4, none⟩ = some (.int .u64 a.v)) (first | (go_keep; done) | exact ⟨y1, y2⟩)
          (first
            | (go_at_call 17; first | (refine (two_num1 (a := a) hq2 hB2 hok hlow1 hwf q0.out q1.out).mono ?_; rintro e w5 ⟨rfl, hq3, hB3⟩; have y1 := hB3.cell 1; have y2 := hB3.cell 4; simp at y1 y2) | (refine (two_num1 (a := a) (tw.same ((Chg.refl _ _).drew)) hB.drew hok hlow1 hwf q0.out q1.out).mono ?_; rintro e w4 ⟨rfl, hq1, hB1⟩; have y1 := hB1.cell 1; have y2 := hB1.cell 4; simp at y1 y2))
            | (go_at_call 18; first | (refine (two_num2 (a := a) hq1 hB1 hok hlow1 hwf q0.out q1.out).mono ?_; rintro e w5 ⟨rfl, hq3, hB3⟩; have y1 := hB3.cell 1; have y2 := hB3.cell 4; simp at y1 y2) | (refine (two_num2 (a := a) (tw.same ((Chg.refl _ _).drew)) hB.drew hok hlow1 hwf q0.out q1.out).mono ?_; rintro e w4 ⟨rfl, hq2, hB2⟩; have y1 := hB2.cell 1; have y2 := hB2.cell 4; simp at y1 y2)))
        all_goals
          have z1 : w5.cell? ⟨wr.heap.size, 1, none⟩ = some (.int .i64 a.ctx) := by simpa using hB3.cell 1
          clear y1 y2
          go_wp2_with fail
          go_quiet (first
            | (go_at_call 19; exact Calls.quiet_of_same (two_odds1 (hq3.same ((Chg.refl _ _).drewN _)) _))
            | (go_at_call 20; exact Calls.quiet_of_same (two_odds2 (hq3.same ((Chg.refl _ _).drewN _)) _)))
          go_wp2_with fail
          go_roundg k
          case measure => omega
          case rel =>
            rw [HM.out]
            exact ⟨stepc c a, by omega, by go_num, hq3.same ((Chg.refl _ _).drewN _), HST.out.1, by have := HST.out.2.2; omega⟩
end Go.Proofs.Ytofdgpgleghllaa
