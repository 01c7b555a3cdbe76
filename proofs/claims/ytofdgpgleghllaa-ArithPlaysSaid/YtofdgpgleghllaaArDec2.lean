/- The decoder's functions, the second part: Get, Left, Err. -/
import Derived.Test.YtofdgpgleghllaaArDec
namespace Go.Proofs.Ytofdgpgleghllaa
set_option linter.unusedSimpArgs false
set_option linter.unusedVariables false
open Go.RowKit

theorem dec_oddsAt {D : Dec} {ctx : Nat} (hc : ctx < D.odds.length) : D.odds[ctx]? = some (dOddsAt D ctx) := by
  unfold dOddsAt
  rw [List.getD_eq_getElem?_getD, List.getElem?_eq_getElem hc]
  rfl

theorem err_any (w : World) (b g h : Nat) (D : Dec) (hc : IsDec 69 w b g h D) :
    Calls Try.prog 29 #[.pointer (some ⟨b, 0, none⟩)] w fun e w' => e = .returned (.int .i64 (D.err : Int)) ∧ w' = w := by
  obtain ⟨vd, vo, hb, hl, ho⟩ := hc.ex
  have c5 := hb.cell 5
  simp at c5
  clear hb hl ho hc
  go_enter Try.func29, Try.ntmps29
  go_wp2
  go_ret
  exact ⟨rfl, rfl⟩

theorem left_any (w : World) (b g h : Nat) (D : Dec) (hc : IsDec 69 w b g h D) (hpos : D.pos ≤ D.data.length) :
    Calls Try.prog 27 #[.pointer (some ⟨b, 0, none⟩)] w fun e w' => e = .returned (.int .i64 ((D.data.length - D.pos : Nat) : Int)) ∧ ∃ n, w' = w.drewN n := by
  obtain ⟨vd, vo, hb, hl, ho⟩ := hc.ex
  obtain ⟨cap, rfl, hcl, hcm, -, -⟩ := hl.open_map
  have c0 := hb.cell 0
  have c1 := hb.cell 1
  simp at c0 c1
  clear hb hl ho hc
  have hw : IntKind.i64.wrap ((D.data.length : Int) - D.pos) = ((D.data.length - D.pos : Nat) : Int) := by
    rw [IntWalk.i64_in _ (by omega)]; omega
  go_enter Try.func27, Try.ntmps27
  go_wp2
  go_quiet (fail)
  go_wp2
  go_ret
  exact ⟨by go_num, nq, rfl⟩

theorem dget_dead (w : World) (b g h : Nat) (D : Dec) (ctx : Int) (hc : IsDec 69 w b g h D) (he : D.err ≠ 0) :
    Calls Try.prog 30 #[.pointer (some ⟨b, 0, none⟩), .int .i64 ctx] w fun e w' => e = .returned (.int .i64 0) ∧ w' = w := by
  obtain ⟨vd, vo, hb, hl, ho⟩ := hc.ex
  have c5 := hb.cell 5
  simp at c5
  clear hb hl ho hc
  have t1 : ((D.err : Int) != 0) = true := by rw [bne_iff_ne]; omega
  clear he
  go_enter Try.func30, Try.ntmps30
  go_wp2_with fail
  go_ret
  exact ⟨rfl, rfl⟩

set_option maxRecDepth 100000 in
set_option maxHeartbeats 2000000 in
theorem dget_any (w : World) (b g h : Nat) (D : Dec) (ctx : Nat) (hc : IsDec 69 w b g h D) (hok : DecOk D) (he : D.err = 0) (hctx : ctx < D.odds.length) :
    Calls Try.prog 30 #[.pointer (some ⟨b, 0, none⟩), .int .i64 ctx] w fun e w' => e = .returned (.int .i64 ((dget D ctx).1 : Nat)) ∧
      IsDec 69 w' b g h (dget D ctx).2 ∧ Chg [b, h] w w' := by
  obtain ⟨vd, vo, hb, hl, ho⟩ := hc.ex
  have hbd := dbound_put hok hctx
  have hhi := hok.hi
  have hgb := hl.ne_ hb (by decide)
  have hhb := ho.ne_ hb (by decide)
  have hgh := hl.ne_row ho (by decide)
  obtain ⟨capo, rfl, hco, hcom, hcello, -⟩ := ho.open_map
  have ho1 := hcello ctx _ (dec_oddsAt hctx)
  replace ho1 : w.cell? ⟨h, ctx, none⟩ = some (.int .i64 (dOddsAt D ctx : Int)) := ho1
  clear hcello
  have hor := dOddsAt_ok hok hctx
  obtain ⟨o1, hoo⟩ : ∃ o1, o1 = dOddsAt D ctx := ⟨_, rfl⟩
  rw [← hoo] at ho1 hor hbd
  have Hoo := hid hoo
  clear hoo
  have c3 := hb.cell 3
  have c4 := hb.cell 4
  have c5 := hb.cell 5
  simp at c3 c4 c5
  rw [he] at c5
  have t1 : decide ((ctx : Int) < 0) = false := by simp
  have t2 : decide (D.odds.length ≤ ctx) = false := by simp; omega
  obtain ⟨bd, hbdd⟩ : ∃ bd, bd = D.W / 4096 * o1 := ⟨_, rfl⟩
  rw [← hbdd] at hbd
  have hmul : IntKind.u64.wrap ((D.W : Int) / 4096 * (o1 : Int)) = (bd : Int) := by
    have e : ((D.W : Int) / 4096 * (o1 : Int)) = (bd : Int) := by rw [hbdd]; simp
    rw [e]
    exact IntWalk.u64_in _ (by omega)
  have Hget : Hid (dget D ctx = if (dcode D bd).2.err = 0 then ((dcode D bd).1, { (dcode D bd).2 with odds := D.odds.set ctx (adaptN o1 (dcode D bd).1) }) else dcode D bd) := by
    refine hid ?_
    rw [hbdd, Hoo.out]
    rfl
  clear hbdd
  have hdata := hid (dcode_data D bd)
  have hbit := hid (dcode_bit D bd)
  have herr := hid (dcode_err D bd)
  obtain ⟨bit, hbi⟩ : ∃ bit, bit = (dcode D bd).1 := ⟨_, rfl⟩
  obtain ⟨D1, hD1⟩ : ∃ D1, D1 = (dcode D bd).2 := ⟨_, rfl⟩
  have Hbi := hid hbi
  have HD1 := hid hD1
  clear hbi hD1
  have HE := hid he
  clear he
  go_enter Try.func30, Try.ntmps30
  go_wp2
  refine wp_region_quiet_tail 15 (by kernel_rfl) (by kernel_rfl) ?_
  simp only [List.take_succ_cons, List.take_zero, List.drop_succ_cons, List.drop_zero]
  repeat (go_big_quiet_step (fail))
  refine wpQuiet_nil ?_
  intro _ hw'
  obtain ⟨nq, rfl⟩ := hw'
  go_wp2_with fail
  refine (dcode_any (w.drewN nq) b g h D bd (hc.same ((Chg.refl _ _).drewN nq)) hok hbd).mono ?_
  rintro e w1 ⟨rfl, hc1, hch1⟩
  rw [← HD1.out] at hc1
  rw [← Hbi.out]
  obtain ⟨vd1, vo1, hb1, hl1, hq1⟩ := hc1.ex
  have x5 := hb1.cell 5
  simp at x5
  by_cases he1 : D1.err = 0
  · have t3 : ((D1.err : Int) == 0) = true := by rw [beq_iff_eq]; omega
    have HE1 := hid he1
    clear he1
    have hod : D1.odds = D.odds := by rw [HD1.out]; exact hdata.out.2
    rw [hod] at hq1
    have Hod := hid hod
    clear hod
    have hgb1 := hl1.ne_ hb1 (by decide)
    have hgh1 := hl1.ne_row hq1 (by decide)
    obtain ⟨capo1, rfl, hco1, hcom1, hcello1, hfro1⟩ := hq1.open_map
    have hx1 : w1.cell? ⟨h, ctx, none⟩ = some (.int .i64 (o1 : Int)) := by rw [Hoo.out]; exact hcello1 ctx _ (dec_oddsAt hctx)
    have hx2 := hfro1 ctx
    have hx3 := hb1.cell 4
    simp at hx3
    clear hcello1 hfro1
    go_wp2_with fail
    refine wp_region_quiet_tail 14 (by kernel_rfl) (by kernel_rfl) ?_
    simp only [List.take_succ_cons, List.take_zero, List.drop_succ_cons, List.drop_zero]
    repeat (go_big_quiet_step ((go_at_call 35; exact Calls.quiet_of_same (adapt_any o1 bit _ (by omega) (by rw [Hbi.out]; exact hbit.out)))))
    refine wpQuiet_nil ?_
    intro _ hw'
    obtain ⟨nq1, rfl⟩ := hw'
    go_wp2
    go_ret
    have e1 : dget D ctx = (bit, { D1 with odds := D.odds.set ctx (adaptN o1 bit) }) := by
      rw [Hget.out, if_pos (by rw [← HD1.out]; exact HE1.out), Hbi.out, HD1.out]
    rw [e1]
    refine ⟨rfl, ⟨_, _, (hb1.drewN nq1).far (p := ⟨h, ctx, none⟩) hhb.symm _, (hl1.drewN nq1).far (p := ⟨h, ctx, none⟩) hgh1 _, ?_⟩, ?_⟩
    · simp only
      rw [List.map_set]
      exact (hq1.drewN nq1).set_ (i := ctx) (by simpa using hctx) _
    · refine Chg.setCell (Chg.drewN ?_ _) (by simp) _
      exact ((Chg.refl _ _).drewN nq).trans hch1 (by simp)
  · have t3 : ((D1.err : Int) == 0) = false := by rw [beq_eq_false_iff_ne]; omega
    have HE1 := hid he1
    clear he1
    go_wp2
    go_ret
    have e1 : dget D ctx = (bit, D1) := by
      rw [Hget.out, if_neg (by rw [← HD1.out]; exact HE1.out), Hbi.out, HD1.out]
    rw [e1]
    exact ⟨rfl, hc1, (((Chg.refl _ _).drewN nq).trans hch1 (by simp))⟩
end Go.Proofs.Ytofdgpgleghllaa
