/- The reference's coder, part 3 (printed by wip/mkref.py from the coder's texts, then turned). -/
import Derived.Test.YtofdgpgleghllaaArRef2
import Derived.Test.YtofdgpgleghllaaArCod3
import Derived.Deep.RegionWith
namespace Go.Proofs.Ytofdgpgleghllaa
set_option linter.unusedSimpArgs false
set_option linter.unusedVariables false
open Go.RowKit

theorem codeL_set (c : Cod) (x : List Nat) (bd bit : Nat) : codeL { c with odds := x } bd bit = { codeL c bd bit with odds := x } := by
  unfold codeL widA lowA
  simp only
  split <;> split <;> rfl

theorem odds_ok {c : Cod} (h : CodOk c) {ctx o : Nat} (ho : 31 ≤ o ∧ o ≤ 4065) (bit : Nat) : CodOk { c with odds := c.odds.set ctx (adaptN o bit) } := by
  refine ⟨h.dig, h.len, h.lo, h.hi, fun x hx => ?_⟩
  rcases List.mem_or_eq_of_mem_set hx with h' | h'
  · exact h.odds x h'
  · subst h'
    exact adaptN_ok bit ho

set_option maxRecDepth 100000 in
theorem put_ok_r (w : World) (b g h : Nat) (c : Cod) (ctx bit : Nat) (hc : IsCod 63 w b g h c) (hok : CodOk c) (hctx : ctx < c.odds.length) (hbit : bit = 0 ∨ bit = 1)
    (hlen : c.low.length ≤ 1099511627776) :
    Calls Try.prog 14 #[.pointer (some ⟨b, 0, none⟩), .int .i64 ctx, .int .i64 bit] w fun e w' => e = .returned (.int .i64 0) ∧
      ∃ g', IsCod 63 w' b g' h (putL c ctx bit) ∧ Chg [b, g, h] w w' ∧ (g' = g ∨ w.heap.size ≤ g') := by
  obtain ⟨vl, vo, hb, hl, ho⟩ := hc.ex
  have hbd := bound_put hok hctx
  have hhi := hok.hi
  have hgb := hl.ne_ hb (by decide)
  have hhb := ho.ne_ hb (by decide)
  have hgh := hl.ne_row ho (by decide)
  obtain ⟨capo, rfl, hco, hcom, hcello, hfro⟩ := ho.open_map
  have ho1 := hcello ctx _ (cod_oddsAt hctx)
  replace ho1 : w.cell? ⟨h, ctx, none⟩ = some (.int .i64 (oddsAt c ctx : Int)) := ho1
  clear hcello
  obtain ⟨o1, hoo⟩ : ∃ o1, o1 = oddsAt c ctx := ⟨_, rfl⟩
  have hor := oddsAt_ok hok hctx
  rw [← hoo] at ho1 hor hbd
  have Hoo := hid hoo
  clear hoo
  have hc1 := hb.cell 1
  have hc2 := hb.cell 2
  simp at hc1 hc2
  have t1 : decide ((ctx : Int) < 0) = false := by simp
  have t2 : decide (c.odds.length ≤ ctx) = false := by simp; omega
  obtain ⟨bd, hbdd⟩ : ∃ bd, bd = c.W / 4096 * o1 := ⟨_, rfl⟩
  have hmul : IntKind.u64.wrap ((c.W : Int) / 4096 * (o1 : Int)) = (bd : Int) := by
    rw [← hbdd] at hbd
    have := hbd.2
    have e : ((c.W : Int) / 4096 * (o1 : Int)) = (bd : Int) := by rw [hbdd]; simp
    rw [e]
    exact IntWalk.u64_in _ (by omega)
  rw [← hbdd] at hbd
  have Hput : Hid (putL c ctx bit = { codeL c bd bit with odds := c.odds.set ctx (adaptN o1 bit) }) := by
    refine hid ?_
    rw [hbdd, Hoo.out]
    rfl
  clear hbdd
  have Hmid : Hid (CodOk { c with odds := c.odds.set ctx (adaptN o1 bit) }) := hid (odds_ok hok hor _)
  have ho2 := hfro ctx
  go_enter Try.func14, Try.ntmps14
  rcases hbit with rfl | rfl
  · go_wp2_with fail
    refine wp_region_quiet_tail 8 (by kernel_rfl) (by kernel_rfl) ?_
    simp only [List.take_succ_cons, List.take_zero, List.drop_succ_cons, List.drop_zero]
    repeat (go_big_quiet_step ((go_at_call 36; exact Calls.quiet_of_same (after_any o1 _ _ (by omega) (by simp)))))
    refine wpQuiet_nil ?_
    intro _ hw'
    obtain ⟨nq1, rfl⟩ := hw'
    go_wp2_with fail
    refine (step_any _ b g h { c with odds := c.odds.set ctx (adaptN o1 0) } bd 0 ⟨_, _, (hb.drewN nq1).far (p := ⟨h, ctx, none⟩) hhb.symm _, (hl.drewN nq1).far (p := ⟨h, ctx, none⟩) hgh _, ?q⟩ Hmid.out hbd (by simp) hlen).mono ?_
    case q =>
      have := (ho.drewN nq1).set_ (i := ctx) (by simpa using hctx) (i64 (adaptN o1 0))
      rw [← List.map_set] at this
      simpa [i64] using this
    rintro e w1 ⟨rfl, g', hc1, hch1, hg1⟩
    have ch0 : Chg [b, g, h] w ((w.drewN nq1).setCell ⟨h, ctx, none⟩ (.int .i64 (adaptN o1 0 : Nat))) := ((Chg.refl _ _).drewN nq1).setCell (p := ⟨h, ctx, none⟩) (by simp) _
    replace hg1 : g' = g ∨ w.heap.size ≤ g' := hg1.imp id (Nat.le_trans ch0.size)
    go_wp2_with fail
    go_ret
    refine ⟨rfl, g', ?_, ?_, hg1⟩
    · rw [Hput.out, ← codeL_set]; exact hc1
    · refine ch0.trans hch1 ?_
      intro x hx
      simp at hx
      rcases hx with rfl | rfl <;> exact .inl (by simp)
  · go_wp2_with fail
    refine wp_region_quiet_tail 8 (by kernel_rfl) (by kernel_rfl) ?_
    simp only [List.take_succ_cons, List.take_zero, List.drop_succ_cons, List.drop_zero]
    repeat (go_big_quiet_step ((go_at_call 36; exact Calls.quiet_of_same (after_any o1 _ _ (by omega) (by simp)))))
    refine wpQuiet_nil ?_
    intro _ hw'
    obtain ⟨nq1, rfl⟩ := hw'
    go_wp2_with fail
    refine (step_any _ b g h { c with odds := c.odds.set ctx (adaptN o1 1) } bd 1 ⟨_, _, (hb.drewN nq1).far (p := ⟨h, ctx, none⟩) hhb.symm _, (hl.drewN nq1).far (p := ⟨h, ctx, none⟩) hgh _, ?q⟩ Hmid.out hbd (by simp) hlen).mono ?_
    case q =>
      have := (ho.drewN nq1).set_ (i := ctx) (by simpa using hctx) (i64 (adaptN o1 1))
      rw [← List.map_set] at this
      simpa [i64] using this
    rintro e w1 ⟨rfl, g', hc1, hch1, hg1⟩
    have ch0 : Chg [b, g, h] w ((w.drewN nq1).setCell ⟨h, ctx, none⟩ (.int .i64 (adaptN o1 1 : Nat))) := ((Chg.refl _ _).drewN nq1).setCell (p := ⟨h, ctx, none⟩) (by simp) _
    replace hg1 : g' = g ∨ w.heap.size ≤ g' := hg1.imp id (Nat.le_trans ch0.size)
    go_wp2_with fail
    go_ret
    refine ⟨rfl, g', ?_, ?_, hg1⟩
    · rw [Hput.out, ← codeL_set]; exact hc1
    · refine ch0.trans hch1 ?_
      intro x hx
      simp at hx
      rcases hx with rfl | rfl <;> exact .inl (by simp)

theorem put_bad_r (w : World) (b g h : Nat) (c : Cod) (ctx bit : Int) (hc : IsCod 63 w b g h c) (hbad : ctx < 0 ∨ (c.odds.length : Int) ≤ ctx ∨ (bit ≠ 0 ∧ bit ≠ 1)) :
    Calls Try.prog 14 #[.pointer (some ⟨b, 0, none⟩), .int .i64 ctx, .int .i64 bit] w fun e w' => e = .returned (.int .i64 1) ∧ w' = w := by
  obtain ⟨vl, vo, hb, hl, ho⟩ := hc.ex
  obtain ⟨capo, rfl, hco, hcom, hcello, hfro⟩ := ho.open_map
  have hc2 := hb.cell 2
  simp at hc2
  clear hcello hfro hb hl ho hc
  by_cases h1 : ctx < 0
  · have t1 : decide (ctx < 0) = true := by simpa using h1
    clear hbad
    go_enter Try.func14, Try.ntmps14
    go_wp2
    go_ret
    exact ⟨rfl, rfl⟩
  · have t1 : decide (ctx < 0) = false := by simpa using h1
    by_cases h2 : (c.odds.length : Int) ≤ ctx
    · have t2 : decide ((c.odds.length : Int) ≤ ctx) = true := by simpa using h2
      clear hbad
      go_enter Try.func14, Try.ntmps14
      go_wp2
      go_ret
      exact ⟨rfl, rfl⟩
    · have t2 : decide ((c.odds.length : Int) ≤ ctx) = false := by simpa using h2
      have t3 : (bit != 0) = true := by rw [bne_iff_ne]; omega
      have t4 : (bit != 1) = true := by rw [bne_iff_ne]; omega
      clear hbad
      go_enter Try.func14, Try.ntmps14
      go_wp2
      go_ret
      exact ⟨rfl, rfl⟩

theorem odds_in_r (w : World) (b g h : Nat) (c : Cod) (ctx : Nat) (hc : IsCod 63 w b g h c) (hctx : ctx < c.odds.length) :
    Calls Try.prog 20 #[.pointer (some ⟨b, 0, none⟩), .int .i64 ctx] w fun e w' => e = .returned (.int .i64 (oddsAt c ctx)) ∧ w' = w := by
  obtain ⟨vl, vo, hb, hl, ho⟩ := hc.ex
  obtain ⟨capo, rfl, hco, hcom, hcello, hfro⟩ := ho.open_map
  have ho1 : w.cell? ⟨h, ctx, none⟩ = some (.int .i64 (oddsAt c ctx : Int)) := hcello ctx _ (cod_oddsAt hctx)
  have hc2 := hb.cell 2
  simp at hc2
  clear hcello hfro hb hl ho hc
  have t1 : decide ((ctx : Int) < 0) = false := by simp
  have t2 : decide (c.odds.length ≤ ctx) = false := by simp; omega
  generalize oddsAt c ctx = o at *
  go_enter Try.func20, Try.ntmps20
  go_wp2
  go_ret
  exact ⟨rfl, rfl⟩
theorem odds_out_r (w : World) (b g h : Nat) (c : Cod) (ctx : Int) (hc : IsCod 63 w b g h c) (hbad : ctx < 0 ∨ (c.odds.length : Int) ≤ ctx) :
    Calls Try.prog 20 #[.pointer (some ⟨b, 0, none⟩), .int .i64 ctx] w fun e w' => e = .returned (.int .i64 0) ∧ w' = w := by
  obtain ⟨vl, vo, hb, hl, ho⟩ := hc.ex
  obtain ⟨capo, rfl, hco, hcom, hcello, hfro⟩ := ho.open_map
  have hc2 := hb.cell 2
  simp at hc2
  clear hcello hfro hb hl ho hc
  by_cases h1 : ctx < 0
  · have t1 : decide (ctx < 0) = true := by simpa using h1
    clear hbad
    go_enter Try.func20, Try.ntmps20
    go_wp2
    go_ret
    exact ⟨rfl, rfl⟩
  · have t1 : decide (ctx < 0) = false := by simpa using h1
    have t2 : decide ((c.odds.length : Int) ≤ ctx) = true := by simp; omega
    clear hbad
    go_enter Try.func20, Try.ntmps20
    go_wp2
    go_ret
    exact ⟨rfl, rfl⟩
end Go.Proofs.Ytofdgpgleghllaa
