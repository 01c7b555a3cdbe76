/- The coder's functions, each by its contract: grow, code, adapt, Put, Raw, Number, Bytes, Odds, NewCoder. -/
import Derived.Test.YtofdgpgleghllaaProg
import Derived.Test.YtofdgpgleghllaaArPlain
import Derived.Test.YtofdgpgleghllaaTail
import Derived.WalkLawsBesides
import Derived.WalkSpells
import Derived.Handy
import Derived.StillTailTactics
import Derived.Deep.QuietTactic
import Derived.BigQuiet
import Derived.Deep.DeepCutAuto
import Derived.Deep.LoopGhost
namespace Go.Proofs.Ytofdgpgleghllaa
set_option linter.unusedSimpArgs false
set_option linter.unusedVariables false
open Go.RowKit

theorem adapt_any (o bit : Nat) (w : World) (h2 : o ≤ 4096) (hbit : bit = 0 ∨ bit = 1) :
    Calls Try.prog 35 #[.int .i64 o, .int .i64 bit] w fun e w' => e = .returned (.int .i64 (adaptN o bit : Nat)) ∧ w' = w := by
  rcases hbit with rfl | rfl
  all_goals
    go_enter Try.func35, Try.ntmps35
    go_wp2
    go_ret
    exact ⟨by unfold adaptN; simp; go_num, rfl⟩

set_option maxHeartbeats 400000 in
theorem grow_any (w : World) (b g : Nat) (v odds : Value) (W : Int) (ds : List Nat) (n0 : Nat)
    (hb : Blk w b 61 #[v, .int .u64 W, odds]) (hr : Row w 5 v g (ds.map b8)) (hd : ∀ d ∈ ds, d < 256) (hn : n0 < 9223372036854775808) :
    Calls Try.prog 42 #[.pointer (some ⟨b, 0, none⟩), .int .u64 n0] w fun e w' => e = .returned (.tuple #[]) ∧ Row w' 5 v g ((growL ds n0).map b8) ∧ Chg [g] w w' := by
  obtain ⟨cap, rfl, hcl, hcm, -, -⟩ := hr.open_map
  have hne := hr.ne_ hb (by decide)
  have HD := hid hd
  clear hd
  have hc0 := hb.cell 0
  simp at hc0
  go_enter Try.func42, Try.ntmps42
  go_wp2
  go_loopw [1, 4] (fun n i wr => ∃ (l t : List Nat) (c : Nat) (j : Int), i = .int .i64 j ∧ n = .int .u64 (c : Int) ∧ j = (l.length : Int) - 1 ∧ c < 9223372036854775808 ∧ l.length + t.length = ds.length ∧
      growL ds n0 = growL l c ++ t ∧ (∀ d ∈ l, d < 256) ∧ Row wr 5 (.slice (some ⟨g, 0, none⟩) ds.length cap) g ((l ++ t).map b8) ∧ Chg [g] w wr)
    (fun n i _ => (intOf i + 1).toNat)
  case atStart => exact ⟨ds, [], n0, _, rfl, rfl, rfl, hn, by simp, by simp, HD.out, by simpa using hr, Chg.refl _ _⟩
  case round =>
    obtain ⟨l, t, c, j, rfl, rfl, hj, hc, hlen, hgr, hl, hrow, hchg⟩ := hrel
    have hbr := hb.chg hchg (by simpa using hne.symm)
    have hc0r := hbr.cell 0
    simp at hc0r
    clear hc0
    rcases List.eq_nil_or_concat l with rfl | ⟨l', d, rfl⟩
    · obtain rfl : j = -1 := by simpa using hj
      have HG := hid hgr
      clear hj hlen hgr hl
      go_wp2
      all_goals
        go_end0
        refine ⟨rfl, ?_, hchg⟩
        rw [HG.out]; simpa [growL_nil] using hrow
    · have hcd : wr.cell? ⟨g, l'.length, none⟩ = some (.int .u8 (d : Int)) := by
        obtain ⟨_, h1, _, _, h2, _⟩ := hrow.open_map
        exact h2 l'.length d (by simp)
      have hfr : wr.frozen? ⟨g, l'.length, none⟩ = false := by
        obtain ⟨_, h1, _, _, _, h2⟩ := hrow.open_map
        exact h2 _
      obtain rfl : j = (l'.length : Int) := by simp at hj; omega
      have hd256 : d < 256 := hl d (by simp)
      have hlt : l'.length < ds.length := by simp at hlen; omega
      have HL := hid hlen
      have HG := hid hgr
      have HLL := hid hl
      clear hj hlen hgr hl
      go_wp2
      · have hcp : 0 < c := by omega
        go_roundw
        case rel =>
          have e1 := growL_snoc l' d c (by omega)
          have HLO := HL.out
          refine ⟨l', (c + d) % 256 :: t, (c + d) / 256, _, rfl, by go_num, rfl, by omega, by simp at HLO ⊢; omega, ?_, fun x hx => HLL.out x (by simp [hx]), ?_, hchg.setCell (by simp) _⟩
          · rw [HG.out, List.concat_eq_append, e1, List.append_assoc]; rfl
          · have h2 := hrow.set_ (i := l'.length) (by simp) (b8 ((c + d) % 256))
            have e2 : ((l'.concat d ++ t).map b8).set l'.length (b8 ((c + d) % 256)) = (l' ++ (c + d) % 256 :: t).map b8 := by
              rw [List.concat_eq_append, List.append_assoc, List.map_append, List.map_append, List.set_append_right _ _ (by simp)]
              simp
            rw [e2] at h2
            have e3 : b8 ((c + d) % 256) = .int .u8 (((c : Int) + d) % 256) := by unfold b8; go_num
            rw [e3] at h2
            exact h2
        case measure => simp [intOf]
      · obtain rfl : c = 0 := by omega
        go_end0
        refine ⟨rfl, ?_, hchg⟩
        rw [HG.out, growL_zero]; exact hrow

theorem u8_el : Elem Try.prog 39 5 (.int .u8 0) 1 1 := .mk' Try.underlying39 (by kernel_rfl)

set_option maxHeartbeats 1000000 in
set_option maxRecDepth 100000 in
theorem code_any (w : World) (b g h : Nat) (c : Cod) (bound bit : Nat) (hc : IsCod 61 w b g h c) (hok : CodOk c) (hbd : BoundOk c bound) (hbit : bit = 0 ∨ bit = 1)
    (hlen : c.low.length ≤ 1099511627776) :
    Calls Try.prog 34 #[.pointer (some ⟨b, 0, none⟩), .int .u64 bound, .int .i64 bit] w fun e w' => e = .returned (.tuple #[]) ∧
      ∃ g', IsCod 61 w' b g' h (codeL c bound bit) ∧ Chg [b, g] w w' ∧ (g' = g ∨ w.heap.size ≤ g') := by
  obtain ⟨vl, vo, hb, hl, ho⟩ := hc.ex
  obtain ⟨hb1, hb2⟩ := hbd
  have hhi := hok.hi
  have hgb := hl.ne_ hb (by decide)
  have hhb := ho.ne_ hb (by decide)
  have hgh := hl.ne_row ho (by decide)
  obtain ⟨cap, rfl, hcl, hcm, -, -⟩ := hl.open_map
  have hc0 := hb.cell 0
  have hc1 := hb.cell 1
  have hf1 := hb.frozen 1
  simp at hc0 hc1
  have hwid := widA_ok hok ⟨hb1, by omega⟩ bit
  obtain ⟨W1, hW1⟩ : ∃ W1, W1 = widA c bound bit := ⟨_, rfl⟩
  obtain ⟨l1, hl1⟩ : ∃ l1, l1 = lowA c bound bit := ⟨_, rfl⟩
  rw [← hW1] at hwid
  have HW1 := hid hW1
  have Hl1 := hid hl1
  clear hW1 hl1 
  have hlow : l1.length = c.low.length := by rw [Hl1.out, lowA_len]
  have Hlow := hid hlow
  clear hlow
  go_enter Try.func34, Try.ntmps34
  go_upto_if 7 with fail
  go_cut [] (fun wx => Blk wx b 61 #[.slice (some ⟨g, 0, none⟩) c.low.length cap, .int .u64 (W1 : Int), vo] ∧ Row wx 5 (.slice (some ⟨g, 0, none⟩) c.low.length cap) g (l1.map b8) ∧ Chg [b, g] w wx)
  case first =>
    rcases hbit with rfl | rfl
    · go_wp2
      go_meet
      case rel =>
        refine ⟨?_, ?_, (Chg.refl _ _).setCell (by simp) _⟩
        · have := hb.set_ 1 (.int .u64 (W1 : Int))
          rw [HW1.out] at this ⊢
          exact this
        · rw [Hl1.out]
          exact hl.far (p := ⟨b, 1, none⟩) hgb _
    · go_wp2_with (go_at_call 42; refine (grow_any _ _ _ _ _ _ _ _ hb hl hok.dig (by omega)).mono ?_; rintro e w1 ⟨rfl, hl1, hch1⟩; have hb1 := hb.chg hch1 (by simpa using hgb.symm); have hc11 := hb1.cell 1; have hf11 := hb1.frozen 1; simp at hc11)
      go_meet
      case rel =>
        refine ⟨?_, ?_, (hch1.mono (F' := [b, g]) (by simp)).setCell (by simp) _⟩
        · have := hb1.set_ 1 (.int .u64 ((c.W : Int) - bound))
          have e : ((W1 : Nat) : Int) = (c.W : Int) - bound := by rw [HW1.out]; unfold widA; simp; omega
          rw [e]
          exact this
        · rw [Hl1.out]
          exact hl1.far (p := ⟨b, 1, none⟩) hgb _
  case rest =>
    obtain ⟨hbc, hlc, hchc⟩ := hcut
    have hd0 := hbc.cell 0
    have hd1 := hbc.cell 1
    have hg0 := hbc.frozen 0
    have hg1 := hbc.frozen 1
    simp at hd0 hd1
    clear hc0 hc1 hf1
    go_wp2_with fail
    go_loopg [] 1 (fun k wr => ∃ (g' cap' : Nat) (l : List Nat) (W : Nat), Blk wr b 61 #[.slice (some ⟨g', 0, none⟩) l.length cap', .int .u64 (W : Int), vo] ∧
        Row wr 5 (.slice (some ⟨g', 0, none⟩) l.length cap') g' (l.map b8) ∧ Chg [b, g] w wr ∧ (g' = g ∨ w.heap.size ≤ g') ∧
        ((k = 1 ∧ W = W1 ∧ l = l1) ∨ (k = 0 ∧ 16777216 ≤ W ∧ W < 4294967296 ∧ Hid (codeL c bound bit = ⟨l, W, c.odds⟩))))
    case atStart => exact ⟨g, cap, l1, W1, by rw [Hlow.out]; exact hbc, by rw [Hlow.out]; exact hlc, hchc, .inl rfl, .inl ⟨rfl, rfl, rfl⟩⟩
    case round =>
      clear hd0 hd1 hg0 hg1 hbc hlc
      obtain ⟨g', cap', l, W, hbr, hlr, hchr, hg', hcase⟩ := hrel
      have hgb' := hlr.ne_ hbr (by decide)
      have hd0 := hbr.cell 0
      have hd1 := hbr.cell 1
      have hg0 := hbr.frozen 0
      have hg1 := hbr.frozen 1
      simp at hd0 hd1
      have hend : ∀ W', W' = W → codeL c bound bit = ⟨l, W', c.odds⟩ → IsCod 61 wr b g' h (codeL c bound bit) := fun W' e he => by
        subst e
        rw [he]
        have hoh : h ∉ [b, g] := by simp; exact ⟨hhb, hgh.symm⟩
        exact ⟨_, vo, hbr, hlr, ho.chg hchr hoh⟩
      have Hend := hid hend
      clear hend
      rcases hcase with ⟨rfl, rfl, rfl⟩ | ⟨rfl, hW, hW2, Hfin⟩
      · by_cases hs : W < 16777216
        · have hdec : decide ((W : Int) < 16777216) = true := by simp; omega
          go_wp2_with (at_builtin; refine wpList_append_row1 rfl rfl u8_el rfl rfl ((hlr.far (p := ⟨b, 1, none⟩) hgb' _).alloc _) (.int .u8 0) rfl ?c1 ?c2 ?c3 ?c4 ?_)
          case c1 => simp [go_sem]
          case c2 => rfl
          case c3 => simp; have := Hlow.out; omega
          case c4 => simp; have := Hlow.out; omega
          intro g2 cap2 w2 hl2 hch2 hg2
          have hbb := ((hbr.set_ 1 (.int .u64 ((W : Int) * 256))).alloc (.cells #[.int .u8 0] 5)).chg hch2 (by simpa using hgb'.symm)
          have hgb2 := hl2.ne_ hbb (by decide)
          have hch3 : Chg [b, g] w w2 := ((hchr.setCell (p := ⟨b, 1, none⟩) (by simp) _).alloc _).trans hch2 (by
            intro x hx
            simp at hx
            subst hx
            rcases hg' with rfl | hg'
            · exact .inl (by simp)
            · exact .inr hg')
          have hcb0 := hbb.cell 0
          have hfb0 := hbb.frozen 0
          simp at hcb0
          have hsz := hchr.size
          have hg3 : g2 = g ∨ w.heap.size ≤ g2 := by
            rcases hg2 with rfl | hg2
            · exact hg'
            · exact .inr (by omega)
          clear hch2
          go_wp2
          go_roundg 0
          case measure => omega
          case rel =>
            refine ⟨g2, cap2, l ++ [0], W * 256, ?_, ?_, hch3.setCell (by simp) _, hg3, .inr ⟨rfl, by omega, by omega, ?_⟩⟩
            · have h1 := hbb.set_ 0 (.slice (some ⟨g2, 0, none⟩) (l.length + 1) cap2)
              simp at h1
              simpa using h1
            · have h1 := hl2.far (p := ⟨b, 0, none⟩) hgb2 (.slice (some ⟨g2, 0, none⟩) (l.length + 1) cap2)
              simpa [b8] using h1
            · refine hid ?_
              unfold codeL
              rw [← HW1.out, if_pos hs, ← Hl1.out]
        · have hdec : decide ((W : Int) < 16777216) = false := by simp; omega
          go_wp2
          go_end0
          refine ⟨rfl, g', ?_, hchr, hg'⟩
          refine Hend.out W rfl ?_
          unfold codeL
          rw [← HW1.out, if_neg hs, ← Hl1.out]
      · have hdec : decide ((W : Int) < 16777216) = false := by simp; omega
        go_wp2
        go_end0
        exact ⟨rfl, g', Hend.out W rfl Hfin.out, hchr, hg'⟩

theorem cod_oddsAt {c : Cod} {ctx : Nat} (hc : ctx < c.odds.length) : c.odds[ctx]? = some (oddsAt c ctx) := by
  unfold oddsAt
  rw [List.getD_eq_getElem?_getD, List.getElem?_eq_getElem hc]
  rfl

set_option maxRecDepth 100000 in
theorem put_ok (w : World) (b g h : Nat) (c : Cod) (ctx bit : Nat) (hc : IsCod 61 w b g h c) (hok : CodOk c) (hctx : ctx < c.odds.length) (hbit : bit = 0 ∨ bit = 1)
    (hlen : c.low.length ≤ 1099511627776) :
    Calls Try.prog 13 #[.pointer (some ⟨b, 0, none⟩), .int .i64 ctx, .int .i64 bit] w fun e w' => e = .returned (.int .i64 0) ∧
      ∃ g', IsCod 61 w' b g' h (putL c ctx bit) ∧ Chg [b, g, h] w w' ∧ (g' = g ∨ w.heap.size ≤ g') := by
  obtain ⟨vl, vo, hb, hl, ho⟩ := hc.ex
  have hbd := bound_put hok hctx
  have hhi := hok.hi
  have hgb := hl.ne_ hb (by decide)
  have hhb := ho.ne_ hb (by decide)
  have hgh := hl.ne_row ho (by decide)
  obtain ⟨capo, rfl, hco, hcom, hcello, hfro⟩ := ho.open_map
  have ho1 := hcello ctx _ (cod_oddsAt hctx)
  replace ho1 : w.cell? ⟨h, ctx, none⟩ = some (.int .i64 (oddsAt c ctx : Int)) := ho1
  clear hcello
  obtain ⟨o1, hoo⟩ : ∃ o1, o1 = oddsAt c ctx := ⟨_, rfl⟩
  have hor := oddsAt_ok hok hctx
  rw [← hoo] at ho1 hor hbd
  have Hoo := hid hoo
  clear hoo
  have hc1 := hb.cell 1
  have hc2 := hb.cell 2
  simp at hc1 hc2
  have t1 : decide ((ctx : Int) < 0) = false := by simp
  have t2 : decide (c.odds.length ≤ ctx) = false := by simp; omega
  obtain ⟨bd, hbdd⟩ : ∃ bd, bd = c.W / 4096 * o1 := ⟨_, rfl⟩
  have hmul : IntKind.u64.wrap ((c.W : Int) / 4096 * (o1 : Int)) = (bd : Int) := by
    rw [← hbdd] at hbd
    have := hbd.2
    have e : ((c.W : Int) / 4096 * (o1 : Int)) = (bd : Int) := by rw [hbdd]; simp
    rw [e]
    exact IntWalk.u64_in _ (by omega)
  rw [← hbdd] at hbd
  have Hput : Hid (putL c ctx bit = { codeL c bd bit with odds := c.odds.set ctx (adaptN o1 bit) }) := by
    refine hid ?_
    rw [hbdd, Hoo.out]
    rfl
  clear hbdd
  go_enter Try.func13, Try.ntmps13
  rcases hbit with rfl | rfl
  all_goals
    go_wp2
    refine wp_region_quiet_tail 16 (by kernel_rfl) (by kernel_rfl) ?_
    simp only [List.take_succ_cons, List.take_zero, List.drop_succ_cons, List.drop_zero]
    repeat (go_big_quiet_step (fail))
    refine wpQuiet_nil ?_
    intro _ hw'
    obtain ⟨nq, rfl⟩ := hw'
    go_wp2_with fail
    refine (code_any (w.drewN nq) b g h c bd _ (hc.same (((Chg.refl _ _).drewN nq))) hok hbd (by simp) hlen).mono ?_
    rintro e w1 ⟨rfl, g', hc1, hch1, hg1⟩
    obtain ⟨vl1, vo1, hb1, hl1, hq1⟩ := hc1.ex
    rw [codeL_odds] at hq1
    have hgb1 := hl1.ne_ hb1 (by decide)
    have hgh1 := hl1.ne_row hq1 (by decide)
    obtain ⟨capo1, rfl, hco1, hcom1, hcello1, hfro1⟩ := hq1.open_map
    have hx1 : w1.cell? ⟨h, ctx, none⟩ = some (.int .i64 (o1 : Int)) := by rw [Hoo.out]; exact hcello1 ctx _ (cod_oddsAt hctx)
    have hx2 := hfro1 ctx
    have hx3 := hb1.cell 2
    simp at hx3
    clear hcello1 hfro1 hfro
    go_wp2_with fail
    refine wp_region_quiet_tail 14 (by kernel_rfl) (by kernel_rfl) ?_
    simp only [List.take_succ_cons, List.take_zero, List.drop_succ_cons, List.drop_zero]
    repeat (go_big_quiet_step ((go_at_call 35; exact Calls.quiet_of_same (adapt_any o1 _ _ (by omega) (by simp)))))
    refine wpQuiet_nil ?_
    intro _ hw'
    obtain ⟨nq1, rfl⟩ := hw'
    go_wp2
    go_ret
    refine ⟨rfl, g', ?_, ?_, hg1⟩
    · rw [Hput.out]
      refine ⟨_, _, (hb1.drewN nq1).far (p := ⟨h, ctx, none⟩) hhb.symm _, (hl1.drewN nq1).far (p := ⟨h, ctx, none⟩) hgh1 _, ?_⟩
      simp only
      rw [List.map_set]
      exact (hq1.drewN nq1).set_ (i := ctx) (by simpa using hctx) _
    · refine Chg.setCell (Chg.drewN ?_ _) (by simp) _
      exact ((Chg.refl _ _).drewN nq).trans hch1 (by simp)

/-- What a coder may not be told to put: nothing turns. -/
theorem put_bad (w : World) (b g h : Nat) (c : Cod) (ctx bit : Int) (hc : IsCod 61 w b g h c) (hbad : ctx < 0 ∨ (c.odds.length : Int) ≤ ctx ∨ (bit ≠ 0 ∧ bit ≠ 1)) :
    Calls Try.prog 13 #[.pointer (some ⟨b, 0, none⟩), .int .i64 ctx, .int .i64 bit] w fun e w' => e = .returned (.int .i64 1) ∧ w' = w := by
  obtain ⟨vl, vo, hb, hl, ho⟩ := hc.ex
  obtain ⟨capo, rfl, hco, hcom, hcello, hfro⟩ := ho.open_map
  have hc2 := hb.cell 2
  simp at hc2
  clear hcello hfro hb hl ho hc
  by_cases h1 : ctx < 0
  · have t1 : decide (ctx < 0) = true := by simpa using h1
    clear hbad
    go_enter Try.func13, Try.ntmps13
    go_wp2
    go_ret
    exact ⟨rfl, rfl⟩
  · have t1 : decide (ctx < 0) = false := by simpa using h1
    by_cases h2 : (c.odds.length : Int) ≤ ctx
    · have t2 : decide ((c.odds.length : Int) ≤ ctx) = true := by simpa using h2
      clear hbad
      go_enter Try.func13, Try.ntmps13
      go_wp2
      go_ret
      exact ⟨rfl, rfl⟩
    · have t2 : decide ((c.odds.length : Int) ≤ ctx) = false := by simpa using h2
      have t3 : (bit != 0) = true := by rw [bne_iff_ne]; omega
      have t4 : (bit != 1) = true := by rw [bne_iff_ne]; omega
      clear hbad
      go_enter Try.func13, Try.ntmps13
      go_wp2
      go_ret
      exact ⟨rfl, rfl⟩

theorem odds_in (w : World) (b g h : Nat) (c : Cod) (ctx : Nat) (hc : IsCod 61 w b g h c) (hctx : ctx < c.odds.length) :
    Calls Try.prog 19 #[.pointer (some ⟨b, 0, none⟩), .int .i64 ctx] w fun e w' => e = .returned (.int .i64 (oddsAt c ctx)) ∧ w' = w := by
  obtain ⟨vl, vo, hb, hl, ho⟩ := hc.ex
  obtain ⟨capo, rfl, hco, hcom, hcello, hfro⟩ := ho.open_map
  have ho1 : w.cell? ⟨h, ctx, none⟩ = some (.int .i64 (oddsAt c ctx : Int)) := hcello ctx _ (cod_oddsAt hctx)
  have hc2 := hb.cell 2
  simp at hc2
  clear hcello hfro hb hl ho hc
  have t1 : decide ((ctx : Int) < 0) = false := by simp
  have t2 : decide (c.odds.length ≤ ctx) = false := by simp; omega
  generalize oddsAt c ctx = o at *
  go_enter Try.func19, Try.ntmps19
  go_wp2
  go_ret
  exact ⟨rfl, rfl⟩
theorem odds_out (w : World) (b g h : Nat) (c : Cod) (ctx : Int) (hc : IsCod 61 w b g h c) (hbad : ctx < 0 ∨ (c.odds.length : Int) ≤ ctx) :
    Calls Try.prog 19 #[.pointer (some ⟨b, 0, none⟩), .int .i64 ctx] w fun e w' => e = .returned (.int .i64 0) ∧ w' = w := by
  obtain ⟨vl, vo, hb, hl, ho⟩ := hc.ex
  obtain ⟨capo, rfl, hco, hcom, hcello, hfro⟩ := ho.open_map
  have hc2 := hb.cell 2
  simp at hc2
  clear hcello hfro hb hl ho hc
  by_cases h1 : ctx < 0
  · have t1 : decide (ctx < 0) = true := by simpa using h1
    clear hbad
    go_enter Try.func19, Try.ntmps19
    go_wp2
    go_ret
    exact ⟨rfl, rfl⟩
  · have t1 : decide (ctx < 0) = false := by simpa using h1
    have t2 : decide ((c.odds.length : Int) ≤ ctx) = true := by simp; omega
    clear hbad
    go_enter Try.func19, Try.ntmps19
    go_wp2
    go_ret
    exact ⟨rfl, rfl⟩
end Go.Proofs.Ytofdgpgleghllaa
