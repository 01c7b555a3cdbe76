/- Two coders beside each other, the coder and the reference's: each step leaves them alike. -/
import Derived.Test.YtofdgpgleghllaaArRef6
import Derived.Test.YtofdgpgleghllaaArBack
namespace Go.Proofs.Ytofdgpgleghllaa
set_option linter.unusedSimpArgs false
set_option linter.unusedVariables false
open Go.RowKit

def errv (c : Cod) (a : ActV) : Int := if okAct c.odds.length a = true then 0 else 1
def stepc (c : Cod) (a : ActV) : Cod := if okAct c.odds.length a = true then applyA c a else c
theorem stepc_ok {c : Cod} {a : ActV} (h : CodOk c) (hw : WfA a) : CodOk (stepc c a) ∧ (stepc c a).odds.length = c.odds.length ∧ (stepc c a).low.length ≤ c.low.length + 65 := by
  unfold stepc
  split
  · rename_i h1
    obtain ⟨h2, _, h3, h4, _⟩ := applyA_ok h hw h1
    exact ⟨h2, h3, h4⟩
  · exact ⟨h, rfl, by omega⟩
def oddsI (c : Cod) (ctx : Int) : Int := if 0 ≤ ctx ∧ ctx < c.odds.length then (oddsAt c ctx.toNat : Int) else 0

structure Two (w0 w : World) (b h b2 h2 : Nat) (c c2 : Cod) : Prop where
  ex : ∃ g g2, IsCod 61 w b g h c ∧ IsCod 63 w b2 g2 h2 c2 ∧ g ≠ g2 ∧ h ≠ h2 ∧ Chg [] w0 w ∧
    w0.heap.size ≤ b ∧ w0.heap.size ≤ g ∧ w0.heap.size ≤ h ∧ w0.heap.size ≤ b2 ∧ w0.heap.size ≤ g2 ∧ w0.heap.size ≤ h2

theorem blk_ne {w : World} {x y : Nat} {t u : TypeId} {cs ds : Array Value} (h1 : Blk w x t cs) (h2 : Blk w y u ds) (hne : t ≠ u) : x ≠ y := by
  intro e
  subst e
  have := h1.symm.trans h2
  simp at this
  exact hne this.2
theorem Two.same {w0 w w' : World} {b h b2 h2 : Nat} {c c2 : Cod} (t : Two w0 w b h b2 h2 c c2) (hc : Chg [] w w') : Two w0 w' b h b2 h2 c c2 := by
  obtain ⟨g, g2, i1, i2, n1, n2, ch, lo⟩ := t.ex
  exact ⟨g, g2, i1.same hc, i2.same hc, n1, n2, ch.trans_same hc, lo⟩

section
variable {w0 w : World} {b h b2 h2 B : Nat} {c c2 : Cod} {cs : Array Value} {a : ActV}
theorem two_step1 {g g2 : Nat} (i1 : IsCod 61 w b g h c) (i2 : IsCod 63 w b2 g2 h2 c2) (n1 : g ≠ g2) (n2 : h ≠ h2) (ch : Chg [] w0 w)
    (lo : w0.heap.size ≤ b ∧ w0.heap.size ≤ g ∧ w0.heap.size ≤ h ∧ w0.heap.size ≤ b2 ∧ w0.heap.size ≤ g2 ∧ w0.heap.size ≤ h2) (hB : Blk w B 33 cs) {e : Ending} {w' : World} (hs : StepPost w b g h c a e w') :
    e = .returned (.int .i64 (errv c a)) ∧ Two w0 w' b h b2 h2 (stepc c a) c2 ∧ Blk w' B 33 cs := by
  rcases hs with ⟨hv, rfl, g', hc', ch', hg'⟩ | ⟨hv, rfl, rfl⟩
  · obtain ⟨_, _, hb, hl, ho⟩ := i1.ex
    obtain ⟨_, _, kb, kl, ko⟩ := i2.ex
    have l2 := i2.lt
    have sz := ch.size
    refine ⟨by simp [errv, hv], ⟨g', g2, by simpa [stepc, hv] using hc', i2.chg ch' ?_ ?_ ?_, ?_, n2, ch.trans ch' ?_, lo.1, ?_, lo.2.2⟩, hB.chg ch' ?_⟩
    · simp; exact ⟨blk_ne kb hb (by decide), (hl.ne_ kb (by decide)).symm, (ho.ne_ kb (by decide)).symm⟩
    · simp; exact ⟨kl.ne_ hb (by decide), n1.symm, kl.ne_row ho (by decide)⟩
    · simp; exact ⟨ko.ne_ hb (by decide), (hl.ne_row ko (by decide)).symm, n2.symm⟩
    · rcases hg' with rfl | hg'
      · exact n1
      · omega
    · intro x hx
      simp at hx
      right
      omega
    · omega
    · simp; exact ⟨blk_ne hB hb (by decide), (hl.ne_ hB (by decide)).symm, (ho.ne_ hB (by decide)).symm⟩
  · exact ⟨by simp [errv, hv], ⟨g, g2, by simpa [stepc, hv] using i1, i2, n1, n2, ch, lo⟩, hB⟩
theorem two_step2 {g g2 : Nat} (i1 : IsCod 61 w b g h c) (i2 : IsCod 63 w b2 g2 h2 c2) (n1 : g ≠ g2) (n2 : h ≠ h2) (ch : Chg [] w0 w)
    (lo : w0.heap.size ≤ b ∧ w0.heap.size ≤ g ∧ w0.heap.size ≤ h ∧ w0.heap.size ≤ b2 ∧ w0.heap.size ≤ g2 ∧ w0.heap.size ≤ h2) (hB : Blk w B 33 cs) {e : Ending} {w' : World} (hs : StepPostR w b2 g2 h2 c2 a e w') :
    e = .returned (.int .i64 (errv c2 a)) ∧ Two w0 w' b h b2 h2 c (stepc c2 a) ∧ Blk w' B 33 cs := by
  rcases hs with ⟨hv, rfl, g', hc', ch', hg'⟩ | ⟨hv, rfl, rfl⟩
  · obtain ⟨_, _, hb, hl, ho⟩ := i1.ex
    obtain ⟨_, _, kb, kl, ko⟩ := i2.ex
    have l1 := i1.lt
    have sz := ch.size
    refine ⟨by simp [errv, hv], ⟨g, g', i1.chg ch' ?_ ?_ ?_, by simpa [stepc, hv] using hc', ?_, n2, ch.trans ch' ?_, lo.1, lo.2.1, lo.2.2.1, lo.2.2.2.1, ?_, lo.2.2.2.2.2⟩, hB.chg ch' ?_⟩
    · simp; exact ⟨blk_ne hb kb (by decide), (kl.ne_ hb (by decide)).symm, (ko.ne_ hb (by decide)).symm⟩
    · simp; exact ⟨hl.ne_ kb (by decide), n1, hl.ne_row ko (by decide)⟩
    · simp; exact ⟨ho.ne_ kb (by decide), (kl.ne_row ho (by decide)).symm, n2⟩
    · rcases hg' with rfl | hg'
      · exact n1
      · omega
    · intro x hx
      simp at hx
      right
      omega
    · omega
    · simp; exact ⟨blk_ne hB kb (by decide), (kl.ne_ hB (by decide)).symm, (ko.ne_ hB (by decide)).symm⟩
  · exact ⟨by simp [errv, hv], ⟨g, g2, i1, by simpa [stepc, hv] using i2, n1, n2, ch, lo⟩, hB⟩

def TwoPost (w0 : World) (b h b2 h2 B : Nat) (cs : Array Value) (c c2 : Cod) (v : Int) (e : Ending) (w' : World) : Prop :=
  e = .returned (.int .i64 v) ∧ Two w0 w' b h b2 h2 c c2 ∧ Blk w' B 33 cs

theorem two_put1 (t : Two w0 w b h b2 h2 c c2) (hB : Blk w B 33 cs) (hok : CodOk c) (hlen : c.low.length ≤ 100000) (q : a.what = 0) :
    Calls Try.prog 13 #[.pointer (some ⟨b, 0, none⟩), .int .i64 a.ctx, .int .i64 a.bit] w (TwoPost w0 b h b2 h2 B cs (stepc c a) c2 (errv c a)) := by
  obtain ⟨g, g2, i1, i2, n1, n2, ch, lo⟩ := t.ex
  exact (step_put w b g h c a i1 hok (by omega) q).mono fun e w' hs => two_step1 i1 i2 n1 n2 ch lo hB hs
theorem two_put2 (t : Two w0 w b h b2 h2 c c2) (hB : Blk w B 33 cs) (hok : CodOk c2) (hlen : c2.low.length ≤ 100000) (q : a.what = 0) :
    Calls Try.prog 14 #[.pointer (some ⟨b2, 0, none⟩), .int .i64 a.ctx, .int .i64 a.bit] w (TwoPost w0 b h b2 h2 B cs c (stepc c2 a) (errv c2 a)) := by
  obtain ⟨g, g2, i1, i2, n1, n2, ch, lo⟩ := t.ex
  exact (step_put_r w b2 g2 h2 c2 a i2 hok (by omega) q).mono fun e w' hs => two_step2 i1 i2 n1 n2 ch lo hB hs
theorem two_raw1 (t : Two w0 w b h b2 h2 c c2) (hB : Blk w B 33 cs) (hok : CodOk c) (hlen : c.low.length ≤ 100000) (hw : WfA a) (q : a.what = 1) :
    Calls Try.prog 15 #[.pointer (some ⟨b, 0, none⟩), .int .u64 a.v, .int .i64 a.n] w (TwoPost w0 b h b2 h2 B cs (stepc c a) c2 (errv c a)) := by
  obtain ⟨g, g2, i1, i2, n1, n2, ch, lo⟩ := t.ex
  exact (step_raw w b g h c a i1 hok (by omega) hw q).mono fun e w' hs => two_step1 i1 i2 n1 n2 ch lo hB hs
theorem two_raw2 (t : Two w0 w b h b2 h2 c c2) (hB : Blk w B 33 cs) (hok : CodOk c2) (hlen : c2.low.length ≤ 100000) (hw : WfA a) (q : a.what = 1) :
    Calls Try.prog 16 #[.pointer (some ⟨b2, 0, none⟩), .int .u64 a.v, .int .i64 a.n] w (TwoPost w0 b h b2 h2 B cs c (stepc c2 a) (errv c2 a)) := by
  obtain ⟨g, g2, i1, i2, n1, n2, ch, lo⟩ := t.ex
  exact (step_raw_r w b2 g2 h2 c2 a i2 hok (by omega) hw q).mono fun e w' hs => two_step2 i1 i2 n1 n2 ch lo hB hs
theorem two_num1 (t : Two w0 w b h b2 h2 c c2) (hB : Blk w B 33 cs) (hok : CodOk c) (hlen : c.low.length ≤ 100000) (hw : WfA a) (q : ¬ a.what = 0) (q1 : ¬ a.what = 1) :
    Calls Try.prog 17 #[.pointer (some ⟨b, 0, none⟩), .int .i64 a.ctx, .int .u64 a.v] w (TwoPost w0 b h b2 h2 B cs (stepc c a) c2 (errv c a)) := by
  obtain ⟨g, g2, i1, i2, n1, n2, ch, lo⟩ := t.ex
  exact (step_num w b g h c a i1 hok (by omega) hw q q1).mono fun e w' hs => two_step1 i1 i2 n1 n2 ch lo hB hs
theorem two_num2 (t : Two w0 w b h b2 h2 c c2) (hB : Blk w B 33 cs) (hok : CodOk c2) (hlen : c2.low.length ≤ 100000) (hw : WfA a) (q : ¬ a.what = 0) (q1 : ¬ a.what = 1) :
    Calls Try.prog 18 #[.pointer (some ⟨b2, 0, none⟩), .int .i64 a.ctx, .int .u64 a.v] w (TwoPost w0 b h b2 h2 B cs c (stepc c2 a) (errv c2 a)) := by
  obtain ⟨g, g2, i1, i2, n1, n2, ch, lo⟩ := t.ex
  exact (step_num_r w b2 g2 h2 c2 a i2 hok (by omega) hw q q1).mono fun e w' hs => two_step2 i1 i2 n1 n2 ch lo hB hs
theorem two_odds1 (t : Two w0 w b h b2 h2 c c2) (ctx : Int) :
    Calls Try.prog 19 #[.pointer (some ⟨b, 0, none⟩), .int .i64 ctx] w fun e w' => e = .returned (.int .i64 (oddsI c ctx)) ∧ w' = w := by
  obtain ⟨g, g2, i1, i2, n1, n2, ch, lo⟩ := t.ex
  unfold oddsI
  split
  · rename_i hx
    obtain ⟨k, rfl⟩ := Int.eq_ofNat_of_zero_le hx.1
    exact odds_in w b g h c k i1 (by omega)
  · exact odds_out w b g h c ctx i1 (by omega)
theorem two_odds2 (t : Two w0 w b h b2 h2 c c2) (ctx : Int) :
    Calls Try.prog 20 #[.pointer (some ⟨b2, 0, none⟩), .int .i64 ctx] w fun e w' => e = .returned (.int .i64 (oddsI c2 ctx)) ∧ w' = w := by
  obtain ⟨g, g2, i1, i2, n1, n2, ch, lo⟩ := t.ex
  unfold oddsI
  split
  · rename_i hx
    obtain ⟨k, rfl⟩ := Int.eq_ofNat_of_zero_le hx.1
    exact odds_in_r w b2 g2 h2 c2 k i2 (by omega)
  · exact odds_out_r w b2 g2 h2 c2 ctx i2 (by omega)
end
end Go.Proofs.Ytofdgpgleghllaa
