/- Steps that a coder is told: as plain data, in memory; the law's own helpers coded() and asked(). -/
import Derived.Test.YtofdgpgleghllaaArKnown
import Derived.Deep.RegionHeld3
namespace Go.Proofs.Ytofdgpgleghllaa
set_option linter.unusedSimpArgs false
set_option linter.unusedVariables false
open Go.RowKit

/-- A step. -/
structure ActV where
  what : Int
  ctx : Int
  bit : Int
  n : Int
  v : Int
def actCells (a : ActV) : List Value := [.int .i64 a.what, .int .i64 a.ctx, .int .i64 a.bit, .int .i64 a.n, .int .u64 a.v]
theorem actCells_len (a : ActV) : (actCells a).length = 5 := rfl
def okAct (N : Nat) (a : ActV) : Bool :=
  if a.what = 0 then decide (0 ≤ a.ctx ∧ a.ctx < N ∧ (a.bit = 0 ∨ a.bit = 1))
  else if a.what = 1 then decide (0 ≤ a.n ∧ a.n ≤ 32 ∧ a.v / 2 ^ a.n.toNat = 0)
  else decide (a.v < 4294967296 ∧ 0 ≤ a.ctx ∧ a.ctx ≤ (N : Int) - 33)
def applyA (c : Cod) (a : ActV) : Cod :=
  if a.what = 0 then putL c a.ctx.toNat a.bit.toNat else if a.what = 1 then rawL c a.v.toNat a.n.toNat else numL c a.ctx.toNat a.v.toNat
def runA (c : Cod) (l : List ActV) : Cod := l.foldl applyA c
/-- v is a uint64. -/
def WfA (a : ActV) : Prop := 0 ≤ a.v ∧ a.v ≤ 18446744073709551615
/-- Steps in memory, which are only read. -/
structure Acts (w : World) (A : Option Addr) (l : List ActV) : Prop where
  ex : 0 < l.length → ∃ b o, A = some ⟨b, o, none⟩ ∧ b < w.heap.size ∧ ∀ (i : Nat) (a : ActV), l[i]? = some a → ∀ (j : Nat) (u : Value), (actCells a)[j]? = some u → w.cell? ⟨b, o + i * 5 + j, none⟩ = some u
  wf : ∀ a ∈ l, WfA a

theorem raw_v {v n : Int} (h0 : 0 ≤ v) (hn : 0 ≤ n) (h : v / 2 ^ n.toNat = 0) : v.toNat < 2 ^ n.toNat := by
  obtain ⟨m, rfl⟩ := Int.eq_ofNat_of_zero_le h0
  rw [Int.toNat_natCast]
  have e : ((m : Int) / 2 ^ n.toNat) = ((m / 2 ^ n.toNat : Nat) : Int) := by simp
  rw [e] at h
  have h2 : m / 2 ^ n.toNat = 0 := by omega
  have h3 : 0 < 2 ^ n.toNat := Nat.pow_pos (by decide)
  exact Nat.lt_of_div_eq_zero h3 h2
theorem pow_le32 {n : Nat} (h : n ≤ 32) : 2 ^ n ≤ 4294967296 := by
  have := Nat.pow_le_pow_right (n := 2) (by decide) h
  simpa using this
theorem applyA_ok {c : Cod} (h : CodOk c) {a : ActV} (hw : WfA a) (ha : okAct c.odds.length a = true) : CodOk (applyA c a) ∧ (CodFit c → CodFit (applyA c a)) ∧ (applyA c a).odds.length = c.odds.length ∧
    (applyA c a).low.length ≤ c.low.length + 65 ∧ ∀ data : List Nat, (∀ d ∈ data, d < 256) → CodFit c → Fut data (applyA c a) → Fut data c := by
  unfold okAct at ha
  unfold applyA
  by_cases h0 : a.what = 0
  · rw [if_pos h0] at ha ⊢
    simp only [decide_eq_true_eq] at ha
    obtain ⟨a1, a2, a3⟩ := ha
    have hc : a.ctx.toNat < c.odds.length := by omega
    exact ⟨putL_ok h hc _, fun hf => putL_fit h hf hc _, putL_odds_len _ _ _, by have := putL_len c a.ctx.toNat a.bit.toNat; omega, fun data hd hf hF => fut_put h hd hf hc _ hF⟩
  · rw [if_neg h0] at ha ⊢
    by_cases h1 : a.what = 1
    · rw [if_pos h1] at ha ⊢
      simp only [decide_eq_true_eq] at ha
      obtain ⟨a1, a2, a3⟩ := ha
      exact ⟨rawL_ok _ _ h, fun hf => rawL_fit _ _ h hf, by rw [rawL_odds], by have := rawL_len a.v.toNat a.n.toNat c; omega, fun data hd hf hF => fut_raw hd _ _ h hf hF⟩
    · rw [if_neg h1] at ha ⊢
      simp only [decide_eq_true_eq] at ha
      obtain ⟨a1, a2, a3⟩ := ha
      have hv : a.v.toNat < 4294967296 := by have := hw.1; omega
      have hc : a.ctx.toNat + 33 ≤ c.odds.length := by omega
      exact ⟨numL_ok h hv hc, fun hf => numL_fit h hf hv hc, numL_odds_len _ _ _, (numL_len c a.ctx.toNat hv).2, fun data hd hf hF => fut_num hd h hf hv hc hF⟩
theorem runA_snoc (c : Cod) (l : List ActV) (a : ActV) : runA c (l ++ [a]) = applyA (runA c l) a := by simp [runA]
theorem runA_ok (l : List ActV) : ∀ {c : Cod}, CodOk c → CodFit c → (∀ a ∈ l, WfA a ∧ okAct c.odds.length a = true) →
    CodOk (runA c l) ∧ CodFit (runA c l) ∧ (runA c l).odds.length = c.odds.length ∧ (runA c l).low.length ≤ c.low.length + 65 * l.length := by
  induction l with
  | nil => intro c h hf _; exact ⟨h, hf, rfl, by simp [runA]⟩
  | cons a l ih =>
    intro c h hf hl
    obtain ⟨hw, ha⟩ := hl a (by simp)
    obtain ⟨h1, h2, h3, h4, h5⟩ := applyA_ok h hw ha
    obtain ⟨k1, k2, k3, k4⟩ := ih h1 (h2 hf) fun x hx => by rw [h3]; exact hl x (by simp [hx])
    exact ⟨k1, k2, k3.trans h3, by rw [List.length_cons]; show (runA (applyA c a) l).low.length ≤ _; omega⟩
theorem fut_run (l : List ActV) {data : List Nat} (hd : ∀ d ∈ data, d < 256) : ∀ {c : Cod}, CodOk c → CodFit c → (∀ a ∈ l, WfA a ∧ okAct c.odds.length a = true) → Fut data (runA c l) → Fut data c := by
  induction l with
  | nil => intro c _ _ _ h; exact h
  | cons a l ih =>
    intro c h hf hl hF
    obtain ⟨hw, ha⟩ := hl a (by simp)
    obtain ⟨h1, h2, h3, h4, h5⟩ := applyA_ok h hw ha
    exact h5 data hd hf (ih h1 (h2 hf) (fun x hx => by rw [h3]; exact hl x (by simp [hx])) hF)

theorem act_el : Elem Try.prog 22 33 (.agg #[.int .i64 0, .int .i64 0, .int .i64 0, .int .i64 0, .int .u64 0]) 5 40 := .mk' Try.underlying22 (by kernel_rfl)

/-- What a coder does with a step that it may take, and with another. -/
def StepPost (W : World) (b g h : Nat) (c : Cod) (a : ActV) (e : Ending) (w' : World) : Prop :=
  (okAct c.odds.length a = true ∧ e = .returned (.int .i64 0) ∧ ∃ g', IsCod 61 w' b g' h (applyA c a) ∧ Chg [b, g, h] W w' ∧ (g' = g ∨ W.heap.size ≤ g')) ∨
  (okAct c.odds.length a = false ∧ e = .returned (.int .i64 1) ∧ w' = W)

theorem step_put (W : World) (b g h : Nat) (c : Cod) (a : ActV) (hc : IsCod 61 W b g h c) (hok : CodOk c) (hlen : c.low.length ≤ 1099511627776) (h0 : a.what = 0) :
    Calls Try.prog 13 #[.pointer (some ⟨b, 0, none⟩), .int .i64 a.ctx, .int .i64 a.bit] W (StepPost W b g h c a) := by
  by_cases hv : okAct c.odds.length a = true
  · have hv' := hv
    unfold okAct at hv
    rw [if_pos h0] at hv
    simp only [decide_eq_true_eq] at hv
    obtain ⟨a1, a2, a3⟩ := hv
    obtain ⟨x, hx⟩ := Int.eq_ofNat_of_zero_le a1
    obtain ⟨y, hy⟩ := Int.eq_ofNat_of_zero_le (show 0 ≤ a.bit by omega)
    have e1 : applyA c a = putL c x y := by unfold applyA; rw [if_pos h0, hx, hy]; rfl
    rw [hx, hy]
    refine (put_ok W b g h c x y hc hok (by omega) (by omega) hlen).mono ?_
    rintro e w' ⟨rfl, g', r⟩
    exact .inl ⟨hv', rfl, g', by rw [e1]; exact r⟩
  · have hv' : okAct c.odds.length a = false := by simpa using hv
    have hbad : a.ctx < 0 ∨ (c.odds.length : Int) ≤ a.ctx ∨ (a.bit ≠ 0 ∧ a.bit ≠ 1) := by
      unfold okAct at hv
      rw [if_pos h0] at hv
      simp only [decide_eq_true_eq] at hv
      omega
    refine (put_bad W b g h c a.ctx a.bit hc hbad).mono ?_
    rintro e w' ⟨rfl, rfl⟩
    exact .inr ⟨hv', rfl, rfl⟩
theorem step_raw (W : World) (b g h : Nat) (c : Cod) (a : ActV) (hc : IsCod 61 W b g h c) (hok : CodOk c) (hlen : c.low.length ≤ 549755813888) (hw : WfA a) (h1 : a.what = 1) :
    Calls Try.prog 15 #[.pointer (some ⟨b, 0, none⟩), .int .u64 a.v, .int .i64 a.n] W (StepPost W b g h c a) := by
  have h0 : ¬ a.what = 0 := by omega
  obtain ⟨w0, w1⟩ := hw
  by_cases hv : okAct c.odds.length a = true
  · have hv' := hv
    unfold okAct at hv
    rw [if_neg h0, if_pos h1] at hv
    simp only [decide_eq_true_eq] at hv
    obtain ⟨a1, a2, a3⟩ := hv
    have hlt := raw_v w0 a1 a3
    obtain ⟨x, hx⟩ := Int.eq_ofNat_of_zero_le w0
    obtain ⟨y, hy⟩ := Int.eq_ofNat_of_zero_le a1
    have e1 : applyA c a = rawL c x y := by unfold applyA; rw [if_neg h0, if_pos h1, hx, hy]; rfl
    rw [hx, hy, Int.toNat_natCast, Int.toNat_natCast] at hlt
    rw [hx, hy]
    refine (raw_ok W b g h c x y hc hok (by omega) hlt (by omega) hlen).mono ?_
    rintro e w' ⟨rfl, g', r⟩
    exact .inl ⟨hv', rfl, g', by rw [e1]; exact r⟩
  · have hv' : okAct c.odds.length a = false := by simpa using hv
    have hbad : a.n < 0 ∨ 32 < a.n ∨ a.v / 2 ^ a.n.toNat ≠ 0 := by
      unfold okAct at hv
      rw [if_neg h0, if_pos h1] at hv
      simp only [decide_eq_true_eq] at hv
      generalize a.v / 2 ^ a.n.toNat = q at *
      omega
    refine (raw_bad W _ a.v a.n w0 w1 hbad).mono ?_
    rintro e w' ⟨rfl, rfl⟩
    exact .inr ⟨hv', rfl, rfl⟩
theorem step_num (W : World) (b g h : Nat) (c : Cod) (a : ActV) (hc : IsCod 61 W b g h c) (hok : CodOk c) (hlen : c.low.length ≤ 274877906944) (hw : WfA a) (h0 : ¬ a.what = 0) (h1 : ¬ a.what = 1) :
    Calls Try.prog 17 #[.pointer (some ⟨b, 0, none⟩), .int .i64 a.ctx, .int .u64 a.v] W (StepPost W b g h c a) := by
  obtain ⟨w0, w1⟩ := hw
  by_cases hv : okAct c.odds.length a = true
  · have hv' := hv
    unfold okAct at hv
    rw [if_neg h0, if_neg h1] at hv
    simp only [decide_eq_true_eq] at hv
    obtain ⟨a1, a2, a3⟩ := hv
    obtain ⟨x, hx⟩ := Int.eq_ofNat_of_zero_le w0
    obtain ⟨y, hy⟩ := Int.eq_ofNat_of_zero_le a2
    have e1 : applyA c a = numL c y x := by unfold applyA; rw [if_neg h0, if_neg h1, hx, hy]; rfl
    rw [hx, hy]
    refine (num_ok W b g h c y x hc hok (by omega) (by omega) hlen).mono ?_
    rintro e w' ⟨rfl, g', r⟩
    exact .inl ⟨hv', rfl, g', by rw [e1]; exact r⟩
  · have hv' : okAct c.odds.length a = false := by simpa using hv
    have hbad : 4294967296 ≤ a.v ∨ a.ctx < 0 ∨ (c.odds.length : Int) - 33 < a.ctx := by
      unfold okAct at hv
      rw [if_neg h0, if_neg h1] at hv
      simp only [decide_eq_true_eq] at hv
      omega
    refine (num_bad W b g h c a.ctx a.v hc hbad).mono ?_
    rintro e w' ⟨rfl, rfl⟩
    exact .inr ⟨hv', rfl, rfl⟩

theorem own_out {v : Value} {x : Nat} (h : v.ownBlock ≠ some x) : x ∉ v.ownBlock.toList := by
  intro hx
  exact h (by simpa using hx)
section
variable {w : World} {v : Value} {n b g h : Nat} {xs : List Value} {c : Cod}
theorem own_ne_c (ho : w.ownsRow 0 33 5 v n xs) (hc : IsCod 61 w b g h c) : v.ownBlock ≠ some b := by
  obtain ⟨_, _, h1, h2, h3⟩ := hc.ex
  exact own_ne ho h1 (by decide)
theorem own_ne_g (ho : w.ownsRow 0 33 5 v n xs) (hc : IsCod 61 w b g h c) : v.ownBlock ≠ some g := by
  obtain ⟨_, _, h1, h2, h3⟩ := hc.ex
  exact own_ne_row ho h2 (by decide)
theorem own_ne_h (ho : w.ownsRow 0 33 5 v n xs) (hc : IsCod 61 w b g h c) : v.ownBlock ≠ some h := by
  obtain ⟨_, _, h1, h2, h3⟩ := hc.ex
  exact own_ne_row ho h3 (by decide)
end

/-- What coded() leaves: the coder, and the steps that it was told. -/
def CodedPost (w : World) (N : Nat) (l : List ActV) (e : Ending) (w' : World) : Prop :=
  ∃ b g h vd, e = .returned (.tuple #[.pointer (some ⟨b, 0, none⟩), vd]) ∧ IsCod 61 w' b g h (runA (newCod N) (l.filter (okAct N))) ∧
    w'.ownsRow 0 33 5 vd (l.filter (okAct N)).length ((l.filter (okAct N)).flatMap actCells) ∧ Chg [] w w' ∧ w.heap.size ≤ b ∧ w.heap.size ≤ g ∧ w.heap.size ≤ h ∧ ∀ k, vd.ownBlock = some k → w.heap.size ≤ k

set_option maxRecDepth 100000 in
set_option maxHeartbeats 4000000 in
theorem coded_ok (w : World) (N : Nat) (A : Option Addr) (cap : Nat) (l : List ActV) (h1 : 1 ≤ N) (hN : N ≤ 4096) (hl : Acts w A l) (hlen : l.length ≤ 1000) :
    Calls Try.prog 24 #[.int .i64 N, .slice A l.length cap] w (CodedPost w N l) := by
  go_enter Try.func24, Try.ntmps24
  go_wp2_with fail
  refine (newCoder_ok N w h1 hN).mono ?_
  rintro e w1 ⟨b, g, h, rfl, hc1, ch1, hb1, hg1, hh1⟩
  go_wp2_with fail
  go_loopg [8, 9] l.length (fun k vd i wr => ∃ (g' : Nat) (dn : List ActV), k ≤ l.length ∧ i = .int .i64 ((l.length - k : Nat) : Int) ∧ Hid (dn = (l.take (l.length - k)).filter (okAct N)) ∧ dn.length ≤ l.length - k ∧
      IsCod 61 wr b g' h (runA (newCod N) dn) ∧ wr.ownsRow 0 33 5 vd dn.length (dn.flatMap actCells) ∧ Chg [] w wr ∧ w.heap.size ≤ g' ∧ ∀ x, vd.ownBlock = some x → w.heap.size ≤ x)
  case atStart => exact ⟨g, [], Nat.le_refl _, by simp, hid (by simp), by simp, hc1, World.ownsRow_nil _ _ _ _, ch1, hg1, by simp [Value.ownBlock]⟩
  case round =>
    obtain ⟨g', dn, hk, rfl, Hdn, hdl, hcr, hown, hch, hg', hvo⟩ := hrel
    rcases gk with _ | k
    · have t1 : decide (((l.length - 0 : Nat) : Int) < l.length) = false := by simp
      have HVO := hid hvo
      clear hvo
      go_wp2_with fail
      go_ret2
      have e1 : dn = l.filter (okAct N) := by rw [Hdn.out]; simp
      rw [e1] at hcr hown
      exact ⟨b, g', h, _, rfl, hcr, hown, hch, hb1, hg', hh1, HVO.out⟩
    · obtain ⟨m, hm⟩ : ∃ m, m = l.length - (k + 1) := ⟨_, rfl⟩
      rw [← hm] at hdl Hdn ⊢
      have hm1 : m < l.length := by omega
      have hm2 : l.length - k = m + 1 := by omega
      have HM := hid hm2
      have HVO := hid hvo
      clear hm hm2 hvo
      obtain ⟨a, ha⟩ : ∃ a, l[m]? = some a := ⟨_, List.getElem?_eq_getElem hm1⟩
      obtain ⟨b0, o0, rfl, hb0, hcells⟩ := hl.ex (by omega)
      have hac := hcells m a ha
      have hrd : ∀ (j : Nat) (u : Value), (actCells a)[j]? = some u → wr.cell? ⟨b0, o0 + m * 5 + j, none⟩ = some u := fun j u hu => (World.cell?_of_block (w := w) (hch.block b0 hb0 (by simp))).trans (hac j u hu)
      have r0 : wr.cell? ⟨b0, o0 + m * 5, none⟩ = some (.int .i64 a.what) := hrd 0 _ rfl
      have r1 : wr.cell? ⟨b0, o0 + m * 5 + 1, none⟩ = some (.int .i64 a.ctx) := hrd 1 _ rfl
      have r2 : wr.cell? ⟨b0, o0 + m * 5 + 2, none⟩ = some (.int .i64 a.bit) := hrd 2 _ rfl
      have r3 : wr.cell? ⟨b0, o0 + m * 5 + 3, none⟩ = some (.int .i64 a.n) := hrd 3 _ rfl
      have r4 : wr.cell? ⟨b0, o0 + m * 5 + 4, none⟩ = some (.int .u64 a.v) := hrd 4 _ rfl
      have HA := hid ha
      have HC := hid hcells
      have hwf := hl.wf a (List.mem_of_getElem? ha)
      clear ha hcells hac hrd
      obtain ⟨hokr, hfr, hlnr, hllr⟩ := runA_ok dn (newCod_ok N) (newCod_fit N) (by
        intro x hx
        rw [Hdn.out] at hx
        have hx1 := List.mem_filter.1 hx
        exact ⟨hl.wf x (List.mem_of_mem_take hx1.1), by simpa [newCod] using hx1.2⟩)
      have hlow : (runA (newCod N) dn).low.length ≤ 100000 := by
        have : (newCod N).low.length = 4 := rfl
        omega
      have Hlen : Hid ((runA (newCod N) dn).odds.length = N) := hid (by rw [hlnr]; simp [newCod])
      clear hlnr hllr
      obtain ⟨vl, vo, hbl, hlr, hor⟩ := hcr.ex
      obtain ⟨lt1, lt2, lt3⟩ := hcr.lt
      go_wp2_with fail
      · have q0 : a.what = 0 := eq_of_beq (by assumption)
        refine (step_put _ b g' h _ a (hcr.same ((Chg.refl _ _).alloc _)) hokr (by omega) q0).mono ?_
        clear q0
        rintro e w2 hq
        rcases hq with ⟨hv, rfl, g2, hc2, ch2, hg2⟩ | ⟨hv, rfl, hw2⟩
        · have hab : Blk w2 wr.heap.size 33 #[.int .i64 a.what, .int .i64 a.ctx, .int .i64 a.bit, .int .i64 a.n, .int .u64 a.v] := (Blk.new wr _ _).chg ch2 (by simp; omega)
          have y0 := hab.cell 0
          have y1 := hab.cell 1
          have y2 := hab.cell 2
          have y3 := hab.cell 3
          have y4 := hab.cell 4
          simp at y0 y1 y2 y3 y4
          have hvb := own_ne hown hbl (by decide)
          have hvg := own_ne_row hown hlr (by decide)
          have hvh := own_ne_row hown hor (by decide)
          have hown2 := own_chg (hown.alloc (.cells #[.int .i64 a.what, .int .i64 a.ctx, .int .i64 a.bit, .int .i64 a.n, .int .u64 a.v] 33)) ch2 (by
            intro x hx
            rw [hx] at hvb hvg hvh
            simp at hvb hvg hvh ⊢
            exact ⟨hvb, hvg, hvh⟩)
          have hch2 : Chg [] w w2 := (hch.alloc _).trans ch2 (by
            intro x hx
            simp at hx
            right
            omega)
          have hsz := hch.size
          have hg2' : w.heap.size ≤ g2 := by
            rcases hg2 with rfl | hg2
            · exact hg'
            · simp at hg2; omega
          clear hbl hlr hor hown ch2
          go_wp2_with (at_builtin; refine wpList_append_sl rfl rfl act_el rfl (by decide) rfl (hown2.alloc _) (news := actCells a) rfl ?c1 ?c2 ?c3 ?c4 ?c5 ?c6 ?_)
          case c1 => rfl
          case c2 => decide
          case c3 =>
            intro j u hu
            have e : (⟨w2.heap.size, 0, none⟩ : Addr).add j = ⟨w2.heap.size, j, none⟩ := by unfold Addr.add; split <;> simp_all
            rw [e]
            match j, hu with
            | 0, hu => simp [actCells] at hu; subst hu; simp [go_sem]
            | 1, hu => simp [actCells] at hu; subst hu; simp [go_sem]
            | 2, hu => simp [actCells] at hu; subst hu; simp [go_sem]
            | 3, hu => simp [actCells] at hu; subst hu; simp [go_sem]
            | 4, hu => simp [actCells] at hu; subst hu; simp [go_sem]
          case c4 => intro u hu; simp [actCells] at hu; rcases hu with rfl | rfl | rfl | rfl | rfl <;> rfl
          case c5 => omega
          case c6 => omega
          intro g3 cap3 w3 q1 q2 q3
          have hcb := ((hc2.same ((Chg.refl _ _).alloc _)).chg q2 (own_out (own_ne_c hown2 hc2)) (own_out (own_ne_g hown2 hc2)) (own_out (own_ne_h hown2 hc2)))
          have hsz2 := hch2.size
          go_wp2_with fail
          go_roundg k
          case measure => omega
          case rel =>
            rw [HM.out]
            refine ⟨g2, dn ++ [a], by omega, by go_num, ?_, by simp; omega, ?_, ?_, ((hch2.alloc _).trans q2 ?_), hg2', ?_⟩
            · refine hid ?_
              rw [List.take_add_one, HA.out, List.filter_append, ← Hdn.out]
              rw [Hlen.out] at hv
              simp [hv]
            · rw [runA_snoc]; exact hcb
            · have := q1
              rw [List.length_append, List.length_singleton, List.flatMap_append]
              simpa using this
            · intro x hx
              right
              exact HVO.out x (by simpa using hx)
            · intro x hx
              simp only [Value.ownBlock] at hx
              injection hx with hx
              subst hx
              rcases q3 with q3 | q3
              · exact HVO.out _ q3.symm
              · omega
        · subst hw2
          go_wp2_with fail
          go_roundg k
          case measure => omega
          case rel =>
            rw [HM.out]
            refine ⟨g', dn, by omega, by go_num, ?_, by omega, hcr.same ((Chg.refl _ _).alloc _), hown.alloc _, hch.alloc _, hg', HVO.out⟩
            refine hid ?_
            rw [List.take_add_one, HA.out, List.filter_append, ← Hdn.out]
            rw [Hlen.out] at hv
            simp [hv]
      · have q0 : a.what = 1 := eq_of_beq (by assumption)
        refine (step_raw _ b g' h _ a (hcr.same ((Chg.refl _ _).alloc _)) hokr (by omega) hwf q0).mono ?_
        clear q0
        rintro e w2 hq
        rcases hq with ⟨hv, rfl, g2, hc2, ch2, hg2⟩ | ⟨hv, rfl, hw2⟩
        · have hab : Blk w2 wr.heap.size 33 #[.int .i64 a.what, .int .i64 a.ctx, .int .i64 a.bit, .int .i64 a.n, .int .u64 a.v] := (Blk.new wr _ _).chg ch2 (by simp; omega)
          have y0 := hab.cell 0
          have y1 := hab.cell 1
          have y2 := hab.cell 2
          have y3 := hab.cell 3
          have y4 := hab.cell 4
          simp at y0 y1 y2 y3 y4
          have hvb := own_ne hown hbl (by decide)
          have hvg := own_ne_row hown hlr (by decide)
          have hvh := own_ne_row hown hor (by decide)
          have hown2 := own_chg (hown.alloc (.cells #[.int .i64 a.what, .int .i64 a.ctx, .int .i64 a.bit, .int .i64 a.n, .int .u64 a.v] 33)) ch2 (by
            intro x hx
            rw [hx] at hvb hvg hvh
            simp at hvb hvg hvh ⊢
            exact ⟨hvb, hvg, hvh⟩)
          have hch2 : Chg [] w w2 := (hch.alloc _).trans ch2 (by
            intro x hx
            simp at hx
            right
            omega)
          have hsz := hch.size
          have hg2' : w.heap.size ≤ g2 := by
            rcases hg2 with rfl | hg2
            · exact hg'
            · simp at hg2; omega
          clear hbl hlr hor hown ch2
          go_wp2_with (at_builtin; refine wpList_append_sl rfl rfl act_el rfl (by decide) rfl (hown2.alloc _) (news := actCells a) rfl ?c1 ?c2 ?c3 ?c4 ?c5 ?c6 ?_)
          case c1 => rfl
          case c2 => decide
          case c3 =>
            intro j u hu
            have e : (⟨w2.heap.size, 0, none⟩ : Addr).add j = ⟨w2.heap.size, j, none⟩ := by unfold Addr.add; split <;> simp_all
            rw [e]
            match j, hu with
            | 0, hu => simp [actCells] at hu; subst hu; simp [go_sem]
            | 1, hu => simp [actCells] at hu; subst hu; simp [go_sem]
            | 2, hu => simp [actCells] at hu; subst hu; simp [go_sem]
            | 3, hu => simp [actCells] at hu; subst hu; simp [go_sem]
            | 4, hu => simp [actCells] at hu; subst hu; simp [go_sem]
          case c4 => intro u hu; simp [actCells] at hu; rcases hu with rfl | rfl | rfl | rfl | rfl <;> rfl
          case c5 => omega
          case c6 => omega
          intro g3 cap3 w3 q1 q2 q3
          have hcb := ((hc2.same ((Chg.refl _ _).alloc _)).chg q2 (own_out (own_ne_c hown2 hc2)) (own_out (own_ne_g hown2 hc2)) (own_out (own_ne_h hown2 hc2)))
          have hsz2 := hch2.size
          go_wp2_with fail
          go_roundg k
          case measure => omega
          case rel =>
            rw [HM.out]
            refine ⟨g2, dn ++ [a], by omega, by go_num, ?_, by simp; omega, ?_, ?_, ((hch2.alloc _).trans q2 ?_), hg2', ?_⟩
            · refine hid ?_
              rw [List.take_add_one, HA.out, List.filter_append, ← Hdn.out]
              rw [Hlen.out] at hv
              simp [hv]
            · rw [runA_snoc]; exact hcb
            · have := q1
              rw [List.length_append, List.length_singleton, List.flatMap_append]
              simpa using this
            · intro x hx
              right
              exact HVO.out x (by simpa using hx)
            · intro x hx
              simp only [Value.ownBlock] at hx
              injection hx with hx
              subst hx
              rcases q3 with q3 | q3
              · exact HVO.out _ q3.symm
              · omega
        · subst hw2
          go_wp2_with fail
          go_roundg k
          case measure => omega
          case rel =>
            rw [HM.out]
            refine ⟨g', dn, by omega, by go_num, ?_, by omega, hcr.same ((Chg.refl _ _).alloc _), hown.alloc _, hch.alloc _, hg', HVO.out⟩
            refine hid ?_
            rw [List.take_add_one, HA.out, List.filter_append, ← Hdn.out]
            rw [Hlen.out] at hv
            simp [hv]
      · have q0 : ¬ a.what = 0 := beq_eq_false_iff_ne.1 (by assumption)
        have q1 : ¬ a.what = 1 := beq_eq_false_iff_ne.1 (by assumption)
        refine (step_num _ b g' h _ a (hcr.same ((Chg.refl _ _).alloc _)) hokr (by omega) hwf q0 q1).mono ?_
        clear q0 q1
        rintro e w2 hq
        rcases hq with ⟨hv, rfl, g2, hc2, ch2, hg2⟩ | ⟨hv, rfl, hw2⟩
        · have hab : Blk w2 wr.heap.size 33 #[.int .i64 a.what, .int .i64 a.ctx, .int .i64 a.bit, .int .i64 a.n, .int .u64 a.v] := (Blk.new wr _ _).chg ch2 (by simp; omega)
          have y0 := hab.cell 0
          have y1 := hab.cell 1
          have y2 := hab.cell 2
          have y3 := hab.cell 3
          have y4 := hab.cell 4
          simp at y0 y1 y2 y3 y4
          have hvb := own_ne hown hbl (by decide)
          have hvg := own_ne_row hown hlr (by decide)
          have hvh := own_ne_row hown hor (by decide)
          have hown2 := own_chg (hown.alloc (.cells #[.int .i64 a.what, .int .i64 a.ctx, .int .i64 a.bit, .int .i64 a.n, .int .u64 a.v] 33)) ch2 (by
            intro x hx
            rw [hx] at hvb hvg hvh
            simp at hvb hvg hvh ⊢
            exact ⟨hvb, hvg, hvh⟩)
          have hch2 : Chg [] w w2 := (hch.alloc _).trans ch2 (by
            intro x hx
            simp at hx
            right
            omega)
          have hsz := hch.size
          have hg2' : w.heap.size ≤ g2 := by
            rcases hg2 with rfl | hg2
            · exact hg'
            · simp at hg2; omega
          clear hbl hlr hor hown ch2
          go_wp2_with (at_builtin; refine wpList_append_sl rfl rfl act_el rfl (by decide) rfl (hown2.alloc _) (news := actCells a) rfl ?c1 ?c2 ?c3 ?c4 ?c5 ?c6 ?_)
          case c1 => rfl
          case c2 => decide
          case c3 =>
            intro j u hu
            have e : (⟨w2.heap.size, 0, none⟩ : Addr).add j = ⟨w2.heap.size, j, none⟩ := by unfold Addr.add; split <;> simp_all
            rw [e]
            match j, hu with
            | 0, hu => simp [actCells] at hu; subst hu; simp [go_sem]
            | 1, hu => simp [actCells] at hu; subst hu; simp [go_sem]
            | 2, hu => simp [actCells] at hu; subst hu; simp [go_sem]
            | 3, hu => simp [actCells] at hu; subst hu; simp [go_sem]
            | 4, hu => simp [actCells] at hu; subst hu; simp [go_sem]
          case c4 => intro u hu; simp [actCells] at hu; rcases hu with rfl | rfl | rfl | rfl | rfl <;> rfl
          case c5 => omega
          case c6 => omega
          intro g3 cap3 w3 q1 q2 q3
          have hcb := ((hc2.same ((Chg.refl _ _).alloc _)).chg q2 (own_out (own_ne_c hown2 hc2)) (own_out (own_ne_g hown2 hc2)) (own_out (own_ne_h hown2 hc2)))
          have hsz2 := hch2.size
          go_wp2_with fail
          go_roundg k
          case measure => omega
          case rel =>
            rw [HM.out]
            refine ⟨g2, dn ++ [a], by omega, by go_num, ?_, by simp; omega, ?_, ?_, ((hch2.alloc _).trans q2 ?_), hg2', ?_⟩
            · refine hid ?_
              rw [List.take_add_one, HA.out, List.filter_append, ← Hdn.out]
              rw [Hlen.out] at hv
              simp [hv]
            · rw [runA_snoc]; exact hcb
            · have := q1
              rw [List.length_append, List.length_singleton, List.flatMap_append]
              simpa using this
            · intro x hx
              right
              exact HVO.out x (by simpa using hx)
            · intro x hx
              simp only [Value.ownBlock] at hx
              injection hx with hx
              subst hx
              rcases q3 with q3 | q3
              · exact HVO.out _ q3.symm
              · omega
        · subst hw2
          go_wp2_with fail
          go_roundg k
          case measure => omega
          case rel =>
            rw [HM.out]
            refine ⟨g', dn, by omega, by go_num, ?_, by omega, hcr.same ((Chg.refl _ _).alloc _), hown.alloc _, hch.alloc _, hg', HVO.out⟩
            refine hid ?_
            rw [List.take_add_one, HA.out, List.filter_append, ← Hdn.out]
            rw [Hlen.out] at hv
            simp [hv]
end Go.Proofs.Ytofdgpgleghllaa
