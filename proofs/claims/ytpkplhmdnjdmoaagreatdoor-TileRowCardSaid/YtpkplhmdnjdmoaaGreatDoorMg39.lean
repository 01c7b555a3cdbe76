/- package tile by its contracts, the twelfth part: Cost, Put. -/
import Derived.Test.YtpkplhmdnjdmoaaGreatDoorMg38
import Derived.Test.YtpkplhmdnjdmoaaGreatDoorMg27
set_option linter.unusedVariables false
set_option linter.unusedSimpArgs false
namespace Go.Proofs.YtpkplhmdnjdmoaaGreatDoor
set_option linter.unusedSimpArgs false
set_option linter.unusedVariables false
open Go.RowKit

def costK (k : Nat) (l : List Int) (W H d : Nat) : Nat := (tileBits k l W H d).length
theorem costK_pos (k : Nat) (l : List Int) (W H d : Nat) : 3 ≤ costK k l W H d := by
  unfold costK tileBits
  rw [List.length_append, bitsOf_len]
  omega
/-- The best of the kinds below m, and its cost. -/
def pickK (l : List Int) (W H d : Nat) : Nat → Nat × Nat
  | 0 => (1, 0)
  | m + 1 => if mayB m l W d = true ∧ ((pickK l W H d m).2 = 0 ∨ costK m l W H d < (pickK l W H d m).2) then (m, costK m l W H d) else pickK l W H d m
def bestKind (l : List Int) (W H d : Nat) : Nat := (pickK l W H d 8).1
theorem mayB_one (l : List Int) (W d : Nat) : mayB 1 l W d = true := by unfold mayB; rw [if_neg (by omega), if_pos (by omega)]
theorem pickK_ok (l : List Int) (W H d : Nat) : ∀ m, ((pickK l W H d m).2 = 0 → (pickK l W H d m).1 = 1 ∧ ∀ k, k < m → mayB k l W d = false) ∧ ((pickK l W H d m).2 ≠ 0 → (pickK l W H d m).1 < m ∧ mayB (pickK l W H d m).1 l W d = true ∧ (pickK l W H d m).2 = costK (pickK l W H d m).1 l W H d ∧ ∀ k, k < m → mayB k l W d = true → (pickK l W H d m).2 ≤ costK k l W H d)
  | 0 => ⟨fun _ => ⟨rfl, fun k h => by omega⟩, fun h => absurd rfl h⟩
  | m + 1 => by
    obtain ⟨h1, h2⟩ := pickK_ok l W H d m
    have hp := costK_pos m l W H d
    unfold pickK
    generalize pickK l W H d m = s at *
    by_cases hc : mayB m l W d = true ∧ (s.2 = 0 ∨ costK m l W H d < s.2)
    · rw [if_pos hc]
      refine ⟨fun h => by simp only at h; omega, fun _ => ⟨by simp only; omega, hc.1, rfl, fun k hk hm => ?_⟩⟩
      simp only
      by_cases e : k = m
      · rw [e]; exact Nat.le_refl _
      · rcases hc.2 with h3 | h3
        · have := (h1 h3).2 k (by omega)
          rw [hm] at this
          cases this
        · have := (h2 (by omega)).2.2.2 k (by omega) hm
          omega
    · rw [if_neg hc]
      refine ⟨fun h => ⟨(h1 h).1, fun k hk => ?_⟩, fun h => ?_⟩
      · by_cases e : k = m
        · subst e
          cases hm : mayB k l W d with
          | false => rfl
          | true => exact absurd ⟨hm, .inl h⟩ hc
        · exact (h1 h).2 k (by omega)
      · obtain ⟨k1, k2, k3, k4⟩ := h2 h
        refine ⟨by omega, k2, k3, fun k hk hm => ?_⟩
        by_cases e : k = m
        · subst e
          have : ¬ costK k l W H d < s.2 := fun h5 => hc ⟨hm, .inr h5⟩
          omega
        · exact k4 k (by omega) hm
theorem bestKind_ok (l : List Int) (W H d : Nat) : bestKind l W H d ≤ 7 ∧ mayB (bestKind l W H d) l W d = true ∧ ∀ k, k ≤ 7 → mayB k l W d = true → costK (bestKind l W H d) l W H d ≤ costK k l W H d := by
  obtain ⟨h1, h2⟩ := pickK_ok l W H d 8
  have hne : (pickK l W H d 8).2 ≠ 0 := fun h => by
    have := (h1 h).2 1 (by omega)
    rw [mayB_one] at this
    cases this
  obtain ⟨k1, k2, k3, k4⟩ := h2 hne
  unfold bestKind
  exact ⟨by omega, k2, fun k hk hm => by rw [← k3]; exact k4 k (by omega) hm⟩
section
variable {w : World} {l : List Int} {A : Option Addr} {W H d : Nat} (cap : Nat) (t : Tile w l A W H d) (hp : Pts w)
include t hp
set_option maxRecDepth 100000 in
set_option maxHeartbeats 1000000 in
theorem cost_ok (k : Nat) (hk : k ≤ 7) (hm : mayB k l W d = true) : Calls Tryz.prog 35 #[.int .i64 k, .slice A l.length cap, .int .i64 W, .int .i64 H, .int .i64 d] w fun e w' => e = .returned (.int .i64 (costK k l W H d)) ∧ Chg [] w w' := by
  obtain ⟨w1, hw1⟩ : ∃ w1, w1 = w.alloc (.cells #[.slice none 0 0, .int .i64 0] 37) := ⟨_, rfl⟩
  obtain ⟨B, hB⟩ : ∃ B, B = w.heap.size := ⟨_, rfl⟩
  have hwr : IsWr w1 B [B] [] := by rw [hw1, hB]; exact IsWr.new w
  have ch1 : Chg [] w w1 := by rw [hw1]; exact (Chg.refl [] w).alloc _
  have hp0 := hp.lt
  have hap : Apt A l [B] := Apt.fresh t.cells (F := [B]) (by rw [hB]; simp)
  have hpb := putBy_all cap (t.same ch1) B [B] [] hwr hap (hp.same ch1) (by simp; omega) (by simp) k hk hm
  have hck : costK k l W H d = (tileBits k l W H d).length := rfl
  rw [hck]
  unfold PutPost at hpb
  rw [List.nil_append] at hpb
  generalize tileBits k l W H d = ts at *
  have HB : Hid (∀ x ∈ [B], w.heap.size ≤ x) := hid (by intro x hx; rw [List.mem_singleton.1 hx, hB]; exact Nat.le_refl _)
  have HW1 := hid hw1
  have HBB := hid hB
  clear t hp hm hk hw1 hB hwr hap hck hp0
  go_enter Tryz.func35, Tryz.ntmps35
  go_wp2_with fail
  rw [← HW1.out, ← HBB.out]
  refine hpb.mono ?_
  rintro e w2 ⟨rfl, F2, hwr2, hgr2⟩
  have hln := wlen_any w2 B F2 ts hwr2
  go_wp2_with fail
  refine hln.mono ?_
  rintro e w' ⟨rfl, rfl⟩
  go_wp2
  go_ret
  exact ⟨rfl, hgr2.fresh HB.out ch1⟩
variable (b : Nat) (F bs : List Nat) (h : IsWr w b F bs) (hA : Apt A l F) (h0F : 0 ∉ F) (hbs : bs.length < 34359738368)
include h hA h0F hbs
set_option maxRecDepth 100000 in
set_option maxHeartbeats 1000000 in
theorem tput_ok : Calls Tryz.prog 28 #[.pointer (some ⟨b, 0, none⟩), .slice A l.length cap, .int .i64 W, .int .i64 H, .int .i64 d] w (PutPost w b F bs (tileBits (bestKind l W H d) l W H d)) := by
  have hty := isTile_yes l A cap W H d w t.w0 t.w1 t.h0 t.h1 t.d0 t.d1 t.len t.smp t.cells
  have HT := hid t
  have HP := hid hp
  have HH := hid h
  have HA := hid hA
  have hmay := fun k (hk : k ≤ 7) w' (hc : Chg [] w w') => may_all cap (t.same hc) k hk
  have hcost := fun k (hk : k ≤ 7) (hm : mayB k l W d = true) w' (hc : Chg [] w w') => cost_ok cap (t.same hc) (hp.same hc) k hk hm
  have hbest := bestKind_ok l W H d
  have hput := fun w' (hc : Chg [] w w') => putBy_all cap (t.same hc) b F bs (h.same hc) hA (hp.same hc) h0F hbs (bestKind l W H d) hbest.1 hbest.2.1
  unfold MayPost at hmay
  unfold PutPost at hput ⊢
  have hbk : bestKind l W H d = (pickK l W H d 8).1 := rfl
  generalize tileBits (bestKind l W H d) l W H d = ts at *
  have HM := hid hmay
  have HC := hid hcost
  have HPU := hid hput
  have HBK := hid hbk
  clear hmay hcost hput hbest hbk t hp h hA
  go_enter Tryz.func28, Tryz.ntmps28
  go_wp2_with (go_at_call 64; refine hty.mono ?_; rintro e w' ⟨rfl, rfl⟩)
  go_loopg [11, 12, 13, 14, 21] 8 (fun j vb vl vk vc iv wr => ∃ (m bk lk : Nat), iv = .int .i64 (m : Int) ∧ vb = .int .i64 (bk : Int) ∧ vl = .int .i64 (lk : Int) ∧ m + j = 8 ∧ Hid (pickK l W H d m = (bk, lk)) ∧ Chg [] w wr)
  case atStart => exact ⟨0, 1, 0, rfl, rfl, rfl, rfl, hid rfl, Chg.refl _ _⟩
  case round =>
    obtain ⟨m, bk, lk, rfl, rfl, rfl, hmj, HK, hch⟩ := hrel
    rcases gk with _ | j
    · obtain rfl : m = 8 := by omega
      have hpu := HPU.out wr hch
      have hbk := HBK.out
      rw [HK.out] at hbk
      have hbk' : bestKind l W H d = bk := hbk
      rw [hbk'] at hpu
      clear hbk hbk'
      go_wp2_with fail
      refine hpu.mono ?_
      rintro e w2 ⟨rfl, F2, hwr2, hgr2⟩
      go_wp2
      go_ret
      exact ⟨rfl, F2, hwr2, Grow.pre hch hgr2⟩
    · have hm7 : m ≤ 7 := by omega
      have hmy := HM.out m hm7 wr hch
      have hcs := HC.out m hm7
      have hstep : pickK l W H d (m + 1) = if mayB m l W d = true ∧ ((pickK l W H d m).2 = 0 ∨ costK m l W H d < (pickK l W H d m).2) then (m, costK m l W H d) else pickK l W H d m := rfl
      rw [HK.out] at hstep
      simp only at hstep
      have HST := hid hstep
      have hb0 : (0 : Int) ≤ (m : Int) := by omega
      clear hstep
      cases hmb : mayB m l W d with
      | false =>
        rw [hmb] at hmy
        have hnx : Hid (pickK l W H d (m + 1) = (bk, lk)) := hid (by rw [HST.out, if_neg (by rw [hmb]; simp)])
        have HMB := hid hmb
        clear hmb hcs
        go_wp2_with fail
        refine hmy.mono ?_
        rintro e w1 ⟨rfl, ch1⟩
        go_wp2_with fail
        go_roundg j
        case measure => omega
        case rel => exact ⟨m + 1, bk, lk, by go_num, rfl, rfl, by omega, hnx, hch.trans_same ch1⟩
      | true =>
        rw [hmb] at hmy
        have hcs' := hcs hmb
        obtain ⟨c, hc⟩ : ∃ c, c = costK m l W H d := ⟨_, rfl⟩
        rw [← hc] at hcs'
        have HCD := hid hc
        have HMB := hid hmb
        clear hmb hcs hc
        go_wp2_with fail
        refine hmy.mono ?_
        rintro e w1 ⟨rfl, ch1⟩
        have hc2 := hcs' w1 (hch.trans_same ch1)
        clear hmy hcs'
        go_wp2_with fail
        refine hc2.mono ?_
        rintro e w2 ⟨rfl, ch2⟩
        have hch2 := (hch.trans_same ch1).trans_same ch2
        clear hc2
        by_cases hl0 : lk = 0
        · have t1 : ((lk : Int) == 0) = true := by rw [beq_iff_eq]; omega
          have hnx : Hid (pickK l W H d (m + 1) = (m, c)) := hid (by rw [HST.out, if_pos ⟨HMB.out, .inl hl0⟩, HCD.out])
          clear hl0
          go_wp2_with fail
          go_roundg j
          case measure => omega
          case rel => exact ⟨m + 1, m, c, by go_num, rfl, rfl, by omega, hnx, hch2⟩
        · have t1 : ((lk : Int) == 0) = false := by rw [beq_eq_false_iff_ne]; omega
          by_cases hlt : c < lk
          · have t2 : decide (c < lk) = true := decide_eq_true hlt
            have hnx : Hid (pickK l W H d (m + 1) = (m, c)) := hid (by rw [HST.out, if_pos ⟨HMB.out, .inr (by rw [← HCD.out]; exact hlt)⟩, HCD.out])
            clear hl0 hlt
            go_wp2_with fail
            go_roundg j
            case measure => omega
            case rel => exact ⟨m + 1, m, c, by go_num, rfl, rfl, by omega, hnx, hch2⟩
          · have t2 : decide (c < lk) = false := decide_eq_false hlt
            have hnx : Hid (pickK l W H d (m + 1) = (bk, lk)) := hid (by rw [HST.out, if_neg (by rw [← HCD.out]; intro h; rcases h.2 with h | h <;> omega)])
            clear hl0 hlt
            go_wp2_with fail
            go_roundg j
            case measure => omega
            case rel => exact ⟨m + 1, bk, lk, by go_num, rfl, rfl, by omega, hnx, hch2⟩
end
end Go.Proofs.YtpkplhmdnjdmoaaGreatDoor

/- package kinorakeep2 by its contracts: Within, Tape.Next, Depth. -/
namespace Go.Proofs.YtpkplhmdnjdmoaaGreatDoor
set_option linter.unusedSimpArgs false
set_option linter.unusedVariables false
open Go.RowKit

def In64 (x : Int) : Prop := -9223372036854775808 ≤ x ∧ x ≤ 9223372036854775807
def withinI (x lo hi : Int) : Int := if lo ≤ x ∧ x ≤ hi then x else if x.tmod (hi - lo + 1) < 0 then lo + (x.tmod (hi - lo + 1) + hi - lo + 1) else lo + x.tmod (hi - lo + 1)
theorem within_in (x : Int) {lo hi : Int} (h : lo ≤ hi) : lo ≤ withinI x lo hi ∧ withinI x lo hi ≤ hi := by
  unfold withinI
  have h1 := Int.tmod_lt_of_pos x (show 0 < hi - lo + 1 by omega)
  have h2 := Int.lt_tmod_of_pos x (show 0 < hi - lo + 1 by omega)
  split
  · assumption
  · split <;> omega
theorem within_ok (x lo hi : Int) (w : World) (hx : In64 x) (h0 : -1099511627776 ≤ lo) (h1 : lo ≤ hi) (h2 : hi ≤ 1099511627776) :
    Calls Tryz.prog 8 #[.int .i64 x, .int .i64 lo, .int .i64 hi] w fun e w' => e = .returned (.int .i64 (withinI x lo hi)) ∧ w = w' := by
  obtain ⟨hx0, hx1⟩ := hx
  by_cases hin : lo ≤ x ∧ x ≤ hi
  · have t1 : decide (lo ≤ x) = true := decide_eq_true hin.1
    have t2 : decide (x ≤ hi) = true := decide_eq_true hin.2
    have e : withinI x lo hi = x := by unfold withinI; rw [if_pos hin]
    rw [e]
    clear hin h0 h1 h2 hx0 hx1 e
    go_enter Tryz.func8, Tryz.ntmps8
    go_wp2
    go_ret
    exact ⟨rfl, rfl⟩
  · have hw : withinI x lo hi = if x.tmod (hi - lo + 1) < 0 then lo + (x.tmod (hi - lo + 1) + hi - lo + 1) else lo + x.tmod (hi - lo + 1) := by unfold withinI; rw [if_neg hin]
    obtain ⟨m, hm⟩ : ∃ m, m = hi - lo + 1 := ⟨_, rfl⟩
    have hm0 : 0 < m := by omega
    rw [← hm] at hw
    obtain ⟨q, hq⟩ : ∃ q, q = x.tmod m := ⟨_, rfl⟩
    have hq1 : q < m := by rw [hq]; exact Int.tmod_lt_of_pos x hm0
    have hq0 : -m < q := by rw [hq]; exact Int.lt_tmod_of_pos x hm0
    rw [← hq] at hw
    have e1 : hi - lo + 1 = m := hm.symm
    have e2 : x.tmod m = q := hq.symm
    have hmne : m ≠ 0 := by omega
    rw [hw]
    clear hm hq hw
    have key : ∀ b1 b2, decide (lo ≤ x) = b1 → decide (x ≤ hi) = b2 → (b1 && b2) = false → Calls Tryz.prog 8 #[.int .i64 x, .int .i64 lo, .int .i64 hi] w fun e w' => e = .returned (.int .i64 (if q < 0 then lo + (q + hi - lo + 1) else lo + q)) ∧ w = w' := by
      intro b1 b2 t1 t2 hb
      by_cases hneg : q < 0
      · have t3 : decide (q < 0) = true := decide_eq_true hneg
        rw [if_pos hneg]
        cases b1 <;> cases b2 <;> simp at hb
        all_goals
          clear hin
          go_enter Tryz.func8, Tryz.ntmps8
          go_wp2
          go_ret
          exact ⟨rfl, rfl⟩
      · have t3 : decide (q < 0) = false := decide_eq_false hneg
        rw [if_neg hneg]
        cases b1 <;> cases b2 <;> simp at hb
        all_goals
          clear hin
          go_enter Tryz.func8, Tryz.ntmps8
          go_wp2
          go_ret
          exact ⟨rfl, rfl⟩
    refine key _ _ rfl rfl ?_
    cases h : (decide (lo ≤ x) && decide (x ≤ hi)) with
    | false => rfl
    | true =>
      rw [Bool.and_eq_true, decide_eq_true_eq, decide_eq_true_eq] at h
      exact absurd h hin

/-- A tape in memory, read up to a place. -/
structure IsTp (w : World) (b : Nat) (A : Option Addr) (cap : Nat) (L : List Int) (at_ : Nat) : Prop where
  blk : Blk w b 74 #[.slice A L.length cap, .int .i64 (at_ : Int)]
  cells : Cells vi w A L
  apt : Apt A L [b]
  in64 : ∀ x ∈ L, In64 x
  at_le : at_ ≤ L.length
  len : L.length ≤ 9223372036854775807
theorem IsTp.same {w w' : World} {b cap at_ : Nat} {A : Option Addr} {L : List Int} (h : IsTp w b A cap L at_) {F : List Nat} (hc : Chg F w w') (hb : b ∉ F) (hA : Apt A L F) : IsTp w' b A cap L at_ :=
  { h with blk := h.blk.chg hc hb, cells := h.cells.keep hA hc }
theorem tp_turn {w : World} {b cap at_ : Nat} {A : Option Addr} {L : List Int} (h : IsTp w b A cap L at_) (hlt : at_ < L.length) (n1 n2 : Nat) :
    IsTp (((w.drewN n1).setCell ⟨b, 1, none⟩ (.int .i64 ((at_ : Int) + 1))).drewN n2) b A cap L (at_ + 1) ∧ Chg [b] w (((w.drewN n1).setCell ⟨b, 1, none⟩ (.int .i64 ((at_ : Int) + 1))).drewN n2) := by
  have hcg : Chg [b] w (((w.drewN n1).setCell ⟨b, 1, none⟩ (.int .i64 ((at_ : Int) + 1))).drewN n2) := (((Chg.refl [b] w).drewN n1).setCell (p := ⟨b, 1, none⟩) (.inl (by simp)) (.int .i64 ((at_ : Int) + 1))).drewN n2
  have hbk := ((h.blk.drewN n1).set_ 1 (.int .i64 ((at_ : Int) + 1))).drewN n2
  have e : ((at_ + 1 : Nat) : Int) = (at_ : Int) + 1 := by simp
  refine ⟨⟨?_, h.cells.keep h.apt hcg, h.apt, h.in64, hlt, h.len⟩, hcg⟩
  rw [e]
  simpa using hbk
set_option maxRecDepth 100000 in
set_option maxHeartbeats 1000000 in
theorem next_tp (w : World) (b cap at_ n : Nat) (A : Option Addr) (L : List Int) (h : IsTp w b A cap L at_) (hn0 : 1 ≤ n) (hn1 : n ≤ 1073741824) :
    Calls Tryz.prog 37 #[.pointer (some ⟨b, 0, none⟩), .int .i64 n] w fun e w' => ∃ v at' : Nat, e = .returned (.int .i64 (v : Int)) ∧ v < n ∧ IsTp w' b A cap L at' ∧ Chg [b] w w' := by
  have b0 := h.blk.cell 0
  have b1 := h.blk.cell 1
  simp at b0 b1
  have HH := hid h
  obtain ⟨m, hm⟩ : ∃ m, m = L.length := ⟨_, rfl⟩
  rw [← hm] at b0
  have t2 : decide ((n : Int) < 1) = false := decide_eq_false (by omega)
  by_cases hend : at_ = m
  · have t1 : decide ((m : Int) ≤ (at_ : Int)) = true := decide_eq_true (by omega)
    have t1' : decide (m ≤ at_) = true := decide_eq_true (by omega)
    clear h hm hend
    go_enter Tryz.func37, Tryz.ntmps37
    go_wp2
    go_quiet (fail)
    go_wp2
    go_ret
    exact ⟨0, at_, rfl, by omega, HH.out.same ((Chg.refl [] w).drewN nq) (by simp) (fun _ _ _ => by simp), (Chg.refl [b] w).drewN nq⟩
  · have hlt : at_ < m := by have := h.at_le; omega
    have hltL : at_ < L.length := by rw [← hm]; exact hlt
    have t1 : decide ((m : Int) ≤ (at_ : Int)) = false := decide_eq_false (by omega)
    have t1' : decide (m ≤ at_) = false := decide_eq_false (by omega)
    obtain ⟨g, o, rfl, cl⟩ := h.cells.at_ hltL
    have hx64 := h.in64 L[at_] (List.getElem_mem _)
    have hgb : g ≠ b := by
      have := h.apt (by omega) _ rfl
      simpa using this
    obtain ⟨x, hx⟩ : ∃ x, x = L[at_] := ⟨_, rfl⟩
    rw [← hx] at cl hx64
    have hwi := fun w => within_ok x 0 1073741824 w hx64 (by omega) (by omega) (by omega)
    have hin := within_in x (show (0 : Int) ≤ 1073741824 by omega)
    obtain ⟨y, hy⟩ : ∃ y, y = withinI x 0 1073741824 := ⟨_, rfl⟩
    rw [← hy] at hwi hin
    obtain ⟨k, hk⟩ : ∃ k : Nat, (k : Int) = y := ⟨y.toNat, Int.toNat_of_nonneg hin.1⟩
    rw [← hk] at hwi hin
    have hkn : k % n < n := Nat.mod_lt _ (by omega)
    have hbs := h.blk.set_ 1 (.int .i64 ((at_ : Int) + 1))
    have hlen := h.len
    have f1 := h.blk.frozen 1
    have cl' : w.cell? ⟨g, o + at_, none⟩ = some (.int .i64 x) := cl
    have htm : (k : Int).tmod (n : Int) = ((k % n : Nat) : Int) := by rw [Int.tmod_eq_emod_of_nonneg (by omega)]; simp
    have hnne : (n : Int) ≠ 0 := by omega
    obtain ⟨r, hr⟩ : ∃ r, r = k % n := ⟨_, rfl⟩
    rw [← hr] at htm hkn
    have HKN := hid hkn
    have hb0 : (0 : Int) ≤ (at_ : Int) := by omega
    have hb1 : (at_ : Int) < (m : Int) := by omega
    have hsub : (at_ : Int) + 1 - 1 = (at_ : Int) := by omega
    have HM := hid hm
    have HBS := hid hbs
    clear h hm hend cl hy hk hr hkn hx hbs
    go_enter Tryz.func37, Tryz.ntmps37
    go_wp2
    go_quiet (fail)
    go_wp2
    go_quiet ((go_at_call 8; exact quiet_eq (hwi _)))
    go_wp2
    go_ret
    have e : ((at_ + 1 : Nat) : Int) = (at_ : Int) + 1 := by simp
    have hlt' : at_ < L.length := by rw [← HM.out]; exact hlt
    exact ⟨r, at_ + 1, rfl, HKN.out, (tp_turn HH.out hlt' _ _).1, (tp_turn HH.out hlt' _ _).2⟩
end Go.Proofs.YtpkplhmdnjdmoaaGreatDoor

/- tile's readers by their contracts, the first part: getAll. -/
namespace Go.Proofs.YtpkplhmdnjdmoaaGreatDoor
set_option linter.unusedSimpArgs false
set_option linter.unusedVariables false
open Go.RowKit

theorem allOf_cons (x : Int) (l : List Int) (n : Nat) : allOf (x :: l) n = bitsOf x.toNat n ++ allOf l n := rfl
theorem allOf_split (l : List Int) (n : Nat) {m : Nat} (hm : m < l.length) : allOf (l.drop m) n = bitsOf (l[m]).toNat n ++ allOf (l.drop (m + 1)) n := by
  rw [List.drop_eq_getElem_cons hm, allOf_cons]

set_option maxRecDepth 100000 in
set_option maxHeartbeats 1000000 in
theorem getAll_ok (w : World) (b : Nat) (F ds : List Nat) (p d : Nat) (l : List Int) (h : IsRd w b F ds p) (hd : d ≤ 16) (hs : SmpOk d l) (hl : l.length ≤ 4096) (ha : Ahead ds p (allOf l d)) :
    Calls Tryz.prog 77 #[.pointer (some ⟨b, 0, none⟩), .int .i64 l.length, .int .i64 d] w fun e w' => ∃ v g, e = .returned v ∧ Row w' 3 v g (l.map vi) ∧ IsRd w' b F ds (p + (allOf l d).length) ∧ Chg [b] w w' ∧ w.heap.size ≤ g := by
  have HS := hid hs
  have HA := hid ha
  have hbl := h.lt b h.mem
  have hlt := h.lt
  obtain ⟨n, hn⟩ : ∃ n, n = l.length := ⟨_, rfl⟩
  rw [← hn] at hl ⊢
  have hmk := run_make1 (P := Tryz.prog) int_elem rfl .i64 .i64 n (by omega) (by omega)
  have HN := hid hn
  have hrow0 := Row.zeros w n (by omega)
  obtain ⟨B, hB⟩ : ∃ B, B = w.heap.size := ⟨_, rfl⟩
  have ch0 : Chg [] w (w.alloc (.cells (List.replicate n (Value.int .i64 0)).toArray 3)) := (Chg.refl [] w).alloc _
  have hrd0 := h.same ch0
  have hbB : b ≠ B := by omega
  have HFB : Hid (∀ y ∈ F, y ∉ [B]) := hid (fun y hy hm => by have := hlt y hy; simp at hm; omega)
  rw [← hB] at hrow0
  have HB := hid hB
  clear hn hs ha hB h hlt
  go_enter Tryz.func77, Tryz.ntmps77
  go_wp2_with fail
  rw [← HB.out]
  go_loopg [13] n (fun j iv wr => ∃ (done : List Int) (p' : Nat), iv = .int .i64 (done.length : Int) ∧ done.length + j = n ∧ Hid (done = l.take done.length) ∧ Row wr 3 (.slice (some ⟨B, 0, none⟩) n n) B ((fillL done n).map vi) ∧ IsRd wr b F ds p' ∧ Hid (Ahead ds p' (allOf (l.drop done.length) d)) ∧ Hid (p' + (allOf (l.drop done.length) d).length = p + (allOf l d).length) ∧ Hid (Chg [b] w wr))
  case atStart => exact ⟨[], p, rfl, by simp, hid (by simp), hrow0, hrd0, by simpa using HA, hid (by simp), hid (ch0.mono (by simp))⟩
  case round =>
    clear hrow0 ch0 hrd0
    obtain ⟨done, p', rfl, hdl, Hd, hrow, hrd, Ha, Hp, HCH⟩ := hrel
    obtain ⟨m, hm⟩ : ∃ m, m = done.length := ⟨_, rfl⟩
    rcases gk with _ | j
    · rw [← hm] at hdl Ha Hp ⊢
      obtain rfl : m = n := by omega
      have t1 : decide ((m : Int) < (m : Int)) = false := by simp
      have HM := hid hm
      clear hm hdl
      go_wp2
      go_ret
      have e : done = l := by rw [Hd.out, ← HM.out, HN.out, List.take_length]
      have e2 : l.drop m = [] := by rw [HN.out, List.drop_length]
      have hp := Hp.out
      rw [e2] at hp
      rw [fillL_full HM.out.symm, e] at hrow
      exact ⟨_, B, rfl, hrow, hrd.cast (by simpa [allOf] using hp), HCH.out, by have := HB.out; omega⟩
    · have hml : m < l.length := by rw [← HN.out]; omega
      have hsp := allOf_split l d hml
      have htk := take_snoc' l hml
      obtain ⟨x, hx⟩ : ∃ x, x = l[m] := ⟨_, rfl⟩
      have hxs := HS.out l[m] (List.getElem_mem _)
      rw [← hx] at hsp hxs htk
      obtain ⟨X, hX⟩ : ∃ X : Nat, X = x.toNat := ⟨_, rfl⟩
      have hxX : x = (X : Int) := by omega
      have ha1 := Ha.out
      rw [← hm, hsp, ← hX] at ha1
      have hXd : X < 2 ^ d := by
        have e : (2 : Int) ^ d = ((2 ^ d : Nat) : Int) := by simp
        have := hxs.2
        rw [e, hxX] at this
        omega
      have hX16 : X < 65536 := Nat.lt_of_lt_of_le hXd (show 2 ^ d ≤ 2 ^ 16 from Nat.pow_le_pow_right (by decide) hd)
      have hget := rget_ahead wr b F ds p' d X hrd (by omega) hXd ha1.left
      have HA2 := hid ha1.right
      have HSP := hid hsp
      have HTK := hid htk
      have HX := hid hX
      have HXX := hid hxX
      have HROW := hid hrow
      have HML := hid hml
      have HM := hid hm
      have hdl2 : m + (j + 1) = n := by omega
      rw [← hm]
      clear hml hsp htk hx hxs ha1 hXd hX hxX hrd hrow hm hdl
      go_wp2_with fail
      refine hget.mono ?_
      rintro e w1 ⟨rfl, hr1, ch1⟩
      have hrow1 := HROW.out.chg ch1 (by simpa using hbB.symm)
      obtain ⟨hce, hfr⟩ := hrow1.fill_cell (by have := HM.out; omega)
      have hfill := hrow1.fill (by have := HM.out; omega) (X : Int)
      rw [← HM.out] at hce hfr hfill
      have HFI := hid hfill
      have hlen1 : (fillL done n).length = n := fillL_len (by have := HM.out; omega)
      clear hget hrow1 hfill
      go_wp2
      go_roundg j
      case measure => omega
      case rel =>
        have hch2 : Chg [B] w1 (w1.setCell ⟨B, m, none⟩ (.int .i64 (X : Int))) := (Chg.refl _ _).setCell (.inl (by simp)) _
        have hlen : (done ++ [(X : Int)]).length = m + 1 := by rw [List.length_append, List.length_singleton, ← HM.out]
        refine ⟨done ++ [(X : Int)], p' + d, by rw [hlen]; go_num, by rw [hlen]; omega, ?_, HFI.out, hr1.chg hch2 HFB.out, ?_, ?_, ?_⟩
        · rw [hlen, HTK.out, HXX.out]
          have := Hd.out
          rw [← HM.out] at this
          rw [← this]
          exact hid rfl
        · rw [hlen]
          have := HA2.out
          rw [bitsOf_len] at this
          exact hid this
        · rw [hlen]
          have h1 := Hp.out
          have h2 := HSP.out
          rw [← HM.out, h2, List.length_append, bitsOf_len] at h1
          exact hid (by omega)
        · exact hid ((HCH.out.trans_same ch1).trans hch2 fun y hy => .inr (by have := HB.out; simp at hy; omega))
end Go.Proofs.YtpkplhmdnjdmoaaGreatDoor

/- known() of the tile law, plain Lean: the flat tile of four samples. -/
namespace Go.Proofs.YtpkplhmdnjdmoaaGreatDoor

def flat5 : List Int := [5, 5, 5, 5]
theorem flat5_mem : ∀ x ∈ flat5, x = 5 := by
  intro x hx
  simp [flat5] at hx
  exact hx
theorem diff_const {l : List Int} {v : Int} (hl : 0 < l.length) (h : ∀ x ∈ l, x = v) : (diffL l).length = 1 := by
  have h1 : ∀ x ∈ diffL l, x = v := fun x hx => h x ((mem_diffL l x).1 hx)
  have h2 := diffL_lt l
  have h3 : v ∈ diffL l := (mem_diffL l v).2 (by
    have := h _ (List.getElem_mem hl)
    rw [← this]
    exact List.getElem_mem hl)
  generalize diffL l = D at *
  match D, h1, h2, h3 with
  | [], _, _, h3 => simp at h3
  | [_], _, _, _ => rfl
  | a :: b :: D, h1, h2, _ =>
    have ha := h1 a (by simp)
    have hb := h1 b (by simp)
    have := (List.pairwise_cons.1 h2).1 b (by simp)
    omega
theorem flat_may {l : List Int} {v : Int} (W d : Nat) (hl : 0 < l.length) (h : ∀ x ∈ l, x = v) : mayB 0 l W d = true := by
  unfold mayB
  rw [if_pos rfl, decide_eq_true (diff_const hl h)]
theorem flat_cost (l : List Int) (W H d : Nat) : costK 0 l W H d = 3 + d := by
  unfold costK tileBits
  rw [List.length_append, bitsOf_len]
  show 3 + (bitsOf _ d).length = _
  rw [bitsOf_len]
theorem allOf_cons1 (x : Int) (l : List Int) (n : Nat) : allOf (x :: l) n = bitsOf x.toNat n ++ allOf l n := rfl
theorem all_len (l : List Int) (n : Nat) : (allOf l n).length = n * l.length := by
  induction l with
  | nil => rfl
  | cons x l ih => rw [allOf_cons1, List.length_append, bitsOf_len, ih, List.length_cons, Nat.mul_add]; omega
theorem plain_cost (l : List Int) (W H d : Nat) : costK 1 l W H d = 3 + d * l.length := by
  unfold costK tileBits
  rw [List.length_append, bitsOf_len]
  show 3 + (allOf l d).length = _
  rw [all_len]
/-- The flat kind is chosen where no other is cheaper. -/
theorem best_flat {l : List Int} {W H d : Nat} (hm : mayB 0 l W d = true) (h : ∀ k, 1 ≤ k → k ≤ 7 → 3 + d ≤ costK k l W H d) : bestKind l W H d = 0 := by
  have hc := flat_cost l W H d
  have h1 : ∀ m, m ≤ 7 → pickK l W H d (m + 1) = (0, 3 + d) := by
    intro m
    induction m with
    | zero =>
      intro _
      have : pickK l W H d 1 = if mayB 0 l W d = true ∧ ((pickK l W H d 0).2 = 0 ∨ costK 0 l W H d < (pickK l W H d 0).2) then (0, costK 0 l W H d) else pickK l W H d 0 := rfl
      rw [this, if_pos ⟨hm, .inl rfl⟩, hc]
    | succ m ih =>
      intro hk
      have : pickK l W H d (m + 1 + 1) = if mayB (m + 1) l W d = true ∧ ((pickK l W H d (m + 1)).2 = 0 ∨ costK (m + 1) l W H d < (pickK l W H d (m + 1)).2) then (m + 1, costK (m + 1) l W H d) else pickK l W H d (m + 1) := rfl
      rw [this, ih (by omega), if_neg]
      intro hh
      have := h (m + 1) (by omega) hk
      rcases hh.2 with h2 | h2 <;> simp only at h2 <;> omega
  have := h1 7 (by omega)
  unfold bestKind
  rw [this]
theorem cost_two (l : List Int) (W H d : Nat) : 3 + (4 * H + 4) ≤ costK 2 l W H d := by
  have e : kindBits 2 l W H d = guessedBits l W H d := rfl
  unfold costK tileBits
  rw [e, List.length_append, bitsOf_len]
  unfold guessedBits
  rw [List.length_append, all_len, kindsI_len]
  have : 4 ≤ (planBits (foreF l W H d) (W * H)).length := by
    unfold planBits bitsP
    rw [List.length_append, bitsOf_len]
    omega
  omega
theorem cost_four (l : List Int) (W H d : Nat) : 13 ≤ costK 4 l W H d := by
  have e : kindBits 4 l W H d = copyBits l W d := rfl
  unfold costK tileBits
  rw [e, List.length_append, bitsOf_len]
  unfold copyBits matchBits
  rw [List.length_append, List.length_append, bitsOf_len, bitsOf_len]
  omega
theorem cost_five (l : List Int) (W H d : Nat) : 19 ≤ costK 5 l W H d := by
  have e : kindBits 5 l W H d = rangedBits l W d := rfl
  unfold costK tileBits
  rw [e, List.length_append, bitsOf_len]
  unfold rangedBits
  rw [List.length_append, bitsOf_len]
  omega
theorem cost_six {l : List Int} (W H d : Nat) (h : (diffL l).length = 1) : 7 + d ≤ costK 6 l W H d := by
  have e : kindBits 6 l W H d = colouredBits l d := rfl
  unfold costK tileBits
  rw [e, List.length_append, bitsOf_len]
  unfold colouredBits
  rw [List.length_append, List.length_append, bitsOf_len, all_len, h]
  omega
theorem cost_seven (l : List Int) (W H d : Nat) : 13 ≤ costK 7 l W H d := by
  have e : kindBits 7 l W H d = prefBits l W d := rfl
  unfold costK tileBits
  rw [e, List.length_append, bitsOf_len]
  unfold prefBits tableBits
  rw [List.length_append, List.length_append, bitsOf_len]
  omega
theorem cost_three : 11 ≤ costK 3 flat5 2 2 8 := by
  have e : kindBits 3 flat5 2 2 8 = modelBits flat5 2 8 4 := rfl
  unfold costK tileBits
  rw [e, List.length_append, bitsOf_len]
  have : 8 ≤ (modelBits flat5 2 8 4).length := by decide +kernel
  omega
theorem flat5_may : mayB 0 flat5 2 8 = true := flat_may 2 8 (by decide) flat5_mem
theorem flat5_best : bestKind flat5 2 2 8 = 0 := by
  refine best_flat flat5_may fun k h1 h2 => ?_
  rcases (by omega : k = 1 ∨ k = 2 ∨ k = 3 ∨ k = 4 ∨ k = 5 ∨ k = 6 ∨ k = 7) with rfl | rfl | rfl | rfl | rfl | rfl | rfl
  · rw [plain_cost]; decide
  · have := cost_two flat5 2 2 8; omega
  · exact cost_three
  · have := cost_four flat5 2 2 8; omega
  · have := cost_five flat5 2 2 8; omega
  · have := cost_six (l := flat5) 2 2 8 (diff_const (by decide) flat5_mem); omega
  · have := cost_seven flat5 2 2 8; omega
theorem flat5_bits : tileBits (bestKind flat5 2 2 8) flat5 2 2 8 = [0, 0, 0, 0, 0, 0, 0, 0, 1, 0, 1] := by
  rw [flat5_best]
  decide +kernel
theorem flat5_packed : packed (tileBits (bestKind flat5 2 2 8) flat5 2 2 8) = [0, 160] := by
  rw [flat5_bits]
  decide +kernel
theorem two_cost : costK 1 [1, 2] 2 1 8 = 19 := by
  rw [plain_cost]
  rfl
theorem grid_known : gridL 20 3 16 = [⟨0, 0, 16, 3⟩, ⟨16, 0, 4, 3⟩] := rfl
end Go.Proofs.YtpkplhmdnjdmoaaGreatDoor
