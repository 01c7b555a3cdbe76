/- bits.Reader by its contracts, the second part: Unary, Signed; a number that stands ahead is got. -/
import Derived.Test.YtpkplhmdnjdmoaaGreatDoorMg05
set_option linter.unusedVariables false
set_option linter.unusedSimpArgs false
namespace Go.Proofs.YtpkplhmdnjdmoaaGreatDoor
set_option linter.unusedSimpArgs false
set_option linter.unusedVariables false
open Go.RowKit

/-- What was put in n bits is got. -/
theorem rget_ahead (w : World) (b : Nat) (F ds : List Nat) (p n v : Nat) (h : IsRd w b F ds p) (hn : n ≤ 63) (hv : v < 2 ^ n) (ha : Ahead ds p (bitsOf v n)) :
    Calls Tryz.prog 74 #[.pointer (some ⟨b, 0, none⟩), .int .i64 n] w fun e w' => e = .returned (.int .u64 v) ∧ IsRd w' b F ds (p + n) ∧ Chg [b] w w' := by
  have hp := ha.le h.at_le
  rw [bitsOf_len] at hp
  have := rget_ok w b F ds p n h hn hp
  rw [rdNum_ahead ha hv] at this
  exact this

theorem rd_cells {w : World} {b : Nat} {F ds : List Nat} {p : Nat} (h : IsRd w b F ds p) :
    w.cell? ⟨b, 1, none⟩ = some (.int .i64 (p : Int)) ∧ w.cell? ⟨b, 2, none⟩ = some (.int .i64 0) ∧ w.frozen? ⟨b, 1, none⟩ = false ∧ ∃ A cap, w.cell? ⟨b, 0, none⟩ = some (.slice A ds.length cap) := by
  obtain ⟨v, G, hb, ho, rfl⟩ := h.ex
  obtain ⟨A, cap, rfl, _⟩ := ho.open_map
  refine ⟨by simpa using hb.cell 1, by simpa using hb.cell 2, hb.frozen 1, A, cap, by simpa using hb.cell 0⟩
theorem IsRd.move {w : World} {b : Nat} {F ds : List Nat} {p : Nat} (h : IsRd w b F ds p) {q : Nat} (hq : q ≤ 8 * ds.length) : IsRd (w.setCell ⟨b, 1, none⟩ (.int .i64 (q : Int))) b F ds q := by
  obtain ⟨v, G, hb, ho, rfl⟩ := h.ex
  have hne : b ∉ G := ho.ne_ hb (by decide)
  have h1 := hb.set_ 1 (.int .i64 (q : Int))
  exact ⟨⟨v, G, by simpa using h1, ho.far (p := ⟨b, 1, none⟩) hne _, rfl⟩, h.dig, h.len, hq⟩

set_option maxRecDepth 100000 in
set_option maxHeartbeats 400000 in
theorem runary_ok (w : World) (b : Nat) (F ds : List Nat) (p n most : Nat) (h : IsRd w b F ds p) (hn : n ≤ most) (hm : most ≤ 4096) (hz : ∀ i, i < n → bitAt ds (p + i) = 0) (h1 : bitAt ds (p + n) = 1) (hp : p + n + 1 ≤ 8 * ds.length) :
    Calls Tryz.prog 178 #[.pointer (some ⟨b, 0, none⟩), .int .i64 most] w fun e w' => e = .returned (.int .i64 n) ∧ IsRd w' b F ds (p + n + 1) ∧ Chg [b] w w' := by
  have hlen := h.len
  obtain ⟨hc1, hc2, hf1, A, cap, hc0⟩ := rd_cells h
  have HZ := hid hz
  have H1 := hid h1
  clear hz h1
  go_enter Tryz.func178, Tryz.ntmps178
  go_wp2_with fail
  go_quiet (fail)
  go_wp2_with fail
  have hrd0 := h.same ((Chg.refl _ _).drewN nq)
  go_loopg [5, 6] n (fun k z i wr => k ≤ n ∧ z = .int .i64 ((n - k : Nat) : Int) ∧ i = .int .i64 ((p + (n - k) : Nat) : Int) ∧ wr = w.drewN nq)
  case atStart => exact ⟨Nat.le_refl _, by simp, by simp, rfl⟩
  case round =>
    obtain ⟨hk, rfl, rfl, rfl⟩ := hrel
    rcases gk with _ | k
    · have hlk := look_ok (w.drewN nq) b F ds p (p + n) hrd0 (by omega)
      rw [H1.out] at hlk
      have t4 : (((p + n : Nat) : Int) == 8 * (ds.length : Int)) = false := by rw [beq_eq_false_iff_ne]; omega
      have hc : ((p + n : Nat) : Int) = (p : Int) + n := by omega
      rw [Nat.sub_zero]
      go_wp2_with fail
      refine hlk.mono ?_
      rintro e w1 ⟨rfl, rfl⟩
      go_wp2_with fail
      go_ret
      have hmv := hrd0.move (q := p + n + 1) (by omega)
      have e2 : ((p + n + 1 : Nat) : Int) = (p : Int) + n + 1 := by omega
      rw [e2] at hmv
      exact ⟨rfl, hmv, ((Chg.refl _ _).drewN nq).setCell (by simp) _⟩
    · obtain ⟨m, hm1⟩ : ∃ m, m = n - (k + 1) := ⟨_, rfl⟩
      rw [← hm1] 
      have hm2 : m < n := by omega
      have hm3 : n - k = m + 1 := by omega
      have HM := hid hm3
      clear hm1 hm3
      have hlk := look_ok (w.drewN nq) b F ds p (p + m) hrd0 (by omega)
      rw [HZ.out m hm2] at hlk
      have t4 : (((p + m : Nat) : Int) == 8 * (ds.length : Int)) = false := by rw [beq_eq_false_iff_ne]; omega
      have t5 : ((m : Int) == (most : Int)) = false := by rw [beq_eq_false_iff_ne]; omega
      have hc : ((p + m : Nat) : Int) = (p : Int) + m := by omega
      go_wp2_with fail
      refine hlk.mono ?_
      rintro e w1 ⟨rfl, rfl⟩
      go_wp2_with fail
      go_roundg k
      case measure => omega
      case rel =>
        rw [HM.out]
        exact ⟨by omega, by go_num, by go_num, rfl⟩

/-- A number of n bits in two's complement. -/
def sgnOf (v n : Nat) : Int := if v < 2 ^ (n - 1) then (v : Int) else (v : Int) - 2 ^ n
theorem sgn_shift {v n : Nat} (h1 : 1 ≤ n) (h2 : n ≤ 63) (hv : v < 2 ^ n) : (IntKind.i64.wrap (IntKind.u64.wrap ((v : Int) * 2 ^ (64 - n)))).fdiv (2 ^ (64 - n)) = sgnOf v n := by
  have hp := two_pow_pos' (64 - n)
  have e64 : (2 : Int) ^ n * 2 ^ (64 - n) = 18446744073709551616 := by
    rw [← Int.pow_add]
    have : n + (64 - n) = 64 := by omega
    rw [this]; rfl
  have eh : (2 : Int) ^ (n - 1) * 2 ^ (64 - n) = 9223372036854775808 := by
    rw [← Int.pow_add]
    have : n - 1 + (64 - n) = 63 := by omega
    rw [this]; rfl
  have hvI : (v : Int) < 2 ^ n := by exact_mod_cast hv
  have hv0 : (0 : Int) ≤ v * 2 ^ (64 - n) := Int.mul_nonneg (by omega) (by omega)
  have hv1 : (v : Int) * 2 ^ (64 - n) < 18446744073709551616 := by
    rw [← e64]
    exact Int.mul_lt_mul_of_pos_right hvI hp
  rw [IntWalk.u64_in _ (by omega)]
  have hfd : ∀ x : Int, (x * 2 ^ (64 - n)).fdiv (2 ^ (64 - n)) = x := fun x => by
    rw [Int.fdiv_eq_ediv_of_nonneg _ (by omega), Int.mul_ediv_cancel _ (by omega)]
  unfold sgnOf
  by_cases hs : v < 2 ^ (n - 1)
  · rw [if_pos hs]
    have hsI : (v : Int) < 2 ^ (n - 1) := by exact_mod_cast hs
    have : (v : Int) * 2 ^ (64 - n) < 9223372036854775808 := by
      rw [← eh]
      exact Int.mul_lt_mul_of_pos_right hsI hp
    rw [IntWalk.i64_in _ (by omega), hfd]
  · rw [if_neg hs]
    have hsI : (2 : Int) ^ (n - 1) ≤ v := by
      have : 2 ^ (n - 1) ≤ v := by omega
      exact_mod_cast this
    have : (9223372036854775808 : Int) ≤ v * 2 ^ (64 - n) := by
      rw [← eh]
      exact Int.mul_le_mul_of_nonneg_right hsI (by omega)
    have ew : IntKind.i64.wrap ((v : Int) * 2 ^ (64 - n)) = ((v : Int) - 2 ^ n) * 2 ^ (64 - n) := by
      rw [IntKind.wrap_i64, Int.sub_mul, e64]
      omega
    rw [ew, hfd]
end Go.Proofs.YtpkplhmdnjdmoaaGreatDoor

/- package rice by its contracts, the first part: wide, parameter, Fold, Unfold, Cost, Sum, Best. -/
namespace Go.Proofs.YtpkplhmdnjdmoaaGreatDoor
set_option linter.unusedSimpArgs false
set_option linter.unusedVariables false
open Go.RowKit

def vi (x : Int) : Value := .int .i64 x
theorem vi_one (l : List Int) : ∀ u ∈ l.map vi, u.oneCell' = true := by
  intro u hu
  obtain ⟨d, _, rfl⟩ := List.mem_map.1 hu
  rfl
theorem int_elem : Elem Tryz.prog 29 3 (.int .i64 0) 1 8 := .mk' Tryz.underlying29 (by kernel_rfl)
/-- The cell at a place of a slice that is read. -/
theorem Cells.at_ {α : Type} {f : α → Value} {w : World} {A : Option Addr} {l : List α} (h : Cells f w A l) {m : Nat} (hm : m < l.length) :
    ∃ b o, A = some ⟨b, o, none⟩ ∧ w.cell? ⟨b, o + m, none⟩ = some (f l[m]) := by
  obtain ⟨b, o, e, _, hc⟩ := h.ex (by omega)
  exact ⟨b, o, e, hc m _ (List.getElem?_eq_getElem hm)⟩

theorem wide_yes (x : Int) (w : World) (h : wideP x) : Calls Tryz.prog 93 #[.int .i64 x] w fun e w' => e = .returned (.bool true) ∧ w = w' := by
  obtain ⟨h1, h2⟩ := h
  have t1 : decide ((-1073741824 : Int) ≤ x) = true := by simpa using h1
  have t2 : decide (x < (1073741824 : Int)) = true := by simpa using h2
  go_enter Tryz.func93, Tryz.ntmps93
  go_wp2
  go_ret
  exact ⟨rfl, rfl⟩
theorem param_yes (k : Nat) (w : World) (h : k ≤ 25) : Calls Tryz.prog 92 #[.int .i64 k] w fun e w' => e = .returned (.bool true) ∧ w = w' := by
  have t1 : decide ((0 : Int) ≤ (k : Int)) = true := by simp
  have t2 : decide ((k : Int) ≤ (25 : Int)) = true := by simp; omega
  go_enter Tryz.func92, Tryz.ntmps92
  go_wp2
  go_ret
  exact ⟨rfl, rfl⟩
theorem rfold_ok (x : Int) (w : World) (h : wideP x) : Calls Tryz.prog 94 #[.int .i64 x] w fun e w' => e = .returned (.int .u64 (rfold x)) ∧ w = w' := by
  have hh := h
  obtain ⟨h1, h2⟩ := h
  by_cases hx : 0 ≤ x
  · have t1 : decide ((0 : Int) ≤ x) = true := by simpa using hx
    go_enter Tryz.func94, Tryz.ntmps94
    go_wp2_with (go_at_call 93; refine (wide_yes _ _ hh).mono ?_; rintro e w' ⟨rfl, rfl⟩)
    go_ret
    refine ⟨?_, rfl⟩
    have : ((rfold x : Nat) : Int) = 2 * x := by unfold rfold; rw [if_pos hx]; omega
    rw [this]
    rfl
  · have t1 : decide ((0 : Int) ≤ x) = false := by simpa using hx
    have hf : ((rfold x : Nat) : Int) = -(2 * x) - 1 := by unfold rfold; rw [if_neg hx]; omega
    have HF := hid hf
    clear hf
    go_enter Tryz.func94, Tryz.ntmps94
    go_wp2_with (go_at_call 93; refine (wide_yes _ _ hh).mono ?_; rintro e w' ⟨rfl, rfl⟩)
    go_ret
    refine ⟨?_, rfl⟩
    rw [HF.out]
    first | rfl | (go_num)
theorem unfold_ok (u : Nat) (w : World) (h : u < 2147483648) : Calls Tryz.prog 59 #[.int .u64 u] w fun e w' => e = .returned (.int .i64 (unfoldI u)) ∧ w = w' := by
  have t0 : decide ((2147483648 : Int) ≤ (u : Int)) = false := by simp; omega
  by_cases hx : u % 2 = 0
  · have t1 : ((u : Int) % 2 == 0) = true := by rw [beq_iff_eq]; omega
    have hf : unfoldI u = (u : Int) / 2 := by unfold unfoldI; rw [if_pos hx]; omega
    have HF := hid hf
    clear hf hx
    go_enter Tryz.func59, Tryz.ntmps59
    go_wp2
    go_ret
    rw [HF.out]
    exact ⟨rfl, rfl⟩
  · have t1 : ((u : Int) % 2 == 0) = false := by rw [beq_eq_false_iff_ne]; omega
    have hf : unfoldI u = -((u : Int) / 2) - 1 := by unfold unfoldI; rw [if_neg hx]; omega
    have HF := hid hf
    clear hf hx
    go_enter Tryz.func59, Tryz.ntmps59
    go_wp2
    go_ret
    rw [HF.out]
    exact ⟨rfl, rfl⟩
theorem rcost_ok (k : Nat) (x : Int) (w : World) (hk : k ≤ 25) (h : wideP x) : Calls Tryz.prog 132 #[.int .i64 k, .int .i64 x] w fun e w' => e = .returned (.int .i64 (rcost k x)) ∧ w = w' := by
  have hu := rfold_lt h
  obtain ⟨u, hu'⟩ : ∃ u, u = rfold x := ⟨_, rfl⟩
  have hfo := rfold_ok x w h
  rw [← hu'] at hu hfo
  have hq : u / 2 ^ k ≤ u := Nat.div_le_self _ _
  obtain ⟨q, hq'⟩ : ∃ q, q = u / 2 ^ k := ⟨_, rfl⟩
  have e1 : (u : Int) / 2 ^ k = (q : Int) := by rw [hq']; simp
  rw [← hq'] at hq
  have hf : rcost k x = if q < 32 then q + 1 + k else 65 := by unfold rcost; rw [← hu', ← hq']
  have HF := hid hf
  clear hf hu' hq'
  by_cases hs : q < 32
  · have t1 : decide ((q : Int) < 32) = true := by simp; omega
    go_enter Tryz.func132, Tryz.ntmps132
    go_wp2_with (first | (go_at_call 92; refine (param_yes _ _ hk).mono ?_; rintro e w' ⟨rfl, rfl⟩) | (go_at_call 93; refine (wide_yes _ _ h).mono ?_; rintro e w' ⟨rfl, rfl⟩) | (go_at_call 94; refine hfo.mono ?_; rintro e w' ⟨rfl, rfl⟩))
    go_ret
    rw [HF.out, if_pos hs]
    refine ⟨?_, rfl⟩
    first | rfl | (go_num)
  · have t1 : decide ((q : Int) < 32) = false := by simp; omega
    go_enter Tryz.func132, Tryz.ntmps132
    go_wp2_with (first | (go_at_call 92; refine (param_yes _ _ hk).mono ?_; rintro e w' ⟨rfl, rfl⟩) | (go_at_call 93; refine (wide_yes _ _ h).mono ?_; rintro e w' ⟨rfl, rfl⟩) | (go_at_call 94; refine hfo.mono ?_; rintro e w' ⟨rfl, rfl⟩))
    go_ret
    rw [HF.out, if_neg hs]
    exact ⟨rfl, rfl⟩
theorem rsum_snoc (k : Nat) (l : List Int) (x : Int) : rsum k (l ++ [x]) = rsum k l + rcost k x := by simp [rsum]
theorem take_snoc' {α : Type} (l : List α) {m : Nat} (h : m < l.length) : l.take (m + 1) = l.take m ++ [l[m]] := by
  rw [List.take_succ_eq_append_getElem h]
set_option maxRecDepth 100000 in
theorem rsum_ok (k : Nat) (l : List Int) (A : Option Addr) (cap : Nat) (w : World) (hk : k ≤ 25) (hw : ∀ x ∈ l, wideP x) (hc : Cells vi w A l) (hl : l.length ≤ 1099511627776) :
    Calls Tryz.prog 90 #[.int .i64 k, .slice A l.length cap] w fun e w' => e = .returned (.int .i64 (rsum k l)) ∧ w = w' := by
  have HW := hid hw
  clear hw
  obtain ⟨n, hn⟩ : ∃ n, n = l.length := ⟨_, rfl⟩
  rw [← hn] at hl ⊢
  have HN := hid hn
  clear hn
  go_enter Tryz.func90, Tryz.ntmps90
  go_wp2_with fail
  go_loopg [5, 10] n (fun j s i wr => j ≤ n ∧ i = .int .i64 ((n - j : Nat) : Int) ∧ s = .int .i64 ((rsum k (l.take (n - j)) : Nat) : Int) ∧ w = wr)
  case atStart => exact ⟨Nat.le_refl _, by simp, by simp [rsum], rfl⟩
  case round =>
    obtain ⟨hj, rfl, rfl, rfl⟩ := hrel
    rcases gk with _ | j
    · have t4 : decide (((n - 0 : Nat) : Int) < (n : Int)) = false := by simp
      have e : l.take n = l := by rw [HN.out, List.take_length]
      rw [Nat.sub_zero, e]
      go_wp2
      go_ret
      exact ⟨rfl, rfl⟩
    · obtain ⟨m, hm1⟩ : ∃ m, m = n - (j + 1) := ⟨_, rfl⟩
      rw [← hm1]
      have hm2 : m < n := by omega
      have hm3 : n - j = m + 1 := by omega
      have HM := hid hm3
      clear hm1 hm3
      have hml : m < l.length := by rw [← HN.out]; exact hm2
      obtain ⟨b, o, rfl, hcell⟩ := hc.at_ hml
      have hsn := rsum_snoc k (l.take m) l[m]
      rw [← take_snoc' l hml] at hsn
      have hle := rsum_le k (l.take m) hk
      rw [List.length_take] at hle
      obtain ⟨x, hx⟩ : ∃ x, x = l[m] := ⟨_, rfl⟩
      rw [← hx] at hcell hsn
      have hcell' : w.cell? ⟨b, o + m, none⟩ = some (.int .i64 x) := hcell
      have hxw : wideP x := by rw [hx]; exact HW.out _ (List.getElem_mem _)
      obtain ⟨s, hs⟩ : ∃ s, s = rsum k (l.take m) := ⟨_, rfl⟩
      rw [← hs] at hsn hle ⊢
      have hle2 := rcost_le k x hk
      have HS := hid hsn
      have hs65 : s ≤ 65 * n := by omega
      have hct := rcost_ok k x w hk hxw
      obtain ⟨c, hc'⟩ : ∃ c, c = rcost k x := ⟨_, rfl⟩
      rw [← hc'] at hct hle2
      have HC := hid hc'
      clear hsn hcell hx hs hle hc' hml
      go_wp2_with (go_at_call 132; refine hct.mono ?_; rintro e w' ⟨rfl, rfl⟩)
      go_roundg j
      case measure => omega
      case rel =>
        rw [HM.out, HS.out, ← HC.out]
        exact ⟨by omega, by go_num, by go_num, rfl⟩
set_option maxRecDepth 100000 in
theorem rbest_ok (l : List Int) (A : Option Addr) (cap : Nat) (w : World) (hw : ∀ x ∈ l, wideP x) (hc : Cells vi w A l) (hl : l.length ≤ 1099511627776) :
    Calls Tryz.prog 61 #[.slice A l.length cap] w fun e w' => e = .returned (.int .i64 (rbest l)) ∧ w = w' := by
  have hsum := fun k (hk : k ≤ 25) => rsum_ok k l A cap w hk hw hc hl
  have hs0 := hsum 0 (by omega)
  have HSum := hid hsum
  clear hsum hw hc
  go_enter Tryz.func61, Tryz.ntmps61
  go_wp2_with fail
  refine hs0.mono ?_
  rintro e w' ⟨rfl, rfl⟩
  clear hs0
  go_wp2_with fail
  go_loopg [3, 4, 5] 25 (fun j b s i wr => j ≤ 25 ∧ b = .int .i64 (bestUpTo l (25 - j)) ∧ s = .int .i64 (rsum (bestUpTo l (25 - j)) l) ∧ i = .int .i64 ((26 - j : Nat) : Int) ∧ w = wr)
  case atStart => exact ⟨Nat.le_refl _, rfl, rfl, rfl, rfl⟩
  case round =>
    obtain ⟨hj, rfl, rfl, rfl, rfl⟩ := hrel
    rcases gk with _ | j
    · have t4 : decide (((26 - 0 : Nat) : Int) ≤ (25 : Int)) = false := by simp
      go_wp2
      go_ret
      exact ⟨rfl, rfl⟩
    · obtain ⟨m, hm1⟩ : ∃ m, m = 25 - (j + 1) := ⟨_, rfl⟩
      rw [← hm1]
      have hm2 : m < 25 := by omega
      have hm3 : 25 - j = m + 1 := by omega
      have hm4 : 26 - (j + 1) = m + 1 := by omega
      have hm5 : 26 - j = m + 2 := by omega
      rw [hm4]
      have HM := hid hm3
      have HM5 := hid hm5
      have hst : bestUpTo l (m + 1) = if rsum (m + 1) l < rsum (bestUpTo l m) l then m + 1 else bestUpTo l m := rfl
      have HS := hid hst
      have hcall := HSum.out (m + 1) (by omega)
      obtain ⟨s, hs⟩ : ∃ s, s = rsum (m + 1) l := ⟨_, rfl⟩
      obtain ⟨b, hb⟩ : ∃ b, b = bestUpTo l m := ⟨_, rfl⟩
      rw [← hs] at hcall
      rw [← hb]
      obtain ⟨t, ht⟩ : ∃ t, t = rsum b l := ⟨_, rfl⟩
      rw [← ht]
      have HB := hid hb
      have HT := hid ht
      have HSs := hid hs
      clear hst hm1 hm3 hm4 hm5 hb ht hs
      have hcast : ((m + 1 : Nat) : Int) = (m : Int) + 1 := by omega
      by_cases hlt : s < t
      · have t5 : decide (s < t) = true := by simpa using hlt
        go_wp2_with (go_at_call 90; refine hcall.mono ?_; rintro e w' ⟨rfl, rfl⟩)
        go_roundg j
        case measure => omega
        case rel =>
          rw [HM.out, HM5.out, HS.out, ← HB.out, ← HSs.out, ← HT.out, if_pos hlt, ← HSs.out]
          exact ⟨by omega, by go_num, rfl, by go_num, rfl⟩
      · have t5 : decide (s < t) = false := by simpa using hlt
        go_wp2_with (go_at_call 90; refine hcall.mono ?_; rintro e w' ⟨rfl, rfl⟩)
        go_roundg j
        case measure => omega
        case rel =>
          rw [HM.out, HM5.out, HS.out, ← HB.out, ← HSs.out, ← HT.out, if_neg hlt, ← HT.out]
          exact ⟨by omega, rfl, rfl, by go_num, rfl⟩
end Go.Proofs.YtpkplhmdnjdmoaaGreatDoor

/- Copies of samples in plain Lean: points nearby, codes of distances, tokens. No program. -/
namespace Go.Proofs.YtpkplhmdnjdmoaaGreatDoor

def ptList : List (Int × Int) := [(0, 1), (1, 0), (1, 1), (-1, 1), (0, 2), (2, 0), (1, 2), (-1, 2), (2, 1), (-2, 1), (2, 2), (-2, 2), (0, 3), (3, 0), (1, 3), (-1, 3), (3, 1), (-3, 1), (2, 3), (-2, 3), (3, 2), (-3, 2), (0, 4), (4, 0)]
def ptX (i : Nat) : Int := (ptList.getD i (0, 0)).1
def ptY (i : Nat) : Int := (ptList.getD i (0, 0)).2
theorem pt_ok (i : Nat) : -4 ≤ ptX i ∧ ptX i ≤ 4 ∧ 0 ≤ ptY i ∧ ptY i ≤ 4 := by
  rcases Nat.lt_or_ge i 24 with h | h
  · have : ∀ i : Fin 24, -4 ≤ ptX i.1 ∧ ptX i.1 ≤ 4 ∧ 0 ≤ ptY i.1 ∧ ptY i.1 ≤ 4 := by decide
    exact this ⟨i, h⟩
  · have : ptList.getD i (0, 0) = (0, 0) := by rw [List.getD_eq_getElem?_getD, List.getElem?_eq_none (by simpa [ptList] using h)]; rfl
    unfold ptX ptY
    rw [this]
    decide
/-- The distance that a code stands for. -/
def nearI (c W : Nat) : Int := if 24 < c then (c : Int) - 24 else max (ptY (c - 1) * W + ptX (c - 1)) 1
theorem nearI_ok {c W : Nat} (h1 : c ≤ 1048) (hw : W ≤ 64) : 1 ≤ nearI c W ∧ nearI c W ≤ 1024 := by
  obtain ⟨p0, p1, p2, p3⟩ := pt_ok (c - 1)
  have h2 : ptY (c - 1) * (W : Int) ≤ 4 * 64 := Int.mul_le_mul p3 (by omega) (by omega) (by omega)
  unfold nearI
  split <;> omega
def codeFrom (d W : Nat) : Nat → Nat → Nat
  | 0, _ => d + 24
  | f + 1, c => if nearI c W = d then c else codeFrom d W f (c + 1)
/-- The smallest code of a distance. -/
def codeN (d W : Nat) : Nat := codeFrom d W 24 1
theorem codeFrom_ok {d W : Nat} (hd : 1 ≤ d) : ∀ f c, c + f = 25 → 1 ≤ c → (1 ≤ codeFrom d W f c ∧ codeFrom d W f c ≤ d + 24) ∧ nearI (codeFrom d W f c) W = d
  | 0, c, h, h1 => by
    refine ⟨by simp only [codeFrom]; omega, ?_⟩
    have e : codeFrom d W 0 c = d + 24 := rfl
    rw [e]
    unfold nearI
    rw [if_pos (by omega)]
    omega
  | f + 1, c, h, h1 => by
    unfold codeFrom
    split
    · rename_i hn
      exact ⟨by omega, hn⟩
    · exact codeFrom_ok hd f (c + 1) (by omega) (by omega)
theorem codeN_ok {d W : Nat} (hd : 1 ≤ d) : (1 ≤ codeN d W ∧ codeN d W ≤ d + 24) ∧ nearI (codeN d W) W = d := codeFrom_ok hd 24 1 rfl (by omega)

/-- A token: a literal (no length, no distance) or a copy. -/
structure Tok where
  len : Nat
  dist : Nat
  lit : Int
def Tok.isLit (t : Tok) : Bool := decide (t.len = 0) && decide (t.dist = 0)
def Tok.isCopy (t : Tok) : Bool := decide (3 ≤ t.len) && decide (t.len ≤ 64) && decide (1 ≤ t.dist) && decide (t.dist ≤ 1024) && decide (t.lit = 0)
def Tok.ok (t : Tok) : Prop := t.isLit = true ∨ t.isCopy = true
theorem Tok.isLit_iff {t : Tok} : t.isLit = true ↔ t.len = 0 ∧ t.dist = 0 := by simp [Tok.isLit]
theorem Tok.isCopy_iff {t : Tok} : t.isCopy = true ↔ 3 ≤ t.len ∧ t.len ≤ 64 ∧ 1 ≤ t.dist ∧ t.dist ≤ 1024 ∧ t.lit = 0 := by simp [Tok.isCopy, and_assoc]
def tokCells (t : Tok) : List Go.Value := [.int .i64 t.len, .int .i64 t.dist, .int .i64 t.lit]
def tokV (t : Tok) : Go.Value := .agg #[.int .i64 t.len, .int .i64 t.dist, .int .i64 t.lit]
theorem tok_flat_len (l : List Tok) : (l.flatMap tokCells).length = 3 * l.length := by
  induction l with
  | nil => rfl
  | cons t l ih => rw [List.flatMap_cons, List.length_append, ih]; simp [tokCells]; omega
theorem tok_flat_get {l : List Tok} {i : Nat} {t : Tok} (h : l[i]? = some t) :
    (l.flatMap tokCells)[i * 3]? = some (.int .i64 t.len) ∧ (l.flatMap tokCells)[i * 3 + 1]? = some (.int .i64 t.dist) ∧ (l.flatMap tokCells)[i * 3 + 2]? = some (.int .i64 t.lit) := by
  induction l generalizing i with
  | nil => simp at h
  | cons s l ih =>
    rw [List.flatMap_cons]
    have hl : (tokCells s).length = 3 := rfl
    cases i with
    | zero =>
      simp at h
      subst h
      refine ⟨rfl, rfl, rfl⟩
    | succ i =>
      obtain ⟨a, b, c⟩ := ih (by simpa using h)
      refine ⟨?_, ?_, ?_⟩
      · rw [List.getElem?_append_right (by omega), hl, show (i + 1) * 3 - 3 = i * 3 by omega]; exact a
      · rw [List.getElem?_append_right (by omega), hl, show (i + 1) * 3 + 1 - 3 = i * 3 + 1 by omega]; exact b
      · rw [List.getElem?_append_right (by omega), hl, show (i + 1) * 3 + 2 - 3 = i * 3 + 2 by omega]; exact c
end Go.Proofs.YtpkplhmdnjdmoaaGreatDoor

/- package match by its contracts: Near, Code, isLiteral, isCopy. -/
namespace Go.Proofs.YtpkplhmdnjdmoaaGreatDoor
set_option linter.unusedSimpArgs false
set_option linter.unusedVariables false
open Go.RowKit

/-- The points nearby, as the program has laid them. -/
structure Pts (w : World) : Prop where
  px : ∀ i, i < 24 → w.cell? ⟨0, i * 2, none⟩ = some (.int .i64 (ptX i))
  py : ∀ i, i < 24 → w.cell? ⟨0, i * 2 + 1, none⟩ = some (.int .i64 (ptY i))
  lt : 0 < w.heap.size
theorem Pts.chg {w w' : World} {F : List Nat} (h : Pts w) (hc : Chg F w w') (hF : 0 ∉ F) : Pts w' :=
  ⟨fun i hi => (World.cell?_of_block (w := w) (hc.block 0 h.lt hF)).trans (h.px i hi), fun i hi => (World.cell?_of_block (w := w) (hc.block 0 h.lt hF)).trans (h.py i hi), Nat.lt_of_lt_of_le h.lt hc.size⟩
theorem Pts.same {w w' : World} (h : Pts w) (hc : Chg [] w w') : Pts w' := h.chg hc (by simp)

set_option maxRecDepth 100000 in
set_option maxHeartbeats 1000000 in
theorem mnear_ok (c W : Nat) (w : World) (h : Pts w) (h0 : 1 ≤ c) (h1 : c ≤ 1048) (hw0 : 1 ≤ W) (hw1 : W ≤ 64) :
    Calls Tryz.prog 103 #[.int .i64 c, .int .i64 W] w fun e w' => e = .returned (.int .i64 (nearI c W)) ∧ ∃ n, w' = w.drewN n := by
  have t1 : decide ((c : Int) < 1) = false := decide_eq_false (by omega)
  have t2 : decide ((1048 : Int) < (c : Int)) = false := decide_eq_false (by omega)
  have t3 : decide ((W : Int) < 1) = false := decide_eq_false (by omega)
  have t4 : decide ((64 : Int) < (W : Int)) = false := decide_eq_false (by omega)
  by_cases hb : 24 < c
  · have t5 : decide ((24 : Int) < (c : Int)) = true := decide_eq_true (by omega)
    have e : nearI c W = (c : Int) - 24 := by unfold nearI; rw [if_pos hb]
    rw [e]
    go_enter Tryz.func103, Tryz.ntmps103
    go_wp2
    go_ret
    exact ⟨rfl, 0, rfl⟩
  · have t5 : decide ((24 : Int) < (c : Int)) = false := decide_eq_false (by omega)
    obtain ⟨i, hi⟩ : ∃ i, c = i + 1 := ⟨c - 1, by omega⟩
    subst hi
    have hi24 : i < 24 := by omega
    obtain ⟨p0, p1, p2, p3⟩ := pt_ok i
    have e : nearI (i + 1) W = max (ptY i * W + ptX i) 1 := by unfold nearI; rw [if_neg hb]; rfl
    have cx := h.px i hi24
    have cy := h.py i hi24
    rw [e]
    have e1 : ((i + 1 : Nat) : Int) - 1 = (i : Int) := by omega
    generalize ptX i = x at *
    generalize ptY i = y at *
    obtain ⟨m, hm⟩ : ∃ m, m = y * (W : Int) := ⟨_, rfl⟩
    have hm0 : 0 ≤ m := by rw [hm]; exact Int.mul_nonneg p2 (by omega)
    have hm1 : m ≤ 256 := by rw [hm]; exact Int.mul_le_mul (c := 4) (d := 64) p3 (by omega) (by omega) (by omega)
    rw [← hm]
    have hm' : y * (W : Int) = m := hm.symm
    clear e hm hb
    go_enter Tryz.func103, Tryz.ntmps103
    go_wp2_with fail
    go_quiet (fail)
    go_wp2_with fail
    all_goals
      go_ret
      exact ⟨congrArg (fun z => Ending.returned (.int .i64 z)) (show _ = max (m + x) 1 by omega), nq, rfl⟩

set_option maxRecDepth 100000 in
set_option maxHeartbeats 1000000 in
theorem mcode_ok (d W : Nat) (w : World) (h : Pts w) (h0 : 1 ≤ d) (h1 : d ≤ 1024) (hw0 : 1 ≤ W) (hw1 : W ≤ 64) :
    Calls Tryz.prog 60 #[.int .i64 d, .int .i64 W] w fun e w' => e = .returned (.int .i64 (codeN d W)) ∧ ∃ n, w' = w.drewN n := by
  have t1 : decide ((d : Int) < 1) = false := decide_eq_false (by omega)
  have t2 : decide ((1024 : Int) < (d : Int)) = false := decide_eq_false (by omega)
  have t3 : decide ((W : Int) < 1) = false := decide_eq_false (by omega)
  have t4 : decide ((64 : Int) < (W : Int)) = false := decide_eq_false (by omega)
  have hd : codeN d W = codeFrom d W 24 1 := rfl
  have hn := fun c (n : Nat) (a : 1 ≤ c) (b : c ≤ 1048) => mnear_ok c W (w.drewN n) (h.same ((Chg.refl [] w).drewN n)) a b hw0 hw1
  have HD := hid hd
  have HN := hid hn
  clear hd hn h
  go_enter Tryz.func60, Tryz.ntmps60
  go_wp2_with fail
  go_loopg [5] 24 (fun j iv wr => ∃ c n : Nat, iv = .int .i64 (c : Int) ∧ c + j = 25 ∧ 1 ≤ c ∧ codeN d W = codeFrom d W j c ∧ wr = w.drewN n)
  case atStart => exact ⟨1, 0, rfl, rfl, Nat.le_refl _, HD.out, rfl⟩
  case round =>
    obtain ⟨c, n, rfl, hj, hc1, hcd, rfl⟩ := hrel
    rcases gk with _ | j
    · have t5 : decide ((c : Int) ≤ 24) = false := decide_eq_false (by omega)
      go_wp2
      go_ret
      rw [hcd]
      exact ⟨congrArg (fun z => Ending.returned (.int .i64 z)) (show (d : Int) + 24 = ((d + 24 : Nat) : Int) by omega), n, rfl⟩
    · have t5 : decide ((c : Int) ≤ 24) = true := decide_eq_true (by omega)
      have hne := HN.out c n hc1 (by omega)
      have hno := nearI_ok (c := c) (W := W) (by omega) hw1
      have hcf : codeFrom d W (j + 1) c = if nearI c W = d then c else codeFrom d W j (c + 1) := rfl
      generalize nearI c W = nr at *
      by_cases hq : nr = (d : Int)
      · have t6 : (nr == (d : Int)) = true := by simpa using hq
        rw [if_pos hq] at hcf
        have HQ := hid hcf
        clear hq hcf
        go_wp2_with fail
        refine hne.mono ?_
        rintro e w' ⟨rfl, k, rfl⟩
        go_wp2_with fail
        go_ret
        rw [hcd, HQ.out]
        exact ⟨rfl, n + k, by first | rfl | rw [World.drewN_drewN]⟩
      · have t6 : (nr == (d : Int)) = false := by simpa using hq
        rw [if_neg hq] at hcf
        have HQ := hid hcf
        have HCD := hid hcd
        clear hq hcf hcd
        go_wp2_with fail
        refine hne.mono ?_
        rintro e w' ⟨rfl, k, rfl⟩
        go_wp2_with fail
        go_roundg j
        case measure => omega
        case rel =>
          exact ⟨c + 1, n + k, by go_num, by omega, by omega, by rw [HCD.out, HQ.out], by first | rfl | rw [World.drewN_drewN]⟩

set_option maxRecDepth 100000 in
theorem isLit_ok (t : Tok) (w : World) : Calls Tryz.prog 58 #[tokV t] w fun e w' => e = .returned (.bool t.isLit) ∧ Chg [] w w' := by
  obtain ⟨a, b, c⟩ := t
  have e : Tok.isLit ⟨a, b, c⟩ = ((a : Int) == 0 && (b : Int) == 0) := by
    unfold Tok.isLit
    rw [Bool.eq_iff_iff]
    simp
  rw [e]
  have ch : Chg [] w w := Chg.refl _ _
  have HC : Hid (∀ o, Chg [] w (w.alloc o)) := hid fun o => (Chg.refl [] w).alloc o
  show Calls _ _ #[.agg #[.int .i64 a, .int .i64 b, .int .i64 c]] _ _
  by_cases ha : (a : Int) = 0
  · have t1 : ((a : Int) == 0) = true := by simpa using ha
    go_enter Tryz.func58, Tryz.ntmps58
    go_wp2_with fail
    go_ret
    refine ⟨?_, HC.out _⟩
    rw [ha]
    rfl
  · have t1 : ((a : Int) == 0) = false := by simpa using ha
    go_enter Tryz.func58, Tryz.ntmps58
    go_wp2_with fail
    go_ret
    refine ⟨?_, HC.out _⟩
    rw [t1]
    rfl
set_option maxRecDepth 100000 in
theorem isCopy_ok (t : Tok) (w : World) (h : t.isCopy = true) : Calls Tryz.prog 102 #[tokV t] w fun e w' => e = .returned (.bool true) ∧ Chg [] w w' := by
  rw [Tok.isCopy_iff] at h
  obtain ⟨a, b, c⟩ := t
  obtain ⟨h1, h2, h3, h4, h5⟩ := h
  simp only at h1 h2 h3 h4 h5
  subst h5
  have t1 : decide ((3 : Int) ≤ (a : Int)) = true := decide_eq_true (by omega)
  have t2 : decide ((a : Int) ≤ 64) = true := decide_eq_true (by omega)
  have t3 : decide ((1 : Int) ≤ (b : Int)) = true := decide_eq_true (by omega)
  have t4 : decide ((b : Int) ≤ 1024) = true := decide_eq_true (by omega)
  have HC : Hid (∀ o, Chg [] w (w.alloc o)) := hid fun o => (Chg.refl [] w).alloc o
  show Calls _ _ #[.agg #[.int .i64 a, .int .i64 b, .int .i64 0]] _ _
  go_enter Tryz.func102, Tryz.ntmps102
  go_wp2_with fail
  go_ret
  exact ⟨rfl, HC.out _⟩

/-- Tokens in memory. -/
def Toks (w : World) (A : Option Addr) (l : List Tok) : Prop := Cells (fun u => u) w A (l.flatMap tokCells)
theorem Toks.at_ {w : World} {A : Option Addr} {l : List Tok} (h : Toks w A l) {m : Nat} {t : Tok} (hm : l[m]? = some t) :
    ∃ g o, A = some ⟨g, o, none⟩ ∧ w.cell? ⟨g, o + m * 3, none⟩ = some (.int .i64 t.len) ∧ w.cell? ⟨g, o + m * 3 + 1, none⟩ = some (.int .i64 t.dist) ∧ w.cell? ⟨g, o + m * 3 + 2, none⟩ = some (.int .i64 t.lit) := by
  obtain ⟨a, b, c⟩ := tok_flat_get hm
  have h0 := (List.getElem?_eq_some_iff.1 a).1
  obtain ⟨g, o, rfl, _, hc⟩ := h.ex (by omega)
  exact ⟨g, o, rfl, hc _ _ a, hc _ _ b, hc _ _ c⟩
theorem Toks.chg {w w' : World} {A : Option Addr} {l : List Tok} {F : List Nat} (h : Toks w A l) (hc : Chg F w w') (hA : ∀ ad, A = some ad → ad.block ∉ F) : Toks w' A l := Cells.chg h hc hA
theorem Toks.same {w w' : World} {A : Option Addr} {l : List Tok} (h : Toks w A l) (hc : Chg [] w w') : Toks w' A l := Cells.same h hc

set_option maxRecDepth 100000 in
set_option maxHeartbeats 1000000 in
theorem may_ok (l : List Tok) (A : Option Addr) (cap : Nat) (w : World) (hl : l.length ≤ 1099511627776) (hok : ∀ t ∈ l, t.ok) (hc : Toks w A l) :
    Calls Tryz.prog 57 #[.slice A l.length cap] w fun e w' => e = .returned (.bool true) ∧ Chg [] w w' := by
  obtain ⟨n, hn⟩ : ∃ n, n = l.length := ⟨_, rfl⟩
  rw [← hn] at hl ⊢
  have HN := hid hn
  have HK := hid hok
  clear hn hok
  go_enter Tryz.func57, Tryz.ntmps57
  go_wp2_with fail
  go_loopg [7] n (fun j iv wr => ∃ i : Nat, iv = .int .i64 (i : Int) ∧ i + j = n ∧ Chg [] w wr)
  case atStart => exact ⟨0, rfl, by omega, Chg.refl _ _⟩
  case round =>
    obtain ⟨i, rfl, hj, hch⟩ := hrel
    rcases gk with _ | j
    · obtain rfl : i = n := by omega
      go_wp2
      go_ret
      exact ⟨rfl, hch⟩
    · have hin : i < n := by omega
      have hil : i < l.length := by rw [← HN.out]; exact hin
      have htk := HK.out l[i] (List.getElem_mem hil)
      obtain ⟨t, ht⟩ : ∃ t, t = l[i] := ⟨_, rfl⟩
      have hget : l[i]? = some t := by rw [ht]; exact List.getElem?_eq_getElem hil
      rw [← ht] at htk
      obtain ⟨g, o, rfl, c1, c2, c3⟩ := (hc.same hch).at_ hget
      have hlit := fun w => isLit_ok t w
      have hcp := fun w h => isCopy_ok t w h
      have htv : tokV t = .agg #[.int .i64 t.len, .int .i64 t.dist, .int .i64 t.lit] := rfl
      unfold Tok.ok at htk
      rw [htv] at hlit hcp
      generalize t.len = ta at *
      generalize t.dist = tb at *
      generalize t.lit = tc at *
      clear hget ht hil htv
      have hb := Blk.new wr 91 #[.int .i64 ta, .int .i64 tb, .int .i64 tc]
      have ch1 := (Chg.refl [] wr).alloc (.cells #[.int .i64 ta, .int .i64 tb, .int .i64 tc] 91)
      go_wp2_with fail
      refine (hlit _).mono ?_
      rintro e w2 ⟨rfl, ch2⟩
      have hb2 := hb.chg ch2 (by simp)
      have b0 := hb2.cell 0
      have b1 := hb2.cell 1
      have b2 := hb2.cell 2
      simp only [List.size_toArray, List.length_cons, List.length_nil, List.getElem?_toArray, List.getElem?_cons_zero, List.getElem?_cons_succ] at b0 b1 b2
      have ch3 := hch.trans_same (ch1.trans_same ch2)
      cases hlt : t.isLit with
      | true =>
        go_wp2_with fail
        go_roundg j
        case measure => omega
        case rel => exact ⟨i + 1, by go_num, by omega, ch3⟩
      | false =>
        rw [hlt] at htk
        have htk2 : t.isCopy = true := by rcases htk with h | h; cases h; exact h
        go_wp2_with fail
        refine (hcp _ htk2).mono ?_
        rintro e w3 ⟨rfl, ch4⟩
        go_wp2_with fail
        go_roundg j
        case measure => omega
        case rel => exact ⟨i + 1, by go_num, by omega, ch3.trans_same ch4⟩
end Go.Proofs.YtpkplhmdnjdmoaaGreatDoor
