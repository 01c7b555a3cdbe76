/- Samples of a plane in plain Lean: wrapping and folding, neighbours and guesses, and the Rice code of one number. No program. -/
import Derived.Test.YtpkplhmdnjdmoaaGreatDoorMg01
set_option linter.unusedVariables false
set_option linter.unusedSimpArgs false
namespace Go.Proofs.YtpkplhmdnjdmoaaGreatDoor

def wrapI (v : Int) (d : Nat) : Int := v % 2 ^ d
def foldI (v : Int) (d : Nat) : Int := if 2 ^ (d - 1) ≤ wrapI v d then wrapI v d - 2 ^ d else wrapI v d

theorem two_pow_pos' (d : Nat) : (0 : Int) < 2 ^ d := Int.pow_pos (by decide)
theorem two_pow_half {d : Nat} (hd : 1 ≤ d) : (2 : Int) ^ d = 2 * 2 ^ (d - 1) := by
  obtain ⟨e, rfl⟩ : ∃ e, d = e + 1 := ⟨d - 1, by omega⟩
  rw [Nat.add_sub_cancel, Int.pow_succ]; omega
theorem wrapI_lo (v : Int) (d : Nat) : 0 ≤ wrapI v d := Int.emod_nonneg _ (by have := two_pow_pos' d; omega)
theorem wrapI_hi (v : Int) (d : Nat) : wrapI v d < 2 ^ d := Int.emod_lt_of_pos _ (two_pow_pos' d)
theorem wrapI_in {v : Int} {d : Nat} (h0 : 0 ≤ v) (h1 : v < 2 ^ d) : wrapI v d = v := Int.emod_eq_of_lt h0 h1
theorem foldI_range (v : Int) {d : Nat} (hd : 1 ≤ d) : -2 ^ (d - 1) ≤ foldI v d ∧ foldI v d < 2 ^ (d - 1) := by
  have h0 := wrapI_lo v d
  have h1 := wrapI_hi v d
  have h2 := two_pow_half hd
  unfold foldI
  generalize wrapI v d = u at *
  generalize (2 : Int) ^ (d - 1) = p at *
  generalize (2 : Int) ^ d = q at *
  split <;> omega
theorem foldI_wrap (v : Int) (d : Nat) : wrapI (foldI v d) d = wrapI v d := by
  unfold foldI
  split
  · unfold wrapI
    rw [← Int.emod_add_mul_ediv (v % 2 ^ d - 2 ^ d) (2 ^ d)]
    have : (v % 2 ^ d - 2 ^ d) % 2 ^ d = v % 2 ^ d := by
      rw [Int.sub_emod, Int.emod_self, Int.emod_emod]
      simp
    rw [Int.emod_add_mul_ediv, this]
  · unfold wrapI
    rw [Int.emod_emod]
/-- Numbers in range are folded to themselves. -/
theorem foldI_in {v : Int} {d : Nat} (hd : 1 ≤ d) (h0 : -2 ^ (d - 1) ≤ v) (h1 : v < 2 ^ (d - 1)) : foldI v d = v := by
  have h2 := two_pow_half hd
  by_cases hv : 0 ≤ v
  · unfold foldI
    rw [wrapI_in hv (by omega), if_neg (by omega)]
  · have e : wrapI v d = v + 2 ^ d := by
      unfold wrapI
      rw [← Int.add_emod_right]
      exact Int.emod_eq_of_lt (by omega) (by omega)
    unfold foldI
    rw [e, if_pos (by omega)]
    omega
theorem wrapI_add_wrap (a b : Int) (d : Nat) : wrapI (a + wrapI b d) d = wrapI (a + b) d := by
  unfold wrapI
  rw [Int.add_emod, Int.emod_emod, ← Int.add_emod]
theorem wrapI_wrap (b : Int) (d : Nat) : wrapI (wrapI b d) d = wrapI b d := by
  unfold wrapI
  rw [Int.emod_emod]
/-- A guess plus the folded error is the sample. -/
theorem unfold_fold {s g : Int} {d : Nat} (h0 : 0 ≤ s) (h1 : s < 2 ^ d) : wrapI (g + foldI (s - g) d) d = s := by
  rw [← wrapI_add_wrap, foldI_wrap, wrapI_add_wrap]
  have : g + (s - g) = s := by omega
  rw [this]
  exact wrapI_in h0 h1
theorem unfold_wrap {s g : Int} {d : Nat} (h0 : 0 ≤ s) (h1 : s < 2 ^ d) : wrapI (wrapI (s - g) d + g) d = s := by
  rw [Int.add_comm, wrapI_add_wrap]
  have : g + (s - g) = s := by omega
  rw [this]
  exact wrapI_in h0 h1
theorem wrapI_neg_fold (v : Int) (d : Nat) : wrapI (-foldI v d) d = wrapI (-v) d := by
  have h := foldI_wrap v d
  unfold wrapI at *
  rw [Int.neg_emod_eq_sub_emod, Int.neg_emod_eq_sub_emod (a := v)]
  rw [Int.sub_emod, h, ← Int.sub_emod]
/-- The same, the error turned twice. -/
theorem unfold_turned {s g : Int} {d : Nat} (h0 : 0 ≤ s) (h1 : s < 2 ^ d) : wrapI (g + -foldI (-foldI (s - g) d) d) d = s := by
  rw [← wrapI_add_wrap, wrapI_neg_fold, Int.neg_neg, foldI_wrap, wrapI_add_wrap]
  have : g + (s - g) = s := by omega
  rw [this]
  exact wrapI_in h0 h1

/-- 0, -1, 1, -2, .. as 0, 1, 2, 3, .. -/
def rfold (x : Int) : Nat := if 0 ≤ x then (2 * x).toNat else (-2 * x - 1).toNat
def unfoldI (u : Nat) : Int := if u % 2 = 0 then (u / 2 : Nat) else -((u / 2 : Nat) : Int) - 1
theorem unfoldI_rfold (x : Int) : unfoldI (rfold x) = x := by
  unfold rfold unfoldI
  split <;> split <;> omega
theorem rfold_unfoldI (u : Nat) : rfold (unfoldI u) = u := by
  unfold rfold unfoldI
  split <;> split <;> omega
def wideP (x : Int) : Prop := -1073741824 ≤ x ∧ x < 1073741824
theorem rfold_lt {x : Int} (h : wideP x) : rfold x < 2147483648 := by
  unfold wideP at h
  unfold rfold
  split <;> omega
def rcost (k : Nat) (x : Int) : Nat := if rfold x / 2 ^ k < 32 then rfold x / 2 ^ k + 1 + k else 65
def rbits (k : Nat) (x : Int) : List Nat :=
  if rfold x / 2 ^ k < 32 then List.replicate (rfold x / 2 ^ k) 0 ++ 1 :: bitsOf (rfold x % 2 ^ k) k
  else List.replicate 32 0 ++ 1 :: bitsOf (rfold x) 32
theorem rbits_len (k : Nat) (x : Int) : (rbits k x).length = rcost k x := by
  unfold rbits rcost
  split
  · simp [bitsOf_len]; omega
  · simp [bitsOf_len]
theorem rcost_le (k : Nat) (x : Int) (hk : k ≤ 25) : rcost k x ≤ 65 := by unfold rcost; split <;> omega
theorem rcost_pos (k : Nat) (x : Int) : 0 < rcost k x := by
  unfold rcost
  generalize rfold x / 2 ^ k = q
  split <;> omega
theorem rbits_lt (k : Nat) (x : Int) : ∀ b ∈ rbits k x, b < 2 := by
  intro b hb
  unfold rbits at hb
  split at hb
  all_goals
    rcases List.mem_append.1 hb with h | h
    · have := List.eq_of_mem_replicate h; omega
    · rcases List.mem_cons.1 h with h | h
      · omega
      · exact bitsOf_lt _ _ _ h
def rsum (k : Nat) (l : List Int) : Nat := (l.map (rcost k)).sum
def rbitsAll (k : Nat) (l : List Int) : List Nat := l.flatMap (rbits k)
theorem rbitsAll_len (k : Nat) (l : List Int) : (rbitsAll k l).length = rsum k l := by
  induction l with
  | nil => rfl
  | cons x l ih => simp only [rbitsAll, rsum, List.flatMap_cons, List.length_append, List.map_cons, List.sum_cons, rbits_len] at *; omega
theorem rsum_le (k : Nat) (l : List Int) (hk : k ≤ 25) : rsum k l ≤ 65 * l.length := by
  induction l with
  | nil => simp [rsum]
  | cons x l ih => have := rcost_le k x hk; simp only [rsum, List.map_cons, List.sum_cons, List.length_cons] at *; omega
/-- The smallest one of the first n + 1 parameters with the smallest sum. -/
def bestUpTo (l : List Int) : Nat → Nat
  | 0 => 0
  | n + 1 => if rsum (n + 1) l < rsum (bestUpTo l n) l then n + 1 else bestUpTo l n
def rbest (l : List Int) : Nat := bestUpTo l 25
theorem bestUpTo_le (l : List Int) : ∀ n, bestUpTo l n ≤ n
  | 0 => Nat.le_refl _
  | n + 1 => by
    have := bestUpTo_le l n
    unfold bestUpTo
    split <;> omega
theorem rbest_le (l : List Int) : rbest l ≤ 25 := bestUpTo_le l 25

/-- All samples are of so many bits. -/
def SmpOk (d : Nat) (l : List Int) : Prop := ∀ s ∈ l, 0 ≤ s ∧ s < 2 ^ d

/-- West, north, northwest, northeast. -/
structure Nbr where
  w : Int
  n : Int
  nw : Int
  ne : Int
def nbr (l : List Int) (w x y : Nat) : Nbr :=
  if y = 0 then (if x = 0 then ⟨0, 0, 0, 0⟩ else ⟨l.getD (y * w + x - 1) 0, l.getD (y * w + x - 1) 0, l.getD (y * w + x - 1) 0, l.getD (y * w + x - 1) 0⟩)
  else ⟨if 0 < x then l.getD (y * w + x - 1) 0 else l.getD (y * w + x - w) 0, l.getD (y * w + x - w) 0,
        if 0 < x then l.getD (y * w + x - w - 1) 0 else l.getD (y * w + x - w) 0, if x < w - 1 then l.getD (y * w + x - w + 1) 0 else l.getD (y * w + x - w) 0⟩
theorem le_mul_pos {y w : Nat} (hy : y ≠ 0) : w ≤ y * w := Nat.le_mul_of_pos_left w (by omega)
/-- Neighbours are told by what stands before a place. -/
theorem nbr_congr {l l' : List Int} {w x y : Nat} (hx : x < w) (h : ∀ i, i < y * w + x → l.getD i 0 = l'.getD i 0) : nbr l w x y = nbr l' w x y := by
  unfold nbr
  by_cases hy : y = 0
  · rw [if_pos hy, if_pos hy]
    by_cases hx0 : x = 0
    · rw [if_pos hx0, if_pos hx0]
    · rw [if_neg hx0, if_neg hx0, h _ (by omega)]
  · have hw := le_mul_pos (w := w) hy
    rw [if_neg hy, if_neg hy, h (y * w + x - w) (by omega)]
    congr 1
    · by_cases hx0 : 0 < x
      · rw [if_pos hx0, if_pos hx0, h _ (by omega)]
      · rw [if_neg hx0, if_neg hx0]
    · by_cases hx0 : 0 < x
      · rw [if_pos hx0, if_pos hx0, h _ (by omega)]
      · rw [if_neg hx0, if_neg hx0]
    · by_cases hx0 : x < w - 1
      · rw [if_pos hx0, if_pos hx0, h _ (by omega)]
      · rw [if_neg hx0, if_neg hx0]
structure NbrOk (d : Nat) (g : Nbr) : Prop where
  w : 0 ≤ g.w ∧ g.w < 2 ^ d
  n : 0 ≤ g.n ∧ g.n < 2 ^ d
  nw : 0 ≤ g.nw ∧ g.nw < 2 ^ d
  ne : 0 ≤ g.ne ∧ g.ne < 2 ^ d
theorem getD_ok {d : Nat} {l : List Int} (h : SmpOk d l) (i : Nat) : 0 ≤ l.getD i 0 ∧ l.getD i 0 < 2 ^ d := by
  have hp := two_pow_pos' d
  rw [List.getD_eq_getElem?_getD]
  cases e : l[i]? with
  | none => simp [hp]
  | some v => exact h v (List.mem_of_getElem? e)
theorem nbr_ok {d : Nat} {l : List Int} (h : SmpOk d l) (w x y : Nat) : NbrOk d (nbr l w x y) := by
  have hp := two_pow_pos' d
  unfold nbr
  split
  · split
    · exact ⟨⟨Int.le_refl _, hp⟩, ⟨Int.le_refl _, hp⟩, ⟨Int.le_refl _, hp⟩, ⟨Int.le_refl _, hp⟩⟩
    · exact ⟨getD_ok h _, getD_ok h _, getD_ok h _, getD_ok h _⟩
  · refine ⟨?_, getD_ok h _, ?_, ?_⟩
    all_goals
      simp only
      split
      all_goals exact getD_ok h _

def distI (a b : Int) : Int := if a < b then b - a else a - b
def nearest3 (t a b c : Int) : Int :=
  if distI c t < distI (if distI b t < distI a t then b else a) t then c else if distI b t < distI a t then b else a
def guessI (kind : Nat) (g : Nbr) (d : Nat) : Int :=
  match kind with
  | 1 => g.w
  | 2 => g.n
  | 3 => g.nw
  | 4 => g.ne
  | 5 => (g.w + g.n) / 2
  | 6 => nearest3 (g.w + g.n - g.nw) g.w g.n g.nw
  | 7 => max (min g.w g.n) (min (max g.w g.n) (g.w + g.n - g.nw))
  | 8 => min (max (g.w + g.n - g.nw) 0) (2 ^ d - 1)
  | 9 => (g.w + g.n + g.nw + g.ne + 2) / 4
  | _ => 0
theorem guessI_ok {d : Nat} {g : Nbr} (h : NbrOk d g) (kind : Nat) : 0 ≤ guessI kind g d ∧ guessI kind g d < 2 ^ d := by
  obtain ⟨⟨a1, a2⟩, ⟨b1, b2⟩, ⟨c1, c2⟩, ⟨e1, e2⟩⟩ := h
  have hp := two_pow_pos' d
  unfold guessI nearest3
  generalize (2 : Int) ^ d = p at *
  split
  all_goals first
    | omega
    | (split
       · omega
       · split <;> omega)
end Go.Proofs.YtpkplhmdnjdmoaaGreatDoor

/- The machine's bitwise words on integers: masks of either sign. No program. -/
namespace Go.Proofs.YtpkplhmdnjdmoaaGreatDoor
open Go.RowKit

theorem band_mask (v : Int) {i : Nat} (hi : i ≤ 62) : bits .and .i64 v (2 ^ i - 1) = v % 2 ^ i := by
  have hpos : 0 < 2 ^ i := Nat.two_pow_pos i
  have hle : 2 ^ i ≤ 2 ^ 62 := Nat.pow_le_pow_right (by decide) hi
  have hc : ((2 : Int) ^ i - 1) = ((2 ^ i - 1 : Nat) : Int) := by rw [Int.natCast_sub hpos]; simp
  have hdvd : ((2 : Int) ^ i) ∣ 2 ^ 64 := by
    obtain ⟨j, hj⟩ : ∃ j, 64 = i + j := ⟨64 - i, by omega⟩
    rw [hj, Int.pow_add]
    exact Int.dvd_mul_right _ _
  have h0 : 0 ≤ v % 2 ^ 64 := Int.emod_nonneg _ (by decide)
  have e1 : (BitVec.ofInt 64 v).toNat = (v % 2 ^ 64).toNat := by simp [BitVec.toNat_ofInt]
  have e2 : (BitVec.ofInt 64 ((2 ^ i - 1 : Nat) : Int)).toNat = 2 ^ i - 1 := by
    rw [BitVec.ofInt_natCast, BitVec.toNat_ofNat]
    exact Nat.mod_eq_of_lt (by omega)
  have e3 : (BitVec.ofInt 64 v &&& BitVec.ofInt 64 ((2 ^ i - 1 : Nat) : Int)).toNat = (v % 2 ^ 64).toNat % 2 ^ i := by
    rw [BitVec.toNat_and, e1, e2, Nat.and_two_pow_sub_one_eq_mod]
  have e4 : (((v % 2 ^ 64).toNat % 2 ^ i : Nat) : Int) = v % 2 ^ i := by
    rw [Int.natCast_emod, Int.toNat_of_nonneg h0]
    simp only [Int.natCast_pow]
    exact Int.emod_emod_of_dvd v hdvd
  have e5 : bits .and .i64 v ((2 ^ i - 1 : Nat) : Int) = IntKind.i64.wrap (((BitVec.ofInt 64 v &&& BitVec.ofInt 64 ((2 ^ i - 1 : Nat) : Int)).toNat : Nat) : Int) := rfl
  rw [hc, e5, e3, e4]
  have h1 : 0 ≤ v % 2 ^ i := Int.emod_nonneg _ (by have := two_pow_pos' i; omega)
  have h2 : v % 2 ^ i < 2 ^ i := Int.emod_lt_of_pos _ (two_pow_pos' i)
  have h3 : (2 : Int) ^ i ≤ 2 ^ 62 := by exact_mod_cast hle
  exact IntWalk.i64_in _ (by omega)
theorem band_mask_u {v : Int} {i : Nat} (h0 : 0 ≤ v) (h1 : v < 18446744073709551616) (hi : i ≤ 64) : bits .and .u64 v (2 ^ i - 1) = v % 2 ^ i :=
  bits_mask .u64 64 (by decide) (fun n a b => IntWalk.u64_in _ (by omega)) i hi v h0 (by omega)
theorem bor_u8 {x y : Nat} (hx : x < 256) (hy : y < 256) : bits .or .u8 (x : Int) (y : Int) = ((x ||| y : Nat) : Int) :=
  (bits_nat .u8 8 (by decide) wraps_u8 x y hx hy).2
/-- The number one place up, and a bit. -/
theorem bor_u64_bit {v b : Nat} (hv : v < 9223372036854775808) (hb : b < 2) : bits .or .u64 ((2 * v : Nat) : Int) (b : Int) = ((2 * v + b : Nat) : Int) := by
  rw [bits_join .u64 64 (by decide) (fun n a b => IntWalk.u64_in _ (by omega)) 1 _ _ (by omega) (by omega) (by omega) (by omega) (by omega) (by omega)]
  omega
theorem band_u8_one {v : Nat} (hv : v < 256) : bits .and .u8 (v : Int) 1 = ((v % 2 : Nat) : Int) := by
  have := bits_mask .u8 8 (by decide) wraps_u8 1 (by decide) (v : Int) (by omega) (by omega)
  simpa using this
theorem band_u64_one {v : Nat} (hv : v < 18446744073709551616) : bits .and .u64 (v : Int) 1 = ((v % 2 : Nat) : Int) := by
  have := bits_mask .u64 64 (by decide) (fun n a b => IntWalk.u64_in _ (by omega)) 1 (by decide) (v : Int) (by omega) (by omega)
  simpa using this
end Go.Proofs.YtpkplhmdnjdmoaaGreatDoor

/- append of a slice that may be nil or empty to a slice that is owned or nil. After the kit's words on append. No program. -/
namespace Go.Proofs.YtpkplhmdnjdmoaaGreatDoor
set_option linter.unusedSimpArgs false
set_option linter.unusedVariables false
open Go.RowKit
section
variable {P : Program}
theorem run_append_none {w : World} {t ty e : TypeId} {z : Value} {bytes : Nat} (E : Elem P t e z 1 bytes) {v : Value} {F : List Nat} {xs : List Value} (hown : Own w e v F xs) (c : Nat) :
    (Builtin.append_ #[t, t] ty #[v, .slice none 0 c]).run P w = .ok v w := by
  obtain ⟨i, hi, hz, hsize, hby⟩ := E.hi
  rcases hown.own.2 with ⟨rfl, hn⟩ | ⟨g, cap, cur, rfl, _, _, hnc, _⟩
  · simp [Builtin.append_, run_underlying E.ht, sizeOf, typeInfo, hi, Builtin.lenOf, Builtin.firstCells]
  · simp [Builtin.append_, run_underlying E.ht, sizeOf, typeInfo, hi, Builtin.lenOf, Builtin.firstCells, hnc, storeCells]
/-- append of a slice, whatever it holds. -/
theorem run_append_s {w : World} {t ty e : TypeId} {z : Value} {bytes : Nat} (E : Elem P t e z 1 bytes) (hzs : z.cells.size = 1)
    {v : Value} {F : List Nat} {xs : List Value} (hown : Own w e v F xs) {A : Option Addr} {c : Nat} (news : List Value) (hn : Cells (fun u => u) w A news)
    (h1 : ∀ u ∈ news, u.oneCell' = true) (h63 : xs.length + news.length ≤ 9223372036854775807) (hbytes : (xs.length + news.length) * bytes ≤ 140737488355328) :
    ∃ v' F' w', (Builtin.append_ #[t, t] ty #[v, .slice A news.length c]).run P w = .ok v' w' ∧ Own w' e v' F' (xs ++ news) ∧ Grow F F' w w' := by
  rcases A with _ | ad
  · have h0 : news = [] := by
      rcases Nat.eq_zero_or_pos news.length with h0 | h0
      · exact List.eq_nil_of_length_eq_zero h0
      · obtain ⟨_, _, h, _⟩ := hn.ex h0
        cases h
    subst h0
    exact ⟨v, F, w, run_append_none E hown c, by simpa using hown, Grow.refl _ _⟩
  · have hcells : ∀ j u, news[j]? = some u → w.cell? (ad.add j) = some u := fun j u hj => by
      obtain ⟨b, o, e, hb, hc⟩ := hn.ex (by have := (List.getElem?_eq_some_iff.1 hj).1; omega)
      injection e with e
      subst e
      rw [← hc j u hj]
      unfold Addr.add
      split
      · rename_i h; subst h; rfl
      · rfl
    obtain ⟨i, hi, hz, hsize, hby⟩ := E.hi
    obtain ⟨v', w', hr, h2, h3, h4, h5⟩ := run_append_own_at (P := P) w 0 t ty e i z 1 bytes E.ht hi hz hsize hby hzs (by decide) v xs.length xs hown.own ad news.length c news (by simp) hcells h1 (by simpa [maxLen] using h63) hbytes (Nat.zero_le _)
    refine ⟨v', v'.ownBlock.toList, w', hr, ⟨by simpa using h2, rfl⟩, ?_, fun x hx => ?_⟩
    · rw [hown.fp]
      exact Chg.of_grown h3 (by intro k hk; left; simp [hk])
    · rcases h5 with h5 | h5
      · left; rw [hown.fp, ← h5]; exact hx
      · right; rw [h5] at hx; simp at hx; omega
theorem wpList_append_s {w : World} {ops : Array Oper} {rest : List Oper} {o : Oper} {a : Act} {Q : Exit → Act → World → Prop} (hgd : o.guard = none) {s x : Operand} {t : TypeId}
    (ho : o.op = .call { callee := .builtin .append, args := #[s, x], argTypes := #[t, t] })
    {e : TypeId} {z : Value} {bytes : Nat} (E : Elem P t e z 1 bytes) (hzs : z.cells.size = 1)
    {v : Value} {F : List Nat} {xs : List Value} (hs : a.eval s = v) (hown : Own w e v F xs) {A : Option Addr} {c : Nat} (news : List Value) (n : Nat) (hx : a.eval x = .slice A n c) (hnl : n = news.length) (hn : Cells (fun u => u) w A news)
    (h1 : ∀ u ∈ news, u.oneCell' = true) (h63 : xs.length + news.length ≤ 9223372036854775807) (hbytes : (xs.length + news.length) * bytes ≤ 140737488355328)
    (h : ∀ v' F' w', Own w' e v' F' (xs ++ news) → Grow F F' w w' → wpList P ops Q rest (a.put o.dst v') w') : wpList P ops Q (o :: rest) a w := by
  subst hnl
  refine wpList_plain hgd fun K hK => ?_
  obtain ⟨v', F', w', hrun, h2, h3⟩ := run_append_s (P := P) (ty := o.type) E hzs hown (c := c) news hn h1 h63 hbytes
  unfold Oper.wp execOp
  simp only [ho, resolve, invoke, builtin, Sem.run_bind, Sem.run_pure, Result.andThen_ok, List.map_toArray, List.map_cons, List.map_nil, hs, hx, hrun]
  exact hK _ _ (h v' F' w' h2 h3)
end
end Go.Proofs.YtpkplhmdnjdmoaaGreatDoor

/- A slice of a slice, from a place on: its address may stay where nothing is left of it, so it is told by what it reads. No program. -/
namespace Go.Proofs.YtpkplhmdnjdmoaaGreatDoor
set_option linter.unusedSimpArgs false
set_option linter.unusedVariables false
open Go.RowKit
theorem elem_of {P : Program} {t e : TypeId} (ht : P.underlying t = some (.slice e)) : P.elem t = e := by simp [Program.elem, ht]
theorem slice_from {P : Program} {t e : TypeId} (ht : P.underlying t = some (.slice e)) (hs : ∀ w, (sizeOf e).run P w = .ok 1 w) (A : Option Addr) (n c lo : Nat) (h : lo ≤ n) (hnc : n ≤ c) :
    ∃ A', (∀ w, (Instr.slice t (.slice A n c) (some (.int .i64 (lo : Int))) none none).run P w = .ok (.slice A' (n - lo) (c - lo)) w) ∧
      (∀ ad, A' = some ad → ∃ ad0, A = some ad0 ∧ ad.block = ad0.block) ∧
      ∀ (α : Type) (f : α → Value) (w : World) (l : List α), l.length = n → Cells f w A l → Cells f w A' (l.drop lo) := by
  have he := elem_of ht
  refine ⟨if c = lo then A else A.map (·.add (lo * 1)), fun w => ?_, ?_, ?_⟩
  · rw [run_slice_l (P := P) (w := w) t A n c (by rw [he]; exact ht) .i64 (lo : Int) (by omega) (by omega), he, hs]
    simp [sliced]
  · intro ad had
    split at had
    · exact ⟨ad, had, rfl⟩
    · cases A with
      | none => simp at had
      | some ad0 =>
        simp at had
        subst had
        refine ⟨ad0, rfl, ?_⟩
        unfold Addr.add
        split <;> rfl
  · intro α f w l hl hc
    refine ⟨fun h0 => ?_⟩
    rw [List.length_drop] at h0
    obtain ⟨b, o, rfl, hb, hcell⟩ := hc.ex (by omega)
    rw [if_neg (by omega)]
    refine ⟨b, o + lo, ?_, hb, fun i a ha => ?_⟩
    · simp only [Option.map_some, Addr.add, Nat.mul_one]
      split
      · rename_i h; subst h; rfl
      · rfl
    · rw [List.getElem?_drop] at ha
      have := hcell (lo + i) a ha
      rwa [← Nat.add_assoc] at this
theorem Cells.take {α : Type} {f : α → Value} {w : World} {A : Option Addr} {l : List α} (h : Cells f w A l) (n : Nat) : Cells f w A (l.take n) :=
  ⟨fun h0 => by
    rw [List.length_take] at h0
    obtain ⟨b, o, e, hb, hc⟩ := h.ex (by omega)
    refine ⟨b, o, e, hb, fun i a ha => hc i a ?_⟩
    rw [List.getElem?_take] at ha
    split at ha
    · exact ha
    · cases ha⟩
end Go.Proofs.YtpkplhmdnjdmoaaGreatDoor
