/- The range coder in plain Lean: what each function of the coder computes, on lists of digits and numbers. No program. -/
import Derived.Test.YtpkplhmdnjdmoaaGreatDoorMg01
import Derived.Lib.BitFns
set_option linter.unusedVariables false
set_option linter.unusedSimpArgs false
namespace Go.Proofs.YtpkplhmdnjdmoaaGreatDoor
set_option linter.unusedSimpArgs false
set_option linter.unusedVariables false
open Go.RowKit

/-- Digits from the lowest on, plus n. -/
def carry : List Nat → Nat → List Nat
  | [], _ => []
  | d :: ds, n => if n = 0 then d :: ds else ((n + d) % 256) :: carry ds ((n + d) / 256)
/-- Digits, the highest first, plus n (what does not fit is lost). -/
def growL (ds : List Nat) (n : Nat) : List Nat := (carry ds.reverse n).reverse
theorem growL_nil (n : Nat) : growL [] n = [] := rfl
theorem carry_zero (ds : List Nat) : carry ds 0 = ds := by cases ds <;> simp [carry]
theorem growL_zero (ds : List Nat) : growL ds 0 = ds := by simp [growL, carry_zero]
theorem growL_snoc (ds : List Nat) (d n : Nat) (h : n ≠ 0) : growL (ds ++ [d]) n = growL ds ((n + d) / 256) ++ [(n + d) % 256] := by
  simp [growL, carry, h]
theorem carry_length (ds : List Nat) : ∀ n, (carry ds n).length = ds.length := by
  induction ds with
  | nil => intro n; rfl
  | cons d ds ih => intro n; unfold carry; split <;> simp [ih]
theorem growL_length (ds : List Nat) (n : Nat) : (growL ds n).length = ds.length := by simp [growL, carry_length]
theorem carry_lt (ds : List Nat) : ∀ n, (∀ d ∈ ds, d < 256) → ∀ d ∈ carry ds n, d < 256 := by
  induction ds with
  | nil => intro n _ d hd; simp [carry] at hd
  | cons x ds ih =>
    intro n h d hd
    unfold carry at hd
    split at hd
    · exact h d hd
    · rcases List.mem_cons.1 hd with rfl | hd
      · exact Nat.mod_lt _ (by decide)
      · exact ih _ (fun d hd => h d (List.mem_cons_of_mem _ hd)) d hd
theorem growL_lt (ds : List Nat) (n : Nat) (h : ∀ d ∈ ds, d < 256) : ∀ d ∈ growL ds n, d < 256 := by
  intro d hd
  exact carry_lt ds.reverse n (by simpa using h) d (by simpa [growL] using hd)

/-- A coder: the digits of Low, Width, the odds. -/
structure Cod where
  low : List Nat
  W : Nat
  odds : List Nat

def lowA (c : Cod) (bound bit : Nat) : List Nat := if bit = 0 then c.low else growL c.low bound
def widA (c : Cod) (bound bit : Nat) : Nat := if bit = 0 then bound else c.W - bound
def codeL (c : Cod) (bound bit : Nat) : Cod :=
  if widA c bound bit < 16777216 then ⟨lowA c bound bit ++ [0], widA c bound bit * 256, c.odds⟩ else ⟨lowA c bound bit, widA c bound bit, c.odds⟩
def adaptN (o bit : Nat) : Nat := if bit = 0 then o + (4096 - o) / 32 else o - o / 32
def oddsAt (c : Cod) (ctx : Nat) : Nat := c.odds.getD ctx 0
def putL (c : Cod) (ctx bit : Nat) : Cod :=
  let c1 := codeL c (c.W / 4096 * oddsAt c ctx) bit
  { c1 with odds := c.odds.set ctx (adaptN (oddsAt c ctx) bit) }
/-- The n lowest bits of v, the highest first. -/
def rawL (c : Cod) (v : Nat) : Nat → Cod
  | 0 => c
  | n + 1 => rawL (codeL c (c.W / 2) (v / 2 ^ n % 2)) v n
def onesL (c : Cod) (ctx : Nat) : Nat → Cod
  | 0 => c
  | k + 1 => putL (onesL c ctx k) (ctx + k) 1
def numL (c : Cod) (ctx v : Nat) : Cod :=
  let d := Nat.log2 (v + 1)
  let c1 := onesL c ctx d
  let c2 := if d < 32 then putL c1 (ctx + d) 0 else c1
  rawL c2 (v + 1 - 2 ^ d) d

/-- What every coder's state keeps to. -/
structure CodOk (c : Cod) : Prop where
  dig : ∀ d ∈ c.low, d < 256
  len : 4 ≤ c.low.length
  lo : 16777216 ≤ c.W
  hi : c.W < 4294967296
  odds : ∀ o ∈ c.odds, 31 ≤ o ∧ o ≤ 4065

/-- A bound that leaves both parts enough. -/
def BoundOk (c : Cod) (bound : Nat) : Prop := 65536 ≤ bound ∧ bound + 65536 ≤ c.W

theorem widA_ok {c : Cod} (h : CodOk c) {bound : Nat} (hb : BoundOk c bound) (bit : Nat) : 65536 ≤ widA c bound bit ∧ widA c bound bit < 4294967296 := by
  obtain ⟨h1, h2⟩ := hb
  have hl := h.lo
  have hh := h.hi
  unfold widA
  split <;> omega
theorem lowA_len (c : Cod) (bound bit : Nat) : (lowA c bound bit).length = c.low.length := by unfold lowA; split <;> simp [growL_length]
theorem codeL_ok {c : Cod} (h : CodOk c) {bound : Nat} (hb : BoundOk c bound) (bit : Nat) : CodOk (codeL c bound bit) := by
  have hn := h.len
  have hw := widA_ok h hb bit
  have hd : ∀ d ∈ lowA c bound bit, d < 256 := by
    unfold lowA
    split
    · exact h.dig
    · exact growL_lt _ _ h.dig
  have hlen := lowA_len c bound bit
  unfold codeL
  generalize widA c bound bit = W1 at *
  generalize lowA c bound bit = l1 at *
  split
  · exact ⟨fun d hd' => by
      rcases List.mem_append.1 hd' with h' | h'
      · exact hd d h'
      · simp at h'; omega, by simp; omega, by simp; omega, by simp; omega, h.odds⟩
  · exact ⟨hd, by simp; omega, by simp; omega, by simp; omega, h.odds⟩
theorem codeL_len {c : Cod} (bound bit : Nat) : c.low.length ≤ (codeL c bound bit).low.length ∧ (codeL c bound bit).low.length ≤ c.low.length + 1 := by
  have := lowA_len c bound bit
  unfold codeL
  split <;> simp <;> omega
theorem codeL_odds (c : Cod) (bound bit : Nat) : (codeL c bound bit).odds = c.odds := by
  unfold codeL
  split <;> rfl
theorem oddsAt_ok {c : Cod} (h : CodOk c) {ctx : Nat} (hc : ctx < c.odds.length) : 31 ≤ oddsAt c ctx ∧ oddsAt c ctx ≤ 4065 := by
  unfold oddsAt
  rw [List.getD_eq_getElem?_getD, List.getElem?_eq_getElem hc]
  exact h.odds _ (List.getElem_mem hc)
theorem bound_put {c : Cod} (h : CodOk c) {ctx : Nat} (hc : ctx < c.odds.length) : BoundOk c (c.W / 4096 * oddsAt c ctx) := by
  obtain ⟨h1, h2⟩ := oddsAt_ok h hc
  have hl := h.lo
  have hq : 4096 ≤ c.W / 4096 := by omega
  have e1 : c.W / 4096 * 31 ≤ c.W / 4096 * oddsAt c ctx := Nat.mul_le_mul_left _ h1
  have e2 : c.W / 4096 * oddsAt c ctx ≤ c.W / 4096 * 4065 := Nat.mul_le_mul_left _ h2
  unfold BoundOk
  omega
theorem bound_raw {c : Cod} (h : CodOk c) : BoundOk c (c.W / 2) := by
  have hl := h.lo
  unfold BoundOk
  omega
theorem adaptN_ok {o : Nat} (bit : Nat) (h : 31 ≤ o ∧ o ≤ 4065) : 31 ≤ adaptN o bit ∧ adaptN o bit ≤ 4065 := by
  unfold adaptN
  split <;> omega
theorem putL_ok {c : Cod} (h : CodOk c) {ctx : Nat} (hc : ctx < c.odds.length) (bit : Nat) : CodOk (putL c ctx bit) := by
  have h1 := codeL_ok h (bound_put h hc) bit
  refine ⟨h1.dig, h1.len, h1.lo, h1.hi, fun o ho => ?_⟩
  simp only [putL] at ho
  rcases List.mem_or_eq_of_mem_set ho with h' | h'
  · exact h.odds o h'
  · subst h'
    exact adaptN_ok bit (oddsAt_ok h hc)
theorem putL_odds_len (c : Cod) (ctx bit : Nat) : (putL c ctx bit).odds.length = c.odds.length := by simp [putL]
theorem putL_len (c : Cod) (ctx bit : Nat) : c.low.length ≤ (putL c ctx bit).low.length ∧ (putL c ctx bit).low.length ≤ c.low.length + 1 := codeL_len _ _
theorem rawL_ok (v n : Nat) : ∀ {c : Cod}, CodOk c → CodOk (rawL c v n) := by
  induction n with
  | zero => exact fun h => h
  | succ n ih => exact fun h => ih (codeL_ok h (bound_raw h) _)
theorem rawL_odds (v n : Nat) : ∀ (c : Cod), (rawL c v n).odds = c.odds := by
  induction n with
  | zero => exact fun _ => rfl
  | succ n ih => exact fun c => (ih _).trans (codeL_odds _ _ _)
theorem rawL_len (v n : Nat) : ∀ (c : Cod), c.low.length ≤ (rawL c v n).low.length ∧ (rawL c v n).low.length ≤ c.low.length + n := by
  induction n with
  | zero => exact fun _ => ⟨Nat.le_refl _, Nat.le_refl _⟩
  | succ n ih =>
    intro c
    have h1 := ih (codeL c (c.W / 2) (v / 2 ^ n % 2))
    have h2 := codeL_len (c := c) (c.W / 2) (v / 2 ^ n % 2)
    exact ⟨by unfold rawL; omega, by unfold rawL; omega⟩
theorem onesL_odds_len (c : Cod) (ctx k : Nat) : (onesL c ctx k).odds.length = c.odds.length := by
  induction k with
  | zero => rfl
  | succ k ih => unfold onesL; rw [putL_odds_len, ih]
theorem onesL_ok {c : Cod} (h : CodOk c) {ctx k : Nat} (hk : ctx + k ≤ c.odds.length) : CodOk (onesL c ctx k) := by
  induction k with
  | zero => exact h
  | succ k ih => exact putL_ok (ih (by omega)) (by rw [onesL_odds_len]; omega) 1
theorem onesL_len (c : Cod) (ctx k : Nat) : c.low.length ≤ (onesL c ctx k).low.length ∧ (onesL c ctx k).low.length ≤ c.low.length + k := by
  induction k with
  | zero => exact ⟨Nat.le_refl _, Nat.le_refl _⟩
  | succ k ih =>
    have := putL_len (onesL c ctx k) (ctx + k) 1
    exact ⟨by unfold onesL; omega, by unfold onesL; omega⟩
theorem log2_le {v : Nat} (hv : v < 4294967296) : Nat.log2 (v + 1) ≤ 32 := by
  by_cases h : Nat.log2 (v + 1) ≤ 32
  · exact h
  · have h1 : 2 ^ 33 ≤ 2 ^ Nat.log2 (v + 1) := Nat.pow_le_pow_right (by decide) (by omega)
    have h2 := Nat.log2_self_le (n := v + 1) (by omega)
    have : (2 : Nat) ^ 33 = 8589934592 := by decide
    omega
theorem numL_mid_ok {c : Cod} (h : CodOk c) {ctx v : Nat} (hv : v < 4294967296) (hc : ctx + 33 ≤ c.odds.length) :
    CodOk (if Nat.log2 (v + 1) < 32 then putL (onesL c ctx (Nat.log2 (v + 1))) (ctx + Nat.log2 (v + 1)) 0 else onesL c ctx (Nat.log2 (v + 1))) := by
  have hd := log2_le hv
  have h1 : CodOk (onesL c ctx (Nat.log2 (v + 1))) := onesL_ok h (by omega)
  split
  · exact putL_ok h1 (by rw [onesL_odds_len]; omega) 0
  · exact h1
theorem numL_ok {c : Cod} (h : CodOk c) {ctx v : Nat} (hv : v < 4294967296) (hc : ctx + 33 ≤ c.odds.length) : CodOk (numL c ctx v) := rawL_ok _ _ (numL_mid_ok h hv hc)
theorem numL_odds_len (c : Cod) (ctx v : Nat) : (numL c ctx v).odds.length = c.odds.length := by
  unfold numL
  simp only
  rw [rawL_odds]
  split
  · rw [putL_odds_len, onesL_odds_len]
  · rw [onesL_odds_len]
theorem numL_len (c : Cod) (ctx : Nat) {v : Nat} (hv : v < 4294967296) : c.low.length ≤ (numL c ctx v).low.length ∧ (numL c ctx v).low.length ≤ c.low.length + 65 := by
  have hd := log2_le hv
  unfold numL
  simp only
  have h1 := onesL_len c ctx (Nat.log2 (v + 1))
  split
  · have h2 := putL_len (onesL c ctx (Nat.log2 (v + 1))) (ctx + Nat.log2 (v + 1)) 0
    have h3 := rawL_len (v + 1 - 2 ^ Nat.log2 (v + 1)) (Nat.log2 (v + 1)) (putL (onesL c ctx (Nat.log2 (v + 1))) (ctx + Nat.log2 (v + 1)) 0)
    omega
  · have h3 := rawL_len (v + 1 - 2 ^ Nat.log2 (v + 1)) (Nat.log2 (v + 1)) (onesL c ctx (Nat.log2 (v + 1)))
    omega

theorem bitLenAux_log2 : ∀ (f x : Nat), 0 < x → x < 2 ^ f → Lib.bitLenAux f x = Nat.log2 x + 1 := by
  intro f
  induction f with
  | zero => intro x h0 h1; simp at h1; omega
  | succ f ih =>
    intro x h0 h1
    unfold Lib.bitLenAux
    rw [if_neg (by omega)]
    by_cases hx : x < 2
    · obtain rfl : x = 1 := by omega
      cases f <;> rfl
    · rw [ih (x / 2) (by omega) (by rw [Nat.pow_succ] at h1; omega), Nat.log2_def x, if_pos (by omega)]
      omega
theorem bitLen_log2 (x : Nat) (h0 : 0 < x) (h1 : x < 18446744073709551616) : Lib.bitLen x = Nat.log2 x + 1 := bitLenAux_log2 64 x h0 h1

/-- The coder at its beginning. -/
def newCod (n : Nat) : Cod := ⟨[0, 0, 0, 0], 4294967295, List.replicate n 2048⟩
theorem newCod_ok (n : Nat) : CodOk (newCod n) :=
  ⟨by simp [newCod], by simp [newCod], by simp [newCod], by simp [newCod], by simp [newCod]⟩

/-- Values in memory. -/
def b8 (d : Nat) : Value := .int .u8 (d : Int)
def i64 (d : Nat) : Value := .int .i64 (d : Int)
/-- A coder in memory: a block b of type T (three fields), its digits in block g, its odds in block h. -/
structure IsCod (T : TypeId) (w : World) (b g h : Nat) (c : Cod) : Prop where
  ex : ∃ vl vo, Blk w b T #[vl, .int .u64 (c.W : Int), vo] ∧ Row w 5 vl g (c.low.map b8) ∧ Row w 3 vo h (c.odds.map i64)
section
variable {T : TypeId} {w w' : World} {b g h : Nat} {c : Cod} {F : List Nat}
theorem IsCod.chg (i : IsCod T w b g h c) (hc : Chg F w w') (hb : b ∉ F) (hg : g ∉ F) (hh : h ∉ F) : IsCod T w' b g h c := by
  obtain ⟨vl, vo, h1, h2, h3⟩ := i.ex
  exact ⟨vl, vo, h1.chg hc hb, h2.chg hc hg, h3.chg hc hh⟩
theorem IsCod.same (i : IsCod T w b g h c) (hc : Chg [] w w') : IsCod T w' b g h c := i.chg hc (by simp) (by simp) (by simp)
theorem IsCod.lt (i : IsCod T w b g h c) : b < w.heap.size ∧ g < w.heap.size ∧ h < w.heap.size := by
  obtain ⟨vl, vo, h1, h2, h3⟩ := i.ex
  exact ⟨h1.lt, h2.lt, h3.lt⟩
end
end Go.Proofs.YtpkplhmdnjdmoaaGreatDoor
