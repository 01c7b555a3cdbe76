/- Why a decoder answers what the coder was told: the numbers that the digits write. Plain Lean, no program. -/
import Derived.Test.YtofdgpgleghllaaArPlainD
namespace Go.Proofs.Ytofdgpgleghllaa
set_option linter.unusedSimpArgs false
set_option linter.unusedVariables false
open Go.RowKit

def leV : List Nat → Nat
  | [] => 0
  | d :: ds => d + 256 * leV ds
theorem valD_reverse (l : List Nat) : valD l.reverse = leV l := by
  induction l with
  | nil => rfl
  | cons d l ih => rw [List.reverse_cons, valD_snoc, ih, leV]; omega
theorem leV_carry (ds : List Nat) : ∀ n, leV ds + n < 256 ^ ds.length → leV (carry ds n) = leV ds + n := by
  induction ds with
  | nil => intro n h; simp [leV] at h; subst h; rfl
  | cons d ds ih =>
    intro n h
    unfold carry
    split
    · rename_i h0; simp [h0]
    · rw [List.length_cons, Nat.pow_succ, leV] at h
      have hq : leV ds + (n + d) / 256 < 256 ^ ds.length := by omega
      rw [leV, leV, ih _ hq]
      omega
theorem valD_grow (ds : List Nat) (n : Nat) (h : valD ds + n < 256 ^ ds.length) : valD (growL ds n) = valD ds + n := by
  have e : valD ds = leV ds.reverse := by rw [← valD_reverse, List.reverse_reverse]
  rw [growL, valD_reverse, leV_carry _ _ (by rw [← e]; simpa using h), ← e]

/-- Low and Width fit into Low's digits. -/
def CodFit (c : Cod) : Prop := valD c.low + c.W ≤ 4294967295 * 256 ^ (c.low.length - 4)
theorem newCod_fit (n : Nat) : CodFit (newCod n) := by simp [CodFit, newCod, valD]
theorem fit_room {c : Cod} (h : CodOk c) (hf : CodFit c) : valD c.low + c.W < 256 ^ c.low.length := by
  unfold CodFit at hf
  have h1 := h.len
  have h2 : 256 ^ c.low.length = 4294967296 * 256 ^ (c.low.length - 4) := by
    have : (4294967296 : Nat) = 256 ^ 4 := by decide
    rw [this, ← Nat.pow_add]
    congr 1
    omega
  have h3 : 0 < 256 ^ (c.low.length - 4) := Nat.pow_pos (by decide)
  rw [h2]
  generalize 256 ^ (c.low.length - 4) = q at *
  omega
theorem val_lowA {c : Cod} (h : CodOk c) (hf : CodFit c) {bound : Nat} (hb : BoundOk c bound) (bit : Nat) : valD (lowA c bound bit) = if bit = 0 then valD c.low else valD c.low + bound := by
  have h1 := fit_room h hf
  have h2 := hb.2
  unfold lowA
  split
  · rfl
  · exact valD_grow _ _ (by omega)
theorem sum_A {c : Cod} (h : CodOk c) (hf : CodFit c) {bound : Nat} (hb : BoundOk c bound) (bit : Nat) : valD c.low ≤ valD (lowA c bound bit) ∧ valD (lowA c bound bit) + widA c bound bit ≤ valD c.low + c.W := by
  have h2 := hb.2
  rw [val_lowA h hf hb]
  unfold widA
  split <;> omega
theorem codeL_fit {c : Cod} (h : CodOk c) (hf : CodFit c) {bound : Nat} (hb : BoundOk c bound) (bit : Nat) : CodFit (codeL c bound bit) := by
  have h1 := (sum_A h hf hb bit).2
  have h2 := lowA_len c bound bit
  have h3 := h.len
  unfold CodFit at hf ⊢
  unfold codeL
  generalize lowA c bound bit = l1 at *
  generalize widA c bound bit = W1 at *
  split
  · simp only
    rw [valD_snoc, List.length_append, List.length_singleton, h2]
    have e : c.low.length + 1 - 4 = (c.low.length - 4) + 1 := by omega
    rw [e, Nat.pow_succ]
    omega
  · simp only; rw [h2]; omega
theorem putL_fit {c : Cod} (h : CodOk c) (hf : CodFit c) {ctx : Nat} (hc : ctx < c.odds.length) (bit : Nat) : CodFit (putL c ctx bit) := codeL_fit h hf (bound_put h hc) bit

/-- The number in the first j bytes. -/
def pre (data : List Nat) (j : Nat) : Nat := valD (data.take j)
theorem pre_succ {data : List Nat} {j x : Nat} (h : data[j]? = some x) : pre data (j + 1) = pre data j * 256 + x := by
  unfold pre
  rw [List.take_add_one, h]
  exact valD_snoc _ _
theorem pre_take {F : List Nat} {k j : Nat} (h : j ≤ k) : pre (F.take k) j = pre F j := by
  unfold pre
  rw [List.take_take, Nat.min_eq_left h]
/-- The bytes lie in the coder's interval. -/
structure Fut (data : List Nat) (c : Cod) : Prop where
  len : c.low.length ≤ data.length
  lo : valD c.low ≤ pre data c.low.length
  hi : pre data c.low.length < valD c.low + c.W
theorem fut_self {c : Cod} (h : CodOk c) : Fut c.low c :=
  ⟨Nat.le_refl _, by simp [pre], by have := h.lo; simp [pre]; omega⟩
theorem fut_codeA {c : Cod} {data : List Nat} (h : CodOk c) (hd : ∀ d ∈ data, d < 256) (hf : CodFit c) {bound : Nat} (hb : BoundOk c bound) (bit : Nat) (hF : Fut data (codeL c bound bit)) :
    c.low.length ≤ data.length ∧ valD (lowA c bound bit) ≤ pre data c.low.length ∧ pre data c.low.length < valD (lowA c bound bit) + widA c bound bit := by
  have h2 := lowA_len c bound bit
  obtain ⟨h3, h4, h5⟩ := hF
  unfold codeL at h3 h4 h5
  generalize lowA c bound bit = l1 at *
  generalize widA c bound bit = W1 at *
  by_cases hs : W1 < 16777216
  · rw [if_pos hs] at h3 h4 h5
    simp only [List.length_append, List.length_singleton, h2] at h3 h4 h5
    obtain ⟨x, hx⟩ : ∃ x, data[c.low.length]? = some x := ⟨_, List.getElem?_eq_getElem (by omega)⟩
    have hx2 : x < 256 := hd x (by obtain ⟨h1, h2⟩ := List.getElem?_eq_some_iff.1 hx; rw [← h2]; exact List.getElem_mem h1)
    rw [pre_succ hx, valD_snoc] at h4 h5
    exact ⟨by omega, by omega, by omega⟩
  · rw [if_neg hs] at h3 h4 h5
    simp only [h2] at h3 h4 h5
    exact ⟨h3, h4, h5⟩
theorem fut_code {c : Cod} {data : List Nat} (h : CodOk c) (hd : ∀ d ∈ data, d < 256) (hf : CodFit c) {bound : Nat} (hb : BoundOk c bound) (bit : Nat) (hF : Fut data (codeL c bound bit)) : Fut data c := by
  obtain ⟨h1, h2, h3⟩ := fut_codeA h hd hf hb bit hF
  have h4 := sum_A h hf hb bit
  exact ⟨h1, by omega, by omega⟩
theorem fut_put {c : Cod} {data : List Nat} (h : CodOk c) (hd : ∀ d ∈ data, d < 256) (hf : CodFit c) {ctx : Nat} (hc : ctx < c.odds.length) (bit : Nat) (hF : Fut data (putL c ctx bit)) : Fut data c :=
  fut_code h hd hf (bound_put h hc) bit ⟨hF.len, hF.lo, hF.hi⟩

/-- The decoder stands where the coder stood. -/
structure Syn (D : Dec) (c : Cod) : Prop where
  err : D.err = 0
  W : D.W = c.W
  odds : D.odds = c.odds
  pos : D.pos = c.low.length
  V : pre D.data D.pos = D.V + valD c.low

theorem syn_new (ds : List Nat) (n : Nat) : Syn (newDec ds n) (newCod n) :=
  ⟨rfl, rfl, rfl, rfl, by simp [newDec, newCod, pre, valD]⟩

theorem bit_of {D : Dec} {c : Cod} (hS : Syn D c) (h : CodOk c) (hf : CodFit c) {bound bit : Nat} (hb : BoundOk c bound) (hbit : bit = 0 ∨ bit = 1)
    (hlo : valD (lowA c bound bit) ≤ pre D.data c.low.length) (hhi : pre D.data c.low.length < valD (lowA c bound bit) + widA c bound bit) :
    dbit D bound = bit ∧ dV D bound + valD (lowA c bound bit) = pre D.data c.low.length ∧ dW D bound = widA c bound bit := by
  have hV := hS.V
  rw [hS.pos] at hV
  rw [val_lowA h hf hb] at hlo hhi ⊢
  unfold dbit dV dW
  unfold widA at hhi ⊢
  rw [hS.W]
  rcases hbit with rfl | rfl
  · simp only [if_true] at hlo hhi ⊢
    rw [if_neg (by omega), if_neg (by omega), if_neg (by omega)]
    exact ⟨rfl, by omega, rfl⟩
  · simp only [Nat.one_ne_zero, if_false] at hlo hhi ⊢
    rw [if_pos (by omega), if_pos (by omega), if_pos (by omega)]
    exact ⟨rfl, by omega, rfl⟩

/-- A decoder of the whole bytes, or of the first k of them. -/
theorem dcode_cut {D : Dec} {c : Cod} {F : List Nat} {k : Nat} (hS : Syn D c) (hDF : D.data = F.take k) (hkF : k ≤ F.length) (hpos : D.pos ≤ D.data.length) (hd : ∀ d ∈ F, d < 256) (h : CodOk c) (hf : CodFit c)
    {bound bit : Nat} (hb : BoundOk c bound) (hbit : bit = 0 ∨ bit = 1) (hF : Fut F (codeL c bound bit)) :
    ((codeL c bound bit).low.length ≤ k → (dcode D bound).1 = bit ∧ Syn (dcode D bound).2 (codeL c bound bit)) ∧ (k < (codeL c bound bit).low.length → (dcode D bound).2.err = 3) := by
  have hlen : D.data.length = k := by rw [hDF, List.length_take]; omega
  obtain ⟨h1, h2, h3⟩ := fut_codeA h hd hf hb bit hF
  have hpk : c.low.length ≤ k := by rw [← hS.pos, ← hlen]; exact hpos
  have hpre : pre D.data c.low.length = pre F c.low.length := by rw [hDF]; exact pre_take hpk
  rw [← hpre] at h2 h3
  obtain ⟨e1, e2, e3⟩ := bit_of hS h hf hb hbit h2 h3
  have hA := lowA_len c bound bit
  unfold dcode
  rw [e1, e3]
  unfold codeL
  by_cases hs : widA c bound bit < 16777216
  · rw [if_pos hs, if_pos hs]
    simp only [List.length_append, List.length_singleton, hA]
    refine ⟨fun hk => ?_, fun hk => ?_⟩
    · obtain ⟨x, hx⟩ : ∃ x, D.data[D.pos]? = some x := ⟨_, List.getElem?_eq_getElem (by rw [hlen, hS.pos]; omega)⟩
      rw [hx]
      refine ⟨rfl, hS.err, rfl, hS.odds, ?_, ?_⟩
      · simp [hA, hS.pos]
      · simp only
        rw [pre_succ hx, valD_snoc, hS.pos, ← e2]
        omega
    · rw [List.getElem?_eq_none (by rw [hlen, hS.pos]; omega)]
  · rw [if_neg hs, if_neg hs]
    simp only [hA]
    refine ⟨fun _ => ⟨trivial, hS.err, rfl, hS.odds, ?_, ?_⟩, fun hk => ?_⟩
    · simp [hA, hS.pos]
    · simp only
      rw [hS.pos, ← e2]
    · omega
theorem dcode_syn {D : Dec} {c : Cod} (hS : Syn D c) (hok : DecOk D) (h : CodOk c) (hf : CodFit c)
    {bound bit : Nat} (hb : BoundOk c bound) (hbit : bit = 0 ∨ bit = 1) (hF : Fut D.data (codeL c bound bit)) :
    (dcode D bound).1 = bit ∧ Syn (dcode D bound).2 (codeL c bound bit) :=
  (dcode_cut (k := D.data.length) hS (by simp) (Nat.le_refl _) hok.pos hok.dig h hf hb hbit hF).1 hF.len
theorem dOdds_syn {D : Dec} {c : Cod} (hS : Syn D c) (ctx : Nat) : dOddsAt D ctx = oddsAt c ctx := by
  unfold dOddsAt oddsAt
  rw [hS.odds]
theorem dget_cut {D : Dec} {c : Cod} {F : List Nat} {k : Nat} (hS : Syn D c) (hDF : D.data = F.take k) (hkF : k ≤ F.length) (hpos : D.pos ≤ D.data.length) (hd : ∀ d ∈ F, d < 256) (h : CodOk c) (hf : CodFit c)
    {ctx bit : Nat} (hctx : ctx < c.odds.length) (hbit : bit = 0 ∨ bit = 1) (hF : Fut F (putL c ctx bit)) :
    ((putL c ctx bit).low.length ≤ k → (dget D ctx).1 = bit ∧ Syn (dget D ctx).2 (putL c ctx bit)) ∧ (k < (putL c ctx bit).low.length → (dget D ctx).2.err = 3) := by
  have hc := dcode_cut hS hDF hkF hpos hd h hf (bound_put h hctx) hbit ⟨hF.len, hF.lo, hF.hi⟩
  unfold dget
  simp only
  rw [hS.W, dOdds_syn hS ctx]
  refine ⟨fun hk => ?_, fun hk => ?_⟩
  · obtain ⟨h1, h2⟩ := hc.1 hk
    rw [if_pos h2.err, h1]
    refine ⟨rfl, h2.err, h2.W, ?_, h2.pos, h2.V⟩
    simp only [putL]
    rw [hS.odds]
  · have h1 := hc.2 hk
    rw [if_neg (by omega)]
    exact h1
theorem dget_syn {D : Dec} {c : Cod} (hS : Syn D c) (hok : DecOk D) (h : CodOk c) (hf : CodFit c) {ctx bit : Nat} (hctx : ctx < c.odds.length) (hbit : bit = 0 ∨ bit = 1) (hF : Fut D.data (putL c ctx bit)) :
    (dget D ctx).1 = bit ∧ Syn (dget D ctx).2 (putL c ctx bit) :=
  (dget_cut (k := D.data.length) hS (by simp) (Nat.le_refl _) hok.pos hok.dig h hf hctx hbit hF).1 hF.len
theorem dget_data (D : Dec) (ctx : Nat) : (dget D ctx).2.data = D.data := by
  unfold dget
  simp only
  split <;> exact (dcode_data D _).1

theorem rawL_fit (v n : Nat) : ∀ {c : Cod}, CodOk c → CodFit c → CodFit (rawL c v n) := by
  induction n with
  | zero => exact fun _ h => h
  | succ n ih => exact fun h hf => ih (codeL_ok h (bound_raw h) _) (codeL_fit h hf (bound_raw h) _)
theorem fut_raw {data : List Nat} (hd : ∀ d ∈ data, d < 256) (v n : Nat) : ∀ {c : Cod}, CodOk c → CodFit c → Fut data (rawL c v n) → Fut data c := by
  induction n with
  | zero => exact fun _ _ h => h
  | succ n ih => exact fun h hf hF => fut_code h hd hf (bound_raw h) _ (ih (codeL_ok h (bound_raw h) _) (codeL_fit h hf (bound_raw h) _) hF)
theorem onesL_fit {c : Cod} (h : CodOk c) (hf : CodFit c) {ctx k : Nat} (hk : ctx + k ≤ c.odds.length) : CodFit (onesL c ctx k) := by
  induction k with
  | zero => exact hf
  | succ k ih => exact putL_fit (onesL_ok h (by omega)) (ih (by omega)) (by rw [onesL_odds_len]; omega) 1
theorem fut_ones {data : List Nat} (hd : ∀ d ∈ data, d < 256) {c : Cod} (h : CodOk c) (hf : CodFit c) {ctx k : Nat} (hk : ctx + k ≤ c.odds.length) (j : Nat) (hj : j ≤ k) (hF : Fut data (onesL c ctx k)) : Fut data (onesL c ctx j) := by
  induction k with
  | zero => obtain rfl : j = 0 := by omega
            exact hF
  | succ k ih =>
    by_cases e : j = k + 1
    · subst e; exact hF
    · exact ih (by omega) (by omega) (fut_put (onesL_ok h (by omega)) hd (onesL_fit h hf (by omega)) (by rw [onesL_odds_len]; omega) 1 hF)
/-- A number's middle: behind its ones and its zero. -/
def midL (c : Cod) (ctx d : Nat) : Cod := if d < 32 then putL (onesL c ctx d) (ctx + d) 0 else onesL c ctx d
theorem midL_ok {c : Cod} (h : CodOk c) {ctx d : Nat} (hd : d ≤ 32) (hc : ctx + 33 ≤ c.odds.length) : CodOk (midL c ctx d) := by
  have h1 : CodOk (onesL c ctx d) := onesL_ok h (by omega)
  unfold midL
  split
  · exact putL_ok h1 (by rw [onesL_odds_len]; omega) 0
  · exact h1
theorem midL_fit {c : Cod} (h : CodOk c) (hf : CodFit c) {ctx d : Nat} (hd : d ≤ 32) (hc : ctx + 33 ≤ c.odds.length) : CodFit (midL c ctx d) := by
  have h1 : CodOk (onesL c ctx d) := onesL_ok h (by omega)
  have h2 : CodFit (onesL c ctx d) := onesL_fit h hf (by omega)
  unfold midL
  split
  · exact putL_fit h1 h2 (by rw [onesL_odds_len]; omega) 0
  · exact h2
theorem numL_mid (c : Cod) (ctx v : Nat) : numL c ctx v = rawL (midL c ctx (Nat.log2 (v + 1))) (v + 1 - 2 ^ Nat.log2 (v + 1)) (Nat.log2 (v + 1)) := rfl
theorem numL_fit {c : Cod} (h : CodOk c) (hf : CodFit c) {ctx v : Nat} (hv : v < 4294967296) (hc : ctx + 33 ≤ c.odds.length) : CodFit (numL c ctx v) :=
  rawL_fit _ _ (midL_ok h (log2_le hv) hc) (midL_fit h hf (log2_le hv) hc)
theorem fut_mid {data : List Nat} (hd : ∀ d ∈ data, d < 256) {c : Cod} (h : CodOk c) (hf : CodFit c) {ctx d : Nat} (hd32 : d ≤ 32) (hc : ctx + 33 ≤ c.odds.length) (hF : Fut data (midL c ctx d)) : Fut data (onesL c ctx d) := by
  unfold midL at hF
  split at hF
  · exact fut_put (onesL_ok h (by omega)) hd (onesL_fit h hf (by omega)) (by rw [onesL_odds_len]; omega) 0 hF
  · exact hF
theorem fut_num {data : List Nat} (hd : ∀ d ∈ data, d < 256) {c : Cod} (h : CodOk c) (hf : CodFit c) {ctx v : Nat} (hv : v < 4294967296) (hc : ctx + 33 ≤ c.odds.length) (hF : Fut data (numL c ctx v)) : Fut data c := by
  rw [numL_mid] at hF
  have h1 := fut_raw hd _ _ (midL_ok h (log2_le hv) hc) (midL_fit h hf (log2_le hv) hc) hF
  exact fut_ones hd h hf (k := Nat.log2 (v + 1)) (by have := log2_le hv; omega) 0 (Nat.zero_le _) (fut_mid hd h hf (log2_le hv) hc h1)
end Go.Proofs.Ytofdgpgleghllaa
