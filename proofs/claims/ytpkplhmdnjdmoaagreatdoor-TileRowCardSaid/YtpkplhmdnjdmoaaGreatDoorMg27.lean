/- Parts of a row of residuals in plain Lean: widths, sizes, costs, bits, the best parts. No program. -/
import Derived.Test.YtpkplhmdnjdmoaaGreatDoorMg02
import Derived.Test.YtpkplhmdnjdmoaaGreatDoorMg01
import Derived.Test.YtpkplhmdnjdmoaaGreatDoorMg20
set_option linter.unusedVariables false
set_option linter.unusedSimpArgs false
namespace Go.Proofs.YtpkplhmdnjdmoaaGreatDoor

/-- x is a number of n bits in two's complement (1 to 31). -/
def fitsB (x : Int) (n : Nat) : Bool := decide (1 ≤ n) && decide (n ≤ 31) && decide (-2 ^ (n - 1) ≤ x) && decide (x ≤ 2 ^ (n - 1) - 1)
def needFrom (x : Int) : Nat → Nat → Nat
  | 0, w => w
  | f + 1, w => if x ≠ 0 ∧ w < 32 ∧ fitsB x w = false then needFrom x f (w + 1) else w
def widthL (l : List Int) : Nat := l.foldl (fun w x => needFrom x 32 w) 0
theorem widthL_snoc (l : List Int) (x : Int) : widthL (l ++ [x]) = needFrom x 32 (widthL l) := by simp [widthL]
theorem pow_half_mono {m n : Nat} (h : m ≤ n) : (2 : Int) ^ m ≤ 2 ^ n := by
  have := Nat.pow_le_pow_right (n := 2) (by decide) h
  exact_mod_cast this
theorem fits_mono {x : Int} {m n : Nat} (h : fitsB x m = true) (hmn : m ≤ n) (hn : n ≤ 31) : fitsB x n = true := by
  unfold fitsB at *
  simp only [Bool.and_eq_true, decide_eq_true_eq] at *
  obtain ⟨⟨⟨h1, h2⟩, h3⟩, h4⟩ := h
  have := pow_half_mono (show m - 1 ≤ n - 1 by omega)
  exact ⟨⟨⟨by omega, hn⟩, by omega⟩, by omega⟩
theorem fits_wide {x : Int} (h : wideP x) : fitsB x 31 = true := by
  unfold wideP at h
  unfold fitsB
  simp only [Bool.and_eq_true, decide_eq_true_eq]
  exact ⟨⟨⟨by decide, by decide⟩, by have : (2 : Int) ^ (31 - 1) = 1073741824 := rfl; omega⟩, by have : (2 : Int) ^ (31 - 1) = 1073741824 := rfl; omega⟩
theorem need_ge (x : Int) : ∀ f w, w ≤ needFrom x f w
  | 0, w => Nat.le_refl _
  | f + 1, w => by
    unfold needFrom
    split
    · exact Nat.le_trans (by omega) (need_ge x f (w + 1))
    · exact Nat.le_refl _
theorem need_le {x : Int} (h : wideP x) : ∀ f w, w ≤ 31 → needFrom x f w ≤ 31
  | 0, w, hw => hw
  | f + 1, w, hw => by
    unfold needFrom
    split
    · rename_i hc
      have : w ≠ 31 := fun e => by rw [e, fits_wide h] at hc; simp at hc
      exact need_le h f (w + 1) (by omega)
    · exact hw
theorem need_fits {x : Int} (h : wideP x) : ∀ f w, w ≤ 31 → 32 ≤ w + f → x = 0 ∨ fitsB x (needFrom x f w) = true
  | 0, w, hw, hf => by omega
  | f + 1, w, hw, hf => by
    unfold needFrom
    split
    · rename_i hc
      have : w ≠ 31 := fun e => by rw [e, fits_wide h] at hc; simp at hc
      exact need_fits h f (w + 1) (by omega) (by omega)
    · rename_i hc
      by_cases hx : x = 0
      · exact .inl hx
      · right
        have : ¬ (fitsB x w = false) := fun e => hc ⟨hx, by omega, e⟩
        simpa using this
/-- One round of the inner loop. -/
theorem need_step {x : Int} {w : Nat} (hx : x ≠ 0) (hw : w < 32) (hf : fitsB x w = false) (f : Nat) : needFrom x (f + 1) w = needFrom x f (w + 1) := by
  rw [needFrom, if_pos ⟨hx, hw, hf⟩]
theorem need_stop {x : Int} {w f : Nat} (h : x = 0 ∨ fitsB x w = true) : needFrom x f w = w := by
  cases f with
  | zero => rfl
  | succ f =>
    rw [needFrom, if_neg]
    rintro ⟨h1, h2, h3⟩
    rcases h with h | h
    · exact h1 h
    · rw [h] at h3; cases h3
theorem widthL_le {l : List Int} (h : ∀ x ∈ l, wideP x) : widthL l ≤ 31 := by
  unfold widthL
  suffices H : ∀ (l : List Int) (w : Nat), (∀ x ∈ l, wideP x) → w ≤ 31 → l.foldl (fun w x => needFrom x 32 w) w ≤ 31 from H l 0 h (by omega)
  intro l
  induction l with
  | nil => intro w _ hw; exact hw
  | cons x l ih => intro w hl hw; exact ih _ (fun y hy => hl y (by simp [hy])) (need_le (hl x (by simp)) 32 w hw)
theorem widthL_fits {l : List Int} (h : ∀ x ∈ l, wideP x) : ∀ x ∈ l, x = 0 ∨ fitsB x (widthL l) = true := by
  unfold widthL
  suffices H : ∀ (l : List Int) (w : Nat), (∀ x ∈ l, wideP x) → w ≤ 31 → (∀ x ∈ l, x = 0 ∨ fitsB x (l.foldl (fun w x => needFrom x 32 w) w) = true) ∧ w ≤ l.foldl (fun w x => needFrom x 32 w) w from (H l 0 h (by omega)).1
  intro l
  induction l with
  | nil => intro w _ hw; exact ⟨by simp, Nat.le_refl _⟩
  | cons x l ih =>
    intro w hl hw
    have hl' : ∀ y ∈ l, wideP y := fun y hy => hl y (by simp [hy])
    have hwx := need_le (hl x (by simp)) 32 w hw
    obtain ⟨h1, h2⟩ := ih (needFrom x 32 w) hl' hwx
    have hge := need_ge x 32 w
    refine ⟨fun y hy => ?_, Nat.le_trans hge h2⟩
    rcases List.mem_cons.1 hy with rfl | hy
    · rcases need_fits (hl y (by simp)) 32 w hw (by omega) with h3 | h3
      · exact .inl h3
      · right
        have hle : (List.foldl (fun w x => needFrom x 32 w) (needFrom y 32 w) l) ≤ 31 := by
          have : ∀ (l : List Int) (w : Nat), (∀ x ∈ l, wideP x) → w ≤ 31 → l.foldl (fun w x => needFrom x 32 w) w ≤ 31 := by
            intro l
            induction l with
            | nil => intro w _ hw; exact hw
            | cons x l ih => intro w hl hw; exact ih _ (fun y hy => hl y (by simp [hy])) (need_le (hl x (by simp)) 32 w hw)
          exact this l _ hl' hwx
        exact fits_mono h3 h2 hle
    · exact h1 y hy

/-- x modulo 2^n, as it is written in n bits. -/
def modN (x : Int) (n : Nat) : Nat := (x % 2 ^ n).toNat
theorem modN_lt (x : Int) (n : Nat) : modN x n < 2 ^ n := by
  have h0 := Int.emod_nonneg x (show (2 : Int) ^ n ≠ 0 by have := two_pow_pos' n; omega)
  have h1 := Int.emod_lt_of_pos x (two_pow_pos' n)
  unfold modN
  have : ((x % 2 ^ n).toNat : Int) < ((2 ^ n : Nat) : Int) := by
    rw [Int.toNat_of_nonneg h0]
    simpa using h1
  omega
theorem modN_cast (x : Int) (n : Nat) : ((modN x n : Nat) : Int) = x % 2 ^ n := by
  unfold modN
  exact Int.toNat_of_nonneg (Int.emod_nonneg x (by have := two_pow_pos' n; omega))

/-- The numbers of residuals of the 2^o parts. -/
def sizesL (o n warm : Nat) : List Nat := if n / 2 ^ o * 2 ^ o = n ∧ warm ≤ n / 2 ^ o then (n / 2 ^ o - warm) :: List.replicate (2 ^ o - 1) (n / 2 ^ o) else []
theorem sizesL_zero {n warm : Nat} (h : warm ≤ n) : sizesL 0 n warm = [n - warm] := by
  unfold sizesL
  simp [h]
theorem sizesL_len {o n warm : Nat} (h : sizesL o n warm ≠ []) : (sizesL o n warm).length = 2 ^ o := by
  unfold sizesL at *
  split
  · have := Nat.two_pow_pos o
    simp
    omega
  · rename_i hc
    rw [if_neg hc] at h
    exact absurd rfl h
theorem sizesL_sum {o n warm : Nat} (h : sizesL o n warm ≠ []) : (sizesL o n warm).sum = n - warm := by
  unfold sizesL at *
  split
  · rename_i hc
    obtain ⟨h1, h2⟩ := hc
    have hp := Nat.two_pow_pos o
    have e : (2 ^ o - 1) * (n / 2 ^ o) + n / 2 ^ o = n := by
      rw [← Nat.succ_mul]
      have : Nat.succ (2 ^ o - 1) = 2 ^ o := by omega
      rw [this, Nat.mul_comm]
      exact h1
    simp
    omega
  · rename_i hc
    rw [if_neg hc] at h
    exact absurd rfl h
/-- A row cut in pieces of these sizes. -/
def splitL {α : Type} : List Nat → List α → List (List α)
  | [], _ => []
  | s :: ss, l => l.take s :: splitL ss (l.drop s)
theorem splitL_len {α : Type} : ∀ (ss : List Nat) (l : List α), (splitL ss l).length = ss.length
  | [], _ => rfl
  | s :: ss, l => by rw [splitL, List.length_cons, splitL_len ss, List.length_cons]
theorem splitL_flat {α : Type} : ∀ (ss : List Nat) (l : List α), ss.sum = l.length → (splitL ss l).flatten = l
  | [], l, h => by
    have : l = [] := List.eq_nil_of_length_eq_zero (by simpa using h.symm)
    subst this
    rfl
  | s :: ss, l, h => by
    rw [splitL, List.flatten_cons, splitL_flat ss, List.take_append_drop]
    rw [List.length_drop]
    simp at h
    omega
/-- The place at which piece i begins. -/
def startOf (ss : List Nat) (i : Nat) : Nat := (ss.take i).sum
theorem splitL_get {α : Type} : ∀ (ss : List Nat) (l : List α) (i : Nat) (h : i < ss.length), (splitL ss l)[i]? = some ((l.drop (startOf ss i)).take ss[i])
  | s :: ss, l, 0, _ => by simp [splitL, startOf]
  | s :: ss, l, i + 1, h => by
    rw [splitL, List.getElem?_cons_succ, splitL_get ss (l.drop s) i (by simpa using h)]
    simp [startOf, List.drop_drop]
theorem startOf_succ (ss : List Nat) (i : Nat) (h : i < ss.length) : startOf ss (i + 1) = startOf ss i + ss[i] := by
  unfold startOf
  rw [List.take_succ_eq_append_getElem h, List.sum_append]
  simp only [List.sum_cons, List.sum_nil, Nat.add_zero]
theorem startOf_le (ss : List Nat) (i : Nat) : startOf ss i ≤ ss.sum := by
  unfold startOf
  have : ss.sum = (ss.take i).sum + (ss.drop i).sum := by rw [← List.sum_append, List.take_append_drop]
  omega
theorem startOf_fit (ss : List Nat) (i : Nat) (h : i < ss.length) : startOf ss i + ss[i] ≤ ss.sum := by
  rw [← startOf_succ ss i h]
  exact startOf_le ss (i + 1)

def rawCost (part : List Int) : Nat := 5 + widthL part * part.length
def partCost (k : Nat) (part : List Int) : Nat := 5 + if k = 31 then rawCost part else rsum k part
def partBits (k : Nat) (part : List Int) : List Nat :=
  bitsOf k 5 ++ if k = 31 then bitsOf (widthL part) 5 ++ part.flatMap (fun x => bitsOf (modN x (widthL part)) (widthL part)) else rbitsAll k part
theorem flat_bits_len (n : Nat) (f : Int → Nat) (l : List Int) : (l.flatMap (fun x => bitsOf (f x) n)).length = n * l.length := by
  induction l with
  | nil => simp
  | cons x l ih => rw [List.flatMap_cons, List.length_append, bitsOf_len, ih, List.length_cons, Nat.mul_add]; omega
theorem partBits_len (k : Nat) (part : List Int) : (partBits k part).length = partCost k part := by
  unfold partBits partCost rawCost
  split
  · rw [List.length_append, List.length_append, bitsOf_len, bitsOf_len, flat_bits_len]
  · rw [List.length_append, bitsOf_len, rbitsAll_len]
def costP (ks : List Nat) (ps : List (List Int)) : Nat := 4 + ((ks.zip ps).map (fun p => partCost p.1 p.2)).sum
def bitsP (o : Nat) (ks : List Nat) (ps : List (List Int)) : List Nat := bitsOf o 4 ++ (ks.zip ps).flatMap (fun p => partBits p.1 p.2)
theorem bitsP_len (o : Nat) (ks : List Nat) (ps : List (List Int)) : (bitsP o ks ps).length = costP ks ps := by
  unfold bitsP costP
  rw [List.length_append, bitsOf_len]
  congr 1
  generalize ks.zip ps = z
  induction z with
  | nil => rfl
  | cons p z ih => rw [List.flatMap_cons, List.length_append, partBits_len, ih, List.map_cons, List.sum_cons]
def chooseK (part : List Int) : Nat := if rawCost part < rsum (rbest part) part then 31 else rbest part
theorem chooseK_ok (part : List Int) : chooseK part ≤ 25 ∨ chooseK part = 31 := by
  have := rbest_le part
  unfold chooseK
  split <;> omega
def planOf (o n warm : Nat) (l : List Int) : List Nat := (splitL (sizesL o n warm) l).map chooseK
/-- What Best has found after an order. -/
structure Plan where
  order : Nat
  ks : List Nat
  cost : Nat
def planStep (n warm : Nat) (l : List Int) (s : Plan) (o : Nat) : Plan :=
  if sizesL o n warm = [] then s
  else if s.cost = 0 ∨ costP (planOf o n warm l) (splitL (sizesL o n warm) l) < s.cost then ⟨o, planOf o n warm l, costP (planOf o n warm l) (splitL (sizesL o n warm) l)⟩ else s
def plans (n warm : Nat) (l : List Int) (m : Nat) : Plan := (List.range m).foldl (planStep n warm l) ⟨0, [], 0⟩
def bestPlan (n warm most : Nat) (l : List Int) : Plan := plans n warm l (min most 8 + 1)
theorem plans_succ (n warm : Nat) (l : List Int) (m : Nat) : plans n warm l (m + 1) = planStep n warm l (plans n warm l m) m := by
  simp [plans, List.range_succ]
/-- A plan that may be. -/
def PlanOk (n warm : Nat) (l : List Int) (s : Plan) : Prop := sizesL s.order n warm ≠ [] ∧ s.ks = planOf s.order n warm l ∧ s.cost = costP s.ks (splitL (sizesL s.order n warm) l)
theorem costP_pos (ks : List Nat) (ps : List (List Int)) : 4 ≤ costP ks ps := by unfold costP; omega
theorem plans_ok {n warm : Nat} (h : warm ≤ n) (l : List Int) : ∀ m, PlanOk n warm l (plans n warm l (m + 1)) ∧ (plans n warm l (m + 1)).order ≤ m
  | 0 => by
    have h0 := sizesL_zero h
    have hne : sizesL 0 n warm ≠ [] := by rw [h0]; simp
    have e0 : plans n warm l 0 = ⟨0, [], 0⟩ := rfl
    rw [plans_succ, e0, planStep, if_neg hne, if_pos (.inl rfl)]
    exact ⟨⟨hne, rfl, rfl⟩, Nat.le_refl _⟩
  | m + 1 => by
    obtain ⟨h1, h2⟩ := plans_ok h l m
    rw [plans_succ, planStep]
    split
    · exact ⟨h1, by omega⟩
    · rename_i hne
      split
      · exact ⟨⟨hne, rfl, rfl⟩, Nat.le_refl _⟩
      · exact ⟨h1, by omega⟩
theorem bestPlan_ok {n warm most : Nat} (h : warm ≤ n) (l : List Int) : PlanOk n warm l (bestPlan n warm most l) ∧ (bestPlan n warm most l).order ≤ 8 ∧ (bestPlan n warm most l).order ≤ most := by
  obtain ⟨h1, h2⟩ := plans_ok h l (min most 8)
  exact ⟨h1, Nat.le_trans h2 (Nat.min_le_right _ _), Nat.le_trans h2 (Nat.min_le_left _ _)⟩
end Go.Proofs.YtpkplhmdnjdmoaaGreatDoor

/- Tiles, plain Lean: a plane in squares (TileGrids). -/
namespace Go.Proofs.YtpkplhmdnjdmoaaGreatDoor

/-- A side cut in pieces: the start and the length of each, from x on (f: as many as there may be). -/
def pieces (s n : Nat) : Nat → Nat → List (Nat × Nat)
  | 0, _ => []
  | f + 1, x => if x < n then (x, min s (n - x)) :: pieces s n f (x + s) else []
theorem pieces_end {s n x : Nat} (f : Nat) (h : n ≤ x) : pieces s n f x = [] := by
  cases f
  · rfl
  · rw [pieces, if_neg (by omega)]
theorem pieces_step {s n x : Nat} (f : Nat) (h : x < n) : pieces s n (f + 1) x = (x, min s (n - x)) :: pieces s n f (x + s) := by
  rw [pieces, if_pos h]
/-- More room than is needed changes nothing. -/
theorem pieces_room {s n : Nat} (hs : 1 ≤ s) : ∀ (f g x : Nat), n ≤ x + f → n ≤ x + g → pieces s n f x = pieces s n g x
  | 0, g, x, h, _ => by rw [pieces_end g (by omega)]; rfl
  | f + 1, 0, x, _, h => by rw [pieces_end _ (by omega)]; rfl
  | f + 1, g + 1, x, h, k => by
    by_cases hx : x < n
    · rw [pieces_step f hx, pieces_step g hx, pieces_room hs f g (x + s) (by omega) (by omega)]
    · rw [pieces_end _ (by omega), pieces_end _ (by omega)]
theorem pieces_sum {s n : Nat} (hs : 1 ≤ s) : ∀ (f x : Nat), n ≤ x + f → ((pieces s n f x).map (·.2)).sum = n - x
  | 0, x, h => by simp [pieces]; omega
  | f + 1, x, h => by
    by_cases hx : x < n
    · rw [pieces_step f hx, List.map_cons, List.sum_cons, pieces_sum hs f (x + s) (by omega)]
      simp only
      omega
    · rw [pieces_end _ (by omega)]
      simp
      omega
theorem pieces_ok {s n : Nat} (hs : 1 ≤ s) : ∀ (f x : Nat), ∀ p ∈ pieces s n f x, 1 ≤ p.2 ∧ p.2 ≤ s ∧ p.1 + p.2 ≤ n
  | 0, x, p, hp => by simp [pieces] at hp
  | f + 1, x, p, hp => by
    by_cases hx : x < n
    · rw [pieces_step f hx] at hp
      rcases List.mem_cons.1 hp with rfl | hp
      · simp only; omega
      · exact pieces_ok hs f (x + s) p hp
    · rw [pieces_end _ (by omega)] at hp
      simp at hp
theorem pieces_len (s n : Nat) : ∀ (f x : Nat), (pieces s n f x).length ≤ f
  | 0, x => by simp [pieces]
  | f + 1, x => by
    by_cases hx : x < n
    · rw [pieces_step f hx, List.length_cons]
      have := pieces_len s n f (x + s)
      omega
    · rw [pieces_end _ (by omega)]
      simp

/-- The squares: x, y, width, height. -/
structure Sq where
  x : Nat
  y : Nat
  w : Nat
  h : Nat
def gridRow (w s : Nat) (p : Nat × Nat) : List Sq := (pieces s w w 0).map fun q => ⟨q.1, p.1, q.2, p.2⟩
def gridL (w h s : Nat) : List Sq := (pieces s h h 0).flatMap (gridRow w s)
def area (l : List Sq) : Nat := (l.map fun q => q.w * q.h).sum
theorem area_append (a b : List Sq) : area (a ++ b) = area a + area b := by simp [area]
theorem area_row {w s : Nat} (hs : 1 ≤ s) (p : Nat × Nat) : area (gridRow w s p) = w * p.2 := by
  have h := pieces_sum (n := w) hs w 0 (by omega)
  have e : ∀ l : List (Nat × Nat), (l.map fun q : Nat × Nat => q.2 * p.2).sum = (l.map (·.2)).sum * p.2 := by
    intro l
    induction l with
    | nil => simp
    | cons a l ih => simp only [List.map_cons, List.sum_cons, ih, Nat.add_mul]
  unfold area gridRow
  rw [List.map_map]
  show ((pieces s w w 0).map fun q => q.2 * p.2).sum = _
  rw [e, h]
  rfl
/-- The squares cover the plane. -/
theorem area_grid {w h s : Nat} (hs : 1 ≤ s) : area (gridL w h s) = w * h := by
  have e : ∀ l : List (Nat × Nat), area (l.flatMap (gridRow w s)) = w * (l.map (·.2)).sum := by
    intro l
    induction l with
    | nil => simp [area]
    | cons a l ih => rw [List.flatMap_cons, area_append, ih, area_row hs, List.map_cons, List.sum_cons, Nat.mul_add]
  unfold gridL
  rw [e, pieces_sum hs h 0 (by omega)]
  rfl
theorem grid_ok {w h s : Nat} (hs : 1 ≤ s) : ∀ q ∈ gridL w h s, 1 ≤ q.w ∧ q.w ≤ s ∧ 1 ≤ q.h ∧ q.h ≤ s := by
  intro q hq
  obtain ⟨p, hp, hq⟩ := List.mem_flatMap.1 hq
  obtain ⟨r, hr, rfl⟩ := List.mem_map.1 hq
  have h1 := pieces_ok hs _ _ p hp
  have h2 := pieces_ok hs _ _ r hr
  exact ⟨h2.1, h2.2.1, h1.1, h1.2.1⟩
end Go.Proofs.YtpkplhmdnjdmoaaGreatDoor

/- Plain: taking the guesses back. -/
namespace Go.Proofs.YtpkplhmdnjdmoaaGreatDoor

/-- The neighbours are the same where only what stands before is written. -/
theorem nbr_fill {l : List Int} {W x y m : Nat} (hx : x < W) (hm : y * W + x = m) (hl : m ≤ l.length) : nbr (fillL (l.take m) l.length) W x y = nbr l W x y := by
  refine nbr_congr hx fun i hi => ?_
  rw [hm] at hi
  rw [List.getD_eq_getElem?_getD, List.getD_eq_getElem?_getD]
  unfold fillL
  rw [List.getElem?_append_left (by rw [List.length_take]; omega), List.getElem?_take_of_lt hi]
/-- A sample comes back from its rest and its guess. -/
theorem back_one {l : List Int} {d : Nat} (hs : SmpOk d l) (W kind y x : Nat) : wrapI (restAt l W d kind y x + guessI kind (nbr l W x y) d) d = l.getD (y * W + x) 0 := by
  obtain ⟨h0, h1⟩ := getD_ok hs (y * W + x)
  unfold restAt
  generalize guessI kind (nbr l W x y) d = g
  rw [Int.add_comm, wrapI_add_wrap, show g + (l.getD (y * W + x) 0 - g) = l.getD (y * W + x) 0 by omega]
  exact wrapI_in h0 h1
/-- The samples are all in the rows' frame again once the last is written. -/
theorem fill_all (l : List Int) : fillL (l.take l.length) l.length = l := by
  rw [List.take_length]
  simp [fillL]
end Go.Proofs.YtpkplhmdnjdmoaaGreatDoor
