/- Guesses of whole rows in plain Lean: rows, weights, the best kinds, what is left. No program. -/
import Derived.Test.YtpkplhmdnjdmoaaGreatDoorMg02
import Derived.Test.YtpkplhmdnjdmoaaGreatDoorMg14
import Derived.Test.YtpkplhmdnjdmoaaGreatDoorMg01
set_option linter.unusedVariables false
set_option linter.unusedSimpArgs false
namespace Go.Proofs.YtpkplhmdnjdmoaaGreatDoor

def restAt (l : List Int) (W d kind y x : Nat) : Int := wrapI (l.getD (y * W + x) 0 - guessI kind (nbr l W x y) d) d
def rowL (l : List Int) (W y d kind : Nat) : List Int := (List.range W).map (restAt l W d kind y)
theorem rowL_len (l : List Int) (W y d kind : Nat) : (rowL l W y d kind).length = W := by simp [rowL]
theorem rowL_ok (l : List Int) (W y d kind : Nat) : SmpOk d (rowL l W y d kind) := by
  intro s hs
  obtain ⟨x, _, rfl⟩ := List.mem_map.1 hs
  exact ⟨wrapI_lo _ _, wrapI_hi _ _⟩
def absFold (d : Nat) (v : Int) : Int := distI (foldI v d) 0
theorem absFold_ok {d : Nat} (h : 1 ≤ d) (hd : d ≤ 16) (v : Int) : 0 ≤ absFold d v ∧ absFold d v ≤ 32768 := by
  obtain ⟨h1, h2⟩ := foldI_range v h
  have h3 : (2 : Int) ^ (d - 1) ≤ 2 ^ 15 := by
    have := Nat.pow_le_pow_right (n := 2) (by decide) (show d - 1 ≤ 15 by omega)
    exact_mod_cast this
  unfold absFold distI
  split <;> omega
def weightI (l : List Int) (d : Nat) : Int := (l.map (absFold d)).sum
theorem weightI_snoc (l : List Int) (x : Int) (d : Nat) : weightI (l ++ [x]) d = weightI l d + absFold d x := by simp [weightI]
theorem weightI_ok {d : Nat} (h : 1 ≤ d) (hd : d ≤ 16) (l : List Int) : 0 ≤ weightI l d ∧ weightI l d ≤ 32768 * l.length := by
  induction l with
  | nil => simp [weightI]
  | cons x l ih =>
    have := absFold_ok h hd x
    have e : weightI (x :: l) d = absFold d x + weightI l d := by simp [weightI]
    rw [e, List.length_cons]
    omega
/-- The first of the kinds 0 to n whose row weighs least. -/
def bestUp (l : List Int) (W y d : Nat) : Nat → Nat
  | 0 => 0
  | n + 1 => if weightI (rowL l W y d (n + 1)) d < weightI (rowL l W y d (bestUp l W y d n)) d then n + 1 else bestUp l W y d n
theorem bestUp_le (l : List Int) (W y d : Nat) : ∀ n, bestUp l W y d n ≤ n
  | 0 => Nat.le_refl _
  | n + 1 => by
    have := bestUp_le l W y d n
    unfold bestUp
    split <;> omega
def bestKinds (l : List Int) (W H d : Nat) : List Nat := (List.range H).map (fun y => bestUp l W y d 9)
theorem bestKinds_len (l : List Int) (W H d : Nat) : (bestKinds l W H d).length = H := by simp [bestKinds]
theorem bestKinds_ok (l : List Int) (W H d : Nat) : ∀ k ∈ bestKinds l W H d, k < 10 := by
  intro k hk
  obtain ⟨y, _, rfl⟩ := List.mem_map.1 hk
  have := bestUp_le l W y d 9
  omega
def foreL (l : List Int) (W H d : Nat) (ks : List Nat) : List Int := (List.range H).flatMap (fun y => rowL l W y d (ks.getD y 0))
theorem flatMap_len_const {α β : Type} (f : α → List β) (n : Nat) (l : List α) (h : ∀ a ∈ l, (f a).length = n) : (l.flatMap f).length = n * l.length := by
  induction l with
  | nil => simp
  | cons a l ih =>
    rw [List.flatMap_cons, List.length_append, h a (by simp), ih fun b hb => h b (by simp [hb]), List.length_cons, Nat.mul_add]
    omega
theorem foreL_len (l : List Int) (W H d : Nat) (ks : List Nat) : (foreL l W H d ks).length = W * H := by
  unfold foreL
  rw [flatMap_len_const _ W _ fun y _ => rowL_len _ _ _ _ _, List.length_range]
theorem foreL_ok (l : List Int) (W H d : Nat) (ks : List Nat) : SmpOk d (foreL l W H d ks) := by
  intro s hs
  obtain ⟨y, _, hy⟩ := List.mem_flatMap.1 hs
  exact rowL_ok _ _ _ _ _ s hy
/-- A row that is filled from its start on. -/
def fillL (done : List Int) (n : Nat) : List Int := done ++ List.replicate (n - done.length) 0
theorem fillL_len {done : List Int} {n : Nat} (h : done.length ≤ n) : (fillL done n).length = n := by simp [fillL]; omega
theorem fillL_set {done : List Int} {n : Nat} (h : done.length < n) (v : Int) : (fillL done n).set done.length v = fillL (done ++ [v]) n := by
  unfold fillL
  obtain ⟨k, hk⟩ : ∃ k, n - done.length = k + 1 := ⟨n - done.length - 1, by omega⟩
  have hk2 : n - (done ++ [v]).length = k := by simp; omega
  rw [hk, hk2, List.set_append_right _ _ (Nat.le_refl _), Nat.sub_self]
  simp [List.replicate_succ]
theorem fillL_full {done : List Int} {n : Nat} (h : done.length = n) : fillL done n = done := by simp [fillL, h]
theorem fillL_nil (n : Nat) : fillL [] n = List.replicate n 0 := by simp [fillL]
theorem range_take (n m : Nat) (h : m ≤ n) : (List.range n).take m = List.range m := by rw [List.take_range, Nat.min_eq_left h]
end Go.Proofs.YtpkplhmdnjdmoaaGreatDoor

/- A table of lengths as bits, plain Lean. No program. -/
namespace Go.Proofs.YtpkplhmdnjdmoaaGreatDoor

/-- How many zeros a list begins with, m at most. -/
def zr : Nat → List Nat → Nat
  | 0, _ => 0
  | _ + 1, [] => 0
  | m + 1, x :: l => if x = 0 then zr m l + 1 else 0
theorem zr_le (m : Nat) : ∀ l, zr m l ≤ m := by
  induction m with
  | zero => intro l; simp [zr]
  | succ m ih =>
    intro l
    cases l with
    | nil => simp [zr]
    | cons x l =>
      unfold zr
      split
      · have := ih l; omega
      · omega
theorem zr_len (m : Nat) : ∀ l, zr m l ≤ l.length := by
  induction m with
  | zero => intro l; simp [zr]
  | succ m ih =>
    intro l
    cases l with
    | nil => simp [zr]
    | cons x l =>
      unfold zr
      split
      · have := ih l; simp; omega
      · simp
theorem zr_zero (m : Nat) : ∀ (l : List Nat) (z : Nat), z < zr m l → l.getD z 0 = 0 := by
  induction m with
  | zero => intro l z h; simp [zr] at h
  | succ m ih =>
    intro l z h
    cases l with
    | nil => simp
    | cons x l =>
      unfold zr at h
      split at h
      · rename_i hx
        cases z with
        | zero => simpa using hx
        | succ z =>
          have := ih l z (by omega)
          simpa using this
      · omega
theorem zr_stop (m : Nat) : ∀ (l : List Nat), zr m l = m ∨ zr m l = l.length ∨ l.getD (zr m l) 0 ≠ 0 := by
  induction m with
  | zero => intro l; left; simp [zr]
  | succ m ih =>
    intro l
    cases l with
    | nil => right; left; simp [zr]
    | cons x l =>
      unfold zr
      split
      · rcases ih l with h | h | h
        · left; omega
        · right; left; simp; omega
        · right; right; simpa using h
      · rename_i hx
        right; right; simpa using hx
/-- Lengths as bits. -/
def bodyBits : Nat → List Nat → List Nat
  | 0, _ => []
  | _ + 1, [] => []
  | f + 1, x :: l =>
    if zr 66 (x :: l) < 3 then bitsOf x 5 ++ bodyBits f l else bitsOf 31 5 ++ (bitsOf (zr 66 (x :: l) - 3) 6 ++ bodyBits f ((x :: l).drop (zr 66 (x :: l))))
def tableBits (lens : List Nat) : List Nat := bitsOf (lens.length - 1) 10 ++ bodyBits lens.length lens
theorem body_room : ∀ (f g : Nat) (l : List Nat), l.length ≤ f → l.length ≤ g → bodyBits f l = bodyBits g l
  | 0, g, l, h, _ => by
    obtain rfl : l = [] := List.eq_nil_of_length_eq_zero (by omega)
    cases g <;> rfl
  | f + 1, 0, l, _, h => by
    obtain rfl : l = [] := List.eq_nil_of_length_eq_zero (by omega)
    rfl
  | f + 1, g + 1, [], _, _ => rfl
  | f + 1, g + 1, x :: l, h1, h2 => by
    simp only [List.length_cons] at h1 h2
    unfold bodyBits
    split
    · rw [body_room f g l (by omega) (by omega)]
    · rw [body_room f g _ (by rw [List.length_drop, List.length_cons]; omega) (by rw [List.length_drop, List.length_cons]; omega)]
theorem body_cons (f x : Nat) (l : List Nat) : bodyBits (f + 1) (x :: l) =
    if zr 66 (x :: l) < 3 then bitsOf x 5 ++ bodyBits f l else bitsOf 31 5 ++ (bitsOf (zr 66 (x :: l) - 3) 6 ++ bodyBits f ((x :: l).drop (zr 66 (x :: l)))) := rfl
/-- The bits from the i-th length on. -/
def bodyFrom (lens : List Nat) (i : Nat) : List Nat := bodyBits lens.length (lens.drop i)
theorem bodyFrom_end (lens : List Nat) : bodyFrom lens lens.length = [] := by
  unfold bodyFrom
  rw [List.drop_length]
  cases lens.length <;> rfl
theorem bodyFrom_one {lens : List Nat} {i : Nat} (hi : i < lens.length) (hz : zr 66 (lens.drop i) < 3) : bodyFrom lens i = bitsOf (lenAt lens i) 5 ++ bodyFrom lens (i + 1) := by
  unfold bodyFrom
  have e : lens.drop i = lens[i] :: lens.drop (i + 1) := List.drop_eq_getElem_cons hi
  rw [e] at hz ⊢
  obtain ⟨f, hf⟩ : ∃ f, lens.length = f + 1 := ⟨lens.length - 1, by omega⟩
  have hl : lenAt lens i = lens[i] := by unfold lenAt; rw [List.getD_eq_getElem?_getD, List.getElem?_eq_getElem hi]; rfl
  rw [hl]
  rw [hf, body_cons, if_pos hz, body_room f (f + 1) _ (by rw [List.length_drop]; omega) (by rw [List.length_drop]; omega)]
theorem bodyFrom_many {lens : List Nat} {i : Nat} (hi : i < lens.length) (hz : ¬ zr 66 (lens.drop i) < 3) :
    bodyFrom lens i = bitsOf 31 5 ++ (bitsOf (zr 66 (lens.drop i) - 3) 6 ++ bodyFrom lens (i + zr 66 (lens.drop i))) := by
  unfold bodyFrom
  have e : lens.drop i = lens[i] :: lens.drop (i + 1) := List.drop_eq_getElem_cons hi
  have e2 : lens.drop (i + zr 66 (lens.drop i)) = (lens.drop i).drop (zr 66 (lens.drop i)) := by rw [List.drop_drop]
  rw [e2]
  rw [e] at hz ⊢
  obtain ⟨f, hf⟩ : ∃ f, lens.length = f + 1 := ⟨lens.length - 1, by omega⟩
  have hzl := zr_len 66 (lens[i] :: lens.drop (i + 1))
  rw [hf, body_cons, if_neg hz, body_room f (f + 1) _ (by rw [List.length_drop, List.length_cons, List.length_drop]; omega) (by rw [List.length_drop, List.length_cons, List.length_drop]; omega)]
theorem tableBits_eq (lens : List Nat) : tableBits lens = bitsOf (lens.length - 1) 10 ++ bodyFrom lens 0 := rfl
theorem body_len : ∀ (f : Nat) (l : List Nat), (bodyBits f l).length ≤ 11 * l.length
  | 0, l => by simp [bodyBits]
  | f + 1, [] => by simp [bodyBits]
  | f + 1, x :: l => by
    unfold bodyBits
    split
    · have := body_len f l
      rw [List.length_append, bitsOf_len, List.length_cons]
      omega
    · have := body_len f ((x :: l).drop (zr 66 (x :: l)))
      rw [List.length_append, List.length_append, bitsOf_len, bitsOf_len]
      rw [List.length_drop] at this
      have := zr_len 66 (x :: l)
      omega
theorem tableBits_len (lens : List Nat) : (tableBits lens).length ≤ 10 + 11 * lens.length := by
  unfold tableBits
  have := body_len lens.length lens
  rw [List.length_append, bitsOf_len]
  omega
/-- Symbols as bits. -/
def symBits (lens : List Nat) (s : Nat) : List Nat := bitsOf (wordOf lens s) (lenAt lens s)
def symsBits (lens : List Nat) (l : List Nat) : List Nat := l.flatMap (symBits lens)
theorem symsBits_snoc (lens l : List Nat) (s : Nat) : symsBits lens (l ++ [s]) = symsBits lens l ++ symBits lens s := by simp [symsBits]
end Go.Proofs.YtpkplhmdnjdmoaaGreatDoor

/- A slice of elements of several cells that may still be nil. No program. -/
namespace Go.Proofs.YtpkplhmdnjdmoaaGreatDoor
set_option linter.unusedSimpArgs false
set_option linter.unusedVariables false
open Go.RowKit
/-- The slice value v owns n elements of k cells (of type e), the cells xs, or is nil and there are none; F: its block, if it has one. -/
structure OwnK (w : World) (e : TypeId) (k : Nat) (v : Value) (F : List Nat) (n : Nat) (xs : List Value) : Prop where
  own : w.ownsRow 0 e k v n xs
  fp : F = v.ownBlock.toList
section
variable {w w' : World} {e : TypeId} {k n : Nat} {v : Value} {F G : List Nat} {xs : List Value}
theorem OwnK.nil (w : World) (e : TypeId) (k : Nat) : OwnK w e k (.slice none 0 0) [] 0 [] := ⟨World.ownsRow_nil _ 0 _ _, rfl⟩
theorem OwnK.chg (h : OwnK w e k v F n xs) (hc : Chg G w w') (hd : ∀ x ∈ F, x ∉ G) : OwnK w' e k v F n xs :=
  ⟨own_chg h.own hc fun y hy => hd y (by rw [h.fp, hy]; simp), h.fp⟩
theorem OwnK.same (h : OwnK w e k v F n xs) (hc : Chg [] w w') : OwnK w' e k v F n xs := h.chg hc (by simp)
theorem OwnK.lt (h : OwnK w e k v F n xs) : ∀ x ∈ F, x < w.heap.size := fun x hx => by
  rw [h.fp] at hx
  exact own_lt h.own x (by simpa using hx)
theorem OwnK.open_ (h : OwnK w e k v F n xs) : ∃ (A : Option Addr) (cap : Nat), v = .slice A n cap ∧ n ≤ cap ∧ cap ≤ 9223372036854775807 ∧ Cells (fun v => v) w A xs ∧
    ∀ ad, A = some ad → ∃ g, ad = ⟨g, 0, none⟩ ∧ F = [g] ∧ ∀ i, w.frozen? ⟨g, i, none⟩ = false := by
  obtain ⟨⟨hl, h2⟩, fp⟩ := h
  rcases h2 with ⟨rfl, rfl⟩ | ⟨g, cap, cur, rfl, _, hg, hn, hcm, hsz, htk⟩
  · exact ⟨none, 0, rfl, Nat.le_refl _, by decide, ⟨fun h => by rw [hl] at h; simp at h⟩, fun ad h => by cases h⟩
  · have hb : Blk w g e cur := hg
    refine ⟨some ⟨g, 0, none⟩, cap, rfl, hn, by simpa [maxLen] using hcm, ⟨fun _ => ⟨g, 0, rfl, hb.lt, fun i a ha => ?_⟩⟩, fun ad h => ?_⟩
    · rw [Nat.zero_add, hb.cell]
      have hi : i < xs.length := (List.getElem?_eq_some_iff.1 ha).1
      rw [← htk, List.getElem?_take, if_pos (by omega)] at ha
      simpa using ha
    · injection h with h
      exact ⟨g, h.symm, fp, hb.frozen⟩
theorem OwnK.shape (h : OwnK w e k v F n xs) : ∃ A cap, v = .slice A n cap := by
  obtain ⟨A, cap, h1, _⟩ := h.open_
  exact ⟨A, cap, h1⟩
end
section
variable {P : Program}
/-- append of one element of k cells, which lies at an address. -/
theorem wpList_append_k1 {w : World} {ops : Array Oper} {rest : List Oper} {o : Oper} {a : Act} {Q : Exit → Act → World → Prop} (hgd : o.guard = none) {s x : Operand} {t : TypeId}
    (ho : o.op = .call { callee := .builtin .append, args := #[s, x], argTypes := #[t, t] })
    {e : TypeId} {z : Value} {k bytes : Nat} (E : Elem P t e z k bytes) (hzs : z.cells.size = k) (hk : 0 < k)
    {v : Value} {F : List Nat} {n : Nat} {xs : List Value} (hs : a.eval s = v) (hown : OwnK w e k v F n xs) {ad : Addr} {c : Nat} (news : List Value) (hx : a.eval x = .slice (some ad) 1 c) (hl : news.length = k)
    (hnews : ∀ j u, news[j]? = some u → w.cell? (ad.add j) = some u) (h1 : ∀ u ∈ news, u.oneCell' = true) (h63 : n < 9223372036854775807) (hbytes : (n + 1) * bytes ≤ 140737488355328)
    (h : ∀ g cap w', OwnK w' e k (.slice (some ⟨g, 0, none⟩) (n + 1) cap) [g] (n + 1) (xs ++ news) → Grow F [g] w w' → wpList P ops Q rest (a.put o.dst (.slice (some ⟨g, 0, none⟩) (n + 1) cap)) w') : wpList P ops Q (o :: rest) a w := by
  refine wpList_append_sl hgd ho E hzs hk hs hown.own hx (news := news) (by omega) (by decide) hnews h1 (by omega) hbytes ?_
  intro g' cap w' h2 h3 h4
  rw [← hown.fp] at h3
  refine h g' cap w' ⟨h2, rfl⟩ ⟨h3, fun x hx => ?_⟩
  simp at hx
  subst hx
  rcases h4 with h4 | h4
  · left; rw [hown.fp, ← h4]; simp
  · exact .inr h4
end
end Go.Proofs.YtpkplhmdnjdmoaaGreatDoor

/- The model of a plane's errors in plain Lean: levels, contexts, what a context learns. No program. -/
namespace Go.Proofs.YtpkplhmdnjdmoaaGreatDoor

def absI (x : Int) : Int := if x < 0 then -x else x
def steep (u : Int) : Int := if u < 3 then 1 else if u < 7 then 2 else if u < 21 then 3 else 4
def levelI (g : Int) (d : Nat) : Int := if g = 0 then 0 else if g < 0 then -steep (absI g * 256 / 2 ^ d) else steep (absI g * 256 / 2 ^ d)
theorem steep_ok (u : Int) : 1 ≤ steep u ∧ steep u ≤ 4 := by unfold steep; split <;> (try split) <;> (try split) <;> omega
theorem levelI_ok (g : Int) (d : Nat) : -4 ≤ levelI g d ∧ levelI g d ≤ 4 := by
  have := steep_ok (absI g * 256 / 2 ^ d)
  unfold levelI
  split
  · omega
  · split <;> omega
def ctxI (g : Nbr) (d : Nat) : Int := 81 * levelI (g.ne - g.n) d + 9 * levelI (g.n - g.nw) d + levelI (g.nw - g.w) d
def ctxN (g : Nbr) (d : Nat) : Nat := (absI (ctxI g d)).toNat
def turnB (g : Nbr) (d : Nat) : Bool := decide (ctxI g d < 0)
def classI (g : Nbr) (d : Nat) : Int := absI (levelI (g.ne - g.n) d) + absI (levelI (g.n - g.nw) d) + absI (levelI (g.nw - g.w) d)
theorem ctxN_lt (g : Nbr) (d : Nat) : ctxN g d < 365 := by
  have h1 := levelI_ok (g.ne - g.n) d
  have h2 := levelI_ok (g.n - g.nw) d
  have h3 := levelI_ok (g.nw - g.w) d
  unfold ctxN ctxI absI
  split <;> omega
theorem classI_ok (g : Nbr) (d : Nat) : 0 ≤ classI g d ∧ classI g d ≤ 12 := by
  have h1 := levelI_ok (g.ne - g.n) d
  have h2 := levelI_ok (g.n - g.nw) d
  have h3 := levelI_ok (g.nw - g.w) d
  unfold classI absI
  split <;> split <;> split <;> omega

/-- The numbers of a context. -/
structure Stat where
  n : Int
  a : Int
  b : Int
  c : Int
structure StatOk (s : Stat) : Prop where
  n0 : 1 ≤ s.n
  n1 : s.n ≤ 64
  a0 : 0 ≤ s.a
  a1 : s.a ≤ 32768 * s.n
  b0 : -s.n < s.b
  b1 : s.b ≤ 0
  c0 : -128 ≤ s.c
  c1 : s.c ≤ 127
def startA (d : Nat) : Int := max 2 ((2 ^ d + 32) / 64)
def newStat (d : Nat) : Stat := ⟨1, startA d, 0, 0⟩
theorem newStat_ok {d : Nat} (h : (2 : Int) ^ d ≤ 65536) : StatOk (newStat d) := by
  have := two_pow_pos' d
  refine ⟨?_, ?_, ?_, ?_, ?_, ?_, ?_, ?_⟩ <;> simp only [newStat, startA] <;> omega
def guessM (s : Stat) (p : Int) (t : Bool) (d : Nat) : Int := min (max (p + (if t then -s.c else s.c)) 0) (2 ^ d - 1)
theorem guessM_ok (s : Stat) (p : Int) (t : Bool) {d : Nat} (h : 2 ≤ (2 : Int) ^ d) : 0 ≤ guessM s p t d ∧ guessM s p t d < 2 ^ d := by
  unfold guessM
  omega
/-- The parameter of a context's next error. -/
def kFrom (s : Stat) : Nat → Nat → Nat
  | 0, k => k
  | f + 1, k => if s.n * 2 ^ k < s.a then kFrom s f (k + 1) else k
def kOf (s : Stat) : Nat := kFrom s 16 0
theorem kFrom_le {s : Stat} (h : StatOk s) : ∀ f k, k ≤ 15 → kFrom s f k ≤ 15
  | 0, k, hk => hk
  | f + 1, k, hk => by
    unfold kFrom
    split
    · rename_i hc
      have : k ≠ 15 := by
        rintro rfl
        have := h.a1
        have e : (2 : Int) ^ 15 = 32768 := rfl
        rw [e] at hc
        omega
      exact kFrom_le h f (k + 1) (by omega)
    · exact hk
theorem kOf_le {s : Stat} (h : StatOk s) : kOf s ≤ 15 := kFrom_le h 16 0 (by omega)
theorem kFrom_stop {s : Stat} {k : Nat} (h : ¬ s.n * 2 ^ k < s.a) (f : Nat) : kFrom s f k = k := by
  cases f with
  | zero => rfl
  | succ f => rw [kFrom, if_neg h]
theorem kFrom_step {s : Stat} {k : Nat} (h : s.n * 2 ^ k < s.a) (f : Nat) : kFrom s (f + 1) k = kFrom s f (k + 1) := by rw [kFrom, if_pos h]
theorem kFrom_lt {s : Stat} (hs : StatOk s) {k : Nat} (h : s.n * 2 ^ k < s.a) : k < 15 := by
  rcases Nat.lt_or_ge k 15 with h1 | h1
  · exact h1
  · exfalso
    have h2 : (32768 : Int) ≤ 2 ^ k := by
      have := Nat.pow_le_pow_right (n := 2) (by decide) h1
      have e : (2 : Int) ^ 15 ≤ 2 ^ k := by exact_mod_cast this
      exact e
    have h3 := hs.a1
    have h4 := hs.n0
    have h5 : s.n * 32768 ≤ s.n * 2 ^ k := Int.mul_le_mul_of_nonneg_left h2 (by omega)
    omega
/-- What a context comes to by an error: the first half (all is counted), the second half (it is evened out). -/
def countS (s : Stat) (e : Int) : Stat :=
  if s.n = 64 then ⟨33, (s.a + absI e) / 2, (s.b + e) / 2, s.c⟩ else ⟨s.n + 1, s.a + absI e, s.b + e, s.c⟩
def evenS (s : Stat) : Stat :=
  if s.b ≤ -s.n then ⟨s.n, s.a, max (s.b + s.n) (1 - s.n), max (s.c - 1) (-128)⟩
  else if 0 < s.b then ⟨s.n, s.a, min (s.b - s.n) 0, min (s.c + 1) 127⟩ else s
def learnS (s : Stat) (e : Int) : Stat := evenS (countS s e)
theorem countS_ok {s : Stat} (h : StatOk s) {e : Int} (h0 : -32768 ≤ e) (h1 : e < 32768) :
    1 ≤ (countS s e).n ∧ (countS s e).n ≤ 64 ∧ 0 ≤ (countS s e).a ∧ (countS s e).a ≤ 32768 * (countS s e).n ∧ -65536 ≤ (countS s e).b ∧ (countS s e).b ≤ 65536 ∧ (countS s e).c = s.c := by
  obtain ⟨n0, n1, a0, a1, b0, b1, c0, c1⟩ := h
  have ha : 0 ≤ absI e ∧ absI e ≤ 32768 := by unfold absI; split <;> omega
  unfold countS
  split
  · refine ⟨?_, ?_, ?_, ?_, ?_, ?_, rfl⟩ <;> simp only <;> omega
  · refine ⟨?_, ?_, ?_, ?_, ?_, ?_, rfl⟩ <;> simp only <;> omega
theorem learnS_ok {s : Stat} (h : StatOk s) {e : Int} (h0 : -32768 ≤ e) (h1 : e < 32768) : StatOk (learnS s e) := by
  obtain ⟨m0, m1, m2, m3, m4, m5, m6⟩ := countS_ok h h0 h1
  have c0 := h.c0
  have c1 := h.c1
  rw [← m6] at c0 c1
  unfold learnS
  generalize countS s e = t at *
  unfold evenS
  split
  · constructor <;> simp only <;> omega
  · split
    · constructor <;> simp only <;> omega
    · constructor <;> omega
/-- One sample of a plane: the error that is written, turned as its context says. -/
def errOf (s g : Int) (t : Bool) (d : Nat) : Int := if t then foldI (-foldI (s - g) d) d else foldI (s - g) d
theorem errOf_range (s g : Int) (t : Bool) {d : Nat} (h : 1 ≤ d) : -2 ^ (d - 1) ≤ errOf s g t d ∧ errOf s g t d < 2 ^ (d - 1) := by
  unfold errOf
  split
  · exact foldI_range _ h
  · exact foldI_range _ h
theorem errOf_back {s g : Int} (t : Bool) {d : Nat} (h0 : 0 ≤ s) (h1 : s < 2 ^ d) : wrapI (g + (if t then -errOf s g t d else errOf s g t d)) d = s := by
  unfold errOf
  cases t
  · exact unfold_fold h0 h1
  · exact unfold_turned h0 h1
def statAt (m : List Stat) (i : Nat) : Stat := m.getD i (newStat 1)
def ctxAt (l : List Int) (W d i : Nat) : Nat := ctxN (nbr l W (i % W) (i / W)) d
def turnAt (l : List Int) (W d i : Nat) : Bool := turnB (nbr l W (i % W) (i / W)) d
def predAt (m : List Stat) (l : List Int) (W d i : Nat) : Int := guessM (statAt m (ctxAt l W d i)) (guessI 7 (nbr l W (i % W) (i / W)) d) (turnAt l W d i) d
def errAt (m : List Stat) (l : List Int) (W d i : Nat) : Int := errOf (l.getD i 0) (predAt m l W d i) (turnAt l W d i) d
def bitsAtM (m : List Stat) (l : List Int) (W d i : Nat) : List Nat := rbits (kOf (statAt m (ctxAt l W d i))) (errAt m l W d i)
def nextM (m : List Stat) (l : List Int) (W d i : Nat) : List Stat := m.set (ctxAt l W d i) (learnS (statAt m (ctxAt l W d i)) (errAt m l W d i))
def newModel (d : Nat) : List Stat := List.replicate 365 (newStat d)
def modelTo (l : List Int) (W d : Nat) : Nat → List Stat
  | 0 => newModel d
  | i + 1 => nextM (modelTo l W d i) l W d i
def modelBits (l : List Int) (W d : Nat) : Nat → List Nat
  | 0 => []
  | i + 1 => modelBits l W d i ++ bitsAtM (modelTo l W d i) l W d i
structure ModelOk (m : List Stat) : Prop where
  len : m.length = 365
  all : ∀ s ∈ m, StatOk s
theorem statAt_mem {m : List Stat} (h : ModelOk m) {i : Nat} (hi : i < 365) : m[i]? = some (statAt m i) ∧ StatOk (statAt m i) := by
  have hl : i < m.length := by rw [h.len]; exact hi
  unfold statAt
  rw [List.getD_eq_getElem?_getD, List.getElem?_eq_getElem hl]
  exact ⟨rfl, h.all _ (List.getElem_mem hl)⟩
theorem newModel_ok {d : Nat} (h : (2 : Int) ^ d ≤ 65536) : ModelOk (newModel d) :=
  ⟨List.length_replicate, fun s hs => by rw [List.eq_of_mem_replicate hs]; exact newStat_ok h⟩
theorem errRange16 {d : Nat} (h1 : d ≤ 16) {e : Int} (h : -2 ^ (d - 1) ≤ e ∧ e < 2 ^ (d - 1)) : -32768 ≤ e ∧ e < 32768 := by
  have : (2 : Int) ^ (d - 1) ≤ 2 ^ 15 := by
    have := Nat.pow_le_pow_right (n := 2) (by decide) (show d - 1 ≤ 15 by omega)
    exact_mod_cast this
  omega
theorem nextM_ok {m : List Stat} (h : ModelOk m) (l : List Int) (W : Nat) {d : Nat} (h0 : 1 ≤ d) (h1 : d ≤ 16) (i : Nat) : ModelOk (nextM m l W d i) := by
  refine ⟨by simp [nextM, h.len], fun s hs => ?_⟩
  rcases List.mem_or_eq_of_mem_set hs with hs | rfl
  · exact h.all s hs
  · obtain ⟨e0, e1⟩ := errRange16 h1 (errOf_range (l.getD i 0) (predAt m l W d i) (turnAt l W d i) h0)
    exact learnS_ok (statAt_mem h (ctxN_lt _ _)).2 e0 e1
theorem modelTo_ok (l : List Int) (W : Nat) {d : Nat} (h0 : 1 ≤ d) (h1 : d ≤ 16) (hp : (2 : Int) ^ d ≤ 65536) : ∀ i, ModelOk (modelTo l W d i)
  | 0 => newModel_ok hp
  | i + 1 => nextM_ok (modelTo_ok l W h0 h1 hp i) l W h0 h1 i
theorem modelBits_len (l : List Int) (W : Nat) {d : Nat} (h0 : 1 ≤ d) (h1 : d ≤ 16) (hp : (2 : Int) ^ d ≤ 65536) : ∀ i, (modelBits l W d i).length ≤ 65 * i
  | 0 => by simp [modelBits]
  | i + 1 => by
    have := modelBits_len l W h0 h1 hp i
    have hk := kOf_le (statAt_mem (modelTo_ok l W h0 h1 hp i) (ctxN_lt (nbr l W (i % W) (i / W)) d)).2
    have := rcost_le (kOf (statAt (modelTo l W d i) (ctxAt l W d i))) (errAt (modelTo l W d i) l W d i) (by unfold ctxAt; omega)
    rw [modelBits, List.length_append, bitsAtM, rbits_len]
    omega
end Go.Proofs.YtpkplhmdnjdmoaaGreatDoor
