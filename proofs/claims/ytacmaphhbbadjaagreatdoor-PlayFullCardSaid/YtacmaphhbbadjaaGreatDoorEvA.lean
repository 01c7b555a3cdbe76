/- The small machine's values and memory against the model's: the relation, and what keeps it. -/
import Derived.Test.YtacmaphhbbadjaaGreatDoorEvDef
import Derived.Test.YtacmaphhbbadjaaGreatDoorBase
namespace Go.Proofs.YtacmaphhbbadjaaGreatDoor
set_option linter.all false

theorem beq10 : Nat.beq 1 0 = false := rfl
theorem beq00 : Nat.beq 0 0 = true := rfl
section
variable {α : Type}
theorem ETr.get_nil (n : Nat) : (ETr.nil : ETr α).get n = none := rfl
theorem ETr.get_zero (t : ETr α) : t.get 0 = t.val := by cases t <;> rfl
theorem ETr.get_succ (t : ETr α) (m : Nat) : t.get (m + 1) = bif Nat.beq (m % 2) 0 then t.left.get (m / 2) else t.right.get (m / 2) := by
  cases t with
  | nil => show none = bif Nat.beq (m % 2) 0 then (none : Option α) else none; cases Nat.beq (m % 2) 0 <;> rfl
  | node v l r => show (Bool.rec _ _ (Nat.beq (m % 2) 0) : Option α) = bif Nat.beq (m % 2) 0 then l.get (m / 2) else r.get (m / 2); cases Nat.beq (m % 2) 0 <;> rfl
theorem ETr.set_zero (x : α) (f : Nat) (t : ETr α) : ETr.set x (f + 1) t 0 = .node (some x) t.left t.right := rfl
theorem ETr.set_succ (x : α) (f : Nat) (t : ETr α) (m : Nat) : ETr.set x (f + 1) t (m + 1) = bif Nat.beq (m % 2) 0 then .node t.val (ETr.set x f t.left (m / 2)) t.right else .node t.val t.left (ETr.set x f t.right (m / 2)) := by
  show (Bool.rec _ _ (Nat.beq (m % 2) 0) : ETr α) = _
  cases Nat.beq (m % 2) 0 <;> rfl
theorem ETr.get_set (x : α) : ∀ (f : Nat) (t : ETr α) (n k : Nat), n < f → (ETr.set x f t n).get k = if k = n then some x else t.get k := by
  intro f
  induction f with
  | zero => intro t n k h; omega
  | succ f ih =>
    intro t n k h
    match n, k with
    | 0, 0 => simp [ETr.set_zero, ETr.get_zero]; rfl
    | 0, k + 1 =>
      rw [ETr.set_zero, ETr.get_succ, ETr.get_succ, if_neg (by omega)]; rfl
    | n + 1, 0 =>
      rw [ETr.set_succ, ETr.get_zero, ETr.get_zero, if_neg (by omega)]
      cases Nat.beq (n % 2) 0 <;> rfl
    | n + 1, k + 1 =>
      have hlt : n / 2 < f := by omega
      rw [ETr.set_succ, ETr.get_succ, ETr.get_succ]
      have hL : ∀ (v : Option α) (l r : ETr α), (ETr.node v l r).left = l ∧ (ETr.node v l r).right = r := fun _ _ _ => ⟨rfl, rfl⟩
      by_cases hn : n % 2 = 0
      · have bn : Nat.beq (n % 2) 0 = true := by rw [hn]; rfl
        rw [bn]
        simp only [cond_true, (hL _ _ _).1, (hL _ _ _).2]
        by_cases hk : k % 2 = 0
        · have bk : Nat.beq (k % 2) 0 = true := by rw [hk]; rfl
          rw [bk]
          simp only [cond_true]
          rw [ih _ _ _ hlt]
          by_cases e : k = n
          · subst e; simp
          · rw [if_neg (by omega), if_neg (by omega)]
        · have bk : Nat.beq (k % 2) 0 = false := by rw [show k % 2 = 1 by omega]; rfl
          rw [bk, if_neg (by omega)]; rfl
      · have bn : Nat.beq (n % 2) 0 = false := by rw [show n % 2 = 1 by omega]; rfl
        rw [bn]
        simp only [cond_false, (hL _ _ _).1, (hL _ _ _).2]
        by_cases hk : k % 2 = 0
        · have bk : Nat.beq (k % 2) 0 = true := by rw [hk]; rfl
          rw [bk, if_neg (by omega)]; rfl
        · have bk : Nat.beq (k % 2) 0 = false := by rw [show k % 2 = 1 by omega]; rfl
          rw [bk]
          simp only [cond_false]
          rw [ih _ _ _ hlt]
          by_cases e : k = n
          · subst e; simp
          · rw [if_neg (by omega), if_neg (by omega)]
end

/-- Where a block of the small machine lies: the block, and where in it. -/
abbrev ERho := Nat → Option (Nat × Nat)
def eSize (w : World) (B : Nat) : Option Nat := match w.heap[B]? with | some (.cells cs _ _) => some cs.size | _ => none

def ESl (ρ : ERho) (w : World) (b o len c k : Nat) (V : Value) : Prop :=
  ∃ B base A C, ρ b = some (B, base) ∧ V = .slice (some A) len C ∧ (if k = 0 then C = c else c ≤ C) ∧
    ((A = ⟨B, base + o, none⟩ ∧ (k = 0 ∨ ∃ n, eSize w B = some n ∧ base + o + C * k ≤ n)) ∨ (len = 0 ∧ C = 0))
mutual
def ER (ρ : ERho) (w : World) : EV → Value → Prop
  | .int k n, V => V = .int k n
  | .bool b, V => V = .bool b
  | .lit v, V => V = v
  | .ptr b o, V => ∃ B base, ρ b = some (B, base) ∧ V = .pointer (some ⟨B, base + o, none⟩)
  | .sl b o len c k, V => ESl ρ w b o len c k V
  | .agg l, V => ∃ cs, V = .agg cs ∧ ERs ρ w l cs.toList
  | .tup l, V => ∃ cs, V = .tuple cs ∧ ERs ρ w l cs.toList
  | .fn f x y, V => ∃ x' y', V = .func (.func f) x' y' ∧ ERs ρ w x x'.toList ∧ ERs ρ w y y'.toList
def ERs (ρ : ERho) (w : World) : List EV → List Value → Prop
  | [], [] => True
  | x :: l, y :: m => ER ρ w x y ∧ ERs ρ w l m
  | _, _ => False
end

section
variable {ρ ρ' : ERho} {w w' : World}
def EGrow (ρ ρ' : ERho) (w w' : World) : Prop := (∀ (b : Nat) (x : Nat × Nat), ρ b = some x → ρ' b = some x) ∧ ∀ B n, eSize w B = some n → eSize w' B = some n
theorem EGrow.refl (ρ : ERho) (w : World) : EGrow ρ ρ w w := ⟨fun _ _ h => h, fun _ _ h => h⟩
theorem EGrow.trans {ρ'' : ERho} {w'' : World} (h : EGrow ρ ρ' w w') (k : EGrow ρ' ρ'' w' w'') : EGrow ρ ρ'' w w'' :=
  ⟨fun b x e => k.1 b x (h.1 b x e), fun B n e => k.2 B n (h.2 B n e)⟩
mutual
theorem ER.mono (g : EGrow ρ ρ' w w') : ∀ (v : EV) (V : Value), ER ρ w v V → ER ρ' w' v V
  | .int _ _, _, h => h
  | .bool _, _, h => h
  | .lit _, _, h => h
  | .ptr _ _, _, ⟨B, base, h1, h2⟩ => ⟨B, base, g.1 _ _ h1, h2⟩
  | .sl _ _ _ _ _, _, ⟨B, base, A, C, h1, h2, h3, h4⟩ => ⟨B, base, A, C, g.1 _ _ h1, h2, h3, h4.imp (fun ⟨e, q⟩ => ⟨e, q.imp id fun ⟨n, hn, hl⟩ => ⟨n, g.2 _ _ hn, hl⟩⟩) id⟩
  | .agg l, _, ⟨cs, h1, h2⟩ => ⟨cs, h1, ERs.mono g l _ h2⟩
  | .tup l, _, ⟨cs, h1, h2⟩ => ⟨cs, h1, ERs.mono g l _ h2⟩
  | .fn _ x y, _, ⟨x', y', h1, h2, h3⟩ => ⟨x', y', h1, ERs.mono g x _ h2, ERs.mono g y _ h3⟩
theorem ERs.mono (g : EGrow ρ ρ' w w') : ∀ (l : List EV) (L : List Value), ERs ρ w l L → ERs ρ' w' l L
  | [], [], _ => trivial
  | x :: l, y :: m, h => ⟨ER.mono g x y h.1, ERs.mono g l m h.2⟩
  | [], _ :: _, h => h
  | _ :: _, [], h => h
end
theorem ERs.length : ∀ {l : List EV} {L : List Value}, ERs ρ w l L → l.length = L.length
  | [], [], _ => rfl
  | _ :: l, _ :: m, h => by simp [ERs.length h.2]
theorem ERs.get : ∀ {l : List EV} {L : List Value}, ERs ρ w l L → ∀ (i : Nat) (v : EV), l[i]? = some v → ∃ V, L[i]? = some V ∧ ER ρ w v V
  | [], [], _, i, v, h => by simp at h
  | x :: l, y :: m, h, 0, v, hv => by simp at hv; subst hv; exact ⟨y, by simp, h.1⟩
  | x :: l, y :: m, h, i + 1, v, hv => by simpa using ERs.get h.2 i v (by simpa using hv)
theorem ERs.mk : ∀ {l : List EV} {L : List Value}, l.length = L.length → (∀ (i : Nat) v V, l[i]? = some v → L[i]? = some V → ER ρ w v V) → ERs ρ w l L
  | [], [], _, _ => trivial
  | x :: l, y :: m, h, g => ⟨g 0 x y (by simp) (by simp), ERs.mk (by simpa using h) fun i v V a b => g (i + 1) v V (by simpa using a) (by simpa using b)⟩
  | [], _ :: _, h, _ => by simp at h
  | _ :: _, [], h, _ => by simp at h
theorem ERs.append {l l' : List EV} {L L' : List Value} (h : ERs ρ w l L) (k : ERs ρ w l' L') : ERs ρ w (l ++ l') (L ++ L') := by
  induction l generalizing L with
  | nil => cases L with | nil => simpa using k | cons _ _ => exact h.elim
  | cons x l ih => cases L with | nil => exact h.elim | cons y m => exact ⟨h.1, ih h.2⟩
theorem ERs.drop {l : List EV} {L : List Value} (h : ERs ρ w l L) (n : Nat) : ERs ρ w (l.drop n) (L.drop n) :=
  ERs.mk (by simp [h.length]) fun i v V a b => by
    rw [List.getElem?_drop] at a b
    obtain ⟨V', e, r⟩ := h.get _ _ a
    rw [e] at b; injection b with b; exact b ▸ r
theorem ERs.take {l : List EV} {L : List Value} (h : ERs ρ w l L) (n : Nat) : ERs ρ w (l.take n) (L.take n) :=
  ERs.mk (by simp [h.length]) fun i v V a b => by
    rw [List.getElem?_take] at a b
    split at a
    · rename_i hi
      rw [if_pos hi] at b
      obtain ⟨V', e, r⟩ := h.get _ _ a
      rw [e] at b; injection b with b; exact b ▸ r
    · cases a
theorem ER.of (v : Value) : ER ρ w (.of v) v := by cases v <;> exact rfl
theorem ERs.ofs (L : List Value) : ERs ρ w (L.map .of) L := by
  induction L with
  | nil => trivial
  | cons x l ih => exact ⟨.of x, ih⟩
theorem ERs.map {α : Type} {f : α → EV} {g : α → Value} (l : List α) (h : ∀ x, ER ρ w (f x) (g x)) : ERs ρ w (l.map f) (l.map g) := by
  induction l with
  | nil => trivial
  | cons x l ih => exact ⟨h x, ih⟩
end
end Go.Proofs.YtacmaphhbbadjaaGreatDoor
