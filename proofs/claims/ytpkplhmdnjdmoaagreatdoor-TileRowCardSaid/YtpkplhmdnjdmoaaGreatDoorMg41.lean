/- slices.Repeat, plain Lean: a row that is filled by copies of its own head; and squares as cells. -/
import Derived.Test.YtpkplhmdnjdmoaaGreatDoorMg27
import Derived.Laws.CopyOwn
set_option linter.unusedVariables false
set_option linter.unusedSimpArgs false
namespace Go.Proofs.YtpkplhmdnjdmoaaGreatDoor

theorem rep_step {α : Type} (a b : α) (m z k : Nat) (h : k ≤ z) : splice (List.replicate m a ++ List.replicate z b) m (List.replicate k a) = List.replicate (m + k) a ++ List.replicate (z - k) b := by
  unfold splice
  rw [List.take_append_of_le_length (by simp), List.take_of_length_le (by simp), List.length_replicate, List.drop_append, List.length_replicate, List.drop_of_length_le (by simp), show m + k - m = k by omega, List.drop_replicate, List.nil_append, ← List.append_assoc, List.replicate_append_replicate]
theorem rep_first {α : Type} (a b : α) (z : Nat) (h : 1 ≤ z) : splice (List.replicate z b) 0 [a] = List.replicate 1 a ++ List.replicate (z - 1) b := by
  have := rep_step a b 0 z 1 h
  simpa using this

/-- The cells of a square. -/
def sqCells (q : Sq) : List Go.Value := [.int .i64 q.x, .int .i64 q.y, .int .i64 q.w, .int .i64 q.h]
theorem sq_len (l : List Sq) : (l.flatMap sqCells).length = l.length * 4 := by
  induction l with
  | nil => rfl
  | cons a l ih => rw [List.flatMap_cons, List.length_append, ih, List.length_cons]; simp [sqCells]; omega
theorem grid_rest {w s y h f : Nat} (hy : y < h) : (pieces s h (f + 1) y).flatMap (gridRow w s) = gridRow w s (y, min s (h - y)) ++ (pieces s h f (y + s)).flatMap (gridRow w s) := by
  rw [pieces_step f hy, List.flatMap_cons]
/-- The rest of a row of squares. -/
def rowRest (w s f x : Nat) (p : Nat × Nat) : List Sq := (pieces s w f x).map fun q => ⟨q.1, p.1, q.2, p.2⟩
theorem rowRest_all (w s : Nat) (p : Nat × Nat) : rowRest w s w 0 p = gridRow w s p := rfl
theorem rowRest_step {w s x : Nat} (f : Nat) (p : Nat × Nat) (h : x < w) : rowRest w s (f + 1) x p = ⟨x, p.1, min s (w - x), p.2⟩ :: rowRest w s f (x + s) p := by
  unfold rowRest
  rw [pieces_step f h]
  rfl
theorem rowRest_end {w s x : Nat} (f : Nat) (p : Nat × Nat) (h : w ≤ x) : rowRest w s f x p = [] := by
  unfold rowRest
  rw [pieces_end f h]
  rfl
theorem grid_len (w h s : Nat) : (gridL w h s).length ≤ h * w := by
  have e : ∀ l : List (Nat × Nat), (l.flatMap (gridRow w s)).length ≤ l.length * w := by
    intro l
    induction l with
    | nil => simp
    | cons a l ih =>
      rw [List.flatMap_cons, List.length_append, List.length_cons, Nat.succ_mul]
      have : (gridRow w s a).length ≤ w := by unfold gridRow; rw [List.length_map]; exact pieces_len s w w 0
      omega
  exact Nat.le_trans (e _) (Nat.mul_le_mul_right w (pieces_len s h h 0))
end Go.Proofs.YtpkplhmdnjdmoaaGreatDoor
