/- The range decoder in plain Lean, and why it answers what the coder was told. No program. -/
import Derived.Test.YtofdgpgleghllaaArPlain
namespace Go.Proofs.Ytofdgpgleghllaa
set_option linter.unusedSimpArgs false
set_option linter.unusedVariables false
open Go.RowKit

/-- A decoder: its bytes, how many were read, Value, Width, the odds, the error. -/
structure Dec where
  data : List Nat
  pos : Nat
  V : Nat
  W : Nat
  odds : List Nat
  err : Nat
def dbit (D : Dec) (bound : Nat) : Nat := if bound ≤ D.V then 1 else 0
def dV (D : Dec) (bound : Nat) : Nat := if bound ≤ D.V then D.V - bound else D.V
def dW (D : Dec) (bound : Nat) : Nat := if bound ≤ D.V then D.W - bound else bound
/-- A bit with a bound: what is answered, and the decoder behind it. -/
def dcode (D : Dec) (bound : Nat) : Nat × Dec :=
  if dW D bound < 16777216 then
    (match D.data[D.pos]? with
      | none => (0, { D with err := 3 })
      | some x => (dbit D bound, { D with V := dV D bound * 256 + x, W := dW D bound * 256, pos := D.pos + 1 }))
  else (dbit D bound, { D with V := dV D bound, W := dW D bound })
structure DecOk (D : Dec) : Prop where
  dig : ∀ d ∈ D.data, d < 256
  lo : 16777216 ≤ D.W
  hi : D.W < 4294967296
  val : D.V < D.W
  pos : D.pos ≤ D.data.length
  odds : ∀ o ∈ D.odds, 31 ≤ o ∧ o ≤ 4065
def dOddsAt (D : Dec) (ctx : Nat) : Nat := D.odds.getD ctx 0
/-- A decoder in memory. -/
structure IsDec (T : TypeId) (w : World) (b g h : Nat) (D : Dec) : Prop where
  ex : ∃ vd vo, Blk w b T #[vd, .int .i64 (D.pos : Int), .int .u64 (D.V : Int), .int .u64 (D.W : Int), vo, .int .i64 (D.err : Int)] ∧ Row w 5 vd g (D.data.map b8) ∧ Row w 3 vo h (D.odds.map i64)
section
variable {T : TypeId} {w w' : World} {b g h : Nat} {D : Dec} {F : List Nat}
theorem IsDec.chg (i : IsDec T w b g h D) (hc : Chg F w w') (hb : b ∉ F) (hg : g ∉ F) (hh : h ∉ F) : IsDec T w' b g h D := by
  obtain ⟨vl, vo, h1, h2, h3⟩ := i.ex
  exact ⟨vl, vo, h1.chg hc hb, h2.chg hc hg, h3.chg hc hh⟩
theorem IsDec.same (i : IsDec T w b g h D) (hc : Chg [] w w') : IsDec T w' b g h D := i.chg hc (by simp) (by simp) (by simp)
theorem IsDec.lt (i : IsDec T w b g h D) : b < w.heap.size ∧ g < w.heap.size ∧ h < w.heap.size := by
  obtain ⟨vl, vo, h1, h2, h3⟩ := i.ex
  exact ⟨h1.lt, h2.lt, h3.lt⟩
end
theorem dW_ok {D : Dec} (h : DecOk D) {bound : Nat} (hb : 65536 ≤ bound ∧ bound + 65536 ≤ D.W) : 65536 ≤ dW D bound ∧ dW D bound < 4294967296 ∧ dV D bound < dW D bound := by
  have h1 := h.hi
  have h2 := h.val
  unfold dW dV
  split <;> omega
theorem dcode_data (D : Dec) (bound : Nat) : (dcode D bound).2.data = D.data ∧ (dcode D bound).2.odds = D.odds := by
  unfold dcode
  split
  · split <;> exact ⟨rfl, rfl⟩
  · exact ⟨rfl, rfl⟩
theorem dcode_bit (D : Dec) (bound : Nat) : (dcode D bound).1 = 0 ∨ (dcode D bound).1 = 1 := by
  unfold dcode dbit
  split
  · split
    · exact .inl rfl
    · simp only; split <;> simp
  · simp only; split <;> simp
theorem dcode_err (D : Dec) (bound : Nat) : (dcode D bound).2.err = D.err ∨ (dcode D bound).2.err = 3 ∧ (dcode D bound).1 = 0 := by
  unfold dcode
  split
  · split
    · exact .inr ⟨rfl, rfl⟩
    · exact .inl rfl
  · exact .inl rfl
theorem dcode_ok {D : Dec} (h : DecOk D) {bound : Nat} (hb : 65536 ≤ bound ∧ bound + 65536 ≤ D.W) : DecOk (dcode D bound).2 := by
  obtain ⟨h1, h2, h3⟩ := dW_ok h hb
  unfold dcode
  split
  · rename_i hs
    split
    · exact ⟨h.dig, h.lo, h.hi, h.val, h.pos, h.odds⟩
    · rename_i x hx
      obtain ⟨hlt, hxe⟩ := List.getElem?_eq_some_iff.1 hx
      have hx2 : x < 256 := h.dig x (by rw [← hxe]; exact List.getElem_mem hlt)
      exact ⟨h.dig, by simp; omega, by simp; omega, by simp; omega, by simp; omega, h.odds⟩
  · exact ⟨h.dig, by simp; omega, by simp; omega, by simp; omega, h.pos, h.odds⟩
theorem dOddsAt_ok {D : Dec} (h : DecOk D) {ctx : Nat} (hc : ctx < D.odds.length) : 31 ≤ dOddsAt D ctx ∧ dOddsAt D ctx ≤ 4065 := by
  unfold dOddsAt
  rw [List.getD_eq_getElem?_getD, List.getElem?_eq_getElem hc]
  exact h.odds _ (List.getElem_mem hc)
theorem dbound_put {D : Dec} (h : DecOk D) {ctx : Nat} (hc : ctx < D.odds.length) : 65536 ≤ D.W / 4096 * dOddsAt D ctx ∧ D.W / 4096 * dOddsAt D ctx + 65536 ≤ D.W := by
  obtain ⟨h1, h2⟩ := dOddsAt_ok h hc
  have hl := h.lo
  have hq : 4096 ≤ D.W / 4096 := by omega
  have e1 : D.W / 4096 * 31 ≤ D.W / 4096 * dOddsAt D ctx := Nat.mul_le_mul_left _ h1
  have e2 : D.W / 4096 * dOddsAt D ctx ≤ D.W / 4096 * 4065 := Nat.mul_le_mul_left _ h2
  omega
theorem dbound_raw {D : Dec} (h : DecOk D) : 65536 ≤ D.W / 2 ∧ D.W / 2 + 65536 ≤ D.W := by
  have hl := h.lo
  omega
/-- Get in a context that there is, of a decoder without an error. -/
def dget (D : Dec) (ctx : Nat) : Nat × Dec :=
  let r := dcode D (D.W / 4096 * dOddsAt D ctx)
  if r.2.err = 0 then (r.1, { r.2 with odds := D.odds.set ctx (adaptN (dOddsAt D ctx) r.1) }) else r
theorem dget_ok {D : Dec} (h : DecOk D) {ctx : Nat} (hc : ctx < D.odds.length) : DecOk (dget D ctx).2 := by
  have h1 := dcode_ok h (dbound_put h hc)
  unfold dget
  simp only
  split
  · refine ⟨h1.dig, h1.lo, h1.hi, h1.val, h1.pos, fun o ho => ?_⟩
    rcases List.mem_or_eq_of_mem_set ho with h' | h'
    · exact h.odds o h'
    · subst h'
      exact adaptN_ok _ (dOddsAt_ok h hc)
  · exact h1

/-- The number that digits write, the highest first. -/
def valD (l : List Nat) : Nat := l.foldl (fun a d => a * 256 + d) 0
theorem valD_snoc (l : List Nat) (d : Nat) : valD (l ++ [d]) = valD l * 256 + d := by simp [valD]
theorem valD_nil : valD [] = 0 := rfl
theorem foldD_lt (l : List Nat) : ∀ a, (∀ d ∈ l, d < 256) → l.foldl (fun a d => a * 256 + d) a < (a + 1) * 256 ^ l.length := by
  induction l with
  | nil => intro a _; simp
  | cons d l ih =>
    intro a h
    have h1 := ih (a * 256 + d) fun x hx => h x (by simp [hx])
    have h2 := h d (by simp)
    have h3 : (a * 256 + d + 1) * 256 ^ l.length ≤ ((a + 1) * 256) * 256 ^ l.length := Nat.mul_le_mul_right _ (by omega)
    have h4 : (a + 1) * 256 ^ (d :: l).length = ((a + 1) * 256) * 256 ^ l.length := by
      rw [List.length_cons, Nat.pow_succ, Nat.mul_comm (256 ^ l.length), Nat.mul_assoc]
    rw [h4, List.foldl_cons]
    omega
theorem valD_lt (l : List Nat) (h : ∀ d ∈ l, d < 256) : valD l < 256 ^ l.length := by
  have := foldD_lt l 0 h
  unfold valD
  simpa using this
def newDec (ds : List Nat) (n : Nat) : Dec := ⟨ds, 4, valD (ds.take 4), 4294967295, List.replicate n 2048, 0⟩
end Go.Proofs.Ytofdgpgleghllaa
