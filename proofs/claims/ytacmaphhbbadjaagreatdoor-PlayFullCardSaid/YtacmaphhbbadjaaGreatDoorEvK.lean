/- The small machine's fast form: integers. -/
import Derived.Test.YtacmaphhbbadjaaGreatDoorEvY
import Derived.Test.YtacmaphhbbadjaaGreatDoorEvJ
namespace Go.Proofs.YtacmaphhbbadjaaGreatDoor
set_option linter.all false
open Go.RowKit

theorem kmax_wrap {k : IntKind} {m : Nat} (h : m ≤ kmax k) : k.wrap (m : Int) = m := by
  cases k <;> (have h' : m ≤ _ := h; simp only [IntKind.wrap, IntKind.bits, IntKind.signed]; simp [kmax] at h'; first | (simp; omega) | simp [Int.emod_eq_of_lt, h'])
theorem kneg_wrap {k : IntKind} {m : Nat} (h : m + 1 ≤ kneg k) : k.wrap (Int.negSucc m) = Int.negSucc m := by
  cases k <;> (have h' : m + 1 ≤ _ := h; simp only [IntKind.wrap, IntKind.bits, IntKind.signed]; simp [kneg] at h' <;> (rw [Int.negSucc_eq]; first | (simp; done) | (simp; omega)))
theorem fitN_ok {k : IntKind} {m : Nat} {ok : EV → XS} {z s0 : XS} (h : fitN k m ok z = s0) : (ok (.int k (m : Int)) = s0 ∧ k.wrap (m : Int) = m) ∨ z = s0 := by
  unfold fitN at h
  cases q : Nat.ble m (kmax k) with
  | true => rw [q] at h; exact .inl ⟨h, kmax_wrap (Nat.le_of_ble_eq_true q)⟩
  | false => rw [q] at h; exact .inr h
theorem xfit_ok {k : IntKind} {n : Int} {ok : EV → XS} {z s0 : XS} (h : xfit k n ok z = s0) : (ok (.int k n) = s0 ∧ k.wrap n = n) ∨ z = s0 := by
  cases n with
  | ofNat m => exact fitN_ok h
  | negSucc m =>
    have h : fitS k m ok z = s0 := h
    unfold fitS at h
    cases q : Nat.ble (Nat.succ m) (kneg k) with
    | true => rw [q] at h; exact .inl ⟨h, kneg_wrap (Nat.le_of_ble_eq_true q)⟩
    | false => rw [q] at h; exact .inr h
/-- The fast way tells what the model tells. -/
def XBinOk (op : BinOp) (f : XBin) : Prop := ∀ k a b ok z s0, f k a b ok z = s0 → (∃ V, ok (.of V) = s0 ∧ ∀ (P : Program) (t : TypeId) (w : World), (binOp op t (.int k a) (.int k b)).run P w = Result.ok V w) ∨ z = s0
def XShfOk (op : BinOp) (f : XBin) : Prop := ∀ k a b ok z s0, f k a b ok z = s0 → (∃ V, ok (.of V) = s0 ∧ ∀ (P : Program) (t : TypeId) (k' : IntKind) (w : World), (binOp op t (.int k a) (.int k' b)).run P w = Result.ok V w) ∨ z = s0
theorem xadd_ok : XBinOk .add xadd := by
  intro k a b ok z s0 h
  have key : xfit k (a + b) ok z = s0 → _ := fun h => (xfit_ok h).imp (fun ⟨h1, h2⟩ => (⟨.int k (a + b), h1, fun P t w => by simp [binOp, Op.intArith, h2]⟩ : ∃ V, ok (.of V) = s0 ∧ ∀ (P : Program) (t : TypeId) (w : World), (binOp .add t (.int k a) (.int k b)).run P w = Result.ok V w)) id
  cases a with
  | ofNat m => cases b with
    | ofNat n => exact key h
    | negSucc n => exact key h
  | negSucc m => exact key h
theorem xsub_ok : XBinOk .sub xsub := by
  intro k a b ok z s0 h
  have key : xfit k (a - b) ok z = s0 → _ := fun h => (xfit_ok h).imp (fun ⟨h1, h2⟩ => (⟨.int k (a - b), h1, fun P t w => by simp [binOp, Op.intArith, h2]⟩ : ∃ V, ok (.of V) = s0 ∧ ∀ (P : Program) (t : TypeId) (w : World), (binOp .sub t (.int k a) (.int k b)).run P w = Result.ok V w)) id
  cases a with
  | ofNat m => cases b with
    | ofNat n =>
      have h : (Bool.rec (xfit k (Int.sub (.ofNat m) (.ofNat n)) ok z) (fitN k (Nat.sub m n) ok z) (Nat.ble n m) : XS) = s0 := h
      cases q : Nat.ble n m with
      | false => rw [q] at h; exact key h
      | true =>
        rw [q] at h
        have hle := Nat.le_of_ble_eq_true q
        refine key ?_
        have e : (Int.ofNat m - Int.ofNat n) = Int.ofNat (m - n) := by simp; omega
        rw [e]; exact h
    | negSucc n => exact key h
  | negSucc m => exact key h
theorem xmul_ok : XBinOk .mul xmul := by
  intro k a b ok z s0 h
  have key : xfit k (a * b) ok z = s0 → _ := fun h => (xfit_ok h).imp (fun ⟨h1, h2⟩ => (⟨.int k (a * b), h1, fun P t w => by simp [binOp, Op.intArith, h2]⟩ : ∃ V, ok (.of V) = s0 ∧ ∀ (P : Program) (t : TypeId) (w : World), (binOp .mul t (.int k a) (.int k b)).run P w = Result.ok V w)) id
  cases a with
  | ofNat m => cases b with
    | ofNat n => exact key h
    | negSucc n => exact key h
  | negSucc m => exact key h
theorem kmax_lt (k : IntKind) : kmax k < 2 ^ k.bits := by cases k <;> (show (_ : Nat) < _; decide)
theorem bit_ok {op : BinOp} (g : Nat → Nat → Nat) (hop : op = .and ∧ g = Nat.land ∨ op = .or ∧ g = Nat.lor ∨ op = .xor ∧ g = Nat.xor) {k : IntKind} {m n : Nat} (hm : m ≤ kmax k) (hn : n ≤ kmax k) (h2 : k.wrap (g m n : Int) = g m n) :
    ∀ (P : Program) (t : TypeId) (w : World), (binOp op t (.int k (m : Int)) (.int k (n : Int))).run P w = .ok (.int k (g m n : Int)) w := by
  intro P t w
  have k1 : m < 2 ^ k.bits := Nat.lt_of_le_of_lt hm (kmax_lt k)
  have k2 : n < 2 ^ k.bits := Nat.lt_of_le_of_lt hn (kmax_lt k)
  rcases hop with ⟨rfl, rfl⟩ | ⟨rfl, rfl⟩ | ⟨rfl, rfl⟩
  · have e : (m &&& n : Nat) = Nat.land m n := rfl
    simp [binOp, Op.intBits, BitVec.toNat_and, Nat.mod_eq_of_lt k1, Nat.mod_eq_of_lt k2]
    rw [e, h2]
  · have e : (m ||| n : Nat) = Nat.lor m n := rfl
    simp [binOp, Op.intBits, BitVec.toNat_or, Nat.mod_eq_of_lt k1, Nat.mod_eq_of_lt k2]
    rw [e, h2]
  · have e : (m ^^^ n : Nat) = Nat.xor m n := rfl
    simp [binOp, Op.intBits, BitVec.toNat_xor, Nat.mod_eq_of_lt k1, Nat.mod_eq_of_lt k2]
    rw [e, h2]
theorem bits_ok {op : BinOp} (g : Nat → Nat → Nat) (hop : op = .and ∧ g = Nat.land ∨ op = .or ∧ g = Nat.lor ∨ op = .xor ∧ g = Nat.xor) {k : IntKind} {m n : Nat} {ok : EV → XS} {z s0 : XS}
    (h : (Bool.rec z (Bool.rec z (fitN k (g m n) ok z) (Nat.ble n (kmax k))) (Nat.ble m (kmax k)) : XS) = s0) :
    (∃ V, ok (.of V) = s0 ∧ ∀ (P : Program) (t : TypeId) (w : World), (binOp op t (.int k (m : Int)) (.int k (n : Int))).run P w = Result.ok V w) ∨ z = s0 := by
  cases q1 : Nat.ble m (kmax k) with
  | false => rw [q1] at h; exact .inr h
  | true => cases q2 : Nat.ble n (kmax k) with
    | false => rw [q1, q2] at h; exact .inr h
    | true =>
      rw [q1, q2] at h
      exact (fitN_ok h).imp (fun ⟨h1, h2⟩ => ⟨.int k ((g m n : Nat) : Int), h1, bit_ok g hop (Nat.le_of_ble_eq_true q1) (Nat.le_of_ble_eq_true q2) h2⟩) id
theorem xand_ok : XBinOk .and xand := by
  intro k a b ok z s0 h
  cases a with
  | ofNat m => cases b with
    | ofNat n => exact bits_ok Nat.land (.inl ⟨rfl, rfl⟩) h
    | negSucc n => exact .inr h
  | negSucc m => exact .inr h
theorem xor__ok : XBinOk .or xor_ := by
  intro k a b ok z s0 h
  cases a with
  | ofNat m => cases b with
    | ofNat n => exact bits_ok Nat.lor (.inr (.inl ⟨rfl, rfl⟩)) h
    | negSucc n => exact .inr h
  | negSucc m => exact .inr h
theorem xxor_ok : XBinOk .xor xxor := by
  intro k a b ok z s0 h
  cases a with
  | ofNat m => cases b with
    | ofNat n => exact bits_ok Nat.xor (.inr (.inr ⟨rfl, rfl⟩)) h
    | negSucc n => exact .inr h
  | negSucc m => exact .inr h
theorem xquo_ok : XBinOk .quo xquo := by
  intro k a b ok z s0 h
  cases a with
  | ofNat m => cases b with
    | ofNat n =>
      have h : (Bool.rec (fitN k (Nat.div m n) ok z) z (Nat.beq n 0) : XS) = s0 := h
      cases q : Nat.beq n 0 with
      | true => rw [q] at h; exact .inr h
      | false =>
        rw [q] at h
        have hn : n ≠ 0 := fun e => by subst e; cases q
        refine (fitN_ok h).imp (fun ⟨h1, h2⟩ => ⟨.int k ((Nat.div m n : Nat) : Int), h1, fun P t w => ?_⟩) id
        have e : ((m : Int).tdiv (n : Int)) = ((Nat.div m n : Nat) : Int) := rfl
        have e2 : ((m : Int) / (n : Int)) = ((Nat.div m n : Nat) : Int) := rfl
        simp [binOp, Op.intDiv, hn]
        first | rw [e, h2] | rw [e2, h2]
    | negSucc n => exact .inr h
  | negSucc m => exact .inr h
theorem xrem_ok : XBinOk .rem xrem := by
  intro k a b ok z s0 h
  cases a with
  | ofNat m => cases b with
    | ofNat n =>
      have h : (Bool.rec (ok (.int k (.ofNat (Nat.mod m n)))) z (Nat.beq n 0) : XS) = s0 := h
      cases q : Nat.beq n 0 with
      | true => rw [q] at h; exact .inr h
      | false =>
        rw [q] at h
        have hn : n ≠ 0 := fun e => by subst e; cases q
        refine .inl ⟨.int k ((Nat.mod m n : Nat) : Int), h, fun P t w => ?_⟩
        have e : ((m : Int).tmod (n : Int)) = ((Nat.mod m n : Nat) : Int) := rfl
        simp [binOp, Op.intDiv, hn]
        rw [e]
    | negSucc n => exact .inr h
  | negSucc m => exact .inr h
theorem kbits_eq (k : IntKind) : kbits k = k.bits := by cases k <;> rfl
theorem xshl_ok : XShfOk .shl xshl := by
  intro k a b ok z s0 h
  cases a with
  | ofNat m => cases b with
    | ofNat n =>
      have h : (Bool.rec z (fitN k (Nat.shiftLeft m n) ok z) (Nat.ble n (kbits k)) : XS) = s0 := h
      cases q : Nat.ble n (kbits k) with
      | false => rw [q] at h; exact .inr h
      | true =>
        rw [q] at h
        have hle := Nat.le_of_ble_eq_true q
        rw [kbits_eq] at hle
        refine (fitN_ok h).imp (fun ⟨h1, h2⟩ => ⟨.int k ((Nat.shiftLeft m n : Nat) : Int), h1, fun P t k' w => ?_⟩) id
        have e : ((m : Int) * 2 ^ n) = ((Nat.shiftLeft m n : Nat) : Int) := by
          show _ = ((m <<< n : Nat) : Int)
          rw [Nat.shiftLeft_eq]; simp
        simp [binOp, Op.shift, Nat.min_eq_left hle]
        rw [e, h2, if_neg (by omega)]; rfl
    | negSucc n => exact .inr h
  | negSucc m => exact .inr h
theorem xshr_ok : XShfOk .shr xshr := by
  intro k a b ok z s0 h
  cases a with
  | ofNat m => cases b with
    | ofNat n =>
      have h : (Bool.rec z (ok (.int k (.ofNat (Nat.shiftRight m n)))) (Nat.ble n (kbits k)) : XS) = s0 := h
      cases q : Nat.ble n (kbits k) with
      | false => rw [q] at h; exact .inr h
      | true =>
        rw [q] at h
        have hle := Nat.le_of_ble_eq_true q
        rw [kbits_eq] at hle
        refine .inl ⟨.int k ((Nat.shiftRight m n : Nat) : Int), h, fun P t k' w => ?_⟩
        have e : ((m : Int).fdiv (2 ^ n)) = ((Nat.shiftRight m n : Nat) : Int) := by
          show _ = ((m >>> n : Nat) : Int)
          rw [Nat.shiftRight_eq_div_pow, Int.fdiv_eq_ediv_of_nonneg _ (Int.pow_nonneg (by decide))]; simp
        have e2 : ((m : Int) >>> n) = ((Nat.shiftRight m n : Nat) : Int) := rfl
        simp [binOp, Op.shift, Nat.min_eq_left hle]
        rw [e, if_neg (by omega)]; rfl
    | negSucc n => exact .inr h
  | negSucc m => exact .inr h
theorem ilt_eq (a b : Int) : ilt a b = decide (a < b) := by
  cases a with
  | ofNat m => cases b with
    | ofNat n =>
      show Nat.ble (m + 1) n = _
      cases q : Nat.ble (m + 1) n with
      | true => have := Nat.le_of_ble_eq_true q; symm; rw [decide_eq_true_eq]; simp; omega
      | false => symm; rw [decide_eq_false_iff_not]; intro h; simp at h; rw [Nat.ble_eq_true_of_le (by omega)] at q; cases q
    | negSucc n => show false = _; symm; rw [decide_eq_false_iff_not]; rw [Int.negSucc_eq]; simp; omega
  | negSucc m => cases b with
    | ofNat n => show true = _; symm; rw [decide_eq_true_eq]; rw [Int.negSucc_eq]; simp; omega
    | negSucc n =>
      show Nat.ble (n + 1) m = _
      rw [Int.negSucc_eq, Int.negSucc_eq]
      cases q : Nat.ble (n + 1) m with
      | true => have := Nat.le_of_ble_eq_true q; symm; rw [decide_eq_true_eq]; omega
      | false => symm; rw [decide_eq_false_iff_not]; intro h; rw [Nat.ble_eq_true_of_le (by omega)] at q; cases q
theorem ieq_eq (a b : Int) : ieq a b = (a == b) := by
  have nb : ∀ m n : Nat, Nat.beq m n = decide (m = n) := fun m n => by
    cases q : Nat.beq m n with
    | true => simp [Nat.eq_of_beq_eq_true q]
    | false => symm; rw [decide_eq_false_iff_not]; intro h; subst h; simp at q
  cases a with
  | ofNat m => cases b with
    | ofNat n => show Nat.beq m n = _; rw [nb, Bool.eq_iff_iff]; simp; try omega
    | negSucc n => show false = _; symm; simp
  | negSucc m => cases b with
    | ofNat n => show false = _; symm; simp
    | negSucc n => show Nat.beq m n = _; rw [nb, Bool.eq_iff_iff]; simp
theorem bnot_eq (b : Bool) : bnot b = !b := by cases b <;> rfl
theorem xlss_ok : XBinOk .lss xlss := fun k a b ok z s0 h => .inl ⟨.bool (ilt a b), h, fun P t w => by simp [binOp, Op.intCmp, ilt_eq]⟩
theorem xgtr_ok : XBinOk .gtr xgtr := fun k a b ok z s0 h => .inl ⟨.bool (ilt b a), h, fun P t w => by simp [binOp, Op.intCmp, ilt_eq]⟩
theorem xleq_ok : XBinOk .leq xleq := fun k a b ok z s0 h => .inl ⟨.bool (bnot (ilt b a)), h, fun P t w => by
  have e : (!decide (b < a)) = decide (a ≤ b) := by rw [Bool.eq_iff_iff]; simp
  simp [binOp, Op.intCmp, ilt_eq, bnot_eq, e]⟩
theorem xgeq_ok : XBinOk .geq xgeq := fun k a b ok z s0 h => .inl ⟨.bool (bnot (ilt a b)), h, fun P t w => by
  have e : (!decide (a < b)) = decide (b ≤ a) := by rw [Bool.eq_iff_iff]; simp
  simp [binOp, Op.intCmp, ilt_eq, bnot_eq, e]⟩
theorem xeql_ok : XBinOk .eql xeql := fun k a b ok z s0 h => .inl ⟨.bool (ieq a b), h, fun P t w => by simp [binOp, Op.intCmp, ieq_eq]⟩
theorem xneq_ok : XBinOk .neq xneq := fun k a b ok z s0 h => .inl ⟨.bool (bnot (ieq a b)), h, fun P t w => by simp [binOp, Op.intCmp, ieq_eq, bnot_eq, bne]⟩
end Go.Proofs.YtacmaphhbbadjaaGreatDoor
