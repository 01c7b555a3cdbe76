/- The small machine's operations against the model's, 5: appends and copies. -/
import Derived.Test.YtacmaphhbbadjaaGreatDoorEvF
import Derived.Deep.Upon
namespace Go.Proofs.YtacmaphhbbadjaaGreatDoor
set_option linter.all false
open Go.RowKit

section
variable {P : Program} {ρ ρ' : ERho} {w w' : World} {H H' : EH} {ev : Operand → EV} {a : Act}
theorem ERep.congr (R : ERep ρ w H) (h1 : H.next ≤ H'.next) (h2 : ∀ b x, H'.blk? b = some x → H.blk? b = some x) : ERep ρ w H' :=
  ⟨fun b h => R.next b (Nat.le_trans h1 h), fun b x h => R.blk b x (h2 b x h), fun b b' x x' B ba B' ba' h h' => R.inj b b' x x' B ba B' ba' (h2 b x h) (h2 b' x' h'), R.bnd⟩
theorem EGrow.drew (ρ : ERho) (w : World) : EGrow ρ ρ w w.drew := ⟨fun _ _ h => h, fun _ _ h => h⟩
theorem ERep.drew (R : ERep ρ w H) : ERep ρ w.drew H :=
  ⟨R.next, fun b x h => by obtain ⟨B, base, e, k⟩ := R.blk b x h; exact ⟨B, base, e, k.mono (EGrow.drew ρ w) rfl⟩, R.inj, R.bnd⟩
theorem EStep.drew (R : ERep ρ w H) : EStep ρ w H ρ w.drew H := ⟨fun _ _ h => h, R.drew, ⟨rfl, rfl, rfl, Nat.le_refl _, fun _ _ _ => rfl, fun _ _ h => h⟩, fun _ h => .inl h, Nat.le_refl _, fun _ _ => rfl⟩
theorem EStep.mono (s : EStep ρ w H ρ' w' H') {v : EV} {V : Value} (h : ER ρ w v V) : ER ρ' w' v V := ER.mono s.grow _ _ h
theorem evLen_ok {x : EV} {n : Nat} {X : Value} (h : evLen x = some n) (r : ER ρ w x X) : ∀ w' : World, (Builtin.lenOf X).run P w' = .ok n w' := by
  cases x with
  | lit u =>
    have : X = u := r
    subst this
    cases X <;> first | (simp [evLen] at h; done) | skip
    · simp [evLen] at h; subst h; exact fun _ => rfl
    · rename_i o m c
      cases o with
      | some _ => simp [evLen] at h
      | none =>
        cases m with
        | zero => simp [evLen] at h; subst h; exact fun _ => rfl
        | succ _ => simp [evLen] at h
  | sl b o m c k =>
    simp [evLen] at h; subst h
    obtain ⟨_, _, _, _, _, rfl, _⟩ := r
    exact fun _ => rfl
  | _ => simp [evLen] at h
theorem bytes_take (s : ByteArray) (n : Nat) : (((s.extract 0 n).data.map fun b => Value.int .u8 b.toNat) : Array Value) = ((s.data.toList.take n).map fun b => Value.int .u8 b.toNat).toArray := by
  apply Array.ext'
  simp [ByteArray.data_extract, List.extract_eq_take_drop]
/-- The elements, as the model's firstCells reads them. -/
theorem evElems_ok (R : ERep ρ w H) {k n : Nat} {d : TypeDesc} {x : EV} {X : Value} (r : ER ρ w x X) {l : List EV} (h : evElems H k n d x = some l) :
    ∃ L : List Value, ERs ρ w l L ∧ L.length = n * k ∧ (∀ w2 : World, w2.heap = w.heap → (Builtin.firstCells k n X).run P w2 = .ok L.toArray w2) ∧ ((∃ e, d = .slice e) ∨ d = .string) := by
  unfold evElems at h
  split at h
  · rename_i b o m c kk
    split at h
    · rename_i e x hb
      cases hc : (Nat.ble n m && Nat.ble (o + n * k) x.size) with
      | false => rw [hc] at h; cases h
      | true =>
        rw [hc] at h
        simp only [cond_true, Option.some.injEq] at h; subst h
        simp only [Bool.and_eq_true] at hc
        have c1 := Nat.le_of_ble_eq_true hc.1
        have c2 := Nat.le_of_ble_eq_true hc.2
        obtain ⟨B, base, A, C, e1, rfl, _, h4⟩ := r
        rcases h4 with ⟨rfl, _⟩ | ⟨h5, _⟩
        · obtain ⟨L, l1, l2, l3⟩ := R.getN hb e1 o (n * k) c2
          exact ⟨L, l2, l1, fun w2 h2 => run_firstCells_some w2 k n _ _ _ L l1 (fun j v hv => (by unfold World.cell?; rw [h2] : w2.cell? _ = w.cell? _).trans (l3 j v hv)), .inl ⟨e, rfl⟩⟩
        · have : n = 0 := by omega
          subst this
          simp only [Nat.zero_mul]
          exact ⟨[], trivial, rfl, fun w2 _ => run_firstCells_some w2 k 0 _ _ _ [] (by simp) (by simp), .inl ⟨e, rfl⟩⟩
    · rename_i e hb
      cases hc : Nat.beq n 0 with
      | false => rw [hc] at h; cases h
      | true =>
        rw [hc] at h
        simp only [cond_true, Option.some.injEq] at h; subst h
        have := Nat.eq_of_beq_eq_true hc
        subst this
        obtain ⟨B, base, A, C, e1, rfl, _, h4⟩ := r
        exact ⟨[], trivial, by simp, fun w2 _ => run_firstCells_some w2 k 0 _ _ _ [] (by simp) (by simp), .inl ⟨e, rfl⟩⟩
    · cases h
  · rename_i c
    have : X = _ := r
    subst this
    split at h
    · rename_i e
      cases hc : Nat.beq n 0 with
      | false => rw [hc] at h; cases h
      | true =>
        rw [hc] at h
        simp only [cond_true, Option.some.injEq] at h; subst h
        have := Nat.eq_of_beq_eq_true hc
        subst this
        exact ⟨[], trivial, by simp, fun _ _ => rfl, .inl ⟨e, rfl⟩⟩
    · cases h
  · rename_i s
    have : X = _ := r
    subst this
    split at h
    · cases hc : (Nat.beq k 1 && Nat.ble n s.size) with
      | false => rw [hc] at h; cases h
      | true =>
        rw [hc] at h
        simp only [cond_true, Option.some.injEq] at h; subst h
        simp only [Bool.and_eq_true] at hc
        have c1 := Nat.eq_of_beq_eq_true hc.1
        have c2 := Nat.le_of_ble_eq_true hc.2
        subst c1
        refine ⟨(s.data.toList.take n).map fun b => Value.int .u8 b.toNat, ?_, ?_, ?_, .inr rfl⟩
        · have := ERs.ofs (ρ := ρ) (w := w) ((s.data.toList.take n).map fun b => Value.int .u8 b.toNat)
          simpa [List.map_map, Function.comp_def, EV.of] using this
        · have : s.data.toList.length = s.size := by rw [Array.length_toList]; rfl
          rw [List.length_map, List.length_take]; omega
        · intro w2 _
          simp only [Builtin.firstCells]
          rw [bytes_take]; rfl
    · cases h
  · cases h
theorem evSrc (R : ERep ρ w H) {k n : Nat} {d : TypeDesc} {tx : TypeId} (hd : P.underlying tx = some d) {x : EV} {X : Value} (r : ER ρ w x X) (hl : evLen x = some n) {l : List EV} (h : evElems H k n d x = some l) (h1 : l.all EV.one = true) :
    ∃ L : List Value, ERs ρ w l L ∧ Src P k tx X n L w := by
  obtain ⟨L, a1, a2, a3, a4⟩ := evElems_ok (P := P) R r h
  refine ⟨L, a1, ?_, evLen_ok hl r, a3 w rfl, a3 w.drew rfl, a2, one_all h1 a1⟩
  rcases a4 with ⟨e, rfl⟩ | rfl
  · exact .inl ⟨e, hd⟩
  · exact .inr hd
end
end Go.Proofs.YtacmaphhbbadjaaGreatDoor
