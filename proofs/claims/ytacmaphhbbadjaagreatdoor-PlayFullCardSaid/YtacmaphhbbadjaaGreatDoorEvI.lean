/- The small machine's operations against the model's, 7: copies, conversions; one operation. -/
import Derived.Test.YtacmaphhbbadjaaGreatDoorEvH
import Derived.Laws.BytesString
namespace Go.Proofs.YtacmaphhbbadjaaGreatDoor
set_option linter.all false
open Go.RowKit

section
variable {P : Program} {ρ ρ' : ERho} {w w' : World} {H H' : EH} {ev : Operand → EV} {a : Act}
theorem evCopy_ok (R : ERep ρ w H) {t tx ty : TypeId} {d x : EV} {D X : Value} (hD : ER ρ w d D) (hX : ER ρ w x X) {v : EV} (h : evCopy P t tx d x H = some (v, H')) :
    ∃ V ρ' w', (Builtin.copy_ #[t, tx] ty #[D, X]).run P w = .ok V w' ∧ EStep ρ w H ρ' w' H' ∧ ER ρ' w' v V := by
  unfold evCopy sliceElem at h
  split at h
  · rename_i e0 i dx n m hse hd hn hm
    split at hse
    · rename_i e ht
      simp only [Option.map_eq_some_iff, Prod.mk.injEq] at hse
      obtain ⟨i0, hi, rfl, rfl⟩ := hse
      simp only at h
      split at h
      · rename_i l hl
        cases hone : l.all EV.one with
        | false => rw [hone] at h; cases h
        | true =>
          rw [hone] at h
          simp only [Bool.not_true, cond_false] at h
          obtain ⟨L, a1, a2, a3, a4⟩ := evElems_ok (P := P) R hX hl
          have hLl := a1.length
          have ln := evLen_ok (P := P) hn hX
          have lm := evLen_ok (P := P) hm hD
          split at h
          · simp only [Option.some.injEq, Prod.mk.injEq] at h
            obtain ⟨rfl, rfl⟩ := h
            rename_i cc
            have : D = _ := hD
            subst this
            simp [evLen] at hm; subst hm
            simp only [Nat.min_zero] at a2 a3
            have : L = [] := by simpa using a2
            subst this
            have a3' := a3 w rfl
            refine ⟨_, ρ, w, ?_, .refl R, rfl⟩
            simp [Builtin.copy_, run_underlying ht, ln, sizeOf, typeInfo, hi, a3', goInt]
          · rename_i b o mm c k
            simp [evLen] at hm; subst hm
            obtain ⟨B, base, A, C, hρ, rfl, hC, h4⟩ := hD
            cases hk0 : Nat.beq (Nat.min n mm) 0 with
            | true =>
              rw [hk0] at h
              simp only [cond_true, Option.some.injEq, Prod.mk.injEq] at h
              obtain ⟨rfl, rfl⟩ := h
              have hk0 := Nat.eq_of_beq_eq_true hk0
              rw [hk0] at a2 a3
              have : L = [] := by simpa using a2
              subst this
              have a3' := a3 w rfl
              refine ⟨_, ρ, w, ?_, .refl R, rfl⟩
              simp [Builtin.copy_, run_underlying ht, ln, sizeOf, typeInfo, hi, hk0, a3', goInt, storeCells]
            | false =>
              rw [hk0] at h
              simp only [cond_false] at h
              have hkk : Nat.min n mm ≠ 0 := fun q => by rw [q] at hk0; simp at hk0
              split at h
              · rename_i y hb
                cases hc : Nat.ble (o + Nat.min n mm * i0.size) y.size with
                | false => rw [hc] at h; cases h
                | true =>
                  rw [hc] at h
                  simp only [cond_true, Option.some.injEq, Prod.mk.injEq] at h
                  obtain ⟨rfl, rfl⟩ := h
                  have hle := Nat.le_of_ble_eq_true hc
                  obtain ⟨B', base', e', ⟨N, hN, hfit⟩, h3, hfz⟩ := R.cells hb
                  rw [hρ] at e'; injection e' with e'; injection e' with e1 e2; subst e1; subst e2
                  rcases h4 with ⟨hA, _⟩ | ⟨h5, _⟩
                  · subst hA
                    have hex : ∀ j, j < L.length → (w.cell? ⟨B, base + o + 0 + j, none⟩).isSome = true := fun j hj => by
                      obtain ⟨V, hV, _⟩ := h3 (o + j) (by omega)
                      rw [show base + o + 0 + j = base + (o + j) by omega, hV]; rfl
                    have hst := run_storeCells_cells (P := P) B (base + o) L 0 w hex (fun j hj => hfz _ (hex j hj)) (one_all hone a1)
                    obtain ⟨p1, p2⟩ := R.put hb hρ a1 o (by omega) N hN (by omega)
                    have hsz : (y.putN o l).sz (max y.size (o + l.length)) = y.putN o l := by
                      have := (EBlk.putN_facts l y o).1
                      rw [show max y.size (o + l.length) = y.size by omega, ← this]; rfl
                    rw [hsz] at p1
                    refine ⟨_, ρ, _, ?_, ⟨fun _ _ h => h, p1, p2, fun B' hB' => .inl (ELive.upd hb hB'), Nat.le_refl _, fun _ _ => rfl⟩, rfl⟩
                    have a3' := a3 w rfl
                    simp only [Nat.add_zero] at hst
                    simp [Builtin.copy_, run_underlying ht, ln, sizeOf, typeInfo, hi, a3', goInt, hst]
                  · have : Nat.min n mm ≤ mm := Nat.min_le_right _ _
                    omega
              · cases h
          · cases h
      · cases h
    · cases hse
  · cases h
theorem fold_push : ∀ (ns : List Int) (b : ByteArray), ns.foldl (fun r n => r.push (UInt8.ofNat n.toNat)) b = ⟨b.data ++ (ns.map fun n => UInt8.ofNat n.toNat).toArray⟩
  | [], b => by simp
  | n :: ns, b => by
    rw [List.foldl_cons, fold_push ns]
    congr 1
    show (b.data.push _) ++ _ = _
    apply Array.ext'
    simp
theorem bytesOf_ok : ∀ {l : List EV} {us : List UInt8} {L : List Value}, bytesOf l = some us → ERs ρ w l L → ∃ ns : List Int, L = ns.map (Value.int .u8) ∧ us = ns.map fun n => UInt8.ofNat n.toNat
  | [], us, L, h, r => by
    simp [bytesOf] at h; subst h
    cases L with | nil => exact ⟨[], rfl, rfl⟩ | cons _ _ => exact r.elim
  | x :: l, us, L, h, r => by
    unfold bytesOf at h
    split at h
    · rename_i e; cases e
    · rename_i n l' e
      injection e with e1 e2; subst e1; subst e2
      simp only [Option.map_eq_some_iff] at h
      obtain ⟨vs, h1, rfl⟩ := h
      cases L with
      | nil => exact r.elim
      | cons y m =>
        have e1 : y = _ := r.1
        obtain ⟨ns, rfl, rfl⟩ := bytesOf_ok h1 r.2
        exact ⟨(n : Int) :: ns, by simp [e1], by simp⟩
    · cases h
theorem evString_ok (R : ERep ρ w H) {src dst e : TypeId} {b o n c k : Nat} {y : EBlk} {X : Value} (hX : ER ρ w (.sl b o n c k) X) (h1 : P.underlying src = some (.slice e)) (h2 : P.underlying dst = some .string) (h3 : P.underlying e = some (.int .u8)) (hb : H.blk? b = some y) (hle : o + n ≤ y.size) {us : List UInt8} (hu : bytesOf (y.getN o n) = some us) :
    (convert src dst X).run P w = .ok (.string ⟨us.toArray⟩) w := by
  obtain ⟨B, base, A, C, hρ, rfl, _, h4⟩ := hX
  obtain ⟨L, l1, l2, l3⟩ := R.getN hb hρ o n hle
  obtain ⟨ns, rfl, rfl⟩ := bytesOf_ok hu l2
  have hl : (loadCells A n).run P w = .ok (ns.map (Value.int .u8)).toArray w := by
    rcases h4 with ⟨rfl, _⟩ | ⟨h5, _⟩
    · have := run_loadCells_list (P := P) w ⟨B, base + o, none⟩ (ns.map (Value.int .u8)) l3
      rwa [l1] at this
    · subst h5
      have : ns = [] := by simpa using l1
      subst this
      rfl
  have hr := run_bytesToString (P := P) w A n C ns hl
  rw [fold_push] at hr
  have e0 : (ByteArray.empty.data ++ (ns.map fun n => UInt8.ofNat n.toNat).toArray) = (ns.map fun n => UInt8.ofNat n.toNat).toArray := by
    show #[] ++ _ = _
    simp
  rw [e0] at hr
  simp [convert, run_underlying h1, run_underlying h2, run_underlying h3, hr]
end
end Go.Proofs.YtacmaphhbbadjaaGreatDoor
