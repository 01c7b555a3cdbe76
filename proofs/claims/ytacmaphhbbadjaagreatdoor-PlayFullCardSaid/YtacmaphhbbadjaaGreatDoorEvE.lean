/- The small machine's operations against the model's, 3: addresses, slices, builds. -/
import Derived.Test.YtacmaphhbbadjaaGreatDoorEvD
namespace Go.Proofs.YtacmaphhbbadjaaGreatDoor
set_option linter.all false
open Go.RowKit

section
variable {P : Program} {ρ ρ' : ERho} {w w' : World} {H H' : EH} {ev : Operand → EV} {a : Act}
theorem nat?_ok {v : EV} {n : Nat} {V : Value} (h : v.nat? = some n) (r : ER ρ w v V) : ∃ k, V = .int k (n : Int) := by
  cases v with
  | int k z =>
    have : V = _ := r
    subst this
    cases z with
    | ofNat m => simp [EV.nat?] at h; subst h; exact ⟨k, rfl⟩
    | negSucc m => simp [EV.nat?] at h
  | _ => simp [EV.nat?] at h
theorem ofAgg_ok {v : EV} {l : List EV} {V : Value} (h : v.ofAgg = some l) (r : ER ρ w v V) : ∃ cs, V = .agg cs ∧ ERs ρ w l cs.toList := by
  cases v with
  | lit u =>
    have : V = u := r
    subst this
    cases V <;> first | (simp [EV.ofAgg] at h; done) | skip
    rename_i cs
    simp [EV.ofAgg] at h; subst h
    exact ⟨cs, rfl, ERs.ofs _⟩
  | agg m => simp [EV.ofAgg] at h; subst h; exact r
  | _ => simp [EV.ofAgg] at h
theorem evFieldAddr_ok {s : TypeId} {fs : Array Field} {f : Nat} {fd : Field} {i : TypeInfo} {b o : Nat} {X : Value} (h1 : P.underlying s = some (.struct fs)) (h2 : fs[f]? = some fd) (h3 : P.info? fd.type = some i) (h4 : i.size ≠ 0)
    (hX : ER ρ w (.ptr b o) X) : ∃ V, (Instr.fieldAt s X f).run P w = .ok V w ∧ ER ρ w (.ptr b (o + fd.offset)) V := by
  obtain ⟨B, base, e, rfl⟩ := hX
  exact ⟨.pointer (some ⟨B, base + (o + fd.offset), none⟩), by simp [Instr.fieldAt, run_underlying h1, h2, Instr.sureAddr, fieldPlace, sizeOf, typeInfo, h3, h4, addr_add0, Nat.add_assoc], B, base, e, rfl⟩
theorem evIndexAddr_ok {t : TypeId} {x i : EV} {X I : Value} (hX : ER ρ w x X) (hI : ER ρ w i I) {v : EV} (h : evIndexAddr P t x i = some v) :
    ∃ V, (Instr.indexAt t X I).run P w = .ok V w ∧ ER ρ w v V := by
  unfold evIndexAddr at h
  split at h
  · rename_i e b o len c k n hu hn
    obtain ⟨ki, rfl⟩ := nat?_ok hn hI
    split at h
    · rename_i f hf
      cases hlt : Nat.blt n len with
      | false => rw [hlt] at h; cases h
      | true =>
        rw [hlt] at h
        simp only [cond_true, Option.some.injEq] at h; subst h
        have hlt : n < len := Nat.le_of_ble_eq_true hlt
        obtain ⟨B, base, A, C, e1, rfl, _, h4⟩ := hX
        rcases h4 with ⟨rfl, _⟩ | ⟨h0, _⟩
        · refine ⟨.pointer (some ⟨B, base + (o + n * f.size), none⟩), ?_, B, base, e1, rfl⟩
          simp [Instr.indexAt, asIntOf, run_underlying hu, sizeOf, typeInfo, hf, addr_add0, Nat.add_assoc, hlt]
        · omega
    · cases h
  · rename_i m e b o n hu hn
    obtain ⟨ki, rfl⟩ := nat?_ok hn hI
    split at h
    · rename_i f hf
      cases hlt : Nat.blt n m with
      | false => rw [hlt] at h; cases h
      | true =>
        rw [hlt] at h
        simp only [cond_true, Option.some.injEq] at h; subst h
        have hlt : n < m := Nat.le_of_ble_eq_true hlt
        obtain ⟨B, base, e1, rfl⟩ := hX
        refine ⟨.pointer (some ⟨B, base + (o + n * f.size), none⟩), ?_, B, base, e1, rfl⟩
        simp [Instr.indexAt, asIntOf, run_underlying hu, sizeOf, typeInfo, hf, addr_add0, Nat.add_assoc, hlt, Instr.sureAddr]
    · cases h
  · cases h
def EOpt (ρ : ERho) (w : World) : Option EV → Option Value → Prop
  | none, none => True
  | some v, some V => ER ρ w v V
  | _, _ => False
theorem eLow_ok {lo : Option EV} {lo' : Option Value} (h1 : EOpt ρ w lo lo') {l h : Nat} (hl : l ≤ h) (e : eLow lo = some l) (m : Option Value) (code : BoundsCode) : (match (generalizing := false) lo' with
    | some v => Instr.sliceBound v h code
    | none => pure 0 : Sem Nat).run P w = .ok l w := by
  cases lo with
  | none =>
    cases lo' with
    | none => simp [eLow] at e; subst e; rfl
    | some _ => exact h1.elim
  | some v =>
    cases lo' with
    | none => exact h1.elim
    | some V =>
      obtain ⟨ki, rfl⟩ := nat?_ok e h1
      simp [Instr.sliceBound, asIntOf, hl]
theorem eLow_none {lo : Option EV} (h1 : EOpt ρ w lo none) {l : Nat} (e : eLow lo = some l) : l = 0 := by
  cases lo with
  | none => simp [eLow] at e; exact e.symm
  | some _ => exact h1.elim
theorem bound_run (ki : IntKind) (i n : Nat) (h : i ≤ n) (code : BoundsCode) : (Instr.sliceBound (.int ki (i : Int)) n code).run P w = .ok i w := by
  simp [Instr.sliceBound, asIntOf, h]
theorem evBounds_ok {len c k : Nat} {lo hi mx : Option EV} {lo' hi' mx' : Option Value} (h1 : EOpt ρ w lo lo') (h2 : EOpt ρ w hi hi') (h3 : EOpt ρ w mx mx') {l h m k' : Nat} (he : evBounds len c k lo hi mx = some (l, h, m, k'))
    (is : Bool) (C : Nat) (hC : if k = 0 then C = c else c ≤ C) :
    ∃ M, (Instr.sliceBounds is len C lo' hi' mx').run P w = .ok (l, h, M) w ∧ (if k' = 0 then M = m else m ≤ M) ∧ l ≤ h ∧ h ≤ m ∧ M ≤ C ∧ (k' = k ∨ k' = 0) := by
  have hcC : c ≤ C := by split at hC <;> omega
  unfold evBounds at he
  split at he
  · rename_i l0 h0 el eh
    cases mx with
    | none =>
      cases mx' with
      | some _ => exact h3.elim
      | none =>
        simp only at he
        cases hb : (Nat.ble l0 h0 && Nat.ble h0 c) with
        | false => rw [hb] at he; cases he
        | true =>
          rw [hb] at he
          simp only [cond_true, Option.some.injEq, Prod.mk.injEq] at he
          obtain ⟨rfl, rfl, rfl, rfl⟩ := he
          simp only [Bool.and_eq_true] at hb
          have a1 := Nat.le_of_ble_eq_true hb.1
          have a2 := Nat.le_of_ble_eq_true hb.2
          refine ⟨C, ?_, hC, a1, a2, Nat.le_refl _, .inl rfl⟩
          have b1 := eLow_ok (P := P) h1 a1 el none .sliceB
          cases hi with
          | none =>
            cases hi' with
            | some _ => exact h2.elim
            | none =>
              simp [eHigh] at eh; subst eh
              cases lo' with
              | none => obtain rfl := eLow_none h1 el; simp [Instr.sliceBounds]
              | some L => simp only at b1; simp [Instr.sliceBounds, b1]
          | some v =>
            cases hi' with
            | none => exact h2.elim
            | some V =>
              obtain ⟨ki, rfl⟩ := nat?_ok eh h2
              have a3 : h0 ≤ C := by omega
              cases lo' with
              | none => obtain rfl := eLow_none h1 el; cases is <;> simp [Instr.sliceBounds, bound_run (P := P) (w := w) _ _ _ a3]
              | some L => simp only at b1; cases is <;> simp [Instr.sliceBounds, b1, bound_run (P := P) (w := w) _ _ _ a3]
    | some mv =>
      cases mx' with
      | none => exact h3.elim
      | some MV =>
        simp only at he
        split at he
        · rename_i m0 em
          cases hb : (hi.isSome && Nat.ble l0 h0 && Nat.ble h0 m0 && Nat.ble m0 c) with
          | false => rw [hb] at he; cases he
          | true =>
            rw [hb] at he
            simp only [cond_true, Option.some.injEq, Prod.mk.injEq] at he
            obtain ⟨rfl, rfl, rfl, rfl⟩ := he
            simp only [Bool.and_eq_true] at hb
            have a1 := Nat.le_of_ble_eq_true hb.1.1.2
            have a2 := Nat.le_of_ble_eq_true hb.1.2
            have a3 := Nat.le_of_ble_eq_true hb.2
            obtain ⟨kn, rfl⟩ := nat?_ok em h3
            have a4 : m0 ≤ C := by omega
            refine ⟨m0, ?_, by simp, a1, a2, a4, .inr rfl⟩
            have b2 := eLow_ok (P := P) h1 a1 el none .slice3C
            cases hi with
            | none => simp at hb
            | some v =>
              cases hi' with
              | none => exact h2.elim
              | some V =>
                obtain ⟨ki, rfl⟩ := nat?_ok eh h2
                cases lo' with
                | none => obtain rfl := eLow_none h1 el; cases is <;> simp [Instr.sliceBounds, bound_run (P := P) (w := w) _ _ _ a4, bound_run (P := P) (w := w) _ _ _ a2]
                | some L => simp only at b2; cases is <;> simp [Instr.sliceBounds, b2, bound_run (P := P) (w := w) _ _ _ a4, bound_run (P := P) (w := w) _ _ _ a2]
        · cases he
  · cases he
theorem evSlice_ok {t : TypeId} {x : EV} {X : Value} (hX : ER ρ w x X) {lo hi mx : Option EV} {lo' hi' mx' : Option Value} (h1 : EOpt ρ w lo lo') (h2 : EOpt ρ w hi hi') (h3 : EOpt ρ w mx mx') {v : EV} (h : evSlice P t x lo hi mx = some v) :
    ∃ V, (Instr.sliceAt t X lo' hi' mx').run P w = .ok V w ∧ ER ρ w v V := by
  unfold evSlice at h
  split at h
  · rename_i e b o len c k hu
    split at h
    · rename_i i l hh m k' hi1 hb
      obtain ⟨B, base, A, C, e1, rfl, hC, h4⟩ := hX
      obtain ⟨M, r1, r2, r3, r4, r5, r6⟩ := evBounds_ok (P := P) h1 h2 h3 hb true C hC
      have hrun : (Instr.sliceAt t (.slice (some A) len C) lo' hi' mx').run P w = .ok (.slice (if M = l then some A else some (A.add (l * i.size))) (hh - l) (M - l)) w := by
        simp [Instr.sliceAt, run_underlying hu, Instr.slice, r1, sizeOf, typeInfo, hi1]
      cases hc1 : (Nat.beq k' 0 && Nat.beq m l) with
      | true =>
        rw [hc1] at h
        simp only [cond_true, Option.some.injEq] at h; subst h
        simp only [Bool.and_eq_true] at hc1
        have k0 := Nat.eq_of_beq_eq_true hc1.1
        have m0 := Nat.eq_of_beq_eq_true hc1.2
        rw [if_pos k0] at r2
        have q1 : hh - l = 0 := by omega
        have q2 : M - l = 0 := by omega
        rw [q1, q2, if_pos (by omega)] at hrun
        exact ⟨_, hrun, B, base, A, 0, e1, rfl, by simp, .inr ⟨rfl, rfl⟩⟩
      | false =>
        rw [hc1] at h
        simp only [cond_false] at h
        cases hc2 : (Nat.beq k 0 || Nat.beq k i.size) with
        | false => rw [hc2] at h; cases h
        | true =>
          rw [hc2] at h
          simp only [cond_true, Option.some.injEq] at h; subst h
          have hk' : if k' = 0 then M - l = m - l else m - l ≤ M - l := by split at r2 <;> rename_i q <;> simp [q] <;> omega
          by_cases hM : M = l
          · have q1 : hh - l = 0 := by
              have : m ≤ M := by split at r2 <;> omega
              omega
            have q2 : M - l = 0 := by omega
            rw [if_pos hM, q1, q2] at hrun
            rw [q2] at hk'
            rw [q1]
            exact ⟨_, hrun, B, base, A, 0, e1, rfl, hk', .inr ⟨rfl, rfl⟩⟩
          · rw [if_neg hM] at hrun
            rcases h4 with ⟨rfl, h5⟩ | ⟨h5, h6⟩
            · rw [addr_add0, Nat.add_assoc] at hrun
              refine ⟨_, hrun, B, base, _, _, e1, rfl, hk', .inl ⟨rfl, ?_⟩⟩
              rcases r6 with rfl | r6
              · rcases h5 with h5 | ⟨n, hn, hl⟩
                · exact .inl h5
                · by_cases hk0 : k' = 0
                  · exact .inl hk0
                  · right
                    refine ⟨n, hn, ?_⟩
                    have : k' = i.size := by
                      simp only [Bool.or_eq_true] at hc2
                      rcases hc2 with q | q
                      · exact absurd (Nat.eq_of_beq_eq_true q) hk0
                      · exact Nat.eq_of_beq_eq_true q
                    have hlM : l ≤ M := by
                      have : m ≤ M := by split at r2 <;> omega
                      omega
                    have e2 : l * i.size + (M - l) * k' = M * k' := by rw [← this, ← Nat.add_mul]; congr 1; omega
                    have e3 : M * k' ≤ C * k' := Nat.mul_le_mul_right _ r5
                    omega
              · exact .inl r6
            · have : m ≤ M := by split at r2 <;> omega
              exact absurd (show M = l by omega) hM
    · cases h
  · rename_i n e b o hu
    split at h
    · rename_i i l hh m k' hi1 hb
      cases mx with
      | some _ => simp at h
      | none =>
        cases mx' with
        | some _ => exact h3.elim
        | none =>
          simp only [Option.isSome_none, cond_false] at h
          obtain ⟨B, base, e1, rfl⟩ := hX
          obtain ⟨M, r1, r2, r3, r4, r5, r6⟩ := evBounds_ok (P := P) h1 h2 h3 hb false n (by simp)
          have hk : k' = 0 := by rcases r6 with q | q <;> exact q
          rw [if_pos hk] at r2
          subst r2
          have hrun : (Instr.sliceAt t (.pointer (some ⟨B, base + o, none⟩)) lo' hi' none).run P w = .ok (.slice (some (if M = l then ⟨B, base + o, none⟩ else Addr.add ⟨B, base + o, none⟩ (l * i.size))) (hh - l) (M - l)) w := by
            simp [Instr.sliceAt, run_underlying hu, Instr.sureAddr, r1, sizeOf, typeInfo, hi1]
          cases hc1 : Nat.beq M l with
          | true =>
            rw [hc1] at h
            simp only [cond_true, Option.some.injEq] at h; subst h
            have m0 := Nat.eq_of_beq_eq_true hc1
            have q1 : hh - l = 0 := by omega
            have q2 : M - l = 0 := by omega
            rw [q1, q2] at hrun
            exact ⟨_, hrun, B, base, _, 0, e1, rfl, by simp, .inr ⟨rfl, rfl⟩⟩
          | false =>
            rw [hc1] at h
            simp only [cond_false, Option.some.injEq] at h; subst h
            have hM : ¬ M = l := fun q => by subst q; simp at hc1
            rw [if_neg hM, addr_add0, Nat.add_assoc] at hrun
            exact ⟨_, hrun, B, base, _, _, e1, rfl, by simp, .inl ⟨rfl, .inl rfl⟩⟩
    · cases h
  · cases h
end
end Go.Proofs.YtacmaphhbbadjaaGreatDoor
