/- The small machine's operations against the model's, 4: builds, makes, copies, appends, conversions. -/
import Derived.Test.YtacmaphhbbadjaaGreatDoorEvE
import Derived.Great.BuildSlice
namespace Go.Proofs.YtacmaphhbbadjaaGreatDoor
set_option linter.all false
open Go.RowKit

section
variable {P : Program} {ρ ρ' : ERho} {w w' : World} {H H' : EH} {ev : Operand → EV} {a : Act}
/-- A block of the machine, and cells. -/
def EBC (ρ : ERho) (w : World) (b : EBlk) (cs : Array Value) : Prop := b.size = cs.size ∧ ∀ i, i < b.size → ∃ V, cs[i]? = some V ∧ ER ρ w (b.get i) V
def EParts (ρ : ERho) (w : World) : List (Nat × EV) → List (Nat × Value) → Prop
  | [], [] => True
  | x :: l, y :: m => x.1 = y.1 ∧ ER ρ w x.2 y.2 ∧ EParts ρ w l m
  | _, _ => False
theorem evParts_ok (F : ∀ x, ER ρ w (ev x) (a.eval x)) : ∀ (l : List (Nat × Operand)), EParts ρ w (evParts ev l) (l.map fun x => (x.1, a.eval x.2))
  | [] => trivial
  | (i, x) :: l => ⟨rfl, F x, evParts_ok F l⟩
theorem EBC.put {b : EBlk} {cs : Array Value} (h : EBC ρ w b cs) {l : List EV} {L : List Value} (hl : ERs ρ w l L) (off : Nat) (hfit : off + l.length ≤ b.size) :
    EBC ρ w (b.putN off l) ((L.zipIdx 0).foldl (fun cs (x : Value × Nat) => cs.setIfInBounds (off + x.2) x.1) cs) := by
  obtain ⟨g1, g2⟩ := Great.foldl_set off L 0 cs
  obtain ⟨f1, f2, f3⟩ := EBlk.putN_facts l b off
  have hlen := hl.length
  refine ⟨by rw [f1, g1]; exact h.1, fun i hi => ?_⟩
  rw [f1] at hi
  rw [g2 i]
  have hsz := h.1
  by_cases hin : off ≤ i ∧ i < off + l.length
  · rw [if_pos (by omega)]
    obtain ⟨V, e, r⟩ := hl.get (i - off) l[i - off] (List.getElem?_eq_getElem (by omega))
    have := f3 (i - off) l[i - off] (List.getElem?_eq_getElem (by omega))
    rw [show off + (i - off) = i by omega] at this
    exact ⟨V, by simpa using e, by rw [this]; exact r⟩
  · rw [if_neg (by omega), f2 i (by omega)]
    exact h.2 i hi
theorem evFill_ok (place : Nat → Option (Nat × Nat)) : ∀ (parts : List (Nat × EV)) (parts' : List (Nat × Value)) (b b' : EBlk) (cs : Array Value), EParts ρ w parts parts' → EBC ρ w b cs → evFill place b parts = some b' →
    ∃ cs', Instr.fill place cs parts' = some cs' ∧ EBC ρ w b' cs'
  | [], [], b, b', cs, _, hb, h => by simp [evFill] at h; subst h; exact ⟨cs, rfl, hb⟩
  | [], _ :: _, _, _, _, h, _, _ => h.elim
  | _ :: _, [], _, _, _, h, _, _ => h.elim
  | (i, v) :: l, (j, V) :: m, b, b', cs, hp, hb, h => by
    obtain ⟨rfl, hv, hm⟩ := hp
    simp only [evFill] at h
    split at h
    · rename_i off size hpl
      cases hc : (Nat.beq v.cellsV.length size && Nat.ble (off + size) b.size) with
      | false => rw [hc] at h; cases h
      | true =>
        rw [hc] at h
        simp only [cond_true] at h
        simp only [Bool.and_eq_true] at hc
        have e1 := Nat.eq_of_beq_eq_true hc.1
        have e2 := Nat.le_of_ble_eq_true hc.2
        have hcells := cellsV_ok hv
        have hlen : v.cellsV.length = V.cells.size := by simpa using hcells.length
        have hcs : V.cells.size = size := by rw [← e1, hlen]
        obtain ⟨cs', k1, k2⟩ := evFill_ok place l m _ b' _ hm (hb.put hcells off (by rw [e1]; exact e2)) h
        refine ⟨cs', ?_, k2⟩
        unfold Instr.fill
        simp only [hpl]
        have := hb.1
        rw [if_neg (by simp [hcs]; omega), ← k1]
        congr 1
        rw [← Array.foldl_toList, Array.toList_zipIdx]
    · cases h
theorem EBC.zero {z : List EV} {cs : Array Value} (hz : ERs ρ w z cs.toList) : EBC ρ w (.of z) cs := by
  have hlen := hz.length
  refine ⟨by show z.length = _; simpa using hlen, fun i hi => ?_⟩
  have hi : i < z.length := hi
  obtain ⟨V, e, r⟩ := hz.get i z[i] (by simp [hi])
  exact ⟨V, by simpa using e, by rw [EBlk.of_get z i hi]; exact r⟩
theorem EBC.getN {b : EBlk} {cs : Array Value} (h : EBC ρ w b cs) : ERs ρ w (b.getN 0 b.size) cs.toList := by
  refine ERs.mk (by rw [EBlk.getN_length]; simpa using h.1) fun i v V e1 e2 => ?_
  have hi : i < b.size := by
    have := (List.getElem?_eq_some_iff.1 e1).1
    rwa [EBlk.getN_length] at this
  rw [EBlk.getN_get _ _ _ _ hi, Nat.zero_add] at e1
  injection e1 with e1; subst e1
  obtain ⟨V', e, r⟩ := h.2 i hi
  have e2' : cs[i]? = some V := by simpa using e2
  rw [e] at e2'; injection e2' with e2'; subst e2'
  exact r
theorem zeroCells_ok {i : TypeInfo} {z : List EV} (h : zeroCellsOf i = some z) : ∃ u, i.zero = some u ∧ z = u.cells.toList.map .of := by
  unfold zeroCellsOf at h
  cases e : i.zero with
  | none => rw [e] at h; cases h
  | some u => rw [e] at h; injection h with h; exact ⟨u, rfl, h.symm⟩
theorem evBuild_ok {t : TypeId} {l : List (Nat × EV)} {ps : Array (Nat × Value)} (hp : EParts ρ w l ps.toList) {v : EV} (h : evBuild P t l = some v) :
    ∃ V, (Instr.build t ps).run P w = .ok V w ∧ ER ρ w v V := by
  unfold evBuild at h
  split at h
  · rename_i it n e h1 h2
    split at h
    · rename_i z ie h3 h4
      obtain ⟨u, hu, rfl⟩ := zeroCells_ok h3
      simp only [Option.map_eq_some_iff] at h
      obtain ⟨b, hb, rfl⟩ := h
      obtain ⟨cs, k1, k2⟩ := evFill_ok _ _ _ _ _ u.cells hp (EBC.zero (ERs.ofs _)) hb
      exact ⟨.agg cs, run_build w t ps cs (by simp [Program.built, h1, h2, hu, h4, k1]), cs, rfl, k2.getN⟩
    · cases h
  · rename_i it fields h1 h2
    split at h
    · rename_i z places h3 h4
      obtain ⟨u, hu, rfl⟩ := zeroCells_ok h3
      simp only [Option.map_eq_some_iff] at h
      obtain ⟨b, hb, rfl⟩ := h
      obtain ⟨cs, k1, k2⟩ := evFill_ok _ _ _ _ _ u.cells hp (EBC.zero (ERs.ofs _)) hb
      exact ⟨.agg cs, run_build w t ps cs (by simp only [Program.built, h1, h2, hu, h4, k1]), cs, rfl, k2.getN⟩
    · cases h
  · cases h
/-- Cells that repeat a pattern. -/
theorem EBC.rep (L : Array Value) (hL : L.toList ≠ []) (n : Nat) : EBC ρ w (.rep n (L.toList.map .of)) ((Array.range n).map (L[· % L.size]!)) := by
  have hpos : 0 < L.size := by
    rcases Nat.eq_zero_or_pos L.size with h | h
    · exact absurd (by simpa using h) hL
    · exact h
  refine ⟨by show n = _; simp, fun i hi => ?_⟩
  have hi : i < n := hi
  have hm : i % L.size < L.size := Nat.mod_lt _ hpos
  refine ⟨L[i % L.size]!, by simp [hi], ?_⟩
  have : (EBlk.rep n (L.toList.map .of)).get i = .of (L[i % L.size]!) := by
    rw [EBlk.get_eq]
    show nth (L.toList.map .of) (i % (L.toList.map EV.of).length) = _
    rw [nth_getD]
    simp [List.getD, hm, getElem!_pos]
  rw [this]
  exact .of _
theorem EBC.ok {b : EBlk} {cs : Array Value} (h : EBC ρ w b cs) (R : ERep ρ w H) (t : TypeId) (fr : Nat × Nat) (hfr : fr.1 = fr.2 ∨ cs.size ≤ fr.1) :
    EStep ρ w H (ePutρ ρ H.next (w.heap.size, 0)) (w.alloc (.cells cs t fr)) (H.new b) ∧ eSize (w.alloc (.cells cs t fr)) w.heap.size = some cs.size ∧ ePutρ ρ H.next (w.heap.size, 0) H.next = some (w.heap.size, 0) := by
  obtain ⟨k1, k2, k3⟩ := R.new b cs t fr (Nat.le_of_eq h.1) hfr h.2
  exact ⟨⟨rho_put _ (R.next _ (Nat.le_refl _)) _, k1, k2, fun B hB => (ELive.of_new R _ _ hB).imp id fun e => Nat.le_of_eq e.symm, Nat.le_succ _, fun b hb => rho_other _ _ (Nat.ne_of_lt hb)⟩, k3, rho_self _ _ _⟩
theorem evBuildSlice_ok (R : ERep ρ w H) {t : TypeId} {n : Nat} {l : List (Nat × EV)} {ps : Array (Nat × Value)} (hp : EParts ρ w l ps.toList) {v : EV} (h : evBuildSlice P t n l H = some (v, H')) :
    ∃ V ρ' w', (Instr.buildSlice t n ps).run P w = .ok V w' ∧ EStep ρ w H ρ' w' H' ∧ ER ρ' w' v V := by
  unfold evBuildSlice sliceElem at h
  split at h
  · rename_i e ie hse
    split at hse
    · rename_i e0 hu
      simp only [Option.map_eq_some_iff, Prod.mk.injEq] at hse
      obtain ⟨i0, hie, rfl, rfl⟩ := hse
      split at h
      · rename_i z h3
        obtain ⟨u, hz, rfl⟩ := zeroCells_ok h3
        cases hc : (Nat.ble (n * i0.size) 100000 && !(u.cells.toList.map EV.of).isEmpty) with
        | false => rw [hc] at h; cases h
        | true =>
          rw [hc] at h
          simp only [cond_true] at h
          simp only [Bool.and_eq_true, Bool.not_eq_true', List.isEmpty_eq_false_iff] at hc
          have hsm := Nat.le_of_ble_eq_true hc.1
          have hne : u.cells.toList ≠ [] := fun q => hc.2 (by simp [q])
          split at h
          · rename_i b hb
            simp only [Option.some.injEq, Prod.mk.injEq] at h
            obtain ⟨rfl, rfl⟩ := h
            obtain ⟨cs, k1, k2⟩ := evFill_ok _ _ _ _ _ _ hp (EBC.rep u.cells hne (n * i0.size)) hb
            obtain ⟨s, sz, hn⟩ := k2.ok R e0 (0, 0) (.inl rfl)
            refine ⟨_, _, _, ?_, s, w.heap.size, 0, ⟨w.heap.size, 0, none⟩, n, hn, rfl, by simp, .inl ⟨rfl, .inl rfl⟩⟩
            by_cases h0 : n * i0.size = 0
            · have e1 : ((Array.range (n * i0.size)).map (u.cells[· % u.cells.size]!)) = ((Array.range (n * i0.size)).map ((#[] : Array Value)[· % (#[] : Array Value).size]!)) := by simp [h0]
              rw [e1] at k1
              simp only [h0] at k1
              have hs : ¬ (2 ^ 24 < n * i0.size) := by omega
              simp [Instr.buildSlice, run_underlying hu, sizeOf, typeInfo, hie, hs, h0, newRow] at k1 ⊢
              simp [k1]
            · exact run_buildSlice w t e0 n ps cs i0 u hu hie hz (by omega) h0 k1
          · cases h
      · cases h
    · cases hse
  · cases h
theorem evMake_ok (R : ERep ρ w H) {t : TypeId} {l c : EV} {L C : Value} (hl : ER ρ w l L) (hc : ER ρ w c C) {v : EV} (h : evMake P t l c H = some (v, H')) :
    ∃ V ρ' w', (Instr.makeSlice t L C).run P w = .ok V w' ∧ EStep ρ w H ρ' w' H' ∧ ER ρ' w' v V := by
  unfold evMake sliceElem at h
  split at h
  · rename_i e ie ln cn hse h1 h2
    obtain ⟨kl, rfl⟩ := nat?_ok h1 hl
    obtain ⟨kc, rfl⟩ := nat?_ok h2 hc
    split at hse
    · rename_i e0 hu
      simp only [Option.map_eq_some_iff, Prod.mk.injEq] at hse
      obtain ⟨i0, hie, rfl, rfl⟩ := hse
      split at h
      · rename_i z h3
        obtain ⟨u, hz, rfl⟩ := zeroCells_ok h3
        cases hcc : (Nat.ble ln cn && capBound cn i0.bytes && !(u.cells.toList.map EV.of).isEmpty) with
        | false => rw [hcc] at h; cases h
        | true =>
          rw [hcc] at h
          simp only [cond_true, Option.some.injEq, Prod.mk.injEq] at h
          obtain ⟨rfl, rfl⟩ := h
          simp only [Bool.and_eq_true, Bool.not_eq_true', List.isEmpty_eq_false_iff, capBound] at hcc
          have b1 := Nat.le_of_ble_eq_true hcc.1.1
          have b2 := Nat.le_of_ble_eq_true hcc.1.2.1
          have b3 := Nat.le_of_ble_eq_true hcc.1.2.2
          have hne : u.cells.toList ≠ [] := fun q => hcc.2 (by simp [q])
          have hb : (i0.bytes : Int) * (cn : Int) ≤ 281474976710656 := by
            have : i0.bytes * cn ≤ 10000 * 1000000 := Nat.mul_le_mul b3 b2
            have h' : ((i0.bytes * cn : Nat) : Int) ≤ 281474976710656 := by omega
            rwa [Int.natCast_mul] at h'
          have hr := run_make (P := P) w t e0 i0 u hu hie hz kl kc ln cn (by omega) (by omega) hb (by omega)
          simp only [Int.toNat_natCast] at hr
          obtain ⟨s, sz, hn⟩ := (EBC.rep (ρ := ρ) (w := w) u.cells hne (cn * i0.size)).ok R e0 (0, 0) (.inl rfl)
          exact ⟨_, _, _, hr, s, w.heap.size, 0, ⟨w.heap.size, 0, none⟩, cn, hn, rfl, by simp, .inl ⟨rfl, .inl rfl⟩⟩
      · cases h
    · cases hse
  · cases h
end
end Go.Proofs.YtacmaphhbbadjaaGreatDoor
