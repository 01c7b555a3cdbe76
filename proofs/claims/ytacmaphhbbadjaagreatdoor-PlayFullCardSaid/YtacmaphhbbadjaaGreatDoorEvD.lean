/- The small machine's operations against the model's, 2: loads, stores, new blocks, parts, addresses. -/
import Derived.Test.YtacmaphhbbadjaaGreatDoorEvC
namespace Go.Proofs.YtacmaphhbbadjaaGreatDoor
set_option linter.all false
open Go.RowKit

section
variable {P : Program} {ρ ρ' : ERho} {w w' : World} {H H' : EH} {ev : Operand → EV} {a : Act}
theorem aggSize_some {t : TypeId} {n : Nat} (h : aggSize P t = some (some n)) : (∀ w, (isAgg t).run P w = .ok true w) ∧ ∀ w, (sizeOf t).run P w = .ok n w := by
  unfold aggSize at h
  split at h
  · rename_i fs i e1 e2
    injection h with h; injection h with h; subst h
    exact ⟨fun w => by simp [isAgg, run_underlying e1], fun w => by simp [sizeOf, typeInfo, e2]⟩
  · rename_i n' e i e1 e2
    injection h with h; injection h with h; subst h
    exact ⟨fun w => by simp [isAgg, run_underlying e1], fun w => by simp [sizeOf, typeInfo, e2]⟩
  · injection h with h; cases h
  · cases h
theorem aggSize_none {t : TypeId} (h : aggSize P t = some none) (hi : (P.info? t).isSome) : ∀ w, (isAgg t).run P w = .ok false w := by
  unfold aggSize at h
  split at h
  · injection h with h; cases h
  · injection h with h; cases h
  · rename_i q d e1 h1 h2
    obtain ⟨i, hi⟩ := Option.isSome_iff_exists.1 hi
    intro w
    cases d <;> first | exact (h1 _ i hi rfl).elim | exact (h2 _ _ i hi rfl).elim | simp [isAgg, run_underlying e1]
  · cases h
theorem info_of_underlying {t : TypeId} {d : TypeDesc} (h : P.underlying t = some d) : (P.info? t).isSome := by
  unfold Program.underlying at h
  cases e : P.info? t with
  | none => rw [e] at h; cases h
  | some i => rfl
theorem aggSize_none' {t : TypeId} (h : aggSize P t = some none) : ∀ w, (isAgg t).run P w = .ok false w := by
  refine aggSize_none h ?_
  unfold aggSize at h
  cases e : P.underlying t with
  | none => rw [e] at h; simp at h
  | some d => exact info_of_underlying e
theorem addr_add0 (B o j : Nat) : Addr.add ⟨B, o, none⟩ j = ⟨B, o + j, none⟩ := by
  unfold Addr.add; split <;> simp_all
theorem evLoad_ok (R : ERep ρ w H) {t : TypeId} {b o : Nat} {A : Value} (hA : ER ρ w (.ptr b o) A) {v : EV} (h : evLoad P t b o H = some v) :
    ∃ V, (Instr.loadAt t A).run P w = .ok V w ∧ ER ρ w v V := by
  obtain ⟨B, base, e, rfl⟩ := hA
  unfold evLoad at h
  split at h
  · rename_i x n hb hs
    cases hle : Nat.ble (o + n) x.size with
    | false => rw [hle] at h; cases h
    | true =>
      rw [hle] at h
      simp only [cond_true, Option.some.injEq] at h; subst h
      have hle := Nat.le_of_ble_eq_true hle
      obtain ⟨B', base', e', _⟩ := R.cells hb
      rw [e] at e'; injection e' with e'; injection e' with e1 e2; subst e1; subst e2
      obtain ⟨L, l1, l2, l3⟩ := R.getN hb e o n hle
      obtain ⟨a1, a2⟩ := aggSize_some hs
      have hl := run_loadCells_list (P := P) w ⟨B, base + o, none⟩ L l3
      rw [l1] at hl
      exact ⟨.agg L.toArray, by simp [Instr.loadAt, Instr.sureAddr, loadVar, a1, a2, hl], L.toArray, rfl, by simpa using l2⟩
  · rename_i x hb hs
    cases hle : Nat.blt o x.size with
    | false => rw [hle] at h; cases h
    | true =>
      rw [hle] at h
      simp only [cond_true, Option.some.injEq] at h; subst h
      have hle : o < x.size := Nat.le_of_ble_eq_true hle
      obtain ⟨B', base', e', _, h3, _⟩ := R.cells hb
      rw [e] at e'; injection e' with e'; injection e' with e1 e2; subst e1; subst e2
      obtain ⟨V, hV, r⟩ := h3 o hle
      exact ⟨V, by simp [Instr.loadAt, Instr.sureAddr, loadVar, aggSize_none' hs, hV], r⟩
  · cases h
theorem EV.one_ok {v : EV} {V : Value} (h : v.one = true) (r : ER ρ w v V) : V.oneCell' = true := by
  cases v with
  | int _ _ => have : V = _ := r; subst this; rfl
  | bool _ => have : V = _ := r; subst this; rfl
  | lit u => have : V = u := r; subst this; exact h
  | ptr _ _ => obtain ⟨_, _, _, rfl⟩ := r; rfl
  | sl _ _ _ _ _ => obtain ⟨_, _, _, _, _, rfl, _⟩ := r; rfl
  | agg _ => cases h
  | tup _ => cases h
  | fn _ _ _ => obtain ⟨_, _, rfl, _⟩ := r; rfl
theorem one_all {l : List EV} {L : List Value} (h : l.all EV.one = true) (r : ERs ρ w l L) : ∀ u ∈ L, u.oneCell' = true := by
  induction l generalizing L with
  | nil => cases L with | nil => intro u hu; cases hu | cons _ _ => exact r.elim
  | cons x l ih =>
    cases L with
    | nil => exact r.elim
    | cons y m =>
      simp only [List.all_cons, Bool.and_eq_true] at h
      intro u hu
      rcases List.mem_cons.1 hu with rfl | hu
      · exact EV.one_ok h.1 r.1
      · exact ih h.2 r.2 u hu
theorem cellsV_ok {v : EV} {V : Value} (r : ER ρ w v V) : ERs ρ w v.cellsV V.cells.toList := by
  cases v with
  | int _ _ => have : V = _ := r; subst this; exact ⟨rfl, trivial⟩
  | bool _ => have : V = _ := r; subst this; exact ⟨rfl, trivial⟩
  | lit u =>
    have : V = u := r
    subst this
    cases V <;> first | exact ⟨rfl, trivial⟩ | exact ERs.ofs _
  | agg l => obtain ⟨cs, rfl, r⟩ := r; exact r
  | ptr _ _ => obtain ⟨B, base, h, rfl⟩ := r; exact ⟨⟨B, base, h, rfl⟩, trivial⟩
  | sl _ _ _ _ _ => have r' := r; obtain ⟨_, _, _, _, _, rfl, _⟩ := r; exact ⟨r', trivial⟩
  | tup _ => have r' := r; obtain ⟨_, rfl, _⟩ := r; exact ⟨r', trivial⟩
  | fn _ _ _ => have r' := r; obtain ⟨_, _, rfl, _⟩ := r; exact ⟨r', trivial⟩
theorem evStore_ok (R : ERep ρ w H) {t : TypeId} {b o : Nat} {A X : Value} (hA : ER ρ w (.ptr b o) A) {v : EV} (hX : ER ρ w v X) (h : evStore P t b o v H = some H') :
    ∃ w', (Instr.storeAt t A X).run P w = .ok () w' ∧ EStep ρ w H ρ w' H' := by
  obtain ⟨B, base, e, rfl⟩ := hA
  unfold evStore at h
  split at h
  · rename_i x i hb hi
    simp only at h
    cases hc : (Nat.beq v.cellsV.length i.size && Nat.ble (o + v.cellsV.length) x.size && v.cellsV.all EV.one) with
    | false => rw [hc] at h; cases h
    | true =>
      rw [hc] at h
      simp only [cond_true, Option.some.injEq] at h
      simp only [Bool.and_eq_true] at hc
      have hlen := Nat.eq_of_beq_eq_true hc.1.1
      have hle := Nat.le_of_ble_eq_true hc.1.2
      have h1 := hc.2
      obtain ⟨B', base', e', ⟨n, hn, hfit⟩, h3, h4⟩ := R.cells hb
      rw [e] at e'; injection e' with e'; injection e' with e1 e2; subst e1; subst e2
      have hcells := cellsV_ok hX
      have hL := hcells.length
      have key := R.put hb e hcells o (by omega) n hn (by omega)
      have hmax : max x.size (o + v.cellsV.length) = x.size := by omega
      have hsz : (x.putN o v.cellsV).sz (max x.size (o + v.cellsV.length)) = x.putN o v.cellsV := by
        have := (EBlk.putN_facts v.cellsV x o).1
        rw [hmax, ← this]; rfl
      rw [hsz, h] at key
      have hex : ∀ j, j < X.cells.toList.length → (w.cell? ⟨B, base + o + 0 + j, none⟩).isSome = true := fun j hj => by
        obtain ⟨V, hV, _⟩ := h3 (o + j) (by omega)
        rw [show base + o + 0 + j = base + (o + j) by omega, hV]; rfl
      refine ⟨_, ?_, fun _ _ h => h, key.1, key.2, fun B' hB' => .inl (ELive.upd hb (y := x.putN o v.cellsV) (h ▸ hB')), by rw [← h]; exact Nat.le_refl _, fun _ _ => rfl⟩
      have hst := run_storeCells_cells (P := P) B (base + o) X.cells.toList 0 w hex (fun j hj => h4 _ (hex j hj)) (one_all h1 hcells)
      have hsz2 : X.cells.size = i.size := by rw [← hlen, hL]; simp
      simp [Instr.storeAt, Instr.sureAddr, storeVar, sizeOf, typeInfo, hi, hsz2, hst]
  · cases h
theorem ELive.of_new (R : ERep ρ w H) (x : EBlk) (p : Nat × Nat) {B : Nat} (h : ELive (ePutρ ρ H.next p) (H.new x) B) : ELive ρ H B ∨ B = p.1 := by
  obtain ⟨b, y, ba, hb, e⟩ := h
  rcases blk?_new hb with ⟨rfl, _⟩ | ⟨q, hb⟩
  · rw [rho_self] at e; injection e with e; exact .inr (by rw [e])
  · rw [rho_other _ _ q] at e
    exact .inl ⟨b, y, ba, hb, e⟩
theorem EBlk.of_get (l : List EV) (i : Nat) (h : i < l.length) : (EBlk.of l).get i = l[i] := by
  rw [EBlk.get_eq]
  show nth l (i % l.length) = _
  rw [Nat.mod_eq_of_lt h, nth_getD]
  simp [List.getD, h]
theorem EBlk.sz_get (x : EBlk) (n i : Nat) : (x.sz n).get i = x.get i := by rw [EBlk.get_eq, EBlk.get_eq]; rfl
/-- A block of a list of cells. -/
theorem evNew_ok (R : ERep ρ w H) (t : TypeId) {l : List EV} {L : Array Value} (hl : ERs ρ w l L.toList) :
    EStep ρ w H (ePutρ ρ H.next (w.heap.size, 0)) (w.alloc (.cells L t)) (evNew l H).2 ∧ ER (ePutρ ρ H.next (w.heap.size, 0)) (w.alloc (.cells L t)) (evNew l H).1 (.pointer (some ⟨w.heap.size, 0, none⟩)) ∧
    eSize (w.alloc (.cells L t)) w.heap.size = some L.size := by
  have hlen := hl.length
  have hget : ∀ i, i < (EBlk.of l).size → ∃ V, L[i]? = some V ∧ ER ρ w ((EBlk.of l).get i) V := fun i hi => by
    have hi : i < l.length := hi
    obtain ⟨V, e, r⟩ := hl.get i l[i] (by simp [hi])
    exact ⟨V, by simpa using e, by rw [EBlk.of_get l i hi]; exact r⟩
  obtain ⟨k1, k2, k3⟩ := R.new (.of l) L t (0, 0) (by simp at hlen; show l.length ≤ _; omega) (.inl rfl) hget
  refine ⟨⟨rho_put _ (R.next _ (Nat.le_refl _)) _, k1, k2, fun B hB => ?_, Nat.le_succ _, fun b hb => rho_other _ _ (Nat.ne_of_lt hb)⟩, ⟨w.heap.size, 0, rho_self _ _ _, rfl⟩, k3⟩
  exact (ELive.of_new R _ _ hB).imp id fun e => Nat.le_of_eq e.symm
theorem evPart_ok {t : TypeId} {l : List EV} {cs : Array Value} (r : ERs ρ w l cs.toList) {off : Nat} {v : EV} (h : evPart P t l off = some v) :
    ∃ V, (part t cs off).run P w = .ok V w ∧ ER ρ w v V := by
  have hlen := r.length
  unfold evPart at h
  split at h
  · rename_i n hs
    cases hle : Nat.ble (off + n) l.length with
    | false => rw [hle] at h; cases h
    | true =>
      rw [hle] at h
      simp only [cond_true, Option.some.injEq] at h; subst h
      obtain ⟨a1, a2⟩ := aggSize_some hs
      refine ⟨.agg (cs.extract off (off + n)), by simp [part, a1, a2], _, rfl, ?_⟩
      have := (r.drop off).take n
      simpa [List.extract_eq_take_drop] using this
  · rename_i hs
    obtain ⟨V, e, r⟩ := r.get off v h
    have e' : cs[off]? = some V := by simpa using e
    exact ⟨V, by simp [part, aggSize_none' hs, e'], r⟩
  · cases h
end
end Go.Proofs.YtacmaphhbbadjaaGreatDoor
