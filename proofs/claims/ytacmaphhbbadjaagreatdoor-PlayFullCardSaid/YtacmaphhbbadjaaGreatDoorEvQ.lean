/- Regions in any order, 3: new blocks ahead of their names; the run of one order, whole. -/
import Derived.Test.YtacmaphhbbadjaaGreatDoorEvP
namespace Go.Proofs.YtacmaphhbbadjaaGreatDoor
set_option linter.all false
open Go.RowKit

def mkV : Option (Nat × Nat) → Nat → Value
  | none, B => .pointer (some ⟨B, 0, none⟩)
  | some (l, c), B => .slice (some ⟨B, 0, none⟩) l c
section
variable {P : Program} {ca : XCa} {ops : Array Oper} {nt : Nat} {rs : List Nat} {ρ : ERho} {w w' : World} {H H' : EH} {ev : Operand → EV} {a : Act} {o : Oper} {x : EBlk} {q : Option (Nat × Nat)}
theorem mkA_ok {ρ' : ERho} {n B : Nat} (h : ρ' n = some (B, 0)) : ER ρ' w (mkA q n) (mkV q B) := by
  cases q with
  | none => exact ⟨B, 0, h, rfl⟩
  | some p =>
    obtain ⟨l, c⟩ := p
    exact ⟨B, 0, ⟨B, 0, none⟩, c, h, rfl, by simp, .inl ⟨rfl, .inl rfl⟩⟩
theorem evA_all (F : ∀ y, ER ρ w (ev y) (a.eval y)) (h : evA P o ev = some (q, x)) :
    ∃ cs t, (execOp a.eval o).run P w = .ok (.value (mkV q w.heap.size)) (w.alloc (.cells cs t)) ∧ EBC ρ w x cs := by
  obtain ⟨dst, op, type, pos, after, guard⟩ := o
  cases op with
  | alloc e =>
    simp only [evA] at h
    split at h
    · rename_i i hi
      simp only [Option.map_eq_some_iff, Prod.mk.injEq] at h
      obtain ⟨z, hz, rfl, rfl⟩ := h
      obtain ⟨u, hu, rfl⟩ := zeroCells_ok hz
      exact ⟨u.cells, e, by simp [execOp, Instr.alloc, zeroValue, typeInfo, hi, hu, newVar, newRow, mkV], EBC.zero (ERs.ofs _)⟩
    · cases h
  | box e y =>
    simp only [evA, Option.some.injEq, Prod.mk.injEq] at h
    obtain ⟨rfl, rfl⟩ := h
    exact ⟨(a.eval y).cells, e, by simp [execOp, Instr.box, newVar, newRow, mkV], EBC.zero (cellsV_ok (F y))⟩
  | buildSlice t n ps =>
    simp only [evA] at h
    unfold sliceElem at h
    split at h
    · rename_i e ie hse
      split at hse
      · rename_i e0 hu
        simp only [Option.map_eq_some_iff, Prod.mk.injEq] at hse
        obtain ⟨i0, hie, rfl, rfl⟩ := hse
        split at h
        · rename_i z h3
          obtain ⟨u, hz, rfl⟩ := zeroCells_ok h3
          cases hc : (Nat.ble (n * i0.size) 100000 && !(u.cells.toList.map EV.of).isEmpty) with
          | false => rw [hc] at h; cases h
          | true =>
            rw [hc] at h
            simp only [cond_true, Option.map_eq_some_iff, Prod.mk.injEq] at h
            simp only [Bool.and_eq_true, Bool.not_eq_true', List.isEmpty_eq_false_iff] at hc
            obtain ⟨b, hb, rfl, rfl⟩ := h
            have hsm := Nat.le_of_ble_eq_true hc.1
            have hne : u.cells.toList ≠ [] := fun q => hc.2 (by simp [q])
            have hp := evParts_ok (a := a) F ps.toList
            have hp' : EParts ρ w (evParts ev ps.toList) (ps.map fun (i, x) => (i, a.eval x)).toList := by simpa using hp
            obtain ⟨cs, k1, k2⟩ := evFill_ok _ _ _ _ _ _ hp' (EBC.rep u.cells hne (n * i0.size)) hb
            have hrun : (Instr.buildSlice t n (ps.map fun (i, x) => (i, a.eval x))).run P w = .ok (mkV (some (n, n)) w.heap.size) (w.alloc (.cells cs e0)) := by
              by_cases h0 : n * i0.size = 0
              · have e1 : ((Array.range (n * i0.size)).map (u.cells[· % u.cells.size]!)) = ((Array.range (n * i0.size)).map ((#[] : Array Value)[· % (#[] : Array Value).size]!)) := by simp [h0]
                rw [e1] at k1
                simp only [h0] at k1
                have hs : ¬ (2 ^ 24 < n * i0.size) := by omega
                simp [Instr.buildSlice, run_underlying hu, sizeOf, typeInfo, hie, hs, h0, newRow, mkV] at k1 ⊢
                simp [k1]
              · exact run_buildSlice w t e0 n _ cs i0 u hu hie hz (by omega) h0 k1
            exact ⟨cs, e0, by simp only [execOp, Sem.run_bind, hrun, Result.andThen_ok]; rfl, k2⟩
        · cases h
      · cases hse
    · cases h
  | makeSlice t l c =>
    simp only [evA] at h
    unfold sliceElem at h
    split at h
    · rename_i e ie ln cn hse h1 h2
      obtain ⟨kl, hkl⟩ := nat?_ok h1 (F l)
      obtain ⟨kc, hkc⟩ := nat?_ok h2 (F c)
      split at hse
      · rename_i e0 hu
        simp only [Option.map_eq_some_iff, Prod.mk.injEq] at hse
        obtain ⟨i0, hie, rfl, rfl⟩ := hse
        split at h
        · rename_i z h3
          obtain ⟨u, hz, rfl⟩ := zeroCells_ok h3
          cases hcc : (Nat.ble ln cn && capBound cn i0.bytes && !(u.cells.toList.map EV.of).isEmpty) with
          | false => rw [hcc] at h; cases h
          | true =>
            rw [hcc] at h
            simp only [cond_true, Option.some.injEq, Prod.mk.injEq] at h
            obtain ⟨rfl, rfl⟩ := h
            simp only [Bool.and_eq_true, Bool.not_eq_true', List.isEmpty_eq_false_iff, capBound] at hcc
            have b1 := Nat.le_of_ble_eq_true hcc.1.1
            have b2 := Nat.le_of_ble_eq_true hcc.1.2.1
            have b3 := Nat.le_of_ble_eq_true hcc.1.2.2
            have hne : u.cells.toList ≠ [] := fun q => hcc.2 (by simp [q])
            have hb : (i0.bytes : Int) * (cn : Int) ≤ 281474976710656 := by
              have : i0.bytes * cn ≤ 10000 * 1000000 := Nat.mul_le_mul b3 b2
              have h' : ((i0.bytes * cn : Nat) : Int) ≤ 281474976710656 := by omega
              rwa [Int.natCast_mul] at h'
            have hr := run_make (P := P) w t e0 i0 u hu hie hz kl kc ln cn (by omega) (by omega) hb (by omega)
            simp only [Int.toNat_natCast] at hr
            exact ⟨madeCells u.cells (cn * i0.size), e0, by simp [execOp, hkl, hkc, hr, mkV], EBC.rep (ρ := ρ) (w := w) u.cells hne (cn * i0.size)⟩
        · cases h
      · cases hse
    · cases h
  | _ => simp [evA] at h
theorem evA_ok (F : EOps ρ w ev a o) (h : evA P o ev = some (q, x)) :
    ∃ cs t, (execOp a.eval o).run P w = .ok (.value (mkV q w.heap.size)) (w.alloc (.cells cs t)) ∧ EBC ρ w x cs := by
  classical
  let ev' : Operand → EV := fun y => if y ∈ o.op.operands then ev y else .lit (a.eval y)
  have h' : evA P o ev' = some (q, x) := by
    rw [← h]
    exact evA_congr fun y hy => by simp [ev', hy]
  refine evA_all (fun y => ?_) h'
  by_cases hy : y ∈ o.op.operands
  · simp only [ev', hy, if_true]; exact F y hy
  · simp only [ev', hy, if_false]; exact rfl
variable {F T0 : XF} {nm : Nat → Nat} {seen seen' : Nat} {T T' : XF} {s0 : XS} {k : XB} {pe : Option Nat}
theorem litSame_ok {u v : Value} (h : litSame u v = true) : u = v := by
  unfold litSame at h
  split at h
  · rfl
  · simp only [Bool.and_eq_true, beq_iff] at h
    obtain ⟨rfl, rfl⟩ := h; rfl
  · rfl
  · cases h
theorem allSame_ok {f : EV → EV → Bool} (hf : ∀ x y, f x y = true → x = y) : ∀ l m : List EV, allSame f l m = true → l = m
  | [], [], _ => rfl
  | x :: l, y :: m, h => by
    simp only [allSame, Bool.and_eq_true] at h
    rw [hf x y h.1, allSame_ok hf l m h.2]
  | [], _ :: _, h => by cases h
  | _ :: _, [], h => by cases h
theorem evSame_ok : ∀ (n : Nat) (x y : EV), evSame n x y = true → x = y
  | 0, _, _, h => by cases h
  | n + 1, x, y, h => by
    simp only [evSame] at h
    split at h
    · simp only [Bool.and_eq_true, sameKind, decide_eq_true_eq] at h
      obtain ⟨rfl, rfl⟩ := h; rfl
    · rw [eq_of_beq h]
    · rw [litSame_ok h]
    · simp only [Bool.and_eq_true, beq_iff] at h
      obtain ⟨rfl, rfl⟩ := h; rfl
    · simp only [Bool.and_eq_true, beq_iff] at h
      obtain ⟨⟨⟨⟨rfl, rfl⟩, rfl⟩, rfl⟩, rfl⟩ := h; rfl
    · rw [allSame_ok (evSame_ok n) _ _ h]
    · cases h
theorem chkCons {ok : Nat → Bool} {i : Nat} {l : List Nat} (h : chkList ops.toList (bmasks ops.toList []) nt ok (i :: l) seen = some seen') :
    chkOne ops.toList (bmasks ops.toList []) nt seen i = true ∧ ok i = true ∧ chkList ops.toList (bmasks ops.toList []) nt ok l (seen ||| 2 ^ i) = some seen' := by
  simp only [chkList] at h
  cases q : (chkOne ops.toList (bmasks ops.toList []) nt seen i && ok i) with
  | false => rw [q] at h; cases h
  | true =>
    rw [q] at h
    simp only [Bool.and_eq_true] at q
    exact ⟨q.1, q.2, h⟩
theorem RRun.early (hca : ECa P ca.opt) (h256 : nt ≤ 256) (S : RStat P ops nt rs) : ∀ (l : List Nat) (seen : Nat) (T : XF), RRun ops rs T0 nm seen T →
    chkList ops.toList (bmasks ops.toList []) nt (chkEarly P ops.toList (bmasks ops.toList []) pe) l seen = some seen' → (compEarly P nt ops l k).run ca T H = s0 → s0 ≠ .no →
    ∃ T', k.run ca T' H = s0 ∧ RRun ops rs T0 nm seen' T' ∧ ∀ F, FinT ops seen' T' F → FinT ops seen T F ∧ EarlyOk P ops F T0 H l ∧ ∀ i ∈ l, FGd P ops F T0 i
  | [], seen, T, R, hc, h, hn => by
    simp [chkList] at hc; subst hc
    exact ⟨T, h, R, fun F hF => ⟨hF, (by intro i hi; cases hi), (by intro i hi; cases hi)⟩⟩
  | i :: l, seen, T, R, hc, h, hn => by
    obtain ⟨c1, c2, c3⟩ := chkCons hc
    obtain ⟨_, _, o, hi, _⟩ := chkOne_spec c1
    have h : (compIx P nt ops i (compEarly P nt ops l k)).run ca T H = s0 := h
    unfold compIx at h
    simp only [hi] at h
    obtain ⟨T1, H1, g, R1, hsame, hF1⟩ := R.one hca h256 S hi c1 h hn
    have hcls : RC P ops i < 2 := by
      unfold chkEarly at c2
      simp only [Bool.or_eq_true, Bool.and_eq_true, beq_iff] at c2
      unfold RC
      rcases c2 with q | ⟨q, _⟩ <;> omega
    have e := (hsame hcls).symm
    subst e
    obtain ⟨T2, g2, R2, hF2⟩ := RRun.early hca h256 S l _ _ R1 c3 g hn
    refine ⟨T2, g2, R2, fun F hF => ?_⟩
    obtain ⟨f1, f2, f3⟩ := hF2 F hF
    obtain ⟨f4, f5, f6, f7⟩ := hF1 F f1
    refine ⟨f4, fun j hj => ?_, fun j hj => ?_⟩
    · rcases List.mem_cons.1 hj with rfl | hj
      · exact ⟨f6, fun _ => f5⟩
      · exact f2 j hj
    · rcases List.mem_cons.1 hj with rfl | hj
      · exact f7
      · exact f3 j hj
theorem RRun.late (hca : ECa P ca.opt) (h256 : nt ≤ 256) (S : RStat P ops nt rs) {ne : Option Nat} : ∀ (l : List Nat) (seen : Nat) (T : XF) (H : EH), RRun ops rs T0 nm seen T →
    chkList ops.toList (bmasks ops.toList []) nt (chkLate P ops.toList (bmasks ops.toList []) rs ne) l seen = some seen' → (compLate P nt ops l k).run ca T H = s0 → s0 ≠ .no →
    ∃ T' H', k.run ca T' H' = s0 ∧ RRun ops rs T0 nm seen' T' ∧ ∀ F, FinT ops seen' T' F → FinT ops seen T F ∧ LateRun P ops F T0 nm l H H'
  | [], seen, T, H, R, hc, h, hn => by
    simp [chkList] at hc; subst hc
    exact ⟨T, H, h, R, fun F hF => ⟨hF, rfl⟩⟩
  | i :: l, seen, T, H, R, hc, h, hn => by
    obtain ⟨c1, c2, c3⟩ := chkCons hc
    obtain ⟨d1, d2, o, hi, _⟩ := chkOne_spec c1
    unfold compLate at h
    simp only [hi] at h
    unfold chkLate at c2
    simp only [Bool.or_eq_true, Bool.and_eq_true, beq_iff] at c2
    have hrc : RC P ops i = cOf P ops.toList i := rfl
    rcases c2 with c2 | ⟨⟨c2, c4⟩, _⟩
    · have hne : Nat.beq (opCls P o.op) 2 = false := by
        rw [← RC_eq hi, hrc, c2]; rfl
      rw [hne] at h
      simp only [cond_false] at h
      obtain ⟨T1, H1, g, R1, hsame, hF1⟩ := R.one hca h256 S hi c1 h hn
      have e := hsame (by rw [hrc, c2]; omega)
      subst e
      obtain ⟨T2, H2, g2, R2, hF2⟩ := RRun.late hca h256 S l _ _ _ R1 c3 g hn
      refine ⟨T2, H2, g2, R2, fun F hF => ?_⟩
      obtain ⟨f1, f2⟩ := hF2 F hF
      obtain ⟨f4, f5, f6, f7⟩ := hF1 F f1
      exact ⟨f4, .inl ⟨by rw [hrc, c2], f6 (by rw [hrc, c2]), f2⟩⟩
    · have hmem : i ∈ rs := by simpa using c4
      obtain ⟨_, o', d, hi', hd, hlt⟩ := S.res i hmem
      rw [hi] at hi'; injection hi' with hi'; subst hi'
      have hbe : Nat.beq (opCls P o.op) 2 = true := by
        rw [← RC_eq hi, hrc, c2]; rfl
      rw [hbe] at h
      simp only [cond_true, hd] at h
      have hcd : compDst nt o = some (compP d) := by
        unfold compDst
        rw [hd]
        simp only [lt_blt hlt, cond_true]
      have hset := compDst_set h256 hcd
      rcases compGd_ok h hn with ⟨hw, h⟩ | ⟨hw, h⟩
      · rcases onPtr_ok (x := evT T (.tmp d)) h with ⟨n, z, hx, h⟩ | h
        · have hnm := R.rsv i hmem d1 o d hi hd
          rw [hx] at hnm
          injection hnm with hnm _
          subst hnm
          rcases onOpt_ok h with ⟨⟨q, x⟩, hA, h⟩ | h
          · have hT := hset (mkA q (nm i)) T
            obtain ⟨T2, H2, g2, R2, hF2⟩ := RRun.late hca h256 S l _ _ _ (R.next S hi d2 hT) c3 h hn
            refine ⟨T2, H2, g2, R2, fun F hF => ?_⟩
            obtain ⟨f1, f2⟩ := hF2 F hF
            have hF' := f1.prev hi d1 hT
            exact ⟨hF', .inr ⟨by rw [hrc, c2], some x, ⟨o, T, q, d, hi, R.at S d1 d2 hF', hw, hA, hd, f1.fits S hi hT d hd⟩, f2⟩⟩
          · exact absurd h.symm hn
        · exact absurd h.symm hn
      · have hT := hset default T
        obtain ⟨T2, H2, g2, R2, hF2⟩ := RRun.late hca h256 S l _ _ _ (R.next S hi d2 hT) c3 h hn
        refine ⟨T2, H2, g2, R2, fun F hF => ?_⟩
        obtain ⟨f1, f2⟩ := hF2 F hF
        have hF' := f1.prev hi d1 hT
        exact ⟨hF', .inr ⟨by rw [hrc, c2], none, ⟨o, T, d, hi, R.at S d1 d2 hF', hw, hd, f1.fits S hi hT d hd⟩, f2⟩⟩
theorem chkRe_spec {i : Nat} (h : chkRe ops.toList (bmasks ops.toList []) seen i = true) : ∃ o, ops[i]? = some o ∧ ∀ t ∈ o.looksAt ops, ∀ j, Owns ops t j → RB ops i j ∨ ¬ Bit seen j := by
  unfold chkRe at h
  split at h
  · rename_i o ho
    refine ⟨o, by simpa using ho, fun t ht j hj => ?_⟩
    obtain ⟨o', hj, hd⟩ := hj
    rw [List.all_eq_true] at h
    have := zipIdx_all (h t (by simpa using ht)) hj
    simp only [Bool.or_eq_true, bne_iff_ne, ne_eq, hd, not_true, false_or, Bool.not_eq_true'] at this
    rcases this with q | q
    · exact .inl q
    · exact .inr fun q' => by unfold Bit at q'; rw [q] at q'; cases q'
  · cases h
theorem Looks.congr {T T' : XF} (h : ∀ t ∈ o.looksAt ops, evT T (.tmp t) = evT T' (.tmp t)) (L : Looks ops ρ w T a o) : Looks ops ρ w T' a o := fun t ht => by rw [← h t ht]; exact L t ht
theorem RRun.re (hca : ECa P ca.opt) (S : RStat P ops nt rs) (R : RRun ops rs T0 nm seen T) : ∀ (l : List Nat), (∀ i ∈ l, Bit seen i ∧ RC P ops i = 1 ∧ chkRe ops.toList (bmasks ops.toList []) seen i = true) → (∀ F, FinT ops seen T F → ∀ i ∈ l, FGd P ops F T0 i) →
    (compRe P ops l k).run ca T H = s0 → s0 ≠ .no → k.run ca T H = s0 ∧ ∀ F, FinT ops seen T F → ∀ i ∈ l, FEff P ops F T0 i H H
  | [], _, _, h, _ => ⟨h, (by intro F _ i hi; cases hi)⟩
  | i :: l, hc, hg, h, hn => by
    obtain ⟨c1, c2, c3⟩ := hc i (by simp)
    obtain ⟨o, hi, hlk⟩ := chkRe_spec c3
    unfold compRe at h
    simp only [hi] at h
    have hat : ∀ F, FinT ops seen T F → AtT ops F T0 i T := by
      intro F hF o' hi' t ht
      rw [hi] at hi'; injection hi' with hi'; subst hi'
      unfold wantT
      by_cases ho : ∃ j, Owns ops t j
      · obtain ⟨j, hj⟩ := ho
        have only : ∀ m, Owns ops t m → m = j := fun m hm => S.uniq m j t hm hj
        by_cases hr : RB ops i j
        · rw [if_pos ⟨j, hj, hr⟩]
          exact (hF t fun m hm => by rw [only m hm]; exact R.closed i c1 j hr).symm
        · have hns := (hlk t ht j hj).resolve_left hr
          rw [if_neg (by
            rintro ⟨m, hm, hr'⟩
            rw [only m hm] at hr'
            exact hr hr')]
          refine R.t0 t fun m hm => ?_
          rw [only m hm]
          refine ⟨hns, fun q => ?_⟩
          rcases S.look i o hi t ht j hj with h1 | ⟨h1, _⟩
          · exact hr h1
          · exact h1 (S.res j q).1
      · rw [if_neg (fun ⟨j, hj, _⟩ => ho ⟨j, hj⟩)]
        exact R.t0 t fun j hj => absurd ⟨j, hj⟩ ho
    split at h
    · rename_i d hd
      have hfit : ∀ F, FinT ops seen T F → FFits F o (evT T (.tmp d)) := fun F hF d' hd' => by
        rw [hd] at hd'; injection hd' with hd'; subst hd'
        exact hF d fun j hj => by rw [S.uniq j i d hj ⟨o, hi, hd⟩]; exact c1
      have rest : (compRe P ops l k).run ca T H = s0 → (∀ F, FinT ops seen T F → FEff P ops F T0 i H H) → k.run ca T H = s0 ∧ ∀ F, FinT ops seen T F → ∀ i ∈ l, FEff P ops F T0 i H H := fun h _ =>
        RRun.re hca S R l (fun j hj => hc j (by simp [hj])) (fun F hF j hj => hg F hF j (by simp [hj])) h hn
      have join : (compRe P ops l k).run ca T H = s0 → (∀ F, FinT ops seen T F → FEff P ops F T0 i H H) → k.run ca T H = s0 ∧ ∀ F, FinT ops seen T F → ∀ j ∈ i :: l, FEff P ops F T0 j H H := fun h hf => by
        obtain ⟨g1, g2⟩ := rest h hf
        refine ⟨g1, fun F hF j hj => ?_⟩
        rcases List.mem_cons.1 hj with rfl | hj
        · exact hf F hF
        · exact g2 F hF j hj
      rcases compGd_ok h hn with ⟨hw, h⟩ | ⟨hw, h⟩
      · rcases onOpt_ok h with ⟨⟨v, H'⟩, hv, h⟩ | h
        · rcases brec_ok h with ⟨hs, h⟩ | ⟨_, h⟩
          · have e := evSame_ok _ _ _ hs
            have hv' : v = evT T (.tmp d) := e
            have hH := evOp_reads (by rw [← RC_eq hi]; exact c2) hv
            subst hH
            refine join h fun F hF => ⟨o, T, v, hi, hat F hF, OneSpec.p (.inl ⟨hw, .of hca hv⟩), ?_⟩
            rw [hv']; exact hfit F hF
          · exact absurd h.symm hn
        · exact absurd h.symm hn
      · refine join h fun F hF => ⟨o, T, evT T (.tmp d), hi, hat F hF, fun ρ w a Rp L => .inr ⟨hw _ _ _ L, ?_, rfl⟩, hfit F hF⟩
        obtain ⟨o', T', v', hi', hat', hfit', hq⟩ := hg F hF i (by simp)
        rw [hi] at hi'; injection hi' with hi'; subst hi'
        have L' : Looks ops ρ w T' a o := L.congr fun t ht => by rw [hat F hF o hi t ht, hat' o hi t ht]
        rcases hq with hq | ⟨_, hq⟩
        · have h1 := hq _ _ _ L'
          have h2 := hw _ _ _ L
          rw [h1] at h2; cases h2
        · rw [← hq, ← hfit' d hd, hfit F hF d hd]
    · exact absurd h.symm hn
end
end Go.Proofs.YtacmaphhbbadjaaGreatDoor
