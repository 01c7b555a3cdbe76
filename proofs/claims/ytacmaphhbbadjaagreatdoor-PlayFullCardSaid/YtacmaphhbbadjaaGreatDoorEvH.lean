/- The small machine's operations against the model's, 6: appends and copies. -/
import Derived.Test.YtacmaphhbbadjaaGreatDoorEvG
namespace Go.Proofs.YtacmaphhbbadjaaGreatDoor
set_option linter.all false
open Go.RowKit

section
variable {P : Program} {ρ ρ' : ERho} {w w' : World} {H H' : EH} {ev : Operand → EV} {a : Act}
/-- A part of a block gets a name of its own, and the elder name goes. -/
theorem ERep.move (R : ERep ρ w H) {b B base : Nat} {x y : EBlk} (hb : H.blk? b = some x) (hρ : ρ b = some (B, base)) (o : Nat) (hsz : o + y.size ≤ x.size) (hget : ∀ i, i < y.size → y.get i = x.get (o + i)) :
    ERep (ePutρ ρ H.next (B, base + o)) w ((H.kill b).new y) := by
  have hn : ρ H.next = none := R.next _ (Nat.le_refl _)
  have g : EGrow ρ (ePutρ ρ H.next (B, base + o)) w w := ⟨rho_put _ hn _, fun _ _ h => h⟩
  obtain ⟨B', base', e', cs, t, fr, h1, h2, h3, h4⟩ := R.blk _ _ hb
  rw [hρ] at e'; injection e' with e'; injection e' with e1 e2; subst e1; subst e2
  have rold : ∀ (c : Nat) z q, H.blk? c = some z → ePutρ ρ H.next (B, base + o) c = some q → ρ c = some q := fun c z q hz hq => by
    obtain ⟨B1, b1, e1, _⟩ := R.blk c z hz
    rw [rho_put ρ hn (B, base + o) c _ e1] at hq
    injection hq with hq; rw [← hq]; exact e1
  have old : ∀ c z, (H.kill b).blk? c = some z → H.blk? c = some z ∧ c ≠ b := fun c z h => (blk?_kill h).symm
  have R1 : ERep (ePutρ ρ H.next (B, base + o)) w ⟨Nat.succ H.next, (H.kill b).bl⟩ :=
    ⟨fun c hc => by rw [rho_other _ _ (show c ≠ H.next from fun q => by simp at hc; omega)]; exact R.next c (by simp at hc; omega),
     fun c z hc => by
      obtain ⟨hz, _⟩ := old c z hc
      obtain ⟨B', base', e', k⟩ := R.blk _ _ hz
      exact ⟨B', base', rho_put _ hn _ _ _ e', k.mono g rfl⟩,
     fun c c' z z' B1 ba B1' ba' hc hc' e e' hne => by
      obtain ⟨hz, _⟩ := old c z hc
      obtain ⟨hz', _⟩ := old c' z' hc'
      exact R.inj c c' z z' B1 ba B1' ba' hz hz' (rold c z _ hz e) (rold c' z' _ hz' e') hne,
     fun c p hp => by
      unfold ePutρ at hp
      split at hp
      · injection hp with hp; subst hp; have := R.bnd b _ hρ; exact this
      · exact R.bnd c p hp⟩
  refine R1.wake (H' := (H.kill b).new y) (rho_self _ _ _) y ⟨cs, t, fr, h1, by omega, h3, fun i hi => ?_⟩ (fun h => ?_) (fun c z h => blk?_new (H := H.kill b) h) (Nat.le_refl _)
  · obtain ⟨V, e1, r⟩ := h4 (o + i) (by omega)
    exact ⟨V, by rw [Nat.add_assoc]; exact e1, by rw [hget i hi]; exact ER.mono g _ _ r⟩
  · obtain ⟨c, z, ba, hc, e⟩ := h
    obtain ⟨hz, hcb⟩ := old c z hc
    exact R.inj c b z x B ba B base hz hb (rold c z _ hz e) hρ hcb rfl
/-- A grown row: the elder cells and the new ones, in a block of their own. -/
theorem evGrow_ok (R : ERep ρ w H) {t tx ty e : TypeId} {i : TypeInfo} {z : Value} (ht : P.underlying t = some (.slice e)) (hi : P.info? e = some i) (hz : i.zero = some z) (hzs : z.cells.size = i.size) (hpos : 0 < i.size) {base : Option Addr} {len C : Nat} {lo : List EV} {olds : List Value} (hlo : ERs ρ w lo olds) (hll : olds.length = len * i.size)
    (hold : (Builtin.firstCells i.size len (.slice base len C)).run P w.drew = .ok olds.toArray w.drew) {X : Value} {n : Nat} {ln : List EV} {news : List Value} (hln : ERs ρ w ln news) (hs : Src P i.size tx X n news w) (hg : C < len + n) (hcap : capBound (len + n) i.bytes = true)
    (y : EBlk) (hy : y.size = (len + n) * i.size) (hyg : ∀ j v, (lo ++ ln)[j]? = some v → y.get j = v) :
    ∃ V ρ' w', (Builtin.append_ #[t, tx] ty #[.slice base len C, X]).run P w = .ok V w' ∧ EStep ρ w H ρ' w' (H.new y) ∧ ESl ρ' w' H.next 0 (len + n) (len + n) i.size V := by
  simp only [capBound, Bool.and_eq_true] at hcap
  have c1 := Nat.le_of_ble_eq_true hcap.1
  have c2 := Nat.le_of_ble_eq_true hcap.2
  have hfit : Builtin.nextslicecap (len + n) C * i.bytes ≤ 281474976710656 := growslice_fits hg (by
    have : (len + n) * i.bytes ≤ 1000000 * 10000 := Nat.mul_le_mul c1 c2
    omega)
  have hrun := run_append_grow_src (P := P) w t tx ty e i z ht hi hz base len C olds hold X n news hs hg (by omega) hfit
  have hge := grownCap_ge w (len + n) C e
  have hnl := hs.newsLen
  have e3 : (len + n) * i.size = len * i.size + n * i.size := Nat.add_mul _ _ _
  have e4 : (grownCap w (len + n) C e) * i.size = (len + n) * i.size + (grownCap w (len + n) C e - (len + n)) * i.size := by rw [← Nat.add_mul]; congr 1; omega
  have hsz : ((olds ++ news).toArray ++ Builtin.zeroCells z.cells (grownCap w (len + n) C e - (len + n))).size = grownCap w (len + n) C e * i.size := by
    rw [Array.size_append, size_zeroCells, hzs, List.size_toArray, List.length_append, hll, hnl]
    omega
  have hall := hlo.append hln
  have hlen := hall.length
  have hlen2 : (olds ++ news).length = (len + n) * i.size := by rw [List.length_append, hll, hnl, e3]
  have R' := R.drew
  obtain ⟨k1, k2, k3⟩ := R'.new y ((olds ++ news).toArray ++ Builtin.zeroCells z.cells (grownCap w (len + n) C e - (len + n))) e (0, 0) (by rw [hsz, hy]; exact Nat.mul_le_mul_right _ hge) (.inl rfl) (fun j hj => by
    rw [hy] at hj
    obtain ⟨V, e5, r⟩ := hall.get j (lo ++ ln)[j] (List.getElem?_eq_getElem (by rw [hlen, hlen2]; exact hj))
    refine ⟨V, ?_, ?_⟩
    · rw [Array.getElem?_append_left (by rw [List.size_toArray, hlen2]; exact hj)]
      simpa using e5
    · rw [hyg j _ (List.getElem?_eq_getElem (by rw [hlen, hlen2]; exact hj))]
      exact ER.mono (EGrow.drew ρ w) _ _ r)
  refine ⟨_, _, _, hrun, ⟨rho_put _ (R.next _ (Nat.le_refl _)) _, k1, ((EStep.drew R).kp.trans k2 (EStep.drew R).new), fun B hB => ?_, Nat.le_succ _, fun b hb => rho_other _ _ (Nat.ne_of_lt hb)⟩, w.heap.size, 0, ⟨w.heap.size, 0, none⟩, grownCap w (len + n) C e, rho_self _ _ _, rfl, ?_, .inl ⟨rfl, .inr ⟨_, k3, ?_⟩⟩⟩
  · exact (ELive.of_new R _ _ hB).imp id fun q => Nat.le_of_eq q.symm
  · split
    · omega
    · exact hge
  · rw [hsz]; simp
theorem evAppend_ok (R : ERep ρ w H) {t tx ty : TypeId} {s x : EV} {S X : Value} (hS : ER ρ w s S) (hX : ER ρ w x X) {v : EV} (h : evAppend P t tx s x H = some (v, H')) :
    ∃ V ρ' w', (Builtin.append_ #[t, tx] ty #[S, X]).run P w = .ok V w' ∧ EStep ρ w H ρ' w' H' ∧ ER ρ' w' v V := by
  unfold evAppend sliceElem at h
  split at h
  · rename_i e0 i d n hse hd hn
    split at hse
    · rename_i e ht
      simp only [Option.map_eq_some_iff, Prod.mk.injEq] at hse
      obtain ⟨i0, hi, rfl, rfl⟩ := hse
      split at h
      · cases h
      · rename_i new hnew
        cases hc : (!(capBound 0 i0.bytes && Nat.blt 0 i0.size && new.all EV.one && zeroFits i0)) with
        | true => rw [hc] at h; cases h
        | false =>
          rw [hc] at h
          simp only [cond_false] at h
          simp only [Bool.not_eq_false', Bool.and_eq_true] at hc
          obtain ⟨⟨⟨_, hpos⟩, hone⟩, hzz⟩ := hc
          have hpos : 0 < i0.size := Nat.le_of_ble_eq_true hpos
          obtain ⟨z, hz, hzs⟩ : ∃ z, i0.zero = some z ∧ z.cells.size = i0.size := by
            unfold zeroFits at hzz
            cases e1 : i0.zero with
            | none => rw [e1] at hzz; cases hzz
            | some z => rw [e1] at hzz; exact ⟨z, rfl, Nat.eq_of_beq_eq_true hzz⟩
          obtain ⟨L, hL, hs⟩ := evSrc (P := P) R hd hX hn hnew hone
          have hnl := hs.newsLen
          have hLl := hL.length
          split at h
          · have : S = _ := hS
            subst this
            cases hn0 : Nat.beq n 0 with
            | true =>
              rw [hn0] at h
              simp only [cond_true, Option.some.injEq, Prod.mk.injEq] at h
              obtain ⟨rfl, rfl⟩ := h
              have := Nat.eq_of_beq_eq_true hn0
              subst this
              have : L = [] := by simpa using hnl
              subst this
              exact ⟨_, _, _, run_append_nothing w t tx ty e i0 ht hi none 0 0 (Nat.le_refl _) X hs, .refl R, rfl⟩
            | false =>
              rw [hn0] at h
              simp only [cond_false] at h
              have hn0 : n ≠ 0 := fun q => by subst q; simp at hn0
              cases hcb : capBound n i0.bytes with
              | false => rw [hcb] at h; cases h
              | true =>
                rw [hcb] at h
                simp only [cond_true, Option.some.injEq, Prod.mk.injEq] at h
                obtain ⟨rfl, rfl⟩ := h
                obtain ⟨V, ρ', w', r1, r2, r3⟩ := evGrow_ok R (ty := ty) ht hi hz hzs hpos (base := none) (len := 0) (C := 0) (lo := []) (olds := []) trivial (by simp) rfl hL hs (by omega) (by simpa using hcb) ((EBlk.of new).sz (n * i0.size)) (by show n * i0.size = _; simp) (fun j v hv => by
                  have hj : j < new.length := (List.getElem?_eq_some_iff.1 (by simpa using hv)).1
                  simp only [List.nil_append] at hv
                  rw [List.getElem?_eq_getElem hj] at hv; injection hv with hv; subst hv
                  rw [EBlk.sz_get, EBlk.of_get _ _ hj])
                simp only [Nat.zero_add] at r1 r3
                exact ⟨V, ρ', w', r1, r2, r3⟩
          · rename_i b o len c k
            cases hc1 : (Nat.ble len c && (Nat.beq k 0 || Nat.beq k i0.size)) with
            | false => rw [hc1] at h; cases h
            | true =>
              rw [hc1] at h
              simp only [cond_true] at h
              simp only [Bool.and_eq_true, Bool.or_eq_true] at hc1
              have hlc := Nat.le_of_ble_eq_true hc1.1
              have hk : k = 0 ∨ k = i0.size := hc1.2.imp Nat.eq_of_beq_eq_true Nat.eq_of_beq_eq_true
              have hS' := hS
              obtain ⟨B, base, A, C, hρ, rfl, hC, h4⟩ := hS
              have hcC : c ≤ C := by split at hC <;> omega
              cases hn0 : Nat.beq n 0 with
              | true =>
                rw [hn0] at h
                simp only [cond_true, Option.some.injEq, Prod.mk.injEq] at h
                obtain ⟨rfl, rfl⟩ := h
                have := Nat.eq_of_beq_eq_true hn0
                subst this
                have : L = [] := by simpa using hnl
                subst this
                exact ⟨_, _, _, run_append_nothing w t tx ty e i0 ht hi (some A) len C (by omega) X hs, .refl R, hS'⟩
              | false =>
                rw [hn0] at h
                simp only [cond_false] at h
                have hn0 : n ≠ 0 := fun q => by subst q; simp at hn0
                split at h
                · cases h
                · rename_i y hb
                  obtain ⟨B', base', e', ⟨N, hN, hfit⟩, h3, hfz⟩ := R.cells hb
                  rw [hρ] at e'; injection e' with e'; injection e' with e1 e2; subst e1; subst e2
                  have e3 : (len + n) * i0.size = len * i0.size + n * i0.size := Nat.add_mul _ _ _
                  cases hc2 : Nat.ble (o + len * i0.size) y.size with
                  | false => rw [hc2] at h; cases h
                  | true =>
                    rw [hc2] at h
                    simp only [cond_true] at h
                    have hin := Nat.le_of_ble_eq_true hc2
                    have exists_ : ∀ q, base + (o + len * i0.size) + q ≤ N → ∀ j, j < q → (w.cell? ⟨B, base + o + len * i0.size + j, none⟩).isSome = true := fun q hq j hj => by
                      unfold eSize at hN
                      simp only [World.cell?]
                      cases hh : w.heap[B]? with
                      | none => rw [hh] at hN; cases hN
                      | some ob =>
                        rw [hh] at hN
                        cases ob <;> simp at hN ⊢
                        omega
                    -- what is put in place
                    have inPlace : (len + n) ≤ C → A = ⟨B, base + o, none⟩ → base + (o + len * i0.size + n * i0.size) ≤ N → ∃ V w', (Builtin.append_ #[t, tx] ty #[.slice (some A) len C, X]).run P w = .ok V w' ∧ V = .slice (some ⟨B, base + o, none⟩) (len + n) C ∧
                        ERep ρ w' (H.upd b ((y.putN (o + len * i0.size) new).sz (max y.size (o + len * i0.size + new.length)))) ∧ EKp (ELive ρ H) w w' := by
                      intro hroom hA hf
                      subst hA
                      have hex := exists_ L.length (by omega)
                      have hr := run_append_room_src (P := P) w t tx ty e i0 ht hi B (base + o) len C X n L hs hroom hex (fun j hj => hfz _ (hex j hj))
                      obtain ⟨p1, p2⟩ := R.put hb hρ hL (o + len * i0.size) hin N hN (by omega)
                      rw [show base + o + len * i0.size = base + (o + len * i0.size) by omega] at hr
                      exact ⟨_, _, hr, rfl, p1, p2⟩
                    have liveU : ∀ B', ELive ρ (H.upd b ((y.putN (o + len * i0.size) new).sz (max y.size (o + len * i0.size + new.length)))) B' → ELive ρ H B' ∨ w.heap.size ≤ B' := fun B' hB' => .inl (ELive.upd hb hB')
                    cases hc3 : Nat.ble (len + n) c with
                    | true =>
                      rw [hc3] at h
                      simp only [cond_true] at h
                      have hroom := Nat.le_of_ble_eq_true hc3
                      cases hc4 : (Nat.ble (o + (len + n) * i0.size) y.size || !(Nat.beq k 0)) with
                      | false => rw [hc4] at h; cases h
                      | true =>
                        rw [hc4] at h
                        simp only [cond_true, Option.some.injEq, Prod.mk.injEq] at h
                        obtain ⟨rfl, rfl⟩ := h
                        rcases h4 with ⟨hA, h5⟩ | ⟨h5, h6⟩
                        · have hf : base + (o + len * i0.size + n * i0.size) ≤ N := by
                            simp only [Bool.or_eq_true, Bool.not_eq_true'] at hc4
                            rcases hc4 with q | q
                            · have := Nat.le_of_ble_eq_true q; omega
                            · have hk0 : k ≠ 0 := fun q' => by subst q'; simp at q
                              rcases h5 with h5 | ⟨N', hN', hf'⟩
                              · exact absurd h5 hk0
                              · rw [hN] at hN'; injection hN' with hN'; subst hN'
                                have hk' : k = i0.size := hk.resolve_left hk0
                                subst hk'
                                have : (len + n) * i0.size ≤ C * i0.size := Nat.mul_le_mul_right _ (by omega)
                                omega
                          obtain ⟨V, w', r1, rfl, r2, r3⟩ := inPlace (by omega) hA hf
                          subst hA
                          refine ⟨_, ρ, w', r1, ⟨fun _ _ h => h, r2, r3, liveU, Nat.le_refl _, fun _ _ => rfl⟩, B, base, ⟨B, base + o, none⟩, C, hρ, rfl, hC, .inl ⟨rfl, ?_⟩⟩
                          exact h5.imp id fun ⟨N', hN', hf'⟩ => ⟨N', r3.size _ _ hN', hf'⟩
                        · split at hC <;> omega
                    | false =>
                      rw [hc3] at h
                      simp only [cond_false] at h
                      have hover : c < len + n := by
                        rcases Nat.lt_or_ge c (len + n) with q | q
                        · exact q
                        · rw [Nat.ble_eq_true_of_le q] at hc3; cases hc3
                      cases hcb : capBound (len + n) i0.bytes with
                      | false => rw [hcb] at h; cases h
                      | true =>
                        rw [hcb] at h
                        simp only [cond_true, Option.some.injEq, Prod.mk.injEq] at h
                        obtain ⟨rfl, rfl⟩ := h
                        obtain ⟨LO, lo1, lo2, lo3⟩ := R.getN hb hρ o (len * i0.size) (by omega)
                        -- the new block's cells
                        have hyg : ∀ j v, (y.getN o (len * i0.size) ++ new)[j]? = some v → (((evOld y o (len * i0.size)).putN (len * i0.size) new).sz ((len + n) * i0.size)).get j = v := by
                          intro j v hv
                          obtain ⟨_, f2, f3⟩ := EBlk.putN_facts new (evOld y o (len * i0.size)) (len * i0.size)
                          rw [EBlk.sz_get]
                          rw [List.getElem?_append, EBlk.getN_length] at hv
                          split at hv
                          · rename_i hj
                            rw [f2 j (.inl hj)]
                            rw [EBlk.getN_get _ _ _ _ hj] at hv
                            injection hv with hv; subst hv
                            unfold evOld
                            cases ho : Nat.beq o 0 with
                            | true => have := Nat.eq_of_beq_eq_true ho; subst this; rw [Nat.zero_add]; exact EBlk.sz_get _ _ _
                            | false =>
                              have hl : j < (y.getN o (len * i0.size)).length := by rw [EBlk.getN_length]; exact hj
                              have e5 := EBlk.getN_get y (len * i0.size) o j hj
                              simp only [cond_false]
                              rw [EBlk.sz_get, EBlk.of_get _ _ hl]
                              rw [List.getElem?_eq_getElem hl] at e5; injection e5
                          · rename_i hj
                            have := f3 (j - len * i0.size) v hv
                            rwa [show len * i0.size + (j - len * i0.size) = j by omega] at this
                        by_cases hroom : len + n ≤ C
                        · have hk0 : k ≠ 0 := fun q => by subst q; simp at hC; omega
                          have hkb : Nat.beq k 0 = false := by cases q : Nat.beq k 0 with | false => rfl | true => exact absurd (Nat.eq_of_beq_eq_true q) hk0
                          have hk' : k = i0.size := hk.resolve_left hk0
                          subst hk'
                          rw [hkb]
                          simp only [cond_false]
                          rcases h4 with ⟨hA, h5⟩ | ⟨h5, h6⟩
                          · rcases h5 with h5 | ⟨N', hN', hf'⟩
                            · exact absurd h5 hk0
                            · rw [hN] at hN'; injection hN' with hN'; subst hN'
                              have : (len + n) * i0.size ≤ C * i0.size := Nat.mul_le_mul_right _ hroom
                              obtain ⟨V, w', r1, rfl, r2, r3⟩ := inPlace hroom hA (by omega)
                              have hx1 : (H.upd b ((y.putN (o + len * i0.size) new).sz (max y.size (o + len * i0.size + new.length)))).blk? b = some ((y.putN (o + len * i0.size) new).sz (max y.size (o + len * i0.size + new.length))) := blk?_same (blk?_lt hb)
                              have M := r2.move hx1 hρ o (y := (((evOld y o (len * i0.size)).putN (len * i0.size) new).sz ((len + n) * i0.size))) (by simp only [EBlk.sz]; omega) (fun j hj => by
                                simp only [EBlk.sz] at hj
                                have hjl : j < (y.getN o (len * i0.size) ++ new).length := by rw [List.length_append, EBlk.getN_length]; omega
                                rw [hyg j _ (List.getElem?_eq_getElem hjl)]
                                obtain ⟨_, f2, f3⟩ := EBlk.putN_facts new y (o + len * i0.size)
                                rw [EBlk.sz_get]
                                by_cases hj2 : j < len * i0.size
                                · rw [f2 (o + j) (.inl (by omega))]
                                  have e5 := EBlk.getN_get y (len * i0.size) o j hj2
                                  have e6 : (y.getN o (len * i0.size) ++ new)[j]? = some (y.get (o + j)) := by rw [List.getElem?_append_left (by rw [EBlk.getN_length]; exact hj2)]; exact e5
                                  rw [List.getElem?_eq_getElem hjl] at e6; injection e6
                                · have hj3 : j - len * i0.size < new.length := by omega
                                  have e6 : (y.getN o (len * i0.size) ++ new)[j]? = some new[j - len * i0.size] := by rw [List.getElem?_append_right (by rw [EBlk.getN_length]; omega), EBlk.getN_length]; exact List.getElem?_eq_getElem hj3
                                  rw [List.getElem?_eq_getElem hjl] at e6; injection e6 with e6
                                  rw [e6, ← f3 (j - len * i0.size) _ (List.getElem?_eq_getElem hj3)]
                                  congr 1; omega)
                              have M2 := M.congr (H' := (H.kill b).new (((evOld y o (len * i0.size)).putN (len * i0.size) new).sz ((len + n) * i0.size))) (Nat.le_refl _) (fun c z hc => by
                                rcases blk?_new hc with ⟨rfl, rfl⟩ | ⟨hcn, hc'⟩
                                · exact blk?_same (blk?_lt hc)
                                · obtain ⟨hcb, hc'⟩ := blk?_kill hc'
                                  have e1 : ((H.upd b ((y.putN (o + len * i0.size) new).sz (max y.size (o + len * i0.size + new.length)))).kill b).blk? c = some z := (blk?_other hcb).trans ((blk?_other hcb).trans hc')
                                  exact (blk?_other (H := (H.upd b ((y.putN (o + len * i0.size) new).sz (max y.size (o + len * i0.size + new.length)))).kill b) hcn).trans e1)
                              refine ⟨_, ePutρ ρ H.next (B, base + o), w', r1, ⟨rho_put _ (R.next _ (Nat.le_refl _)) _, M2, r3, fun B' hB' => ?_, Nat.le_succ _, fun b hb => rho_other _ _ (Nat.ne_of_lt hb)⟩, B, base + o, ⟨B, base + o, none⟩, C, rho_self _ _ _, rfl, ?_, .inl ⟨rfl, .inr ⟨N, r3.size _ _ hN, by omega⟩⟩⟩
                              · left
                                rcases ELive.of_new (H := H.kill b) (R.kill b) _ _ hB' with q | q
                                · exact q.kill
                                · exact q ▸ ⟨b, y, base, hb, hρ⟩
                              · rw [if_neg hk0]; exact hroom
                          · omega
                        · have hold : (Builtin.firstCells i0.size len (.slice (some A) len C)).run P w.drew = .ok LO.toArray w.drew := by
                            rcases h4 with ⟨hA, _⟩ | ⟨h5, _⟩
                            · subst hA; exact run_firstCells_some w.drew i0.size len _ _ _ LO lo1 lo3
                            · subst h5
                              have : LO = [] := by simpa using lo1
                              subst this
                              exact run_firstCells_some w.drew i0.size 0 _ _ _ [] (by simp) (by simp)
                          cases hkb : Nat.beq k 0 with
                          | true =>
                            exact evGrow_ok R (ty := ty) ht hi hz hzs hpos lo2 lo1 hold hL hs (by omega) hcb _ rfl hyg
                          | false =>
                            obtain ⟨V, ρ', w', q1, q2, q3⟩ := evGrow_ok (R.kill b) (ty := ty) ht hi hz hzs hpos lo2 lo1 hold hL hs (by omega) hcb _ rfl hyg
                            exact ⟨V, ρ', w', q1, ⟨q2.ext, q2.rep, q2.kp.mono fun _ q => q.kill, fun B' q => (q2.new B' q).imp ELive.kill id, q2.next, q2.old⟩, q3⟩
          · cases h
    · cases hse
  · cases h
end
end Go.Proofs.YtacmaphhbbadjaaGreatDoor
