/- package prefix by its contracts, the third part: next. -/
import Derived.Test.YtpkplhmdnjdmoaaGreatDoorMg15
import Derived.Test.YtpkplhmdnjdmoaaGreatDoorMg02
import Derived.Deep.RegionHeld3
set_option linter.unusedVariables false
set_option linter.unusedSimpArgs false
namespace Go.Proofs.YtpkplhmdnjdmoaaGreatDoor
set_option linter.unusedSimpArgs false
set_option linter.unusedVariables false
open Go.RowKit

theorem packs_snoc2 (a b : El) : ∀ l : List El, l.length % 2 = 0 → packs (l ++ [a, b]) = packs l ++ [.pack a b]
  | [], _ => rfl
  | [_], h => by simp at h
  | x :: y :: l, h => by
    have := packs_snoc2 a b l (by simp at h; omega)
    simp only [List.cons_append, packs, this]
theorem packs_take_succ (l : List El) (q : Nat) (h : 2 * q + 1 < l.length) : packs (l.take (2 * q + 2)) = packs (l.take (2 * q)) ++ [.pack l[2 * q] l[2 * q + 1]] := by
  have e1 : l.take (2 * q + 2) = l.take (2 * q) ++ [l[2 * q], l[2 * q + 1]] := by
    rw [take_snoc' l h, take_snoc' l (by omega), List.append_assoc]
    rfl
  rw [e1, packs_snoc2 _ _ _ (by rw [List.length_take]; omega)]
theorem packs_take_all (l : List El) {q : Nat} (h1 : 2 * q ≤ l.length) (h2 : l.length ≤ 2 * q + 1) : packs (l.take (2 * q)) = packs l := by
  by_cases h : l.length = 2 * q
  · rw [← h, List.take_length]
  · have hl : l.length = 2 * q + 1 := by omega
    have e : l = l.take (2 * q) ++ [l[2 * q]'(by omega)] := by
      rw [← take_snoc' l (by omega), List.take_of_length_le (by omega)]
    have key : ∀ (m : List El) (a : El), m.length % 2 = 0 → packs (m ++ [a]) = packs m := by
      intro m a
      induction m using packs.induct with
      | case1 x y m im =>
        intro hm
        simp only [List.cons_append, packs]
        rw [im (by simp at hm; omega)]
      | case2 m hm0 =>
        intro hm
        cases m with
        | nil => rfl
        | cons x m =>
          cases m with
          | nil => simp at hm
          | cons y m => exact absurd rfl (hm0 x y m)
    conv => rhs; rw [e]
    rw [key _ _ (by rw [List.length_take]; omega)]
theorem ptr_elem : Elem Tryz.prog 166 167 (.pointer none) 1 8 := .mk' Tryz.underlying166 (by kernel_rfl)
theorem encE_one (l : List PE) : ∀ u ∈ l.map encE, u.oneCell' = true := by
  intro u hu
  obtain ⟨p, _, rfl⟩ := List.mem_map.1 hu
  rfl
set_option maxRecDepth 100000 in
set_option maxHeartbeats 4000000 in
theorem next_ok (P : Nat → Prop) (w : World) (hP : ∀ x, w.heap.size ≤ x → P x) (AC AR : Option Addr) (cC cR : Nat) (C R : List PE) (h2 : 2 ≤ C.length) (hCl : C.length ≤ 1024) (hRl : R.length ≤ 4096) (hcC : Cells encE w AC C) (hcR : Cells encE w AR R) (hEC : Els P w C) (hER : Els P w R) (hwt : ∀ p ∈ R, p.2.wt ≤ 1125899906842624) :
    Calls Tryz.prog 146 #[.slice AC C.length cC, .slice AR R.length cR] w fun e w' => ∃ v g E', e = .returned v ∧ Row w' 167 v g (E'.map encE) ∧ E'.map (·.2) = sortT (C.map (·.2) ++ packs (R.map (·.2))) ∧ Els P w' E' ∧ Chg [] w w' ∧ w.heap.size ≤ g := by
  obtain ⟨n, hn⟩ : ∃ n, n = R.length := ⟨_, rfl⟩
  obtain ⟨c, hc⟩ : ∃ c, c = C.length := ⟨_, rfl⟩
  rw [← hn] at hRl ⊢
  rw [← hc] at h2 hCl ⊢
  have HN := hid hn
  have HC := hid hc
  have HWT := hid hwt
  have HEC := hid hEC
  have HPP := hid hP
  have HER := hid hER
  clear hn hc hwt hEC hER hP
  have hsrc : Cells (fun u => u) w AC (C.map encE) := ⟨fun h0 => by
    obtain ⟨b, o, e1, e2, e3⟩ := hcC.ex (by simpa using h0)
    exact ⟨b, o, e1, e2, fun i a ha => by
      rw [List.getElem?_map] at ha
      cases hC : C[i]? with
      | none => rw [hC] at ha; cases ha
      | some p => rw [hC] at ha; injection ha with ha; rw [← ha]; exact e3 i p hC⟩⟩
  go_enter Tryz.func146, Tryz.ntmps146
  go_wp2_with (at_builtin; refine wpList_append_s rfl rfl ptr_elem rfl rfl (Own.nil w 167) (C.map encE) c rfl ?c1 ?c2 ?c3 ?c4 ?c5 ?_)
  case c1 => rw [List.length_map]; exact HC.out
  case c2 => exact hsrc
  case c3 => exact encE_one _
  case c4 => rw [List.length_map, ← HC.out]; simp; omega
  case c5 => rw [List.length_map, ← HC.out]; simp; omega
  intro v1 F1 w1 h1 h3
  have hcase := h1.cases
  rcases hcase with ⟨_, hnil, _⟩ | ⟨g1, row1, rfl⟩
  · exfalso
    have := congrArg List.length hnil
    rw [List.length_map, ← HC.out] at this
    simp at this
    omega
  have hg1 : w.heap.size ≤ g1 := by
    rcases h3.new g1 (by simp) with h | h
    · simp at h
    · exact h
  have ch1 : Chg [] w w1 := h3.chg
  clear h1 h3 hsrc hcC
  have hcl : (C.map (·.2)).length = c := by rw [List.length_map, HC.out]
  obtain ⟨T, hT⟩ : ∃ T, T = R.map (·.2) := ⟨_, rfl⟩
  have hTl : T.length = n := by rw [hT, List.length_map, HN.out]
  have HT := hid hT
  have HTL := hid hTl
  clear hT hTl hcl
  go_wp2
  go_loopg [5, 6] n (fun k vo vi' wr => ∃ (q : Nat) (Q : List PE) (g0 : Nat), vi' = .int .i64 ((2 * q : Nat) : Int) ∧ 2 * q ≤ n ∧ n ≤ 2 * q + k ∧ Row wr 167 vo g0 ((C ++ Q).map encE) ∧ Hid (Q.map (·.2) = packs (T.take (2 * q))) ∧ Q.length = q ∧ Els (fun x => x ≠ g0 ∧ P x) wr Q ∧ w.heap.size ≤ g0 ∧ Chg [] w wr)
  case atStart => exact ⟨0, [], g1, rfl, by omega, by omega, by rw [List.append_nil]; exact row1, hid (by simp [packs]), rfl, by intro p hp; simp at hp, hg1, ch1⟩
  case round =>
    clear row1 ch1 hg1
    obtain ⟨q, Q, g0, rfl, hq1, hq2, hrow, HQ, hQl, hEQ, hg0, hch⟩ := hrel
    obtain ⟨cap0, rfl, hcap0, hcapm0, _, _⟩ := hrow.open_map
    have hCQ : (C ++ Q).length = c + q := by rw [List.length_append, ← HC.out, hQl]
    rw [hCQ] at hcap0 ⊢
    by_cases hend : n ≤ 2 * q + 1
    · have t1 : decide (((2 * q : Nat) : Int) + 1 < (n : Int)) = false := decide_eq_false (by omega)
      have hor := order_ok wr _ g0 (C ++ Q) (by omega) (by omega) hrow (by
        intro p hp
        rcases List.mem_append.1 hp with h5 | h5
        · exact ((HEC.out p h5).imp (Q := fun x => x ≠ g0) fun x hx _ => by omega).same hch
        · exact (hEQ p h5).imp fun x _ h => h.1)
      rw [hCQ] at hor
      have hE2 : Hid (Els (fun x => x ≠ g0 ∧ P x) wr (C ++ Q)) := hid (by
        intro p hp
        rcases List.mem_append.1 hp with h5 | h5
        · exact ((HEC.out p h5).imp (Q := fun x => x ≠ g0 ∧ P x) fun x hx h => ⟨by omega, h⟩).same hch
        · exact hEQ p h5)
      clear hEQ
      go_wp2_with fail
      refine hor.mono ?_
      rintro e w2 ⟨rfl, k3, k4⟩
      have k1 := sortE_perm (fun p : PE => p.2) (C ++ Q) ((C ++ Q).headD default)
      have k0 := sortE_map (fun p : PE => p.2) (C ++ Q) ((C ++ Q).headD default)
      obtain ⟨E', hE'⟩ : ∃ E', E' = sortE (fun p : PE => p.2) (C ++ Q) ((C ++ Q).headD default) := ⟨_, rfl⟩
      rw [← hE'] at k0 k1 k3
      have K0 := hid k0
      have K1 := hid k1
      clear k0 k1 hE'
      go_wp2
      go_ret
      refine ⟨_, g0, E', rfl, k3, ?_, ?_, hch.trans k4 (fun x hx => by rw [List.mem_singleton.1 hx]; exact .inr hg0), hg0⟩
      · have e1 := K0.out
        rw [List.map_append, HQ.out, packs_take_all T (by rw [HTL.out]; exact hq1) (by rw [HTL.out]; exact hend), HT.out] at e1
        exact e1
      · intro p hp
        have h5 := hE2.out p (K1.out.mem_iff.1 hp)
        exact (h5.chg k4 (fun x hx => by rw [List.mem_singleton.1 hx]; simp)).imp fun _ _ h => h.2
    · rcases gk with _ | gk
      · omega
      · have t1 : decide (((2 * q : Nat) : Int) + 1 < (n : Int)) = true := decide_eq_true (by omega)
        have hRq : 2 * q + 1 < R.length := by rw [← HN.out]; omega
        have hcR' := hcR.same hch
        obtain ⟨gr, orr, rfl, hgr, hcc⟩ := hcR'.ex (by omega)
        have p1 := hcc (2 * q) _ (List.getElem?_eq_getElem (by omega))
        have p2 := hcc (2 * q + 1) _ (List.getElem?_eq_getElem hRq)
        have m1 : R[2 * q] ∈ R := List.getElem_mem _
        have m2 : R[2 * q + 1] ∈ R := List.getElem_mem _
        have hpk : packs (T.take (2 * (q + 1))) = packs (T.take (2 * q)) ++ [.pack R[2 * q].2 R[2 * q + 1].2] := by
          have := packs_take_succ T q (by rw [HTL.out]; omega)
          rw [show 2 * (q + 1) = 2 * q + 2 by omega, this]
          congr 3 <;> simp [HT.out]
        have w1' := HWT.out _ m1
        have w2' := HWT.out _ m2
        have el1 := HER.out _ m1
        have el2 := HER.out _ m2
        generalize R[2 * q] = x1 at *
        generalize R[2 * q + 1] = x2 at *
        obtain ⟨b1, t1'⟩ := x1
        obtain ⟨b2, t2'⟩ := x2
        simp only at w1' w2' el1 el2 hpk
        have c1 := (el1.same hch).head.2.2
        have c2 := (el2.same hch).head.2.2
        have p1' : wr.cell? ⟨gr, orr + 2 * q, none⟩ = some (.pointer (some ⟨b1, 0, none⟩)) := p1
        have p2' : wr.cell? ⟨gr, orr + (2 * q + 1), none⟩ = some (.pointer (some ⟨b2, 0, none⟩)) := p2
        obtain ⟨i, hi⟩ : ∃ i, i = 2 * q := ⟨_, rfl⟩
        rw [← hi] at p1' p2' t1 hq1 hq2 hend hRq hpk ⊢
        have HPK := hid hpk
        have HI := hid hi
        have EL1 := hid el1
        have EL2 := hid el2
        have HEQ := hid hEQ
        have HCH := hid hch
        have hb0 : (0 : Int) ≤ (i : Int) := by omega
        have hb1 : (i : Int) < (n : Int) := by omega
        obtain ⟨i1, hi1⟩ : ∃ i1, i1 = i + 1 := ⟨_, rfl⟩
        have hb2 : (i1 : Int) < (n : Int) := by omega
        have hb3 : (0 : Int) ≤ (i1 : Int) := by omega
        have hb4 : (i : Int) + 1 = (i1 : Int) := by omega
        have hb6 : IntKind.i64.wrap (i1 : Int) = (i1 : Int) := IntWalk.i64_in _ (by omega)
        have hb5 : IntKind.i64.wrap ((i : Int) + 1) = (i1 : Int) := by rw [hb4]; exact hb6
        rw [← hi1] at p2'
        clear hi1
        have hw63 : IntKind.i64.wrap (((t1'.wt : Nat) : Int) + ((t2'.wt : Nat) : Int)) = ((t1'.wt + t2'.wt : Nat) : Int) := by
          have e : ((t1'.wt : Nat) : Int) + ((t2'.wt : Nat) : Int) = ((t1'.wt + t2'.wt : Nat) : Int) := by simp
          rw [e]
          exact IntWalk.i64_in _ (by omega)
        have hS : ∀ w', Chg [g0] wr w' → w'.cell? ⟨gr, orr + i, none⟩ = some (.pointer (some ⟨b1, 0, none⟩)) ∧ w'.cell? ⟨gr, orr + i1, none⟩ = some (.pointer (some ⟨b2, 0, none⟩)) ∧ w'.cell? ⟨b1, 0, none⟩ = some (.int .i64 (t1'.wt : Int)) ∧ w'.cell? ⟨b2, 0, none⟩ = some (.int .i64 (t2'.wt : Int)) := by
          intro w' hc'
          obtain ⟨gr', or', e', hgr', _⟩ := hcR.ex (by omega)
          injection e' with e'
          injection e' with e1 e2 _
          subst e1
          have q1 := el1.head.2.1
          have q2 := el2.head.2.1
          exact ⟨(World.cell?_of_block (w := wr) (hc'.block gr hgr (by simp; omega))).trans p1', (World.cell?_of_block (w := wr) (hc'.block gr hgr (by simp; omega))).trans p2',
            (World.cell?_of_block (w := wr) (hc'.block b1 (Nat.lt_of_lt_of_le q1 hch.size) (by simp; omega))).trans c1, (World.cell?_of_block (w := wr) (hc'.block b2 (Nat.lt_of_lt_of_le q2 hch.size) (by simp; omega))).trans c2⟩
        obtain ⟨k1, hk1⟩ : ∃ k1, k1 = t1'.wt := ⟨_, rfl⟩
        obtain ⟨k2, hk2⟩ : ∃ k2, k2 = t2'.wt := ⟨_, rfl⟩
        rw [← hk1] at c1 w1' hw63 hS
        rw [← hk2] at c2 w2' hw63 hS
        have HK1 := hid hk1
        have HK2 := hid hk2
        have HQL := hid hQl
        have HS := hid hS
        have hown := hrow.toOwn
        have hg0l := hrow.lt
        have hll : ((C ++ Q).map encE).length ≤ 8192 := by rw [List.length_map, hCQ]; omega
        clear hcc p1 p2 m1 m2 hpk el1 el2 hEQ hcR' hi hQl hS hk1 hk2
        have HQ1 : Hid (i + 1 < n) := hid (by omega)
        clear hq1 hend hRq
        obtain ⟨wx, hwx⟩ : ∃ wx, wx = (((wr.alloc (.cells #[.pointer (some ⟨b1, 0, none⟩), .pointer (some ⟨b2, 0, none⟩)] 167)).alloc (.cells #[.int .i64 ((k1 : Int) + (k2 : Int)), .int .i64 0, .slice (some ⟨wr.heap.size, 0, none⟩) 2 2] 169)).alloc (.cells #[.pointer (some ⟨wr.heap.size + 1, 0, none⟩)] 167)).drew := ⟨_, rfl⟩
        have hchx : Chg [] wr wx := by rw [hwx]; exact (((((Chg.refl [] wr).alloc _).alloc _).alloc _).drew)
        have howx := hown.same hchx
        rw [hCQ] at howx
        have hux : wx.cell? ⟨wr.heap.size + 2, 0, none⟩ = some (.pointer (some ⟨wr.heap.size + 1, 0, none⟩)) := by
          rw [hwx]
          have := (Blk.new ((wr.alloc (.cells #[.pointer (some ⟨b1, 0, none⟩), .pointer (some ⟨b2, 0, none⟩)] 167)).alloc (.cells #[.int .i64 ((k1 : Int) + (k2 : Int)), .int .i64 0, .slice (some ⟨wr.heap.size, 0, none⟩) 2 2] 169)) 167 #[.pointer (some ⟨wr.heap.size + 1, 0, none⟩)]).cell 0
          simpa using this
        have HX := hid hwx
        have HCX : Hid (Chg [g0] wr wx) := hid (hchx.mono (by simp))
        go_wp2
        go_region_held3 (fun w' => w'.cell? ⟨gr, orr + i, none⟩ = some (.pointer (some ⟨b1, 0, none⟩)) ∧ w'.cell? ⟨gr, orr + i1, none⟩ = some (.pointer (some ⟨b2, 0, none⟩)) ∧ w'.cell? ⟨b1, 0, none⟩ = some (.int .i64 (k1 : Int)) ∧ w'.cell? ⟨b2, 0, none⟩ = some (.int .i64 (k2 : Int))) (first | (go_keep; done) | exact HS.out _ ((Chg.refl [g0] wr).alloc _) | exact HS.out _ (((Chg.refl [g0] wr).alloc _).alloc _) | exact HS.out _ ((((Chg.refl [g0] wr).alloc _).alloc _).alloc _) | exact HS.out _ (((((Chg.refl [g0] wr).alloc _).alloc _).alloc _).drew) | exact HS.out _ (HCX.out.trans_same (Grow.chg (by assumption))))
          (first | (rw [← HX.out]; refine step_append_o1 (by rfl) (by rfl) ptr_elem (by rfl) (by rfl) howx (.pointer (some ⟨wr.heap.size + 1, 0, none⟩)) (by rfl) hux (by rfl) (by omega) (by omega) ?_; intro g2 cap2 w5 hr2 gr2))
        go_wp2_with fail
        go_roundg gk
        case measure => omega
        case rel =>
          have hwxs : wx.heap.size = wr.heap.size + 3 := by rw [HX.out]; simp
          have hg2 : g2 = g0 ∨ wr.heap.size + 3 ≤ g2 := by
            rcases gr2.new g2 (by simp) with h5 | h5
            · exact .inl (by simpa using h5)
            · exact .inr (by omega)
          have hB1 : Blk wx wr.heap.size 167 #[.pointer (some ⟨b1, 0, none⟩), .pointer (some ⟨b2, 0, none⟩)] := by
            rw [HX.out]
            exact (((Blk.new wr _ _).alloc _).alloc _).drew
          have hB2 : Blk wx (wr.heap.size + 1) 169 #[.int .i64 ((k1 : Int) + (k2 : Int)), .int .i64 0, .slice (some ⟨wr.heap.size, 0, none⟩) 2 2] := by
            rw [HX.out]
            have := Blk.new (wr.alloc (.cells #[.pointer (some ⟨b1, 0, none⟩), .pointer (some ⟨b2, 0, none⟩)] 167)) 169 #[.int .i64 ((k1 : Int) + (k2 : Int)), .int .i64 0, .slice (some ⟨wr.heap.size, 0, none⟩) 2 2]
            have e : (wr.alloc (.cells #[.pointer (some ⟨b1, 0, none⟩), .pointer (some ⟨b2, 0, none⟩)] 167)).heap.size = wr.heap.size + 1 := by simp
            rw [e] at this
            exact (this.alloc _).drew
          have hB1' := hB1.chg gr2.chg (by simp; omega)
          have hB2' := hB2.chg gr2.chg (by simp; omega)
          have hch5 : Chg [] w w5 := (HCH.out.trans_same hchx).trans gr2.chg (fun x hx => by rw [List.mem_singleton.1 hx]; exact .inr hg0)
          have hsz := HCH.out.size
          have hold : ∀ (e : El) (bb : Nat), IsEl P w e bb → IsEl (fun x => x ≠ g2 ∧ P x) w5 e bb := fun e bb h => (h.imp (Q := fun x => x ≠ g2 ∧ P x) fun x hx h9 => ⟨by rcases hg2 with rfl | h6 <;> omega, h9⟩).same hch5
          refine ⟨q + 1, Q ++ [(wr.heap.size + 1, .pack t1' t2')], g2, ?_, ?_, ?_, ?_, hid ?_, ?_, ?_, ?_, hch5⟩
          · have e : ((2 * (q + 1) : Nat) : Int) = (i : Int) + 2 := by have := HI.out; omega
            rw [e]
          · have := HI.out; have := HQ1.out; omega
          · have := HI.out; omega
          · have e : (C ++ (Q ++ [(wr.heap.size + 1, El.pack t1' t2')])).map encE = (C ++ Q).map encE ++ [.pointer (some ⟨wr.heap.size + 1, 0, none⟩)] := by
              rw [← List.append_assoc, List.map_append]; rfl
            rw [e]
            have e2 : ((C ++ Q).map encE).length + 1 = C.length + Q.length + 1 := by simp
            rw [← e2]
            exact hr2
          · rw [List.map_append, HQ.out, HPK.out, HI.out]; rfl
          · rw [List.length_append, HQL.out]; rfl
          · intro p hp
            rcases List.mem_append.1 hp with h5 | h5
            · have h6 := ((HEQ.out p h5).same hchx).imp (Q := fun x => x ≠ g0 ∧ x ≠ g2 ∧ P x) fun x hx h7 => ⟨h7.1, by rcases hg2 with rfl | h8; exact h7.1; omega, h7.2⟩
              exact (h6.chg gr2.chg (fun x hx => by rw [List.mem_singleton.1 hx]; simp)).imp fun _ _ h => h.2
            · rw [List.mem_singleton.1 h5]
              refine ⟨wr.heap.size, b1, b2, ?_, ?_, ?_, hB1', hold _ _ EL1.out, hold _ _ EL2.out⟩
              · exact ⟨by rcases hg2 with rfl | h6 <;> omega, HPP.out _ (by omega)⟩
              · exact ⟨by rcases hg2 with rfl | h6 <;> omega, HPP.out _ (by omega)⟩
              · rw [← HK1.out, ← HK2.out, Int.natCast_add]
                exact hB2'
          · rcases hg2 with rfl | h6 <;> omega
end Go.Proofs.YtpkplhmdnjdmoaaGreatDoor
