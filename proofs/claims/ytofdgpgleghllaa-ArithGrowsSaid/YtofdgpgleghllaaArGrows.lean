/- ArithGrows, the walk: the bytes at any point decode the steps so far; further steps never make them fewer, and the longer bytes decode the earlier steps too. -/
import Derived.Test.YtofdgpgleghllaaArBack
namespace Go.Proofs.Ytofdgpgleghllaa
set_option linter.unusedSimpArgs false
set_option linter.unusedVariables false
open Go.RowKit

theorem applyA_mono {c : Cod} (a : ActV) (hw : WfA a) (ha : okAct c.odds.length a = true) : c.low.length ≤ (applyA c a).low.length := by
  unfold okAct at ha
  unfold applyA
  by_cases h0 : a.what = 0
  · rw [if_pos h0]; exact (putL_len _ _ _).1
  · rw [if_neg h0] at ha ⊢
    by_cases h1 : a.what = 1
    · rw [if_pos h1]; exact (rawL_len _ _ _).1
    · rw [if_neg h1] at ha ⊢
      simp only [decide_eq_true_eq] at ha
      exact (numL_len c _ (by have := hw.1; omega)).1
theorem runA_mono (l : List ActV) : ∀ {c : Cod}, CodOk c → (∀ a ∈ l, WfA a ∧ okAct c.odds.length a = true) → c.low.length ≤ (runA c l).low.length := by
  induction l with
  | nil => intro c _ _; exact Nat.le_refl _
  | cons a l ih =>
    intro c h hl
    obtain ⟨hw, ha⟩ := hl a (by simp)
    obtain ⟨h1, h2, h3, h4, h5⟩ := applyA_ok h hw ha
    exact Nat.le_trans (applyA_mono a hw ha) (ih h1 fun x hx => by rw [h3]; exact hl x (by simp [hx]))
theorem flat_one {l : List ActV} : ∀ u ∈ l.flatMap actCells, u.oneCell' = true := by
  intro u hu
  obtain ⟨a, _, hu⟩ := List.mem_flatMap.1 hu
  simp [actCells] at hu
  rcases hu with rfl | rfl | rfl | rfl | rfl <;> rfl
theorem flat_len (l : List ActV) : (l.flatMap actCells).length = l.length * 5 := by
  induction l with
  | nil => rfl
  | cons a l ih => rw [List.flatMap_cons, List.length_append, ih, actCells_len, List.length_cons]; omega
theorem flat_at : ∀ (l : List ActV) (k : Nat) (u : Value), (l.flatMap actCells)[k]? = some u → ∃ a, l[k / 5]? = some a ∧ (actCells a)[k % 5]? = some u
  | [], k, u, h => by simp at h
  | x :: l, k, u, h => by
    rw [List.flatMap_cons] at h
    by_cases hk : k < 5
    · rw [List.getElem?_append_left (by rw [actCells_len]; exact hk)] at h
      refine ⟨x, ?_, ?_⟩
      · rw [Nat.div_eq_of_lt hk]; rfl
      · rw [Nat.mod_eq_of_lt hk]; exact h
    · rw [List.getElem?_append_right (by rw [actCells_len]; omega), actCells_len] at h
      obtain ⟨a, h1, h2⟩ := flat_at l (k - 5) u h
      refine ⟨a, ?_, ?_⟩
      · have : k / 5 = (k - 5) / 5 + 1 := by omega
        rw [this]; exact h1
      · have : k % 5 = (k - 5) % 5 := by omega
        rw [this]; exact h2

section
variable {w : World}
/-- append of steps from whatever slice that only is read: nil, empty or not. -/
theorem run_append_acts {ty : TypeId} {v : Value} {n : Nat} {xs : List Value} (hown : w.ownsRow 0 33 5 v n xs) {A : Option Addr} {l : List ActV} {c : Nat} (hl : Acts w A l) (hb : n + l.length ≤ 100000) :
    ∃ v' w', (Builtin.append_ #[22, 22] ty #[v, .slice A l.length c]).run Try.prog w = .ok v' w' ∧ w'.ownsRow 0 33 5 v' (n + l.length) (xs ++ l.flatMap actCells) ∧
      Chg v.ownBlock.toList w w' ∧ (v'.ownBlock = v.ownBlock ∨ ∃ k, v'.ownBlock = some k ∧ w.heap.size ≤ k) := by
  obtain ⟨i, hi, hz, hsize, hby⟩ := act_el.hi
  by_cases h0 : l = []
  · subst h0
    rcases A with _ | ad
    · refine ⟨v, w, ?_, by simpa using hown, Chg.refl _ _, .inl rfl⟩
      rcases hown.2 with ⟨rfl, rfl⟩ | ⟨g, cap, cur, rfl, _, _, hnc, _⟩
      · simp [Builtin.append_, run_underlying act_el.ht, sizeOf, typeInfo, hi, Builtin.lenOf, Builtin.firstCells]
      · simp [Builtin.append_, run_underlying act_el.ht, sizeOf, typeInfo, hi, Builtin.lenOf, Builtin.firstCells, hnc, storeCells]
    · obtain ⟨v', w', hr, h2, h3, h4, h5⟩ := run_append_own_at (P := Try.prog) w 0 22 ty 33 i _ 5 40 act_el.ht hi hz hsize hby rfl (by decide) v n xs hown ad 0 c [] rfl (by simp) (by simp) (by simp [maxLen]; simp at hb; omega) (by simp at hb; omega) (Nat.zero_le _)
      refine ⟨v', w', hr, by simpa using h2, Chg.of_grown h3 (by intro k hk; left; simp [hk]), ?_⟩
      rcases h5 with h5 | h5
      · exact .inl h5
      · exact .inr ⟨_, h5, Nat.le_refl _⟩
  · have hpos : 0 < l.length := List.length_pos_iff.2 h0
    obtain ⟨b, o, rfl, hlt, hcells⟩ := hl.ex hpos
    obtain ⟨v', w', hr, h2, h3, h4, h5⟩ := run_append_own_at (P := Try.prog) w 0 22 ty 33 i _ 5 40 act_el.ht hi hz hsize hby rfl (by decide) v n xs hown ⟨b, o, none⟩ l.length c (l.flatMap actCells) (flat_len l) (fun k u hu => by
      obtain ⟨a, ha, hua⟩ := flat_at l k u hu
      have := hcells (k / 5) a ha (k % 5) u hua
      have e : (⟨b, o, none⟩ : Addr).add k = ⟨b, o + k / 5 * 5 + k % 5, none⟩ := by
        have e2 : o + k / 5 * 5 + k % 5 = o + k := by omega
        rw [e2]
        unfold Addr.add
        split <;> simp_all
      rw [e]
      exact this) flat_one (by simp [maxLen]; omega) (by omega) (Nat.zero_le _)
    refine ⟨v', w', hr, h2, Chg.of_grown h3 (by intro k hk; left; simp [hk]), ?_⟩
    rcases h5 with h5 | h5
    · exact .inl h5
    · exact .inr ⟨_, h5, Nat.le_refl _⟩
theorem wpList_append_acts {ops : Array Oper} {rest : List Oper} {o : Oper} {a : Act} {Q : Exit → Act → World → Prop} (hgd : o.guard = none) {s x : Operand}
    (ho : o.op = .call { callee := .builtin .append, args := #[s, x], argTypes := #[22, 22] })
    {v : Value} {n : Nat} {xs : List Value} (hs : a.eval s = v) (hown : w.ownsRow 0 33 5 v n xs) {A : Option Addr} {l : List ActV} {c : Nat} (hx : a.eval x = .slice A l.length c) (hl : Acts w A l) (hb : n + l.length ≤ 100000)
    (h : ∀ v' w', w'.ownsRow 0 33 5 v' (n + l.length) (xs ++ l.flatMap actCells) → Chg v.ownBlock.toList w w' → (v'.ownBlock = v.ownBlock ∨ ∃ k, v'.ownBlock = some k ∧ w.heap.size ≤ k) → wpList Try.prog ops Q rest (a.put o.dst v') w') : wpList Try.prog ops Q (o :: rest) a w := by
  refine wpList_plain hgd fun K hK => ?_
  obtain ⟨v', w', hr, h2, h3, h4⟩ := run_append_acts (ty := o.type) hown (c := c) hl hb
  unfold Oper.wp execOp
  simp only [ho, resolve, invoke, builtin, Sem.run_bind, Sem.run_pure, Result.andThen_ok, List.map_toArray, List.map_cons, List.map_nil, hs, hx, hr]
  exact hK _ _ (h v' w' h2 h3 h4)
end

set_option maxRecDepth 100000 in
set_option maxHeartbeats 8000000 in
theorem grows_walk (w : World) (nc : Int) (A : Option Addr) (capA : Nat) (la : List ActV) (hla : Acts w A la) (B : Option Addr) (capB : Nat) (lb : List ActV) (hlb : Acts w B lb) :
    Calls Try.prog 5 #[.int .i64 nc, .slice A la.length capA, .slice B lb.length capB] w fun e w' => e = .returned (.bool true) ∧ Below w.heap.size w w' := by
  by_cases c0 : 60 < la.length
  · have t0 : decide ((60 : Int) < (la.length : Int)) = true := by simp; omega
    go_enter Try.func5, Try.ntmps5
    go_wp2_with fail
    refine (known_ok w).mono ?_
    rintro e w1 ⟨rfl, ch1⟩
    go_wp2_with fail
    go_ret
    exact ⟨rfl, ch1.below (by simp)⟩
  have t0 : decide ((60 : Int) < (la.length : Int)) = false := by simp; omega
  by_cases c00 : 60 < lb.length
  · have t00 : decide ((60 : Int) < (lb.length : Int)) = true := by simp; omega
    go_enter Try.func5, Try.ntmps5
    go_wp2_with fail
    refine (known_ok w).mono ?_
    rintro e w1 ⟨rfl, ch1⟩
    go_wp2_with fail
    go_ret
    exact ⟨rfl, ch1.below (by simp)⟩
  have t00 : decide ((60 : Int) < (lb.length : Int)) = false := by simp; omega
  by_cases c1 : nc < 1
  · have t1 : decide (nc < 1) = true := by simpa using c1
    go_enter Try.func5, Try.ntmps5
    go_wp2_with fail
    refine (known_ok w).mono ?_
    rintro e w1 ⟨rfl, ch1⟩
    go_wp2_with fail
    go_ret
    exact ⟨rfl, ch1.below (by simp)⟩
  have t1 : decide (nc < 1) = false := by simpa using c1
  by_cases c2 : 4096 < nc
  · have t2 : decide (4096 < nc) = true := by simpa using c2
    go_enter Try.func5, Try.ntmps5
    go_wp2_with fail
    refine (known_ok w).mono ?_
    rintro e w1 ⟨rfl, ch1⟩
    go_wp2_with fail
    go_ret
    exact ⟨rfl, ch1.below (by simp)⟩
  have t2 : decide (4096 < nc) = false := by simpa using c2
  obtain ⟨N, rfl⟩ := Int.eq_ofNat_of_zero_le (show 0 ≤ nc by omega)
  have hN1 : 1 ≤ N := by omega
  have hN2 : N ≤ 4096 := by omega
  clear c1 c2
  have hallf := filter_all (N := N) hla
  have hallb := filter_all (N := N) hlb
  have hff1 : (la.filter (okAct N)).length ≤ 60 := Nat.le_trans (List.length_filter_le _ _) (by omega)
  have hff2 : (lb.filter (okAct N)).length ≤ 60 := Nat.le_trans (List.length_filter_le _ _) (by omega)
  have happ : (la ++ lb).filter (okAct N) = la.filter (okAct N) ++ lb.filter (okAct N) := List.filter_append ..
  generalize hfront : la.filter (okAct N) = front at hallf hff1 happ
  generalize hback : lb.filter (okAct N) = back at hallb hff2 happ
  have hF1 : ∀ a ∈ front, WfA a ∧ okAct (newCod N).odds.length a = true := fun a ha => ⟨(hallf a ha).1, by simpa [newCod] using (hallf a ha).2⟩
  obtain ⟨kok, kfit, kod, klen⟩ := runA_ok front (newCod_ok N) (newCod_fit N) hF1
  obtain ⟨cF, hcF⟩ : ∃ cF, cF = runA (newCod N) front := ⟨_, rfl⟩
  rw [← hcF] at kok kfit kod klen
  have hF2 : ∀ a ∈ back, WfA a ∧ okAct cF.odds.length a = true := fun a ha => ⟨(hallb a ha).1, by rw [kod]; simpa [newCod] using (hallb a ha).2⟩
  obtain ⟨mok, mfit, mod_, mlen⟩ := runA_ok back kok kfit hF2
  have hmono := runA_mono back kok hF2
  have hrun : runA (newCod N) (front ++ back) = runA cF back := by rw [hcF]; unfold runA; rw [List.foldl_append]
  obtain ⟨cM, hcM⟩ : ∃ cM, cM = runA cF back := ⟨_, rfl⟩
  rw [← hcM] at mok mfit mlen hmono hrun
  have hFk := fut_self kok
  have hFm : Fut cM.low cM := fut_self mok
  have hFmk : Fut cM.low cF := fut_run back mok.dig kok kfit hF2 (by rw [← hcM]; exact hFm)
  have hF0k : Fut cF.low (newCod N) := fut_run front kok.dig (newCod_ok N) (newCod_fit N) hF1 (by rw [← hcF]; exact hFk)
  have hF0m : Fut cM.low (newCod N) := fut_run front mok.dig (newCod_ok N) (newCod_fit N) hF1 (by rw [← hcF]; exact hFmk)
  have hffk := first_four kok kfit kok.dig (fut_new hF0k)
  have hffm := first_four mok mfit mok.dig (fut_new hF0m)
  have hlowk : cF.low.length ≤ 100000 := by
    have : (newCod N).low.length = 4 := rfl
    omega
  have hlowm : cM.low.length ≤ 200000 := by omega
  have h4 := kok.len
  have h4m := mok.len
  have HALL := hid hallf
  have HALLB := hid hallb
  have HDK := hid kok.dig
  have HDM := hid mok.dig
  have HFK := hid hffk
  have HFM := hid hffm
  have HFRONT := hid hfront
  have HAPP := hid happ
  have HCF := hid hcF
  have HRUN := hid hrun
  have HV4 : Hid (∀ a ∈ front, okAct (newCod N).odds.length a = true) := hid fun a ha => (hF1 a ha).2
  clear hallf hallb hffk hffm kod klen mod_ mlen hfront hback happ hcF hrun hcM hF1 hF2
  go_enter Try.func5, Try.ntmps5
  go_wp2_with fail
  refine (known_ok w).mono ?_
  rintro e w1 ⟨rfl, ch1⟩
  have hla1 : Acts w1 A la := hla.chg ch1 (by simp)
  have hlb1 : Acts w1 B lb := hlb.chg ch1 (by simp)
  go_wp2_with fail
  refine (coded_ok w1 N A capA la hN1 hN2 hla1 (by omega)).mono ?_
  rintro e w2 ⟨b, g, h, vd, rfl, hc2, ho2, ch2, hb2, hg2, hh2, hv2⟩
  rw [HFRONT.out, ← HCF.out] at hc2
  rw [HFRONT.out] at ho2
  obtain ⟨A2, cap2, rfl, hacts2, hob2⟩ := acts_of_own ho2 (fun a ha => (HALL.out a ha).1)
  have hla2 : Acts w2 A la := hla1.chg ch2 (by simp)
  have hlb2 : Acts w2 B lb := hlb1.chg ch2 (by simp)
  have hown0 : (w2.alloc (.cells #[] 33)).ownsRow 0 33 5 (.slice (some ⟨w2.heap.size, 0, none⟩) 0 0) 0 [] := World.ownsRow_made w2 #[] 0 (Nat.zero_le _) (by simp [maxLen]) rfl
  have hla3 : Acts (w2.alloc (.cells #[] 33)) A la := hla2.chg ((Chg.refl [] w2).alloc _) (by simp)
  have hlb3 : Acts (w2.alloc (.cells #[] 33)) B lb := hlb2.chg ((Chg.refl [] w2).alloc _) (by simp)
  have hch2 : Chg [] w w2 := ch1.trans_same ch2
  have tok1 : True := trivial
  go_wp2_with (first
    | (at_builtin; have _t := tok1; refine wpList_append_acts (v := .slice (some ⟨w2.heap.size, 0, none⟩) 0 0) rfl rfl rfl hown0 rfl hla3 ?_ ?_; (simp; omega); intro v3 w3 p1 p2 p3; clear tok1; have hch3 : Chg [] w w3 := (hch2.alloc _).trans p2 (by intro x hx; right; have h9 := hch2.size; have h8 : x = w2.heap.size := (by rw [Option.mem_toList] at hx; exact (Option.some.inj hx).symm); omega); have hlb4 : Acts w3 B lb := hlb.chg hch3 (by simp))
    | (at_builtin; refine wpList_append_acts (v := v3) rfl rfl rfl p1 rfl hlb4 ?_ ?_; (simp; omega); intro v4 w4 q1 q2 q3))
  have hx4 : Chg [] w w4 := hch3.trans q2 (by
    intro x hx
    right
    rw [Option.mem_toList] at hx
    rcases p3 with p3 | ⟨k, p3, p4⟩
    · rw [p3] at hx
      have h8 : x = w2.heap.size := (Option.some.inj hx).symm
      have h9 := hch2.size
      omega
    · rw [p3] at hx
      have h8 : x = k := (Option.some.inj hx).symm
      have h9 := hch2.size
      simp at p4
      omega)
  have q1' : w4.ownsRow 0 33 5 v4 (la ++ lb).length ((la ++ lb).flatMap actCells) := by
    rw [List.length_append, List.flatMap_append]
    simpa using q1
  obtain ⟨A4, cap4, rfl, hacts4, hob4⟩ := acts_of_own q1' (fun a ha => by
    rcases List.mem_append.1 ha with h | h
    · exact hla.wf a h
    · exact hlb.wf a h)
  have hc4 : IsCod 61 w4 b g h cF := by
    have lt := hc2.lt
    have hh : ∀ x, x < w2.heap.size → x ∉ (Value.slice (some ⟨w2.heap.size, 0, none⟩) 0 0).ownBlock.toList := fun x hx hm => by
      rw [Option.mem_toList] at hm
      have h8 : x = w2.heap.size := (Option.some.inj hm).symm
      omega
    have hh2 : ∀ x, x < w2.heap.size → x ∉ v3.ownBlock.toList := fun x hx hm => by
      rw [Option.mem_toList] at hm
      rcases p3 with p3 | ⟨k, p3, p4⟩
      · rw [p3] at hm
        have h8 : x = w2.heap.size := (Option.some.inj hm).symm
        omega
      · rw [p3] at hm
        have h8 : x = k := (Option.some.inj hm).symm
        simp at p4
        omega
    exact (((hc2.same ((Chg.refl _ _).alloc _)).chg p2 (hh _ lt.1) (hh _ lt.2.1) (hh _ lt.2.2))).chg q2 (hh2 _ lt.1) (hh2 _ lt.2.1) (hh2 _ lt.2.2)
  have hA4 : Acts w4 A2 front := by
    refine ((hacts2.chg ((Chg.refl [] w2).alloc (.cells #[] 33)) (by simp)).chg p2 ?_).chg q2 ?_
    · intro ad e0 hm
      subst e0
      have h1 := own_lt ho2 ad.block rfl
      rw [Option.mem_toList] at hm
      have h8 : ad.block = w2.heap.size := (Option.some.inj hm).symm
      omega
    · intro ad e0 hm
      subst e0
      have h1 := own_lt ho2 ad.block rfl
      rw [Option.mem_toList] at hm
      rcases p3 with p3 | ⟨k, p3, p4⟩
      · rw [p3] at hm
        have h8 : ad.block = w2.heap.size := (Option.some.inj hm).symm
        omega
      · rw [p3] at hm
        have h8 : ad.block = k := (Option.some.inj hm).symm
        simp at p4
        omega
  have lt2 : ∀ ad, A2 = some ad → ad.block < w4.heap.size := fun ad e0 => by
    subst e0
    have h1 := own_lt ho2 ad.block rfl
    have h2 := p2.size
    have h3 := q2.size
    simp at h2
    omega
  have LT2 := hid lt2
  clear q1 q1' q2 q3 p1 p2 p3 hown0 hla3 hlb3 hla2 hlb2 hacts2 hc2 lt2
  refine (coded_ok w4 N A4 cap4 (la ++ lb) hN1 hN2 hacts4 (by rw [List.length_append]; omega)).mono ?_
  rintro e w5 ⟨b5, g5, h5, vd5, rfl, hc5, ho5, ch5, hb5, hg5, hh5, hv5⟩
  rw [HAPP.out, HRUN.out] at hc5
  rw [HAPP.out] at ho5
  have hlen5 : ((front ++ back).length : Int) < (front.length : Int) → False := by rw [List.length_append]; omega
  have t5 : decide (((front ++ back).length : Int) < (front.length : Int)) = false := by simp; omega
  obtain ⟨A5, cap5, rfl, -, -⟩ := acts_of_own ho5 (fun a ha => by
    rcases List.mem_append.1 ha with h | h
    · exact (HALL.out a h).1
    · exact (HALLB.out a h).1)
  have hc5a := hc4.same ch5
  have hA5 : Acts w5 A2 front := hA4.chg ch5 (by simp)
  clear hlen5
  have hx5 : Chg [] w w5 := hx4.trans_same ch5
  have LT5 : Hid (∀ ad, A2 = some ad → ad.block < w5.heap.size) := hid fun ad e0 => by have := LT2.out ad e0; have := ch5.size; omega
  go_wp2_with fail
  refine (bytes_ok w5 b g h cF hc5a kok (by omega)).mono ?_
  rintro e w6 ⟨g6, cap6, rfl, hr6, ch6, hg6⟩
  have hc6 := hc5.same ch6
  go_wp2_with fail
  refine (bytes_ok w6 b5 g5 h5 cM hc6 mok (by omega)).mono ?_
  rintro e w7 ⟨g7, cap7, rfl, hr7, ch7, hg7⟩
  have hr6' := hr6.chg ch7 (by simp)
  obtain ⟨cap7', e7, l7, m7, cl7, -⟩ := hr7.open_map
  obtain rfl : cap7 = cap7' := by simpa using e7
  clear e7
  have CL7 := hid cl7
  clear cl7
  go_wp2_with fail
  refine (newDecoder_ok g7 cap7 cM.low N w7 hN1 hN2 l7 m7 CL7.out HDM.out h4m (by omega) HFM.out).mono ?_
  rintro e w8 ⟨b8', g8, h8, rfl, hd8, ch8, hb8, hg8, hh8⟩
  have hr6'' := hr6'.chg ch8 (by simp)
  obtain ⟨cap6', e6, l6, m6, cl6, -⟩ := hr6''.open_map
  obtain rfl : cap6 = cap6' := by simpa using e6
  clear e6
  have CL6 := hid cl6
  clear cl6
  go_wp2_with fail
  refine (newDecoder_ok g6 cap6 cF.low N w8 hN1 hN2 l6 m6 CL6.out HDK.out h4 (by omega) HFK.out).mono ?_
  rintro e w9 ⟨b9, g9, h9, rfl, hd9, ch9, hb9, hg9, hh9⟩
  have hd8' := hd8.same ch9
  have hx9 : Chg [] w w9 := (((hx5.trans_same ch6).trans_same ch7).trans_same ch8).trans_same ch9
  have hA9 : Acts w9 A2 front := (((hA5.chg ch6 (by simp)).chg ch7 (by simp)).chg ch8 (by simp)).chg ch9 (by simp)
  have s6 := ch6.size
  have s7 := ch7.size
  have s8 := ch8.size
  have s9 := ch9.size
  have s5 := hx5.size
  have ltd := hd8.lt
  have O1 : Hid (∀ ad, A2 = some ad → ad.block ≠ b8' ∧ ad.block ≠ h8) := hid fun ad e0 => by have := LT5.out ad e0; omega
  have O2 : Hid (∀ ad, A2 = some ad → ad.block ≠ b9 ∧ ad.block ≠ h9) := hid fun ad e0 => by have := LT5.out ad e0; omega
  have O3 : Hid (∀ ad, A2 = some ad → ad.block ∉ [b8', h8]) := hid fun ad e0 => by have := LT5.out ad e0; simp; omega
  have t6 : decide ((4 : Int) ≤ (cF.low.length : Int)) = true := by simp; omega
  have t7 : decide (cF.low.length ≤ cM.low.length) = true := by simpa using hmono
  have hokM : DecOk (newDec cM.low N) := newDec_ok N HDM.out h4m hF0m
  have hokK : DecOk (newDec cF.low N) := newDec_ok N HDK.out h4 hF0k
  clear hr6 hr6' hr6'' hr7 hc4 hc5 hc5a hc6 hA4 hA5 ho2 ho5
  go_wp2_with fail
  refine (asked_ok w9 b8' g8 h8 (newDec cM.low N) (newCod N) A2 cap2 front hd8' hokM (syn_new _ _) (newCod_ok N) (newCod_fit N) hA9 O1.out HV4.out (by rw [← HCF.out]; exact hFmk) (by omega)).mono ?_
  rintro e wa hp
  obtain ⟨rfl, Da, hda, hoka, hSa, hdata, cha⟩ := hp
  have hd9a : IsDec 69 wa b9 g9 h9 (newDec cF.low N) := hd9.chg cha (by simp; omega) (by simp; omega) (by simp; omega)
  have hAa : Acts wa A2 front := hA9.chg cha O3.out
  have hxa : Chg [] w wa := hx9.trans cha (by intro x hx; simp at hx; right; omega)
  have sa := cha.size
  go_wp2_with fail
  refine (asked_ok wa b9 g9 h9 (newDec cF.low N) (newCod N) A2 cap2 front hd9a hokK (syn_new _ _) (newCod_ok N) (newCod_fit N) hAa O2.out HV4.out (by rw [← HCF.out]; exact hFk) (by omega)).mono ?_
  rintro e wb hp
  obtain ⟨rfl, Db, hdb, hokb, hSb, hdatb, chb⟩ := hp
  rw [← HCF.out] at hSb
  have hleft : Db.data.length - Db.pos = 0 := by
    rw [hdatb, hSb.pos]
    simp [newDec]
  have HL := hid hleft
  have HDT := hid hdatb
  clear hleft hdatb hdata
  go_wp2_with fail
  refine (left_any wb b9 g9 h9 Db hdb hokb.pos).mono ?_
  rintro e wc ⟨rfl, nc, rfl⟩
  rw [HL.out]
  go_wp2_with fail
  go_ret
  refine ⟨rfl, Chg.below (F := []) ?_ (by simp)⟩
  refine (hxa.trans chb ?_).drewN nc
  intro x hx
  simp at hx
  right
  omega
end Go.Proofs.Ytofdgpgleghllaa
