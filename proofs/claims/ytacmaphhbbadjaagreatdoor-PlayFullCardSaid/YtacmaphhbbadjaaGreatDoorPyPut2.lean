/- play.Put of the song's first packet by its contract: the walk. -/
import Derived.Test.YtacmaphhbbadjaaGreatDoorPyPut
namespace Go.Proofs.YtacmaphhbbadjaaGreatDoor
set_option linter.all false
open Go.RowKit
section
variable {w w' : World} {B o S oS c m : Nat} {now : Int} {Q : Value} {last e s : Int} {F : List Nat}
set_option maxRecDepth 100000 in
set_option maxHeartbeats 4000000 in
theorem put_ok {D oD cD q : Nat} {xs : List Value} {e' s' : Int} (h : PlAt w B o S oS c m now Q 0 e s) (hnow : now < 0) (hown : OwnK w 64 7 Q F q xs) (hB : B ∉ F) (hS : S ∉ F) (hD : Pre w D oD (d0.map bv)) (hDF : D ∉ F) (hDB : D ≠ B) (hDS : D ≠ S) (hq : q < m) (hm : m ≤ 256) :
    Calls Tryz.prog 7 #[.pointer (some ⟨B, o, none⟩), .agg #[.int .i64 0, .int .i64 0, .int .i64 2, .bool true, .bool false, .slice (some ⟨D, oD, none⟩) 15 cD]] w fun x w' => x = .returned (iv 0) ∧ ∃ G cap D' c', PlAt w' B o S oS c m now (.slice (some ⟨G, 0, none⟩) (q + 1) cap) 0 e s ∧
      OwnK w' 64 7 (.slice (some ⟨G, 0, none⟩) (q + 1) cap) [G] (q + 1) (xs ++ wtV D' c') ∧ Pre w' D' 0 (d0.map bv) ∧ eSize w' D' = some c' ∧ 15 ≤ c' ∧ w.heap.size ≤ D' ∧ D' ≠ G ∧ (G ∈ F ∨ w.heap.size ≤ G) ∧ Chg (D :: S :: F) w w' ∧ Pre w' D oD (d0.map bv) := by
  obtain ⟨A, cq, rfl⟩ := hown.shape
  obtain ⟨w1, hw1⟩ : ∃ w1, w1 = w.alloc (.cells #[.int .i64 0, .int .i64 0, .int .i64 2, .bool true, .bool false, .slice (some ⟨D, oD, none⟩) 15 cD] 40) := ⟨_, rfl⟩
  obtain ⟨X, hX⟩ : ∃ X, X = w.heap.size := ⟨_, rfl⟩
  have C1 : Chg [] w w1 := by rw [hw1]; exact (Chg.refl [] w).alloc _
  have bX : Blk w1 X 40 #[.int .i64 0, .int .i64 0, .int .i64 2, .bool true, .bool false, .slice (some ⟨D, oD, none⟩) 15 cD] := by rw [hw1, hX]; exact Blk.new _ _ _
  have hlay : Calls Tryz.prog 15 #[.agg #[.int .i64 0, .int .i64 0, .int .i64 2, .bool true, .bool false, .slice (some ⟨D, oD, none⟩) 15 cD]] w1 fun e w' => ∃ A n cap, e = .returned (.tuple #[.slice A n cap, .int .i64 0]) ∧ Chg [D] w1 w' ∧ Pre w' D oD (d0.map bv) := lay_of (c := cD) (a := 0) rfl (lay_run0 cD) (hD.same C1)
  have hXD : X ≠ D := by have := hD.lt; omega
  have hXB : X ≠ B := by have := h.pl.lt; omega
  have hXS : X ≠ S := by have := h.st.lt; omega
  have hXF : X ∉ F := fun hx => by have := hown.lt X hx; omega
  have HW1 := hid hw1
  have HX := hid hX
  have HS := hid (And.intro h (And.intro hown (And.intro C1 bX)))
  have HN := hid (And.intro hXD (And.intro hXB (And.intro hXS hXF)))
  have HLT := hid (And.intro hown.lt (And.intro h.st.lt hD.lt))
  clear hw1 hX C1 bX hXD hXB hXS hXF h hown
  go_enter Tryz.func7, Tryz.ntmps7
  go_wp2_with fail
  rw [← HW1.out, ← HX.out]
  refine hlay.mono ?_
  rintro x w2 ⟨A2, n2, cap2, rfl, C2, hD2⟩
  obtain ⟨h, hown, C1, bX⟩ := HS.out
  obtain ⟨hXD, hXB, hXS, hXF⟩ := HN.out
  have C12 : Chg [D] w w2 := (C1.mono (by simp)).trans_same C2
  have h2 := h.chg C12 (by simpa using hDB.symm) (by simpa using hDS.symm)
  have own2 := hown.chg C12 (fun x hx => by simp; rintro rfl; exact hDF hx)
  have bX2 := bX.chg C2 (by simpa using hXD)
  obtain ⟨⟨b0, b1, b2, b3⟩, _⟩ := h2.pcells
  obtain ⟨⟨c0, c1, c2, c3⟩, f0, f1, _⟩ := h2.scells
  have x0 := bX2.cell 0
  have x1 := bX2.cell 1
  have x2 := bX2.cell 2
  have x3 := bX2.cell 3
  have x4 := bX2.cell 4
  have x5 := bX2.cell 5
  have xf := bX2.frozen 5
  simp at x0 x1 x2 x3 x4 x5
  have HS2 := hid (And.intro h2 (And.intro own2 (And.intro C12 bX2)))
  have HD2 := hid hD2
  have t1 : decide (m ≤ q) = false := by simp; omega
  have t2 : decide ((m : Int) ≤ (q : Int)) = false := by simp; omega
  have HCE := hid (show ∀ wz, Chg [] w2 wz → ∀ (j : Nat) (u : Value), (d0.map bv)[j]? = some u → wz.cell? (Addr.add ⟨D, oD, none⟩ j) = some u from fun wz hz j u hj => by
    have := (hD2.same hz).cell hj
    unfold Addr.add
    split
    · rename_i h0; subst h0; exact this
    · exact this)
  clear h hown C1 bX C12 h2 own2 bX2 HS HW1 hD hD2 hlay
  go_wp2_with fail
  go_quiet (fail)
  go_wp2_with fail
  go_quiet (fail)
  go_wp2_with fail
  go_quiet (fail)
  go_wp2_with fail
  go_quiet (fail)
  go_wp2_with (at_builtin; refine wpList_append_sl rfl rfl byte_el rfl (by decide) rfl (World.ownsRow_nil _ 0 _ _) (news := d0.map bv) rfl ?c1 ?c2 ?c3 ?c4 ?c5 ?c6 ?_)
  case c1 => rfl
  case c2 => decide
  case c3 => exact HCE.out _ ⟨rfl, rfl, rfl, Nat.le_refl _, fun _ _ _ => rfl⟩
  case c4 => intro u hu; obtain ⟨d, _, rfl⟩ := List.mem_map.1 hu; rfl
  case c5 => decide
  case c6 => decide
  intro g3 cap3 w3 own3 C3 hg3
  obtain ⟨h2, own2, C12, bX2⟩ := HS2.out
  have C23 : Chg [] w2 w3 := ((Chg.refl [] w2).drewN _).trans_same C3
  obtain ⟨g3', row3, hg⟩ := Row.of_own own3 rfl
  simp only [Value.ownBlock] at hg
  injection hg with hg; subst hg
  have hg3' : w2.heap.size ≤ g3 := by
    rcases hg3 with hg3 | hg3
    · cases hg3
    · exact hg3
  have bX3 := bX2.same' C23
  obtain ⟨hXD, hXB, hXS, hXF⟩ := HN.out
  obtain ⟨w4, hw4⟩ : ∃ w4, w4 = w3.setCell ⟨X, 5, none⟩ (.slice (some ⟨g3, 0, none⟩) 15 cap3) := ⟨_, rfl⟩
  have C34 : Chg [X] w3 w4 := by rw [hw4]; exact (Chg.refl [X] w3).setCell (.inl (by simp)) _
  have h4 := (h2.same C23).chg C34 (by simpa using hXB.symm) (by simpa using hXS.symm)
  have own4 := (own2.same C23).chg C34 (fun x hx => by simp; rintro rfl; exact hXF hx)
  have hgX : g3 ≠ X := by have := bX2.lt; omega
  have row4 := row3.chg C34 (by simpa using hgX)
  have bX4 : Blk w4 X 40 #[.int .i64 0, .int .i64 0, .int .i64 2, .bool true, .bool false, .slice (some ⟨g3, 0, none⟩) 15 cap3] := by rw [hw4]; exact bX3.set_ 5 _
  have y5 := bX3.cell 5
  have yf := bX3.frozen 5
  simp at y5
  have HW4 := hid hw4
  have HS4 := hid (And.intro h4 (And.intro own4 (And.intro row4 bX4)))
  have HC4 := hid (And.intro C12 (And.intro C23 C34))
  have HD4 := hid ((HD2.out.same C23).chg C34 (by simpa using hXD.symm))
  have HG3 := hid hg3'
  clear h2 own2 C12 bX2 C23 own3 row3 bX3 hXD hXB hXS hXF C34 h4 own4 hgX row4 bX4 hg3 hg3' C3 hw4 HS2 HD2 HCE
  clear b0 b1 b2 b3 c0 c1 c2 c3 f0 f1 x0 x1 x2 x3 x4 x5 xf
  go_wp2_with fail
  rw [← HW4.out]
  have t3 : decide ((0 : Int) ≤ now) = false := by simp; omega
  obtain ⟨⟨b0, b1, b2, b3⟩, _⟩ := HS4.out.1.pcells
  obtain ⟨⟨c0, c1, c2, c3⟩, f0, f1, _⟩ := HS4.out.1.scells
  have x0 := HS4.out.2.2.2.cell 0
  have x1 := HS4.out.2.2.2.cell 1
  have x2 := HS4.out.2.2.2.cell 2
  have x3 := HS4.out.2.2.2.cell 3
  have x4 := HS4.out.2.2.2.cell 4
  have x5 := HS4.out.2.2.2.cell 5
  simp at x0 x1 x2 x3 x4 x5
  clear y5 yf
  have hA := HS4.out.1.same ((Chg.refl [] w4).alloc (.cells #[.int .i64 0, .int .i64 0, .int .i64 2, .bool true, .bool false, .slice (some ⟨g3, 0, none⟩) 15 cap3, .bool false] 64))
  have bA := HS4.out.2.2.2.same' ((Chg.refl [] w4).alloc (.cells #[.int .i64 0, .int .i64 0, .int .i64 2, .bool true, .bool false, .slice (some ⟨g3, 0, none⟩) 15 cap3, .bool false] 64))
  obtain ⟨⟨p0, p1, p2, p3⟩, _⟩ := hA.pcells
  obtain ⟨⟨q0, q1, q2, q3⟩, _⟩ := hA.scells
  have z0 := bA.cell 0
  have z1 := bA.cell 1
  have z2 := bA.cell 2
  have z3 := bA.cell 3
  have z4 := bA.cell 4
  have z5 := bA.cell 5
  simp only [List.getElem?_toArray, List.getElem?_cons_zero, List.getElem?_cons_succ] at z0 z1 z2 z3 z4 z5
  clear hA bA
  go_region_law (first
    | (refine step_append_k1 (by rfl) (by rfl) wt_el (by rfl) (by decide) (by rfl) ((HS4.out.2.1.same ((Chg.refl [] w4).drew)).same ((Chg.refl [] w4.drew).alloc (.cells #[.int .i64 0, .int .i64 0, .int .i64 2, .bool true, .bool false, .slice (some ⟨g3, 0, none⟩) 15 cap3, .bool false] 64))) [.int .i64 0, .int .i64 0, .int .i64 2, .bool true, .bool false, .slice (some ⟨g3, 0, none⟩) 15 cap3, .bool false] (by rfl) (by rfl) (newA _ _ _) (wt_one g3 cap3) (by omega) (by omega) ?_; intro G cap5 w5 hown5 hgr5; have gr5 := Grow.pre (((Chg.refl [] w4).drew).alloc _) hgr5; have h5 := HS4.out.1.chg gr5.chg hB hS; obtain ⟨⟨r0, _⟩, k0, _⟩ := h5.scells))
  all_goals
    obtain ⟨w6, hw6, ⟨y1, yf, y2⟩, w7, hw7, fin⟩ := put_end HLT.out hS hDF hDS HX.out HS4.out HC4.out HD4.out HG3.out hown5 gr5 h5
    clear p0 p1 p2 p3 q0 q1 q2 q3 z0 z1 z2 z3 z4 z5 b0 b1 b2 b3 c0 c1 c2 c3 f0 f1 x0 x1 x2 x3 x4 x5 r0 k0
    have HW6 := hid hw6
    have HW7 := hid hw7
    have HF := hid fin
    clear hw6 hw7 fin hown5 gr5 h5
    go_wp2_with (rw [← HW6.out])
    (try rw [← HW6.out])
    rw [← HW7.out]
    go_ret
    exact ⟨rfl, G, cap5, g3, cap3, HF.out⟩
end
end Go.Proofs.YtacmaphhbbadjaaGreatDoor
