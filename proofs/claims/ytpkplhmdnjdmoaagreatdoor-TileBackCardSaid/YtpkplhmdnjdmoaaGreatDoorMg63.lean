/- The law TileBuilt: putBy, and what a writer answers in any later world. -/
import Derived.Test.YtpkplhmdnjdmoaaGreatDoorMg47
import Derived.Deep.RegionHeld
import Derived.Test.YtpkplhmdnjdmoaaGreatDoorMg61
import Derived.Test.YtpkplhmdnjdmoaaGreatDoorMg53
set_option linter.unusedVariables false
set_option linter.unusedSimpArgs false
namespace Go.Proofs.YtpkplhmdnjdmoaaGreatDoor
set_option linter.unusedSimpArgs false
set_option linter.unusedVariables false
open Go.RowKit

set_option maxRecDepth 100000 in
set_option maxHeartbeats 1000000 in
theorem lputBy_ok {w : World} {l : List Int} {A : Option Addr} {W H d : Nat} (cap : Nat) (t : Tile w l A W H d) (hp : Pts w) (k : Nat) (hk : k ≤ 7) (hm : mayB k l W d = true) :
    Calls Tryz.prog 24 #[.int .i64 k, .slice A l.length cap, .int .i64 W, .int .i64 H, .int .i64 d] w fun e w' => ∃ b F, e = .returned (.tuple #[.pointer (some ⟨b, 0, none⟩), .bool true]) ∧ IsWr w' b F (tileBits k l W H d) ∧ Chg [] w w' ∧ ∀ x ∈ F, w.heap.size ≤ x := by
  obtain ⟨w1, hw1⟩ : ∃ w1, w1 = w.alloc (.cells #[.slice none 0 0, .int .i64 0] 37) := ⟨_, rfl⟩
  obtain ⟨B, hB⟩ : ∃ B, B = w.heap.size := ⟨_, rfl⟩
  have hwr : IsWr w1 B [B] [] := by rw [hw1, hB]; exact IsWr.new w
  have ch1 : Chg [] w w1 := by rw [hw1]; exact (Chg.refl [] w).alloc _
  have hp0 := hp.lt
  have hap : Apt A l [B] := Apt.fresh t.cells (F := [B]) (by rw [hB]; simp)
  have hpb := putBy_all cap (t.same ch1) B [B] [] hwr hap (hp.same ch1) (by simp; omega) (by simp) k hk hm
  unfold PutPost at hpb
  rw [List.nil_append] at hpb
  generalize tileBits k l W H d = ts at *
  have HB : Hid (∀ x ∈ [B], w.heap.size ≤ x) := hid (by intro x hx; rw [List.mem_singleton.1 hx, hB]; exact Nat.le_refl _)
  have HW1 := hid hw1
  have HBB := hid hB
  clear t hp hm hk hw1 hB hwr hap hp0
  go_enter Tryz.func24, Tryz.ntmps24
  go_wp2_with fail
  rw [← HW1.out, ← HBB.out]
  refine hpb.mono ?_
  rintro e w2 ⟨rfl, F2, hwr2, hgr2⟩
  go_wp2_with fail
  go_ret2
  exact ⟨B, F2, rfl, hwr2, hgr2.fresh HB.out ch1, hgr2.freshF HB.out ch1⟩

/-- The bytes of a writer as a string. -/
def strT (T : List Nat) : ByteArray := strOfNums ((packed T).map Int.ofNat)
/-- What a writer answers in any later world. -/
def LenAt (w : World) (b n : Nat) : Prop := ∀ wz, Chg [] w wz → Calls Tryz.prog 25 #[.pointer (some ⟨b, 0, none⟩)] wz fun e w' => e = .returned (.int .i64 (n : Int)) ∧ wz = w'
def BytesAt (w : World) (b : Nat) (S : ByteArray) : Prop := ∀ wz, Chg [] w wz → Calls Tryz.prog 26 #[.pointer (some ⟨b, 0, none⟩)] wz fun e w' =>
  ∃ v, e = .returned v ∧ (∀ wy, Chg [] w' wy → (Go.convert 35 9 v).run Tryz.prog wy = .ok (.string S) wy) ∧ Chg [] w w' ∧ Chg [] wz w'
theorem lenAt_of {w : World} {b : Nat} {F T : List Nat} (h : IsWr w b F T) : LenAt w b T.length := fun wz hz => wlen_any wz b F T (h.same hz)
theorem bytesAt_of {w : World} {b : Nat} {F T : List Nat} (h : IsWr w b F T) (h0 : 0 < T.length) (h1 : T.length < 549755813888) : BytesAt w b (strT T) := fun wz hz => by
  refine (wbytes_ok wz b F T (h.same hz) h1).mono ?_
  rintro e w' ⟨v, G, rfl, hown, ch, hG⟩
  obtain ⟨A, cap, rfl, hcl, hcm, hcells⟩ := hown.open_map
  refine ⟨_, rfl, fun wy hy => ?_, hz.trans_same ch, ch⟩
  obtain ⟨g, o, rfl, hlt, hcell⟩ := (hcells.same hy).ex (by rw [packed_len]; omega)
  exact run_convert_bytes_arg wy 35 5 Tryz.underlying35 Tryz.underlying5 g o _ cap ((packed T).map Int.ofNat) (by simp) (fun i hi => by
    have := hcell i _ (List.getElem?_eq_getElem hi)
    rw [this]
    have e : ((packed T).map Int.ofNat).getD i 0 = ((packed T)[i] : Nat) := by
      rw [List.getD_eq_getElem?_getD, List.getElem?_map, List.getElem?_eq_getElem hi]
      rfl
    rw [e]
    rfl) 9 Tryz.underlying9
theorem sum_cost_le : ∀ (ks : List Nat) (ps : List (List Int)), KsOk ks → (∀ p ∈ ps, ∀ x ∈ p, wideP x) → ((ks.zip ps).map (fun p => partCost p.1 p.2)).sum ≤ 10 * ps.length + 65 * ps.flatten.length
  | [], ps, _, _ => by simp
  | k :: ks, [], _, _ => by simp
  | k :: ks, p :: ps, hk, hp => by
    have h1 := sum_cost_le ks ps (fun x hx => hk x (by simp [hx])) (fun q hq => hp q (by simp [hq]))
    have h2 := partCost_le (hk k (by simp)) (hp p (by simp))
    simp only [List.zip_cons_cons, List.map_cons, List.sum_cons, List.length_cons, List.flatten_cons, List.length_append]
    omega
theorem plan_len {e : List Int} {n : Nat} (hn : e.length = n) (hw : ∀ x ∈ e, wideP x) : (planBits e n).length ≤ 4 + (160 + 65 * n) := by
  have hb := bestPlan_ok (n := n) (warm := 0) (most := 4) (by omega) e
  have hss := sizesL_sum hb.1.1
  have hsl := sizesL_len hb.1.1
  have hfl := splitL_flat (sizesL (bestPlan n 0 4 e).order n 0) e (by omega)
  unfold planBits
  rw [bitsP_len]
  unfold costP
  have h1 := sum_cost_le (bestPlan n 0 4 e).ks (splitL (sizesL (bestPlan n 0 4 e).order n 0) e) (ksOk_best e) (fun p hp x hx => hw x (by rw [← hfl]; exact List.mem_flatten.2 ⟨p, hp, hx⟩))
  rw [splitL_len, hfl, hsl] at h1
  have h2 : 2 ^ (bestPlan n 0 4 e).order ≤ 2 ^ 4 := Nat.pow_le_pow_right (by decide) hb.2.2
  omega
theorem tile_two_len (l : List Int) {W H d : Nat} (h0 : 1 ≤ d) (h1 : d ≤ 16) (hW : W ≤ 16) (hH : H ≤ 16) : 0 < (tileBits 2 l W H d).length ∧ (tileBits 2 l W H d).length < 549755813888 := by
  have e : tileBits 2 l W H d = bitsOf 2 3 ++ (allOf (kindsI l W H d) 4 ++ planBits (foreF l W H d) (W * H)) := rfl
  have hp := plan_len (foreF_len l W H d) (foreF_wide l W H d h0 h1)
  have hm : W * H ≤ 16 * 16 := Nat.mul_le_mul hW hH
  rw [e, List.length_append, List.length_append, bitsOf_len, all_len, kindsI_len]
  omega
theorem tile_three_len (l : List Int) {W H d : Nat} (h0 : 1 ≤ d) (h1 : d ≤ 16) (hW : W ≤ 16) (hH : H ≤ 16) : 0 < (tileBits 3 l W H d).length ∧ (tileBits 3 l W H d).length < 549755813888 := by
  have e : tileBits 3 l W H d = bitsOf 3 3 ++ modelBits l W d (W * H) := rfl
  have hp := modelBits_len l W h0 h1 (by have := Nat.pow_le_pow_right (n := 2) (by decide) h1; have e : ((2 ^ d : Nat) : Int) = (2 : Int) ^ d := by simp
                                         omega) (W * H)
  have hm : W * H ≤ 16 * 16 := Nat.mul_le_mul hW hH
  rw [e, List.length_append, bitsOf_len]
  omega
theorem tile_four_len (l : List Int) {W H d : Nat} (h1 : d ≤ 16) (hl : l.length ≤ 256) : 0 < (tileBits 4 l W H d).length ∧ (tileBits 4 l W H d).length < 549755813888 := by
  have e : tileBits 4 l W H d = bitsOf 4 3 ++ matchBits (leastF l (d + 1) 12) W d := rfl
  have hp := matchBits_len (leastF l (d + 1) 12) W d h1
  have hm := leastF_len l (d + 1) 12
  rw [e, List.length_append, bitsOf_len]
  omega
/-- The condition on the world may be turned into a stronger one. -/
theorem wpAnyH_mono {P : Program} {md : Region.Mode} {ops : Array Oper} {Q : Exit → Act → World → Prop} {S S' : World → Prop} (h : ∀ w, S' w → S w) :
    ∀ (fuel : Nat) (listed : Array Bool) (a : Act) (w : World), wpAnyH P md ops Q S' fuel listed a w → wpAnyH P md ops Q S fuel listed a w
  | 0, _, _, _, h1 => h1
  | fuel + 1, _, _, _, h1 => ⟨h1.1, fun i hi => wpOp_mono (fun a' w' h' => ⟨h _ h'.1, wpAnyH_mono h fuel _ a' w' h'.2⟩) (h1.2 i hi)⟩
end Go.Proofs.YtpkplhmdnjdmoaaGreatDoor

/- How many bits a tile of each kind takes at the most. Plain. -/
namespace Go.Proofs.YtpkplhmdnjdmoaaGreatDoor
set_option linter.unusedSimpArgs false
set_option linter.unusedVariables false

theorem symsBits_le {lens : List Nat} (hle : ∀ x ∈ lens, x ≤ 24) : ∀ (l : List Nat), (symsBits lens l).length ≤ 24 * l.length
  | [] => by simp [symsBits]
  | s :: l => by
    have h := symsBits_le hle l
    have e : symsBits lens (s :: l) = symBits lens s ++ symsBits lens l := rfl
    have h2 : lenAt lens s ≤ 24 := by
      unfold lenAt
      rw [List.getD_eq_getElem?_getD]
      cases hx : lens[s]? with
      | none => simp
      | some x => exact hle x (List.mem_of_getElem? hx)
    rw [e, List.length_append, symBits_len, List.length_cons]
    omega
theorem tile_len_all {k : Nat} (hk : k ≤ 7) {l : List Int} {W H d : Nat} (hw0 : 1 ≤ W) (hh0 : 1 ≤ H) (h0 : 1 ≤ d) (h1 : d ≤ 16) (hW : W ≤ 16) (hH : H ≤ 16) (hl : l.length = W * H) (hm : mayB k l W d = true) :
    0 < (tileBits k l W H d).length ∧ (tileBits k l W H d).length < 549755813888 := by
  have hmul : W * H ≤ 16 * 16 := Nat.mul_le_mul hW hH
  have hpos : 0 < W * H := Nat.mul_pos hw0 hh0
  rcases (show k = 0 ∨ k = 1 ∨ k = 2 ∨ k = 3 ∨ k = 4 ∨ k = 5 ∨ k = 6 ∨ k = 7 by omega) with rfl | rfl | rfl | rfl | rfl | rfl | rfl | rfl
  · have e : tileBits 0 l W H d = bitsOf 0 3 ++ bitsOf (l.getD 0 0).toNat d := rfl
    rw [e, List.length_append, bitsOf_len, bitsOf_len]; omega
  · have e : tileBits 1 l W H d = bitsOf 1 3 ++ allOf l d := rfl
    rw [e, List.length_append, bitsOf_len, all_len, hl]
    have := Nat.mul_le_mul h1 hmul
    omega
  · exact tile_two_len l h0 h1 hW hH
  · exact tile_three_len l h0 h1 hW hH
  · exact tile_four_len l h1 (by omega)
  · have e : tileBits 5 l W H d = bitsOf 5 3 ++ (bitsOf (rangedL l W d).length 16 ++ (rangedL l W d).flatMap fun x => bitsOf x 8) := rfl
    have hr := rangedL_len l W h0 h1
    have h8 : ∀ R : List Nat, (R.flatMap fun x => bitsOf x 8).length = 8 * R.length := by
      intro R
      induction R with
      | nil => rfl
      | cons x R ih => rw [List.flatMap_cons, List.length_append, bitsOf_len, ih, List.length_cons]; omega
    rw [e, List.length_append, List.length_append, bitsOf_len, bitsOf_len, h8]
    omega
  · have e : tileBits 6 l W H d = bitsOf 6 3 ++ (bitsOf ((diffL l).length - 1) 4 ++ allOf (diffL l) d ++ allOf (idxL l) (bitsN (diffL l).length)) := rfl
    have hd : (diffL l).length ≤ 16 := by simpa [mayB] using hm
    have hb := bitsN_le hd
    have h3 := Nat.mul_le_mul h1 hd
    have h4 : bitsN (diffL l).length * l.length ≤ 4 * (16 * 16) := Nat.mul_le_mul hb (by omega)
    rw [e, List.length_append, List.length_append, List.length_append, bitsOf_len, bitsOf_len, all_len, all_len, idxL_len]
    omega
  · have e : tileBits 7 l W H d = bitsOf 7 3 ++ (tableBits (prefLens l W d) ++ symsBits (prefLens l W d) (foldedN l W d)) := rfl
    have hmx : maxN (foldedN l W d) < 256 := by simpa [mayB] using hm
    obtain ⟨hf, -⟩ := pref_ok (l := l) (W := W) (d := d) (by omega) hmx
    have h2 := tableBits_len (prefLens l W d)
    have h3 := symsBits_le hf.le (foldedN l W d)
    have h4 := hf.n2
    rw [foldedN_len] at h3
    rw [e, List.length_append, List.length_append, bitsOf_len]
    omega
end Go.Proofs.YtpkplhmdnjdmoaaGreatDoor

/- The law TileBack by its contract. -/
namespace Go.Proofs.YtpkplhmdnjdmoaaGreatDoor
set_option linter.unusedSimpArgs false
set_option linter.unusedVariables false
open Go.RowKit

theorem may_mid {k : Nat} (h1 : 1 ≤ k) (h2 : k ≤ 5) (l : List Int) (W d : Nat) : mayB k l W d = true := by
  unfold mayB
  rw [if_neg (by omega), if_pos h2]
set_option maxRecDepth 100000 in
set_option maxHeartbeats 4000000 in
theorem back_ok (w : World) (A : Option Addr) (cap : Nat) (L : List Int) (hc : Cells vi w A L) (hin : ∀ x ∈ L, In64 x) (hlen : L.length ≤ 9223372036854775807) (hp : Pts w) :
    Calls Tryz.prog 6 #[.slice A L.length cap] w fun e w' => e = .returned (.bool true) ∧ Chg [] w w' := by
  have hnew := tape_new w A cap L hc hin hlen
  have HP := hid hp
  clear hc hin hlen hp
  go_enter Tryz.func6, Tryz.ntmps6
  go_wp2_with fail
  refine hnew.mono ?_
  rintro e w1 ⟨b, rfl, htp, ch1, hb⟩
  have hdr := drawn_tp w1 b cap 0 A L htp
  clear hnew htp
  go_wp2_with fail
  refine hdr.mono ?_
  rintro e w2 ⟨vl, g, l, at', W, H, d, rfl, hrow, hll, hsm, _, ch2, hg, hW0, hW1, hH0, hH1, hd0, hd1⟩
  have hC2 : Chg [] w w2 := ch1.trans ch2 fun x hx => .inr (by simp at hx; omega)
  obtain ⟨capl, rfl, hcl⟩ := Row.cells_vi hrow
  have hglt := hrow.lt
  have ht2 : Tile w2 l (some ⟨g, 0, none⟩) W H d := ⟨hW0, hW1, hH0, hH1, hd0, hd1, hll, hsm, hcl⟩
  obtain ⟨b1, hb1⟩ : ∃ b1, b1 = w2.heap.size := ⟨_, rfl⟩
  obtain ⟨wa, hwa⟩ : ∃ wa, wa = w2.alloc (.cells #[.slice none 0 0, .int .i64 0] 37) := ⟨_, rfl⟩
  have cha : Chg [] w2 wa := by rw [hwa]; exact (Chg.refl [] w2).alloc _
  have hwra : IsWr wa b1 [b1] [] := by rw [hwa, hb1]; exact IsWr.new w2
  have hpw := HP.out.lt
  have hsz2 := hC2.size
  have hput1 := tput_ok capl (ht2.same cha) (HP.out.same (hC2.trans_same cha)) b1 [b1] [] hwra (apt_block (by simp; omega)) (by simp; omega) (by simp)
  unfold PutPost at hput1
  rw [List.nil_append] at hput1
  have hbk := bestKind_ok l W H d
  have hlen1 := tile_len_all hbk.1 hW0 hH0 hd0 hd1 hW1 hH1 hll hbk.2.1
  obtain ⟨bk, hbke⟩ : ∃ bk, bk = bestKind l W H d := ⟨_, rfl⟩
  rw [← hbke] at hput1 hbk hlen1
  obtain ⟨n, hn⟩ : ∃ n, n = l.length := ⟨_, rfl⟩
  rw [← hn] at hput1 ⊢
  have hn1 : n ≤ 256 := by rw [hn, hll]; exact Nat.mul_le_mul hW1 hH1
  have HN := hid hn
  have HT2 := hid ht2
  have HBK := hid hbk
  have HLN := hid hlen1
  have HWA := hid hwa
  have HB1 := hid hb1
  have HC2 := hid hC2
  have HCA := hid cha
  have HSM := hid hsm
  have HLL := hid hll
  clear hdr hn hcl hrow ch1 ch2 hg hsm hll ht2 hwa hb1 cha hwra hbk hlen1 hbke hC2
  go_wp2_with fail
  rw [← HWA.out, ← HB1.out]
  refine hput1.mono ?_
  rintro e w3 ⟨rfl, F1, hwr1, hgr1⟩
  have hC3 : Chg [] w w3 := (HC2.out.trans_same HCA.out).trans hgr1.chg fun x hx => .inr (by have := HB1.out; simp at hx; omega)
  have ht3 := (HT2.out.same HCA.out).chg (apt_block (by simp; have := HB1.out; omega)) hgr1.chg
  have HC3 := hid hC3
  have HT3 := hid ht3
  have HWR := hid hwr1
  have HP3 := hid (HP.out.same hC3)
  clear hput1 hgr1 ht3 hwr1 hC3
  go_wp2_with fail
  go_loopg [8, 9, 10, 11, 12, 13, 14] 8 (fun j v8 v9 va vb vc vd ve wr => ∃ (k m : Nat), v8 = .int .i64 (m : Int) ∧ v9 = .int .i64 (k : Int) ∧ k + j = 8 ∧ m ≤ k ∧ Hid ((k ≤ 6 → k ≤ m + 1) ∧ (6 ≤ k → 5 ≤ m)) ∧ Hid (Chg [] w3 wr))
  case atStart => exact ⟨0, 0, rfl, rfl, rfl, Nat.le_refl _, hid ⟨fun _ => by omega, fun h => by omega⟩, hid (Chg.refl _ _)⟩
  case round =>
    obtain ⟨k, m, rfl, rfl, hkj, hmk, HM, HCH⟩ := hrel
    have htr := HT3.out.same HCH.out
    have hpr := HP3.out.same HCH.out
    have hwrr := HWR.out.same HCH.out
    have h0r := hpr.lt
    rcases gk with _ | j
    · obtain rfl : k = 8 := by omega
      have hm5 : 5 ≤ m := HM.out.2 (by omega)
      have t1 : decide ((((8 : Nat) : Int)) ≤ 7) = false := by decide
      have t2 : decide ((5 : Int) ≤ (m : Int)) = true := decide_eq_true (by omega)
      have hby := wbytes_ok wr b1 F1 _ hwrr HLN.out.2
      have hbit := hwrr.bit
      go_wp2_with fail
      refine hby.mono ?_
      rintro e w7 ⟨v3, G3, rfl, own3, ch7, hG3⟩
      obtain ⟨A3, c3, rfl, hc31, hc32, hc3⟩ := own3.open_map
      have hnw := rnew_ok w7 A3 c3 _ hc3 (packed_dig hbit) (by rw [packed_len]; have := HLN.out.2; omega) hc31 hc32
      clear hby own3
      go_wp2_with fail
      refine hnw.mono ?_
      rintro e w8 ⟨b3, F3, rfl, hrd8, ch8, hF3⟩
      have hch8 := hid ((HCH.out.trans_same ch7).trans_same ch8)
      have h0F : 0 ∉ F3 := fun h0 => by have := hF3 0 h0; have := ch7.size; omega
      have hget := tget_all hrd8 hW0 hW1 hH0 hH1 hd0 hd1 HLL.out HSM.out HBK.out.1 (HP3.out.same hch8.out) h0F HBK.out.2.1 (ahead_whole hbit)
      unfold GetPost at hget
      clear hnw
      go_wp2_with fail
      refine hget.mono ?_
      rintro e w9 ⟨v4, G4, rfl, own9, hrd9, ch9, hG4⟩
      have hw8b : w7.heap.size ≤ b3 := hF3 b3 hrd8.mem
      have hs7 := ch7.size
      have hC9 : Chg [] w3 w9 := HCH.out.trans ((ch7.trans_same ch8).trans ch9 (fun x hx => .inr (by simp at hx; omega))) (by simp)
      obtain ⟨A4, c4, rfl, hc41, hc42, hc4⟩ := own9.open_map
      have ht9 := HT3.out.same hC9
      have hin := ints_ok w9 A4 (some ⟨g, 0, none⟩) c4 capl l l hc4 ht9.cells (by rw [← HN.out]; omega) (by rw [← HN.out]; omega)
      rw [← HN.out] at hin ⊢
      have hdl : decide (l = l) = true := by simp
      rw [hdl] at hin
      have hC09 := HC3.out.trans_same hC9
      have hkn := fun wz (hz : Chg [] w wz) => known_ok wz (HP.out.same hz)
      clear hget hdl hrd9 hrd8 hwrr hc4 ht9 own9 htr
      go_wp2_with fail
      refine hin.mono ?_
      rintro e wq ⟨rfl, nq, rfl⟩
      have hCq := hC09.drewN nq
      have hkq := hkn _ hCq
      go_wp2_with fail
      refine hkq.mono ?_
      rintro e wk ⟨rfl, chk⟩
      go_wp2
      go_ret
      exact ⟨rfl, hCq.trans_same chk⟩
    · have hk7 : k ≤ 7 := by omega
      have t1 : decide ((k : Int) ≤ 7) = true := decide_eq_true (by omega)
      have hmay := may_all capl htr k hk7
      unfold MayPost at hmay
      rw [← HN.out] at hmay
      by_cases hm : mayB k l W d = true
      · rw [hm] at hmay
        go_wp2_with fail
        refine hmay.mono ?_
        rintro e w4 ⟨rfl, ch4⟩
        have ht4 := htr.same ch4
        have hp4 := hpr.same ch4
        have hs4 := ch4.size
        have hgl4 : g < w4.heap.size := by have := HB1.out; have := HC3.out.size; have := HCH.out.size; have := (HWR.out.lt b1 HWR.out.mem); omega
        obtain ⟨b2, hb2⟩ : ∃ b2, b2 = w4.heap.size := ⟨_, rfl⟩
        obtain ⟨w5, hw5⟩ : ∃ w5, w5 = w4.alloc (.cells #[.slice none 0 0, .int .i64 0] 37) := ⟨_, rfl⟩
        have ch5 : Chg [] w4 w5 := by rw [hw5]; exact (Chg.refl [] w4).alloc _
        have hwr5 : IsWr w5 b2 [b2] [] := by rw [hw5, hb2]; exact IsWr.new w4
        have hput := putBy_all capl (ht4.same ch5) b2 [b2] [] hwr5 (apt_block (by simp; omega)) (hp4.same ch5) (by simp; omega) (by simp) k hk7 hm
        unfold PutPost at hput
        rw [List.nil_append, ← HN.out] at hput
        have hln := tile_len_all hk7 hW0 hH0 hd0 hd1 hW1 hH1 HLL.out hm
        have hbest := HBK.out.2.2 k hk7 hm
        unfold costK at hbest
        have HW5 := hid hw5
        have HB2 := hid hb2
        have hch5 := hid (HCH.out.trans_same (ch4.trans_same ch5))
        have HLNk := hid hln
        have HBST := hid hbest
        clear hmay hwr5 hw5 hb2 hln hbest htr hpr hwrr
        go_wp2_with fail
        rw [← HW5.out, ← HB2.out]
        refine hput.mono ?_
        rintro e w6 ⟨rfl, F2, hwr6, hgr6⟩
        have hch6 := hid (hch5.out.trans hgr6.chg fun x hx => .inr (by have := HB2.out; have := HCH.out.size; simp at hx; omega))
        have hby := wbytes_ok w6 b2 F2 _ hwr6 HLNk.out.2
        have hbit := hwr6.bit
        clear hput
        go_wp2_with fail
        refine hby.mono ?_
        rintro e w7 ⟨v3, G3, rfl, own3, ch7, hG3⟩
        obtain ⟨A3, c3, rfl, hc31, hc32, hc3⟩ := own3.open_map
        have hnw := rnew_ok w7 A3 c3 _ hc3 (packed_dig hbit) (by rw [packed_len]; have := HLNk.out.2; omega) hc31 hc32
        clear hby own3
        go_wp2_with fail
        refine hnw.mono ?_
        rintro e w8 ⟨b3, F3, rfl, hrd8, ch8, hF3⟩
        have hch8 := hid ((hch6.out.trans_same ch7).trans_same ch8)
        have h0F : 0 ∉ F3 := fun h0 => by have := hF3 0 h0; have := ch7.size; have := hgr6.size; have := ch5.size; omega
        have hget := tget_all hrd8 hW0 hW1 hH0 hH1 hd0 hd1 HLL.out HSM.out hk7 (HP3.out.same hch8.out) h0F hm (ahead_whole hbit)
        unfold GetPost at hget
        clear hnw
        go_wp2_with fail
        refine hget.mono ?_
        rintro e w9 ⟨v4, G4, rfl, own9, hrd9, ch9, hG4⟩
        have hF3b : b3 ∈ F3 := hrd8.mem
        have hs8 := ch8.size
        have hs7 := ch7.size
        have hw8b : w7.heap.size ≤ b3 := hF3 b3 hF3b
        have ch69 : Chg [] w6 w9 := (ch7.trans_same ch8).trans ch9 (fun x hx => .inr (by simp at hx; omega))
        have hwr9 := hwr6.same ch69
        have hch9 := hid (hch6.out.trans_same ch69)
        obtain ⟨A4, c4, rfl, hc41, hc42, hc4⟩ := own9.open_map
        have ht9 := HT3.out.same hch9.out
        have hin := ints_ok w9 A4 (some ⟨g, 0, none⟩) c4 capl l l hc4 ht9.cells (by rw [← HN.out]; omega) (by rw [← HN.out]; omega)
        rw [← HN.out] at hin ⊢
        have hdl : decide (l = l) = true := by simp
        rw [hdl] at hin
        obtain ⟨T, hT⟩ : ∃ T, T = tileBits k l W H d := ⟨_, rfl⟩
        obtain ⟨q, hq⟩ : ∃ q, q = T.length := ⟨_, rfl⟩
        obtain ⟨T1, hT1⟩ : ∃ T1, T1 = tileBits bk l W H d := ⟨_, rfl⟩
        obtain ⟨q1, hq1⟩ : ∃ q1, q1 = T1.length := ⟨_, rfl⟩
        have hbs := HBST.out
        rw [← hT] at hrd9 hwr9
        rw [← hT, ← hT1, ← hq, ← hq1] at hbs
        have hck : costK k l W H d = q := by unfold costK; rw [hq, hT]
        have u1 : decide ((q : Int) < (q1 : Int)) = false := decide_eq_false (by omega)
        have u1' : decide (q < q1) = false := decide_eq_false (by omega)
        have HQ := hid hq
        have HQ1 := hid hq1
        have HT1 := hid hT1
        have HCK := hid hck
        have HR9 := hid hrd9
        have HW9 := hid hwr9
        clear hget hdl hT hq hT1 hq1 hbs hck hrd9 hwr9 hrd8 hwr6 hgr6 own9 hc4 hc41 hc42 ht9 ht4 hp4
        go_wp2_with fail
        refine hin.mono ?_
        rintro e wq ⟨rfl, nq, rfl⟩
        have chq : Chg [] w9 (w9.drewN nq) := (Chg.refl [] w9).drewN nq
        generalize w9.drewN nq = wq at chq
        have hat := at_ok wq b3 F3 _ _ (HR9.out.same chq)
        rw [Nat.zero_add, ← HQ.out] at hat
        have hl2 := wlen_any wq b2 F2 _ (HW9.out.same chq)
        rw [← HQ.out] at hl2
        have hchq := hid (hch9.out.trans_same chq)
        have hco := cost_ok capl (HT3.out.same hchq.out) (HP3.out.same hchq.out) k hk7 hm
        rw [HCK.out, ← HN.out] at hco
        go_wp2_with fail
        refine hat.mono ?_
        rintro e wx ⟨rfl, rfl⟩
        go_wp2_with fail
        refine hl2.mono ?_
        rintro e wx ⟨rfl, rfl⟩
        go_wp2_with fail
        refine hl2.mono ?_
        rintro e wx ⟨rfl, rfl⟩
        go_wp2_with fail
        refine hco.mono ?_
        rintro e wc ⟨rfl, chc⟩
        have hl3 := wlen_any wc b2 F2 _ ((HW9.out.same chq).same chc)
        rw [← HQ.out] at hl3
        have hchc := hid (hchq.out.trans_same chc)
        have hl4 := wlen_any wc b1 F1 _ (HWR.out.same hchc.out)
        rw [← HT1.out, ← HQ1.out] at hl4
        clear hat hl2 hco hin
        go_wp2_with fail
        refine hl3.mono ?_
        rintro e wx ⟨rfl, rfl⟩
        go_wp2_with fail
        refine hl4.mono ?_
        rintro e wx ⟨rfl, rfl⟩
        clear hl3 hl4
        go_wp2_with fail
        go_roundg j
        case measure => omega
        case rel =>
          have h1 := HM.out.1
          have h2 := HM.out.2
          exact ⟨k + 1, m + 1, by go_num, by go_num, by omega, by omega, hid ⟨fun h => by omega, fun h => by omega⟩, hchc⟩
      · have hm' : mayB k l W d = false := by simpa using hm
        rw [hm'] at hmay
        have hkk : k = 0 ∨ 6 ≤ k := by
          rcases Nat.lt_or_ge k 1 with h | h
          · left; omega
          · right
            rcases Nat.lt_or_ge 5 k with h2 | h2
            · exact h2
            · exact absurd (may_mid h h2 l W d) hm
        go_wp2_with fail
        refine hmay.mono ?_
        rintro e w4 ⟨rfl, ch4⟩
        clear hmay
        go_wp2_with fail
        go_roundg j
        case measure => omega
        case rel =>
          have h1 := HM.out.1
          have h2 := HM.out.2
          exact ⟨k + 1, m, rfl, by go_num, by omega, by omega, hid ⟨fun h => by omega, fun h => by omega⟩, hid (HCH.out.trans_same ch4)⟩
end Go.Proofs.YtpkplhmdnjdmoaaGreatDoor
