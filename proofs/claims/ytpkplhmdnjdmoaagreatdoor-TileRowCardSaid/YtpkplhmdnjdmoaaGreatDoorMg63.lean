/- The law TileBuilt: putBy, and what a writer answers in any later world. -/
import Derived.Test.YtpkplhmdnjdmoaaGreatDoorMg47
import Derived.Deep.RegionHeld
import Derived.Test.YtpkplhmdnjdmoaaGreatDoorMg61
import Derived.Test.YtpkplhmdnjdmoaaGreatDoorMg53
import Derived.Test.YtpkplhmdnjdmoaaGreatDoorMg46
set_option linter.unusedVariables false
set_option linter.unusedSimpArgs false
namespace Go.Proofs.YtpkplhmdnjdmoaaGreatDoor
set_option linter.unusedSimpArgs false
set_option linter.unusedVariables false
open Go.RowKit

set_option maxRecDepth 100000 in
set_option maxHeartbeats 1000000 in
theorem lputBy_ok {w : World} {l : List Int} {A : Option Addr} {W H d : Nat} (cap : Nat) (t : Tile w l A W H d) (hp : Pts w) (k : Nat) (hk : k ≤ 7) (hm : mayB k l W d = true) :
    Calls Tryz.prog 24 #[.int .i64 k, .slice A l.length cap, .int .i64 W, .int .i64 H, .int .i64 d] w fun e w' => ∃ b F, e = .returned (.tuple #[.pointer (some ⟨b, 0, none⟩), .bool true]) ∧ IsWr w' b F (tileBits k l W H d) ∧ Chg [] w w' ∧ ∀ x ∈ F, w.heap.size ≤ x := by
  obtain ⟨w1, hw1⟩ : ∃ w1, w1 = w.alloc (.cells #[.slice none 0 0, .int .i64 0] 37) := ⟨_, rfl⟩
  obtain ⟨B, hB⟩ : ∃ B, B = w.heap.size := ⟨_, rfl⟩
  have hwr : IsWr w1 B [B] [] := by rw [hw1, hB]; exact IsWr.new w
  have ch1 : Chg [] w w1 := by rw [hw1]; exact (Chg.refl [] w).alloc _
  have hp0 := hp.lt
  have hap : Apt A l [B] := Apt.fresh t.cells (F := [B]) (by rw [hB]; simp)
  have hpb := putBy_all cap (t.same ch1) B [B] [] hwr hap (hp.same ch1) (by simp; omega) (by simp) k hk hm
  unfold PutPost at hpb
  rw [List.nil_append] at hpb
  generalize tileBits k l W H d = ts at *
  have HB : Hid (∀ x ∈ [B], w.heap.size ≤ x) := hid (by intro x hx; rw [List.mem_singleton.1 hx, hB]; exact Nat.le_refl _)
  have HW1 := hid hw1
  have HBB := hid hB
  clear t hp hm hk hw1 hB hwr hap hp0
  go_enter Tryz.func24, Tryz.ntmps24
  go_wp2_with fail
  rw [← HW1.out, ← HBB.out]
  refine hpb.mono ?_
  rintro e w2 ⟨rfl, F2, hwr2, hgr2⟩
  go_wp2_with fail
  go_ret2
  exact ⟨B, F2, rfl, hwr2, hgr2.fresh HB.out ch1, hgr2.freshF HB.out ch1⟩

/-- The bytes of a writer as a string. -/
def strT (T : List Nat) : ByteArray := strOfNums ((packed T).map Int.ofNat)
/-- What a writer answers in any later world. -/
def LenAt (w : World) (b n : Nat) : Prop := ∀ wz, Chg [] w wz → Calls Tryz.prog 25 #[.pointer (some ⟨b, 0, none⟩)] wz fun e w' => e = .returned (.int .i64 (n : Int)) ∧ wz = w'
def BytesAt (w : World) (b : Nat) (S : ByteArray) : Prop := ∀ wz, Chg [] w wz → Calls Tryz.prog 26 #[.pointer (some ⟨b, 0, none⟩)] wz fun e w' =>
  ∃ v, e = .returned v ∧ (∀ wy, Chg [] w' wy → (Go.convert 35 9 v).run Tryz.prog wy = .ok (.string S) wy) ∧ Chg [] w w' ∧ Chg [] wz w'
theorem lenAt_of {w : World} {b : Nat} {F T : List Nat} (h : IsWr w b F T) : LenAt w b T.length := fun wz hz => wlen_any wz b F T (h.same hz)
theorem bytesAt_of {w : World} {b : Nat} {F T : List Nat} (h : IsWr w b F T) (h0 : 0 < T.length) (h1 : T.length < 549755813888) : BytesAt w b (strT T) := fun wz hz => by
  refine (wbytes_ok wz b F T (h.same hz) h1).mono ?_
  rintro e w' ⟨v, G, rfl, hown, ch, hG⟩
  obtain ⟨A, cap, rfl, hcl, hcm, hcells⟩ := hown.open_map
  refine ⟨_, rfl, fun wy hy => ?_, hz.trans_same ch, ch⟩
  obtain ⟨g, o, rfl, hlt, hcell⟩ := (hcells.same hy).ex (by rw [packed_len]; omega)
  exact run_convert_bytes_arg wy 35 5 Tryz.underlying35 Tryz.underlying5 g o _ cap ((packed T).map Int.ofNat) (by simp) (fun i hi => by
    have := hcell i _ (List.getElem?_eq_getElem hi)
    rw [this]
    have e : ((packed T).map Int.ofNat).getD i 0 = ((packed T)[i] : Nat) := by
      rw [List.getD_eq_getElem?_getD, List.getElem?_map, List.getElem?_eq_getElem hi]
      rfl
    rw [e]
    rfl) 9 Tryz.underlying9
theorem sum_cost_le : ∀ (ks : List Nat) (ps : List (List Int)), KsOk ks → (∀ p ∈ ps, ∀ x ∈ p, wideP x) → ((ks.zip ps).map (fun p => partCost p.1 p.2)).sum ≤ 10 * ps.length + 65 * ps.flatten.length
  | [], ps, _, _ => by simp
  | k :: ks, [], _, _ => by simp
  | k :: ks, p :: ps, hk, hp => by
    have h1 := sum_cost_le ks ps (fun x hx => hk x (by simp [hx])) (fun q hq => hp q (by simp [hq]))
    have h2 := partCost_le (hk k (by simp)) (hp p (by simp))
    simp only [List.zip_cons_cons, List.map_cons, List.sum_cons, List.length_cons, List.flatten_cons, List.length_append]
    omega
theorem plan_len {e : List Int} {n : Nat} (hn : e.length = n) (hw : ∀ x ∈ e, wideP x) : (planBits e n).length ≤ 4 + (160 + 65 * n) := by
  have hb := bestPlan_ok (n := n) (warm := 0) (most := 4) (by omega) e
  have hss := sizesL_sum hb.1.1
  have hsl := sizesL_len hb.1.1
  have hfl := splitL_flat (sizesL (bestPlan n 0 4 e).order n 0) e (by omega)
  unfold planBits
  rw [bitsP_len]
  unfold costP
  have h1 := sum_cost_le (bestPlan n 0 4 e).ks (splitL (sizesL (bestPlan n 0 4 e).order n 0) e) (ksOk_best e) (fun p hp x hx => hw x (by rw [← hfl]; exact List.mem_flatten.2 ⟨p, hp, hx⟩))
  rw [splitL_len, hfl, hsl] at h1
  have h2 : 2 ^ (bestPlan n 0 4 e).order ≤ 2 ^ 4 := Nat.pow_le_pow_right (by decide) hb.2.2
  omega
theorem tile_two_len (l : List Int) {W H d : Nat} (h0 : 1 ≤ d) (h1 : d ≤ 16) (hW : W ≤ 16) (hH : H ≤ 16) : 0 < (tileBits 2 l W H d).length ∧ (tileBits 2 l W H d).length < 549755813888 := by
  have e : tileBits 2 l W H d = bitsOf 2 3 ++ (allOf (kindsI l W H d) 4 ++ planBits (foreF l W H d) (W * H)) := rfl
  have hp := plan_len (foreF_len l W H d) (foreF_wide l W H d h0 h1)
  have hm : W * H ≤ 16 * 16 := Nat.mul_le_mul hW hH
  rw [e, List.length_append, List.length_append, bitsOf_len, all_len, kindsI_len]
  omega
theorem tile_three_len (l : List Int) {W H d : Nat} (h0 : 1 ≤ d) (h1 : d ≤ 16) (hW : W ≤ 16) (hH : H ≤ 16) : 0 < (tileBits 3 l W H d).length ∧ (tileBits 3 l W H d).length < 549755813888 := by
  have e : tileBits 3 l W H d = bitsOf 3 3 ++ modelBits l W d (W * H) := rfl
  have hp := modelBits_len l W h0 h1 (by have := Nat.pow_le_pow_right (n := 2) (by decide) h1; have e : ((2 ^ d : Nat) : Int) = (2 : Int) ^ d := by simp
                                         omega) (W * H)
  have hm : W * H ≤ 16 * 16 := Nat.mul_le_mul hW hH
  rw [e, List.length_append, bitsOf_len]
  omega
theorem tile_four_len (l : List Int) {W H d : Nat} (h1 : d ≤ 16) (hl : l.length ≤ 256) : 0 < (tileBits 4 l W H d).length ∧ (tileBits 4 l W H d).length < 549755813888 := by
  have e : tileBits 4 l W H d = bitsOf 4 3 ++ matchBits (leastF l (d + 1) 12) W d := rfl
  have hp := matchBits_len (leastF l (d + 1) 12) W d h1
  have hm := leastF_len l (d + 1) 12
  rw [e, List.length_append, bitsOf_len]
  omega
/-- The condition on the world may be turned into a stronger one. -/
theorem wpAnyH_mono {P : Program} {md : Region.Mode} {ops : Array Oper} {Q : Exit → Act → World → Prop} {S S' : World → Prop} (h : ∀ w, S' w → S w) :
    ∀ (fuel : Nat) (listed : Array Bool) (a : Act) (w : World), wpAnyH P md ops Q S' fuel listed a w → wpAnyH P md ops Q S fuel listed a w
  | 0, _, _, _, h1 => h1
  | fuel + 1, _, _, _, h1 => ⟨h1.1, fun i hi => wpOp_mono (fun a' w' h' => ⟨h _ h'.1, wpAnyH_mono h fuel _ a' w' h'.2⟩) (h1.2 i hi)⟩
end Go.Proofs.YtpkplhmdnjdmoaaGreatDoor

/- How many bits a tile of each kind takes at the most. Plain. -/
namespace Go.Proofs.YtpkplhmdnjdmoaaGreatDoor
set_option linter.unusedSimpArgs false
set_option linter.unusedVariables false

theorem symsBits_le {lens : List Nat} (hle : ∀ x ∈ lens, x ≤ 24) : ∀ (l : List Nat), (symsBits lens l).length ≤ 24 * l.length
  | [] => by simp [symsBits]
  | s :: l => by
    have h := symsBits_le hle l
    have e : symsBits lens (s :: l) = symBits lens s ++ symsBits lens l := rfl
    have h2 : lenAt lens s ≤ 24 := by
      unfold lenAt
      rw [List.getD_eq_getElem?_getD]
      cases hx : lens[s]? with
      | none => simp
      | some x => exact hle x (List.mem_of_getElem? hx)
    rw [e, List.length_append, symBits_len, List.length_cons]
    omega
theorem tile_len_all {k : Nat} (hk : k ≤ 7) {l : List Int} {W H d : Nat} (hw0 : 1 ≤ W) (hh0 : 1 ≤ H) (h0 : 1 ≤ d) (h1 : d ≤ 16) (hW : W ≤ 16) (hH : H ≤ 16) (hl : l.length = W * H) (hm : mayB k l W d = true) :
    0 < (tileBits k l W H d).length ∧ (tileBits k l W H d).length < 549755813888 := by
  have hmul : W * H ≤ 16 * 16 := Nat.mul_le_mul hW hH
  have hpos : 0 < W * H := Nat.mul_pos hw0 hh0
  rcases (show k = 0 ∨ k = 1 ∨ k = 2 ∨ k = 3 ∨ k = 4 ∨ k = 5 ∨ k = 6 ∨ k = 7 by omega) with rfl | rfl | rfl | rfl | rfl | rfl | rfl | rfl
  · have e : tileBits 0 l W H d = bitsOf 0 3 ++ bitsOf (l.getD 0 0).toNat d := rfl
    rw [e, List.length_append, bitsOf_len, bitsOf_len]; omega
  · have e : tileBits 1 l W H d = bitsOf 1 3 ++ allOf l d := rfl
    rw [e, List.length_append, bitsOf_len, all_len, hl]
    have := Nat.mul_le_mul h1 hmul
    omega
  · exact tile_two_len l h0 h1 hW hH
  · exact tile_three_len l h0 h1 hW hH
  · exact tile_four_len l h1 (by omega)
  · have e : tileBits 5 l W H d = bitsOf 5 3 ++ (bitsOf (rangedL l W d).length 16 ++ (rangedL l W d).flatMap fun x => bitsOf x 8) := rfl
    have hr := rangedL_len l W h0 h1
    have h8 : ∀ R : List Nat, (R.flatMap fun x => bitsOf x 8).length = 8 * R.length := by
      intro R
      induction R with
      | nil => rfl
      | cons x R ih => rw [List.flatMap_cons, List.length_append, bitsOf_len, ih, List.length_cons]; omega
    rw [e, List.length_append, List.length_append, bitsOf_len, bitsOf_len, h8]
    omega
  · have e : tileBits 6 l W H d = bitsOf 6 3 ++ (bitsOf ((diffL l).length - 1) 4 ++ allOf (diffL l) d ++ allOf (idxL l) (bitsN (diffL l).length)) := rfl
    have hd : (diffL l).length ≤ 16 := by simpa [mayB] using hm
    have hb := bitsN_le hd
    have h3 := Nat.mul_le_mul h1 hd
    have h4 : bitsN (diffL l).length * l.length ≤ 4 * (16 * 16) := Nat.mul_le_mul hb (by omega)
    rw [e, List.length_append, List.length_append, List.length_append, bitsOf_len, bitsOf_len, all_len, all_len, idxL_len]
    omega
  · have e : tileBits 7 l W H d = bitsOf 7 3 ++ (tableBits (prefLens l W d) ++ symsBits (prefLens l W d) (foldedN l W d)) := rfl
    have hmx : maxN (foldedN l W d) < 256 := by simpa [mayB] using hm
    obtain ⟨hf, -⟩ := pref_ok (l := l) (W := W) (d := d) (by omega) hmx
    have h2 := tableBits_len (prefLens l W d)
    have h3 := symsBits_le hf.le (foldedN l W d)
    have h4 := hf.n2
    rw [foldedN_len] at h3
    rw [e, List.length_append, List.length_append, bitsOf_len]
    omega
end Go.Proofs.YtpkplhmdnjdmoaaGreatDoor

/- The law TileBack by its contract. -/
namespace Go.Proofs.YtpkplhmdnjdmoaaGreatDoor
set_option linter.unusedSimpArgs false
set_option linter.unusedVariables false
open Go.RowKit

theorem may_mid {k : Nat} (h1 : 1 ≤ k) (h2 : k ≤ 5) (l : List Int) (W d : Nat) : mayB k l W d = true := by
  unfold mayB
  rw [if_neg (by omega), if_pos h2]
set_option maxRecDepth 100000 in
set_option maxHeartbeats 4000000 in
theorem back_ok (w : World) (A : Option Addr) (cap : Nat) (L : List Int) (hc : Cells vi w A L) (hin : ∀ x ∈ L, In64 x) (hlen : L.length ≤ 9223372036854775807) (hp : Pts w) :
    Calls Tryz.prog 6 #[.slice A L.length cap] w fun e w' => e = .returned (.bool true) ∧ Chg [] w w' := by
  have hnew := tape_new w A cap L hc hin hlen
  have HP := hid hp
  clear hc hin hlen hp
  go_enter Tryz.func6, Tryz.ntmps6
  go_wp2_with fail
  refine hnew.mono ?_
  rintro e w1 ⟨b, rfl, htp, ch1, hb⟩
  have hdr := drawn_tp w1 b cap 0 A L htp
  clear hnew htp
  go_wp2_with fail
  refine hdr.mono ?_
  rintro e w2 ⟨vl, g, l, at', W, H, d, rfl, hrow, hll, hsm, _, ch2, hg, hW0, hW1, hH0, hH1, hd0, hd1⟩
  have hC2 : Chg [] w w2 := ch1.trans ch2 fun x hx => .inr (by simp at hx; omega)
  obtain ⟨capl, rfl, hcl⟩ := Row.cells_vi hrow
  have hglt := hrow.lt
  have ht2 : Tile w2 l (some ⟨g, 0, none⟩) W H d := ⟨hW0, hW1, hH0, hH1, hd0, hd1, hll, hsm, hcl⟩
  obtain ⟨b1, hb1⟩ : ∃ b1, b1 = w2.heap.size := ⟨_, rfl⟩
  obtain ⟨wa, hwa⟩ : ∃ wa, wa = w2.alloc (.cells #[.slice none 0 0, .int .i64 0] 37) := ⟨_, rfl⟩
  have cha : Chg [] w2 wa := by rw [hwa]; exact (Chg.refl [] w2).alloc _
  have hwra : IsWr wa b1 [b1] [] := by rw [hwa, hb1]; exact IsWr.new w2
  have hpw := HP.out.lt
  have hsz2 := hC2.size
  have hput1 := tput_ok capl (ht2.same cha) (HP.out.same (hC2.trans_same cha)) b1 [b1] [] hwra (apt_block (by simp; omega)) (by simp; omega) (by simp)
  unfold PutPost at hput1
  rw [List.nil_append] at hput1
  have hbk := bestKind_ok l W H d
  have hlen1 := tile_len_all hbk.1 hW0 hH0 hd0 hd1 hW1 hH1 hll hbk.2.1
  obtain ⟨bk, hbke⟩ : ∃ bk, bk = bestKind l W H d := ⟨_, rfl⟩
  rw [← hbke] at hput1 hbk hlen1
  obtain ⟨n, hn⟩ : ∃ n, n = l.length := ⟨_, rfl⟩
  rw [← hn] at hput1 ⊢
  have hn1 : n ≤ 256 := by rw [hn, hll]; exact Nat.mul_le_mul hW1 hH1
  have HN := hid hn
  have HT2 := hid ht2
  have HBK := hid hbk
  have HLN := hid hlen1
  have HWA := hid hwa
  have HB1 := hid hb1
  have HC2 := hid hC2
  have HCA := hid cha
  have HSM := hid hsm
  have HLL := hid hll
  clear hdr hn hcl hrow ch1 ch2 hg hsm hll ht2 hwa hb1 cha hwra hbk hlen1 hbke hC2
  go_wp2_with fail
  rw [← HWA.out, ← HB1.out]
  refine hput1.mono ?_
  rintro e w3 ⟨rfl, F1, hwr1, hgr1⟩
  have hC3 : Chg [] w w3 := (HC2.out.trans_same HCA.out).trans hgr1.chg fun x hx => .inr (by have := HB1.out; simp at hx; omega)
  have ht3 := (HT2.out.same HCA.out).chg (apt_block (by simp; have := HB1.out; omega)) hgr1.chg
  have HC3 := hid hC3
  have HT3 := hid ht3
  have HWR := hid hwr1
  have HP3 := hid (HP.out.same hC3)
  clear hput1 hgr1 ht3 hwr1 hC3
  go_wp2_with fail
  go_loopg [8, 9, 10, 11, 12, 13, 14] 8 (fun j v8 v9 va vb vc vd ve wr => ∃ (k m : Nat), v8 = .int .i64 (m : Int) ∧ v9 = .int .i64 (k : Int) ∧ k + j = 8 ∧ m ≤ k ∧ Hid ((k ≤ 6 → k ≤ m + 1) ∧ (6 ≤ k → 5 ≤ m)) ∧ Hid (Chg [] w3 wr))
  case atStart => exact ⟨0, 0, rfl, rfl, rfl, Nat.le_refl _, hid ⟨fun _ => by omega, fun h => by omega⟩, hid (Chg.refl _ _)⟩
  case round =>
    obtain ⟨k, m, rfl, rfl, hkj, hmk, HM, HCH⟩ := hrel
    have htr := HT3.out.same HCH.out
    have hpr := HP3.out.same HCH.out
    have hwrr := HWR.out.same HCH.out
    have h0r := hpr.lt
    rcases gk with _ | j
    · obtain rfl : k = 8 := by omega
      have hm5 : 5 ≤ m := HM.out.2 (by omega)
      have t1 : decide ((((8 : Nat) : Int)) ≤ 7) = false := by decide
      have t2 : decide ((5 : Int) ≤ (m : Int)) = true := decide_eq_true (by omega)
      have hby := wbytes_ok wr b1 F1 _ hwrr HLN.out.2
      have hbit := hwrr.bit
      go_wp2_with fail
      refine hby.mono ?_
      rintro e w7 ⟨v3, G3, rfl, own3, ch7, hG3⟩
      obtain ⟨A3, c3, rfl, hc31, hc32, hc3⟩ := own3.open_map
      have hnw := rnew_ok w7 A3 c3 _ hc3 (packed_dig hbit) (by rw [packed_len]; have := HLN.out.2; omega) hc31 hc32
      clear hby own3
      go_wp2_with fail
      refine hnw.mono ?_
      rintro e w8 ⟨b3, F3, rfl, hrd8, ch8, hF3⟩
      have hch8 := hid ((HCH.out.trans_same ch7).trans_same ch8)
      have h0F : 0 ∉ F3 := fun h0 => by have := hF3 0 h0; have := ch7.size; omega
      have hget := tget_all hrd8 hW0 hW1 hH0 hH1 hd0 hd1 HLL.out HSM.out HBK.out.1 (HP3.out.same hch8.out) h0F HBK.out.2.1 (ahead_whole hbit)
      unfold GetPost at hget
      clear hnw
      go_wp2_with fail
      refine hget.mono ?_
      rintro e w9 ⟨v4, G4, rfl, own9, hrd9, ch9, hG4⟩
      have hw8b : w7.heap.size ≤ b3 := hF3 b3 hrd8.mem
      have hs7 := ch7.size
      have hC9 : Chg [] w3 w9 := HCH.out.trans ((ch7.trans_same ch8).trans ch9 (fun x hx => .inr (by simp at hx; omega))) (by simp)
      obtain ⟨A4, c4, rfl, hc41, hc42, hc4⟩ := own9.open_map
      have ht9 := HT3.out.same hC9
      have hin := ints_ok w9 A4 (some ⟨g, 0, none⟩) c4 capl l l hc4 ht9.cells (by rw [← HN.out]; omega) (by rw [← HN.out]; omega)
      rw [← HN.out] at hin ⊢
      have hdl : decide (l = l) = true := by simp
      rw [hdl] at hin
      have hC09 := HC3.out.trans_same hC9
      have hkn := fun wz (hz : Chg [] w wz) => known_ok wz (HP.out.same hz)
      clear hget hdl hrd9 hrd8 hwrr hc4 ht9 own9 htr
      go_wp2_with fail
      refine hin.mono ?_
      rintro e wq ⟨rfl, nq, rfl⟩
      have hCq := hC09.drewN nq
      have hkq := hkn _ hCq
      go_wp2_with fail
      refine hkq.mono ?_
      rintro e wk ⟨rfl, chk⟩
      go_wp2
      go_ret
      exact ⟨rfl, hCq.trans_same chk⟩
    · have hk7 : k ≤ 7 := by omega
      have t1 : decide ((k : Int) ≤ 7) = true := decide_eq_true (by omega)
      have hmay := may_all capl htr k hk7
      unfold MayPost at hmay
      rw [← HN.out] at hmay
      by_cases hm : mayB k l W d = true
      · rw [hm] at hmay
        go_wp2_with fail
        refine hmay.mono ?_
        rintro e w4 ⟨rfl, ch4⟩
        have ht4 := htr.same ch4
        have hp4 := hpr.same ch4
        have hs4 := ch4.size
        have hgl4 : g < w4.heap.size := by have := HB1.out; have := HC3.out.size; have := HCH.out.size; have := (HWR.out.lt b1 HWR.out.mem); omega
        obtain ⟨b2, hb2⟩ : ∃ b2, b2 = w4.heap.size := ⟨_, rfl⟩
        obtain ⟨w5, hw5⟩ : ∃ w5, w5 = w4.alloc (.cells #[.slice none 0 0, .int .i64 0] 37) := ⟨_, rfl⟩
        have ch5 : Chg [] w4 w5 := by rw [hw5]; exact (Chg.refl [] w4).alloc _
        have hwr5 : IsWr w5 b2 [b2] [] := by rw [hw5, hb2]; exact IsWr.new w4
        have hput := putBy_all capl (ht4.same ch5) b2 [b2] [] hwr5 (apt_block (by simp; omega)) (hp4.same ch5) (by simp; omega) (by simp) k hk7 hm
        unfold PutPost at hput
        rw [List.nil_append, ← HN.out] at hput
        have hln := tile_len_all hk7 hW0 hH0 hd0 hd1 hW1 hH1 HLL.out hm
        have hbest := HBK.out.2.2 k hk7 hm
        unfold costK at hbest
        have HW5 := hid hw5
        have HB2 := hid hb2
        have hch5 := hid (HCH.out.trans_same (ch4.trans_same ch5))
        have HLNk := hid hln
        have HBST := hid hbest
        clear hmay hwr5 hw5 hb2 hln hbest htr hpr hwrr
        go_wp2_with fail
        rw [← HW5.out, ← HB2.out]
        refine hput.mono ?_
        rintro e w6 ⟨rfl, F2, hwr6, hgr6⟩
        have hch6 := hid (hch5.out.trans hgr6.chg fun x hx => .inr (by have := HB2.out; have := HCH.out.size; simp at hx; omega))
        have hby := wbytes_ok w6 b2 F2 _ hwr6 HLNk.out.2
        have hbit := hwr6.bit
        clear hput
        go_wp2_with fail
        refine hby.mono ?_
        rintro e w7 ⟨v3, G3, rfl, own3, ch7, hG3⟩
        obtain ⟨A3, c3, rfl, hc31, hc32, hc3⟩ := own3.open_map
        have hnw := rnew_ok w7 A3 c3 _ hc3 (packed_dig hbit) (by rw [packed_len]; have := HLNk.out.2; omega) hc31 hc32
        clear hby own3
        go_wp2_with fail
        refine hnw.mono ?_
        rintro e w8 ⟨b3, F3, rfl, hrd8, ch8, hF3⟩
        have hch8 := hid ((hch6.out.trans_same ch7).trans_same ch8)
        have h0F : 0 ∉ F3 := fun h0 => by have := hF3 0 h0; have := ch7.size; have := hgr6.size; have := ch5.size; omega
        have hget := tget_all hrd8 hW0 hW1 hH0 hH1 hd0 hd1 HLL.out HSM.out hk7 (HP3.out.same hch8.out) h0F hm (ahead_whole hbit)
        unfold GetPost at hget
        clear hnw
        go_wp2_with fail
        refine hget.mono ?_
        rintro e w9 ⟨v4, G4, rfl, own9, hrd9, ch9, hG4⟩
        have hF3b : b3 ∈ F3 := hrd8.mem
        have hs8 := ch8.size
        have hs7 := ch7.size
        have hw8b : w7.heap.size ≤ b3 := hF3 b3 hF3b
        have ch69 : Chg [] w6 w9 := (ch7.trans_same ch8).trans ch9 (fun x hx => .inr (by simp at hx; omega))
        have hwr9 := hwr6.same ch69
        have hch9 := hid (hch6.out.trans_same ch69)
        obtain ⟨A4, c4, rfl, hc41, hc42, hc4⟩ := own9.open_map
        have ht9 := HT3.out.same hch9.out
        have hin := ints_ok w9 A4 (some ⟨g, 0, none⟩) c4 capl l l hc4 ht9.cells (by rw [← HN.out]; omega) (by rw [← HN.out]; omega)
        rw [← HN.out] at hin ⊢
        have hdl : decide (l = l) = true := by simp
        rw [hdl] at hin
        obtain ⟨T, hT⟩ : ∃ T, T = tileBits k l W H d := ⟨_, rfl⟩
        obtain ⟨q, hq⟩ : ∃ q, q = T.length := ⟨_, rfl⟩
        obtain ⟨T1, hT1⟩ : ∃ T1, T1 = tileBits bk l W H d := ⟨_, rfl⟩
        obtain ⟨q1, hq1⟩ : ∃ q1, q1 = T1.length := ⟨_, rfl⟩
        have hbs := HBST.out
        rw [← hT] at hrd9 hwr9
        rw [← hT, ← hT1, ← hq, ← hq1] at hbs
        have hck : costK k l W H d = q := by unfold costK; rw [hq, hT]
        have u1 : decide ((q : Int) < (q1 : Int)) = false := decide_eq_false (by omega)
        have u1' : decide (q < q1) = false := decide_eq_false (by omega)
        have HQ := hid hq
        have HQ1 := hid hq1
        have HT1 := hid hT1
        have HCK := hid hck
        have HR9 := hid hrd9
        have HW9 := hid hwr9
        clear hget hdl hT hq hT1 hq1 hbs hck hrd9 hwr9 hrd8 hwr6 hgr6 own9 hc4 hc41 hc42 ht9 ht4 hp4
        go_wp2_with fail
        refine hin.mono ?_
        rintro e wq ⟨rfl, nq, rfl⟩
        have chq : Chg [] w9 (w9.drewN nq) := (Chg.refl [] w9).drewN nq
        generalize w9.drewN nq = wq at chq
        have hat := at_ok wq b3 F3 _ _ (HR9.out.same chq)
        rw [Nat.zero_add, ← HQ.out] at hat
        have hl2 := wlen_any wq b2 F2 _ (HW9.out.same chq)
        rw [← HQ.out] at hl2
        have hchq := hid (hch9.out.trans_same chq)
        have hco := cost_ok capl (HT3.out.same hchq.out) (HP3.out.same hchq.out) k hk7 hm
        rw [HCK.out, ← HN.out] at hco
        go_wp2_with fail
        refine hat.mono ?_
        rintro e wx ⟨rfl, rfl⟩
        go_wp2_with fail
        refine hl2.mono ?_
        rintro e wx ⟨rfl, rfl⟩
        go_wp2_with fail
        refine hl2.mono ?_
        rintro e wx ⟨rfl, rfl⟩
        go_wp2_with fail
        refine hco.mono ?_
        rintro e wc ⟨rfl, chc⟩
        have hl3 := wlen_any wc b2 F2 _ ((HW9.out.same chq).same chc)
        rw [← HQ.out] at hl3
        have hchc := hid (hchq.out.trans_same chc)
        have hl4 := wlen_any wc b1 F1 _ (HWR.out.same hchc.out)
        rw [← HT1.out, ← HQ1.out] at hl4
        clear hat hl2 hco hin
        go_wp2_with fail
        refine hl3.mono ?_
        rintro e wx ⟨rfl, rfl⟩
        go_wp2_with fail
        refine hl4.mono ?_
        rintro e wx ⟨rfl, rfl⟩
        clear hl3 hl4
        go_wp2_with fail
        go_roundg j
        case measure => omega
        case rel =>
          have h1 := HM.out.1
          have h2 := HM.out.2
          exact ⟨k + 1, m + 1, by go_num, by go_num, by omega, by omega, hid ⟨fun h => by omega, fun h => by omega⟩, hchc⟩
      · have hm' : mayB k l W d = false := by simpa using hm
        rw [hm'] at hmay
        have hkk : k = 0 ∨ 6 ≤ k := by
          rcases Nat.lt_or_ge k 1 with h | h
          · left; omega
          · right
            rcases Nat.lt_or_ge 5 k with h2 | h2
            · exact h2
            · exact absurd (may_mid h h2 l W d) hm
        go_wp2_with fail
        refine hmay.mono ?_
        rintro e w4 ⟨rfl, ch4⟩
        clear hmay
        go_wp2_with fail
        go_roundg j
        case measure => omega
        case rel =>
          have h1 := HM.out.1
          have h2 := HM.out.2
          exact ⟨k + 1, m, rfl, by go_num, by omega, by omega, hid ⟨fun h => by omega, fun h => by omega⟩, hid (HCH.out.trans_same ch4)⟩
end Go.Proofs.YtpkplhmdnjdmoaaGreatDoor

/- The law TileRow, plain: the row's tiles and their bits. -/
namespace Go.Proofs.YtpkplhmdnjdmoaaGreatDoor
set_option linter.unusedSimpArgs false
set_option linter.unusedVariables false

theorem tile_two_small (l : List Int) {W H d : Nat} (h0 : 1 ≤ d) (h1 : d ≤ 16) (hW : W ≤ 16) (hH : H ≤ 16) : 0 < (tileBits 2 l W H d).length ∧ (tileBits 2 l W H d).length < 200000 := by
  have e : tileBits 2 l W H d = bitsOf 2 3 ++ (allOf (kindsI l W H d) 4 ++ planBits (foreF l W H d) (W * H)) := rfl
  have hp := plan_len (foreF_len l W H d) (foreF_wide l W H d h0 h1)
  have hm : W * H ≤ 16 * 16 := Nat.mul_le_mul hW hH
  rw [e, List.length_append, List.length_append, bitsOf_len, all_len, kindsI_len]
  omega
theorem tile_three_small (l : List Int) {W H d : Nat} (h0 : 1 ≤ d) (h1 : d ≤ 16) (hW : W ≤ 16) (hH : H ≤ 16) : 0 < (tileBits 3 l W H d).length ∧ (tileBits 3 l W H d).length < 200000 := by
  have e : tileBits 3 l W H d = bitsOf 3 3 ++ modelBits l W d (W * H) := rfl
  have hp := modelBits_len l W h0 h1 (by have := Nat.pow_le_pow_right (n := 2) (by decide) h1; have e : ((2 ^ d : Nat) : Int) = (2 : Int) ^ d := by simp
                                         omega) (W * H)
  have hm : W * H ≤ 16 * 16 := Nat.mul_le_mul hW hH
  rw [e, List.length_append, bitsOf_len]
  omega
theorem tile_four_small (l : List Int) {W H d : Nat} (h1 : d ≤ 16) (hl : l.length ≤ 256) : 0 < (tileBits 4 l W H d).length ∧ (tileBits 4 l W H d).length < 200000 := by
  have e : tileBits 4 l W H d = bitsOf 4 3 ++ matchBits (leastF l (d + 1) 12) W d := rfl
  have hp := matchBits_len (leastF l (d + 1) 12) W d h1
  have hm := leastF_len l (d + 1) 12
  rw [e, List.length_append, bitsOf_len]
  omega
theorem tile_len_small {k : Nat} (hk : k ≤ 7) {l : List Int} {W H d : Nat} (hw0 : 1 ≤ W) (hh0 : 1 ≤ H) (h0 : 1 ≤ d) (h1 : d ≤ 16) (hW : W ≤ 16) (hH : H ≤ 16) (hl : l.length = W * H) (hm : mayB k l W d = true) :
    0 < (tileBits k l W H d).length ∧ (tileBits k l W H d).length < 200000 := by
  have hmul : W * H ≤ 16 * 16 := Nat.mul_le_mul hW hH
  have hpos : 0 < W * H := Nat.mul_pos hw0 hh0
  rcases (show k = 0 ∨ k = 1 ∨ k = 2 ∨ k = 3 ∨ k = 4 ∨ k = 5 ∨ k = 6 ∨ k = 7 by omega) with rfl | rfl | rfl | rfl | rfl | rfl | rfl | rfl
  · have e : tileBits 0 l W H d = bitsOf 0 3 ++ bitsOf (l.getD 0 0).toNat d := rfl
    rw [e, List.length_append, bitsOf_len, bitsOf_len]; omega
  · have e : tileBits 1 l W H d = bitsOf 1 3 ++ allOf l d := rfl
    rw [e, List.length_append, bitsOf_len, all_len, hl]
    have := Nat.mul_le_mul h1 hmul
    omega
  · exact tile_two_small l h0 h1 hW hH
  · exact tile_three_small l h0 h1 hW hH
  · exact tile_four_small l h1 (by omega)
  · have e : tileBits 5 l W H d = bitsOf 5 3 ++ (bitsOf (rangedL l W d).length 16 ++ (rangedL l W d).flatMap fun x => bitsOf x 8) := rfl
    have hr := rangedL_len l W h0 h1
    have h8 : ∀ R : List Nat, (R.flatMap fun x => bitsOf x 8).length = 8 * R.length := by
      intro R
      induction R with
      | nil => rfl
      | cons x R ih => rw [List.flatMap_cons, List.length_append, bitsOf_len, ih, List.length_cons]; omega
    rw [e, List.length_append, List.length_append, bitsOf_len, bitsOf_len, h8]
    omega
  · have e : tileBits 6 l W H d = bitsOf 6 3 ++ (bitsOf ((diffL l).length - 1) 4 ++ allOf (diffL l) d ++ allOf (idxL l) (bitsN (diffL l).length)) := rfl
    have hd : (diffL l).length ≤ 16 := by simpa [mayB] using hm
    have hb := bitsN_le hd
    have h3 := Nat.mul_le_mul h1 hd
    have h4 : bitsN (diffL l).length * l.length ≤ 4 * (16 * 16) := Nat.mul_le_mul hb (by omega)
    rw [e, List.length_append, List.length_append, List.length_append, bitsOf_len, bitsOf_len, all_len, all_len, idxL_len]
    omega
  · have e : tileBits 7 l W H d = bitsOf 7 3 ++ (tableBits (prefLens l W d) ++ symsBits (prefLens l W d) (foldedN l W d)) := rfl
    have hmx : maxN (foldedN l W d) < 256 := by simpa [mayB] using hm
    obtain ⟨hf, -⟩ := pref_ok (l := l) (W := W) (d := d) (by omega) hmx
    have h2 := tableBits_len (prefLens l W d)
    have h3 := symsBits_le hf.le (foldedN l W d)
    have h4 := hf.n2
    rw [foldedN_len] at h3
    rw [e, List.length_append, List.length_append, bitsOf_len]
    omega
/-- One tile of a row: its samples, its size, its depth, the kind it is written in. -/
structure TileD where
  l : List Int
  W : Nat
  H : Nat
  d : Nat
  k : Nat
structure TileD.Ok (t : TileD) : Prop where
  w0 : 1 ≤ t.W
  w1 : t.W ≤ 16
  h0 : 1 ≤ t.H
  h1 : t.H ≤ 16
  d0 : 1 ≤ t.d
  d1 : t.d ≤ 16
  len : t.l.length = t.W * t.H
  smp : SmpOk t.d t.l
  k7 : t.k ≤ 7
  may : mayB t.k t.l t.W t.d = true
def TileD.bits (t : TileD) : List Nat := tileBits t.k t.l t.W t.H t.d
def rowBits (ts : List TileD) : List Nat := ts.flatMap TileD.bits
theorem rowBits_snoc (ts : List TileD) (t : TileD) : rowBits (ts ++ [t]) = rowBits ts ++ t.bits := by simp [rowBits]
theorem rowBits_at {ts : List TileD} {i : Nat} (h : i < ts.length) : rowBits ts = rowBits (ts.take i) ++ ts[i].bits ++ rowBits (ts.drop (i + 1)) := by
  have e : ts = ts.take i ++ (ts[i] :: ts.drop (i + 1)) := by rw [← List.drop_eq_getElem_cons h, List.take_append_drop]
  have e2 : rowBits (ts.take i ++ (ts[i] :: ts.drop (i + 1))) = rowBits (ts.take i) ++ (ts[i].bits ++ rowBits (ts.drop (i + 1))) := by
    simp only [rowBits, List.flatMap_append, List.flatMap_cons]
  rw [← e] at e2
  rw [e2, List.append_assoc]
theorem rowBits_take {ts : List TileD} {i : Nat} (h : i < ts.length) : rowBits (ts.take (i + 1)) = rowBits (ts.take i) ++ ts[i].bits := by
  rw [List.take_succ_eq_append_getElem h, rowBits_snoc]
theorem rowBits_len : ∀ (ts : List TileD), (∀ t ∈ ts, t.Ok) → (rowBits ts).length ≤ 200000 * ts.length
  | [], _ => by simp [rowBits]
  | t :: ts, h => by
    have h1 := rowBits_len ts (fun x hx => h x (by simp [hx]))
    have o := h t (by simp)
    have h2 := (tile_len_small o.k7 o.w0 o.h0 o.d0 o.d1 o.w1 o.h1 o.len o.may).2
    have e : rowBits (t :: ts) = t.bits ++ rowBits ts := rfl
    rw [e, List.length_append, List.length_cons]
    unfold TileD.bits
    omega
end Go.Proofs.YtpkplhmdnjdmoaaGreatDoor

/- The law TileRow: what its first loop keeps in memory. -/
namespace Go.Proofs.YtpkplhmdnjdmoaaGreatDoor
set_option linter.unusedSimpArgs false
set_option linter.unusedVariables false
open Go.RowKit

theorem rows_elem : Elem Tryz.prog 67 29 (.slice none 0 0) 1 24 := .mk' Tryz.underlying67 (by kernel_rfl)
theorem three_elem : Elem Tryz.prog 68 69 (.agg #[.int .i64 0, .int .i64 0, .int .i64 0]) 3 24 := .mk' Tryz.underlying68 (by kernel_rfl)
/-- The rows of tiles lie in memory, apart from the blocks bad. -/
def RowsIn (w : World) (xs : List Value) (ts : List TileD) (bad : List Nat) : Prop :=
  ∀ (i : Nat) (t : TileD), ts[i]? = some t → ∃ u g, xs[i]? = some u ∧ Row w 3 u g (t.l.map vi) ∧ g ∉ bad
theorem RowsIn.step {w w' : World} {xs : List Value} {ts : List TileD} {bad bad' G : List Nat} (h : RowsIn w xs ts bad) (hc : Chg G w w') (hG : ∀ x ∈ G, x ∈ bad ∨ w.heap.size ≤ x) (hb : ∀ x ∈ bad', x ∈ bad ∨ w.heap.size ≤ x) :
    RowsIn w' xs ts bad' := fun i t ht => by
  obtain ⟨u, g, h1, h2, h3⟩ := h i t ht
  have hlt := h2.lt
  refine ⟨u, g, h1, h2.chg hc fun hm => ?_, fun hm => ?_⟩
  · rcases hG g hm with h | h
    · exact h3 h
    · omega
  · rcases hb g hm with h | h
    · exact h3 h
    · omega
theorem RowsIn.snoc {w : World} {xs : List Value} {ts : List TileD} {bad : List Nat} (h : RowsIn w xs ts bad) (hl : xs.length = ts.length) {t : TileD} {u : Value} {g : Nat} (r : Row w 3 u g (t.l.map vi)) (hg : g ∉ bad) :
    RowsIn w (xs ++ [u]) (ts ++ [t]) bad := fun i t' ht => by
  rcases Nat.lt_trichotomy i ts.length with hi | hi | hi
  · rw [List.getElem?_append_left hi] at ht
    obtain ⟨u', g', h1, h2, h3⟩ := h i t' ht
    exact ⟨u', g', by rw [List.getElem?_append_left (by omega)]; exact h1, h2, h3⟩
  · subst hi
    simp at ht
    subst ht
    exact ⟨u, g, by rw [← hl]; simp, r, hg⟩
  · rw [List.getElem?_eq_none (by simp; omega)] at ht
    cases ht
/-- The cells of a tile's size. -/
def TileD.size (t : TileD) : List Value := [.int .i64 (t.W : Int), .int .i64 (t.H : Int), .int .i64 (t.d : Int)]
def sizesOf (ts : List TileD) : List Value := ts.flatMap TileD.size
theorem sizesOf_snoc (ts : List TileD) (t : TileD) : sizesOf (ts ++ [t]) = sizesOf ts ++ t.size := by simp [sizesOf]
theorem sizesOf_at : ∀ (ts : List TileD) {i : Nat} (t : TileD), ts[i]? = some t → (sizesOf ts)[3 * i]? = some (.int .i64 (t.W : Int)) ∧ (sizesOf ts)[3 * i + 1]? = some (.int .i64 (t.H : Int)) ∧ (sizesOf ts)[3 * i + 2]? = some (.int .i64 (t.d : Int))
  | [], i, t, h => by simp at h
  | t0 :: ts, 0, t, h => by
    simp at h
    subst h
    exact ⟨rfl, rfl, rfl⟩
  | t0 :: ts, i + 1, t, h => by
    rw [List.getElem?_cons_succ] at h
    have e : sizesOf (t0 :: ts) = .int .i64 (t0.W : Int) :: .int .i64 (t0.H : Int) :: .int .i64 (t0.d : Int) :: sizesOf ts := rfl
    rw [e]
    exact sizesOf_at ts t h
/-- What the first loop of the law keeps: the tape, the writer with the bits bs, the two lists with n7 and n8 elements, the tiles' rows. -/
structure RowSt (w0 : World) (b cap0 : Nat) (A0 : Option Addr) (L0 : List Int) (bw : Nat) (w : World) (F F7 F8 : List Nat) (bs : List Nat) (v7 : Value) (n7 : Nat) (xs7 : List Value) (v8 : Value) (n8 : Nat) (ys8 : List Value) (xs : List Value) (ts : List TileD) : Prop where
  cells : Cells vi w0 A0 L0
  tp : ∃ at', IsTp w b A0 cap0 L0 at'
  wr : IsWr w bw F bs
  o7 : OwnK w 29 1 v7 F7 n7 xs7
  o8 : OwnK w 69 3 v8 F8 n8 ys8
  rows : RowsIn w xs ts (b :: (F ++ F7 ++ F8))
  len : xs.length = ts.length
  bF : b ∉ F
  b7 : b ∉ F7
  b8 : b ∉ F8
  FF7 : ∀ x ∈ F, x ∉ F7
  FF8 : ∀ x ∈ F, x ∉ F8
  F78 : ∀ x ∈ F7, x ∉ F8
  new : ∀ x ∈ b :: (F ++ F7 ++ F8), w0.heap.size ≤ x
  chg : Chg [] w0 w
section
variable {w0 : World} {b cap0 : Nat} {A0 : Option Addr} {L0 : List Int} {bw : Nat} {w w' : World} {F F7 F8 G : List Nat} {bs : List Nat} {v7 : Value} {n7 : Nat} {xs7 : List Value} {v8 : Value} {n8 : Nat} {ys8 : List Value} {xs : List Value} {ts : List TileD}
theorem RowSt.apt (h : RowSt w0 b cap0 A0 L0 bw w F F7 F8 bs v7 n7 xs7 v8 n8 ys8 xs ts) {G : List Nat} (hG : ∀ x ∈ G, w0.heap.size ≤ x) : Apt A0 L0 G := Apt.fresh h.cells hG
theorem RowSt.lts (h : RowSt w0 b cap0 A0 L0 bw w F F7 F8 bs v7 n7 xs7 v8 n8 ys8 xs ts) : b < w.heap.size ∧ (∀ x ∈ F, x < w.heap.size) ∧ (∀ x ∈ F7, x < w.heap.size) ∧ (∀ x ∈ F8, x < w.heap.size) := by
  obtain ⟨_, ht⟩ := h.tp
  exact ⟨ht.blk.lt, h.wr.lt, h.o7.lt, h.o8.lt⟩
theorem RowSt.same (h : RowSt w0 b cap0 A0 L0 bw w F F7 F8 bs v7 n7 xs7 v8 n8 ys8 xs ts) (hc : Chg [] w w') : RowSt w0 b cap0 A0 L0 bw w' F F7 F8 bs v7 n7 xs7 v8 n8 ys8 xs ts := by
  obtain ⟨at', ht⟩ := h.tp
  exact { h with tp := ⟨at', ht.fresh hc⟩, wr := h.wr.same hc, o7 := h.o7.same hc, o8 := h.o8.same hc, rows := h.rows.step hc (by simp) (fun x hx => .inl hx), chg := h.chg.trans_same hc }
theorem RowSt.drawn (h : RowSt w0 b cap0 A0 L0 bw w F F7 F8 bs v7 n7 xs7 v8 n8 ys8 xs ts) (hc : Chg [b] w w') {at' : Nat} (ht : IsTp w' b A0 cap0 L0 at') : RowSt w0 b cap0 A0 L0 bw w' F F7 F8 bs v7 n7 xs7 v8 n8 ys8 xs ts := by
  have hb := h.new b (by simp)
  refine { h with tp := ⟨at', ht⟩, wr := h.wr.chg hc ?_, o7 := h.o7.chg hc ?_, o8 := h.o8.chg hc ?_, rows := h.rows.step hc ?_ (fun x hx => .inl hx), chg := h.chg.trans hc ?_ }
  · intro x hx hm; simp at hm; subst hm; exact h.bF hx
  · intro x hx hm; simp at hm; subst hm; exact h.b7 hx
  · intro x hx hm; simp at hm; subst hm; exact h.b8 hx
  · intro x hx; simp at hx; subst hx; left; simp
  · intro x hx; simp at hx; subst hx; exact .inr hb
theorem RowSt.snoc (h : RowSt w0 b cap0 A0 L0 bw w F F7 F8 bs v7 n7 xs7 v8 n8 ys8 xs ts) {t : TileD} {u : Value} {g : Nat} (r : Row w 3 u g (t.l.map vi)) (hg : g ∉ b :: (F ++ F7 ++ F8)) :
    RowSt w0 b cap0 A0 L0 bw w F F7 F8 bs v7 n7 xs7 v8 n8 ys8 (xs ++ [u]) (ts ++ [t]) :=
  { h with rows := h.rows.snoc h.len r hg, len := by simp [h.len] }
theorem RowSt.put (h : RowSt w0 b cap0 A0 L0 bw w F F7 F8 bs v7 n7 xs7 v8 n8 ys8 xs ts) {F' bs' : List Nat} (hw : IsWr w' bw F' bs') (hg : Grow F F' w w') : RowSt w0 b cap0 A0 L0 bw w' F' F7 F8 bs' v7 n7 xs7 v8 n8 ys8 xs ts := by
  obtain ⟨at', ht⟩ := h.tp
  obtain ⟨l1, l2, l3, l4⟩ := h.lts
  have hs := h.chg.size
  have hn : ∀ x ∈ F, w0.heap.size ≤ x := fun x hx => h.new x (by simp [hx])
  refine { h with tp := ⟨at', ht.same hg.chg h.bF (h.apt hn)⟩, wr := hw, o7 := h.o7.chg hg.chg (fun x hx hm => h.FF7 x hm hx), o8 := h.o8.chg hg.chg (fun x hx hm => h.FF8 x hm hx), rows := h.rows.step hg.chg ?_ ?_, bF := hg.out l1 h.bF, FF7 := ?_, FF8 := ?_, new := ?_, chg := h.chg.trans hg.chg fun x hx => .inr (hn x hx) }
  · intro x hx; left; simp [hx]
  · intro x hx
    simp only [List.mem_cons, List.mem_append] at hx
    rcases hx with rfl | (hx | hx) | hx
    · left; simp
    · rcases hg.new x hx with h1 | h1
      · left; simp [h1]
      · exact .inr h1
    · left; simp [hx]
    · left; simp [hx]
  · intro x hx hm
    exact hg.out (l3 x hm) (fun hf => h.FF7 x hf hm) hx
  · intro x hx hm
    exact hg.out (l4 x hm) (fun hf => h.FF8 x hf hm) hx
  · intro x hx
    simp only [List.mem_cons, List.mem_append] at hx
    rcases hx with rfl | (hx | hx) | hx
    · exact h.new x (by simp)
    · rcases hg.new x hx with h1 | h1
      · exact hn x h1
      · omega
    · exact h.new x (by simp [hx])
    · exact h.new x (by simp [hx])
theorem RowSt.app7 (h : RowSt w0 b cap0 A0 L0 bw w F F7 F8 bs v7 n7 xs7 v8 n8 ys8 xs ts) {F7' : List Nat} {v7' : Value} {n7' : Nat} {xs7' : List Value} (ho : OwnK w' 29 1 v7' F7' n7' xs7') (hg : Grow F7 F7' w w') : RowSt w0 b cap0 A0 L0 bw w' F F7' F8 bs v7' n7' xs7' v8 n8 ys8 xs ts := by
  obtain ⟨at', ht⟩ := h.tp
  obtain ⟨l1, l2, l3, l4⟩ := h.lts
  have hs := h.chg.size
  have hn : ∀ x ∈ F7, w0.heap.size ≤ x := fun x hx => h.new x (by simp [hx])
  refine { h with tp := ⟨at', ht.same hg.chg h.b7 (h.apt hn)⟩, wr := h.wr.chg hg.chg (fun x hx hm => h.FF7 x hx hm), o7 := ho, o8 := h.o8.chg hg.chg (fun x hx hm => h.F78 x hm hx), rows := h.rows.step hg.chg ?_ ?_, b7 := hg.out l1 h.b7, FF7 := ?_, F78 := ?_, new := ?_, chg := h.chg.trans hg.chg fun x hx => .inr (hn x hx) }
  · intro x hx; left; simp [hx]
  · intro x hx
    simp only [List.mem_cons, List.mem_append] at hx
    rcases hx with rfl | (hx | hx) | hx
    · left; simp
    · left; simp [hx]
    · rcases hg.new x hx with h1 | h1
      · left; simp [h1]
      · exact .inr h1
    · left; simp [hx]
  · intro x hx hm
    exact hg.out (l2 x hx) (h.FF7 x hx) hm
  · intro x hx hm
    exact hg.out (l4 x hm) (fun hf => h.F78 x hf hm) hx
  · intro x hx
    simp only [List.mem_cons, List.mem_append] at hx
    rcases hx with rfl | (hx | hx) | hx
    · exact h.new x (by simp)
    · exact h.new x (by simp [hx])
    · rcases hg.new x hx with h1 | h1
      · exact hn x h1
      · omega
    · exact h.new x (by simp [hx])
theorem RowSt.app8 (h : RowSt w0 b cap0 A0 L0 bw w F F7 F8 bs v7 n7 xs7 v8 n8 ys8 xs ts) {F8' : List Nat} {v8' : Value} {n8' : Nat} {ys8' : List Value} (ho : OwnK w' 69 3 v8' F8' n8' ys8') (hg : Grow F8 F8' w w') : RowSt w0 b cap0 A0 L0 bw w' F F7 F8' bs v7 n7 xs7 v8' n8' ys8' xs ts := by
  obtain ⟨at', ht⟩ := h.tp
  obtain ⟨l1, l2, l3, l4⟩ := h.lts
  have hs := h.chg.size
  have hn : ∀ x ∈ F8, w0.heap.size ≤ x := fun x hx => h.new x (by simp [hx])
  refine { h with tp := ⟨at', ht.same hg.chg h.b8 (h.apt hn)⟩, wr := h.wr.chg hg.chg (fun x hx hm => h.FF8 x hx hm), o7 := h.o7.chg hg.chg (fun x hx hm => h.F78 x hx hm), o8 := ho, rows := h.rows.step hg.chg ?_ ?_, b8 := hg.out l1 h.b8, FF8 := ?_, F78 := ?_, new := ?_, chg := h.chg.trans hg.chg fun x hx => .inr (hn x hx) }
  · intro x hx; left; simp [hx]
  · intro x hx
    simp only [List.mem_cons, List.mem_append] at hx
    rcases hx with rfl | (hx | hx) | hx
    · left; simp
    · left; simp [hx]
    · left; simp [hx]
    · rcases hg.new x hx with h1 | h1
      · left; simp [h1]
      · exact .inr h1
  · intro x hx hm
    exact hg.out (l2 x hx) (h.FF8 x hx) hm
  · intro x hx hm
    exact hg.out (l3 x hx) (h.F78 x hx) hm
  · intro x hx
    simp only [List.mem_cons, List.mem_append] at hx
    rcases hx with rfl | (hx | hx) | hx
    · exact h.new x (by simp)
    · exact h.new x (by simp [hx])
    · exact h.new x (by simp [hx])
    · rcases hg.new x hx with h1 | h1
      · exact hn x h1
      · omega
end
end Go.Proofs.YtpkplhmdnjdmoaaGreatDoor

/- The law TileRow by its contract. -/
namespace Go.Proofs.YtpkplhmdnjdmoaaGreatDoor
set_option linter.unusedSimpArgs false
set_option linter.unusedVariables false
open Go.RowKit

theorem bestKind_le (l : List Int) (W H d : Nat) : bestKind l W H d ≤ 7 ∧ mayB (bestKind l W H d) l W d = true := ⟨(bestKind_ok l W H d).1, (bestKind_ok l W H d).2.1⟩
theorem row_tile {w : World} {l : List Int} {g W H d : Nat} {v : Value} (hr : Row w 3 v g (l.map vi)) (w0 : 1 ≤ W) (w1 : W ≤ 16) (h0 : 1 ≤ H) (h1 : H ≤ 16) (d0 : 1 ≤ d) (d1 : d ≤ 16) (hl : l.length = W * H) (hs : SmpOk d l) :
    ∃ cap, v = .slice (some ⟨g, 0, none⟩) l.length cap ∧ Tile w l (some ⟨g, 0, none⟩) W H d := by
  obtain ⟨cap, e, hc⟩ := Row.cells_vi hr
  exact ⟨cap, e, w0, w1, h0, h1, d0, d1, hl, hs, hc⟩
set_option maxRecDepth 100000 in
set_option maxHeartbeats 4000000 in
theorem trow_ok (w : World) (A : Option Addr) (cap : Nat) (L : List Int) (hc : Cells vi w A L) (hin : ∀ x ∈ L, In64 x) (hlen : L.length ≤ 9223372036854775807)
    (A2 : Option Addr) (cap2 : Nat) (L2 : List Int) (hc2 : Cells vi w A2 L2) (hin2 : ∀ x ∈ L2, In64 x) (hlen2 : L2.length ≤ 9223372036854775807) (hp : Pts w) :
    Calls Tryz.prog 7 #[.slice A L.length cap, .slice A2 L2.length cap2] w fun e w' => e = .returned (.bool true) ∧ Chg [] w w' := by
  obtain ⟨n, hn⟩ : ∃ n, n = L2.length := ⟨_, rfl⟩
  rw [← hn] at hlen2 ⊢
  by_cases hbig : 12 < n
  · have t1 : decide ((12 : Int) < (n : Int)) = true := decide_eq_true (by omega)
    clear hc hin hlen hc2 hin2 hp
    have HN := hid hn
    clear hn
    go_enter Tryz.func7, Tryz.ntmps7
    go_wp2_with fail
    go_ret
    exact ⟨rfl, Chg.refl _ _⟩
  have hn12 : n ≤ 12 := by omega
  have t1 : decide ((12 : Int) < (n : Int)) = false := decide_eq_false (by omega)
  have hnew := tape_new w A cap L hc hin hlen
  have HP := hid hp
  have HC0 := hid hc
  have HC2 := hid hc2
  have HIN2 := hid hin2
  have HN := hid hn
  clear hc hin hlen hp hc2 hin2 hlen2 hbig hn
  go_enter Tryz.func7, Tryz.ntmps7
  go_wp2_with fail
  refine hnew.mono ?_
  rintro e w1 ⟨b, rfl, htp, ch1, hb⟩
  obtain ⟨bw, hbw⟩ : ∃ bw, bw = w1.heap.size := ⟨_, rfl⟩
  obtain ⟨wa, hwa⟩ : ∃ wa, wa = w1.alloc (.cells #[.slice none 0 0, .int .i64 0] 37) := ⟨_, rfl⟩
  have cha : Chg [] w1 wa := by rw [hwa]; exact (Chg.refl [] w1).alloc _
  have hwra : IsWr wa bw [bw] [] := by rw [hwa, hbw]; exact IsWr.new w1
  have hst : RowSt w b cap A L bw wa [bw] [] [] [] (.slice none 0 0) 0 [] (.slice none 0 0) 0 [] [] [] :=
    { cells := HC0.out, tp := ⟨0, htp.fresh cha⟩, wr := hwra, o7 := OwnK.nil _ _ _, o8 := OwnK.nil _ _ _, rows := fun i t ht => by simp at ht, len := rfl,
      bF := by simp; have := htp.blk.lt; omega, b7 := by simp, b8 := by simp, FF7 := by simp, FF8 := by simp, F78 := by simp,
      new := by intro x hx; simp at hx; rcases hx with rfl | rfl; exact hb; have := ch1.size; omega,
      chg := ch1.trans_same cha }
  have HST := hid hst
  have HWA := hid hwa
  have HBW := hid hbw
  clear hnew htp hwra cha ch1 hst hwa hbw
  go_wp2_with fail
  rw [← HWA.out, ← HBW.out]
  go_loopg [7, 8, 9, 10, 11, 12, 13, 14, 15] n (fun j v7 v8 v9 va vb vc vd ve vf wr => ∃ (i : Nat) (ts : List TileD) (F F7 F8 : List Nat) (xs : List Value), v9 = .int .i64 (i : Int) ∧ i + j = n ∧ Hid (i = ts.length) ∧ Hid (∀ t ∈ ts, t.Ok) ∧ Hid (RowSt w b cap A L bw wr F F7 F8 (rowBits ts) v7 i xs v8 i (sizesOf ts) xs ts))
  case atStart => exact ⟨0, [], [bw], [], [], [], rfl, by omega, hid rfl, hid (by simp), hid HST.out⟩
  case round =>
    obtain ⟨i, ts, F, F7, F8, xs, rfl, hij, HTL, HOK, HS⟩ := hrel
    rcases gk with _ | j
    · obtain rfl : i = n := by omega
      obtain ⟨wo, rfl⟩ : ∃ wo, wo = wr := ⟨_, rfl⟩
      have t2 : decide (i < i) = false := by simp
      have hsmall : (rowBits ts).length < 549755813888 := by
        have := rowBits_len ts HOK.out
        have := HTL.out
        omega
      have hbit := HS.out.wr.bit
      have HSM := hid hsmall
      have hby := wbytes_ok wo bw F (rowBits ts) HS.out.wr hsmall
      clear hsmall
      go_wp2_with fail
      refine hby.mono ?_
      rintro e w3 ⟨v3, G3, rfl, own3, ch3, hG3⟩
      obtain ⟨A3, c3, rfl, hc31, hc32, hc3⟩ := own3.open_map
      have hnw := rnew_ok w3 A3 c3 _ hc3 (packed_dig hbit) (by rw [packed_len]; have := HSM.out; omega) hc31 hc32
      have HBIT := hid hbit
      clear hby own3 hc31 hc32 hc3 hbit
      go_wp2_with fail
      refine hnw.mono ?_
      rintro e w4 ⟨b3, F3, rfl, hrd, ch4, hF3⟩
      have HCH4 := hid (ch3.trans_same ch4)
      have h0F : 0 ∉ F3 := fun h => by have := hF3 0 h; have := ch3.size; have := HS.out.chg.size; have := HP.out.lt; omega
      have hb3 : wo.heap.size ≤ b3 := by have := hF3 b3 hrd.mem; have := ch3.size; omega
      have hb7 : b3 ∉ F7 := fun h => by have := HS.out.lts.2.2.1 b3 h; omega
      have HB7 := hid hb7
      have hb8 : b3 ∉ F8 := fun h => by have := HS.out.lts.2.2.2 b3 h; omega
      have HB3 := hid hb3
      have HB8 := hid hb8
      have H0F := hid h0F
      have HRD := hid hrd
      obtain ⟨A7, cap7, rfl, -, -, -, -⟩ := HS.out.o7.open_
      obtain ⟨A8, cap8, rfl, -, -, -, -⟩ := HS.out.o8.open_
      clear hnw ch3 ch4 hG3 hF3 h0F hb3 hb7 hb8 hrd
      go_wp2_with fail
      go_loopg [17, 18, 19] i (fun j v17 v18 v19 wq => ∃ p : Nat, v17 = .int .i64 (p : Int) ∧ p + j = i ∧ Hid (IsRd wq b3 F3 (packed (rowBits ts)) (rowBits (ts.take p)).length) ∧ Hid (Chg [] wo wq))
      case atStart => exact ⟨0, rfl, by omega, hid HRD.out, hid HCH4.out⟩
      case round =>
        obtain ⟨p, rfl, hpj, HR, HCH⟩ := hrel
        rcases gk with _ | j
        · obtain rfl : p = i := by omega
          have t3 : decide (p < p) = false := by simp
          obtain ⟨q, hq⟩ : ∃ q, q = (rowBits ts).length := ⟨_, rfl⟩
          have hat := at_ok wr b3 F3 _ _ HR.out
          rw [List.take_of_length_le (by have := HTL.out; omega), ← hq] at hat
          have hl := wlen_any wr bw F _ (HS.out.same HCH.out).wr
          rw [← hq] at hl
          have hkn := known_ok wr (HP.out.same (HS.out.same HCH.out).chg)
          have HQ := hid hq
          clear hq
          go_wp2_with fail
          refine hat.mono ?_
          rintro e w' ⟨rfl, rfl⟩
          go_wp2_with fail
          refine hl.mono ?_
          rintro e w' ⟨rfl, rfl⟩
          go_wp2_with fail
          refine hkn.mono ?_
          rintro e w9 ⟨rfl, ch9⟩
          go_wp2
          go_ret
          exact ⟨rfl, (HS.out.same HCH.out).chg.trans_same ch9⟩
        · have hp : p < i := by omega
          have t3 : decide (p < i) = true := decide_eq_true hp
          have HSq := hid (HS.out.same HCH.out)
          have hpl : p < ts.length := by have := HTL.out; omega
          obtain ⟨t, ht⟩ : ∃ t, ts[p]? = some t := ⟨ts[p], List.getElem?_eq_getElem hpl⟩
          have htp : ts[p] = t := by rw [List.getElem?_eq_getElem hpl] at ht; injection ht
          have htok := HOK.out t (List.mem_of_getElem? ht)
          obtain ⟨hs1, hs2, hs3⟩ := sizesOf_at ts t ht
          obtain ⟨u, g, hu, hrow, -⟩ := HSq.out.rows p t ht
          have hgo : g < wo.heap.size := by
            obtain ⟨u', g', hu', hrow', -⟩ := HS.out.rows p t ht
            rw [hu] at hu'
            injection hu' with hu'
            subst hu'
            have e1 := hrow.own_block
            rw [hrow'.own_block] at e1
            injection e1 with e1
            subst e1
            exact hrow'.lt
          obtain ⟨W, hW⟩ : ∃ W, W = t.W := ⟨_, rfl⟩
          obtain ⟨H, hH⟩ : ∃ H, H = t.H := ⟨_, rfl⟩
          obtain ⟨d, hd⟩ : ∃ d, d = t.d := ⟨_, rfl⟩
          rw [← hW] at hs1
          rw [← hH] at hs2
          rw [← hd] at hs3
          obtain ⟨A8', cap8', e8, -, -, hc8, hF8⟩ := HSq.out.o8.open_
          injection e8 with e8 _ f8
          subst e8
          subst f8
          obtain ⟨g8, p8, rfl, hg8, hce8⟩ := hc8.ex (by have := (List.getElem?_eq_some_iff.1 hs1).1; omega)
          have hne8 : g8 ∉ [b3] := fun hm => by
            obtain ⟨g, e1, e2, -⟩ := hF8 _ rfl
            injection e1 with e1 _ _
            simp at hm
            exact HB8.out (by rw [e2, ← hm, e1]; simp)
          have c81 : wr.cell? ⟨g8, p8 + p * 3, none⟩ = some (.int .i64 (W : Int)) := by rw [Nat.mul_comm]; exact hce8 _ _ hs1
          have c82 : wr.cell? ⟨g8, p8 + p * 3 + 1, none⟩ = some (.int .i64 (H : Int)) := by rw [Nat.mul_comm, Nat.add_assoc]; exact hce8 _ _ hs2
          have c83 : wr.cell? ⟨g8, p8 + p * 3 + 2, none⟩ = some (.int .i64 (d : Int)) := by rw [Nat.mul_comm, Nat.add_assoc]; exact hce8 _ _ hs3
          have hkeep : ∀ wz, Chg [b3] wr wz → wz.cell? ⟨g8, p8 + p * 3, none⟩ = some (.int .i64 (W : Int)) ∧ wz.cell? ⟨g8, p8 + p * 3 + 1, none⟩ = some (.int .i64 (H : Int)) ∧ wz.cell? ⟨g8, p8 + p * 3 + 2, none⟩ = some (.int .i64 (d : Int)) := fun wz hz =>
            ⟨(World.cell?_of_block (w := wr) (hz.block g8 hg8 hne8)).trans c81, (World.cell?_of_block (w := wr) (hz.block g8 hg8 hne8)).trans c82, (World.cell?_of_block (w := wr) (hz.block g8 hg8 hne8)).trans c83⟩
          have HKEEP := hid hkeep
          obtain ⟨A7', cap7', e7, -, -, hc7, hF7⟩ := HSq.out.o7.open_
          injection e7 with e7 _ f7
          subst e7
          subst f7
          obtain ⟨g7, p7, rfl, hg7, hce7⟩ := hc7.ex (by have := (List.getElem?_eq_some_iff.1 hu).1; omega)
          have hcu := hce7 _ _ hu
          have hne7 : g7 ∉ [b3] := fun hm => by
            obtain ⟨g, e1, e2, -⟩ := hF7 _ rfl
            injection e1 with e1 _ _
            simp at hm
            exact HB7.out (by rw [e2, ← hm, e1]; simp)
          have hah : Ahead (packed (rowBits ts)) (rowBits (ts.take p)).length (tileBits t.k t.l t.W t.H t.d) := by
            have e := rowBits_at hpl
            rw [htp] at e
            have hb := HBIT.out
            rw [e] at hb ⊢
            exact ahead_packed hb
          have hget : ∀ wz, Chg [] wr wz → _ := fun wz (hz : Chg [] wr wz) => tget_all (HR.out.same hz) htok.w0 htok.w1 htok.h0 htok.h1 htok.d0 htok.d1 htok.len htok.smp htok.k7 (HP.out.same (HSq.out.chg.trans_same hz)) H0F.out htok.may hah
          have hnext : (rowBits (ts.take p)).length + (tileBits t.k t.l t.W t.H t.d).length = (rowBits (ts.take (p + 1))).length := by rw [rowBits_take hpl, htp, List.length_append]; rfl
          obtain ⟨capu, rfl, hcl⟩ := Row.cells_vi hrow
          obtain ⟨l, hl⟩ : ∃ l, l = t.l := ⟨_, rfl⟩
          rw [← hl] at hcl hcu
          obtain ⟨m, hm⟩ : ∃ m, m = l.length := ⟨_, rfl⟩
          have hm1 : m ≤ 256 := by rw [hm, hl, htok.len]; exact Nat.mul_le_mul htok.w1 htok.h1
          rw [← hm] at hcu
          have hgg : g ∉ [b3] := fun hm => by simp at hm; have := HB3.out; omega
          have hkeep7 : ∀ wz, Chg [b3] wr wz → wz.cell? ⟨g7, p7 + p, none⟩ = some (.slice (some ⟨g, 0, none⟩) m capu) := fun wz hz => (World.cell?_of_block (w := wr) (hz.block g7 hg7 hne7)).trans hcu
          have hcl' : ∀ wz, Chg [b3] wr wz → Cells vi wz (some ⟨g, 0, none⟩) l := fun wz hz => hcl.chg hz (fun ad e => by injection e with e; subst e; exact hgg)
          have HKEEP7 := hid hkeep7
          have hdr : Chg [] wr wr := Chg.refl _ _
          rw [← hW, ← hH, ← hd, ← hl] at hget hnext
          have HGET := hid hget
          have HNX := hid hnext
          have HCL := hid hcl'
          have HM := hid hm
          clear hpl ht htp htok hs1 hs2 hs3 hrow hu hW hH hd hc8 hce8 hc7 hce7 hah hkeep hne8 hg8 hF8 hget hnext hcl hl hm hdr hcl' hkeep7 hgg hne7 hg7 hF7 hcu hgo
          go_wp2_with fail
          go_region_held3 (fun w' => w'.cell? ⟨g8, p8 + p * 3, none⟩ = some (.int .i64 (W : Int)) ∧ w'.cell? ⟨g8, p8 + p * 3 + 1, none⟩ = some (.int .i64 (H : Int)) ∧ w'.cell? ⟨g8, p8 + p * 3 + 2, none⟩ = some (.int .i64 (d : Int))) (first | (go_keep; done) | exact HKEEP.out _ (((Chg.refl [b3] wr).drew).trans (by assumption) (fun x hx => .inl hx)) | exact HKEEP.out _ (by assumption)) (first | (go_at_call 32; refine (HGET.out _ ((Chg.refl [] wr).drew)).mono ?_; unfold GetPost; rintro e w5 ⟨v5, G5, rfl, own5, hrd5, ch5, hG5⟩))
          have ch05 : Chg [b3] wr w5 := ((Chg.refl [b3] wr).drew).trans ch5 (fun x hx => .inl hx)
          have HCH5 := hid (HCH.out.trans ch05 (fun x hx => .inr (by simp at hx; have := HB3.out; omega)))
          have HS5 := hid (HS.out.same HCH5.out)
          have hcu5 := (HKEEP7.out w5 ch05)
          obtain ⟨A5, c5, rfl, h51, h52, hc5⟩ := own5.open_map
          have hint := ints_ok w5 A5 (some ⟨g, 0, none⟩) c5 capu l l hc5 (HCL.out w5 ch05) (by rw [← HM.out]; omega) (by rw [← HM.out]; omega)
          rw [← HM.out] at hint ⊢
          have hdl : decide (l = l) = true := by simp
          rw [hdl] at hint
          have HR5 := hid (hrd5.cast HNX.out)
          clear own5 h51 h52 hc5 hdl hrd5 ch5 ch05
          go_wp2_with fail
          refine hint.mono ?_
          rintro e w6 ⟨rfl, nq, rfl⟩
          have ch6 : Chg [] w5 (w5.drewN nq) := (Chg.refl [] w5).drewN nq
          have HR6 := hid (HR5.out.same ch6)
          have HCH6 := hid (HCH5.out.trans_same ch6)
          generalize w5.drewN nq = w6 at *
          clear hint ch6 hcu5
          go_wp2_with fail
          go_roundg j
          case measure => omega
          case rel => exact ⟨p + 1, by go_num, by omega, HR6, HCH6⟩
    · have hi : i < n := by omega
      have t2 : decide (i < n) = true := decide_eq_true hi
      obtain ⟨at0, htp0⟩ := HS.out.tp
      have hdr := drawn_tp wr b cap at0 A L htp0
      have HI := hid hi
      clear htp0
      go_wp2_with fail
      refine hdr.mono ?_
      rintro e w2 ⟨vl, g, l, at', W, H, d, rfl, hrow, hll, hsm, htp2, ch2, hg, hW0, hW1, hH0, hH1, hd0, hd1⟩
      have HS2 := hid (HS.out.drawn ch2 htp2)
      have hgb : g ∉ b :: (F ++ F7 ++ F8) := by
        obtain ⟨l1, l2, l3, l4⟩ := HS.out.lts
        intro hm
        simp only [List.mem_cons, List.mem_append] at hm
        rcases hm with h | (h | h) | h
        · omega
        · have := l2 g h; omega
        · have := l3 g h; omega
        · have := l4 g h; omega
      obtain ⟨capl, rfl, ht2⟩ := row_tile hrow hW0 hW1 hH0 hH1 hd0 hd1 hll hsm
      have hlk : i < L2.length := by rw [← HN.out]; exact hi
      obtain ⟨ga, oa, rfl, hcA⟩ := (HC2.out.same HS2.out.chg).at_ hlk
      obtain ⟨x, hx⟩ : ∃ x, x = L2[i] := ⟨_, rfl⟩
      rw [← hx] at hcA
      have cA : w2.cell? ⟨ga, oa + i, none⟩ = some (.int .i64 x) := hcA
      have hx64 : In64 x := by rw [hx]; exact HIN2.out _ (List.getElem_mem _)
      have hwi := within_ok x 0 7 w2 hx64 (by decide) (by decide) (by decide)
      have hwin := within_in x (lo := 0) (hi := 7) (by decide)
      obtain ⟨k, hk⟩ : ∃ k : Nat, withinI x 0 7 = (k : Int) := ⟨(withinI x 0 7).toNat, by omega⟩
      rw [hk] at hwin hwi
      have hk7 : k ≤ 7 := by omega
      have hmay := may_all capl ht2 k hk7
      unfold MayPost at hmay
      obtain ⟨m, hm⟩ : ∃ m, m = l.length := ⟨_, rfl⟩
      rw [← hm] at hmay ⊢
      have HM := hid hm
      have HROW := hid hrow
      have HT2 := hid ht2
      have HLL := hid hll
      have HGB := hid hgb
      clear hdr hk hx hx64 hwin hcA hgb hrow htp2 ch2 hg hll hsm hm ht2
      go_wp2_with fail
      refine hwi.mono ?_
      rintro e w' ⟨rfl, rfl⟩
      clear hwi cA
      have hsmall : (rowBits ts).length < 34359738368 := by
        have := rowBits_len ts HOK.out
        have := HTL.out
        omega
      have HSM := hid hsmall
      clear hsmall
      have h0w : 0 < w.heap.size := HP.out.lt
      have h0F : 0 ∉ F := fun h => by have := HS2.out.new 0 (by simp [h]); omega
      have hpt := HP.out.same HS2.out.chg
      have HH0 := hid h0w
      have HH1 := hid h0F
      have HPT := hid hpt
      clear h0w h0F hpt
      rcases hmb : mayB k l W d with _ | _
      all_goals rw [hmb] at hmay
      all_goals
        go_wp2_with fail
        refine hmay.mono ?_
        rintro e w3 ⟨rfl, ch3⟩
        have HS3 := hid (HS2.out.same ch3)
        have HT3 := hid (HT2.out.same ch3)
        have hap : Apt (some (⟨g, 0, none⟩ : Addr)) l F := fun _ ad e hm => HGB.out (by injection e with e; subst e; simp at hm ⊢; simp [hm])
        have HROW3 := hid (HROW.out.chg ch3 (by simp))
        clear hmay
      · have hput := tput_ok capl HT3.out (HPT.out.same ch3) bw F (rowBits ts) HS3.out.wr hap HH1.out HSM.out
        have hbk := bestKind_le l W H d
        obtain ⟨kk, hkk⟩ : ∃ kk, kk = bestKind l W H d := ⟨_, rfl⟩
        rw [← hkk] at hput hbk
        unfold PutPost at hput
        rw [← HM.out] at hput
        obtain ⟨t, ht⟩ : ∃ t : TileD, t = ⟨l, W, H, d, kk⟩ := ⟨_, rfl⟩
        have htok : t.Ok := by rw [ht]; exact ⟨hW0, hW1, hH0, hH1, hd0, hd1, HLL.out, HT3.out.smp, hbk.1, hbk.2⟩
        have hts : t.size = [.int .i64 (W : Int), .int .i64 (H : Int), .int .i64 (d : Int)] := by rw [ht]; rfl
        have htb : t.bits = tileBits kk l W H d := by rw [ht]; rfl
        rw [← htb] at hput
        have HS4 := hid (HS3.out.snoc (t := t) (by rw [ht]; exact HROW3.out) HGB.out)
        have HTOK := hid htok
        have HTS := hid hts
        clear htok hts htb ht hbk hap hmb hkk
        go_wp2_with fail
        refine hput.mono ?_
        rintro e w4 ⟨rfl, F', hwr4, hgr4⟩
        have HS5 := hid (HS4.out.put hwr4 hgr4)
        clear hput hwr4 hgr4
        have hown7 := HS5.out.o7.same ((Chg.refl [] w4).alloc (.cells #[.slice (some ⟨g, 0, none⟩) m capl] 29))
        have hblk7 := Blk.new w4 29 #[.slice (some ⟨g, 0, none⟩) m capl]
        go_wp2_with (at_builtin; refine wpList_append_k1 rfl rfl rows_elem rfl (by decide) rfl hown7 [.slice (some ⟨g, 0, none⟩) m capl] rfl rfl ?c1 ?c2 ?c3 ?c4 ?_)
        case c1 =>
          intro q u hq
          match q, hq with
          | 0, hq => rw [← hq]; exact hblk7.cell 0
          | q + 1, hq => simp at hq
        case c2 => intro u hu; simp at hu; subst hu; rfl
        case c3 => omega
        case c4 => omega
        intro g7 cap7 w6 hown6 hgr6
        have HS6 := hid ((HS5.out.same ((Chg.refl [] w4).alloc (.cells #[.slice (some ⟨g, 0, none⟩) m capl] 29))).app7 hown6 hgr6)
        have hown8 := HS6.out.o8.same ((Chg.refl [] w6).alloc (.cells #[.int .i64 (W : Int), .int .i64 (H : Int), .int .i64 (d : Int)] 69))
        have hblk8 := Blk.new w6 69 #[.int .i64 (W : Int), .int .i64 (H : Int), .int .i64 (d : Int)]
        clear hown7 hblk7 hown6 hgr6
        go_wp2_with (at_builtin; refine wpList_append_k1 rfl rfl three_elem rfl (by decide) rfl hown8 [.int .i64 (W : Int), .int .i64 (H : Int), .int .i64 (d : Int)] rfl rfl ?d1 ?d2 ?d3 ?d4 ?_)
        case d1 =>
          intro q u hq
          match q, hq with
          | 0, hq => rw [← hq]; exact hblk8.cell 0
          | 1, hq => rw [← hq]; exact hblk8.cell 1
          | 2, hq => rw [← hq]; exact hblk8.cell 2
          | q + 3, hq => simp at hq
        case d2 => intro u hu; simp at hu; rcases hu with rfl | rfl | rfl <;> rfl
        case d3 => omega
        case d4 => omega
        intro g8 cap8 w8 hown9 hgr8
        rw [← HTS.out, ← sizesOf_snoc] at hown9
        have HS8 := hid ((HS6.out.same ((Chg.refl [] w6).alloc (.cells #[.int .i64 (W : Int), .int .i64 (H : Int), .int .i64 (d : Int)] 69))).app8 hown9 hgr8)
        clear hown8 hblk8 hown9 hgr8
        go_wp2_with fail
        go_roundg j
        case measure => omega
        case rel =>
          refine ⟨i + 1, ts ++ [t], F', [g7], [g8], xs ++ [.slice (some ⟨g, 0, none⟩) m capl], by go_num, by omega, hid (by have := HTL.out; simp; omega), hid ?_, hid ?_⟩
          · intro t' ht'
            rcases List.mem_append.1 ht' with h | h
            · exact HOK.out t' h
            · simp at h; subst h; exact HTOK.out
          · rw [rowBits_snoc]
            have h := HS8.out
            rw [← HM.out] at h
            exact h
      · have hput := putBy_all capl HT3.out bw F (rowBits ts) HS3.out.wr hap (HPT.out.same ch3) HH1.out HSM.out k hk7 hmb
        have hbk : k ≤ 7 ∧ mayB k l W d = true := ⟨hk7, hmb⟩
        unfold PutPost at hput
        rw [← HM.out] at hput
        obtain ⟨t, ht⟩ : ∃ t : TileD, t = ⟨l, W, H, d, k⟩ := ⟨_, rfl⟩
        have htok : t.Ok := by rw [ht]; exact ⟨hW0, hW1, hH0, hH1, hd0, hd1, HLL.out, HT3.out.smp, hbk.1, hbk.2⟩
        have hts : t.size = [.int .i64 (W : Int), .int .i64 (H : Int), .int .i64 (d : Int)] := by rw [ht]; rfl
        have htb : t.bits = tileBits k l W H d := by rw [ht]; rfl
        rw [← htb] at hput
        have HS4 := hid (HS3.out.snoc (t := t) (by rw [ht]; exact HROW3.out) HGB.out)
        have HTOK := hid htok
        have HTS := hid hts
        clear htok hts htb ht hbk hap hmb 
        go_wp2_with fail
        refine hput.mono ?_
        rintro e w4 ⟨rfl, F', hwr4, hgr4⟩
        have HS5 := hid (HS4.out.put hwr4 hgr4)
        clear hput hwr4 hgr4
        have hown7 := HS5.out.o7.same ((Chg.refl [] w4).alloc (.cells #[.slice (some ⟨g, 0, none⟩) m capl] 29))
        have hblk7 := Blk.new w4 29 #[.slice (some ⟨g, 0, none⟩) m capl]
        go_wp2_with (at_builtin; refine wpList_append_k1 rfl rfl rows_elem rfl (by decide) rfl hown7 [.slice (some ⟨g, 0, none⟩) m capl] rfl rfl ?c1 ?c2 ?c3 ?c4 ?_)
        case c1 =>
          intro q u hq
          match q, hq with
          | 0, hq => rw [← hq]; exact hblk7.cell 0
          | q + 1, hq => simp at hq
        case c2 => intro u hu; simp at hu; subst hu; rfl
        case c3 => omega
        case c4 => omega
        intro g7 cap7 w6 hown6 hgr6
        have HS6 := hid ((HS5.out.same ((Chg.refl [] w4).alloc (.cells #[.slice (some ⟨g, 0, none⟩) m capl] 29))).app7 hown6 hgr6)
        have hown8 := HS6.out.o8.same ((Chg.refl [] w6).alloc (.cells #[.int .i64 (W : Int), .int .i64 (H : Int), .int .i64 (d : Int)] 69))
        have hblk8 := Blk.new w6 69 #[.int .i64 (W : Int), .int .i64 (H : Int), .int .i64 (d : Int)]
        clear hown7 hblk7 hown6 hgr6
        go_wp2_with (at_builtin; refine wpList_append_k1 rfl rfl three_elem rfl (by decide) rfl hown8 [.int .i64 (W : Int), .int .i64 (H : Int), .int .i64 (d : Int)] rfl rfl ?d1 ?d2 ?d3 ?d4 ?_)
        case d1 =>
          intro q u hq
          match q, hq with
          | 0, hq => rw [← hq]; exact hblk8.cell 0
          | 1, hq => rw [← hq]; exact hblk8.cell 1
          | 2, hq => rw [← hq]; exact hblk8.cell 2
          | q + 3, hq => simp at hq
        case d2 => intro u hu; simp at hu; rcases hu with rfl | rfl | rfl <;> rfl
        case d3 => omega
        case d4 => omega
        intro g8 cap8 w8 hown9 hgr8
        rw [← HTS.out, ← sizesOf_snoc] at hown9
        have HS8 := hid ((HS6.out.same ((Chg.refl [] w6).alloc (.cells #[.int .i64 (W : Int), .int .i64 (H : Int), .int .i64 (d : Int)] 69))).app8 hown9 hgr8)
        clear hown8 hblk8 hown9 hgr8
        go_wp2_with fail
        go_roundg j
        case measure => omega
        case rel =>
          refine ⟨i + 1, ts ++ [t], F', [g7], [g8], xs ++ [.slice (some ⟨g, 0, none⟩) m capl], by go_num, by omega, hid (by have := HTL.out; simp; omega), hid ?_, hid ?_⟩
          · intro t' ht'
            rcases List.mem_append.1 ht' with h | h
            · exact HOK.out t' h
            · simp at h; subst h; exact HTOK.out
          · rw [rowBits_snoc]
            have h := HS8.out
            rw [← HM.out] at h
            exact h
end Go.Proofs.YtpkplhmdnjdmoaaGreatDoor
