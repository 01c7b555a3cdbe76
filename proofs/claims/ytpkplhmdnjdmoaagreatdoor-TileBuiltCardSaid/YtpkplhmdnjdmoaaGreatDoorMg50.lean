/- The law TileBuilt: putBy, and what a writer answers in any later world. -/
import Derived.Test.YtpkplhmdnjdmoaaGreatDoorMg47
import Derived.Deep.RegionHeld
set_option linter.unusedVariables false
set_option linter.unusedSimpArgs false
namespace Go.Proofs.YtpkplhmdnjdmoaaGreatDoor
set_option linter.unusedSimpArgs false
set_option linter.unusedVariables false
open Go.RowKit

set_option maxRecDepth 100000 in
set_option maxHeartbeats 1000000 in
theorem lputBy_ok {w : World} {l : List Int} {A : Option Addr} {W H d : Nat} (cap : Nat) (t : Tile w l A W H d) (hp : Pts w) (k : Nat) (hk : k ≤ 7) (hm : mayB k l W d = true) :
    Calls Tryz.prog 24 #[.int .i64 k, .slice A l.length cap, .int .i64 W, .int .i64 H, .int .i64 d] w fun e w' => ∃ b F, e = .returned (.tuple #[.pointer (some ⟨b, 0, none⟩), .bool true]) ∧ IsWr w' b F (tileBits k l W H d) ∧ Chg [] w w' ∧ ∀ x ∈ F, w.heap.size ≤ x := by
  obtain ⟨w1, hw1⟩ : ∃ w1, w1 = w.alloc (.cells #[.slice none 0 0, .int .i64 0] 37) := ⟨_, rfl⟩
  obtain ⟨B, hB⟩ : ∃ B, B = w.heap.size := ⟨_, rfl⟩
  have hwr : IsWr w1 B [B] [] := by rw [hw1, hB]; exact IsWr.new w
  have ch1 : Chg [] w w1 := by rw [hw1]; exact (Chg.refl [] w).alloc _
  have hp0 := hp.lt
  have hap : Apt A l [B] := Apt.fresh t.cells (F := [B]) (by rw [hB]; simp)
  have hpb := putBy_all cap (t.same ch1) B [B] [] hwr hap (hp.same ch1) (by simp; omega) (by simp) k hk hm
  unfold PutPost at hpb
  rw [List.nil_append] at hpb
  generalize tileBits k l W H d = ts at *
  have HB : Hid (∀ x ∈ [B], w.heap.size ≤ x) := hid (by intro x hx; rw [List.mem_singleton.1 hx, hB]; exact Nat.le_refl _)
  have HW1 := hid hw1
  have HBB := hid hB
  clear t hp hm hk hw1 hB hwr hap hp0
  go_enter Tryz.func24, Tryz.ntmps24
  go_wp2_with fail
  rw [← HW1.out, ← HBB.out]
  refine hpb.mono ?_
  rintro e w2 ⟨rfl, F2, hwr2, hgr2⟩
  go_wp2_with fail
  go_ret2
  exact ⟨B, F2, rfl, hwr2, hgr2.fresh HB.out ch1, hgr2.freshF HB.out ch1⟩

/-- The bytes of a writer as a string. -/
def strT (T : List Nat) : ByteArray := strOfNums ((packed T).map Int.ofNat)
/-- What a writer answers in any later world. -/
def LenAt (w : World) (b n : Nat) : Prop := ∀ wz, Chg [] w wz → Calls Tryz.prog 25 #[.pointer (some ⟨b, 0, none⟩)] wz fun e w' => e = .returned (.int .i64 (n : Int)) ∧ wz = w'
def BytesAt (w : World) (b : Nat) (S : ByteArray) : Prop := ∀ wz, Chg [] w wz → Calls Tryz.prog 26 #[.pointer (some ⟨b, 0, none⟩)] wz fun e w' =>
  ∃ v, e = .returned v ∧ (∀ wy, Chg [] w' wy → (Go.convert 35 9 v).run Tryz.prog wy = .ok (.string S) wy) ∧ Chg [] w w' ∧ Chg [] wz w'
theorem lenAt_of {w : World} {b : Nat} {F T : List Nat} (h : IsWr w b F T) : LenAt w b T.length := fun wz hz => wlen_any wz b F T (h.same hz)
theorem bytesAt_of {w : World} {b : Nat} {F T : List Nat} (h : IsWr w b F T) (h0 : 0 < T.length) (h1 : T.length < 549755813888) : BytesAt w b (strT T) := fun wz hz => by
  refine (wbytes_ok wz b F T (h.same hz) h1).mono ?_
  rintro e w' ⟨v, G, rfl, hown, ch, hG⟩
  obtain ⟨A, cap, rfl, hcl, hcm, hcells⟩ := hown.open_map
  refine ⟨_, rfl, fun wy hy => ?_, hz.trans_same ch, ch⟩
  obtain ⟨g, o, rfl, hlt, hcell⟩ := (hcells.same hy).ex (by rw [packed_len]; omega)
  exact run_convert_bytes_arg wy 35 5 Tryz.underlying35 Tryz.underlying5 g o _ cap ((packed T).map Int.ofNat) (by simp) (fun i hi => by
    have := hcell i _ (List.getElem?_eq_getElem hi)
    rw [this]
    have e : ((packed T).map Int.ofNat).getD i 0 = ((packed T)[i] : Nat) := by
      rw [List.getD_eq_getElem?_getD, List.getElem?_map, List.getElem?_eq_getElem hi]
      rfl
    rw [e]
    rfl) 9 Tryz.underlying9
theorem sum_cost_le : ∀ (ks : List Nat) (ps : List (List Int)), KsOk ks → (∀ p ∈ ps, ∀ x ∈ p, wideP x) → ((ks.zip ps).map (fun p => partCost p.1 p.2)).sum ≤ 10 * ps.length + 65 * ps.flatten.length
  | [], ps, _, _ => by simp
  | k :: ks, [], _, _ => by simp
  | k :: ks, p :: ps, hk, hp => by
    have h1 := sum_cost_le ks ps (fun x hx => hk x (by simp [hx])) (fun q hq => hp q (by simp [hq]))
    have h2 := partCost_le (hk k (by simp)) (hp p (by simp))
    simp only [List.zip_cons_cons, List.map_cons, List.sum_cons, List.length_cons, List.flatten_cons, List.length_append]
    omega
theorem plan_len {e : List Int} {n : Nat} (hn : e.length = n) (hw : ∀ x ∈ e, wideP x) : (planBits e n).length ≤ 4 + (160 + 65 * n) := by
  have hb := bestPlan_ok (n := n) (warm := 0) (most := 4) (by omega) e
  have hss := sizesL_sum hb.1.1
  have hsl := sizesL_len hb.1.1
  have hfl := splitL_flat (sizesL (bestPlan n 0 4 e).order n 0) e (by omega)
  unfold planBits
  rw [bitsP_len]
  unfold costP
  have h1 := sum_cost_le (bestPlan n 0 4 e).ks (splitL (sizesL (bestPlan n 0 4 e).order n 0) e) (ksOk_best e) (fun p hp x hx => hw x (by rw [← hfl]; exact List.mem_flatten.2 ⟨p, hp, hx⟩))
  rw [splitL_len, hfl, hsl] at h1
  have h2 : 2 ^ (bestPlan n 0 4 e).order ≤ 2 ^ 4 := Nat.pow_le_pow_right (by decide) hb.2.2
  omega
theorem tile_two_len (l : List Int) {W H d : Nat} (h0 : 1 ≤ d) (h1 : d ≤ 16) (hW : W ≤ 16) (hH : H ≤ 16) : 0 < (tileBits 2 l W H d).length ∧ (tileBits 2 l W H d).length < 549755813888 := by
  have e : tileBits 2 l W H d = bitsOf 2 3 ++ (allOf (kindsI l W H d) 4 ++ planBits (foreF l W H d) (W * H)) := rfl
  have hp := plan_len (foreF_len l W H d) (foreF_wide l W H d h0 h1)
  have hm : W * H ≤ 16 * 16 := Nat.mul_le_mul hW hH
  rw [e, List.length_append, List.length_append, bitsOf_len, all_len, kindsI_len]
  omega
theorem tile_three_len (l : List Int) {W H d : Nat} (h0 : 1 ≤ d) (h1 : d ≤ 16) (hW : W ≤ 16) (hH : H ≤ 16) : 0 < (tileBits 3 l W H d).length ∧ (tileBits 3 l W H d).length < 549755813888 := by
  have e : tileBits 3 l W H d = bitsOf 3 3 ++ modelBits l W d (W * H) := rfl
  have hp := modelBits_len l W h0 h1 (by have := Nat.pow_le_pow_right (n := 2) (by decide) h1; have e : ((2 ^ d : Nat) : Int) = (2 : Int) ^ d := by simp
                                         omega) (W * H)
  have hm : W * H ≤ 16 * 16 := Nat.mul_le_mul hW hH
  rw [e, List.length_append, bitsOf_len]
  omega
theorem tile_four_len (l : List Int) {W H d : Nat} (h1 : d ≤ 16) (hl : l.length ≤ 256) : 0 < (tileBits 4 l W H d).length ∧ (tileBits 4 l W H d).length < 549755813888 := by
  have e : tileBits 4 l W H d = bitsOf 4 3 ++ matchBits (leastF l (d + 1) 12) W d := rfl
  have hp := matchBits_len (leastF l (d + 1) 12) W d h1
  have hm := leastF_len l (d + 1) 12
  rw [e, List.length_append, bitsOf_len]
  omega
/-- The condition on the world may be turned into a stronger one. -/
theorem wpAnyH_mono {P : Program} {md : Region.Mode} {ops : Array Oper} {Q : Exit → Act → World → Prop} {S S' : World → Prop} (h : ∀ w, S' w → S w) :
    ∀ (fuel : Nat) (listed : Array Bool) (a : Act) (w : World), wpAnyH P md ops Q S' fuel listed a w → wpAnyH P md ops Q S fuel listed a w
  | 0, _, _, _, h1 => h1
  | fuel + 1, _, _, _, h1 => ⟨h1.1, fun i hi => wpOp_mono (fun a' w' h' => ⟨h _ h'.1, wpAnyH_mono h fuel _ a' w' h'.2⟩) (h1.2 i hi)⟩
end Go.Proofs.YtpkplhmdnjdmoaaGreatDoor
