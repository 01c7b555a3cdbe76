/- package kinorakeep2 by its contracts, the second part: Depth, row.next. -/
import Derived.Test.YtpkplhmdnjdmoaaGreatDoorMg39
set_option linter.unusedVariables false
set_option linter.unusedSimpArgs false
namespace Go.Proofs.YtpkplhmdnjdmoaaGreatDoor
set_option linter.unusedSimpArgs false
set_option linter.unusedVariables false
open Go.RowKit

def depthL : List Int := [8, 1, 2, 4, 8, 10, 12, 16, 5, 8]
theorem depthL_ok (k : Nat) (h : k < 10) : ∃ d : Nat, depthL[k]? = some (d : Int) ∧ 1 ≤ d ∧ d ≤ 16 := by
  rcases (by omega : k = 0 ∨ k = 1 ∨ k = 2 ∨ k = 3 ∨ k = 4 ∨ k = 5 ∨ k = 6 ∨ k = 7 ∨ k = 8 ∨ k = 9) with rfl | rfl | rfl | rfl | rfl | rfl | rfl | rfl | rfl | rfl
  · exact ⟨8, rfl, by omega, by omega⟩
  · exact ⟨1, rfl, by omega, by omega⟩
  · exact ⟨2, rfl, by omega, by omega⟩
  · exact ⟨4, rfl, by omega, by omega⟩
  · exact ⟨8, rfl, by omega, by omega⟩
  · exact ⟨10, rfl, by omega, by omega⟩
  · exact ⟨12, rfl, by omega, by omega⟩
  · exact ⟨16, rfl, by omega, by omega⟩
  · exact ⟨5, rfl, by omega, by omega⟩
  · exact ⟨8, rfl, by omega, by omega⟩
theorem IsTp.fresh {w w' : World} {b cap at_ : Nat} {A : Option Addr} {L : List Int} (h : IsTp w b A cap L at_) (hc : Chg [] w w') : IsTp w' b A cap L at_ := h.same hc (by simp) (fun _ _ _ => by simp)
set_option maxRecDepth 100000 in
set_option maxHeartbeats 1000000 in
theorem depth_tp (w : World) (b cap at_ : Nat) (A : Option Addr) (L : List Int) (h : IsTp w b A cap L at_) :
    Calls Tryz.prog 38 #[.pointer (some ⟨b, 0, none⟩)] w fun e w' => ∃ d at' : Nat, e = .returned (.int .i64 (d : Int)) ∧ 1 ≤ d ∧ d ≤ 16 ∧ IsTp w' b A cap L at' ∧ Chg [b] w w' := by
  obtain ⟨w1, hw1⟩ : ∃ w1, w1 = w.alloc (.cells #[.int .i64 8, .int .i64 1, .int .i64 2, .int .i64 4, .int .i64 8, .int .i64 10, .int .i64 12, .int .i64 16, .int .i64 5, .int .i64 8] 3) := ⟨_, rfl⟩
  have hb1 : Blk w1 w.heap.size 3 #[.int .i64 8, .int .i64 1, .int .i64 2, .int .i64 4, .int .i64 8, .int .i64 10, .int .i64 12, .int .i64 16, .int .i64 5, .int .i64 8] := by rw [hw1]; exact Blk.new w _ _
  have hc1 : Chg [] w w1 := by rw [hw1]; exact (Chg.refl [] w).alloc _
  have hn := next_tp w1 b cap at_ 10 A L (h.fresh hc1) (by omega) (by omega)
  have hbb : w.heap.size ≠ b := by have := h.blk.lt; omega
  have HW1 := hid hw1
  obtain ⟨B, hB⟩ : ∃ B, B = w.heap.size := ⟨_, rfl⟩
  rw [← hB] at hb1 hbb
  have HB := hid hB
  clear hw1 h hB
  go_enter Tryz.func38, Tryz.ntmps38
  go_wp2_with fail
  rw [← HW1.out, ← HB.out]
  refine hn.mono ?_
  rintro e w2 ⟨k, at', rfl, hk, htp, ch2⟩
  obtain ⟨d, hd, hd0, hd1⟩ := depthL_ok k hk
  have hb2 := hb1.chg ch2 (by simpa using hbb)
  have hcell : w2.cell? ⟨B, k, none⟩ = some (.int .i64 (d : Int)) := by
    rw [hb2.cell k]
    have e : (#[Value.int .i64 8, .int .i64 1, .int .i64 2, .int .i64 4, .int .i64 8, .int .i64 10, .int .i64 12, .int .i64 16, .int .i64 5, .int .i64 8] : Array Value) = (depthL.map vi).toArray := rfl
    rw [e, List.getElem?_toArray, List.getElem?_map, hd]
    rfl
  have hk0 : (0 : Int) ≤ (k : Int) := by omega
  have hk1 : (k : Int) < 10 := by omega
  have HD := hid (And.intro hd0 hd1)
  have HCH : Hid (Chg [b] w w2) := hid ((hc1.mono (by simp)).trans_same ch2)
  clear hd hb2 hb1 hn hd0 hd1
  go_wp2_with fail
  go_ret
  exact ⟨d, at', rfl, HD.out.1, HD.out.2, htp, HCH.out⟩
/-- A row of numbers in memory. -/
def IsRw (w : World) (b : Nat) (s : Nat) : Prop := Blk w b 113 #[.int .i64 (s : Int)] ∧ s < 2147483648
theorem and_low64 (x : Int) (m : Nat) (hm : m < 9223372036854775808) : ∃ k : Nat, k ≤ m ∧ bits .and .i64 x (m : Int) = (k : Int) := by
  refine ⟨(BitVec.ofInt 64 x &&& BitVec.ofInt 64 (m : Int)).toNat, ?_, ?_⟩
  · rw [BitVec.toNat_and]
    have e : (BitVec.ofInt 64 (m : Int)).toNat = m := by
      rw [BitVec.ofInt_natCast, BitVec.toNat_ofNat]
      exact Nat.mod_eq_of_lt (by omega)
    rw [e]
    exact Nat.and_le_right
  · show IntKind.i64.wrap ((BitVec.ofInt 64 x &&& BitVec.ofInt 64 (m : Int)).toNat : Int) = _
    have hle : (BitVec.ofInt 64 x &&& BitVec.ofInt 64 (m : Int)).toNat ≤ m := by
      rw [BitVec.toNat_and]
      have e : (BitVec.ofInt 64 (m : Int)).toNat = m := by
        rw [BitVec.ofInt_natCast, BitVec.toNat_ofNat]
        exact Nat.mod_eq_of_lt (by omega)
      rw [e]
      exact Nat.and_le_right
    generalize (BitVec.ofInt 64 x &&& BitVec.ofInt 64 (m : Int)).toNat = q at *
    exact IntWalk.i64_in _ (by omega)
set_option maxRecDepth 100000 in
set_option maxHeartbeats 1000000 in
theorem next_rw (w : World) (b s n : Nat) (h : IsRw w b s) (hn0 : 1 ≤ n) (hn1 : n ≤ 1073741824) :
    Calls Tryz.prog 84 #[.pointer (some ⟨b, 0, none⟩), .int .i64 n] w fun e w' => ∃ v s' : Nat, e = .returned (.int .i64 (v : Int)) ∧ v < n ∧ IsRw w' b s' ∧ Chg [b] w w' := by
  obtain ⟨hb, hs⟩ := h
  have b0 := hb.cell 0
  have f0 := hb.frozen 0
  simp at b0
  obtain ⟨x, hx⟩ : ∃ x, x = s * 1103515245 + 12345 := ⟨_, rfl⟩
  have hxb : x < 4611686018427387904 := by omega
  have hxI : (s : Int) * 1103515245 + 12345 = (x : Int) := by omega
  obtain ⟨y, hy, hand'⟩ := and_low64 (x : Int) 2147483647 (by omega)
  have hy1 : y < 2147483648 := by omega
  have hset := hb.set_ 0 (.int .i64 (y : Int))
  have hand : bits BinOp.and IntKind.i64 (x : Int) 2147483647 = (y : Int) := hand'
  obtain ⟨z, hz⟩ : ∃ z, z = y / 256 := ⟨_, rfl⟩
  have hzI : (y : Int) / 256 = (z : Int) := by omega
  have hz1 : z < 8388608 := by omega
  obtain ⟨r, hr⟩ : ∃ r, r = z % n := ⟨_, rfl⟩
  have hrn : r < n := by rw [hr]; exact Nat.mod_lt _ (by omega)
  have htm : (z : Int).tmod (n : Int) = (r : Int) := by rw [hr, Int.tmod_eq_emod_of_nonneg (by omega)]; simp
  have hnne : (n : Int) ≠ 0 := by omega
  have HS := hid hset
  have HHB := hid hb
  have HRN := hid hrn
  clear hset hb hx hy hz hr hrn hand'
  go_enter Tryz.func84, Tryz.ntmps84
  go_wp2
  go_ret
  refine ⟨r, y, rfl, HRN.out, ⟨?_, hy1⟩, (Chg.refl [b] w).setCell (.inl (by simp)) _⟩
  simpa using HS.out
end Go.Proofs.YtpkplhmdnjdmoaaGreatDoor
