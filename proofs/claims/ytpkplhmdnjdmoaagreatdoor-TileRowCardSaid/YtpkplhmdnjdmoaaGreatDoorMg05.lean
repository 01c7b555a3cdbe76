/- bits.Writer by its contracts: bit, Put, Unary, Len, Bytes. -/
import Derived.Test.YtpkplhmdnjdmoaaGreatDoorProg
import Derived.Test.YtpkplhmdnjdmoaaGreatDoorMg01
import Derived.Test.YtpkplhmdnjdmoaaGreatDoorMg02
import Derived.Test.YtpkplhmdnjdmoaaGreatDoorMg03
import Derived.Test.YtpkplhmdnjdmoaaGreatDoorMg04
import Derived.WalkLawsBesides
import Derived.WalkSpells
import Derived.Handy
import Derived.StillTailTactics
import Derived.Deep.QuietTactic
import Derived.BigQuiet
import Derived.Deep.DeepCutAuto
import Derived.Deep.LoopGhost
set_option linter.unusedVariables false
set_option linter.unusedSimpArgs false
namespace Go.Proofs.YtpkplhmdnjdmoaaGreatDoor
set_option linter.unusedSimpArgs false
set_option linter.unusedVariables false
open Go.RowKit

/-- The Writer at block b has written the bits bs; F: its blocks. -/
structure IsWr (w : World) (b : Nat) (F : List Nat) (bs : List Nat) : Prop where
  ex : ∃ v G, Blk w b 37 #[v, .int .i64 bs.length] ∧ Own w 5 v G ((packed bs).map b8) ∧ F = b :: G
  bit : ∀ x ∈ bs, x < 2

theorem IsWr.mem {w : World} {b : Nat} {F bs : List Nat} (h : IsWr w b F bs) : b ∈ F := by
  obtain ⟨_, _, _, _, rfl⟩ := h.ex
  simp
theorem IsWr.lt {w : World} {b : Nat} {F bs : List Nat} (h : IsWr w b F bs) : ∀ x ∈ F, x < w.heap.size := by
  obtain ⟨_, _, hb, ho, rfl⟩ := h.ex
  intro x hx
  rcases List.mem_cons.1 hx with rfl | hx
  · exact hb.lt
  · exact ho.lt x hx
theorem IsWr.chg {w w' : World} {b : Nat} {F G bs : List Nat} (h : IsWr w b F bs) (hc : Chg G w w') (hd : ∀ x ∈ F, x ∉ G) : IsWr w' b F bs := by
  obtain ⟨v, K, hb, ho, rfl⟩ := h.ex
  exact ⟨⟨v, K, hb.chg hc (hd b (by simp)), ho.chg hc fun x hx => hd x (by simp [hx]), rfl⟩, h.bit⟩
theorem IsWr.same {w w' : World} {b : Nat} {F bs : List Nat} (h : IsWr w b F bs) (hc : Chg [] w w') : IsWr w' b F bs := h.chg hc (by simp)
/-- A new one. -/
theorem IsWr.new (w : World) : IsWr (w.alloc (.cells #[.slice none 0 0, .int .i64 0] 37)) w.heap.size [w.heap.size] [] :=
  ⟨⟨_, [], Blk.new _ _ _, Own.nil _ _, rfl⟩, by simp⟩

theorem u8_elem : Elem Tryz.prog 35 5 (.int .u8 0) 1 1 := .mk' Tryz.underlying35 (by kernel_rfl)

set_option maxRecDepth 100000 in
set_option maxHeartbeats 1000000 in
theorem bit_any (w : World) (b : Nat) (F bs : List Nat) (x : Nat) (h : IsWr w b F bs) (hx : x < 2) (hlen : bs.length < 1099511627776) :
    Calls Tryz.prog 40 #[.pointer (some ⟨b, 0, none⟩), .int .u8 x] w fun e w' => e = .returned (.tuple #[]) ∧ ∃ F', IsWr w' b F' (bs ++ [x]) ∧ Grow F F' w w' := by
  obtain ⟨v, G, hb, ho, rfl⟩ := h.ex
  have hbit := h.bit
  have hne := ho.ne_ hb (by decide)
  have Hbit : ∀ y ∈ bs ++ [x], y < 2 := by
    intro y hy
    rcases List.mem_append.1 hy with hy | hy
    · exact hbit y hy
    · simp at hy; omega
  obtain ⟨A, cap, rfl, hcl, hcm, -⟩ := ho.open_map
  have hpl : (packed bs).length ≤ 137438953472 := by rw [packed_len]; omega
  have hc0 := hb.cell 0
  have hc1 := hb.cell 1
  have hf0 := hb.frozen 0
  have hf1 := hb.frozen 1
  simp at hc0 hc1
  have HB := hid Hbit
  clear Hbit hbit h
  obtain ⟨i, r, hl, hr8⟩ : ∃ i r, bs.length = 8 * i + r ∧ r < 8 := ⟨bs.length / 8, bs.length % 8, by omega, by omega⟩
  have e1 : (bs.length : Int) / 8 = (i : Int) := by omega
  have e2 : (bs.length : Int) % 8 = (r : Int) := by omega
  have HL := hid hl
  by_cases h8 : r = 0
  · subst h8
    have hpk : (packed bs).length = i := by rw [packed_len]; omega
    have hi : (i : Int) < 1099511627776 := by omega
    have HP := hid hpk
    clear hl hpk
    go_enter Tryz.func40, Tryz.ntmps40
    go_wp2_with (at_builtin; refine wpList_append_o1 rfl rfl u8_elem rfl rfl (ho.alloc _) (.int .u8 0) rfl ?c1 ?c2 ?c3 ?c4 ?_)
    case c1 => simp [go_sem]
    case c2 => rfl
    case c3 => simp; omega
    case c4 => simp; omega
    intro g2 cap2 w2 hr2 gr2
    have hgb : g2 ≠ b := by
      rintro rfl
      rcases gr2.new g2 (by simp) with h | h
      · exact hne h
      · have := hb.lt; simp at h; omega
    have hb2 := (hb.alloc (.cells #[.int .u8 0] 5)).chg gr2.chg (by simpa using hne)
    try simp only [List.length_map] at hr2
    try rw [HP.out] at hr2
    try simp only [List.length_map]
    try rw [HP.out]
    have hd1 := hb2.cell 0
    have hd2 := hb2.frozen 0
    simp at hd1
    clear hc0 hc1 hf0 hf1 hcl hcm hpl
    have hb3 := hb2.set_ 0 (.slice (some ⟨g2, 0, none⟩) (i + 1) cap2)
    have hr3 := hr2.far (p := ⟨b, 0, none⟩) hgb (.slice (some ⟨g2, 0, none⟩) (i + 1) cap2)
    have ch3 : Grow (b :: G) [b, g2] w (w2.setCell ⟨b, 0, none⟩ (.slice (some ⟨g2, 0, none⟩) (i + 1) cap2)) :=
      (((Grow.refl (b :: G) w).alloc _).trans (gr2.cons b)).setCell (by simp) _
    go_wp2_with fail
    generalize hw3 : w2.setCell ⟨b, 0, none⟩ (.slice (some ⟨g2, 0, none⟩) (i + 1) cap2) = w3 at *
    clear hd1 hd2
    have hd0 := hb3.cell 0
    have hd1 := hb3.cell 1
    have hd2 := hb3.frozen 1
    simp at hd0 hd1
    have hx0 : w3.cell? ⟨g2, i, none⟩ = some (.int .u8 0) := by
      obtain ⟨_, _, _, _, h4, _⟩ := hr3.open_
      rw [h4 i (by simp [HP.out])]
      rw [List.getElem?_append_right (by simp [HP.out])]
      simp [HP.out]
    have hx1 : w3.frozen? ⟨g2, i, none⟩ = false := by
      obtain ⟨_, _, _, _, _, h4⟩ := hr3.open_
      exact h4 i
    refine wp_region_quiet_tail 21 (by kernel_rfl) (by kernel_rfl) ?_
    simp only [List.take_succ_cons, List.take_zero, List.drop_succ_cons, List.drop_zero]
    repeat (go_big_quiet_step (fail))
    refine wpQuiet_nil ?_
    intro _ hw'
    obtain ⟨nq, rfl⟩ := hw'
    go_wp2_with fail
    go_end0
    have hv : bits .or .u8 0 ((x : Int) * 128) = ((x * 128 : Nat) : Int) := by
      have := bor_u8 (x := 0) (y := x * 128) (by decide) (by omega)
      simpa using this
    rw [hv]
    refine ⟨rfl, [b, g2], ⟨⟨.slice (some ⟨g2, 0, none⟩) (i + 1) cap2, [g2], ?_, ?_, rfl⟩, HB.out⟩, ?_⟩
    · have h1 := ((hb3.drewN nq).far (p := ⟨g2, i, none⟩) hgb.symm (.int .u8 ((x * 128 : Nat) : Int))).set_ 1 (.int .i64 ((bs.length : Int) + 1))
      simpa using h1
    · have h1 := ((hr3.drewN nq).set_ (i := i) (by simp [HP.out]) (.int .u8 ((x * 128 : Nat) : Int))).far (p := ⟨b, 1, none⟩) hgb (.int .i64 ((bs.length : Int) + 1))
      have e : (List.map b8 (packed bs) ++ [Value.int .u8 0]).set i (.int .u8 ((x * 128 : Nat) : Int)) = (packed (bs ++ [x])).map b8 := by
        rw [packed_new (by rw [HL.out]; omega), List.map_append, List.set_append_right _ _ (by simp [HP.out])]
        simp [HP.out, b8]
      rw [e] at h1
      exact h1.toOwn
    · exact ((ch3.drewN nq).setCell (p := ⟨g2, i, none⟩) (by simp) _).setCell (p := ⟨b, 1, none⟩) (by simp) _
  · have hr0 : (r : Int) ≠ 0 := by omega
    have t1 : ((r : Int) == 0) = false := by rw [beq_eq_false_iff_ne]; exact hr0
    have hpk : (packed bs).length = i + 1 := by rw [packed_len]; omega
    have HP := hid hpk
    obtain ⟨g2, rfl⟩ : ∃ g2, A = some ⟨g2, 0, none⟩ := by
      obtain ⟨A', cap', h1, _, _, h2, h3⟩ := ho.open_
      injection h1 with h1 _ _
      subst h1
      obtain ⟨b0, o0, h4, _⟩ := h2.ex (by simp [hpk])
      obtain ⟨g, h5, _⟩ := h3 _ h4
      exact ⟨g, by rw [h4, h5]⟩
    obtain ⟨hr3, rfl⟩ := ho.row rfl
    have hgb : g2 ≠ b := by simpa [eq_comm] using hne
    have hby : byteAt bs i < 256 := byteAt_lt (fun y hy => HB.out y (by simp [hy])) i
    have hx0 : w.cell? ⟨g2, i, none⟩ = some (.int .u8 (byteAt bs i)) := by
      obtain ⟨_, _, _, _, h4, _⟩ := hr3.open_
      rw [h4 i (by simp [HP.out])]
      have : i < (bs.length + 7) / 8 := by omega
      simp [packed, b8, this]
    have hx1 : w.frozen? ⟨g2, i, none⟩ = false := by
      obtain ⟨_, _, _, _, _, h4⟩ := hr3.open_
      exact h4 i
    rw [hpk] at hb hc0 hcl
    have hor := or_bit (b := x) hl hr8 hx
    have hlast : packed (bs ++ [x]) = (packed bs).set i (byteAt bs i + x * 2 ^ (7 - r)) := by
      have h1 := packed_in (bs := bs) (b := x) (by omega)
      have h2 : bs.length / 8 = i := by omega
      have h3 : bs.length % 8 = r := by omega
      rw [h1, h2, h3]
    have HLast := hid hlast
    have Hor := hid hor
    clear hl hpk hlast hor
    go_enter Tryz.func40, Tryz.ntmps40
    go_wp2_with fail
    refine wp_region_quiet_tail 21 (by kernel_rfl) (by kernel_rfl) ?_
    simp only [List.take_succ_cons, List.take_zero, List.drop_succ_cons, List.drop_zero]
    repeat (go_big_quiet_step (fail))
    refine wpQuiet_nil ?_
    intro _ hw'
    obtain ⟨nq, rfl⟩ := hw'
    go_wp2_with fail
    go_end0
    have hp7 : 2 ^ (7 - r) ≤ 128 := Nat.pow_le_pow_right (n := 2) (j := 7) (by decide) (by omega)
    have hxp : x * 2 ^ (7 - r) < 256 := by
      have : x = 0 ∨ x = 1 := by omega
      rcases this with rfl | rfl <;> omega
    have hv : bits .or .u8 ((byteAt bs i : Nat) : Int) ((x : Int) * 2 ^ (7 - r) % 256) = ((byteAt bs i + x * 2 ^ (7 - r) : Nat) : Int) := by
      have e3 : ((x : Int) * 2 ^ (7 - r) % 256) = ((x * 2 ^ (7 - r) : Nat) : Int) := by
        rw [Int.natCast_mul, Int.natCast_pow]
        refine Int.emod_eq_of_lt ?_ ?_
        · exact Int.mul_nonneg (by omega) (Int.le_of_lt (two_pow_pos' _))
        · exact_mod_cast hxp
      rw [e3, bor_u8 hby hxp, Hor.out]
    rw [hv]
    refine ⟨rfl, [b, g2], ⟨⟨.slice (some ⟨g2, 0, none⟩) (i + 1) cap, [g2], ?_, ?_, rfl⟩, HB.out⟩, ?_⟩
    · have h1 := ((hb.drewN nq).far (p := ⟨g2, i, none⟩) hgb.symm (.int .u8 ((byteAt bs i + x * 2 ^ (7 - r) : Nat) : Int))).set_ 1 (.int .i64 ((bs.length : Int) + 1))
      simpa using h1
    · have h1 := ((hr3.drewN nq).set_ (i := i) (by simp [HP.out]) (.int .u8 ((byteAt bs i + x * 2 ^ (7 - r) : Nat) : Int))).far (p := ⟨b, 1, none⟩) hgb (.int .i64 ((bs.length : Int) + 1))
      rw [HP.out] at h1
      have e : (List.map b8 (packed bs)).set i (.int .u8 ((byteAt bs i + x * 2 ^ (7 - r) : Nat) : Int)) = (packed (bs ++ [x])).map b8 := by
        rw [HLast.out, List.map_set]
        rfl
      rw [e] at h1
      exact h1.toOwn
    · exact (((Grow.refl [b, g2] w).drewN nq).setCell (p := ⟨g2, i, none⟩) (by simp) _).setCell (p := ⟨b, 1, none⟩) (by simp) _
end Go.Proofs.YtpkplhmdnjdmoaaGreatDoor

/- bits.Writer by its contracts, the second part: Put, Unary, Len, Bytes. -/
namespace Go.Proofs.YtpkplhmdnjdmoaaGreatDoor
set_option linter.unusedSimpArgs false
set_option linter.unusedVariables false
open Go.RowKit

set_option maxRecDepth 100000 in
theorem wput_ok (w : World) (b : Nat) (F bs : List Nat) (v n : Nat) (h : IsWr w b F bs) (hn : n ≤ 63) (hv : v < 2 ^ n) (hlen : bs.length < 549755813888) :
    Calls Tryz.prog 15 #[.pointer (some ⟨b, 0, none⟩), .int .u64 v, .int .i64 n] w fun e w' => e = .returned (.int .i64 0) ∧ ∃ F', IsWr w' b F' (bs ++ bitsOf v n) ∧ Grow F F' w w' := by
  have hv64 : v < 18446744073709551616 := Nat.lt_of_lt_of_le hv (Nat.le_trans (Nat.pow_le_pow_right (by decide) hn) (by decide : 2 ^ 63 ≤ 18446744073709551616))
  have t1 : decide ((n : Int) < 0) = false := by simp
  have t2 : decide ((64 : Int) < n) = false := by simp; omega
  have t3 : (((v : Int) / 2 ^ n) != 0) = false := by
    have : (v : Int) / 2 ^ n = ((v / 2 ^ n : Nat) : Int) := by simp
    rw [this, Nat.div_eq_of_lt hv]
    rfl
  clear hv
  go_enter Tryz.func15, Tryz.ntmps15
  go_wp2_with fail
  go_loopg [7] n (fun k i wr => ∃ (F' bs' : List Nat), i = .int .i64 ((k : Int) - 1) ∧ k ≤ n ∧ IsWr wr b F' bs' ∧ Hid (bs ++ bitsOf v n = bs' ++ bitsOf v k) ∧ bs'.length + k ≤ bs.length + n ∧ Grow F F' w wr)
  case atStart => exact ⟨F, bs, rfl, Nat.le_refl _, h, hid rfl, Nat.le_refl _, Grow.refl _ _⟩
  case round =>
    obtain ⟨F', bs', rfl, hk, hbr, Hr, hlr, hgr⟩ := hrel
    rcases gk with _ | k
    · have t4 : decide ((0 : Int) ≤ ((0 : Nat) : Int) - 1) = false := by simp
      go_wp2
      go_ret
      refine ⟨rfl, F', ?_, hgr⟩
      rw [Hr.out]
      simpa [bitsOf] using hbr
    · have e1 : (((k + 1 : Nat) : Int) - 1) = (k : Int) := by omega
      rw [e1]
      obtain ⟨bit, hbit⟩ : ∃ bit, bit = v / 2 ^ k % 2 := ⟨_, rfl⟩
      have hand : bits BinOp.and IntKind.u64 ((v : Int) / 2 ^ k) 1 = (bit : Int) := by
        have e : (v : Int) / 2 ^ k = ((v / 2 ^ k : Nat) : Int) := by simp
        have hle : v / 2 ^ k ≤ v := Nat.div_le_self _ _
        rw [e, hbit]
        exact band_u64_one (by omega)
      have hbit2 : bit ≤ 1 := by omega
      have Hstep : Hid (bs ++ bitsOf v n = (bs' ++ [bit]) ++ bitsOf v k) := by
        refine hid ?_
        rw [Hr.out, hbit, bitsOf, List.append_assoc]
        rfl
      clear hbit
      go_wp2_with fail
      refine (bit_any _ b F' bs' bit hbr (by omega) (by omega)).mono ?_
      rintro e w1 ⟨rfl, F2, h2, g2⟩
      go_wp2_with fail
      go_roundg k
      case measure => omega
      case rel => exact ⟨F2, bs' ++ [bit], rfl, by omega, h2, Hstep, by simp; omega, hgr.trans g2⟩

set_option maxRecDepth 100000 in
theorem wunary_ok (w : World) (b : Nat) (F bs : List Nat) (n : Nat) (h : IsWr w b F bs) (hn : n ≤ 4096) (hlen : bs.length < 549755813888) :
    Calls Tryz.prog 95 #[.pointer (some ⟨b, 0, none⟩), .int .i64 n] w fun e w' => e = .returned (.int .i64 0) ∧ ∃ F', IsWr w' b F' (bs ++ (List.replicate n 0 ++ [1])) ∧ Grow F F' w w' := by
  have t1 : decide ((n : Int) < 0) = false := by simp
  have t2 : decide ((4096 : Int) < n) = false := by simp; omega
  go_enter Tryz.func95, Tryz.ntmps95
  go_wp2_with fail
  go_loopg [12] n (fun k i wr => ∃ (F' bs' : List Nat), i = .int .i64 ((n - k : Nat) : Int) ∧ k ≤ n ∧ IsWr wr b F' bs' ∧ Hid (bs' = bs ++ List.replicate (n - k) 0) ∧ bs'.length + k ≤ bs.length + n ∧ Grow F F' w wr)
  case atStart => exact ⟨F, bs, by simp, Nat.le_refl _, h, hid (by simp), Nat.le_refl _, Grow.refl _ _⟩
  case round =>
    obtain ⟨F', bs', rfl, hk, hbr, Hr, hlr, hgr⟩ := hrel
    rcases gk with _ | k
    · have t4 : decide (((n - 0 : Nat) : Int) < (n : Int)) = false := by simp
      go_wp2_with fail
      refine (bit_any _ b F' bs' 1 hbr (by omega) (by omega)).mono ?_
      rintro e w1 ⟨rfl, F2, h2, g2⟩
      go_wp2
      go_ret
      refine ⟨rfl, F2, ?_, hgr.trans g2⟩
      rw [Hr.out] at h2
      simpa using h2
    · obtain ⟨m, hm⟩ : ∃ m, m = n - (k + 1) := ⟨_, rfl⟩
      rw [← hm] at Hr ⊢
      have hm1 : m < n := by omega
      have hm2 : n - k = m + 1 := by omega
      have HM := hid hm2
      clear hm hm2
      go_wp2_with fail
      refine (bit_any _ b F' bs' 0 hbr (by omega) (by omega)).mono ?_
      rintro e w1 ⟨rfl, F2, h2, g2⟩
      go_wp2_with fail
      go_roundg k
      case measure => omega
      case rel =>
        refine ⟨F2, bs' ++ [0], ?_, by omega, h2, ?_, by simp; omega, hgr.trans g2⟩
        · rw [HM.out]; go_num
        · refine hid ?_
          rw [Hr.out, HM.out, List.replicate_succ', List.append_assoc]

theorem wlen_any (w : World) (b : Nat) (F bs : List Nat) (h : IsWr w b F bs) :
    Calls Tryz.prog 25 #[.pointer (some ⟨b, 0, none⟩)] w fun e w' => e = .returned (.int .i64 bs.length) ∧ w = w' := by
  obtain ⟨v, G, hb, ho, rfl⟩ := h.ex
  have hc1 := hb.cell 1
  simp at hc1
  clear hb ho h
  go_enter Tryz.func25, Tryz.ntmps25
  go_wp2
  go_ret
  exact ⟨rfl, rfl⟩
end Go.Proofs.YtpkplhmdnjdmoaaGreatDoor

/- bits.Writer.Bytes; bits.New; the Reader: what it holds, look, Left, At, Err, Get, Unary, Signed on the way on which nothing fails. -/
namespace Go.Proofs.YtpkplhmdnjdmoaaGreatDoor
set_option linter.unusedSimpArgs false
set_option linter.unusedVariables false
open Go.RowKit

theorem b8_one (l : List Nat) : ∀ u ∈ l.map b8, u.oneCell' = true := by
  intro u hu
  obtain ⟨d, _, rfl⟩ := List.mem_map.1 hu
  rfl
theorem wbytes_at (w : World) (b : Nat) (A : Option Addr) (cap : Nat) (ds : List Nat) (hc0 : w.cell? ⟨b, 0, none⟩ = some (.slice A ds.length cap)) (hcells : Cells (fun u => u) w A (ds.map b8)) (hpl : ds.length ≤ 137438953472) :
    Calls Tryz.prog 26 #[.pointer (some ⟨b, 0, none⟩)] w fun e w' => ∃ v G, e = .returned v ∧ Own w' 5 v G (ds.map b8) ∧ Chg [] w w' ∧ ∀ x ∈ G, w.heap.size ≤ x := by
  have HC := hid hcells
  clear hcells
  go_enter Tryz.func26, Tryz.ntmps26
  go_wp2_with (at_builtin; refine wpList_append_s rfl rfl u8_elem rfl rfl (Own.nil _ _) (ds.map b8) ds.length rfl ?c1 ?c2 ?c3 ?c4 ?c5 ?_)
  case c1 => exact (List.length_map _).symm
  case c2 => exact HC.out
  case c3 => exact b8_one _
  case c4 => rw [List.length_map, List.length_nil]; omega
  case c5 => rw [List.length_map, List.length_nil]; omega
  intro v' F' w' h2 h3
  go_wp2
  go_ret
  exact ⟨v', F', rfl, by simpa using h2, h3.chg, fun x hx => by rcases h3.new x hx with h | h; simp at h; exact h⟩
theorem wbytes_ok (w : World) (b : Nat) (F bs : List Nat) (h : IsWr w b F bs) (hlen : bs.length < 549755813888) :
    Calls Tryz.prog 26 #[.pointer (some ⟨b, 0, none⟩)] w fun e w' => ∃ v G, e = .returned v ∧ Own w' 5 v G ((packed bs).map b8) ∧ Chg [] w w' ∧ ∀ x ∈ G, w.heap.size ≤ x := by
  obtain ⟨v, G, hb, ho, rfl⟩ := h.ex
  obtain ⟨A, cap, rfl, hcl, hcm, -⟩ := ho.open_map
  obtain ⟨A', cap', h1, -, -, hcells, -⟩ := ho.open_
  injection h1 with h1 _ _
  subst h1
  have hpl : (packed bs).length ≤ 137438953472 := by rw [packed_len]; omega
  have hc0 := hb.cell 0
  simp at hc0
  exact wbytes_at w b A cap _ hc0 hcells hpl

/-- The Reader at block b: its bytes are ds, at bits are read, nothing failed. -/
structure IsRd (w : World) (b : Nat) (F : List Nat) (ds : List Nat) (at_ : Nat) : Prop where
  ex : ∃ v G, Blk w b 105 #[v, .int .i64 at_, .int .i64 0] ∧ Own w 5 v G (ds.map b8) ∧ F = b :: G
  dig : ∀ d ∈ ds, d < 256
  len : ds.length < 1099511627776
  at_le : at_ ≤ 8 * ds.length
/-- Bit i of bytes. -/
def bitAt (ds : List Nat) (i : Nat) : Nat := ds.getD (i / 8) 0 / 2 ^ (7 - i % 8) % 2
/-- All bits of bytes. -/
def allBits (ds : List Nat) : List Nat := (List.range (8 * ds.length)).map (bitAt ds)
theorem allBits_len (ds : List Nat) : (allBits ds).length = 8 * ds.length := by simp [allBits]
theorem allBits_get {ds : List Nat} {i : Nat} (h : i < 8 * ds.length) : (allBits ds)[i]? = some (bitAt ds i) := by
  simp [allBits, h]
theorem IsRd.mem {w : World} {b : Nat} {F ds : List Nat} {p : Nat} (h : IsRd w b F ds p) : b ∈ F := by
  obtain ⟨_, _, _, _, rfl⟩ := h.ex
  simp
theorem IsRd.lt {w : World} {b : Nat} {F ds : List Nat} {p : Nat} (h : IsRd w b F ds p) : ∀ x ∈ F, x < w.heap.size := by
  obtain ⟨_, _, hb, ho, rfl⟩ := h.ex
  intro x hx
  rcases List.mem_cons.1 hx with rfl | hx
  · exact hb.lt
  · exact ho.lt x hx
theorem IsRd.chg {w w' : World} {b : Nat} {F G ds : List Nat} {p : Nat} (h : IsRd w b F ds p) (hc : Chg G w w') (hd : ∀ x ∈ F, x ∉ G) : IsRd w' b F ds p := by
  obtain ⟨v, K, hb, ho, rfl⟩ := h.ex
  exact ⟨⟨v, K, hb.chg hc (hd b (by simp)), ho.chg hc fun x hx => hd x (by simp [hx]), rfl⟩, h.dig, h.len, h.at_le⟩
theorem IsRd.same {w w' : World} {b : Nat} {F ds : List Nat} {p : Nat} (h : IsRd w b F ds p) (hc : Chg [] w w') : IsRd w' b F ds p := h.chg hc (by simp)

theorem rnew_ok (w : World) (A : Option Addr) (cap : Nat) (ds : List Nat) (hc : Cells b8 w A ds) (hd : ∀ d ∈ ds, d < 256) (hl : ds.length < 1099511627776) (hcl : ds.length ≤ cap) (hcm : cap ≤ 9223372036854775807) :
    Calls Tryz.prog 31 #[.slice A ds.length cap] w fun e w' => ∃ b F, e = .returned (.pointer (some ⟨b, 0, none⟩)) ∧ IsRd w' b F ds 0 ∧ Chg [] w w' ∧ ∀ x ∈ F, w.heap.size ≤ x := by
  have hc' : Cells (fun u => u) w A (ds.map b8) := ⟨fun h0 => by
    obtain ⟨b, o, e1, e2, e3⟩ := hc.ex (by simpa using h0)
    refine ⟨b, o, e1, e2, fun i a ha => ?_⟩
    rw [List.getElem?_map] at ha
    cases e : ds[i]? with
    | none => simp [e] at ha
    | some d => simp [e] at ha; subst ha; exact e3 i d e⟩
  have HC := hid hc'
  have HD := hid hd
  clear hc hc' hd
  go_enter Tryz.func31, Tryz.ntmps31
  go_wp2_with (at_builtin; refine wpList_append_s rfl rfl u8_elem rfl rfl (Own.nil _ _) (ds.map b8) ds.length rfl ?c1 ?c2 ?c3 ?c4 ?c5 ?_)
  case c1 => exact (List.length_map _).symm
  case c2 => exact HC.out
  case c3 => exact b8_one _
  case c4 => rw [List.length_map, List.length_nil]; omega
  case c5 => rw [List.length_map, List.length_nil]; omega
  intro v' F' w' h2 h3
  obtain ⟨A', cap', rfl, -⟩ := h2.open_
  go_wp2
  go_ret
  have h2' : Own w' 5 (.slice A' ds.length cap') F' (ds.map b8) := by simpa using h2
  refine ⟨_, w'.heap.size :: F', rfl, ⟨⟨_, F', Blk.new _ _ _, h2'.alloc _, rfl⟩, HD.out, hl, by simp⟩, h3.chg.alloc _, fun x hx => ?_⟩
  have := h3.size
  rcases List.mem_cons.1 hx with rfl | hx
  · exact this
  · rcases h3.new x hx with h | h
    · simp at h
    · exact h
end Go.Proofs.YtpkplhmdnjdmoaaGreatDoor

/- bits.Reader by its contracts, on the way on which nothing fails: look, Left, At, Err, Get, Unary. -/
namespace Go.Proofs.YtpkplhmdnjdmoaaGreatDoor
set_option linter.unusedSimpArgs false
set_option linter.unusedVariables false
open Go.RowKit

theorem bitAt_lt (ds : List Nat) (i : Nat) : bitAt ds i < 2 := by unfold bitAt; omega
theorem getD_get {ds : List Nat} {i : Nat} (h : i < ds.length) : ds[i]? = some (ds.getD i 0) := by
  rw [List.getD_eq_getElem?_getD, List.getElem?_eq_getElem h]; rfl

set_option maxRecDepth 100000 in
theorem look_ok (w : World) (b : Nat) (F ds : List Nat) (p i : Nat) (h : IsRd w b F ds p) (hi : i < 8 * ds.length) :
    Calls Tryz.prog 117 #[.pointer (some ⟨b, 0, none⟩), .int .i64 i] w fun e w' => e = .returned (.int .u8 (bitAt ds i)) ∧ w = w' := by
  obtain ⟨v, G, hb, ho, rfl⟩ := h.ex
  obtain ⟨A, cap, rfl, hcl, hcm, hcells⟩ := ho.open_map
  have hlen := h.len
  have hc0 := hb.cell 0
  simp at hc0
  obtain ⟨g, o, rfl, hgl, hcell⟩ := hcells.ex (by omega)
  obtain ⟨q, hq⟩ : ∃ q, q = i / 8 := ⟨_, rfl⟩
  obtain ⟨r, hr⟩ : ∃ r, r = i % 8 := ⟨_, rfl⟩
  have hql : q < ds.length := by omega
  have hx := hcell q _ (getD_get hql)
  obtain ⟨y, hy⟩ : ∃ y, y = ds.getD q 0 := ⟨_, rfl⟩
  rw [← hy] at hx
  have hy256 : y < 256 := by
    rw [hy]
    exact h.dig _ (List.mem_of_getElem? (getD_get hql))
  have hx' : w.cell? ⟨g, o + q, none⟩ = some (.int .u8 (y : Int)) := hx
  have e1 : (i : Int) / 8 = (q : Int) := by omega
  have e2 : (i : Int) % 8 = (r : Int) := by omega
  have hr8 : r < 8 := by omega
  have hfin : bitAt ds i = y / 2 ^ (7 - r) % 2 := by unfold bitAt; rw [← hq, ← hr, ← hy]
  have HF := hid hfin
  have hyd : y / 2 ^ (7 - r) < 256 := Nat.lt_of_le_of_lt (Nat.div_le_self _ _) hy256
  clear hfin hy hq hr hx hcell hcells ho hb h
  go_enter Tryz.func117, Tryz.ntmps117
  go_wp2
  go_ret
  rw [HF.out]
  first
    | exact ⟨rfl, rfl⟩
    | (have e3 : (y : Int) / 2 ^ (7 - r) = ((y / 2 ^ (7 - r) : Nat) : Int) := by simp
       refine ⟨?_, rfl⟩
       rw [← band_u8_one hyd, ← e3]
       rfl)

theorem left_ok (w : World) (b : Nat) (F ds : List Nat) (p : Nat) (h : IsRd w b F ds p) :
    Calls Tryz.prog 116 #[.pointer (some ⟨b, 0, none⟩)] w fun e w' => e = .returned (.int .i64 ((8 * ds.length - p : Nat) : Int)) ∧ ∃ n, w' = w.drewN n := by
  obtain ⟨v, G, hb, ho, rfl⟩ := h.ex
  obtain ⟨A, cap, rfl, hcl, hcm, hcells⟩ := ho.open_map
  have hlen := h.len
  have hat := h.at_le
  have hc0 := hb.cell 0
  have hc1 := hb.cell 1
  simp at hc0 hc1
  have e1 : ((8 * ds.length - p : Nat) : Int) = 8 * (ds.length : Int) - p := by omega
  rw [e1]
  clear e1 hcells ho hb h
  go_enter Tryz.func116, Tryz.ntmps116
  go_wp2_with fail
  go_quiet (fail)
  go_wp2
  go_ret
  exact ⟨rfl, _, rfl⟩
theorem at_ok (w : World) (b : Nat) (F ds : List Nat) (p : Nat) (h : IsRd w b F ds p) :
    Calls Tryz.prog 34 #[.pointer (some ⟨b, 0, none⟩)] w fun e w' => e = .returned (.int .i64 (p : Int)) ∧ w = w' := by
  obtain ⟨v, G, hb, ho, rfl⟩ := h.ex
  have hc1 := hb.cell 1
  simp at hc1
  clear ho hb h
  go_enter Tryz.func34, Tryz.ntmps34
  go_wp2
  go_ret
  exact ⟨rfl, rfl⟩
theorem err_ok (w : World) (b : Nat) (F ds : List Nat) (p : Nat) (h : IsRd w b F ds p) :
    Calls Tryz.prog 75 #[.pointer (some ⟨b, 0, none⟩)] w fun e w' => e = .returned (.int .i64 0) ∧ w = w' := by
  obtain ⟨v, G, hb, ho, rfl⟩ := h.ex
  have hc1 := hb.cell 2
  simp at hc1
  clear ho hb h
  go_enter Tryz.func75, Tryz.ntmps75
  go_wp2
  go_ret
  exact ⟨rfl, rfl⟩

/-- The number that the n bits from p on say. -/
def rdNum (ds : List Nat) (p : Nat) : Nat → Nat
  | 0 => 0
  | n + 1 => 2 * rdNum ds p n + bitAt ds (p + n)
theorem rdNum_lt (ds : List Nat) (p : Nat) : ∀ n, rdNum ds p n < 2 ^ n
  | 0 => by simp [rdNum]
  | n + 1 => by
    have := rdNum_lt ds p n
    have := bitAt_lt ds (p + n)
    rw [rdNum, Nat.pow_succ]
    omega
/-- What stands from p on. -/
def Ahead (ds : List Nat) (p : Nat) (bs : List Nat) : Prop := ∃ rest, (allBits ds).drop p = bs ++ rest
theorem Ahead.len {ds : List Nat} {p : Nat} {bs : List Nat} (h : Ahead ds p bs) : bs.length ≤ 8 * ds.length - p := by
  obtain ⟨rest, h⟩ := h
  have := congrArg List.length h
  rw [List.length_drop, allBits_len, List.length_append] at this
  omega
theorem Ahead.le {ds : List Nat} {p : Nat} {bs : List Nat} (h : Ahead ds p bs) (hp : p ≤ 8 * ds.length) : p + bs.length ≤ 8 * ds.length := by have := h.len; omega
theorem Ahead.left {ds : List Nat} {p : Nat} {us bs : List Nat} (h : Ahead ds p (us ++ bs)) : Ahead ds p us := by
  obtain ⟨rest, h⟩ := h
  exact ⟨bs ++ rest, by rw [h, List.append_assoc]⟩
theorem Ahead.right {ds : List Nat} {p : Nat} {us bs : List Nat} (h : Ahead ds p (us ++ bs)) : Ahead ds (p + us.length) bs := by
  obtain ⟨rest, h⟩ := h
  refine ⟨rest, ?_⟩
  rw [← List.drop_drop, h, List.append_assoc, List.drop_left]
theorem Ahead.get {ds : List Nat} {p : Nat} {bs : List Nat} (h : Ahead ds p bs) {i x : Nat} (hi : bs[i]? = some x) : bitAt ds (p + i) = x := by
  have hlen := h.len
  obtain ⟨rest, h⟩ := h
  have hil : i < bs.length := (List.getElem?_eq_some_iff.1 hi).1
  have h1 : ((allBits ds).drop p)[i]? = some x := by rw [h, List.getElem?_append_left hil, hi]
  rw [List.getElem?_drop, allBits_get (by omega)] at h1
  simpa using h1
theorem bitsOf_get (v : Nat) : ∀ (n i : Nat), i < n → (bitsOf v n)[i]? = some (v / 2 ^ (n - 1 - i) % 2)
  | n + 1, 0, _ => by simp [bitsOf]
  | n + 1, i + 1, h => by
    rw [bitsOf, List.getElem?_cons_succ, bitsOf_get v n i (by omega)]
    have : n - 1 - i = n + 1 - 1 - (i + 1) := by omega
    rw [this]
theorem rdNum_prefix {ds : List Nat} {p v n : Nat} (h : Ahead ds p (bitsOf v n)) (hv : v < 2 ^ n) : ∀ m, m ≤ n → rdNum ds p m = v / 2 ^ (n - m)
  | 0, _ => by rw [rdNum, Nat.sub_zero, Nat.div_eq_of_lt hv]
  | m + 1, hm => by
    rw [rdNum, rdNum_prefix h hv m (by omega), h.get (bitsOf_get v n m (by omega))]
    have e1 : n - 1 - m = n - (m + 1) := by omega
    have e2 : n - m = n - (m + 1) + 1 := by omega
    rw [e1, e2, Nat.pow_succ, ← Nat.div_div_eq_div_mul]
    omega
theorem rdNum_ahead {ds : List Nat} {p v n : Nat} (h : Ahead ds p (bitsOf v n)) (hv : v < 2 ^ n) : rdNum ds p n = v := by
  rw [rdNum_prefix h hv n (Nat.le_refl _), Nat.sub_self, Nat.pow_zero, Nat.div_one]

set_option maxRecDepth 100000 in
theorem rget_ok (w : World) (b : Nat) (F ds : List Nat) (p n : Nat) (h : IsRd w b F ds p) (hn : n ≤ 63) (hp : p + n ≤ 8 * ds.length) :
    Calls Tryz.prog 74 #[.pointer (some ⟨b, 0, none⟩), .int .i64 n] w fun e w' => e = .returned (.int .u64 (rdNum ds p n)) ∧ IsRd w' b F ds (p + n) ∧ Chg [b] w w' := by
  have hlen := h.len
  have t1 : decide ((n : Int) < 0) = false := by simp
  have t2 : decide ((64 : Int) < n) = false := by simp; omega
  have t3 : decide ((8 * ds.length - p) < n) = false := by simp; omega
  have hc2 : w.cell? ⟨b, 2, none⟩ = some (.int .i64 0) := by
    obtain ⟨v, G, hb, ho, rfl⟩ := h.ex
    simpa using hb.cell 2
  go_enter Tryz.func74, Tryz.ntmps74
  go_wp2_with fail
  refine (left_ok w b F ds p h).mono ?_
  rintro e w' ⟨rfl, nq, rfl⟩
  go_wp2_with fail
  go_loopg [5, 28] n (fun k v i wr => k ≤ n ∧ i = .int .i64 ((n - k : Nat) : Int) ∧ v = .int .u64 (rdNum ds p (n - k)) ∧ IsRd wr b F ds (p + (n - k)) ∧ Chg [b] w wr)
  case atStart => exact ⟨Nat.le_refl _, by simp, by simp [rdNum], by simpa using h.same ((Chg.refl _ _).drewN nq), (Chg.refl _ _).drewN nq⟩
  case round =>
    obtain ⟨hk, rfl, rfl, hrd, hch⟩ := hrel
    rcases gk with _ | k
    · have t4 : decide (((n - 0 : Nat) : Int) < (n : Int)) = false := by simp
      go_wp2
      go_ret
      exact ⟨by simp, by simpa using hrd, hch⟩
    · obtain ⟨m, hm⟩ : ∃ m, m = n - (k + 1) := ⟨_, rfl⟩
      rw [← hm] at hrd ⊢
      have hm1 : m < n := by omega
      have hm2 : n - k = m + 1 := by omega
      have HM := hid hm2
      clear hm hm2
      have hv := rdNum_lt ds p m
      have hp2 : 2 ^ m ≤ 2 ^ 62 := Nat.pow_le_pow_right (by decide) (by omega)
      obtain ⟨v, hv'⟩ : ∃ v, v = rdNum ds p m := ⟨_, rfl⟩
      rw [← hv'] at hv ⊢
      have HV := hid hv'
      have hv62 : v < 4611686018427387904 := by omega
      clear hv' hv hp2
      have hc1 : wr.cell? ⟨b, 1, none⟩ = some (.int .i64 ((p + m : Nat) : Int)) := by
        obtain ⟨v, G, hb, ho, rfl⟩ := hrd.ex
        simpa using hb.cell 1
      have hf1 : wr.frozen? ⟨b, 1, none⟩ = false := by
        obtain ⟨v, G, hb, ho, rfl⟩ := hrd.ex
        exact hb.frozen 1
      have hbit := bitAt_lt ds (p + m)
      obtain ⟨y, hy⟩ : ∃ y, y = bitAt ds (p + m) := ⟨_, rfl⟩
      have hlk := look_ok wr b F ds (p + m) (p + m) hrd (by omega)
      rw [← hy] at hlk hbit
      have HY := hid hy
      clear hy
      have hor : bits BinOp.or IntKind.u64 ((v : Int) * 2) (y : Int) = ((2 * v + y : Nat) : Int) := by
        have := bor_u64_bit (v := v) (b := y) (by omega) hbit
        rw [← this]
        congr 1
        omega
      have HO := hid hor
      clear hor
      have hcast : ((p + m : Nat) : Int) = (p : Int) + m := by omega
      go_wp2_with fail
      refine hlk.mono ?_
      rintro e w1 ⟨rfl, rfl⟩
      go_wp2_with fail
      go_roundg k
      case measure => omega
      case rel =>
        rw [HM.out]
        refine ⟨by omega, by go_num, ?_, ?_, hch.setCell (by simp) _⟩
        · rw [rdNum, ← HV.out, ← HY.out, ← HO.out]
        · obtain ⟨v1, G, hb, ho, e1⟩ := hrd.ex
          have hne : b ∉ G := ho.ne_ hb (by decide)
          have h1 := hb.set_ 1 (.int .i64 ((p + m : Nat) + 1 : Int))
          refine ⟨⟨v1, G, ?_, ho.far (p := ⟨b, 1, none⟩) hne _, e1⟩, hrd.dig, hrd.len, by omega⟩
          have e2 : ((p + (m + 1) : Nat) : Int) = ((p + m : Nat) : Int) + 1 := by omega
          rw [e2]
          simpa using h1
end Go.Proofs.YtpkplhmdnjdmoaaGreatDoor
