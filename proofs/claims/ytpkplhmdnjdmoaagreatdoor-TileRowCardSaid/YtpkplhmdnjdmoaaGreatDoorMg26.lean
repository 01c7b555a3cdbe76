/- package tile by its contracts: isSize, isTile, putAll. -/
import Derived.Test.YtpkplhmdnjdmoaaGreatDoorMg23
import Derived.Test.YtpkplhmdnjdmoaaGreatDoorMg21
set_option linter.unusedVariables false
set_option linter.unusedSimpArgs false
namespace Go.Proofs.YtpkplhmdnjdmoaaGreatDoor
set_option linter.unusedSimpArgs false
set_option linter.unusedVariables false
open Go.RowKit

/-- Numbers with so many bits each. -/
def allOf (l : List Int) (n : Nat) : List Nat := l.flatMap fun v => bitsOf v.toNat n
theorem allOf_len (l : List Int) (n : Nat) : (allOf l n).length = n * l.length := by
  induction l with
  | nil => simp [allOf]
  | cons x l ih =>
    have e : allOf (x :: l) n = bitsOf x.toNat n ++ allOf l n := rfl
    rw [e, List.length_append, bitsOf_len, ih, List.length_cons, Nat.mul_add, Nat.mul_one, Nat.add_comm]
theorem allOf_snoc (l : List Int) (x : Int) (n : Nat) : allOf (l ++ [x]) n = allOf l n ++ bitsOf x.toNat n := by simp [allOf]
set_option maxRecDepth 100000 in
set_option maxHeartbeats 1000000 in
theorem putAll_ok (w : World) (b : Nat) (F bs : List Nat) (l : List Int) (A : Option Addr) (cap n : Nat) (h : IsWr w b F bs) (hn : n ≤ 16) (hl : l.length ≤ 4096) (hs : SmpOk n l) (hc : Cells vi w A l) (hA : Apt A l F) (hbs : bs.length < 137438953472) :
    Calls Tryz.prog 68 #[.pointer (some ⟨b, 0, none⟩), .slice A l.length cap, .int .i64 n] w fun e w' => e = .returned (.tuple #[]) ∧ ∃ F', IsWr w' b F' (bs ++ allOf l n) ∧ Grow F F' w w' := by
  obtain ⟨m, hm⟩ : ∃ m, m = l.length := ⟨_, rfl⟩
  rw [← hm] at hl ⊢
  have HN := hid hm
  have HS := hid hs
  clear hm hs
  go_enter Tryz.func68, Tryz.ntmps68
  go_wp2_with fail
  go_loopg [10] m (fun j iv wr => ∃ (i : Nat) (F' bs' : List Nat), iv = .int .i64 (i : Int) ∧ i + j = m ∧ IsWr wr b F' bs' ∧ Hid (bs' = bs ++ allOf (l.take i) n) ∧ bs'.length ≤ bs.length + 16 * i ∧ Grow F F' w wr)
  case atStart => exact ⟨0, F, bs, rfl, by omega, h, hid (by simp [allOf]), by omega, Grow.refl _ _⟩
  case round =>
    obtain ⟨i, F', bs', rfl, hij, hwr, Hb, hbl, hgr⟩ := hrel
    rcases gk with _ | j
    · obtain rfl : i = m := by omega
      go_wp2
      go_end0
      refine ⟨rfl, F', ?_, hgr⟩
      have e : l.take i = l := by rw [HN.out, List.take_length]
      have h5 := Hb.out
      rw [e] at h5
      rw [← h5]
      exact hwr
    · have him : i < m := by omega
      have hil : i < l.length := by rw [← HN.out]; exact him
      obtain ⟨g, o, rfl, cl⟩ := (hc.keep hA hgr.chg).at_ hil
      have htk := take_snoc' l hil
      have hsx := HS.out l[i] (List.getElem_mem hil)
      obtain ⟨x, hx⟩ : ∃ x, x = l[i] := ⟨_, rfl⟩
      rw [← hx] at cl htk hsx
      have hxn : x = ((x.toNat : Nat) : Int) := (Int.toNat_of_nonneg hsx.1).symm
      have hlt : x.toNat < 2 ^ n := by
        have e2 : ((2 ^ n : Nat) : Int) = (2 : Int) ^ n := by simp
        omega
      have hal := allOf_snoc (l.take i) x n
      rw [← htk] at hal
      obtain ⟨k, hk⟩ : ∃ k, k = x.toNat := ⟨_, rfl⟩
      rw [← hk] at hxn hlt hal
      rw [hxn] at cl
      have cl' : _ = some (Value.int .i64 (k : Int)) := cl
      have hk16 : k < 65536 := Nat.lt_of_lt_of_le hlt (by have := Nat.pow_le_pow_right (n := 2) (by decide) hn; exact this)
      have HAL := hid hal
      have HLT := hid hlt
      clear hal hlt hk hxn hsx htk hx cl hil
      go_wp2_with fail
      refine (wput_ok _ b F' bs' k n hwr (by omega) HLT.out (by omega)).mono ?_
      rintro e w2 ⟨rfl, F2, h2, g2⟩
      go_wp2_with fail
      go_roundg j
      case measure => omega
      case rel =>
        refine ⟨i + 1, F2, _, by go_num, by omega, h2, hid ?_, ?_, hgr.trans g2⟩
        · rw [HAL.out, Hb.out, List.append_assoc]
        · rw [List.length_append, bitsOf_len]; omega
end Go.Proofs.YtpkplhmdnjdmoaaGreatDoor

/- package tile by its contracts, the second part: near. -/
namespace Go.Proofs.YtpkplhmdnjdmoaaGreatDoor
set_option linter.unusedSimpArgs false
set_option linter.unusedVariables false
open Go.RowKit

def nbrAt (l : List Int) (W i : Nat) : Nbr := nbr l W (i % W) (i / W)
set_option maxRecDepth 100000 in
set_option maxHeartbeats 2000000 in
theorem tnear_ok (l : List Int) (A : Option Addr) (cap W d i : Nat) (w : World) (h0 : 1 ≤ d) (h1 : d ≤ 16) (hW0 : 1 ≤ W) (hW1 : W ≤ 64) (hi : i ≤ l.length) (hiW : i < 64 * W) (hs : SmpOk d l) (hc : Cells vi w A l) (hll : l.length ≤ 4096) :
    Calls Tryz.prog 107 #[.slice A l.length cap, .int .i64 W, .int .i64 d, .int .i64 i] w fun e w' => e = .returned (.tuple #[.int .i64 (guessI 7 (nbrAt l W i) d), .int .i64 (classI (nbrAt l W i) d)]) ∧ Chg [] w w' := by
  obtain ⟨x, hx⟩ : ∃ x, x = i % W := ⟨_, rfl⟩
  obtain ⟨y, hy⟩ : ∃ y, y = i / W := ⟨_, rfl⟩
  have hxW : x < W := by rw [hx]; exact Nat.mod_lt _ (by omega)
  have hy64 : y < 64 := by rw [hy]; exact Nat.div_lt_of_lt_mul (by rw [Nat.mul_comm]; exact hiW)
  have hyx : y * W + x = i := by rw [hx, hy, Nat.mul_comm]; exact Nat.div_add_mod i W
  have e1 : (i : Int) % (W : Int) = (x : Int) := by rw [hx]; simp
  have e2 : (i : Int) / (W : Int) = (y : Int) := by rw [hy]; simp
  have hnear := fun w hc => near_ok l A cap W x y w hW0 hW1 hxW hy64 (by omega) hc (by omega)
  have hnb := nbr_ok hs W x y
  have hcls := fun w => class_ok (nbr l W x y) d w h0 h1 hnb
  have hone := fun w => one_ok 7 (nbr l W x y) d w (by omega) h0 h1 hnb
  have d1 : nbrAt l W i = nbr l W x y := by unfold nbrAt; rw [← hx, ← hy]
  rw [d1]
  obtain ⟨n, hn⟩ : ∃ n, n = l.length := ⟨_, rfl⟩
  rw [← hn] at hnear ⊢
  generalize nbr l W x y = g at *
  generalize classI g d = cl at *
  generalize guessI 7 g d = gs at *
  obtain ⟨ga, gb, gc, ge⟩ := g
  simp only at hnear hcls hone
  have HN := hid hnear
  have hW1' : (1 : Int) ≤ (W : Int) := by omega
  clear hx hy hyx hnear hnb d1 hn hs hi
  go_enter Tryz.func107, Tryz.ntmps107
  go_wp2_with fail
  go_quiet ((go_at_call 86; exact quiet_drew (HN.out _ (hc.same ((Chg.refl [] w).drewN _)))))
  go_wp2_with fail
  refine (hone _).mono ?_
  rintro e w1 ⟨rfl, ch1⟩
  go_wp2_with fail
  refine (hcls _).mono ?_
  rintro e w2 ⟨rfl, ch2⟩
  go_wp2_with fail
  exact bodyPost_ret (v := .tuple #[.int .i64 gs, .int .i64 cl]) (by simp [results, Tryz.results107, go_sem]) rfl ⟨rfl, (((Chg.refl [] w).drewN nq).trans_same ch1).trans_same ch2⟩
end Go.Proofs.YtpkplhmdnjdmoaaGreatDoor

/- package tile by its contracts, the third part: folded, unfolded. -/
namespace Go.Proofs.YtpkplhmdnjdmoaaGreatDoor
set_option linter.unusedSimpArgs false
set_option linter.unusedVariables false
open Go.RowKit

/-- The f of the sample with index i. -/
def foldOf (l : List Int) (W d i : Nat) : Nat := rfold (foldI (l.getD i 0 - guessI 7 (nbrAt l W i) d) d)
def foldedN (l : List Int) (W d : Nat) : List Nat := (List.range l.length).map (foldOf l W d)
def foldedL (l : List Int) (W d : Nat) : List Int := (foldedN l W d).map Int.ofNat
theorem foldOf_lt (l : List Int) (W : Nat) {d : Nat} (h0 : 1 ≤ d) (i : Nat) : foldOf l W d i < 2 ^ d := by
  obtain ⟨h1, h2⟩ := foldI_range (l.getD i 0 - guessI 7 (nbrAt l W i) d) h0
  have h3 := two_pow_half h0
  have h4 : ((2 ^ d : Nat) : Int) = (2 : Int) ^ d := by simp
  unfold foldOf rfold
  split <;> omega
theorem foldedN_len (l : List Int) (W d : Nat) : (foldedN l W d).length = l.length := by simp [foldedN]
theorem foldedL_len (l : List Int) (W d : Nat) : (foldedL l W d).length = l.length := by simp [foldedL, foldedN]
theorem foldedN_lt (l : List Int) (W : Nat) {d : Nat} (h0 : 1 ≤ d) : ∀ f ∈ foldedN l W d, f < 2 ^ d := by
  intro f hf
  obtain ⟨i, _, rfl⟩ := List.mem_map.1 hf
  exact foldOf_lt l W h0 i
set_option maxRecDepth 100000 in
set_option maxHeartbeats 4000000 in
theorem folded_ok (l : List Int) (A : Option Addr) (cap W d : Nat) (w : World) (h0 : 1 ≤ d) (h1 : d ≤ 16) (hW0 : 1 ≤ W) (hW1 : W ≤ 64) (hlW : l.length ≤ 64 * W) (hs : SmpOk d l) (hc : Cells vi w A l) (hll : l.length ≤ 4096) :
    Calls Tryz.prog 67 #[.slice A l.length cap, .int .i64 W, .int .i64 d] w fun e w' => ∃ v g, e = .returned v ∧ Row w' 3 v g ((foldedL l W d).map vi) ∧ Chg [] w w' ∧ w.heap.size ≤ g := by
  have hnear := fun i (hi : i < l.length) w hc => tnear_ok l A cap W d i w h0 h1 hW0 hW1 (by omega) (by omega) hs hc hll
  have hfl : foldedL l W d = (List.range l.length).map fun i => (foldOf l W d i : Int) := by simp [foldedL, foldedN, List.map_map]
  obtain ⟨m, hm⟩ : ∃ m, m = l.length := ⟨_, rfl⟩
  rw [← hm] at hnear hfl hll ⊢
  have hmk := run_make1 (P := Tryz.prog) int_elem rfl .i64 .i64 m (by omega) (by omega)
  have HN := hid hnear
  have HFL := hid hfl
  have HM := hid hm
  have HS := hid hs
  clear hnear hfl hm hs
  go_enter Tryz.func67, Tryz.ntmps67
  go_wp2_with fail
  have hrow0 := Row.zeros w m (by omega)
  obtain ⟨B, hB⟩ : ∃ B, B = w.heap.size := ⟨_, rfl⟩
  rw [← hB] at hrow0 ⊢
  have HB := hid hB
  have ch0 : Chg [] w (w.alloc (.cells (List.replicate m (Value.int .i64 0)).toArray 3)) := (Chg.refl [] w).alloc _
  clear hB
  go_loopg [17] m (fun j iv wr => ∃ (done : List Int), iv = .int .i64 (done.length : Int) ∧ done.length + j = m ∧ Hid (done = (List.range done.length).map fun i => (foldOf l W d i : Int)) ∧ Row wr 3 (.slice (some ⟨B, 0, none⟩) m m) B ((fillL done m).map vi) ∧ Chg [] w wr)
  case atStart => exact ⟨[], rfl, by simp, hid rfl, hrow0, ch0⟩
  case round =>
    obtain ⟨done, rfl, hdl, Hd, hrow, hch⟩ := hrel
    clear hrow0 ch0
    rcases gk with _ | j
    · have hdm : done.length = m := by omega
      rw [hdm]
      go_wp2
      go_ret
      refine ⟨_, B, rfl, ?_, hch, by have := HB.out; omega⟩
      rw [fillL_full hdm, Hd.out, hdm] at hrow
      rw [HFL.out]
      exact hrow
    · obtain ⟨i, hi⟩ : ∃ i, i = done.length := ⟨_, rfl⟩
      have him : i < m := by omega
      have hil : i < l.length := by rw [← HM.out]; exact him
      have hstep : done ++ [(foldOf l W d i : Int)] = (List.range (i + 1)).map fun i => (foldOf l W d i : Int) := by
        rw [List.range_succ, List.map_append, hi, ← Hd.out]; rfl
      have hcl := hc.same hch
      obtain ⟨g, o, rfl, hcell⟩ := hcl.at_ hil
      have hxe : l[i] = l.getD i 0 := by rw [List.getD_eq_getElem?_getD, List.getElem?_eq_getElem hil]; rfl
      rw [hxe] at hcell
      have hcell' : wr.cell? ⟨g, o + i, none⟩ = some (.int .i64 (l.getD i 0)) := hcell
      have hnr := HN.out i him wr hcl
      have hgr := guessI_ok (nbr_ok HS.out W (i % W) (i / W)) 7
      have hvr := getD_ok HS.out i
      have hfo : foldOf l W d i = rfold (foldI (l.getD i 0 - guessI 7 (nbrAt l W i) d) d) := rfl
      have hnd : nbrAt l W i = nbr l W (i % W) (i / W) := rfl
      rw [← hnd] at hgr
      have hflt := foldOf_lt l W h0 i
      obtain ⟨hp0, hp1⟩ := pow_d h0 h1
      obtain ⟨gs, hgs⟩ : ∃ x, x = guessI 7 (nbrAt l W i) d := ⟨_, rfl⟩
      rw [← hgs] at hnr hgr hfo
      obtain ⟨v, hv⟩ : ∃ x, x = l.getD i 0 := ⟨_, rfl⟩
      rw [← hv] at hcell' hvr hfo
      have hfd := fun w => fold_ok (v - gs) d w h0 h1
      have hfr := foldI_range (v - gs) h0
      obtain ⟨fo, hfov⟩ : ∃ x, x = foldI (v - gs) d := ⟨_, rfl⟩
      rw [← hfov] at hfo hfd hfr
      have hmid := errRange16 h1 hfr
      have hwide : wideP fo := by unfold wideP; omega
      have hrf := fun w => rfold_ok fo w hwide
      rw [← hfo] at hrf
      obtain ⟨f, hf⟩ : ∃ f, f = foldOf l W d i := ⟨_, rfl⟩
      rw [← hf] at hrf hflt hstep
      have hf16 : f < 65536 := by
        have h9 : ((2 ^ d : Nat) : Int) = (2 : Int) ^ d := by simp
        have h10 := Nat.pow_le_pow_right (n := 2) (by decide) h1
        exact Nat.lt_of_lt_of_le hflt h10
      have hv0 : -65536 ≤ v - gs := by have := hvr.1; have := hgr.2; omega
      have hv1 : v - gs ≤ 65536 := by have := hvr.2; have := hgr.1; omega
      have HST := hid hstep
      have HDL := hid hdl
      have HI := hid hi
      rw [← hi]
      clear hstep hdl hf hfov hv hgs hgr hvr hfo hnd hflt hp0 hp1 hfr hmid hwide hcell hxe hil hcl hi
      go_wp2_with fail
      refine hnr.mono ?_
      rintro e w2 ⟨rfl, ch2⟩
      have hrow2 := hrow.chg ch2 (by simp)
      obtain ⟨hce2, hfr2⟩ := hrow2.fill_cell (by have := HDL.out; omega)
      rw [← HI.out] at hce2 hfr2
      clear hnr hcell'
      go_wp2_with (first | (go_at_call 18; refine (hfd _).mono ?_; rintro e w' ⟨rfl, rfl⟩) | (go_at_call 94; refine (hrf _).mono ?_; rintro e w' ⟨rfl, rfl⟩))
      go_roundg j
      case measure => omega
      case rel =>
        have hrow3 := hrow2.fill (by have := HDL.out; omega) (f : Int)
        refine ⟨done ++ [(f : Int)], ?_, ?_, hid ?_, ?_, ?_⟩
        · rw [List.length_append, List.length_singleton, ← HI.out]; go_num
        · rw [List.length_append, List.length_singleton]; have := HDL.out; omega
        · rw [List.length_append, List.length_singleton, ← HI.out]
          exact HST.out
        · rw [← HI.out] at hrow3
          exact hrow3
        · exact (hch.trans_same ch2).setCell (.inr (by have := HB.out; simp; omega)) _
end Go.Proofs.YtpkplhmdnjdmoaaGreatDoor

/- package tile by its contracts, the fourth part: isSize, isTile. -/
namespace Go.Proofs.YtpkplhmdnjdmoaaGreatDoor
set_option linter.unusedSimpArgs false
set_option linter.unusedVariables false
open Go.RowKit

theorem isSize_yes (W H d : Nat) (w : World) (hw0 : 1 ≤ W) (hw1 : W ≤ 16) (hh0 : 1 ≤ H) (hh1 : H ≤ 16) (h0 : 1 ≤ d) (h1 : d ≤ 16) :
    Calls Tryz.prog 73 #[.int .i64 W, .int .i64 H, .int .i64 d] w fun e w' => e = .returned (.bool true) ∧ w = w' := by
  have t1 : decide ((1 : Int) ≤ (W : Int)) = true := decide_eq_true (by omega)
  have t2 : decide ((W : Int) ≤ 16) = true := decide_eq_true (by omega)
  have t3 : decide ((1 : Int) ≤ (H : Int)) = true := decide_eq_true (by omega)
  have t4 : decide ((H : Int) ≤ 16) = true := decide_eq_true (by omega)
  have t5 : decide ((1 : Int) ≤ (d : Int)) = true := decide_eq_true (by omega)
  have t6 : decide ((d : Int) ≤ 16) = true := decide_eq_true (by omega)
  go_enter Tryz.func73, Tryz.ntmps73
  go_wp2
  go_ret
  exact ⟨rfl, rfl⟩
set_option maxRecDepth 100000 in
theorem isTile_yes (l : List Int) (A : Option Addr) (cap W H d : Nat) (w : World) (hw0 : 1 ≤ W) (hw1 : W ≤ 16) (hh0 : 1 ≤ H) (hh1 : H ≤ 16) (h0 : 1 ≤ d) (h1 : d ≤ 16) (hl : l.length = W * H) (hs : SmpOk d l) (hc : Cells vi w A l) :
    Calls Tryz.prog 64 #[.slice A l.length cap, .int .i64 W, .int .i64 H, .int .i64 d] w fun e w' => e = .returned (.bool true) ∧ w = w' := by
  obtain ⟨hp0, hp1⟩ := pow_d h0 h1
  obtain ⟨m, hm⟩ : ∃ m, m = l.length := ⟨_, rfl⟩
  rw [← hm] at hl ⊢
  have hmul : (W : Int) * (H : Int) = (m : Int) := by rw [hl]; simp
  have t7 : ((m : Int) != (m : Int)) = false := by simp
  have hm4 : m ≤ 256 := by rw [hl]; exact Nat.mul_le_mul hw1 hh1
  have HN := hid hm
  have HS := hid hs
  clear hm hl hs
  go_enter Tryz.func64, Tryz.ntmps64
  go_wp2_with (go_at_call 73; refine (isSize_yes _ _ _ _ hw0 hw1 hh0 hh1 h0 h1).mono ?_; rintro e w' ⟨rfl, rfl⟩)
  go_loopg [26] m (fun j i wr => j ≤ m ∧ i = .int .i64 ((m - j : Nat) : Int) ∧ w = wr)
  case atStart => exact ⟨Nat.le_refl _, by simp, rfl⟩
  case round =>
    obtain ⟨hj, rfl, rfl⟩ := hrel
    rcases gk with _ | j
    · have t8 : decide (((m - 0 : Nat) : Int) < (m : Int)) = false := by simp
      go_wp2
      go_ret
      exact ⟨rfl, rfl⟩
    · obtain ⟨i, hi1⟩ : ∃ i, i = m - (j + 1) := ⟨_, rfl⟩
      rw [← hi1]
      have hi2 : i < m := by omega
      have hi3 : m - j = i + 1 := by omega
      have HI := hid hi3
      clear hi1 hi3
      have hml : i < l.length := by rw [← HN.out]; exact hi2
      obtain ⟨g, o, rfl, hcell⟩ := hc.at_ hml
      have hx := HS.out l[i] (List.getElem_mem _)
      obtain ⟨x, hxx⟩ : ∃ x, x = l[i] := ⟨_, rfl⟩
      rw [← hxx] at hcell hx
      have hcell' : w.cell? ⟨g, o + i, none⟩ = some (.int .i64 x) := hcell
      obtain ⟨hx0, hx1⟩ := hx
      have t9 : decide (x < 0) = false := decide_eq_false (by omega)
      have t10 : decide ((2 : Int) ^ d ≤ x) = false := decide_eq_false (by omega)
      clear hcell hxx hml
      go_wp2
      go_roundg j
      case measure => omega
      case rel =>
        rw [HI.out]
        exact ⟨by omega, by go_num, rfl⟩
end Go.Proofs.YtpkplhmdnjdmoaaGreatDoor
