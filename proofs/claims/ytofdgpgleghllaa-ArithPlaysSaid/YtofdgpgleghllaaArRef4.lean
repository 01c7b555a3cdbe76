/- The reference's coder, part 4 (printed by wip/mkref.py from the coder's texts, then turned). -/
import Derived.Test.YtofdgpgleghllaaArRef2
import Derived.Test.YtofdgpgleghllaaArCod3
import Derived.Deep.RegionWith
namespace Go.Proofs.Ytofdgpgleghllaa
set_option linter.unusedSimpArgs false
set_option linter.unusedVariables false
open Go.RowKit

set_option maxRecDepth 100000 in
theorem raw_ok_r (w : World) (b g h : Nat) (c : Cod) (v n : Nat) (hc : IsCod 63 w b g h c) (hok : CodOk c) (hn : n ≤ 32) (hv : v < 2 ^ n) (hv64 : v < 18446744073709551616)
    (hlen : c.low.length ≤ 549755813888) :
    Calls Try.prog 16 #[.pointer (some ⟨b, 0, none⟩), .int .u64 v, .int .i64 n] w fun e w' => e = .returned (.int .i64 0) ∧
      ∃ g', IsCod 63 w' b g' h (rawL c v n) ∧ Chg [b, g, h] w w' ∧ (g' = g ∨ w.heap.size ≤ g') := by
  have t1 : decide ((n : Int) < 0) = false := by simp
  have t2 : decide ((32 : Int) < n) = false := by simp; omega
  have t3 : (((v : Int) / 2 ^ n) != 0) = false := by
    have : (v : Int) / 2 ^ n = ((v / 2 ^ n : Nat) : Int) := by simp
    rw [this, Nat.div_eq_of_lt hv]
    rfl
  go_enter Try.func16, Try.ntmps16
  go_wp2_with fail
  go_loopg [7] n (fun k i wr => ∃ (g' : Nat) (c' : Cod), i = .int .i64 ((k : Int) - 1) ∧ k ≤ n ∧ IsCod 63 wr b g' h c' ∧ CodOk c' ∧ Hid (rawL c v n = rawL c' v k) ∧
      c'.low.length + k ≤ c.low.length + n ∧ Chg [b, g, h] w wr ∧ (g' = g ∨ w.heap.size ≤ g'))
  case atStart => exact ⟨g, c, rfl, Nat.le_refl _, hc, hok, hid rfl, Nat.le_refl _, Chg.refl _ _, .inl rfl⟩
  case round =>
    obtain ⟨g', c', rfl, hk, hcr, hokr, Hr, hlr, hchr, hg'⟩ := hrel
    rcases gk with _ | k
    · have t4 : decide ((0 : Int) ≤ ((0 : Nat) : Int) - 1) = false := by simp
      go_wp2
      go_ret
      exact ⟨rfl, g', by rw [Hr.out]; exact hcr, hchr, hg'⟩
    · have e1 : (((k + 1 : Nat) : Int) - 1) = (k : Int) := by omega
      rw [e1]
      have hbd := bound_raw hokr
      obtain ⟨vl, vo, hb, hl, ho⟩ := hcr.ex
      have hc1 := hb.cell 1
      simp at hc1
      clear hb hl ho
      have hw2 : IntKind.u64.wrap ((c'.W : Int) / 2) = ((c'.W / 2 : Nat) : Int) := by
        have e : (c'.W : Int) / 2 = ((c'.W / 2 : Nat) : Int) := by simp
        rw [e]
        exact IntWalk.u64_in _ (by have := hokr.hi; omega)
      obtain ⟨bit, hbit⟩ : ∃ bit, bit = v / 2 ^ k % 2 := ⟨_, rfl⟩
      have hand : bits BinOp.and IntKind.u64 ((v : Int) / 2 ^ k) 1 = (bit : Int) := by
        have e : (v : Int) / 2 ^ k = ((v / 2 ^ k : Nat) : Int) := by simp
        have hle : v / 2 ^ k ≤ v := Nat.div_le_self _ _
        rw [e, hbit]
        generalize v / 2 ^ k = q at *
        rw [and_one_u64 _ (by omega) (by omega)]
        simp
      have hbit1 : bit = 0 ∨ bit = 1 := by omega
      have Hstep : Hid (rawL c v n = rawL (codeL c' (c'.W / 2) bit) v k) := by
        refine hid ?_
        rw [Hr.out, hbit]
        rfl
      have hbit2 : bit ≤ 1 := by omega
      have Hb1 := hid hbit1
      clear hbit hbit1
      obtain ⟨W2, hW2⟩ : ∃ W2, W2 = c'.W / 2 := ⟨_, rfl⟩
      rw [← hW2] at hw2 hbd
      have HW2 := hid hW2
      clear hW2
      go_wp2_with fail
      refine (step_any wr b g' h c' W2 bit hcr hokr hbd Hb1.out (by omega)).mono ?_
      rintro e w1 ⟨rfl, g2, hc2, hch2, hg2⟩
      have hl2 := (codeL_len (c := c') W2 bit).2
      have hok2 := codeL_ok hokr hbd bit
      have hsz := hchr.size
      go_wp2_with fail
      go_roundg k
      case measure => omega
      case rel =>
        refine ⟨g2, _, rfl, by omega, hc2, hok2, ?_, by omega, ?_, ?_⟩
        · rw [HW2.out]; exact Hstep
        · refine hchr.trans hch2 ?_
          intro x hx
          simp at hx
          rcases hx with rfl | rfl
          · exact .inl (by simp)
          · rcases hg' with rfl | hg'
            · exact .inl (by simp)
            · exact .inr hg'
        · rcases hg2 with rfl | hg2
          · exact hg'
          · exact .inr (by omega)

theorem raw_bad_r (w : World) (p : Value) (v n : Int) (hv0 : 0 ≤ v) (hv1 : v ≤ 18446744073709551615) (hbad : n < 0 ∨ 32 < n ∨ v / 2 ^ n.toNat ≠ 0) :
    Calls Try.prog 16 #[p, .int .u64 v, .int .i64 n] w fun e w' => e = .returned (.int .i64 1) ∧ w' = w := by
  by_cases h1 : n < 0
  · have t1 : decide (n < 0) = true := by simpa using h1
    clear hbad
    go_enter Try.func16, Try.ntmps16
    go_wp2_with fail
    go_ret
    exact ⟨rfl, rfl⟩
  · have t1 : decide (n < 0) = false := by simpa using h1
    by_cases h2 : 32 < n
    · have t2 : decide (32 < n) = true := by simpa using h2
      clear hbad
      go_enter Try.func16, Try.ntmps16
      go_wp2_with fail
      go_ret
      exact ⟨rfl, rfl⟩
    · have t2 : decide (32 < n) = false := by simpa using h2
      obtain ⟨m, rfl⟩ := Int.eq_ofNat_of_zero_le (show 0 ≤ n by omega)
      have t3 : (v / 2 ^ m != 0) = true := by rw [bne_iff_ne]; simpa [h1, h2] using hbad
      have hm : m ≤ 32 := by omega
      clear hbad
      go_enter Try.func16, Try.ntmps16
      go_wp2_with fail
      go_ret
      exact ⟨rfl, rfl⟩

theorem bytes_ok_r (w : World) (b g h : Nat) (c : Cod) (hc : IsCod 63 w b g h c) (hok : CodOk c) (hlen : c.low.length ≤ 1099511627776) :
    Calls Try.prog 23 #[.pointer (some ⟨b, 0, none⟩)] w fun e w' => ∃ g' cap, e = .returned (.slice (some ⟨g', 0, none⟩) c.low.length cap) ∧ Row w' 5 (.slice (some ⟨g', 0, none⟩) c.low.length cap) g' (c.low.map b8) ∧ Chg [] w w' ∧ w.heap.size ≤ g' := by
  obtain ⟨vl, vo, hb, hl, ho⟩ := hc.ex
  obtain ⟨cap, rfl, hcl, hcm, hcell, hfr⟩ := hl.open_map
  have hcell' : ∀ j u, (c.low.map b8)[j]? = some u → w.cell? ((⟨g, 0, none⟩ : Addr).add j) = some u := (hl.own 0 (Nat.zero_le _)).cells (g := g) rfl
  have hc0 := hb.cell 0
  simp at hc0
  have h4 := hok.len
  have Hcell := hid hcell'
  have hz : Row (w.alloc (.cells #[] 5)) 5 (.slice (some ⟨w.heap.size, 0, none⟩) 0 0) w.heap.size [] := Row.made w 5 [] (by simp [maxLen])
  have n0 : (w.alloc (Obj.cells #[] 5)).cell? { block := b, off := 0 } = some (.slice (some ⟨g, 0, none⟩) c.low.length cap) := by simpa using (hb.alloc (.cells #[] 5)).cell 0
  have Hcell2 : Hid (∀ j u, (c.low.map b8)[j]? = some u → (w.alloc (.cells #[] 5)).cell? ((⟨g, 0, none⟩ : Addr).add j) = some u) := hid (((hl.alloc (.cells #[] 5)).own 0 (Nat.zero_le _)).cells (g := g) rfl)
  clear hcell hfr hb hl ho hc hok hcell'
  go_enter Try.func23, Try.ntmps23
  go_wp2_with (at_builtin; refine wpList_append_sl rfl rfl u8_el rfl (by decide) rfl (hz.own 0 (Nat.zero_le _)) (news := c.low.map b8) rfl ?c1 ?c2 ?c3 ?c4 ?c5 ?c6 ?_)
  case c1 => simp
  case c2 => omega
  case c3 => exact Hcell2.out
  case c4 => intro u hu; obtain ⟨d, _, rfl⟩ := List.mem_map.1 hu; rfl
  case c5 => simp; omega
  case c6 => simp; omega
  intro g' cap' w' h1 h2 h3
  rw [hz.own_block] at h2 h3
  have h4' : w.heap.size ≤ g' := by
    rcases h3 with h3 | h3
    · injection h3 with h3; omega
    · omega
  have h5' : Chg [] w w' := ((show Chg [] w w from Chg.refl _ _).alloc _).trans h2 (by intro x hx; simp at hx; subst hx; exact .inr (Nat.le_refl _))
  go_wp2
  go_ret
  obtain ⟨g'', h5, h6⟩ := Row.of_own h1 rfl
  refine ⟨g', cap', by simp, ?_, h5', h4'⟩
  simp only [Value.ownBlock] at h6
  injection h6 with h6
  subst h6
  simpa using h5

theorem start_ok_r (n : Nat) (w : World) (hn : n ≤ 4096) :
    Calls Try.prog 33 #[.int .i64 n] w fun e w' => ∃ h, e = .returned (.slice (some ⟨h, 0, none⟩) n n) ∧ Row w' 3 (.slice (some ⟨h, 0, none⟩) n n) h ((List.replicate n 2048).map i64) ∧ Chg [] w w' ∧ w.heap.size ≤ h := by
  have hmk := run_make1 i64_el rfl .i64 .i64 n (by omega) (by omega)
  go_enter Try.func33, Try.ntmps33
  go_wp2_with fail
  go_loopg [4] n (fun k j wr => k ≤ n ∧ j = .int .i64 ((n - k : Nat) : Int) ∧ Chg [w.heap.size] w wr ∧
      Row wr 3 (.slice (some ⟨w.heap.size, 0, none⟩) n n) w.heap.size ((List.replicate (n - k) 2048 ++ List.replicate k 0).map i64))
  case atStart =>
    refine ⟨Nat.le_refl _, by simp, (Chg.refl _ _).alloc _, ?_⟩
    have := Row.made w 3 (List.replicate n (Value.int .i64 0)) (by simp [maxLen]; omega)
    simpa [i64] using this
  case round =>
    obtain ⟨hk, rfl, hch, hrow⟩ := hrel
    rcases gk with _ | k
    · have t1 : decide (((n - 0 : Nat) : Int) < n) = false := by simp
      go_wp2
      go_ret
      exact ⟨_, rfl, by simpa using hrow, ⟨hch.os, hch.tape, hch.output, hch.size, fun x hx _ => hch.block x hx (by simp; omega)⟩, Nat.le_refl _⟩
    · obtain ⟨m, hm⟩ : ∃ m, m = n - (k + 1) := ⟨_, rfl⟩
      rw [← hm] at hrow ⊢
      have hm1 : m < n := by omega
      have hm2 : n - k = m + 1 := by omega
      have HM := hid hm2
      clear hm hm2
      have hfr : wr.frozen? ⟨w.heap.size, m, none⟩ = false := by
        obtain ⟨_, _, _, _, _, h2⟩ := hrow.open_map
        exact h2 m
      have hce : wr.cell? ⟨w.heap.size, m, none⟩ = some (.int .i64 0) := by
        obtain ⟨_, _, _, _, h2, _⟩ := hrow.open_map
        exact h2 m 0 (by rw [List.getElem?_append_right (by simp)]; simp)
      go_wp2
      go_roundg k
      case measure => omega
      case rel =>
        rw [HM.out]
        refine ⟨by omega, by go_num, hch.setCell (by simp) _, ?_⟩
        have h1 := hrow.set_ (i := m) (by simp) (i64 2048)
        have e : (((List.replicate m 2048 ++ List.replicate (k + 1) 0).map i64).set m (i64 2048)) = (List.replicate (m + 1) 2048 ++ List.replicate k 0).map i64 := by
          rw [← List.map_set, List.set_append_right _ _ (by simp), List.replicate_succ' (n := m)]
          simp [List.replicate_succ]
        rw [e] at h1
        exact h1
theorem newCoder_ok_r (n : Nat) (w : World) (h1 : 1 ≤ n) (hn : n ≤ 4096) :
    Calls Try.prog 12 #[.int .i64 n] w fun e w' => ∃ b g h, e = .returned (.tuple #[.pointer (some ⟨b, 0, none⟩), .int .i64 0]) ∧ IsCod 63 w' b g h (newCod n) ∧ Chg [] w w' ∧
      w.heap.size ≤ b ∧ w.heap.size ≤ g ∧ w.heap.size ≤ h := by
  have t1 : decide ((n : Int) < 1) = false := by simp; omega
  have t2 : decide ((4096 : Int) < n) = false := by simp; omega
  have hmk : ∀ w, (Instr.makeSlice 39 (.int .i64 4) (.int .i64 4)).run Try.prog w = .ok (.slice (some ⟨w.heap.size, 0, none⟩) 4 4) (w.alloc (.cells #[.int .u8 0, .int .u8 0, .int .u8 0, .int .u8 0] 5)) :=
    fun w => run_make1 u8_el rfl .i64 .i64 4 (by omega) (by omega) w
  go_enter Try.func12, Try.ntmps12
  go_wp2_with fail
  go_region_with (go_at_call 33; refine (start_ok_r n _ hn).mono ?_; rintro e w1 ⟨h, rfl, hrow, hch, hh⟩)
  · go_wp2
    go_ret2
    have hz := Row.made w 5 [.int .u8 0, .int .u8 0, .int .u8 0, .int .u8 0] (by simp [maxLen])
    refine ⟨w1.heap.size, w.heap.size, h, rfl, ⟨_, _, Blk.new _ _ _, ((hz.drew).chg hch (by simp)).alloc _, hrow.alloc _⟩, ?_, ?_, Nat.le_refl _, ?_⟩
    · exact ((((Chg.refl _ _).alloc _).drew).trans_same hch).alloc _
    · have := hch.size; simp at this; omega
    · simp at hh; omega
  · go_wp2
    go_ret2
    have hz := Row.made w1 5 [.int .u8 0, .int .u8 0, .int .u8 0, .int .u8 0] (by simp [maxLen])
    refine ⟨w1.heap.size + 1, w1.heap.size, h, ?_, ⟨_, _, (show Blk _ _ _ #[_, .int .u64 4294967295, _] from ?_), hz.alloc _, (hrow.alloc _).alloc _⟩, ?_, ?_, ?_, ?_⟩
    · rfl
    · have := Blk.new (w1.alloc (.cells #[.int .u8 0, .int .u8 0, .int .u8 0, .int .u8 0] 5)) 63 #[.slice (some ⟨w1.heap.size, 0, none⟩) 4 4, .int .u64 4294967295, .slice (some ⟨h, 0, none⟩) n n]
      simpa using this
    · exact ((((Chg.refl _ _).drew).trans_same hch).alloc _).alloc _
    · have := hch.size; simp at this; omega
    · have := hch.size; simp at this; omega
    · simp at hh; omega

theorem newCoder_bad_r (n : Int) (w : World) (hbad : n < 1 ∨ 4096 < n) :
    Calls Try.prog 12 #[.int .i64 n] w fun e w' => e = .returned (.tuple #[.pointer none, .int .i64 1]) ∧ w' = w := by
  by_cases h1 : n < 1
  · have t1 : decide (n < 1) = true := by simpa using h1
    clear hbad
    go_enter Try.func12, Try.ntmps12
    go_wp2_with fail
    go_ret2
    exact ⟨rfl, rfl⟩
  · have t1 : decide (n < 1) = false := by simpa using h1
    have t2 : decide (4096 < n) = true := by simp; omega
    clear hbad
    go_enter Try.func12, Try.ntmps12
    go_wp2_with fail
    go_ret2
    exact ⟨rfl, rfl⟩

end Go.Proofs.Ytofdgpgleghllaa
