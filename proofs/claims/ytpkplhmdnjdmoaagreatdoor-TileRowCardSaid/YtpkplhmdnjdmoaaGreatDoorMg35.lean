/- The coder's functions, the second part: Raw, Number, Bytes, start, NewCoder. -/
import Derived.Test.YtpkplhmdnjdmoaaGreatDoorMg29
import Derived.Test.YtpkplhmdnjdmoaaGreatDoorMg34
set_option linter.unusedVariables false
set_option linter.unusedSimpArgs false
namespace Go.Proofs.YtpkplhmdnjdmoaaGreatDoor
set_option linter.unusedSimpArgs false
set_option linter.unusedVariables false
open Go.RowKit

set_option maxRecDepth 100000 in
theorem raw_ok (w : World) (b g h : Nat) (c : Cod) (v n : Nat) (hc : IsCod 164 w b g h c) (hok : CodOk c) (hn : n ≤ 32) (hv : v < 2 ^ n) (hv64 : v < 18446744073709551616)
    (hlen : c.low.length ≤ 549755813888) :
    Calls Tryz.prog 142 #[.pointer (some ⟨b, 0, none⟩), .int .u64 v, .int .i64 n] w fun e w' => e = .returned (.int .i64 0) ∧
      ∃ g', IsCod 164 w' b g' h (rawL c v n) ∧ Chg [b, g, h] w w' ∧ (g' = g ∨ w.heap.size ≤ g') := by
  have t1 : decide ((n : Int) < 0) = false := by simp
  have t2 : decide ((32 : Int) < n) = false := by simp; omega
  have t3 : (((v : Int) / 2 ^ n) != 0) = false := by
    have : (v : Int) / 2 ^ n = ((v / 2 ^ n : Nat) : Int) := by simp
    rw [this, Nat.div_eq_of_lt hv]
    rfl
  go_enter Tryz.func142, Tryz.ntmps142
  go_wp2_with fail
  go_loopg [7] n (fun k i wr => ∃ (g' : Nat) (c' : Cod), i = .int .i64 ((k : Int) - 1) ∧ k ≤ n ∧ IsCod 164 wr b g' h c' ∧ CodOk c' ∧ Hid (rawL c v n = rawL c' v k) ∧
      c'.low.length + k ≤ c.low.length + n ∧ Chg [b, g, h] w wr ∧ (g' = g ∨ w.heap.size ≤ g'))
  case atStart => exact ⟨g, c, rfl, Nat.le_refl _, hc, hok, hid rfl, Nat.le_refl _, Chg.refl _ _, .inl rfl⟩
  case round =>
    obtain ⟨g', c', rfl, hk, hcr, hokr, Hr, hlr, hchr, hg'⟩ := hrel
    rcases gk with _ | k
    · have t4 : decide ((0 : Int) ≤ ((0 : Nat) : Int) - 1) = false := by simp
      go_wp2
      go_ret
      exact ⟨rfl, g', by rw [Hr.out]; exact hcr, hchr, hg'⟩
    · have e1 : (((k + 1 : Nat) : Int) - 1) = (k : Int) := by omega
      rw [e1]
      have hbd := bound_raw hokr
      obtain ⟨vl, vo, hb, hl, ho⟩ := hcr.ex
      have hc1 := hb.cell 1
      simp at hc1
      clear hb hl ho
      have hw2 : IntKind.u64.wrap ((c'.W : Int) / 2) = ((c'.W / 2 : Nat) : Int) := by
        have e : (c'.W : Int) / 2 = ((c'.W / 2 : Nat) : Int) := by simp
        rw [e]
        exact IntWalk.u64_in _ (by have := hokr.hi; omega)
      obtain ⟨bit, hbit⟩ : ∃ bit, bit = v / 2 ^ k % 2 := ⟨_, rfl⟩
      have hand : bits BinOp.and IntKind.u64 ((v : Int) / 2 ^ k) 1 = (bit : Int) := by
        have e : (v : Int) / 2 ^ k = ((v / 2 ^ k : Nat) : Int) := by simp
        have hle : v / 2 ^ k ≤ v := Nat.div_le_self _ _
        rw [e, hbit]
        generalize v / 2 ^ k = q at *
        rw [and_one_u64 _ (by omega) (by omega)]
        simp
      have hbit1 : bit = 0 ∨ bit = 1 := by omega
      have Hstep : Hid (rawL c v n = rawL (codeL c' (c'.W / 2) bit) v k) := by
        refine hid ?_
        rw [Hr.out, hbit]
        rfl
      have hbit2 : bit ≤ 1 := by omega
      have Hb1 := hid hbit1
      clear hbit hbit1
      obtain ⟨W2, hW2⟩ : ∃ W2, W2 = c'.W / 2 := ⟨_, rfl⟩
      rw [← hW2] at hw2 hbd
      have HW2 := hid hW2
      clear hW2
      go_wp2_with fail
      refine wp_region_quiet_tail 11 (by kernel_rfl) (by kernel_rfl) ?_
      simp only [List.take_succ_cons, List.take_zero, List.drop_succ_cons, List.drop_zero]
      repeat (go_big_quiet_step (fail))
      refine wpQuiet_nil ?_
      intro _ hw'
      obtain ⟨nq, rfl⟩ := hw'
      go_wp2_with fail
      refine (code_any _ b g' h c' W2 bit (hcr.same ((Chg.refl _ _).drewN nq)) hokr hbd Hb1.out (by omega)).mono ?_
      rintro e w1 ⟨rfl, g2, hc2, hch2, hg2⟩
      have hl2 := (codeL_len (c := c') W2 bit).2
      have hok2 := codeL_ok hokr hbd bit
      have hsz := hchr.size
      go_wp2_with fail
      go_roundg k
      case measure => omega
      case rel =>
        refine ⟨g2, _, rfl, by omega, hc2, hok2, ?_, by omega, ?_, ?_⟩
        · rw [HW2.out]; exact Hstep
        · refine (hchr.drewN nq).trans hch2 ?_
          intro x hx
          simp at hx
          rcases hx with rfl | rfl
          · exact .inl (by simp)
          · rcases hg' with rfl | hg'
            · exact .inl (by simp)
            · exact .inr hg'
        · rcases hg2 with rfl | hg2
          · exact hg'
          · exact .inr (by have : (wr.drewN nq).heap.size = wr.heap.size := rfl; omega)

theorem raw_bad (w : World) (p : Value) (v n : Int) (hv0 : 0 ≤ v) (hv1 : v ≤ 18446744073709551615) (hbad : n < 0 ∨ 32 < n ∨ v / 2 ^ n.toNat ≠ 0) :
    Calls Tryz.prog 142 #[p, .int .u64 v, .int .i64 n] w fun e w' => e = .returned (.int .i64 1) ∧ w' = w := by
  by_cases h1 : n < 0
  · have t1 : decide (n < 0) = true := by simpa using h1
    clear hbad
    go_enter Tryz.func142, Tryz.ntmps142
    go_wp2_with fail
    go_ret
    exact ⟨rfl, rfl⟩
  · have t1 : decide (n < 0) = false := by simpa using h1
    by_cases h2 : 32 < n
    · have t2 : decide (32 < n) = true := by simpa using h2
      clear hbad
      go_enter Tryz.func142, Tryz.ntmps142
      go_wp2_with fail
      go_ret
      exact ⟨rfl, rfl⟩
    · have t2 : decide (32 < n) = false := by simpa using h2
      obtain ⟨m, rfl⟩ := Int.eq_ofNat_of_zero_le (show 0 ≤ n by omega)
      have t3 : (v / 2 ^ m != 0) = true := by rw [bne_iff_ne]; simpa [h1, h2] using hbad
      have hm : m ≤ 32 := by omega
      clear hbad
      go_enter Tryz.func142, Tryz.ntmps142
      go_wp2_with fail
      go_ret
      exact ⟨rfl, rfl⟩

theorem i64_el : Elem Tryz.prog 29 3 (.int .i64 0) 1 8 := .mk' Tryz.underlying29 (by kernel_rfl)

/-- The bytes, in a new row. -/
theorem bytes_ok (w : World) (b g h : Nat) (c : Cod) (hc : IsCod 164 w b g h c) (hok : CodOk c) (hlen : c.low.length ≤ 1099511627776) :
    Calls Tryz.prog 110 #[.pointer (some ⟨b, 0, none⟩)] w fun e w' => ∃ g' cap, e = .returned (.slice (some ⟨g', 0, none⟩) c.low.length cap) ∧ Row w' 5 (.slice (some ⟨g', 0, none⟩) c.low.length cap) g' (c.low.map b8) ∧ Chg [] w w' ∧ w.heap.size ≤ g' := by
  obtain ⟨vl, vo, hb, hl, ho⟩ := hc.ex
  obtain ⟨cap, rfl, hcl, hcm, hcell, hfr⟩ := hl.open_map
  have hcell' : ∀ j u, (c.low.map b8)[j]? = some u → w.cell? ((⟨g, 0, none⟩ : Addr).add j) = some u := (hl.own 0 (Nat.zero_le _)).cells (g := g) rfl
  have hc0 := hb.cell 0
  simp at hc0
  have h4 := hok.len
  have Hcell := hid hcell'
  clear hcell hfr hb hl ho hc hok hcell'
  go_enter Tryz.func110, Tryz.ntmps110
  go_wp2_with (at_builtin; refine wpList_append_sl rfl rfl u8_el rfl (by decide) rfl (World.ownsRow_nil _ 0 _ _) (news := c.low.map b8) rfl ?c1 ?c2 ?c3 ?c4 ?c5 ?c6 ?_)
  case c1 => simp
  case c2 => omega
  case c3 => exact Hcell.out
  case c4 => intro u hu; obtain ⟨d, _, rfl⟩ := List.mem_map.1 hu; rfl
  case c5 => omega
  case c6 => omega
  intro g' cap' w' h1 h2 h3
  go_wp2
  go_ret
  obtain ⟨g'', h5, h6⟩ := Row.of_own h1 rfl
  refine ⟨g', cap', rfl, ?_, h2, by simpa [Value.ownBlock] using h3⟩
  simp only [Value.ownBlock] at h6
  injection h6 with h6
  subst h6
  simpa using h5

theorem start_ok (n : Nat) (w : World) (hn : n ≤ 4096) :
    Calls Tryz.prog 139 #[.int .i64 n] w fun e w' => ∃ h, e = .returned (.slice (some ⟨h, 0, none⟩) n n) ∧ Row w' 3 (.slice (some ⟨h, 0, none⟩) n n) h ((List.replicate n 2048).map i64) ∧ Chg [] w w' ∧ w.heap.size ≤ h := by
  have hmk := run_make1 i64_el rfl .i64 .i64 n (by omega) (by omega)
  go_enter Tryz.func139, Tryz.ntmps139
  go_wp2_with fail
  go_loopg [4, 9] n (fun k i j wr => k ≤ n ∧ j = .int .i64 ((n - k : Nat) : Int) ∧ Chg [w.heap.size] w wr ∧
      Row wr 3 (.slice (some ⟨w.heap.size, 0, none⟩) n n) w.heap.size ((List.replicate (n - k) 2048 ++ List.replicate k 0).map i64))
  case atStart =>
    refine ⟨Nat.le_refl _, by simp, (Chg.refl _ _).alloc _, ?_⟩
    have := Row.made w 3 (List.replicate n (Value.int .i64 0)) (by simp [maxLen]; omega)
    simpa [i64] using this
  case round =>
    obtain ⟨hk, rfl, hch, hrow⟩ := hrel
    rcases gk with _ | k
    · have t1 : decide (((n - 0 : Nat) : Int) < n) = false := by simp
      go_wp2
      go_ret
      exact ⟨_, rfl, by simpa using hrow, ⟨hch.os, hch.tape, hch.output, hch.size, fun x hx _ => hch.block x hx (by simp; omega)⟩, Nat.le_refl _⟩
    · obtain ⟨m, hm⟩ : ∃ m, m = n - (k + 1) := ⟨_, rfl⟩
      rw [← hm] at hrow ⊢
      have hm1 : m < n := by omega
      have hm2 : n - k = m + 1 := by omega
      have HM := hid hm2
      clear hm hm2
      have hfr : wr.frozen? ⟨w.heap.size, m, none⟩ = false := by
        obtain ⟨_, _, _, _, _, h2⟩ := hrow.open_map
        exact h2 m
      have hce : wr.cell? ⟨w.heap.size, m, none⟩ = some (.int .i64 0) := by
        obtain ⟨_, _, _, _, h2, _⟩ := hrow.open_map
        exact h2 m 0 (by rw [List.getElem?_append_right (by simp)]; simp)
      go_wp2
      go_roundg k
      case measure => omega
      case rel =>
        rw [HM.out]
        refine ⟨by omega, by go_num, hch.setCell (by simp) _, ?_⟩
        have h1 := hrow.set_ (i := m) (by simp) (i64 2048)
        have e : (((List.replicate m 2048 ++ List.replicate (k + 1) 0).map i64).set m (i64 2048)) = (List.replicate (m + 1) 2048 ++ List.replicate k 0).map i64 := by
          rw [← List.map_set, List.set_append_right _ _ (by simp), List.replicate_succ' (n := m)]
          simp [List.replicate_succ]
        rw [e] at h1
        exact h1
end Go.Proofs.YtpkplhmdnjdmoaaGreatDoor
