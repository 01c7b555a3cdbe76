/- sample.Low, High, Fits, Width; parts.row, right, raw, choose by their contracts. -/
import Derived.Test.YtpkplhmdnjdmoaaGreatDoorMg25
import Derived.Test.YtpkplhmdnjdmoaaGreatDoorMg27
import Derived.Test.YtpkplhmdnjdmoaaGreatDoorMg02
set_option linter.unusedVariables false
set_option linter.unusedSimpArgs false
namespace Go.Proofs.YtpkplhmdnjdmoaaGreatDoor
set_option linter.unusedSimpArgs false
set_option linter.unusedVariables false
open Go.RowKit

theorem low_ok (m : Nat) (w : World) (hm : m ≤ 30) : Calls Tryz.prog 133 #[.int .i64 ((m : Int) + 1)] w fun e w' => e = .returned (.int .i64 (-2 ^ m)) ∧ w = w' := by
  have t1 : decide ((m : Int) + 1 < 1) = false := by simp; omega
  have t2 : decide ((31 : Int) < (m : Int) + 1) = false := by simp; omega
  have hp : (2 : Int) ^ m ≤ 1073741824 := pow_half_mono (n := 30) hm
  have hp0 := two_pow_pos' m
  go_enter Tryz.func133, Tryz.ntmps133
  go_wp2
  go_ret
  refine ⟨?_, rfl⟩
  first | rfl | (go_num)
theorem high_ok (m : Nat) (w : World) (hm : m ≤ 30) : Calls Tryz.prog 134 #[.int .i64 ((m : Int) + 1)] w fun e w' => e = .returned (.int .i64 (2 ^ m - 1)) ∧ w = w' := by
  have t1 : decide ((m : Int) + 1 < 1) = false := by simp; omega
  have t2 : decide ((31 : Int) < (m : Int) + 1) = false := by simp; omega
  have hp : (2 : Int) ^ m ≤ 1073741824 := pow_half_mono (n := 30) hm
  have hp0 := two_pow_pos' m
  go_enter Tryz.func134, Tryz.ntmps134
  go_wp2
  go_ret
  refine ⟨?_, rfl⟩
  first | rfl | (go_num)
theorem fits_ok (x : Int) (n : Nat) (w : World) (hn : n ≤ 31) (hx0 : -4611686018427387904 ≤ x) (hx1 : x ≤ 4611686018427387904) : Calls Tryz.prog 96 #[.int .i64 x, .int .i64 n] w fun e w' => e = .returned (.bool (fitsB x n)) ∧ w = w' := by
  rcases n with _ | m
  · have hf : fitsB x 0 = false := by simp [fitsB]
    rw [hf]
    go_enter Tryz.func96, Tryz.ntmps96
    go_wp2
    go_ret
    exact ⟨rfl, rfl⟩
  · have hm : m ≤ 30 := by omega
    have hcast : ((m + 1 : Nat) : Int) = (m : Int) + 1 := by omega
    rw [hcast]
    have t1 : decide ((1 : Int) ≤ (m : Int) + 1) = true := by simp; omega
    have t2 : decide ((m : Int) + 1 ≤ 31) = true := by simp; omega
    have hp : (2 : Int) ^ m ≤ 1073741824 := pow_half_mono (n := 30) hm
    have hp0 := two_pow_pos' m
    have hf : fitsB x (m + 1) = (decide (-2 ^ m ≤ x) && decide (x ≤ 2 ^ m - 1)) := by
      unfold fitsB
      simp [hn]
    rw [hf]
    clear hf
    by_cases h1 : -2 ^ m ≤ x
    · have t3 : decide ((-2 ^ m : Int) ≤ x) = true := by simpa using h1
      by_cases h2 : x ≤ 2 ^ m - 1
      · have t4 : decide (x ≤ (2 ^ m - 1 : Int)) = true := by simpa using h2
        rw [t3, t4]
        go_enter Tryz.func96, Tryz.ntmps96
        go_wp2_with (first | (go_at_call 133; refine (low_ok m _ hm).mono ?_; rintro e w' ⟨rfl, rfl⟩) | (go_at_call 134; refine (high_ok m _ hm).mono ?_; rintro e w' ⟨rfl, rfl⟩))
        go_ret
        exact ⟨rfl, rfl⟩
      · have t4 : decide (x ≤ (2 ^ m - 1 : Int)) = false := by simpa using h2
        rw [t3, t4]
        go_enter Tryz.func96, Tryz.ntmps96
        go_wp2_with (first | (go_at_call 133; refine (low_ok m _ hm).mono ?_; rintro e w' ⟨rfl, rfl⟩) | (go_at_call 134; refine (high_ok m _ hm).mono ?_; rintro e w' ⟨rfl, rfl⟩))
        go_ret
        exact ⟨rfl, rfl⟩
    · have t3 : decide ((-2 ^ m : Int) ≤ x) = false := by simpa using h1
      rw [t3]
      go_enter Tryz.func96, Tryz.ntmps96
      go_wp2_with (first | (go_at_call 133; refine (low_ok m _ hm).mono ?_; rintro e w' ⟨rfl, rfl⟩) | (go_at_call 134; refine (high_ok m _ hm).mono ?_; rintro e w' ⟨rfl, rfl⟩))
      go_ret
      exact ⟨rfl, rfl⟩

set_option maxRecDepth 100000 in
set_option maxHeartbeats 400000 in
theorem width_ok (l : List Int) (A : Option Addr) (cap : Nat) (w : World) (hw : ∀ x ∈ l, wideP x) (hc : Cells vi w A l) (hl : l.length ≤ 1099511627776) :
    Calls Tryz.prog 51 #[.slice A l.length cap] w fun e w' => e = .returned (.int .i64 (widthL l)) ∧ w = w' := by
  have HW := hid hw
  clear hw
  obtain ⟨n, hn⟩ : ∃ n, n = l.length := ⟨_, rfl⟩
  rw [← hn] at hl ⊢
  have HN := hid hn
  clear hn
  go_enter Tryz.func51, Tryz.ntmps51
  go_wp2_with fail
  go_loopg [3, 8] n (fun j s i wr => j ≤ n ∧ i = .int .i64 ((n - j : Nat) : Int) ∧ s = .int .i64 ((widthL (l.take (n - j)) : Nat) : Int) ∧ w = wr)
  case atStart => exact ⟨Nat.le_refl _, by simp, by simp [widthL], rfl⟩
  case round =>
    obtain ⟨hj, rfl, rfl, rfl⟩ := hrel
    rcases gk with _ | j
    · have t4 : decide (((n - 0 : Nat) : Int) < (n : Int)) = false := by simp
      have e : l.take n = l := by rw [HN.out, List.take_length]
      rw [Nat.sub_zero, e]
      go_wp2
      go_ret
      exact ⟨rfl, rfl⟩
    · obtain ⟨m, hm1⟩ : ∃ m, m = n - (j + 1) := ⟨_, rfl⟩
      rw [← hm1]
      have hm2 : m < n := by omega
      have hm3 : n - j = m + 1 := by omega
      have HM := hid hm3
      clear hm1 hm3
      have hml : m < l.length := by rw [← HN.out]; exact hm2
      obtain ⟨b, o, rfl, hcell⟩ := hc.at_ hml
      have hsn := widthL_snoc (l.take m) l[m]
      rw [← take_snoc' l hml] at hsn
      have hle := widthL_le (l := l.take m) (fun x hx => HW.out x (List.mem_of_mem_take hx))
      obtain ⟨x, hx⟩ : ∃ x, x = l[m] := ⟨_, rfl⟩
      rw [← hx] at hcell hsn
      have hcell' : w.cell? ⟨b, o + m, none⟩ = some (.int .i64 x) := hcell
      have hxw : wideP x := by rw [hx]; exact HW.out _ (List.getElem_mem _)
      have hxx := hxw
      obtain ⟨hx0, hx1⟩ := hxx
      obtain ⟨s, hs⟩ : ∃ s, s = widthL (l.take m) := ⟨_, rfl⟩
      rw [← hs] at hsn hle ⊢
      have HS := hid hsn
      have hfin := need_le hxw 32 s hle
      clear hsn hcell hx hs hml
      go_wp2_with fail
      go_loopg [3] (32 - s) (fun f v wr => ∃ v' : Nat, v = .int .i64 (v' : Int) ∧ v' + f = 32 ∧ Hid (needFrom x 32 s = needFrom x f v') ∧ v' ≤ 31 ∧ w = wr)
      case atStart => exact ⟨s, rfl, by omega, hid (by
        have : ∀ d, d + (32 - s) = 32 → needFrom x 32 s = needFrom x (32 - s) s := by
          intro d _
          have key : ∀ f g w', w' ≤ 31 → 32 ≤ w' + f → 32 ≤ w' + g → needFrom x f w' = needFrom x g w' := by
            intro f
            induction f with
            | zero => intro g w' h1 h2 h3; omega
            | succ f ih =>
              intro g w' h1 h2 h3
              rcases g with _ | g
              · omega
              · unfold needFrom
                split
                · rename_i hcc
                  have : w' ≠ 31 := fun e => by rw [e, fits_wide hxw] at hcc; simp at hcc
                  exact ih g (w' + 1) (by omega) (by omega) (by omega)
                · rfl
          exact key 32 (32 - s) s hle (by omega) (by omega)
        exact this s (by omega)), hle, rfl⟩
      case round =>
        obtain ⟨v, rfl, hvf, Hn, hv31, rfl⟩ := hrel
        have hfv := fits_ok x v w hv31 (by omega) (by omega)
        by_cases hx00 : x = 0
        · have hst := need_stop (x := x) (w := v) (f := gk) (.inl hx00)
          rw [← Hn.out, ← HS.out] at hst
          have HST := hid hst
          clear hst Hn hfin HS
          have t5 : (x != 0) = false := by simp [hx00]
          clear hx00
          go_wp2
          go_roundg j
          case measure => omega
          case rel => rw [HM.out, HST.out]; exact ⟨by omega, by go_num, rfl, rfl⟩
        · have t5 : (x != 0) = true := by simp [hx00]
          have t6 : decide ((v : Int) < 32) = true := by simp; omega
          have hx00' : x ≠ 0 := hx00
          have HX := hid hx00'
          clear hx00 hx00'
          cases hfb : fitsB x v with
          | true =>
            rw [hfb] at hfv
            have hst := need_stop (x := x) (w := v) (f := gk) (.inr hfb)
            rw [← Hn.out, ← HS.out] at hst
            have HST := hid hst
            clear hst Hn hfb hfin HS
            go_wp2_with (go_at_call 96; refine hfv.mono ?_; rintro e w' ⟨rfl, rfl⟩)
            go_roundg j
            case measure => omega
            case rel => rw [HM.out, HST.out]; exact ⟨by omega, by go_num, rfl, rfl⟩
          | false =>
            rw [hfb] at hfv
            have hne : v ≠ 31 := fun e => by rw [e, fits_wide hxw] at hfb; cases hfb
            obtain ⟨g, rfl⟩ : ∃ g, gk = g + 1 := ⟨gk - 1, by omega⟩
            have hst := need_step HX.out (by omega) hfb g
            rw [← Hn.out] at hst
            have HST := hid hst
            clear hst Hn hfb
            go_wp2_with (go_at_call 96; refine hfv.mono ?_; rintro e w' ⟨rfl, rfl⟩)
            go_roundg g
            case measure => omega
            case rel => exact ⟨v + 1, by go_num, by omega, HST, by omega, rfl⟩
end Go.Proofs.YtpkplhmdnjdmoaaGreatDoor

/- parts.row, Sizes, right, raw, choose by their contracts. -/
namespace Go.Proofs.YtpkplhmdnjdmoaaGreatDoor
set_option linter.unusedSimpArgs false
set_option linter.unusedVariables false
open Go.RowKit

theorem prow_yes (n warm : Nat) (w : World) (h1 : 1 ≤ n) (h2 : n ≤ 4096) (h3 : warm ≤ n) : Calls Tryz.prog 88 #[.int .i64 n, .int .i64 warm] w fun e w' => e = .returned (.bool true) ∧ w = w' := by
  have t1 : decide ((1 : Int) ≤ (n : Int)) = true := by simp; omega
  have t2 : decide ((n : Int) ≤ 4096) = true := by simp; omega
  have t3 : decide ((0 : Int) ≤ (warm : Int)) = true := by simp
  have t4 : decide (warm ≤ n) = true := by simp; omega
  go_enter Tryz.func88, Tryz.ntmps88
  go_wp2
  go_ret
  exact ⟨rfl, rfl⟩
theorem i64_one (l : List Nat) : ∀ u ∈ l.map i64, u.oneCell' = true := by
  intro u hu
  obtain ⟨d, _, rfl⟩ := List.mem_map.1 hu
  rfl
/-- A slice of one element that was just made. -/
theorem Own.one (w : World) (e : TypeId) (u : Value) : Own (w.alloc (.cells #[u] e)) e (.slice (some ⟨w.heap.size, 0, none⟩) 1 1) [w.heap.size] [u] := by
  have := (Row.made w e [u] (by simp [maxLen])).toOwn
  simpa using this

set_option maxRecDepth 100000 in
set_option maxHeartbeats 400000 in
theorem sizes_ok (o n warm : Nat) (w : World) (ho : o ≤ 8) (h1 : 1 ≤ n) (h2 : n ≤ 4096) (h3 : warm ≤ n) :
    Calls Tryz.prog 47 #[.int .i64 o, .int .i64 n, .int .i64 warm] w fun e w' => ∃ v G, e = .returned v ∧ Own w' 3 v G ((sizesL o n warm).map i64) ∧ Chg [] w w' ∧ ∀ x ∈ G, w.heap.size ≤ x := by
  have t1 : decide ((o : Int) < 0) = false := by simp
  have t2 : decide ((8 : Int) < (o : Int)) = false := by simp; omega
  have hP2 : 2 ^ o ≤ 256 := Nat.pow_le_pow_right (n := 2) (j := 8) (by decide) ho
  have hP1 := Nat.two_pow_pos o
  obtain ⟨P, hP⟩ : ∃ P, P = 2 ^ o := ⟨_, rfl⟩
  obtain ⟨s, hs⟩ : ∃ s, s = n / 2 ^ o := ⟨_, rfl⟩
  have hPI : (2 : Int) ^ o = (P : Int) := by rw [hP]; simp
  have hsn : s ≤ n := by rw [hs]; exact Nat.div_le_self _ _
  have hsP : s * P ≤ n := by rw [hs, hP]; exact Nat.div_mul_le_self _ _
  have hdef : sizesL o n warm = if s * P = n ∧ warm ≤ s then (s - warm) :: List.replicate (P - 1) s else [] := by unfold sizesL; rw [← hs, ← hP]
  have e1 : (n : Int) / (P : Int) = (s : Int) := by rw [hs, hP]; simp
  rw [← hP] at hP1 hP2
  have HD := hid hdef
  clear hdef hs
  have HP := hid hP
  clear hP
  by_cases c1 : s * P = n
  · have t3 : (((s : Int) * (P : Int)) != (n : Int)) = false := by
      rw [bne_eq_false_iff_eq]
      exact_mod_cast c1
    by_cases c2 : warm ≤ s
    · have t4 : decide (s < warm) = false := by simp; omega
      rw [if_pos ⟨c1, c2⟩] at HD
      have hsub : ((s : Int) - (warm : Int)) = ((s - warm : Nat) : Int) := by omega
      have HC1 := hid c1
      clear c1
      go_enter Tryz.func47, Tryz.ntmps47
      go_wp2_with (go_at_call 88; refine (prow_yes n warm _ h1 h2 h3).mono ?_; rintro e w' ⟨rfl, rfl⟩)
      go_loopg [8] (P - 1) (fun j v wr => ∃ G out, Own wr 3 v G (out.map i64) ∧ Hid (out = (s - warm) :: List.replicate (P - 1 - j) s) ∧ out.length + j = P ∧ Chg [] w wr ∧ ∀ x ∈ G, w.heap.size ≤ x)
      case atStart => exact ⟨[w.heap.size], [s - warm], by simpa [i64] using Own.one w 3 (.int .i64 ((s - warm : Nat) : Int)), hid (by simp), by simp; omega, (Chg.refl _ _).alloc _, by simp⟩
      case round =>
        obtain ⟨G, out, hown, Ho, hol, hch, hG⟩ := hrel
        obtain ⟨A, cap, rfl, hcl, hcm, -⟩ := hown.open_map
        have HG := hid hG
        clear hG
        rcases gk with _ | j
        · have t5 : decide (out.length < P) = false := by simp; omega
          have HOL := hid hol
          clear hol
          go_wp2
          go_ret
          refine ⟨_, G, rfl, ?_, hch, HG.out⟩
          rw [HD.out]
          have ho := Ho.out
          rw [Nat.sub_zero] at ho
          rw [← ho]
          exact hown
        · have t5 : decide (out.length < P) = true := by simp; omega
          have HOL := hid hol
          have hol2 : out.length ≤ 256 := by omega
          clear hol
          go_wp2_with (at_builtin; refine wpList_append_o1 rfl rfl int_elem rfl rfl (hown.alloc _) (.int .i64 s) rfl ?c1 ?c2 ?c3 ?c4 ?_)
          case c1 => simp [go_sem]
          case c2 => rfl
          case c3 => rw [List.length_map]; omega
          case c4 => rw [List.length_map]; omega
          intro g2 cap2 w2 hr2 gr2
          go_wp2_with fail
          go_roundg j
          case measure => omega
          case rel =>
            have hol := HOL.out
            refine ⟨[g2], out ++ [s], ?_, hid ?_, by rw [List.length_append, List.length_singleton]; omega, (hch.alloc _).trans gr2.chg fun x hx => .inr (HG.out x hx), ?_⟩
            · have := hr2.toOwn
              simpa [i64] using this
            · have hge : 1 ≤ out.length := by rw [Ho.out]; simp
              rw [Ho.out]
              have e : P - 1 - j = P - 1 - (j + 1) + 1 := by omega
              rw [e, List.replicate_succ', List.cons_append]
            · intro y hy
              simp at hy
              subst hy
              rcases gr2.new y (by simp) with h5 | h5
              · exact HG.out y h5
              · have := hch.size
                simp at h5
                omega
    · have t4 : decide (s < warm) = true := by simp; omega
      rw [if_neg (fun h => c2 h.2)] at HD
      have HC1 := hid c1
      clear c1
      go_enter Tryz.func47, Tryz.ntmps47
      go_wp2_with (go_at_call 88; refine (prow_yes n warm _ h1 h2 h3).mono ?_; rintro e w' ⟨rfl, rfl⟩)
      go_ret
      refine ⟨_, [], rfl, ?_, Chg.refl _ _, by simp⟩
      rw [HD.out]
      exact Own.nil _ _
  · have t3 : (((s : Int) * (P : Int)) != (n : Int)) = true := by
      rw [bne_iff_ne]
      intro h
      exact c1 (by exact_mod_cast h)
    rw [if_neg (fun h => c1 h.1)] at HD
    have HC1 := hid c1
    clear c1
    go_enter Tryz.func47, Tryz.ntmps47
    go_wp2_with (go_at_call 88; refine (prow_yes n warm _ h1 h2 h3).mono ?_; rintro e w' ⟨rfl, rfl⟩)
    go_ret
    refine ⟨_, [], rfl, ?_, Chg.refl _ _, by simp⟩
    rw [HD.out]
    exact Own.nil _ _

set_option maxRecDepth 100000 in
theorem right_yes (n warm : Nat) (l : List Int) (A : Option Addr) (cap : Nat) (w : World) (h1 : 1 ≤ n) (h2 : n ≤ 4096) (h3 : warm ≤ n) (hl : l.length = n - warm) (hw : ∀ x ∈ l, wideP x) (hc : Cells vi w A l) :
    Calls Tryz.prog 46 #[.int .i64 n, .int .i64 warm, .slice A l.length cap] w fun e w' => e = .returned (.bool true) ∧ w = w' := by
  have HW := hid hw
  clear hw
  obtain ⟨m, hm⟩ : ∃ m, m = l.length := ⟨_, rfl⟩
  rw [← hm] at hl ⊢
  have hsub : ((n : Int) - (warm : Int)) = (m : Int) := by omega
  have t1 : ((m : Int) != (m : Int)) = false := by simp
  have HN := hid hm
  have HL := hid hl
  have hm4 : m ≤ 4096 := by omega
  clear hm hl
  go_enter Tryz.func46, Tryz.ntmps46
  go_wp2_with (go_at_call 88; refine (prow_yes n warm _ h1 h2 h3).mono ?_; rintro e w' ⟨rfl, rfl⟩)
  go_loopg [23] m (fun j i wr => j ≤ m ∧ i = .int .i64 ((m - j : Nat) : Int) ∧ w = wr)
  case atStart => exact ⟨Nat.le_refl _, by simp, rfl⟩
  case round =>
    obtain ⟨hj, rfl, rfl⟩ := hrel
    rcases gk with _ | j
    · have t4 : decide (((m - 0 : Nat) : Int) < (m : Int)) = false := by simp
      go_wp2
      go_ret
      exact ⟨rfl, rfl⟩
    · obtain ⟨i, hi1⟩ : ∃ i, i = m - (j + 1) := ⟨_, rfl⟩
      rw [← hi1]
      have hi2 : i < m := by omega
      have hi3 : m - j = i + 1 := by omega
      have HI := hid hi3
      clear hi1 hi3
      have hml : i < l.length := by rw [← HN.out]; exact hi2
      obtain ⟨g, o, rfl, hcell⟩ := hc.at_ hml
      have hxw : wideP l[i] := HW.out _ (List.getElem_mem _)
      obtain ⟨x, hx⟩ : ∃ x, x = l[i] := ⟨_, rfl⟩
      rw [← hx] at hcell hxw
      have hcell' : w.cell? ⟨g, o + i, none⟩ = some (.int .i64 x) := hcell
      obtain ⟨hx0, hx1⟩ := hxw
      have t5 : decide (x < -1073741824) = false := decide_eq_false (by omega)
      have t6 : decide ((1073741824 : Int) ≤ x) = false := decide_eq_false (by omega)
      clear hcell hx hml
      go_wp2
      go_roundg j
      case measure => omega
      case rel =>
        rw [HI.out]
        exact ⟨by omega, by go_num, rfl⟩
theorem raw_ok' (l : List Int) (A : Option Addr) (cap : Nat) (w : World) (hw : ∀ x ∈ l, wideP x) (hc : Cells vi w A l) (hl : l.length ≤ 4194304) :
    Calls Tryz.prog 89 #[.slice A l.length cap] w fun e w' => e = .returned (.int .i64 (rawCost l)) ∧ w = w' := by
  have hwd := width_ok l A cap w hw hc (by omega)
  have hle := widthL_le hw
  obtain ⟨s, hs⟩ : ∃ s, s = widthL l := ⟨_, rfl⟩
  have hdef : rawCost l = 5 + s * l.length := by unfold rawCost; rw [← hs]
  rw [← hs] at hwd hle
  have HD := hid hdef
  have hb : s * l.length ≤ 31 * 4194304 := Nat.mul_le_mul hle hl
  obtain ⟨n, hn⟩ : ∃ n, n = l.length := ⟨_, rfl⟩
  rw [← hn] at hwd hb HD ⊢
  have hbI : (s : Int) * (n : Int) ≤ 130023424 := by
    have : ((s * n : Nat) : Int) ≤ 130023424 := by omega
    rwa [Int.natCast_mul] at this
  have hbI0 : (0 : Int) ≤ (s : Int) * (n : Int) := Int.mul_nonneg (by omega) (by omega)
  clear hdef hs hw hc hn hb
  go_enter Tryz.func89, Tryz.ntmps89
  go_wp2_with (go_at_call 51; refine hwd.mono ?_; rintro e w' ⟨rfl, rfl⟩)
  go_ret
  rw [HD.out]
  refine ⟨?_, rfl⟩
  first | rfl | (go_num)
theorem choose_ok (l : List Int) (A : Option Addr) (cap : Nat) (w : World) (hw : ∀ x ∈ l, wideP x) (hc : Cells vi w A l) (hl : l.length ≤ 4194304) :
    Calls Tryz.prog 48 #[.slice A l.length cap] w fun e w' => e = .returned (.int .i64 (chooseK l)) ∧ w = w' := by
  have h1 := rbest_ok l A cap w hw hc (by omega)
  have h2 := raw_ok' l A cap w hw hc hl
  have h3 := rsum_ok (rbest l) l A cap w (rbest_le l) hw hc (by omega)
  have hdef : chooseK l = if rawCost l < rsum (rbest l) l then 31 else rbest l := rfl
  obtain ⟨s, hs⟩ : ∃ s, s = rawCost l := ⟨_, rfl⟩
  obtain ⟨b, hb⟩ : ∃ b, b = rbest l := ⟨_, rfl⟩
  rw [← hs, ← hb] at hdef
  rw [← hs] at h2
  rw [← hb] at h1 h3
  obtain ⟨t, ht⟩ : ∃ t, t = rsum b l := ⟨_, rfl⟩
  rw [← ht] at hdef h3
  have HD := hid hdef
  clear hdef hs hb ht hw hc
  by_cases hlt : s < t
  · have t5 : decide (s < t) = true := by simpa using hlt
    rw [if_pos hlt] at HD
    go_enter Tryz.func48, Tryz.ntmps48
    go_wp2_with (first | (go_at_call 61; refine h1.mono ?_; rintro e w' ⟨rfl, rfl⟩) | (go_at_call 89; refine h2.mono ?_; rintro e w' ⟨rfl, rfl⟩) | (go_at_call 90; refine h3.mono ?_; rintro e w' ⟨rfl, rfl⟩))
    go_ret
    rw [HD.out]
    exact ⟨rfl, rfl⟩
  · have t5 : decide (s < t) = false := by simpa using hlt
    rw [if_neg hlt] at HD
    go_enter Tryz.func48, Tryz.ntmps48
    go_wp2_with (first | (go_at_call 61; refine h1.mono ?_; rintro e w' ⟨rfl, rfl⟩) | (go_at_call 89; refine h2.mono ?_; rintro e w' ⟨rfl, rfl⟩) | (go_at_call 90; refine h3.mono ?_; rintro e w' ⟨rfl, rfl⟩))
    go_ret
    rw [HD.out]
    exact ⟨rfl, rfl⟩
end Go.Proofs.YtpkplhmdnjdmoaaGreatDoor

/- parts.May, Cost by their contracts. -/
namespace Go.Proofs.YtpkplhmdnjdmoaaGreatDoor
set_option linter.unusedSimpArgs false
set_option linter.unusedVariables false
open Go.RowKit

theorem Cells.i64_at {w : World} {A : Option Addr} {l : List Nat} (h : Cells i64 w A l) {m : Nat} (hm : m < l.length) :
    ∃ b o, A = some ⟨b, o, none⟩ ∧ w.cell? ⟨b, o + m, none⟩ = some (.int .i64 (l[m] : Nat)) := h.at_ hm
/-- The parameters of parts. -/
def KsOk (ks : List Nat) : Prop := ∀ k ∈ ks, k ≤ 25 ∨ k = 31

set_option maxRecDepth 100000 in
set_option maxHeartbeats 400000 in
theorem pmay_yes (o n warm : Nat) (ks : List Nat) (A : Option Addr) (cap : Nat) (w : World) (ho : o ≤ 8) (h1 : 1 ≤ n) (h2 : n ≤ 4096) (h3 : warm ≤ n) (hne : sizesL o n warm ≠ []) (hlen : ks.length = (sizesL o n warm).length) (hks : KsOk ks) (hc : Cells i64 w A ks) :
    Calls Tryz.prog 91 #[.agg #[.int .i64 o, .slice A ks.length cap], .int .i64 n, .int .i64 warm] w fun e w' => e = .returned (.bool true) ∧ Chg [] w w' := by
  have hl2 := sizesL_len hne
  have hP2 : 2 ^ o ≤ 256 := Nat.pow_le_pow_right (n := 2) (j := 8) (by decide) ho
  have hP1 := Nat.two_pow_pos o
  obtain ⟨N, hN⟩ : ∃ N, N = ks.length := ⟨_, rfl⟩
  have hNs : N = (sizesL o n warm).length := by rw [hN, hlen]
  have hN1 : 1 ≤ N := by omega
  have hN2 : N ≤ 256 := by omega
  rw [← hN]
  have HKs := hid hks
  have HN := hid hN
  have HNs := hid hNs
  clear hl2 hP2 hP1 hN hNs hlen hks hne
  go_enter Tryz.func91, Tryz.ntmps91
  go_wp2_with fail
  refine (sizes_ok o n warm _ ho h1 h2 h3).mono ?_
  rintro e w1 ⟨v, G, rfl, hown, hch, hG⟩
  obtain ⟨A2, cap2, rfl, hcl2, hcm2, -⟩ := hown.open_map
  rw [← HNs.out]
  have hbx := (Blk.new w 46 #[.int .i64 o, .slice A N cap]).chg hch (by simp)
  have hd1 := hbx.cell 1
  simp at hd1
  have hch0 : Chg [] w w1 := ((Chg.refl [] w).alloc _).trans_same hch
  have hc1 := hc.same hch0
  have t1 : ((N : Int) == 0) = false := by rw [beq_eq_false_iff_ne]; omega
  have t2 : ((N : Int) != (N : Int)) = false := by simp
  clear hch hbx hown hc
  go_wp2_with fail
  go_loopg [29] N (fun j i wr => j ≤ N ∧ i = .int .i64 ((N - j : Nat) : Int) ∧ w1 = wr)
  case atStart => exact ⟨Nat.le_refl _, by simp, rfl⟩
  case round =>
    obtain ⟨hj, rfl, rfl⟩ := hrel
    rcases gk with _ | j
    · have t4 : decide (((N - 0 : Nat) : Int) < (N : Int)) = false := by simp
      go_wp2
      go_ret
      exact ⟨rfl, hch0⟩
    · obtain ⟨i, hi1⟩ : ∃ i, i = N - (j + 1) := ⟨_, rfl⟩
      rw [← hi1]
      have hi2 : i < N := by omega
      have hi3 : N - j = i + 1 := by omega
      have HI := hid hi3
      clear hi1 hi3
      have hml : i < ks.length := by rw [← HN.out]; exact hi2
      obtain ⟨g, of_, rfl, hcell⟩ := hc1.i64_at hml
      have hk := HKs.out _ (List.getElem_mem hml)
      obtain ⟨k, hkk⟩ : ∃ k, k = ks[i] := ⟨_, rfl⟩
      rw [← hkk] at hcell hk
      have t5 : decide ((k : Int) < 0) = false := by simp
      clear hkk hml
      rcases hk with hk | rfl
      · have t6 : decide ((25 : Int) < (k : Int)) = false := by simp; omega
        go_wp2
        go_roundg j
        case measure => omega
        case rel =>
          rw [HI.out]
          exact ⟨by omega, by go_num, rfl⟩
      · go_wp2
        go_roundg j
        case measure => omega
        case rel =>
          rw [HI.out]
          exact ⟨by omega, by go_num, rfl⟩
theorem costP_take {ks : List Nat} {ps : List (List Int)} {i k : Nat} {p : List Int} (hk : ks[i]? = some k) (hp : ps[i]? = some p) :
    costP (ks.take (i + 1)) (ps.take (i + 1)) = costP (ks.take i) (ps.take i) + partCost k p := by
  have hkl := (List.getElem?_eq_some_iff.1 hk).1
  have hpl := (List.getElem?_eq_some_iff.1 hp).1
  have ek := (List.getElem?_eq_some_iff.1 hk).2
  have ep := (List.getElem?_eq_some_iff.1 hp).2
  unfold costP
  rw [List.take_succ_eq_append_getElem hkl, List.take_succ_eq_append_getElem hpl, List.zip_append (by simp; omega), List.map_append, List.sum_append, ek, ep]
  simp
  omega
theorem partCost_le {k : Nat} {p : List Int} (hk : k ≤ 25 ∨ k = 31) (hw : ∀ x ∈ p, wideP x) : partCost k p ≤ 10 + 65 * p.length := by
  unfold partCost rawCost
  split
  · have := Nat.mul_le_mul_right p.length (widthL_le hw)
    omega
  · have := rsum_le k p (by omega)
    omega
theorem size_int (w : World) : (sizeOf 3).run Tryz.prog w = .ok 1 w := by
  exact Tryz.sizeOf3 w
end Go.Proofs.YtpkplhmdnjdmoaaGreatDoor

/- parts.Cost by its contract. -/
namespace Go.Proofs.YtpkplhmdnjdmoaaGreatDoor
set_option linter.unusedSimpArgs false
set_option linter.unusedVariables false
open Go.RowKit

theorem drop_startOf {α : Type} (l : List α) (ss : List Nat) (i : Nat) (h : i < ss.length) : (l.drop (startOf ss i)).drop ss[i] = l.drop (startOf ss (i + 1)) := by
  rw [List.drop_drop, startOf_succ ss i h]

set_option maxRecDepth 100000 in
set_option maxHeartbeats 1000000 in
theorem pcost_ok (o n warm : Nat) (ks : List Nat) (A : Option Addr) (cap : Nat) (l : List Int) (Al : Option Addr) (capl : Nat) (w : World) (ho : o ≤ 8) (h1 : 1 ≤ n) (h2 : n ≤ 4096) (h3 : warm ≤ n) (hne : sizesL o n warm ≠ []) (hlen : ks.length = (sizesL o n warm).length) (hks : KsOk ks) (hc : Cells i64 w A ks)
    (hll : l.length = n - warm) (hw : ∀ x ∈ l, wideP x) (hcl : Cells vi w Al l) (hcap1 : l.length ≤ capl) (hcap2 : capl ≤ 9223372036854775807) :
    Calls Tryz.prog 49 #[.agg #[.int .i64 o, .slice A ks.length cap], .int .i64 n, .int .i64 warm, .slice Al l.length capl] w fun e w' => e = .returned (.int .i64 (costP ks (splitL (sizesL o n warm) l))) ∧ Chg [] w w' := by
  have hss := sizesL_sum hne
  have hslen := sizesL_len hne
  have hP2 : 2 ^ o ≤ 256 := Nat.pow_le_pow_right (n := 2) (j := 8) (by decide) ho
  obtain ⟨ss, hssd⟩ : ∃ ss, ss = sizesL o n warm := ⟨_, rfl⟩
  obtain ⟨N, hN⟩ : ∃ N, N = ks.length := ⟨_, rfl⟩
  obtain ⟨L, hL⟩ : ∃ L, L = l.length := ⟨_, rfl⟩
  have hmay := fun w hc => pmay_yes o n warm ks A cap w ho h1 h2 h3 hne hlen hks hc
  have hright := fun w hc => right_yes n warm l Al capl w h1 h2 h3 hll hw hc
  have hsizes := fun w => sizes_ok o n warm w ho h1 h2 h3
  rw [← hssd] at hlen hss hslen hsizes ⊢
  rw [← hN] at hmay hlen ⊢
  rw [← hL] at hright hll hcap1 ⊢
  have HMay := hid hmay
  have HRight := hid hright
  have HSizes := hid hsizes
  have HKs := hid hks
  have HW := hid hw
  have HN := hid hN
  have HL := hid hL
  have HLen := hid hlen
  have HSS := hid hss
  have HLL := hid hll
  have hN256 : N ≤ 256 := by omega
  have hL4 : L ≤ 4096 := by omega
  clear hmay hright hsizes hks hw hN hL hlen hss hslen hP2 hssd hll hne
  go_enter Tryz.func49, Tryz.ntmps49
  go_wp2_with fail
  refine (HMay.out _ (hc.same ((Chg.refl [] w).alloc _))).mono ?_
  rintro e w1 ⟨rfl, ch1⟩
  have ch1' : Chg [] w w1 := ((Chg.refl [] w).alloc _).trans_same ch1
  have hbx := (Blk.new w 46 #[.int .i64 o, .slice A N cap]).chg ch1 (by simp)
  have hd0 := hbx.cell 0
  simp at hd0
  go_wp2_with fail
  refine (HRight.out _ (hcl.same ch1')).mono ?_
  rintro e w1' ⟨rfl, rfl⟩
  go_wp2_with fail
  refine (HSizes.out _).mono ?_
  rintro e w2 ⟨v, G, rfl, hown, ch2, hG⟩
  obtain ⟨A2, cap2, rfl, hcl2, hcm2, hcells2⟩ := hown.open_map
  have ch2' : Chg [] w w2 := ch1'.trans_same ch2
  have hbx2 := hbx.chg ch2 (by simp)
  have hd1 := hbx2.cell 1
  simp at hd1
  have hcK := hc.same ch2'
  have hcL := hcl.same ch2'
  have HLen2 := HLen.out
  rw [← HLen2]
  clear hbx hbx2 hd0 ch1 ch2 hown hc hcl hG
  have HLen3 := hid HLen2
  clear HLen2
  have HCap := hid hcap2
  clear hcl2 hcap2
  go_wp2_with fail
  go_loopg [3, 9, 31] N (fun j lv cv i wr => j ≤ N ∧ i = .int .i64 ((N - j : Nat) : Int) ∧ w2 = wr ∧ cv = .int .i64 ((costP (ks.take (N - j)) ((splitL ss l).take (N - j)) : Nat) : Int) ∧ costP (ks.take (N - j)) ((splitL ss l).take (N - j)) ≤ 4 + (N - j) * 300000 ∧
      ∃ A' c' rest, lv = .slice A' rest.length c' ∧ Hid (rest = l.drop (startOf ss (N - j))) ∧ Cells vi w2 A' rest ∧ rest.length ≤ c' ∧ c' ≤ 9223372036854775807 ∧ rest.length ≤ 4096)
  case atStart =>
    refine ⟨Nat.le_refl _, by simp, rfl, by simp [costP], by simp [costP], Al, capl, l, ?_, hid (by simp [startOf]), hcL, ?_, HCap.out, ?_⟩
    · rw [← HL.out]
    · rw [← HL.out]; exact hcap1
    · rw [← HL.out]; exact hL4
  case round =>
    obtain ⟨hj, rfl, rfl, rfl, hcb, A', c', rest, rfl, Hrest, hcR, hrc, hcm, hr4⟩ := hrel
    rcases gk with _ | j
    · have t4 : decide (((N - 0 : Nat) : Int) < (N : Int)) = false := by simp
      have e1 : ks.take N = ks := by rw [HN.out, List.take_length]
      have e2 : (splitL ss l).take N = splitL ss l := by rw [HLen3.out, ← splitL_len ss l, List.take_length]
      rw [Nat.sub_zero, e1, e2]
      go_wp2
      go_ret
      exact ⟨rfl, ch2'⟩
    · obtain ⟨i, hi1⟩ : ∃ i, i = N - (j + 1) := ⟨_, rfl⟩
      rw [← hi1] at hcb Hrest ⊢
      have hi2 : i < N := by omega
      have hi3 : N - j = i + 1 := by omega
      have HI := hid hi3
      clear hi1 hi3
      have hik : i < ks.length := by rw [← HN.out]; exact hi2
      have his : i < ss.length := by rw [← HLen3.out]; exact hi2
      obtain ⟨gk_, ok_, rfl, hcellk⟩ := hcK.i64_at hik
      obtain ⟨gs_, os_, rfl, hcells⟩ := hcells2.i64_at his
      have hk := HKs.out _ (List.getElem_mem hik)
      have hget := splitL_get ss l i his
      have hctk := costP_take (ks := ks) (ps := splitL ss l) (i := i) (List.getElem?_eq_getElem hik) hget
      have hfit := startOf_fit ss i his
      have hdr := drop_startOf l ss i his
      rw [← Hrest.out] at hget hctk hdr
      obtain ⟨k, hkk⟩ : ∃ k, k = ks[i] := ⟨_, rfl⟩
      obtain ⟨s, hs⟩ : ∃ s, s = ss[i] := ⟨_, rfl⟩
      rw [← hkk] at hcellk hk hctk
      rw [← hs] at hcells hctk hfit hdr
      have hsr : s ≤ rest.length := by
        have := HSS.out
        have := HLL.out
        have := HL.out
        rw [Hrest.out, List.length_drop]
        omega
      have hwp : ∀ x ∈ rest.take s, wideP x := fun x hx => HW.out x (by
        have := List.mem_of_mem_take hx
        rw [Hrest.out] at this
        exact List.mem_of_mem_drop this)
      have hpl : (rest.take s).length = s := by rw [List.length_take]; omega
      have hpc := partCost_le hk hwp
      rw [hpl] at hpc
      have hraw := raw_ok' (rest.take s) A' c' w2 hwp (hcR.take s) (by omega)
      have hsum := fun (hk : k ≤ 25) => rsum_ok k (rest.take s) A' c' w2 hk hwp (hcR.take s) (by omega)
      rw [hpl] at hraw hsum
      obtain ⟨A3, hsl, hbk, hcl3⟩ := slice_from (P := Tryz.prog) Tryz.underlying29 size_int A' rest.length c' s hsr hrc
      have hcR3 := hcl3 Int vi w2 rest rfl hcR
      have HS := hid hsum
      have HCTK := hid hctk
      have HDR : Hid (rest.drop s = l.drop (startOf ss (i + 1))) := hid hdr
      have hdl : rest.length - s = (rest.drop s).length := by rw [List.length_drop]
      rw [hdl] at hsl
      have hs4 : (rest.drop s).length ≤ 4096 := by rw [List.length_drop]; omega
      have hsc : (rest.drop s).length ≤ c' - s := by rw [List.length_drop]; omega
      obtain ⟨rest2, hrest2⟩ : ∃ r, r = rest.drop s := ⟨_, rfl⟩
      rw [← hrest2] at hsl hs4 hsc hcR3 HDR
      have hsc' : s ≤ c' := by omega
      have HPL := hid hpl
      obtain ⟨part, hpart⟩ : ∃ r, r = rest.take s := ⟨_, rfl⟩
      rw [← hpart] at hraw HCTK hpc HS
      clear hctk hget hdr hkk hs hwp hbk hcl3 hsum hfit hdl hrest2 hpl hpart hcR hik his
      obtain ⟨c0, hc0⟩ : ∃ c0, c0 = costP (ks.take i) ((splitL ss l).take i) := ⟨_, rfl⟩
      rw [← hc0] at HCTK hcb ⊢
      have hcb2 : c0 ≤ 76800004 := by omega
      have HCB := hid hcb
      clear hc0 hcb
      have hfinal : ∀ q, q = partCost k part → Hid (costP (ks.take (i + 1)) ((splitL ss l).take (i + 1)) = c0 + q) := fun q hq => hid (by rw [HCTK.out, hq])
      by_cases hk31 : k = 31
      · have t6 : ((k : Int) == 31) = true := by rw [beq_iff_eq]; omega
        have hpcd : partCost k part = 5 + rawCost part := by unfold partCost; rw [if_pos hk31]
        rw [hpcd] at hpc
        have HF := hfinal _ hpcd.symm
        obtain ⟨q, hq⟩ : ∃ q, q = rawCost part := ⟨_, rfl⟩
        rw [← hq] at hraw hpc HF
        clear hk hpcd hk31 hq hfinal HCTK HS
        go_wp2_with (go_at_call 89; refine hraw.mono ?_; rintro e w' ⟨rfl, rfl⟩)
        go_roundg j
        case measure => omega
        case rel =>
          rw [HI.out, HF.out]
          refine ⟨by omega, by go_num, rfl, by go_num, ?_, A3, _, rest2, rfl, HDR, hcR3, hsc, by omega, hs4⟩
          have := HCB.out
          rw [Nat.add_mul]
          omega
      · have t6 : ((k : Int) == 31) = false := by rw [beq_eq_false_iff_ne]; omega
        have hpcd : partCost k part = 5 + rsum k part := by unfold partCost; rw [if_neg hk31]
        rw [hpcd] at hpc
        have HF := hfinal _ hpcd.symm
        have hsum := HS.out (by omega)
        obtain ⟨q, hq⟩ : ∃ q, q = rsum k part := ⟨_, rfl⟩
        rw [← hq] at hsum hpc HF
        clear hk hpcd hk31 hq hfinal HCTK HS hraw
        go_wp2_with (go_at_call 90; refine hsum.mono ?_; rintro e w' ⟨rfl, rfl⟩)
        go_roundg j
        case measure => omega
        case rel =>
          rw [HI.out, HF.out]
          refine ⟨by omega, by go_num, rfl, by go_num, ?_, A3, _, rest2, rfl, HDR, hcR3, hsc, by omega, hs4⟩
          have := HCB.out
          rw [Nat.add_mul]
          omega
end Go.Proofs.YtpkplhmdnjdmoaaGreatDoor
