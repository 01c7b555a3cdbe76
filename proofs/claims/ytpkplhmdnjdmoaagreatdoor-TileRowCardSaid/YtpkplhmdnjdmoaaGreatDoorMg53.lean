/- bits.Reader by its contracts, the third part: Signed. -/
import Derived.Test.YtpkplhmdnjdmoaaGreatDoorMg06
import Derived.Test.YtpkplhmdnjdmoaaGreatDoorMg27
import Derived.Test.YtpkplhmdnjdmoaaGreatDoorMg25
import Derived.Test.YtpkplhmdnjdmoaaGreatDoorMg29
import Derived.Test.YtpkplhmdnjdmoaaGreatDoorMg21
import Derived.Test.YtpkplhmdnjdmoaaGreatDoorMg05
set_option linter.unusedVariables false
set_option linter.unusedSimpArgs false
namespace Go.Proofs.YtpkplhmdnjdmoaaGreatDoor
set_option linter.unusedSimpArgs false
set_option linter.unusedVariables false
open Go.RowKit

theorem sgn_mod {x : Int} {n : Nat} (h : fitsB x n = true) : sgnOf (modN x n) n = x := by
  unfold fitsB at h
  simp only [Bool.and_eq_true, decide_eq_true_eq] at h
  obtain ⟨⟨⟨h1, h2⟩, h3⟩, h4⟩ := h
  have hp : (2 : Int) ^ n = 2 ^ (n - 1) + 2 ^ (n - 1) := by
    obtain ⟨m, rfl⟩ : ∃ m, n = m + 1 := ⟨n - 1, by omega⟩
    rw [Int.pow_succ, Nat.add_sub_cancel]
    omega
  have hpn : ((2 ^ (n - 1) : Nat) : Int) = (2 : Int) ^ (n - 1) := by simp
  have hpos := two_pow_pos' (n - 1)
  have hc := modN_cast x n
  unfold sgnOf
  by_cases hx : 0 ≤ x
  · have e : x % 2 ^ n = x := Int.emod_eq_of_lt hx (by omega)
    rw [e] at hc
    rw [if_pos (by omega), hc]
  · have e : x % 2 ^ n = x + 2 ^ n := by
      rw [← Int.add_emod_right]
      exact Int.emod_eq_of_lt (by omega) (by omega)
    rw [e] at hc
    rw [if_neg (by omega), hc]
    omega
theorem sgn_any {x : Int} {n : Nat} (hn : 1 ≤ n) (h : x = 0 ∨ fitsB x n = true) : sgnOf (modN x n) n = x := by
  rcases h with rfl | h
  · have e : modN 0 n = 0 := by simp [modN]
    rw [e]
    unfold sgnOf
    rw [if_pos (Nat.two_pow_pos _)]
    rfl
  · exact sgn_mod h
set_option maxRecDepth 100000 in
set_option maxHeartbeats 1000000 in
theorem rsigned_ok (w : World) (b : Nat) (F ds : List Nat) (p n : Nat) (x : Int) (h : IsRd w b F ds p) (hn : n ≤ 31) (hx : x = 0 ∨ fitsB x n = true) (ha : Ahead ds p (bitsOf (modN x n) n)) :
    Calls Tryz.prog 177 #[.pointer (some ⟨b, 0, none⟩), .int .i64 n] w fun e w' => e = .returned (.int .i64 x) ∧ IsRd w' b F ds (p + n) ∧ Chg [b] w w' := by
  have hget := rget_ahead w b F ds p n (modN x n) h (by omega) (modN_lt x n) ha
  rcases Nat.eq_zero_or_pos n with rfl | hpos
  · have hx0 : x = 0 := by
      rcases hx with h | h
      · exact h
      · simp [fitsB] at h
    subst hx0
    clear hx ha h
    have t1 : (((0 : Nat) : Int) == 0) = true := rfl
    go_enter Tryz.func177, Tryz.ntmps177
    go_wp2_with fail
    refine hget.mono ?_
    rintro e w1 ⟨rfl, hr1, ch1⟩
    obtain ⟨hc1, hc2, hf1, A, cap, hc0⟩ := rd_cells hr1
    clear hget
    go_wp2
    go_ret
    exact ⟨rfl, hr1, ch1⟩
  · have hsg := sgn_shift hpos (by omega) (modN_lt x n)
    rw [sgn_any hpos hx] at hsg
    have hlt := modN_lt x n
    rw [IntWalk.i64_left, Int.fdiv_eq_ediv_of_nonneg _ (by have := two_pow_pos' (64 - n); omega)] at hsg
    obtain ⟨v, hv⟩ : ∃ v, v = modN x n := ⟨_, rfl⟩
    rw [← hv] at hget hsg hlt
    have t1 : ((n : Int) == 0) = false := by rw [beq_eq_false_iff_ne]; omega
    have e1 : (64 : Int) - (n : Int) = ((64 - n : Nat) : Int) := by omega
    clear hx ha h hv
    go_enter Tryz.func177, Tryz.ntmps177
    go_wp2_with fail
    refine hget.mono ?_
    rintro e w1 ⟨rfl, hr1, ch1⟩
    obtain ⟨hc1, hc2, hf1, A, cap, hc0⟩ := rd_cells hr1
    clear hget
    go_wp2
    go_ret
    exact ⟨rfl, hr1, ch1⟩
end Go.Proofs.YtpkplhmdnjdmoaaGreatDoor

/- package parts by its contracts: reading (one, Get). -/
namespace Go.Proofs.YtpkplhmdnjdmoaaGreatDoor
set_option linter.unusedSimpArgs false
set_option linter.unusedVariables false
open Go.RowKit

def rawBits (n : Nat) (l : List Int) : List Nat := l.flatMap fun x => bitsOf (modN x n) n
theorem rawBits_split (n : Nat) (l : List Int) {m : Nat} (hm : m < l.length) : rawBits n (l.drop m) = bitsOf (modN l[m] n) n ++ rawBits n (l.drop (m + 1)) := by
  unfold rawBits
  rw [List.drop_eq_getElem_cons hm, List.flatMap_cons]
set_option maxRecDepth 100000 in
set_option maxHeartbeats 2000000 in
theorem pone_ok (w : World) (b : Nat) (F ds : List Nat) (p k : Nat) (l : List Int) (h : IsRd w b F ds p) (hk : k ≤ 25 ∨ k = 31) (hw : ∀ x ∈ l, wideP x) (hl : l.length ≤ 4096) (ha : Ahead ds p (partBits k l)) :
    Calls Tryz.prog 152 #[.pointer (some ⟨b, 0, none⟩), .int .i64 l.length] w fun e w' => ∃ v G, e = .returned (.tuple #[.int .i64 k, v, .int .i64 0]) ∧ Own w' 3 v G (l.map vi) ∧ IsRd w' b F ds (p + (partBits k l).length) ∧ Chg [b] w w' ∧ ∀ x ∈ G, w.heap.size ≤ x := by
  unfold partBits at ha ⊢
  have hk32 : k < 2 ^ 5 := by omega
  have hg1 := rget_ahead w b F ds p 5 k h (by omega) hk32 ha.left
  have ha1 := ha.right
  rw [bitsOf_len] at ha1
  have hbl := h.lt b h.mem
  rcases hk with hk | rfl
  · rw [if_neg (by omega)] at ha1 ⊢
    have hrg := fun w' (hr : IsRd w' b F ds (p + 5)) => rgets_ok w' b F ds (p + 5) k l hr hk hw (by omega) ha1
    have t1 : decide ((k : Int) ≤ 25) = true := decide_eq_true (by omega)
    have HRG := hid hrg
    have HW := hid hw
    rw [List.length_append, bitsOf_len]
    generalize (rbitsAll k l).length = q at *
    generalize l.length = n at *
    clear hrg ha ha1 hw h
    go_enter Tryz.func152, Tryz.ntmps152
    go_wp2_with fail
    refine hg1.mono ?_
    rintro e w1 ⟨rfl, hr1, ch1⟩
    have hrg := HRG.out w1 hr1
    clear hg1
    go_wp2_with (go_at_call 75; refine (err_ok _ b F ds _ hr1).mono ?_; rintro e w' ⟨rfl, rfl⟩)
    refine hrg.mono ?_
    rintro e w2 ⟨v, G, rfl, ho, hr2, ch2, hG⟩
    go_wp2
    refine bodyPost_ret (v := .tuple #[.int .i64 k, v, .int .i64 0]) (by simp [results, Tryz.results152, go_sem]) rfl ?_
    exact ⟨v, G, rfl, ho, hr2.cast (by omega), ch1.trans_same ch2, fun x hx => Nat.le_trans ch1.size (hG x hx)⟩
  · rw [if_pos rfl] at ha1 ⊢
    have hwl := widthL_le hw
    have hwf := widthL_fits hw
    have hwd := fun A cap w' (hc : Cells vi w' A l) => width_ok l A cap w' hw hc (by omega)
    obtain ⟨wd, hwde⟩ : ∃ wd, wd = widthL l := ⟨_, rfl⟩
    rw [← hwde] at ha1 hwl hwf hwd ⊢
    have hg2 := fun w' (hr : IsRd w' b F ds (p + 5)) => rget_ahead w' b F ds (p + 5) 5 wd hr (by omega) (by omega) ha1.left
    have ha2 := ha1.right
    rw [bitsOf_len] at ha2
    have ha3 : Ahead ds (p + 5 + 5) (rawBits wd (l.drop 0)) := by rw [List.drop_zero]; exact ha2
    have hlenq : (bitsOf 31 5 ++ (bitsOf wd 5 ++ l.flatMap fun x => bitsOf (modN x wd) wd)).length = 5 + (5 + (rawBits wd l).length) := by
      rw [List.length_append, List.length_append, bitsOf_len, bitsOf_len]; rfl
    rw [hlenq]
    obtain ⟨n, hn⟩ : ∃ n, n = l.length := ⟨_, rfl⟩
    rw [← hn] at hl ⊢
    have HN := hid hn
    have HLT := hid h.lt
    have HA := hid ha3
    have HG2 := hid hg2
    have HWF := hid hwf
    have HWD := hid hwd
    clear hn ha3 ha2 ha1 ha hg2 hwf hwd hwde hlenq hw h
    go_enter Tryz.func152, Tryz.ntmps152
    go_wp2_with fail
    refine hg1.mono ?_
    rintro e w1 ⟨rfl, hr1, ch1⟩
    have hg2 := HG2.out w1 hr1
    clear hg1
    go_wp2_with (go_at_call 75; refine (err_ok _ b F ds _ hr1).mono ?_; rintro e w' ⟨rfl, rfl⟩)
    refine hg2.mono ?_
    rintro e w2 ⟨rfl, hr2, ch2⟩
    have ch02 := ch1.trans_same ch2
    clear hg2 hr1 ch1 ch2
    go_wp2_with fail
    go_loopg [11, 38] n (fun j v iv wr => ∃ G p' out, j ≤ n ∧ iv = .int .i64 ((n - j : Nat) : Int) ∧ Own wr 3 v G (out.map vi) ∧ Hid (out = l.take (n - j)) ∧ IsRd wr b F ds p' ∧ Hid (Ahead ds p' (rawBits wd (l.drop (n - j)))) ∧ Hid (p' + (rawBits wd (l.drop (n - j))).length = p + 5 + 5 + (rawBits wd l).length) ∧ Chg [b] w wr ∧ ∀ x ∈ G, w.heap.size ≤ x)
    case atStart => exact ⟨[], p + 5 + 5, [], Nat.le_refl _, by simp, Own.nil _ _, hid (by simp), hr2, hid (by rw [Nat.sub_self]; exact HA.out), hid (by simp), ch02, by simp⟩
    case round =>
      clear hr2 ch02
      obtain ⟨G, p', out, hj, rfl, ho, Ho, hrd, Ha, Hp, hch, hG⟩ := hrel
      have HG := hid hG
      clear hG
      rcases gk with _ | j
      · obtain ⟨A, cap, rfl, hcl, hcm, hcs⟩ := ho.open_map
        have t4 : decide (((n - 0 : Nat) : Int) < (n : Int)) = false := by simp
        have t4' : decide (n < n) = false := by simp
        have e : l.take (n - 0) = l := by rw [HN.out, Nat.sub_zero, List.take_length]
        have e2 : l.drop (n - 0) = [] := by rw [HN.out, Nat.sub_zero, List.drop_length]
        have hol : out = l := Ho.out.trans e
        have hp := Hp.out
        rw [e2] at hp
        have hp2 : p' = p + 5 + 5 + (rawBits wd l).length := by simpa [rawBits] using hp
        subst hol
        have hwd := HWD.out A cap wr hcs
        have HP := hid hp2
        clear e e2 hp hp2 Ho Hp Ha
        go_wp2_with (go_at_call 75; refine (err_ok _ b F ds _ hrd).mono ?_; rintro e w' ⟨rfl, rfl⟩)
        refine hwd.mono ?_
        rintro e w' ⟨rfl, rfl⟩
        go_wp2_with fail
        refine bodyPost_ret (v := .tuple #[.int .i64 31, .slice A out.length cap, .int .i64 0]) (by simp [results, Tryz.results152, go_sem]) rfl ?_
        exact ⟨_, G, rfl, ho, hrd.cast (by rw [HP.out]; omega), hch, HG.out⟩
      · obtain ⟨A, cap, rfl, hcl, hcm, -⟩ := ho.open_map
        obtain ⟨m, hm1⟩ : ∃ m, m = n - (j + 1) := ⟨_, rfl⟩
        rw [← hm1] at Ha Hp Ho ⊢
        have hm2 : m < n := by omega
        have hm3 : n - j = m + 1 := by omega
        have HM := hid hm3
        clear hm1 hm3
        have hml : m < l.length := by rw [← HN.out]; exact hm2
        have hsp := rawBits_split wd l hml
        have htk := take_snoc' l hml
        have hxf := HWF.out l[m] (List.getElem_mem _)
        obtain ⟨x, hx⟩ : ∃ x, x = l[m] := ⟨_, rfl⟩
        rw [← hx] at hsp hxf htk
        have ha1 := Ha.out
        rw [hsp] at ha1
        have hsg := rsigned_ok wr b F ds p' wd x hrd hwl hxf ha1.left
        have HA2 := hid ha1.right
        have hol : out.length ≤ 4096 := by rw [Ho.out, List.length_take]; omega
        have HTK := hid htk
        have HSP := hid hsp
        have t4 : decide (m < n) = true := decide_eq_true hm2
        have t4' : decide ((m : Int) < (n : Int)) = true := decide_eq_true (by omega)
        clear hsp htk hx ha1 hml hxf
        go_wp2_with fail
        refine hsg.mono ?_
        rintro e w1' ⟨rfl, hr1, ch1⟩
        have hbG : ∀ y ∈ G, y ∉ [b] := fun y hy => by have := HG.out y hy; simp; omega
        have ho1 := ho.chg ch1 hbG
        have HB := hid hbG
        clear hsg hbG
        go_wp2_with (at_builtin; refine wpList_append_o1 rfl rfl int_elem rfl rfl (ho1.alloc _) (.int .i64 x) rfl ?c1 ?c2 ?c3 ?c4 ?_)
        case c1 => simp [go_sem]
        case c2 => rfl
        case c3 => rw [List.length_map]; omega
        case c4 => rw [List.length_map]; omega
        intro g2 cap2 w2' hr2 gr2
        go_wp2_with fail
        go_roundg j
        case measure => omega
        case rel =>
          rw [HM.out]
          have ch2 : Chg [b] w w2' := (hch.trans_same (ch1.alloc _)).trans gr2.chg fun x hx => .inr (HG.out x hx)
          have hng : ∀ y ∈ F, y ∉ G := fun y hy hyG => by have := HG.out y hyG; have := HLT.out y hy; omega
          refine ⟨[g2], _, out ++ [x], by omega, by go_num, ?_, ?_, (hr1.same ((Chg.refl [] w1').alloc _)).chg gr2.chg hng, hid (by have := HA2.out; rw [bitsOf_len] at this; exact this), ?_, ch2, ?_⟩
          · have := hr2.toOwn
            simpa [vi] using this
          · exact hid (by rw [Ho.out, HTK.out])
          · refine hid ?_
            rw [← Hp.out, HSP.out, List.length_append, bitsOf_len]
            omega
          · intro y hy
            simp at hy
            subst hy
            rcases gr2.new y (by simp) with h1 | h1
            · exact HG.out y h1
            · have := hch.size
              have := ch1.size
              simp at h1
              omega
end Go.Proofs.YtpkplhmdnjdmoaaGreatDoor

/- model.Get by its contract. -/
namespace Go.Proofs.YtpkplhmdnjdmoaaGreatDoor
set_option linter.unusedSimpArgs false
set_option linter.unusedVariables false
open Go.RowKit

theorem modelBits_pre (l : List Int) (W d : Nat) : ∀ (k i : Nat), ∃ r, modelBits l W d (i + k) = modelBits l W d i ++ r
  | 0, i => ⟨[], by simp⟩
  | k + 1, i => by
    obtain ⟨r, hr⟩ := modelBits_pre l W d k i
    exact ⟨r ++ bitsAtM (modelTo l W d (i + k)) l W d (i + k), by rw [show i + (k + 1) = (i + k) + 1 by omega, modelBits, hr, List.append_assoc]⟩
theorem fill_smp {d : Nat} {l : List Int} (hs : SmpOk d l) (i n : Nat) : SmpOk d (fillL (l.take i) n) := by
  intro s h
  unfold fillL at h
  rcases List.mem_append.1 h with h | h
  · exact hs s (List.mem_of_mem_take h)
  · rw [List.eq_of_mem_replicate h]; exact ⟨Int.le_refl _, two_pow_pos' d⟩
set_option maxRecDepth 100000 in
set_option maxHeartbeats 4000000 in
theorem mget_ok (w : World) (b : Nat) (F ds : List Nat) (p : Nat) (l : List Int) (W H d : Nat) (h : IsRd w b F ds p) (hw0 : 1 ≤ W) (hw1 : W ≤ 64) (hh0 : 1 ≤ H) (hh1 : H ≤ 64) (h0 : 1 ≤ d) (h1 : d ≤ 16) (hl : l.length = W * H) (hs : SmpOk d l) (ha : Ahead ds p (modelBits l W d (W * H))) :
    Calls Tryz.prog 79 #[.pointer (some ⟨b, 0, none⟩), .int .i64 W, .int .i64 H, .int .i64 d] w fun e w' => ∃ v g, e = .returned (.tuple #[v, .int .i64 0]) ∧ Row w' 3 v g (l.map vi) ∧ IsRd w' b F ds (p + (modelBits l W d (W * H)).length) ∧ Chg [b] w w' ∧ w.heap.size ≤ g := by
  have hl4 : l.length ≤ 4096 := by rw [hl]; exact Nat.mul_le_mul hw1 hh1
  obtain ⟨hp0, hp1⟩ := pow_d h0 h1
  have hmo := fun i => modelTo_ok l W h0 h1 hp1 i
  obtain ⟨n, hn⟩ : ∃ n, n = l.length := ⟨_, rfl⟩
  have hnW : n ≤ 64 * W := by rw [hn, hl, Nat.mul_comm]; exact Nat.mul_le_mul_right W hh1
  have hnI : (W : Int) * (H : Int) = (n : Int) := by rw [hn, hl]; simp
  rw [← hl, ← hn] at ha ⊢
  rw [← hn] at hl4
  have hmk := run_make1 (P := Tryz.prog) int_elem rfl .i64 .i64 n (by omega) (by omega)
  have t1 : decide ((W : Int) < 1) = false := decide_eq_false (by omega)
  have t2 : decide ((64 : Int) < (W : Int)) = false := decide_eq_false (by omega)
  have t3 : decide ((H : Int) < 1) = false := decide_eq_false (by omega)
  have t4 : decide ((64 : Int) < (H : Int)) = false := decide_eq_false (by omega)
  have hnew := mnew_ok d w h0 h1
  have hbl := h.lt b h.mem
  have hlt := h.lt
  have HA := hid ha
  have HMO := hid hmo
  have HS := hid hs
  have HN := hid hn
  have HP := hid hp1
  have HLT := hid hlt
  clear hmo hs hn hl hp1 ha hlt
  go_enter Tryz.func79, Tryz.ntmps79
  go_wp2_with fail
  refine hnew.mono ?_
  rintro e w1 ⟨bm, rfl, hmd, ch1, hbm⟩
  have hr1 := h.same ch1
  have hrow0 := Row.zeros w1 n (by omega)
  obtain ⟨B, hB⟩ : ∃ B, B = w1.heap.size := ⟨_, rfl⟩
  have chA : Chg [] w1 (w1.alloc (.cells (List.replicate n (Value.int .i64 0)).toArray 3)) := (Chg.refl [] w1).alloc _
  have hmd0 := hmd.chg chA (by simp)
  have hr0 := hr1.same chA
  have hbmB : bm < B := by rw [hB]; exact hmd.lt
  rw [← hB] at hrow0
  have HB := hid hB
  have HC1 := hid ch1
  clear hnew h hB hmd ch1
  go_wp2_with (go_at_call 75; refine (err_ok _ b F ds _ hr1).mono ?_; rintro e w' ⟨rfl, rfl⟩)
  rw [← HB.out]
  go_loopg [14, 15, 16, 17, 18, 19, 20, 55] n (fun j va vb vc vd ve vf vg iv wr => ∃ (i p' : Nat), iv = .int .i64 (i : Int) ∧ i + j = n ∧ Row wr 3 (.slice (some ⟨B, 0, none⟩) n n) B ((fillL (l.take i) n).map vi) ∧ IsRd wr b F ds p' ∧ Hid (p' = p + (modelBits l W d i).length) ∧ IsMd wr bm d (modelTo l W d i) ∧ Hid (Chg [b] w wr))
  case atStart => exact ⟨0, p, rfl, by omega, by simpa using hrow0, hr0, hid (by simp [modelBits]), hmd0, hid ((HC1.out.trans chA (by simp)).mono (by simp))⟩
  case round =>
    clear hrow0 hr0 hmd0 chA hr1
    obtain ⟨i, p', rfl, hij, hrow, hrd, Hp, hmdr, HCH⟩ := hrel
    rcases gk with _ | j
    · obtain rfl : n = i := by omega
      have t5 : decide (n < n) = false := by simp
      have e : fillL (l.take n) n = l := by
        have := fill_all l
        rw [← HN.out] at this
        exact this
      rw [e] at hrow
      go_wp2_with fail
      go_ret2
      exact ⟨_, B, rfl, hrow, hrd.cast Hp.out, HCH.out, by have := HB.out; have := HC1.out.size; omega⟩
    · have hin : i < n := by omega
      have t5 : decide (i < n) = true := decide_eq_true hin
      obtain ⟨x, hx⟩ : ∃ x, x = i % W := ⟨_, rfl⟩
      obtain ⟨y, hy⟩ : ∃ y, y = i / W := ⟨_, rfl⟩
      have hxW : x < W := by rw [hx]; exact Nat.mod_lt _ (by omega)
      have hyx : y * W + x = i := by rw [hx, hy, Nat.mul_comm]; exact Nat.div_add_mod i W
      have hnf : nbr (fillL (l.take i) n) W (i % W) (i / W) = nbr l W (i % W) (i / W) := by
        have := nbr_fill (l := l) hxW hyx (by rw [← HN.out]; omega)
        rw [← HN.out, hx, hy] at this
        exact this
      clear hx hy hxW hyx
      have hlen : (fillL (l.take i) n).length = n := fillL_len (by rw [List.length_take]; omega)
      have hmok := HMO.out i
      have hct := ctxN_lt (nbr l W (i % W) (i / W)) d
      obtain ⟨r, hr⟩ := modelBits_pre l W d (n - (i + 1)) (i + 1)
      rw [show i + 1 + (n - (i + 1)) = n by omega] at hr
      have hnx : modelBits l W d (i + 1) = modelBits l W d i ++ bitsAtM (modelTo l W d i) l W d i := rfl
      have hnm : modelTo l W d (i + 1) = nextM (modelTo l W d i) l W d i := rfl
      have hA1 := HA.out
      rw [hr] at hA1
      have hA2 := hA1.left
      rw [hnx] at hA2
      have hA3 := hA2.right
      rw [← Hp.out] at hA3
      obtain ⟨m, hm⟩ : ∃ m, m = modelTo l W d i := ⟨_, rfl⟩
      rw [← hm] at hmdr hnx hnm hmok hA3
      have hlk := look_ok' bm d m (fillL (l.take i) n) (some ⟨B, 0, none⟩) n W i wr hmdr hmok h0 h1 hw0 hw1 (by rw [hlen]; omega) (by omega) (fill_smp HS.out i n) hrow.toOwn.cells (by rw [hlen]; exact hl4)
      have ec : ctxAt (fillL (l.take i) n) W d i = ctxAt l W d i := by unfold ctxAt; rw [hnf]
      have et : turnAt (fillL (l.take i) n) W d i = turnAt l W d i := by unfold turnAt; rw [hnf]
      have ep : predAt m (fillL (l.take i) n) W d i = predAt m l W d i := by unfold predAt; rw [ec, et, hnf]
      rw [ec, et, ep, hlen] at hlk
      have hil : i < l.length := by rw [← HN.out]; exact hin
      have hxv := getD_ok HS.out i
      have hpr := guessM_ok (statAt m (ctxAt l W d i)) (guessI 7 (nbr l W (i % W) (i / W)) d) (turnAt l W d i) (d := d) hp0
      have hpe : predAt m l W d i = guessM (statAt m (ctxAt l W d i)) (guessI 7 (nbr l W (i % W) (i / W)) d) (turnAt l W d i) d := rfl
      rw [← hpe] at hpr
      have her := errOf_range (l.getD i 0) (predAt m l W d i) (turnAt l W d i) h0
      have hew := errOf_mid (l.getD i 0) (predAt m l W d i) (turnAt l W d i) h0 h1
      have her16 := errRange16 h1 her
      have hbk := errOf_back (g := predAt m l W d i) (turnAt l W d i) hxv.1 hxv.2
      have hee : errAt m l W d i = errOf (l.getD i 0) (predAt m l W d i) (turnAt l W d i) d := rfl
      rw [← hee] at her hew hbk her16
      have hfe := foldI_in h0 her.1 her.2
      have hbe : bitsAtM m l W d i = rbits (kOf (statAt m (ctxAt l W d i))) (errAt m l W d i) := rfl
      have hne : nextM m l W d i = m.set (ctxAt l W d i) (learnS (statAt m (ctxAt l W d i)) (errAt m l W d i)) := rfl
      rw [hbe] at hA3 hnx
      rw [hne] at hnm
      have hct' : ctxAt l W d i < 365 := hct
      have hkl := kOf_le (statAt_mem hmok hct').2
      have htk := take_snoc' l hil
      have hxg : l[i] = l.getD i 0 := by rw [List.getD_eq_getElem?_getD, List.getElem?_eq_getElem hil]; rfl
      rw [hxg] at htk
      have hdn : (l.take i).length = i := by rw [List.length_take]; omega
      obtain ⟨hce, hfr⟩ := hrow.fill_cell (by rw [hdn]; exact hin)
      have HROW := hid hrow
      rw [hdn] at hce hfr
      generalize ctxAt l W d i = cx at *
      generalize predAt m l W d i = pr at *
      generalize turnAt l W d i = tb at *
      generalize errAt m l W d i = er at *
      obtain ⟨xv, hxv2⟩ : ∃ xv, xv = l.getD i 0 := ⟨_, rfl⟩
      rw [← hxv2] at hbk htk hxv hee
      have hkk := fun w h => mk_ok bm d m cx w h hmok hct'
      generalize kOf (statAt m cx) = kk at *
      have hlearn := fun w h => learn_ok bm d m cx er w h hmok h0 h1 hct' her.1 her.2
      obtain ⟨hr0', hr1'⟩ := hpr
      have hr2 : pr < 65536 := Int.lt_of_lt_of_le hr1' HP.out
      have hgets := fun w' (hq : IsRd w' b F ds p') => rgets_ok w' b F ds p' kk [er] hq (by omega) (fun z hz => by rw [List.mem_singleton.1 hz]; exact hew) (by simp) (by simpa [rbitsAll] using hA3)
      have hfd := fun w' => fold_ok er d w' h0 h1
      rw [hfe] at hfd
      have hwp := fun v w' => wrap_ok v d w' h0 h1
      have t6 : (er != er) = false := by simp
      have HLN := hid hlearn
      have HKK := hid hkk
      have HNX := hid hnx
      have HNM := hid hnm
      have HTK := hid htk
      have HDN := hid hdn
      have HBK := hid hbk
      have HGT := hid hgets
      have HFD := hid hfd
      have HWP := hid hwp
      clear hlearn hkk hnx hnm hee hm hpe hct hxg hbe hne hmok her hbk hgets hfd hwp hfe hew hA1 hA2 hA3 hr hnf hlen ec et ep hxv2 hrow htk hdn hil hce hfr hxv hr1'
      go_wp2_with fail
      refine hlk.mono ?_
      rintro e w2 ⟨rfl, ch2⟩
      have hrd2 := hrd.same ch2
      have hmd2 := hmdr.chg ch2 (by simp)
      clear hlk hrd hmdr
      go_wp2_with fail
      refine (HKK.out _ hmd2).mono ?_
      rintro e w3 ⟨rfl, n3, rfl⟩
      have hg1 := HGT.out _ (hrd2.same ((Chg.refl [] w2).drewN n3))
      rw [show (([er] : List Int).length : Int) = 1 from rfl] at hg1
      go_wp2_with fail
      refine hg1.mono ?_
      rintro e w4 ⟨v4, G4, rfl, own4, hrd4, ch4, hG4⟩
      rcases own4.cases with ⟨_, hnil, _⟩ | ⟨g4, row4, rfl⟩
      · exfalso
        have := congrArg List.length hnil
        simp at this
      obtain ⟨c4, rfl, _, _, hcell4, _⟩ := row4.open_map
      have e0 := hcell4 0 er rfl
      have e0' : w4.cell? ⟨g4, 0, none⟩ = some (.int .i64 er) := e0
      have hbbm : b ∉ [bm] := by have := HC1.out.size; simp; omega
      have hmd4 := (hmd2.chg ((Chg.refl [] w2).drewN n3) (by simp)).chg ch4 (by simp; omega)
      have hch04 := hid (((HCH.out.trans ch2 (by simp)).drewN n3).trans_same ch4)
      have hrow4 := ((HROW.out.chg ch2 (by simp)).drewN n3).chg ch4 (by have := HB.out; have := HC1.out.size; simp; omega)
      have hlr := HLN.out w4 hmd4
      have hfd4 := HFD.out w4
      rw [show (([er] : List Int).length) = 1 from rfl]
      clear own4 row4 hcell4 e0 hmd2 hrd2 ch2 ch4 hg1 hG4 hmd4
      go_wp2_with (go_at_call 18; refine hfd4.mono ?_; rintro e w' ⟨rfl, rfl⟩)
      refine hlr.mono ?_
      rintro e w5 ⟨rfl, hmd5, ch5⟩
      have hrow5 := hrow4.chg ch5 (by simp; omega)
      obtain ⟨hce, hfr⟩ := hrow5.fill_cell (by rw [HDN.out]; exact hin)
      have hfill := hrow5.fill (by rw [HDN.out]; exact hin) xv
      rw [HDN.out] at hce hfr hfill
      have HFI := hid hfill
      have hrd5 := hrd4.chg ch5 (fun z hz hm => by simp at hm; have := HLT.out z hz; have := HC1.out.size; omega)
      have hch05 := hid (hch04.out.trans ch5 (fun z hz => .inr (by simp at hz; omega)))
      have hst : Chg [B] w5 (w5.setCell ⟨B, i, none⟩ (.int .i64 xv)) := (Chg.refl _ _).setCell (.inl (by simp)) _
      have hBF : ∀ z ∈ F, z ∉ [B] := fun z hz hm => by simp at hm; have := HLT.out z hz; have := HC1.out.size; have := HB.out; omega
      have HBF := hid hBF
      clear hlr hrow4 hrow5 hfill hrd4 ch5 hfd4 hBF
      cases tb with
      | false =>
        have hbk : wrapI (pr + er) d = xv := HBK.out
        have hw := HWP.out (pr + er)
        rw [hbk] at hw
        go_wp2_with (go_at_call 45; refine (hw _).mono ?_; rintro e w' ⟨rfl, rfl⟩)
        go_roundg j
        case measure => omega
        case rel =>
          refine ⟨i + 1, p' + (rbitsAll kk [er]).length, by go_num, by omega, ?_, hrd5.chg hst HBF.out, hid ?_, ?_, hid (hch05.out.trans hst (fun z hz => .inr (by simp at hz; have := HB.out; have := HC1.out.size; omega)))⟩
          · rw [HTK.out]; exact HFI.out
          · rw [HNX.out, List.length_append, Hp.out]; simp [rbitsAll]; omega
          · rw [HNM.out]; exact hmd5.chg hst (by simp; omega)
      | true =>
        have hbk : wrapI (pr + -er) d = xv := HBK.out
        have hw := HWP.out (pr + -er)
        rw [hbk] at hw
        go_wp2_with (go_at_call 45; refine (hw _).mono ?_; rintro e w' ⟨rfl, rfl⟩)
        go_roundg j
        case measure => omega
        case rel =>
          refine ⟨i + 1, p' + (rbitsAll kk [er]).length, by go_num, by omega, ?_, hrd5.chg hst HBF.out, hid ?_, ?_, hid (hch05.out.trans hst (fun z hz => .inr (by simp at hz; have := HB.out; have := HC1.out.size; omega)))⟩
          · rw [HTK.out]; exact HFI.out
          · rw [HNX.out, List.length_append, Hp.out]; simp [rbitsAll]; omega
          · rw [HNM.out]; exact hmd5.chg hst (by simp; omega)
end Go.Proofs.YtpkplhmdnjdmoaaGreatDoor

/- What the tokens of Least say of the samples. Plain Lean, no program. -/
namespace Go.Proofs.YtpkplhmdnjdmoaaGreatDoor

/-- A token tells the samples from index i on. -/
def TokAt (l : List Int) (i : Nat) (t : Tok) : Prop :=
  (t.len = 0 ∧ t.dist = 0 ∧ t.lit = l.getD i 0) ∨ (1 ≤ t.len ∧ i + t.len ≤ l.length ∧ 1 ≤ t.dist ∧ t.dist ≤ i ∧ ∀ j, j < t.len → l.getD (i + j) 0 = l.getD (i + j - t.dist) 0)
def RunsAt (l : List Int) (k : Nat) (rs : List Nat) : Prop := ∀ d, 1 ≤ d → d ≤ k → ∀ j, j < rs.getD d 0 → l.getD (k + j) 0 = l.getD (k + j - d) 0
structure DInv (l : List Int) (k : Nat) (rs : List Nat) (d : Nat) (s : DSt) : Prop where
  r1 : ∀ e, 1 ≤ e → e < d → ∀ j, j < s.runs.getD e 0 → l.getD (k + j) 0 = l.getD (k + j - e) 0
  r2 : ∀ e, d ≤ e → s.runs.getD e 0 = rs.getD e 0
  dd : ∀ m, s.dists.getD m 0 ≠ 0 → s.dists.getD m 0 < d ∧ m ≤ s.runs.getD (s.dists.getD m 0) 0
theorem fillD_get : ∀ f D m d n, (fillD f D m d).getD n 0 = D.getD n 0 ∨ ((fillD f D m d).getD n 0 = d ∧ m < n ∧ n ≤ m + f)
  | 0, _, _, _, _ => .inl rfl
  | f + 1, D, m, d, n => by
    rw [fillD]
    rcases fillD_get f (D.set (m + 1) d) (m + 1) d n with h | ⟨h, h1, h2⟩
    · rw [h, getD_set]
      split
      · exact .inr ⟨rfl, by omega, by omega⟩
      · exact .inl rfl
    · exact .inr ⟨h, by omega, by omega⟩
theorem runAt_good {l : List Int} {k d : Nat} {rs rs0 : List Nat} (h : RunsAt l (k + 1) rs0) (e : rs.getD d 0 = rs0.getD d 0) (h1 : 1 ≤ d) (h2 : d ≤ k) : ∀ j, j < runAt l k rs d → l.getD (k + j) 0 = l.getD (k + j - d) 0 := by
  intro j hj
  unfold runAt at hj
  split at hj
  · rename_i hq
    cases j with
    | zero => exact hq
    | succ j =>
      have := h d h1 (by omega) j (by rw [← e]; omega)
      rw [show k + (j + 1) = k + 1 + j by omega]
      exact this
  · omega
theorem dStep_inv {l : List Int} {k d : Nat} {rs : List Nat} {s : DSt} (hr : RunsAt l (k + 1) rs) (hs : s.Ok) (h : DInv l k rs d s) (h1 : 1 ≤ d) (h2 : d ≤ k) (h3 : d ≤ 1024) : DInv l k rs (d + 1) (dStep l k s d) := by
  have hg := runAt_good (rs := s.runs) hr (h.r2 d (Nat.le_refl _)) h1 h2
  have hlen : d < s.runs.length := by rw [hs.rl]; omega
  refine ⟨fun e he1 he2 j hj => ?_, fun e he => ?_, fun m hm => ?_⟩
  · have hj' : j < (s.runs.set d (runAt l k s.runs d)).getD e 0 := hj
    rw [getD_set] at hj'
    split at hj'
    · rename_i hq
      obtain ⟨rfl, _⟩ := hq
      exact hg j hj'
    · rename_i hq
      exact h.r1 e he1 (by
        have : ¬ d = e := fun hh => hq ⟨hh, hlen⟩
        omega) j hj'
  · show (s.runs.set d (runAt l k s.runs d)).getD e 0 = _
    rw [getD_set, if_neg (by omega)]
    exact h.r2 e (by omega)
  · have hm' : (fillD (runAt l k s.runs d - s.longest) s.dists s.longest d).getD m 0 ≠ 0 := hm
    show (fillD (runAt l k s.runs d - s.longest) s.dists s.longest d).getD m 0 < d + 1 ∧ m ≤ (s.runs.set d (runAt l k s.runs d)).getD ((fillD (runAt l k s.runs d - s.longest) s.dists s.longest d).getD m 0) 0
    rcases fillD_get (runAt l k s.runs d - s.longest) s.dists s.longest d m with e | ⟨e, e1, e2⟩
    · rw [e] at hm' ⊢
      obtain ⟨q1, q2⟩ := h.dd m hm'
      refine ⟨by omega, ?_⟩
      rw [getD_set, if_neg (by omega)]
      exact q2
    · rw [e]
      refine ⟨by omega, ?_⟩
      rw [getD_set, if_pos ⟨rfl, hlen⟩]
      omega
theorem dGo_inv {l : List Int} {k : Nat} {rs : List Nat} (hr : RunsAt l (k + 1) rs) : ∀ f d s, s.Ok → DInv l k rs d s → 1 ≤ d → d + f ≤ k + 1 → d + f ≤ 1025 → DInv l k rs (d + f) (dGo l k f d s)
  | 0, _, _, _, h, _, _, _ => h
  | f + 1, d, s, ho, h, h1, h2, h3 => by
    have := dGo_inv hr f (d + 1) _ (dStep_ok (l := l) (at_ := k) ho (by omega)) (dStep_inv hr ho h h1 (by omega) (by omega)) (by omega) (by omega) (by omega)
    rw [show d + (f + 1) = d + 1 + f by omega]
    exact this
theorem distF_inv {l : List Int} {k : Nat} {rs : List Nat} (hr : RunsAt l (k + 1) rs) (ho : RunsOk rs) : DInv l k rs (1 + min k 1024) (distF l k rs) := by
  refine dGo_inv hr _ _ _ (dStart_ok ho) ⟨fun e h1 h2 => by omega, fun e _ => rfl, fun m hm => ?_⟩ (by omega) (by omega) (by omega)
  exfalso
  apply hm
  show (List.replicate 65 0).getD m 0 = 0
  rw [List.getD_eq_getElem?_getD, List.getElem?_replicate]
  split <;> rfl
theorem getD_far {l : List Nat} {i : Nat} (h : l.length ≤ i) : l.getD i 0 = 0 := by
  rw [List.getD_eq_getElem?_getD, List.getElem?_eq_none h]; rfl
theorem distF_runs {l : List Int} {k : Nat} {rs : List Nat} (hr : RunsAt l (k + 1) rs) (ho : RunsOk rs) : RunsAt l k (distF l k rs).runs := by
  intro d h1 h2 j hj
  have hi := distF_inv hr ho
  by_cases h3 : d ≤ 1024
  · exact hi.r1 d h1 (by omega) j hj
  · rw [getD_far (by rw [(distF_ok ho).rl]; omega)] at hj
    omega
theorem tokAt_set {F : List Tok} {i j : Nat} {t : Tok} : tokAt (F.set i t) j = if i = j ∧ i < F.length then t else tokAt F j := by
  unfold tokAt
  rw [List.getD_eq_getElem?_getD, List.getD_eq_getElem?_getD, List.getElem?_set]
  by_cases h : i = j
  · subst h
    by_cases h2 : i < F.length
    · simp [h2]
    · simp [h2]
  · simp [h]
/-- All tokens from index k on tell the samples. -/
def FirstAt (l : List Int) (k : Nat) (F : List Tok) : Prop := F.length = l.length ∧ ∀ i, k ≤ i → i < l.length → TokAt l i (tokAt F i)
theorem lOne_first {l : List Int} {cp k n : Nat} {D : List Nat} {p : List Nat × List Tok} (hD : D.getD n 0 ≠ 0 → 3 ≤ n → TokAt l k ⟨n, D.getD n 0, 0⟩) (h : FirstAt l k p.2) : FirstAt l k (lOne cp k D n p).2 := by
  unfold lOne
  split
  · exact h
  · rename_i hq
    split
    · refine ⟨by rw [List.length_set]; exact h.1, fun i h1 h2 => ?_⟩
      rw [tokAt_set]
      split
      · rename_i he
        obtain ⟨rfl, _⟩ := he
        exact hD (by omega) (by omega)
      · exact h.2 i h1 h2
    · exact h
theorem lPick_first {l : List Int} {cp k : Nat} {D : List Nat} (hD : ∀ n, D.getD n 0 ≠ 0 → 3 ≤ n → TokAt l k ⟨n, D.getD n 0, 0⟩) : ∀ f m p, FirstAt l k p.2 → FirstAt l k (lPick cp k D f m p).2
  | 0, _, _, h => h
  | f + 1, m, p, h => lPick_first hD f (m + 1) _ (lOne_first (hD m) h)
theorem lStep_at {l : List Int} {lit cp k : Nat} {s : LSt} (ho : s.Ok l.length lit (k + 1)) (hk : k < l.length) (hr : RunsAt l (k + 1) s.runs) (hf : FirstAt l (k + 1) s.first) : RunsAt l k (lStep l lit cp k s).runs ∧ FirstAt l k (lStep l lit cp k s).first := by
  have hro : RunsOk s.runs := ⟨ho.rl, fun x hx => (ho.rb x hx).1⟩
  have hin := distF_in (l := l) (at_ := k) (rs := s.runs) (B := l.length - (k + 1)) (fun x hx => (ho.rb x hx).2)
  have hiv := distF_inv hr hro
  refine ⟨distF_runs hr hro, lPick_first (fun n hn h3 => ?_) 65 0 _ ?_⟩
  · obtain ⟨h1, h2⟩ := hiv.dd n hn
    have h4 := hin.db n hn
    have h5 := hin.lb
    refine .inr ⟨by simp only; omega, by simp only; omega, by simp only; omega, by simp only; omega, fun j hj => ?_⟩
    exact hiv.r1 _ (by omega) h1 j (by simp only at hj; omega)
  · refine ⟨by show (s.first.set k _).length = _; rw [List.length_set]; exact hf.1, fun i h1 h2 => ?_⟩
    show TokAt l i (tokAt (s.first.set k _) i)
    rw [tokAt_set]
    split
    · rename_i he
      obtain ⟨rfl, _⟩ := he
      exact .inl ⟨rfl, rfl, rfl⟩
    · rename_i he
      exact hf.2 i (by
        have : ¬ k = i := fun hh => he ⟨hh, by rw [hf.1]; exact hk⟩
        omega) h2
theorem lGo_at {l : List Int} {lit cp : Nat} : ∀ k s, s.Ok l.length lit k → k ≤ l.length → RunsAt l k s.runs → FirstAt l k s.first → FirstAt l 0 (lGo l lit cp k s).first
  | 0, _, _, _, _, h => h
  | k + 1, s, ho, hk, hr, hf => by
    obtain ⟨h1, h2⟩ := lStep_at (cp := cp) ho (by omega) hr hf
    exact lGo_at k _ (lStep_ok ho (by omega)) (by omega) h1 h2
theorem leastSt_at (l : List Int) (lit cp : Nat) : FirstAt l 0 (leastSt l lit cp).first := by
  refine lGo_at _ _ (lStart_ok _ _) (Nat.le_refl _) (fun d _ _ j hj => ?_) ⟨List.length_replicate, fun i h1 h2 => by omega⟩
  exfalso
  have : (List.replicate 1025 0).getD d 0 = 0 := by
    rw [List.getD_eq_getElem?_getD, List.getElem?_replicate]
    split <;> rfl
  have hj' : j < (List.replicate 1025 0).getD d 0 := hj
  omega
/-- A chain of tokens that tells the samples from index i to the end. -/
def ToksFrom (l : List Int) : Nat → List Tok → Prop
  | i, [] => l.length ≤ i
  | i, t :: T => i < l.length ∧ TokAt l i t ∧ ToksFrom l (i + max t.len 1) T
theorem tokGo_from {l : List Int} {F : List Tok} (h : FirstAt l 0 F) : ∀ f i, l.length ≤ i + f → ToksFrom l i (tokGo F l.length f i)
  | 0, i, hi => by simpa [tokGo, ToksFrom] using hi
  | f + 1, i, hi => by
    unfold tokGo
    split
    · rename_i hl
      exact ⟨hl, h.2 i (Nat.zero_le _) hl, tokGo_from h f _ (by omega)⟩
    · show l.length ≤ i
      omega
theorem leastF_from (l : List Int) (lit cp : Nat) : ToksFrom l 0 (leastF l lit cp) := tokGo_from (leastSt_at l lit cp) _ _ (by omega)
end Go.Proofs.YtpkplhmdnjdmoaaGreatDoor

/- What a writer packed lies ahead of a reader. Plain Lean, no program. -/
namespace Go.Proofs.YtpkplhmdnjdmoaaGreatDoor

theorem packed_dig {bs : List Nat} (h : ∀ b ∈ bs, b < 2) : ∀ d ∈ packed bs, d < 256 := by
  intro d hd
  obtain ⟨i, _, rfl⟩ := List.mem_map.1 hd
  exact byteAt_lt h i
theorem bt_lt {bs : List Nat} (h : ∀ b ∈ bs, b < 2) (k : Nat) : bt bs k < 2 := by
  unfold bt
  rw [List.getD_eq_getElem?_getD]
  cases hx : bs[k]? with
  | none => simp
  | some x => exact h x (List.mem_of_getElem? hx)
theorem bitAt_packed {bs : List Nat} (h : ∀ b ∈ bs, b < 2) {i : Nat} (hi : i < bs.length) : bitAt (packed bs) i = bt bs i := by
  have hq : i / 8 < (bs.length + 7) / 8 := by omega
  have e : (packed bs).getD (i / 8) 0 = byteAt bs (i / 8) := by
    rw [List.getD_eq_getElem?_getD]
    unfold packed
    rw [List.getElem?_map, List.getElem?_range hq]
    rfl
  unfold bitAt
  rw [e]
  obtain ⟨q, hqe⟩ : ∃ q, q = i / 8 := ⟨_, rfl⟩
  obtain ⟨r, hre⟩ : ∃ r, r = i % 8 := ⟨_, rfl⟩
  have hie : i = 8 * q + r := by omega
  have hr8 : r < 8 := by omega
  rw [← hqe, ← hre, hie]
  have b0 := bt_lt h (8 * q)
  have b1 := bt_lt h (8 * q + 1)
  have b2 := bt_lt h (8 * q + 2)
  have b3 := bt_lt h (8 * q + 3)
  have b4 := bt_lt h (8 * q + 4)
  have b5 := bt_lt h (8 * q + 5)
  have b6 := bt_lt h (8 * q + 6)
  have b7 := bt_lt h (8 * q + 7)
  unfold byteAt
  clear hqe hre hie hq e hi
  obtain rfl | rfl | rfl | rfl | rfl | rfl | rfl | rfl : r = 0 ∨ r = 1 ∨ r = 2 ∨ r = 3 ∨ r = 4 ∨ r = 5 ∨ r = 6 ∨ r = 7 := by omega
  all_goals
    simp only [Nat.add_zero, Nat.sub_zero, Nat.sub_self, Nat.reduceSub, Nat.reducePow]
    omega
theorem allBits_packed {bs : List Nat} (h : ∀ b ∈ bs, b < 2) : ∃ rest, allBits (packed bs) = bs ++ rest := by
  refine ⟨(allBits (packed bs)).drop bs.length, ?_⟩
  have hlen : bs.length ≤ (allBits (packed bs)).length := by rw [allBits_len, packed_len]; omega
  have e : (allBits (packed bs)).take bs.length = bs := by
    apply List.ext_getElem?
    intro i
    rcases Nat.lt_or_ge i bs.length with hi | hi
    · rw [List.getElem?_take, if_pos hi, allBits_get (by rw [packed_len]; omega), bitAt_packed h hi]
      unfold bt
      rw [List.getD_eq_getElem?_getD, List.getElem?_eq_getElem hi]
      rfl
    · rw [List.getElem?_take, if_neg (by omega), List.getElem?_eq_none hi]
  have e2 := List.take_append_drop bs.length (allBits (packed bs))
  rw [e] at e2
  exact e2.symm
theorem ahead_packed {A B C : List Nat} (h : ∀ b ∈ A ++ B ++ C, b < 2) : Ahead (packed (A ++ B ++ C)) A.length B := by
  obtain ⟨rest, hr⟩ := allBits_packed h
  refine ⟨C ++ rest, ?_⟩
  rw [hr, List.append_assoc, List.append_assoc, List.drop_left]
theorem ahead_whole {B : List Nat} (h : ∀ b ∈ B, b < 2) : Ahead (packed B) 0 B := by
  have := ahead_packed (A := []) (B := B) (C := []) (by simpa using h)
  simpa using this
end Go.Proofs.YtpkplhmdnjdmoaaGreatDoor
