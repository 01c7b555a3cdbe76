/- Put of package match in plain Lean. No program. -/
import Derived.Test.YtpkplhmdnjdmoaaGreatDoorMg21
import Derived.Test.YtpkplhmdnjdmoaaGreatDoorMg19
import Derived.Test.YtpkplhmdnjdmoaaGreatDoorMg20
set_option linter.unusedVariables false
set_option linter.unusedSimpArgs false
namespace Go.Proofs.YtpkplhmdnjdmoaaGreatDoor

def lenOf (t : Tok) : Int := unfoldI (t.len - 3)
def codeOf (W : Nat) (t : Tok) : Int := unfoldI (codeN t.dist W - 1)
def copyLens (T : List Tok) : List Int := T.flatMap fun t => if t.isLit then [] else [lenOf t]
def copyCodes (W : Nat) (T : List Tok) : List Int := T.flatMap fun t => if t.isLit then [] else [codeOf W t]
def tokBits (k j W d : Nat) (t : Tok) : List Nat := if t.isLit then bitsOf 0 1 ++ bitsOf t.lit.toNat d else bitsOf 1 1 ++ rbits k (lenOf t) ++ rbits j (codeOf W t)
/-- The bits of tokens. -/
def matchBits (T : List Tok) (W d : Nat) : List Nat :=
  bitsOf (rbest (copyLens T)) 5 ++ bitsOf (rbest (copyCodes W T)) 5 ++ T.flatMap (tokBits (rbest (copyLens T)) (rbest (copyCodes W T)) W d)
def TokOk (d : Nat) (t : Tok) : Prop := (t.isLit = true ∧ 0 ≤ t.lit ∧ t.lit < 2 ^ d) ∨ (t.isLit = false ∧ t.isCopy = true)
theorem TokOk.ok {d : Nat} {t : Tok} (h : TokOk d t) : t.ok := by
  rcases h with h | h
  · exact .inl h.1
  · exact .inr h.2
theorem unfoldI_wide {u : Nat} (h : u ≤ 1073741823) : wideP (unfoldI u) := by
  unfold wideP unfoldI
  split <;> omega
theorem lenOf_wide {t : Tok} (h : t.isCopy = true) : wideP (lenOf t) := by
  have := Tok.isCopy_iff.1 h
  exact unfoldI_wide (by omega)
theorem codeOf_wide {t : Tok} (W : Nat) (h : t.isCopy = true) : wideP (codeOf W t) := by
  have h1 := Tok.isCopy_iff.1 h
  have h2 := (codeN_ok (d := t.dist) (W := W) (by omega)).1
  exact unfoldI_wide (by omega)
theorem copyLens_wide {d : Nat} {T : List Tok} (h : ∀ t ∈ T, TokOk d t) : ∀ x ∈ copyLens T, wideP x := fun x hx => by
  obtain ⟨t, ht, hxt⟩ := List.mem_flatMap.1 hx
  rcases h t ht with h1 | h1
  · rw [if_pos h1.1] at hxt; simp at hxt
  · rw [if_neg (by simp [h1.1])] at hxt
    rw [List.mem_singleton.1 hxt]
    exact lenOf_wide h1.2
theorem copyCodes_wide {d W : Nat} {T : List Tok} (h : ∀ t ∈ T, TokOk d t) : ∀ x ∈ copyCodes W T, wideP x := fun x hx => by
  obtain ⟨t, ht, hxt⟩ := List.mem_flatMap.1 hx
  rcases h t ht with h1 | h1
  · rw [if_pos h1.1] at hxt; simp at hxt
  · rw [if_neg (by simp [h1.1])] at hxt
    rw [List.mem_singleton.1 hxt]
    exact codeOf_wide W h1.2
theorem copyLens_len (T : List Tok) : (copyLens T).length ≤ T.length := by
  induction T with
  | nil => exact Nat.le_refl _
  | cons t T ih =>
    have e : copyLens (t :: T) = (if t.isLit then [] else [lenOf t]) ++ copyLens T := rfl
    rw [e, List.length_append]
    split <;> simp <;> omega
theorem copyCodes_len (W : Nat) (T : List Tok) : (copyCodes W T).length = (copyLens T).length := by
  induction T with
  | nil => rfl
  | cons t T ih =>
    have e : copyLens (t :: T) = (if t.isLit then [] else [lenOf t]) ++ copyLens T := rfl
    have e2 : copyCodes W (t :: T) = (if t.isLit then [] else [codeOf W t]) ++ copyCodes W T := rfl
    rw [e, e2, List.length_append, List.length_append, ih]
    split <;> rfl
theorem copyLens_snoc (T : List Tok) (t : Tok) : copyLens (T ++ [t]) = copyLens T ++ (if t.isLit then [] else [lenOf t]) := by simp [copyLens]
theorem copyCodes_snoc (W : Nat) (T : List Tok) (t : Tok) : copyCodes W (T ++ [t]) = copyCodes W T ++ (if t.isLit then [] else [codeOf W t]) := by simp [copyCodes]
/-- The number of a copy among the copies. -/
theorem copyLens_at (T : List Tok) {i : Nat} {t : Tok} (h : T[i]? = some t) (hl : t.isLit = false) :
    (copyLens T)[(copyLens (T.take i)).length]? = some (lenOf t) := by
  have hi : i < T.length := (List.getElem?_eq_some_iff.1 h).1
  have e : T = T.take i ++ t :: T.drop (i + 1) := by
    have h2 := (List.getElem?_eq_some_iff.1 h).2
    rw [← h2, ← List.drop_eq_getElem_cons hi, List.take_append_drop]
  have e2 : copyLens T = copyLens (T.take i) ++ (lenOf t :: copyLens (T.drop (i + 1))) := by
    have e3 : ∀ a b : List Tok, copyLens (a ++ b) = copyLens a ++ copyLens b := fun a b => by simp [copyLens]
    have e4 : copyLens (t :: T.drop (i + 1)) = (if t.isLit then [] else [lenOf t]) ++ copyLens (T.drop (i + 1)) := rfl
    rw [hl] at e4
    rw [show copyLens T = copyLens (T.take i ++ t :: T.drop (i + 1)) from congrArg copyLens e, e3, e4]
    rfl
  rw [e2, List.getElem?_append_right (Nat.le_refl _), Nat.sub_self]
  rfl
theorem copyCodes_at (W : Nat) (T : List Tok) {i : Nat} {t : Tok} (h : T[i]? = some t) (hl : t.isLit = false) :
    (copyCodes W T)[(copyLens (T.take i)).length]? = some (codeOf W t) := by
  have hi : i < T.length := (List.getElem?_eq_some_iff.1 h).1
  have e : T = T.take i ++ t :: T.drop (i + 1) := by
    have h2 := (List.getElem?_eq_some_iff.1 h).2
    rw [← h2, ← List.drop_eq_getElem_cons hi, List.take_append_drop]
  have e2 : copyCodes W T = copyCodes W (T.take i) ++ (codeOf W t :: copyCodes W (T.drop (i + 1))) := by
    have e3 : ∀ a b : List Tok, copyCodes W (a ++ b) = copyCodes W a ++ copyCodes W b := fun a b => by simp [copyCodes]
    have e4 : copyCodes W (t :: T.drop (i + 1)) = (if t.isLit then [] else [codeOf W t]) ++ copyCodes W (T.drop (i + 1)) := rfl
    rw [hl] at e4
    rw [show copyCodes W T = copyCodes W (T.take i ++ t :: T.drop (i + 1)) from congrArg (copyCodes W) e, e3, e4]
    rfl
  rw [e2, ← copyCodes_len W, List.getElem?_append_right (Nat.le_refl _), Nat.sub_self]
  rfl
theorem tokBits_len {k j W d : Nat} (hk : k ≤ 25) (hj : j ≤ 25) (hd : d ≤ 16) (t : Tok) : (tokBits k j W d t).length ≤ 131 := by
  unfold tokBits
  have h1 := rcost_le k (lenOf t) hk
  have h2 := rcost_le j (codeOf W t) hj
  split
  · rw [List.length_append, bitsOf_len, bitsOf_len]; omega
  · rw [List.length_append, List.length_append, bitsOf_len, rbits_len, rbits_len]; omega
theorem flat_len_le {α : Type} (f : α → List Nat) (B : Nat) (h : ∀ a, (f a).length ≤ B) (l : List α) : (l.flatMap f).length ≤ B * l.length := by
  induction l with
  | nil => simp
  | cons a l ih =>
    rw [List.flatMap_cons, List.length_append, List.length_cons, Nat.mul_add, Nat.mul_one]
    have := h a
    omega
theorem matchBits_len (T : List Tok) (W d : Nat) (hd : d ≤ 16) : (matchBits T W d).length ≤ 10 + 131 * T.length := by
  unfold matchBits
  have h1 := flat_len_le (tokBits (rbest (copyLens T)) (rbest (copyCodes W T)) W d) 131 (fun t => tokBits_len (rbest_le _) (rbest_le _) hd t) T
  rw [List.length_append, List.length_append, bitsOf_len, bitsOf_len]
  omega
end Go.Proofs.YtpkplhmdnjdmoaaGreatDoor

/- package model by its contracts, the first part: abs, validDepth, isContext, Level, levels, Context, Class. -/
namespace Go.Proofs.YtpkplhmdnjdmoaaGreatDoor
set_option linter.unusedSimpArgs false
set_option linter.unusedVariables false
open Go.RowKit

theorem mvalid_yes (d : Nat) (w : World) (h0 : 1 ≤ d) (h1 : d ≤ 16) : Calls Tryz.prog 97 #[.int .i64 d] w fun e w' => e = .returned (.bool true) ∧ w = w' := by
  have t1 : decide ((1 : Int) ≤ (d : Int)) = true := decide_eq_true (by omega)
  have t2 : decide ((d : Int) ≤ 16) = true := decide_eq_true (by omega)
  go_enter Tryz.func97, Tryz.ntmps97
  go_wp2
  go_ret
  exact ⟨rfl, rfl⟩
theorem isCtx_yes (c : Nat) (w : World) (h1 : c < 365) : Calls Tryz.prog 100 #[.int .i64 c] w fun e w' => e = .returned (.bool true) ∧ w = w' := by
  have t1 : decide ((0 : Int) ≤ (c : Int)) = true := decide_eq_true (by omega)
  have t2 : decide ((c : Int) < 365) = true := decide_eq_true (by omega)
  go_enter Tryz.func100, Tryz.ntmps100
  go_wp2
  go_ret
  exact ⟨rfl, rfl⟩
theorem abs_ok (x : Int) (w : World) (h : midP x) : Calls Tryz.prog 101 #[.int .i64 x] w fun e w' => e = .returned (.int .i64 (absI x)) ∧ w = w' := by
  obtain ⟨h1, h2⟩ := h
  by_cases hx : x < 0
  · have t1 : decide (x < 0) = true := decide_eq_true hx
    have hd : absI x = -x := by unfold absI; rw [if_pos hx]
    have HD := hid hd
    clear hd
    go_enter Tryz.func101, Tryz.ntmps101
    go_wp2
    go_ret
    rw [HD.out]
    exact ⟨rfl, rfl⟩
  · have t1 : decide (x < 0) = false := decide_eq_false hx
    have hd : absI x = x := by unfold absI; rw [if_neg hx]
    have HD := hid hd
    clear hd
    go_enter Tryz.func101, Tryz.ntmps101
    go_wp2
    go_ret
    rw [HD.out]
    exact ⟨rfl, rfl⟩
set_option maxHeartbeats 2000000 in
theorem level_ok (g : Int) (d : Nat) (w : World) (h0 : 1 ≤ d) (h1 : d ≤ 16) (hg0 : -2 ^ d < g) (hg1 : g < 2 ^ d) : Calls Tryz.prog 161 #[.int .i64 g, .int .i64 d] w fun e w' => e = .returned (.int .i64 (levelI g d)) ∧ w = w' := by
  obtain ⟨hp0, hp1⟩ := pow_d h0 h1
  have t1 : decide (g ≤ (-2 ^ d : Int)) = false := decide_eq_false (by omega)
  have t2 : decide ((2 : Int) ^ d ≤ g) = false := decide_eq_false (by omega)
  have hv := mvalid_yes d w h0 h1
  by_cases hz : g = 0
  · have t3 : (g == 0) = true := by rw [beq_iff_eq]; exact hz
    have hd : levelI g d = 0 := by unfold levelI; rw [if_pos hz]
    have HD := hid hd
    clear hd hz
    go_enter Tryz.func161, Tryz.ntmps161
    go_wp2_with (go_at_call 97; refine hv.mono ?_; rintro e w' ⟨rfl, rfl⟩)
    go_ret
    rw [HD.out]
    exact ⟨rfl, rfl⟩
  · have t3 : (g == 0) = false := by rw [beq_eq_false_iff_ne]; exact hz
    have ha := abs_ok g w (by unfold midP; omega)
    have har : 0 ≤ absI g ∧ absI g ≤ 65536 := by unfold absI; split <;> omega
    have hd : levelI g d = if g < 0 then -steep (absI g * 256 / 2 ^ d) else steep (absI g * 256 / 2 ^ d) := by unfold levelI; rw [if_neg hz]
    obtain ⟨a, ha'⟩ : ∃ a, a = absI g := ⟨_, rfl⟩
    rw [← ha'] at ha har hd
    obtain ⟨ha0, ha1⟩ := har
    obtain ⟨u, hu⟩ : ∃ u, u = a * 256 / 2 ^ d := ⟨_, rfl⟩
    have hu0 : 0 ≤ u := by rw [hu]; exact Int.ediv_nonneg (by omega) (by omega)
    rw [← hu] at hd
    have huI : a * 256 / 2 ^ d = u := hu.symm
    have hul : u ≤ a * 256 := by rw [hu]; exact Int.ediv_le_self _ (by omega)
    obtain ⟨st, hst⟩ : ∃ st, st = steep u := ⟨_, rfl⟩
    have hsd : st = if u < 3 then 1 else if u < 7 then 2 else if u < 21 then 3 else 4 := by rw [hst]; rfl
    rw [← hst] at hd
    have HD := hid hd
    have HS := hid hsd
    clear hd hst hsd hu ha'
    have key : ∀ k : Int, st = k → -4 ≤ k → k ≤ 4 → Hid (levelI g d = if g < 0 then -k else k) := fun k hk _ _ => hid (by rw [HD.out, hk])
    have tn : ∀ (h : g < 0), decide (g < 0) = true := fun h => decide_eq_true h
    have tp : ∀ (h : ¬ g < 0), decide (g < 0) = false := fun h => decide_eq_false h
    have Htn := hid tn
    have Htp := hid tp
    have HKey := hid key
    clear tn tp key HD
    by_cases u3 : u < 3
    · have c1 : decide (u < 3) = true := decide_eq_true u3
      have hs := HS.out
      rw [if_pos u3] at hs
      have HK := HKey.out 1 hs (by omega) (by omega)
      clear hs
      by_cases hn : g < 0
      · have t4 := Htn.out hn
        rw [if_pos hn] at HK
        go_enter Tryz.func161, Tryz.ntmps161
        go_wp2_with (first | (go_at_call 97; refine hv.mono ?_; rintro e w' ⟨rfl, rfl⟩) | (go_at_call 101; refine ha.mono ?_; rintro e w' ⟨rfl, rfl⟩))
        go_ret
        rw [HK.out]
        exact ⟨rfl, rfl⟩
      · have t4 := Htp.out hn
        rw [if_neg hn] at HK
        go_enter Tryz.func161, Tryz.ntmps161
        go_wp2_with (first | (go_at_call 97; refine hv.mono ?_; rintro e w' ⟨rfl, rfl⟩) | (go_at_call 101; refine ha.mono ?_; rintro e w' ⟨rfl, rfl⟩))
        go_ret
        rw [HK.out]
        exact ⟨rfl, rfl⟩
    · have c1 : decide (u < 3) = false := decide_eq_false u3
      by_cases u7 : u < 7
      · have c2 : decide (u < 7) = true := decide_eq_true u7
        have hs := HS.out
        rw [if_neg u3, if_pos u7] at hs
        have HK := HKey.out 2 hs (by omega) (by omega)
        clear hs
        by_cases hn : g < 0
        · have t4 := Htn.out hn
          rw [if_pos hn] at HK
          go_enter Tryz.func161, Tryz.ntmps161
          go_wp2_with (first | (go_at_call 97; refine hv.mono ?_; rintro e w' ⟨rfl, rfl⟩) | (go_at_call 101; refine ha.mono ?_; rintro e w' ⟨rfl, rfl⟩))
          go_ret
          rw [HK.out]
          exact ⟨rfl, rfl⟩
        · have t4 := Htp.out hn
          rw [if_neg hn] at HK
          go_enter Tryz.func161, Tryz.ntmps161
          go_wp2_with (first | (go_at_call 97; refine hv.mono ?_; rintro e w' ⟨rfl, rfl⟩) | (go_at_call 101; refine ha.mono ?_; rintro e w' ⟨rfl, rfl⟩))
          go_ret
          rw [HK.out]
          exact ⟨rfl, rfl⟩
      · have c2 : decide (u < 7) = false := decide_eq_false u7
        by_cases u21 : u < 21
        · have c3 : decide (u < 21) = true := decide_eq_true u21
          have hs := HS.out
          rw [if_neg u3, if_neg u7, if_pos u21] at hs
          have HK := HKey.out 3 hs (by omega) (by omega)
          clear hs
          by_cases hn : g < 0
          · have t4 := Htn.out hn
            rw [if_pos hn] at HK
            go_enter Tryz.func161, Tryz.ntmps161
            go_wp2_with (first | (go_at_call 97; refine hv.mono ?_; rintro e w' ⟨rfl, rfl⟩) | (go_at_call 101; refine ha.mono ?_; rintro e w' ⟨rfl, rfl⟩))
            go_ret
            rw [HK.out]
            exact ⟨rfl, rfl⟩
          · have t4 := Htp.out hn
            rw [if_neg hn] at HK
            go_enter Tryz.func161, Tryz.ntmps161
            go_wp2_with (first | (go_at_call 97; refine hv.mono ?_; rintro e w' ⟨rfl, rfl⟩) | (go_at_call 101; refine ha.mono ?_; rintro e w' ⟨rfl, rfl⟩))
            go_ret
            rw [HK.out]
            exact ⟨rfl, rfl⟩
        · have c3 : decide (u < 21) = false := decide_eq_false u21
          have hs := HS.out
          rw [if_neg u3, if_neg u7, if_neg u21] at hs
          have HK := HKey.out 4 hs (by omega) (by omega)
          clear hs
          by_cases hn : g < 0
          · have t4 := Htn.out hn
            rw [if_pos hn] at HK
            go_enter Tryz.func161, Tryz.ntmps161
            go_wp2_with (first | (go_at_call 97; refine hv.mono ?_; rintro e w' ⟨rfl, rfl⟩) | (go_at_call 101; refine ha.mono ?_; rintro e w' ⟨rfl, rfl⟩))
            go_ret
            rw [HK.out]
            exact ⟨rfl, rfl⟩
          · have t4 := Htp.out hn
            rw [if_neg hn] at HK
            go_enter Tryz.func161, Tryz.ntmps161
            go_wp2_with (first | (go_at_call 97; refine hv.mono ?_; rintro e w' ⟨rfl, rfl⟩) | (go_at_call 101; refine ha.mono ?_; rintro e w' ⟨rfl, rfl⟩))
            go_ret
            rw [HK.out]
            exact ⟨rfl, rfl⟩
end Go.Proofs.YtpkplhmdnjdmoaaGreatDoor

/- package model by its contracts, the second part: levels, Context, Class. -/
namespace Go.Proofs.YtpkplhmdnjdmoaaGreatDoor
set_option linter.unusedSimpArgs false
set_option linter.unusedVariables false
open Go.RowKit

/-- A callee that leaves the world alone, in a region that only reads. -/
theorem quiet_eq {P : Program} {f : FuncId} {args : Array Value} {w : World} {n : Nat} {v : Value}
    (h : Calls P f args (w.drewN n) fun e w' => e = .returned v ∧ w.drewN n = w') : Calls P f args (w.drewN n) fun e w'' => e = .returned v ∧ ∃ m, w'' = w.drewN m :=
  h.mono fun _ _ ⟨he, hm⟩ => ⟨he, n, hm.symm⟩
set_option maxRecDepth 100000 in
set_option maxHeartbeats 2000000 in
theorem levels_ok (g : Nbr) (d : Nat) (w : World) (h0 : 1 ≤ d) (h1 : d ≤ 16) (hg : NbrOk d g) :
    Calls Tryz.prog 135 #[.int .i64 g.w, .int .i64 g.n, .int .i64 g.nw, .int .i64 g.ne, .int .i64 d] w fun e w' => e = .returned (.agg #[.int .i64 (levelI (g.ne - g.n) d), .int .i64 (levelI (g.n - g.nw) d), .int .i64 (levelI (g.nw - g.w) d)]) ∧ Chg [] w w' := by
  obtain ⟨hp0, hp1⟩ := pow_d h0 h1
  obtain ⟨a, b, c, e⟩ := g
  obtain ⟨⟨a1, a2⟩, ⟨b1, b2⟩, ⟨c1, c2⟩, ⟨e1, e2⟩⟩ := hg
  simp only at a1 a2 b1 b2 c1 c2 e1 e2 ⊢
  have hv := fun w => mvalid_yes d w h0 h1
  have u1 : decide (a < 0) = false := decide_eq_false (by omega)
  have u2 : decide ((2 : Int) ^ d ≤ a) = false := decide_eq_false (by omega)
  have u3 : decide (b < 0) = false := decide_eq_false (by omega)
  have u4 : decide ((2 : Int) ^ d ≤ b) = false := decide_eq_false (by omega)
  have u5 : decide (c < 0) = false := decide_eq_false (by omega)
  have u6 : decide ((2 : Int) ^ d ≤ c) = false := decide_eq_false (by omega)
  have u7 : decide (e < 0) = false := decide_eq_false (by omega)
  have u8 : decide ((2 : Int) ^ d ≤ e) = false := decide_eq_false (by omega)
  have i0 : ∀ w, (Instr.index 25 (.agg #[.int .i64 a, .int .i64 b, .int .i64 c, .int .i64 e]) (.int .i64 0)).run Tryz.prog w = .ok (.int .i64 a) w := fun _ => by kernel_rfl
  have i1 : ∀ w, (Instr.index 25 (.agg #[.int .i64 a, .int .i64 b, .int .i64 c, .int .i64 e]) (.int .i64 1)).run Tryz.prog w = .ok (.int .i64 b) w := fun _ => by kernel_rfl
  have i2 : ∀ w, (Instr.index 25 (.agg #[.int .i64 a, .int .i64 b, .int .i64 c, .int .i64 e]) (.int .i64 2)).run Tryz.prog w = .ok (.int .i64 c) w := fun _ => by kernel_rfl
  have i3 : ∀ w, (Instr.index 25 (.agg #[.int .i64 a, .int .i64 b, .int .i64 c, .int .i64 e]) (.int .i64 3)).run Tryz.prog w = .ok (.int .i64 e) w := fun _ => by kernel_rfl
  go_enter Tryz.func135, Tryz.ntmps135
  go_wp2_with (go_at_call 97; refine (hv _).mono ?_; rintro e w' ⟨rfl, rfl⟩)
  have hbr := Blk.new w 69 #[.int .i64 0, .int .i64 0, .int .i64 0]
  have ch0 : Chg [] w (w.alloc (.cells #[.int .i64 0, .int .i64 0, .int .i64 0] 69)) := (Chg.refl [] w).alloc _
  obtain ⟨B, hB⟩ : ∃ B, B = w.heap.size := ⟨_, rfl⟩
  rw [← hB] at hbr ⊢
  generalize w.alloc (.cells #[.int .i64 0, .int .i64 0, .int .i64 0] 69) = w0 at *
  have HB := hid hB
  clear hB
  go_loopg [22] 4 (fun j iv wr => w0 = wr ∧ ((j = 4 ∧ iv = .int .i64 0) ∨ (j = 3 ∧ iv = .int .i64 1) ∨ (j = 2 ∧ iv = .int .i64 2) ∨ (j = 1 ∧ iv = .int .i64 3) ∨ (j = 0 ∧ iv = .int .i64 4)))
  case atStart => exact ⟨rfl, .inl ⟨rfl, rfl⟩⟩
  case round =>
    obtain ⟨rfl, hrel⟩ := hrel
    rcases hrel with ⟨rfl, rfl⟩ | ⟨rfl, rfl⟩ | ⟨rfl, rfl⟩ | ⟨rfl, rfl⟩ | ⟨rfl, rfl⟩
    · go_wp2
      go_roundg 3
      case measure => omega
      case rel => exact ⟨rfl, .inr (.inl ⟨rfl, rfl⟩)⟩
    · go_wp2
      go_roundg 2
      case measure => omega
      case rel => exact ⟨rfl, .inr (.inr (.inl ⟨rfl, rfl⟩))⟩
    · go_wp2
      go_roundg 1
      case measure => omega
      case rel => exact ⟨rfl, .inr (.inr (.inr (.inl ⟨rfl, rfl⟩)))⟩
    · go_wp2
      go_roundg 0
      case measure => omega
      case rel => exact ⟨rfl, .inr (.inr (.inr (.inr ⟨rfl, rfl⟩)))⟩
    · clear i0 i1 i2 i3 u1 u2 u3 u4 u5 u6 u7 u8
      have l0 := level_ok (e - b) d w0 h0 h1 (by omega) (by omega)
      have l1 := level_ok (b - c) d w0 h0 h1 (by omega) (by omega)
      have l2 := level_ok (c - a) d w0 h0 h1 (by omega) (by omega)
      obtain ⟨x0, hx0⟩ : ∃ x, x = levelI (e - b) d := ⟨_, rfl⟩
      obtain ⟨x1, hx1⟩ : ∃ x, x = levelI (b - c) d := ⟨_, rfl⟩
      obtain ⟨x2, hx2⟩ : ∃ x, x = levelI (c - a) d := ⟨_, rfl⟩
      rw [← hx0] at l0
      rw [← hx1] at l1
      rw [← hx2] at l2
      have HX0 := hid hx0
      have HX1 := hid hx1
      have HX2 := hid hx2
      clear hx0 hx1 hx2
      have q0 := hbr.cell 0
      have q1 := hbr.cell 1
      have q2 := hbr.cell 2
      have f0 := hbr.frozen 0
      have f1 := hbr.frozen 1
      have f2 := hbr.frozen 2
      simp at q0 q1 q2
      go_wp2_with fail
      refine l0.mono ?_
      rintro e w' ⟨rfl, rfl⟩
      go_wp2_with fail
      refine l1.mono ?_
      rintro e w' ⟨rfl, rfl⟩
      go_wp2_with fail
      refine l2.mono ?_
      rintro e w' ⟨rfl, rfl⟩
      go_wp2_with fail
      have hF := ((hbr.set_ 0 (.int .i64 x0)).set_ 1 (.int .i64 x1)).set_ 2 (.int .i64 x2)
      have chF : Chg [] w (((w0.setCell ⟨B, 0, none⟩ (.int .i64 x0)).setCell ⟨B, 1, none⟩ (.int .i64 x1)).setCell ⟨B, 2, none⟩ (.int .i64 x2)) := ((ch0.setCell (.inr (by have := HB.out; simp; omega)) _).setCell (.inr (by have := HB.out; simp; omega)) _).setCell (.inr (by have := HB.out; simp; omega)) _
      generalize ((w0.setCell ⟨B, 0, none⟩ (.int .i64 x0)).setCell ⟨B, 1, none⟩ (.int .i64 x1)).setCell ⟨B, 2, none⟩ (.int .i64 x2) = wF at *
      have g0 := hF.cell 0
      have g1 := hF.cell 1
      have g2 := hF.cell 2
      simp at g0 g1 g2
      exact bodyPost_ret (v := .agg #[.int .i64 x0, .int .i64 x1, .int .i64 x2]) (by simp [results, Tryz.results135, go_sem, g0, g1, g2]) rfl ⟨by rw [HX0.out, HX1.out, HX2.out], chF⟩

set_option maxRecDepth 100000 in
set_option maxHeartbeats 1000000 in
theorem context_ok (g : Nbr) (d : Nat) (w : World) (h0 : 1 ≤ d) (h1 : d ≤ 16) (hg : NbrOk d g) :
    Calls Tryz.prog 98 #[.int .i64 g.w, .int .i64 g.n, .int .i64 g.nw, .int .i64 g.ne, .int .i64 d] w fun e w' => e = .returned (.tuple #[.int .i64 (ctxN g d), .bool (turnB g d)]) ∧ Chg [] w w' := by
  have hl := levels_ok g d w h0 h1 hg
  have r0 := levelI_ok (g.ne - g.n) d
  have r1 := levelI_ok (g.n - g.nw) d
  have r2 := levelI_ok (g.nw - g.w) d
  have hc : ctxI g d = 81 * levelI (g.ne - g.n) d + 9 * levelI (g.n - g.nw) d + levelI (g.nw - g.w) d := rfl
  have ht : turnB g d = decide (ctxI g d < 0) := rfl
  have hn : ((ctxN g d : Nat) : Int) = absI (ctxI g d) := by
    unfold ctxN
    exact Int.toNat_of_nonneg (by unfold absI; split <;> omega)
  obtain ⟨x0, hx0⟩ : ∃ x, x = levelI (g.ne - g.n) d := ⟨_, rfl⟩
  obtain ⟨x1, hx1⟩ : ∃ x, x = levelI (g.n - g.nw) d := ⟨_, rfl⟩
  obtain ⟨x2, hx2⟩ : ∃ x, x = levelI (g.nw - g.w) d := ⟨_, rfl⟩
  rw [← hx0, ← hx1, ← hx2] at hl hc
  rw [← hx0] at r0
  rw [← hx1] at r1
  rw [← hx2] at r2
  obtain ⟨n, hnn⟩ : ∃ n, n = ctxI g d := ⟨_, rfl⟩
  rw [← hnn] at ht hn hc
  obtain ⟨r00, r01⟩ := r0
  obtain ⟨r10, r11⟩ := r1
  obtain ⟨r20, r21⟩ := r2
  have hab := fun w => abs_ok n w (by unfold midP; omega)
  have HT := hid ht
  have HN := hid hn
  have hc' : 81 * x0 + 9 * x1 + x2 = n := hc.symm
  clear ht hn hx0 hx1 hx2 hnn hc
  go_enter Tryz.func98, Tryz.ntmps98
  go_wp2_with fail
  refine hl.mono ?_
  rintro e w1 ⟨rfl, ch1⟩
  go_wp2_with (go_at_call 101; refine (hab _).mono ?_; rintro e w' ⟨rfl, rfl⟩)
  go_ret2
  rw [HT.out, HN.out]
  exact ⟨rfl, ch1.alloc _⟩
set_option maxRecDepth 100000 in
set_option maxHeartbeats 1000000 in
theorem class_ok (g : Nbr) (d : Nat) (w : World) (h0 : 1 ≤ d) (h1 : d ≤ 16) (hg : NbrOk d g) :
    Calls Tryz.prog 138 #[.int .i64 g.w, .int .i64 g.n, .int .i64 g.nw, .int .i64 g.ne, .int .i64 d] w fun e w' => e = .returned (.int .i64 (classI g d)) ∧ Chg [] w w' := by
  have hl := levels_ok g d w h0 h1 hg
  have r0 := levelI_ok (g.ne - g.n) d
  have r1 := levelI_ok (g.n - g.nw) d
  have r2 := levelI_ok (g.nw - g.w) d
  have hc : classI g d = absI (levelI (g.ne - g.n) d) + absI (levelI (g.n - g.nw) d) + absI (levelI (g.nw - g.w) d) := rfl
  obtain ⟨x0, hx0⟩ : ∃ x, x = levelI (g.ne - g.n) d := ⟨_, rfl⟩
  obtain ⟨x1, hx1⟩ : ∃ x, x = levelI (g.n - g.nw) d := ⟨_, rfl⟩
  obtain ⟨x2, hx2⟩ : ∃ x, x = levelI (g.nw - g.w) d := ⟨_, rfl⟩
  rw [← hx0, ← hx1, ← hx2] at hl hc
  rw [← hx0] at r0
  rw [← hx1] at r1
  rw [← hx2] at r2
  have ab : ∀ x : Int, -4 ≤ x ∧ x ≤ 4 → 0 ≤ absI x ∧ absI x ≤ 4 := fun x hx => by unfold absI; split <;> omega
  have b0 := ab x0 r0
  have b1 := ab x1 r1
  have b2 := ab x2 r2
  have a0 := fun w => abs_ok x0 w (by unfold midP; omega)
  have a1 := fun w => abs_ok x1 w (by unfold midP; omega)
  have a2 := fun w => abs_ok x2 w (by unfold midP; omega)
  generalize absI x0 = y0 at *
  generalize absI x1 = y1 at *
  generalize absI x2 = y2 at *
  obtain ⟨b00, b01⟩ := b0
  obtain ⟨b10, b11⟩ := b1
  obtain ⟨b20, b21⟩ := b2
  have HC := hid hc
  clear hx0 hx1 hx2 hc ab r0 r1 r2
  go_enter Tryz.func138, Tryz.ntmps138
  go_wp2_with fail
  refine hl.mono ?_
  rintro e w1 ⟨rfl, ch1⟩
  go_wp2_with fail
  go_quiet ((first | (go_at_call 101; with_reducible exact quiet_eq (a0 _)) | (go_at_call 101; with_reducible exact quiet_eq (a1 _)) | (go_at_call 101; with_reducible exact quiet_eq (a2 _))))
  go_wp2
  go_ret
  rw [HC.out]
  exact ⟨rfl, (ch1.alloc _).drewN _⟩
end Go.Proofs.YtpkplhmdnjdmoaaGreatDoor

/- package model by its contracts, the third part: a Model in memory; New, Guess, K. -/
namespace Go.Proofs.YtpkplhmdnjdmoaaGreatDoor
set_option linter.unusedSimpArgs false
set_option linter.unusedVariables false
open Go.RowKit

/-- Cells, the first one a depth. -/
def mdZero (z : Array Value) (v : Int) : Array Value := z.setIfInBounds 0 (.int .i64 v)
theorem md_zeros : Tryz.zeroCells125 = (List.replicate 1461 (Value.int .i64 0)).toArray := by kernel_rfl
theorem md_zsize : (Tryz.zeroCells125).size = 1461 := by rw [md_zeros, List.size_toArray, List.length_replicate]
theorem mdZero_size {z : Array Value} (hz : z.size = 1461) (v : Int) : (mdZero z v).size = 1461 := by
  unfold mdZero
  rw [Array.size_setIfInBounds, hz]
theorem mdZero_get0 {z : Array Value} (hz : z.size = 1461) (v : Int) : (mdZero z v)[0]? = some (.int .i64 v) := by
  unfold mdZero
  rw [Array.getElem?_setIfInBounds, if_pos rfl, if_pos (by omega)]
theorem mdZero_get {z : Array Value} (hz : z = (List.replicate 1461 (Value.int .i64 0)).toArray) (v : Int) (i : Nat) (h0 : 0 < i) (h1 : i < 1461) : (mdZero z v)[i]? = some (.int .i64 0) := by
  unfold mdZero
  rw [Array.getElem?_setIfInBounds, if_neg (by omega), hz, List.getElem?_toArray, List.getElem?_replicate, if_pos h1]
/-- The cells of a Model. -/
structure MdRep (cs : Array Value) (d : Nat) (m : List Stat) : Prop where
  size : cs.size = 1461
  len : m.length = 365
  depth : cs[0]? = some (.int .i64 (d : Int))
  n : ∀ i s, m[i]? = some s → cs[1 + i * 4]? = some (.int .i64 s.n)
  a : ∀ i s, m[i]? = some s → cs[1 + i * 4 + 1]? = some (.int .i64 s.a)
  b : ∀ i s, m[i]? = some s → cs[1 + i * 4 + 2]? = some (.int .i64 s.b)
  c : ∀ i s, m[i]? = some s → cs[1 + i * 4 + 3]? = some (.int .i64 s.c)
/-- One context's numbers are stored. -/
theorem MdRep.set4 {cs : Array Value} {d : Nat} {m : List Stat} (h : MdRep cs d m) {i : Nat} (hi : i < 365) (s : Stat) :
    MdRep ((((cs.setIfInBounds (1 + i * 4) (.int .i64 s.n)).setIfInBounds (1 + i * 4 + 1) (.int .i64 s.a)).setIfInBounds (1 + i * 4 + 2) (.int .i64 s.b)).setIfInBounds (1 + i * 4 + 3) (.int .i64 s.c)) d (m.set i s) := by
  have hs := h.size
  have hl := h.len
  refine ⟨by simp [hs], by simp [hl], ?_, ?_, ?_, ?_, ?_⟩
  · simp only [Array.getElem?_setIfInBounds]
    rw [if_neg (by omega), if_neg (by omega), if_neg (by omega), if_neg (by omega)]
    exact h.depth
  all_goals
    intro j t hj
    rw [List.getElem?_set] at hj
    simp only [Array.getElem?_setIfInBounds, Array.size_setIfInBounds, hs]
    by_cases hij : i = j
    · subst hij
      rw [if_pos rfl, if_pos (by omega)] at hj
      injection hj with hj
      subst hj
      first
        | (rw [if_pos (by omega), if_pos (by omega)])
        | (rw [if_neg (by omega), if_pos (by omega), if_pos (by omega)])
        | (rw [if_neg (by omega), if_neg (by omega), if_pos (by omega), if_pos (by omega)])
        | (rw [if_neg (by omega), if_neg (by omega), if_neg (by omega), if_pos (by omega), if_pos (by omega)])
    · rw [if_neg hij] at hj
      rw [if_neg (by omega), if_neg (by omega), if_neg (by omega), if_neg (by omega)]
      first | exact h.n j t hj | exact h.a j t hj | exact h.b j t hj | exact h.c j t hj
/-- The Model at block b. -/
structure IsMd (w : World) (b d : Nat) (m : List Stat) : Prop where
  ex : ∃ cs, Blk w b 125 cs ∧ MdRep cs d m
theorem IsMd.chg {w w' : World} {b d : Nat} {m : List Stat} {F : List Nat} (h : IsMd w b d m) (hc : Chg F w w') (hb : b ∉ F) : IsMd w' b d m := by
  obtain ⟨cs, h1, h2⟩ := h.ex
  exact ⟨cs, h1.chg hc hb, h2⟩
/-- One context's numbers are stored. -/
theorem IsMd.set4 {w : World} {b d : Nat} {m : List Stat} (h : IsMd w b d m) {i : Nat} (hi : i < 365) (s : Stat) :
    IsMd ((((w.setCell ⟨b, 1 + i * 4, none⟩ (.int .i64 s.n)).setCell ⟨b, 1 + i * 4 + 1, none⟩ (.int .i64 s.a)).setCell ⟨b, 1 + i * 4 + 2, none⟩ (.int .i64 s.b)).setCell ⟨b, 1 + i * 4 + 3, none⟩ (.int .i64 s.c)) b d (m.set i s) := by
  obtain ⟨cs, h1, h2⟩ := h.ex
  exact ⟨_, (((h1.set_ _ _).set_ _ _).set_ _ _).set_ _ _, h2.set4 hi s⟩
theorem IsMd.lt {w : World} {b d : Nat} {m : List Stat} (h : IsMd w b d m) : b < w.heap.size := by
  obtain ⟨cs, h1, _⟩ := h.ex
  exact h1.lt
theorem IsMd.cells {w : World} {b d : Nat} {m : List Stat} (h : IsMd w b d m) : w.cell? ⟨b, 0, none⟩ = some (.int .i64 (d : Int)) ∧ (∀ i, w.frozen? ⟨b, i, none⟩ = false) ∧
    ∀ i s, m[i]? = some s → w.cell? ⟨b, 1 + i * 4, none⟩ = some (.int .i64 s.n) ∧ w.cell? ⟨b, 1 + i * 4 + 1, none⟩ = some (.int .i64 s.a) ∧ w.cell? ⟨b, 1 + i * 4 + 2, none⟩ = some (.int .i64 s.b) ∧ w.cell? ⟨b, 1 + i * 4 + 3, none⟩ = some (.int .i64 s.c) := by
  obtain ⟨cs, h1, h2⟩ := h.ex
  refine ⟨by rw [h1.cell]; exact h2.depth, h1.frozen, fun i s hs => ⟨?_, ?_, ?_, ?_⟩⟩
  · rw [h1.cell]; exact h2.n i s hs
  · rw [h1.cell]; exact h2.a i s hs
  · rw [h1.cell]; exact h2.b i s hs
  · rw [h1.cell]; exact h2.c i s hs

set_option maxRecDepth 100000 in
set_option maxHeartbeats 1000000 in
theorem mguess_ok (b d : Nat) (m : List Stat) (ctx : Nat) (p : Int) (t : Bool) (w : World) (h : IsMd w b d m) (hm : ModelOk m) (h0 : 1 ≤ d) (h1 : d ≤ 16) (hc : ctx < 365) (hp0 : 0 ≤ p) (hp1 : p < 2 ^ d) :
    Calls Tryz.prog 99 #[.pointer (some ⟨b, 0, none⟩), .int .i64 ctx, .int .i64 p, .bool t] w fun e w' => e = .returned (.int .i64 (guessM (statAt m ctx) p t d)) ∧ w = w' := by
  obtain ⟨hd0, hd1⟩ := pow_d h0 h1
  obtain ⟨hg, hso⟩ := statAt_mem hm hc
  obtain ⟨q0, _, hcells⟩ := h.cells
  obtain ⟨_, _, _, qc⟩ := hcells ctx _ hg
  have c0 := hso.c0
  have c1 := hso.c1
  have hdef : guessM (statAt m ctx) p t d = min (max (p + (if t then -(statAt m ctx).c else (statAt m ctx).c)) 0) (2 ^ d - 1) := rfl
  obtain ⟨s, hs⟩ : ∃ s, s = (statAt m ctx).c := ⟨_, rfl⟩
  rw [← hs] at qc c0 c1 hdef
  have HD := hid hdef
  have t1 : decide (p < 0) = false := decide_eq_false (by omega)
  have t2 : decide ((2 : Int) ^ d - 1 < p) = false := decide_eq_false (by omega)
  have hic := isCtx_yes ctx w hc
  clear hdef hs hg hso hcells h
  cases t with
  | false =>
    go_enter Tryz.func99, Tryz.ntmps99
    go_wp2_with (go_at_call 100; refine hic.mono ?_; rintro e w' ⟨rfl, rfl⟩)
    all_goals
      go_ret
      rw [HD.out]
      exact ⟨congrArg (fun z => Ending.returned (.int .i64 z)) (show _ = min (max (p + s) 0) (2 ^ d - 1) by omega), rfl⟩
  | true =>
    go_enter Tryz.func99, Tryz.ntmps99
    go_wp2_with (go_at_call 100; refine hic.mono ?_; rintro e w' ⟨rfl, rfl⟩)
    all_goals
      go_ret
      rw [HD.out]
      exact ⟨congrArg (fun z => Ending.returned (.int .i64 z)) (show _ = min (max (p + -s) 0) (2 ^ d - 1) by omega), rfl⟩
set_option maxRecDepth 100000 in
set_option maxHeartbeats 1000000 in
theorem mk_ok (b d : Nat) (m : List Stat) (ctx : Nat) (w : World) (h : IsMd w b d m) (hm : ModelOk m) (hc : ctx < 365) :
    Calls Tryz.prog 55 #[.pointer (some ⟨b, 0, none⟩), .int .i64 ctx] w fun e w' => e = .returned (.int .i64 (kOf (statAt m ctx))) ∧ ∃ n, w' = w.drewN n := by
  obtain ⟨hg, hso⟩ := statAt_mem hm hc
  obtain ⟨_, _, hcells⟩ := h.cells
  obtain ⟨qn, qa, _, _⟩ := hcells ctx _ hg
  have n0 := hso.n0
  have n1 := hso.n1
  have a0 := hso.a0
  have a1 := hso.a1
  obtain ⟨s, hs⟩ : ∃ s, s = statAt m ctx := ⟨_, rfl⟩
  rw [← hs] at qn qa n0 n1 a0 a1 hso ⊢
  have hic := isCtx_yes ctx w hc
  have hdef : kOf s = kFrom s 16 0 := rfl
  obtain ⟨sn, hsn⟩ : ∃ x, x = s.n := ⟨_, rfl⟩
  obtain ⟨sa, hsa⟩ : ∃ x, x = s.a := ⟨_, rfl⟩
  rw [← hsn] at qn n0 n1 a1
  rw [← hsa] at qa a0 a1
  have HD := hid hdef
  have HSN := hid hsn
  have HSA := hid hsa
  have HSO := hid hso
  clear hdef hs hg hso hcells h hsn hsa hm
  go_enter Tryz.func55, Tryz.ntmps55
  go_wp2_with (go_at_call 100; refine hic.mono ?_; rintro e w' ⟨rfl, rfl⟩)
  go_loopg [5] 16 (fun j v wr => ∃ (k n : Nat), v = .int .i64 (k : Int) ∧ k + j = 16 ∧ Hid (kOf s = kFrom s j k) ∧ wr = w.drewN n)
  case atStart => exact ⟨0, 0, rfl, rfl, HD, rfl⟩
  case round =>
    obtain ⟨k, nd, rfl, hkj, Hk, rfl⟩ := hrel
    have hp0 := two_pow_pos' k
    by_cases hlt : sn * 2 ^ k < sa
    · have hk15 : k < 15 := kFrom_lt HSO.out (by rw [← HSN.out, ← HSA.out]; exact hlt)
      have hp1 : (2 : Int) ^ k ≤ 32768 := by
        have := Nat.pow_le_pow_right (n := 2) (by decide) (show k ≤ 15 by omega)
        have e : (2 : Int) ^ k ≤ 2 ^ 15 := by exact_mod_cast this
        exact e
      have hm0 : 0 ≤ sn * 2 ^ k := Int.mul_nonneg (by omega) (by omega)
      have hm1 : sn * 2 ^ k ≤ 64 * 32768 := Int.le_trans (Int.mul_le_mul_of_nonneg_right n1 (by omega)) (by omega)
      have hw : IntKind.i64.wrap (sn * 2 ^ k) = sn * 2 ^ k := IntWalk.i64_in _ (by omega)
      have t1 : decide (sn * 2 ^ k < sa) = true := decide_eq_true hlt
      obtain ⟨g, rfl⟩ : ∃ g, gk = g + 1 := ⟨gk - 1, by omega⟩
      have hst : kOf s = kFrom s g (k + 1) := by rw [Hk.out, kFrom_step (by rw [← HSN.out, ← HSA.out]; exact hlt)]
      have HST := hid hst
      clear hst hlt
      go_wp2_with fail
      go_quiet (fail)
      go_wp2
      go_roundg g
      case measure => omega
      case rel => exact ⟨k + 1, _, by go_num, by omega, HST, rfl⟩
    · have hst := kFrom_stop (s := s) (k := k) (by rw [← HSN.out, ← HSA.out]; exact hlt) gk
      rw [← Hk.out] at hst
      have HST := hid hst
      have hk15 : k ≤ 15 := by have := kOf_le HSO.out; omega
      have hp1 : (2 : Int) ^ k ≤ 32768 := by
        have := Nat.pow_le_pow_right (n := 2) (by decide) (show k ≤ 15 by omega)
        have e : (2 : Int) ^ k ≤ 2 ^ 15 := by exact_mod_cast this
        exact e
      have hm0 : 0 ≤ sn * 2 ^ k := Int.mul_nonneg (by omega) (by omega)
      have hm1 : sn * 2 ^ k ≤ 64 * 32768 := Int.le_trans (Int.mul_le_mul_of_nonneg_right n1 (by omega)) (by omega)
      have hw : IntKind.i64.wrap (sn * 2 ^ k) = sn * 2 ^ k := IntWalk.i64_in _ (by omega)
      have t1 : decide (sn * 2 ^ k < sa) = false := decide_eq_false hlt
      clear hst hlt
      go_wp2_with fail
      go_quiet (fail)
      go_wp2
      go_ret
      rw [HST.out]
      exact ⟨rfl, nd + nq, by rw [World.drewN_drewN]⟩

theorem mnew_step {wr : World} {B d k j nq : Nat} {va : Int} (hmd : IsMd wr B d (List.replicate k (newStat d) ++ List.replicate (j + 1) ⟨0, 0, 0, 0⟩)) (hk : k < 365) (hva : va = startA d) :
    IsMd (((((wr.drewN nq).setCell ⟨B, 1 + k * 4, none⟩ (.int .i64 1)).setCell ⟨B, 1 + k * 4 + 1, none⟩ (.int .i64 va)).setCell ⟨B, 1 + k * 4 + 2, none⟩ (.int .i64 0)).setCell ⟨B, 1 + k * 4 + 3, none⟩ (.int .i64 0)) B d (List.replicate (k + 1) (newStat d) ++ List.replicate j ⟨0, 0, 0, 0⟩) := by
  have h1 := (hmd.chg ((Chg.refl [] wr).drewN nq) (by simp)).set4 hk (newStat d)
  have e : (List.replicate k (newStat d) ++ List.replicate (j + 1) (⟨0, 0, 0, 0⟩ : Stat)).set k (newStat d) = List.replicate (k + 1) (newStat d) ++ List.replicate j ⟨0, 0, 0, 0⟩ := by
    rw [List.set_append_right _ _ (by simp), List.length_replicate, Nat.sub_self, List.replicate_succ' (n := k)]
    simp [List.replicate_succ]
  rw [e] at h1
  subst hva
  exact h1
set_option maxRecDepth 100000 in
set_option maxHeartbeats 1000000 in
theorem mnew_ok (d : Nat) (w : World) (h0 : 1 ≤ d) (h1 : d ≤ 16) :
    Calls Tryz.prog 53 #[.int .i64 d] w fun e w' => ∃ b, e = .returned (.tuple #[.pointer (some ⟨b, 0, none⟩), .int .i64 0]) ∧ IsMd w' b d (newModel d) ∧ Chg [] w w' ∧ w.heap.size ≤ b := by
  obtain ⟨hd0, hd1⟩ := pow_d h0 h1
  have hv := mvalid_yes d w h0 h1
  have hblk := Blk.new w 125 (mdZero Tryz.zeroCells125 (d : Int))
  have ch0 : Chg [] w (w.alloc (.cells (mdZero Tryz.zeroCells125 (d : Int)) 125)) := (Chg.refl [] w).alloc _
  have hmd0 : IsMd (w.alloc (.cells (mdZero Tryz.zeroCells125 (d : Int)) 125)) w.heap.size d (List.replicate 365 ⟨0, 0, 0, 0⟩) := by
    have hr : ∀ i s, (List.replicate 365 (⟨0, 0, 0, 0⟩ : Stat))[i]? = some s → i < 365 ∧ s = ⟨0, 0, 0, 0⟩ := fun i s h => by
      rw [List.getElem?_replicate] at h
      split at h
      · rename_i hi
        injection h with h
        exact ⟨hi, h.symm⟩
      · cases h
    refine ⟨⟨_, hblk, mdZero_size md_zsize _, List.length_replicate, mdZero_get0 md_zsize _, ?_, ?_, ?_, ?_⟩⟩
    all_goals
      intro i s h
      obtain ⟨hi, rfl⟩ := hr i s h
      exact mdZero_get md_zeros _ _ (by omega) (by omega)
  unfold mdZero at ch0 hmd0
  go_enter Tryz.func53, Tryz.ntmps53
  go_wp2_with (go_at_call 97; refine hv.mono ?_; rintro e w' ⟨rfl, rfl⟩)
  obtain ⟨B, hB⟩ : ∃ B, B = w.heap.size := ⟨_, rfl⟩
  rw [← hB] at hmd0 ⊢
  have HB := hid hB
  obtain ⟨cs0, hcs0⟩ : ∃ cs, cs = Tryz.zeroCells125.setIfInBounds 0 (Value.int .i64 (d : Int)) := ⟨_, rfl⟩
  rw [← hcs0] at ch0 hmd0 ⊢
  clear hB hcs0 hblk hv
  have hst : Hid (startA d = max 2 ((2 ^ d + 32) / 64)) := hid rfl
  go_loopg [12] 365 (fun j iv wr => ∃ k : Nat, iv = .int .i64 (k : Int) ∧ k + j = 365 ∧ IsMd wr B d (List.replicate k (newStat d) ++ List.replicate j ⟨0, 0, 0, 0⟩) ∧ Chg [] w wr)
  case atStart => exact ⟨0, rfl, rfl, by simpa using hmd0, ch0⟩
  case round =>
    obtain ⟨k, rfl, hkj, hmd, hch⟩ := hrel
    clear hmd0 ch0
    rcases gk with _ | j
    · obtain rfl : k = 365 := by omega
      go_wp2
      go_ret2
      exact ⟨B, rfl, by simpa [newModel] using hmd, hch, by rw [HB.out]; exact Nat.le_refl _⟩
    · have hk : k < 365 := by omega
      have tk : decide ((k : Int) < 365) = true := decide_eq_true (by omega)
      obtain ⟨_, hfr, hcells⟩ := hmd.cells
      obtain ⟨q0, q1, q2, q3⟩ := hcells k ⟨0, 0, 0, 0⟩ (by rw [List.getElem?_append_right (by simp), List.length_replicate, Nat.sub_self]; rfl)
      have f0 := hfr (1 + k * 4)
      have f1 := hfr (1 + k * 4 + 1)
      have f2 := hfr (1 + k * 4 + 2)
      have f3 := hfr (1 + k * 4 + 3)
      clear hfr hcells
      go_wp2_with fail
      refine wp_region_quiet_tail 11 (by kernel_rfl) (by kernel_rfl) ?_
      simp only [List.take_succ_cons, List.take_zero, List.drop_succ_cons, List.drop_zero]
      repeat (go_big_quiet_step (fail))
      all_goals
        refine wpQuiet_nil ?_
        intro _ hw'
        obtain ⟨nq, rfl⟩ := hw'
        go_wp2_with fail
        all_goals
         go_roundg j
         case measure => omega
         case rel =>
          refine ⟨k + 1, by go_num, by omega, ?_, (((((hch.drewN nq).setCell (.inr (by have := HB.out; simp; omega)) _).setCell (.inr (by have := HB.out; simp; omega)) _).setCell (.inr (by have := HB.out; simp; omega)) _).setCell (.inr (by have := HB.out; simp; omega)) _)⟩
          exact mnew_step hmd hk (by rw [hst.out]; omega)
end Go.Proofs.YtpkplhmdnjdmoaaGreatDoor
