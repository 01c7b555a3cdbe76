/- The range decoder in plain Lean, and why it answers what the coder was told. No program. -/
import Derived.Test.YtpkplhmdnjdmoaaGreatDoorMg04
import Derived.Test.YtpkplhmdnjdmoaaGreatDoorMg35
set_option linter.unusedVariables false
set_option linter.unusedSimpArgs false
namespace Go.Proofs.YtpkplhmdnjdmoaaGreatDoor
set_option linter.unusedSimpArgs false
set_option linter.unusedVariables false
open Go.RowKit

/-- A decoder: its bytes, how many were read, Value, Width, the odds, the error. -/
structure Dec where
  data : List Nat
  pos : Nat
  V : Nat
  W : Nat
  odds : List Nat
  err : Nat
def dbit (D : Dec) (bound : Nat) : Nat := if bound ≤ D.V then 1 else 0
def dV (D : Dec) (bound : Nat) : Nat := if bound ≤ D.V then D.V - bound else D.V
def dW (D : Dec) (bound : Nat) : Nat := if bound ≤ D.V then D.W - bound else bound
/-- A bit with a bound: what is answered, and the decoder behind it. -/
def dcode (D : Dec) (bound : Nat) : Nat × Dec :=
  if dW D bound < 16777216 then
    (match D.data[D.pos]? with
      | none => (0, { D with err := 3 })
      | some x => (dbit D bound, { D with V := dV D bound * 256 + x, W := dW D bound * 256, pos := D.pos + 1 }))
  else (dbit D bound, { D with V := dV D bound, W := dW D bound })
structure DecOk (D : Dec) : Prop where
  dig : ∀ d ∈ D.data, d < 256
  lo : 16777216 ≤ D.W
  hi : D.W < 4294967296
  val : D.V < D.W
  pos : D.pos ≤ D.data.length
  odds : ∀ o ∈ D.odds, 31 ≤ o ∧ o ≤ 4065
def dOddsAt (D : Dec) (ctx : Nat) : Nat := D.odds.getD ctx 0
/-- A decoder in memory. -/
structure IsDec (T : TypeId) (w : World) (b g h : Nat) (D : Dec) : Prop where
  ex : ∃ vd vo, Blk w b T #[vd, .int .i64 (D.pos : Int), .int .u64 (D.V : Int), .int .u64 (D.W : Int), vo, .int .i64 (D.err : Int)] ∧ Row w 5 vd g (D.data.map b8) ∧ Row w 3 vo h (D.odds.map i64)
section
variable {T : TypeId} {w w' : World} {b g h : Nat} {D : Dec} {F : List Nat}
theorem IsDec.chg (i : IsDec T w b g h D) (hc : Chg F w w') (hb : b ∉ F) (hg : g ∉ F) (hh : h ∉ F) : IsDec T w' b g h D := by
  obtain ⟨vl, vo, h1, h2, h3⟩ := i.ex
  exact ⟨vl, vo, h1.chg hc hb, h2.chg hc hg, h3.chg hc hh⟩
theorem IsDec.same (i : IsDec T w b g h D) (hc : Chg [] w w') : IsDec T w' b g h D := i.chg hc (by simp) (by simp) (by simp)
theorem IsDec.lt (i : IsDec T w b g h D) : b < w.heap.size ∧ g < w.heap.size ∧ h < w.heap.size := by
  obtain ⟨vl, vo, h1, h2, h3⟩ := i.ex
  exact ⟨h1.lt, h2.lt, h3.lt⟩
end
theorem dW_ok {D : Dec} (h : DecOk D) {bound : Nat} (hb : 65536 ≤ bound ∧ bound + 65536 ≤ D.W) : 65536 ≤ dW D bound ∧ dW D bound < 4294967296 ∧ dV D bound < dW D bound := by
  have h1 := h.hi
  have h2 := h.val
  unfold dW dV
  split <;> omega
theorem dcode_data (D : Dec) (bound : Nat) : (dcode D bound).2.data = D.data ∧ (dcode D bound).2.odds = D.odds := by
  unfold dcode
  split
  · split <;> exact ⟨rfl, rfl⟩
  · exact ⟨rfl, rfl⟩
theorem dcode_bit (D : Dec) (bound : Nat) : (dcode D bound).1 = 0 ∨ (dcode D bound).1 = 1 := by
  unfold dcode dbit
  split
  · split
    · exact .inl rfl
    · simp only; split <;> simp
  · simp only; split <;> simp
theorem dcode_err (D : Dec) (bound : Nat) : (dcode D bound).2.err = D.err ∨ (dcode D bound).2.err = 3 ∧ (dcode D bound).1 = 0 := by
  unfold dcode
  split
  · split
    · exact .inr ⟨rfl, rfl⟩
    · exact .inl rfl
  · exact .inl rfl
theorem dcode_ok {D : Dec} (h : DecOk D) {bound : Nat} (hb : 65536 ≤ bound ∧ bound + 65536 ≤ D.W) : DecOk (dcode D bound).2 := by
  obtain ⟨h1, h2, h3⟩ := dW_ok h hb
  unfold dcode
  split
  · rename_i hs
    split
    · exact ⟨h.dig, h.lo, h.hi, h.val, h.pos, h.odds⟩
    · rename_i x hx
      obtain ⟨hlt, hxe⟩ := List.getElem?_eq_some_iff.1 hx
      have hx2 : x < 256 := h.dig x (by rw [← hxe]; exact List.getElem_mem hlt)
      exact ⟨h.dig, by simp; omega, by simp; omega, by simp; omega, by simp; omega, h.odds⟩
  · exact ⟨h.dig, by simp; omega, by simp; omega, by simp; omega, h.pos, h.odds⟩
theorem dOddsAt_ok {D : Dec} (h : DecOk D) {ctx : Nat} (hc : ctx < D.odds.length) : 31 ≤ dOddsAt D ctx ∧ dOddsAt D ctx ≤ 4065 := by
  unfold dOddsAt
  rw [List.getD_eq_getElem?_getD, List.getElem?_eq_getElem hc]
  exact h.odds _ (List.getElem_mem hc)
theorem dbound_put {D : Dec} (h : DecOk D) {ctx : Nat} (hc : ctx < D.odds.length) : 65536 ≤ D.W / 4096 * dOddsAt D ctx ∧ D.W / 4096 * dOddsAt D ctx + 65536 ≤ D.W := by
  obtain ⟨h1, h2⟩ := dOddsAt_ok h hc
  have hl := h.lo
  have hq : 4096 ≤ D.W / 4096 := by omega
  have e1 : D.W / 4096 * 31 ≤ D.W / 4096 * dOddsAt D ctx := Nat.mul_le_mul_left _ h1
  have e2 : D.W / 4096 * dOddsAt D ctx ≤ D.W / 4096 * 4065 := Nat.mul_le_mul_left _ h2
  omega
theorem dbound_raw {D : Dec} (h : DecOk D) : 65536 ≤ D.W / 2 ∧ D.W / 2 + 65536 ≤ D.W := by
  have hl := h.lo
  omega
/-- Get in a context that there is, of a decoder without an error. -/
def dget (D : Dec) (ctx : Nat) : Nat × Dec :=
  let r := dcode D (D.W / 4096 * dOddsAt D ctx)
  if r.2.err = 0 then (r.1, { r.2 with odds := D.odds.set ctx (adaptN (dOddsAt D ctx) r.1) }) else r
theorem dget_ok {D : Dec} (h : DecOk D) {ctx : Nat} (hc : ctx < D.odds.length) : DecOk (dget D ctx).2 := by
  have h1 := dcode_ok h (dbound_put h hc)
  unfold dget
  simp only
  split
  · refine ⟨h1.dig, h1.lo, h1.hi, h1.val, h1.pos, fun o ho => ?_⟩
    rcases List.mem_or_eq_of_mem_set ho with h' | h'
    · exact h.odds o h'
    · subst h'
      exact adaptN_ok _ (dOddsAt_ok h hc)
  · exact h1

/-- The number that digits write, the highest first. -/
def valD (l : List Nat) : Nat := l.foldl (fun a d => a * 256 + d) 0
theorem valD_snoc (l : List Nat) (d : Nat) : valD (l ++ [d]) = valD l * 256 + d := by simp [valD]
theorem valD_nil : valD [] = 0 := rfl
theorem foldD_lt (l : List Nat) : ∀ a, (∀ d ∈ l, d < 256) → l.foldl (fun a d => a * 256 + d) a < (a + 1) * 256 ^ l.length := by
  induction l with
  | nil => intro a _; simp
  | cons d l ih =>
    intro a h
    have h1 := ih (a * 256 + d) fun x hx => h x (by simp [hx])
    have h2 := h d (by simp)
    have h3 : (a * 256 + d + 1) * 256 ^ l.length ≤ ((a + 1) * 256) * 256 ^ l.length := Nat.mul_le_mul_right _ (by omega)
    have h4 : (a + 1) * 256 ^ (d :: l).length = ((a + 1) * 256) * 256 ^ l.length := by
      rw [List.length_cons, Nat.pow_succ, Nat.mul_comm (256 ^ l.length), Nat.mul_assoc]
    rw [h4, List.foldl_cons]
    omega
theorem valD_lt (l : List Nat) (h : ∀ d ∈ l, d < 256) : valD l < 256 ^ l.length := by
  have := foldD_lt l 0 h
  unfold valD
  simpa using this
def newDec (ds : List Nat) (n : Nat) : Dec := ⟨ds, 4, valD (ds.take 4), 4294967295, List.replicate n 2048, 0⟩
end Go.Proofs.YtpkplhmdnjdmoaaGreatDoor

/- The decoder's functions, each by its contract: code, Get, Left, Err. -/
namespace Go.Proofs.YtpkplhmdnjdmoaaGreatDoor
set_option linter.unusedSimpArgs false
set_option linter.unusedVariables false
open Go.RowKit

set_option maxRecDepth 100000 in
set_option maxHeartbeats 2000000 in
theorem dcode_any (w : World) (b g h : Nat) (D : Dec) (bound : Nat) (hc : IsDec 186 w b g h D) (hok : DecOk D) (hbd : 65536 ≤ bound ∧ bound + 65536 ≤ D.W) :
    Calls Tryz.prog 179 #[.pointer (some ⟨b, 0, none⟩), .int .u64 bound] w fun e w' => e = .returned (.int .i64 ((dcode D bound).1 : Nat)) ∧
      IsDec 186 w' b g h (dcode D bound).2 ∧ Chg [b] w w' := by
  obtain ⟨vd, vo, hb, hl, ho⟩ := hc.ex
  have hgb := hl.ne_ hb (by decide)
  have hhb := ho.ne_ hb (by decide)
  obtain ⟨cap, rfl, hcl, hcm, hcell, -⟩ := hl.open_map
  have c0 := hb.cell 0
  have c1 := hb.cell 1
  have c2 := hb.cell 2
  have c3 := hb.cell 3
  have c5 := hb.cell 5
  have f1 := hb.frozen 1
  have f2 := hb.frozen 2
  have f3 := hb.frozen 3
  have f5 := hb.frozen 5
  simp at c0 c1 c2 c3 c5
  have hpos := hok.pos
  have hval := hok.val
  have hhi := hok.hi
  obtain ⟨hw1, hw2, hw3⟩ := dW_ok hok hbd
  obtain ⟨hb1, hb2⟩ := hbd
  obtain ⟨W1, hW1⟩ : ∃ W1, W1 = dW D bound := ⟨_, rfl⟩
  obtain ⟨V1, hV1⟩ : ∃ V1, V1 = dV D bound := ⟨_, rfl⟩
  obtain ⟨bit, hbit⟩ : ∃ bit, bit = dbit D bound := ⟨_, rfl⟩
  rw [← hW1] at hw1 hw2 hw3
  rw [← hV1] at hw3
  have hdc : dcode D bound = if W1 < 16777216 then
    (match D.data[D.pos]? with
      | none => (0, { D with err := 3 })
      | some x => (bit, { D with V := V1 * 256 + x, W := W1 * 256, pos := D.pos + 1 }))
  else (bit, { D with V := V1, W := W1 }) := by rw [hW1, hV1, hbit]; rfl
  have HC := hid hcell
  have HDC := hid hdc
  have HW := hid hW1
  have HV := hid hV1
  have HB := hid hbit
  clear hcell hdc hW1 hV1 hbit
  have hB := hb
  have hL := hl
  have hO := ho
  clear hb hl ho hc
  go_enter Tryz.func179, Tryz.ntmps179
  go_wp2
  go_quiet (fail)
  generalize nq = na
  go_upto_if 20 with fail
  go_cut [5, 6, 7] (fun s5 s6 s7 wx => s5 = .int .i64 (bit : Int) ∧ s6 = .int .u64 (V1 : Int) ∧ s7 = .int .u64 (W1 : Int) ∧ ∃ nq2, wx = w.drewN nq2)
  case first =>
    by_cases hV : bound ≤ D.V
    · have t1 : decide (bound ≤ D.V) = true := by simpa using hV
      go_wp2
      go_quiet (fail)
      go_wp2
      go_meet
      case rel =>
        refine ⟨?_, ?_, ?_, na + nq, by simp⟩
        · rw [HB.out]; unfold dbit; rw [if_pos hV]; rfl
        · rw [HV.out]; unfold dV; rw [if_pos hV]; go_num
        · rw [HW.out]; unfold dW; rw [if_pos hV]; go_num
    · have t1 : decide (bound ≤ D.V) = false := by simpa using hV
      go_wp2
      go_meet
      case rel =>
        refine ⟨?_, ?_, ?_, na, rfl⟩
        · rw [HB.out]; unfold dbit; rw [if_neg hV]; rfl
        · rw [HV.out]; unfold dV; rw [if_neg hV]
        · rw [HW.out]; unfold dW; rw [if_neg hV]
  case rest =>
    obtain ⟨rfl, rfl, rfl, nq2, rfl⟩ := hcut
    have hend : ∀ D' : Dec, D'.data = D.data → D'.odds = D.odds → dcode D bound = (bit, D') → ∀ wz, Blk wz b 186 #[.slice (some ⟨g, 0, none⟩) D.data.length cap, .int .i64 (D'.pos : Int), .int .u64 (D'.V : Int), .int .u64 (D'.W : Int), vo, .int .i64 (D'.err : Int)] →
        Chg [b] w wz → IsDec 186 wz b g h (dcode D bound).2 := fun D' e1 e2 e3 wz hz hch => by
      rw [e3]
      exact ⟨_, vo, hz, by rw [e1]; exact hL.chg hch (by simpa using hgb), by rw [e2]; exact hO.chg hch (by simpa using hhb)⟩
    have Hend := hid hend
    clear hend
    by_cases hs : W1 < 16777216
    · go_wp2_with fail
      go_loopg [6, 7, 8] 1 (fun k v wd at_ wr => ∃ V W p : Nat, v = .int .u64 (V : Int) ∧ wd = .int .u64 (W : Int) ∧ at_ = .int .i64 (p : Int) ∧ (∃ nq, wr = w.drewN nq) ∧
        ((k = 1 ∧ V = V1 ∧ W = W1 ∧ p = D.pos) ∨ (k = 0 ∧ 16777216 ≤ W ∧ W < 4294967296 ∧ Hid (dcode D bound = (bit, { D with V := V, W := W, pos := p })))))
      case atStart => exact ⟨V1, W1, D.pos, rfl, rfl, rfl, ⟨nq2, rfl⟩, .inl ⟨rfl, rfl, rfl, rfl⟩⟩
      case round =>
        obtain ⟨V, W, p, rfl, rfl, rfl, ⟨nq3, rfl⟩, hcase⟩ := hrel
        rcases hcase with ⟨rfl, rfl, rfl, rfl⟩ | ⟨rfl, hW1', hW2', hfin⟩
        · have t2 : decide ((W : Int) < 16777216) = true := by simp; omega
          by_cases hp : D.pos = D.data.length
          · have t3 : ((D.pos : Int) == (D.data.length : Int)) = true := by rw [beq_iff_eq]; omega
            have HP := hid hp
            clear hp
            go_wp2
            go_ret
            have e1 : dcode D bound = (0, { D with err := 3 }) := by
              rw [HDC.out, if_pos hs, List.getElem?_eq_none (by have := HP.out; omega)]
            rw [e1]
            refine ⟨rfl, ⟨.slice (some ⟨g, 0, none⟩) D.data.length cap, vo, ?_, (hL.drewN nq3).far (p := ⟨b, 5, none⟩) hgb _, (hO.drewN nq3).far (p := ⟨b, 5, none⟩) hhb _⟩, ((Chg.refl _ _).drewN nq3).setCell (by simp) _⟩
            have := (hB.drewN nq3).set_ 5 (.int .i64 3)
            simpa using this
          · have hlt : D.pos < D.data.length := by omega
            have t3 : ((D.pos : Int) == (D.data.length : Int)) = false := by rw [beq_eq_false_iff_ne]; omega
            obtain ⟨x, hx⟩ : ∃ x, D.data[D.pos]? = some x := ⟨_, List.getElem?_eq_getElem hlt⟩
            have hx2 : x < 256 := hok.dig x (by obtain ⟨h1, h2⟩ := List.getElem?_eq_some_iff.1 hx; rw [← h2]; exact List.getElem_mem h1)
            have hcx : w.cell? ⟨g, D.pos, none⟩ = some (.int .u8 (x : Int)) := HC.out _ _ hx
            have HX := hid hx
            clear hx hp
            go_wp2
            go_roundg 0
            case measure => omega
            case rel =>
              refine ⟨V * 256 + x, W * 256, D.pos + 1, by go_num, by go_num, by go_num, ⟨nq3, rfl⟩, .inr ⟨rfl, by omega, by omega, hid ?_⟩⟩
              rw [HDC.out, if_pos hs, HX.out]
        · have t2 : decide ((W : Int) < 16777216) = false := by simp; omega
          go_wp2
          go_ret
          refine ⟨?_, Hend.out { D with V := V, W := W, pos := p } rfl rfl hfin.out _ ?_ ?_, ?_⟩
          · rw [hfin.out]; rfl
          · have := (((hB.drewN nq3).set_ 2 (.int .u64 (V : Int))).set_ 3 (.int .u64 (W : Int))).set_ 1 (.int .i64 (p : Int))
            simpa using this
          · exact ((((Chg.refl _ _).drewN nq3).setCell (by simp) _).setCell (by simp) _).setCell (by simp) _
          · exact ((((Chg.refl _ _).drewN nq3).setCell (by simp) _).setCell (by simp) _).setCell (by simp) _
    · have t2 : decide ((W1 : Int) < 16777216) = false := by simp; omega
      go_wp2_with fail
      refine wp_loop_once ?_
      go_wp2
      go_ret
      have e1 : dcode D bound = (bit, { D with V := V1, W := W1 }) := by rw [HDC.out, if_neg hs]
      refine ⟨?_, Hend.out { D with V := V1, W := W1 } rfl rfl e1 _ ?_ ?_, ?_⟩
      · rw [e1]; rfl
      · have := (((hB.drewN nq2).set_ 2 (.int .u64 (V1 : Int))).set_ 3 (.int .u64 (W1 : Int))).set_ 1 (.int .i64 (D.pos : Int))
        simpa using this
      · exact ((((Chg.refl _ _).drewN nq2).setCell (by simp) _).setCell (by simp) _).setCell (by simp) _
      · exact ((((Chg.refl _ _).drewN nq2).setCell (by simp) _).setCell (by simp) _).setCell (by simp) _
end Go.Proofs.YtpkplhmdnjdmoaaGreatDoor

/- The decoder's functions, the second part: Get, Left, Err. -/
namespace Go.Proofs.YtpkplhmdnjdmoaaGreatDoor
set_option linter.unusedSimpArgs false
set_option linter.unusedVariables false
open Go.RowKit

theorem dec_oddsAt {D : Dec} {ctx : Nat} (hc : ctx < D.odds.length) : D.odds[ctx]? = some (dOddsAt D ctx) := by
  unfold dOddsAt
  rw [List.getD_eq_getElem?_getD, List.getElem?_eq_getElem hc]
  rfl

theorem err_any (w : World) (b g h : Nat) (D : Dec) (hc : IsDec 186 w b g h D) :
    Calls Tryz.prog 126 #[.pointer (some ⟨b, 0, none⟩)] w fun e w' => e = .returned (.int .i64 (D.err : Int)) ∧ w' = w := by
  obtain ⟨vd, vo, hb, hl, ho⟩ := hc.ex
  have c5 := hb.cell 5
  simp at c5
  clear hb hl ho hc
  go_enter Tryz.func126, Tryz.ntmps126
  go_wp2
  go_ret
  exact ⟨rfl, rfl⟩

theorem left_any (w : World) (b g h : Nat) (D : Dec) (hc : IsDec 186 w b g h D) (hpos : D.pos ≤ D.data.length) :
    Calls Tryz.prog 128 #[.pointer (some ⟨b, 0, none⟩)] w fun e w' => e = .returned (.int .i64 ((D.data.length - D.pos : Nat) : Int)) ∧ ∃ n, w' = w.drewN n := by
  obtain ⟨vd, vo, hb, hl, ho⟩ := hc.ex
  obtain ⟨cap, rfl, hcl, hcm, -, -⟩ := hl.open_map
  have c0 := hb.cell 0
  have c1 := hb.cell 1
  simp at c0 c1
  clear hb hl ho hc
  have hw : IntKind.i64.wrap ((D.data.length : Int) - D.pos) = ((D.data.length - D.pos : Nat) : Int) := by
    rw [IntWalk.i64_in _ (by omega)]; omega
  go_enter Tryz.func128, Tryz.ntmps128
  go_wp2
  go_quiet (fail)
  go_wp2
  go_ret
  exact ⟨by go_num, nq, rfl⟩

theorem dget_dead (w : World) (b g h : Nat) (D : Dec) (ctx : Int) (hc : IsDec 186 w b g h D) (he : D.err ≠ 0) :
    Calls Tryz.prog 155 #[.pointer (some ⟨b, 0, none⟩), .int .i64 ctx] w fun e w' => e = .returned (.int .i64 0) ∧ w' = w := by
  obtain ⟨vd, vo, hb, hl, ho⟩ := hc.ex
  have c5 := hb.cell 5
  simp at c5
  clear hb hl ho hc
  have t1 : ((D.err : Int) != 0) = true := by rw [bne_iff_ne]; omega
  clear he
  go_enter Tryz.func155, Tryz.ntmps155
  go_wp2_with fail
  go_ret
  exact ⟨rfl, rfl⟩

set_option maxRecDepth 100000 in
set_option maxHeartbeats 2000000 in
theorem dget_any (w : World) (b g h : Nat) (D : Dec) (ctx : Nat) (hc : IsDec 186 w b g h D) (hok : DecOk D) (he : D.err = 0) (hctx : ctx < D.odds.length) :
    Calls Tryz.prog 155 #[.pointer (some ⟨b, 0, none⟩), .int .i64 ctx] w fun e w' => e = .returned (.int .i64 ((dget D ctx).1 : Nat)) ∧
      IsDec 186 w' b g h (dget D ctx).2 ∧ Chg [b, h] w w' := by
  obtain ⟨vd, vo, hb, hl, ho⟩ := hc.ex
  have hbd := dbound_put hok hctx
  have hhi := hok.hi
  have hgb := hl.ne_ hb (by decide)
  have hhb := ho.ne_ hb (by decide)
  have hgh := hl.ne_row ho (by decide)
  obtain ⟨capo, rfl, hco, hcom, hcello, -⟩ := ho.open_map
  have ho1 := hcello ctx _ (dec_oddsAt hctx)
  replace ho1 : w.cell? ⟨h, ctx, none⟩ = some (.int .i64 (dOddsAt D ctx : Int)) := ho1
  clear hcello
  have hor := dOddsAt_ok hok hctx
  obtain ⟨o1, hoo⟩ : ∃ o1, o1 = dOddsAt D ctx := ⟨_, rfl⟩
  rw [← hoo] at ho1 hor hbd
  have Hoo := hid hoo
  clear hoo
  have c3 := hb.cell 3
  have c4 := hb.cell 4
  have c5 := hb.cell 5
  simp at c3 c4 c5
  rw [he] at c5
  have t1 : decide ((ctx : Int) < 0) = false := by simp
  have t2 : decide (D.odds.length ≤ ctx) = false := by simp; omega
  obtain ⟨bd, hbdd⟩ : ∃ bd, bd = D.W / 4096 * o1 := ⟨_, rfl⟩
  rw [← hbdd] at hbd
  have hmul : IntKind.u64.wrap ((D.W : Int) / 4096 * (o1 : Int)) = (bd : Int) := by
    have e : ((D.W : Int) / 4096 * (o1 : Int)) = (bd : Int) := by rw [hbdd]; simp
    rw [e]
    exact IntWalk.u64_in _ (by omega)
  have Hget : Hid (dget D ctx = if (dcode D bd).2.err = 0 then ((dcode D bd).1, { (dcode D bd).2 with odds := D.odds.set ctx (adaptN o1 (dcode D bd).1) }) else dcode D bd) := by
    refine hid ?_
    rw [hbdd, Hoo.out]
    rfl
  clear hbdd
  have hdata := hid (dcode_data D bd)
  have hbit := hid (dcode_bit D bd)
  have herr := hid (dcode_err D bd)
  obtain ⟨bit, hbi⟩ : ∃ bit, bit = (dcode D bd).1 := ⟨_, rfl⟩
  obtain ⟨D1, hD1⟩ : ∃ D1, D1 = (dcode D bd).2 := ⟨_, rfl⟩
  have Hbi := hid hbi
  have HD1 := hid hD1
  clear hbi hD1
  have HE := hid he
  clear he
  go_enter Tryz.func155, Tryz.ntmps155
  go_wp2
  refine wp_region_quiet_tail 15 (by kernel_rfl) (by kernel_rfl) ?_
  simp only [List.take_succ_cons, List.take_zero, List.drop_succ_cons, List.drop_zero]
  repeat (go_big_quiet_step (fail))
  refine wpQuiet_nil ?_
  intro _ hw'
  obtain ⟨nq, rfl⟩ := hw'
  go_wp2_with fail
  refine (dcode_any (w.drewN nq) b g h D bd (hc.same ((Chg.refl _ _).drewN nq)) hok hbd).mono ?_
  rintro e w1 ⟨rfl, hc1, hch1⟩
  rw [← HD1.out] at hc1
  rw [← Hbi.out]
  obtain ⟨vd1, vo1, hb1, hl1, hq1⟩ := hc1.ex
  have x5 := hb1.cell 5
  simp at x5
  by_cases he1 : D1.err = 0
  · have t3 : ((D1.err : Int) == 0) = true := by rw [beq_iff_eq]; omega
    have HE1 := hid he1
    clear he1
    have hod : D1.odds = D.odds := by rw [HD1.out]; exact hdata.out.2
    rw [hod] at hq1
    have Hod := hid hod
    clear hod
    have hgb1 := hl1.ne_ hb1 (by decide)
    have hgh1 := hl1.ne_row hq1 (by decide)
    obtain ⟨capo1, rfl, hco1, hcom1, hcello1, hfro1⟩ := hq1.open_map
    have hx1 : w1.cell? ⟨h, ctx, none⟩ = some (.int .i64 (o1 : Int)) := by rw [Hoo.out]; exact hcello1 ctx _ (dec_oddsAt hctx)
    have hx2 := hfro1 ctx
    have hx3 := hb1.cell 4
    simp at hx3
    clear hcello1 hfro1
    go_wp2_with fail
    refine wp_region_quiet_tail 14 (by kernel_rfl) (by kernel_rfl) ?_
    simp only [List.take_succ_cons, List.take_zero, List.drop_succ_cons, List.drop_zero]
    repeat (go_big_quiet_step ((go_at_call 172; exact Calls.quiet_of_same (adapt_any o1 bit _ (by omega) (by rw [Hbi.out]; exact hbit.out)))))
    refine wpQuiet_nil ?_
    intro _ hw'
    obtain ⟨nq1, rfl⟩ := hw'
    go_wp2
    go_ret
    have e1 : dget D ctx = (bit, { D1 with odds := D.odds.set ctx (adaptN o1 bit) }) := by
      rw [Hget.out, if_pos (by rw [← HD1.out]; exact HE1.out), Hbi.out, HD1.out]
    rw [e1]
    refine ⟨rfl, ⟨_, _, (hb1.drewN nq1).far (p := ⟨h, ctx, none⟩) hhb.symm _, (hl1.drewN nq1).far (p := ⟨h, ctx, none⟩) hgh1 _, ?_⟩, ?_⟩
    · simp only
      rw [List.map_set]
      exact (hq1.drewN nq1).set_ (i := ctx) (by simpa using hctx) _
    · refine Chg.setCell (Chg.drewN ?_ _) (by simp) _
      exact ((Chg.refl _ _).drewN nq).trans hch1 (by simp)
  · have t3 : ((D1.err : Int) == 0) = false := by rw [beq_eq_false_iff_ne]; omega
    have HE1 := hid he1
    clear he1
    go_wp2
    go_ret
    have e1 : dget D ctx = (bit, D1) := by
      rw [Hget.out, if_neg (by rw [← HD1.out]; exact HE1.out), Hbi.out, HD1.out]
    rw [e1]
    exact ⟨rfl, hc1, (((Chg.refl _ _).drewN nq).trans hch1 (by simp))⟩
end Go.Proofs.YtpkplhmdnjdmoaaGreatDoor

/- The decoder's functions, the third part: NewDecoder. -/
namespace Go.Proofs.YtpkplhmdnjdmoaaGreatDoor
set_option linter.unusedSimpArgs false
set_option linter.unusedVariables false
open Go.RowKit

set_option maxRecDepth 100000 in
set_option maxHeartbeats 2000000 in
theorem newDecoder_ok (g cap : Nat) (ds : List Nat) (n : Nat) (w : World) (h1 : 1 ≤ n) (hn : n ≤ 4096) (hcap : ds.length ≤ cap) (hcap2 : cap ≤ 9223372036854775807)
    (hcell : ∀ (i d : Nat), ds[i]? = some d → w.cell? ⟨g, i, none⟩ = some (b8 d)) (hd : ∀ d ∈ ds, d < 256) (h4 : 4 ≤ ds.length) (hlen : ds.length ≤ 1099511627776) (hff : valD (ds.take 4) ≠ 4294967295) :
    Calls Tryz.prog 124 #[.slice (some ⟨g, 0, none⟩) ds.length cap, .int .i64 n] w fun e w' => ∃ b g' h, e = .returned (.tuple #[.pointer (some ⟨b, 0, none⟩), .int .i64 0]) ∧
      IsDec 186 w' b g' h (newDec ds n) ∧ Chg [] w w' ∧ w.heap.size ≤ b ∧ w.heap.size ≤ g' ∧ w.heap.size ≤ h := by
  have t1 : decide ((n : Int) < 1) = false := by simp; omega
  have t2 : decide ((4096 : Int) < n) = false := by simp; omega
  have t3 : decide ((ds.length : Int) < 4) = false := by simp; omega
  have HC := hid hcell
  have HD := hid hd
  have HF := hid hff
  have hv4 : valD (ds.take 4) < 4294967296 := by
    have := valD_lt (ds.take 4) fun d h => hd d (List.mem_of_mem_take h)
    rw [List.length_take, Nat.min_eq_left h4] at this
    simpa using this
  have HV := hid hv4
  clear hcell hd hff hv4
  go_enter Tryz.func124, Tryz.ntmps124
  go_wp2_with fail
  go_loopg [6, 8, 22] 4 (fun k v c i wr => wr = w ∧ k ≤ 4 ∧ i = .int .i64 ((4 - k : Nat) : Int) ∧ v = .int .u64 ((valD (ds.take (4 - k)) : Nat) : Int))
  case atStart => exact ⟨rfl, Nat.le_refl _, rfl, rfl⟩
  case round =>
    obtain ⟨rfl, hk, rfl, rfl⟩ := hrel
    rcases gk with _ | k
    · have t4 : decide (((4 - 0 : Nat) : Int) < 4) = false := by simp
      simp only [Nat.sub_zero]
      obtain ⟨V, hV⟩ : ∃ V, V = valD (ds.take 4) := ⟨_, rfl⟩
      rw [← hV]
      have t5 : ((V : Int) == 4294967295) = false := by rw [beq_eq_false_iff_ne, hV]; have := HF.out; omega
      have HVV := hid hV
      clear hV
      have hcell' : ∀ j u, (ds.map b8)[j]? = some u → wr.cell? ((⟨g, 0, none⟩ : Addr).add j) = some u := by
        intro j u hj
        rw [List.getElem?_map] at hj
        obtain ⟨d, hd1, rfl⟩ := Option.map_eq_some_iff.1 hj
        have e : (⟨g, 0, none⟩ : Addr).add j = ⟨g, j, none⟩ := by unfold Addr.add; split <;> simp_all
        rw [e]
        exact HC.out j d hd1
      have Hcell := hid hcell'
      clear hcell'
      go_wp2_with (at_builtin; refine wpList_append_sl rfl rfl u8_el rfl (by decide) rfl (World.ownsRow_nil _ 0 _ _) (news := ds.map b8) rfl ?c1 ?c2 ?c3 ?c4 ?c5 ?c6 ?_)
      case c1 => simp
      case c2 => omega
      case c3 => exact Hcell.out
      case c4 => intro u hu; obtain ⟨d, _, rfl⟩ := List.mem_map.1 hu; rfl
      case c5 => omega
      case c6 => omega
      intro g' cap' w1 r1 r2 r3
      obtain ⟨g'', r4, r5⟩ := Row.of_own r1 rfl
      simp only [Value.ownBlock] at r5
      injection r5 with r5
      subst r5
      have r6 : wr.heap.size ≤ g' := by simpa [Value.ownBlock] using r3
      simp only [Value.ownBlock, Option.toList_none] at r2
      clear r1 r3
      go_wp2_with (go_at_call 139; refine (start_ok n _ hn).mono ?_; rintro e w2 ⟨h, rfl, q1, q2, q3⟩)
      go_ret2
      have s1 := r2.size
      have s2 := q2.size
      refine ⟨_, _, _, rfl, ⟨_, _, ?_, ((r4.chg q2 (by simp)).alloc _), q1.alloc _⟩, (r2.trans_same q2).alloc _, by omega, r6, by omega⟩
      have := Blk.new w2 186 #[.slice (some ⟨g', 0, none⟩) ds.length cap', .int .i64 4, .int .u64 (V : Int), .int .u64 4294967295, .slice (some ⟨h, 0, none⟩) n n, .int .i64 0]
      simp only [newDec, ← HVV.out]
      exact this
    · obtain ⟨m, hm⟩ : ∃ m, m = 4 - (k + 1) := ⟨_, rfl⟩
      rw [← hm]
      have hm1 : m < 4 := by omega
      have hm2 : 4 - k = m + 1 := by omega
      have HM := hid hm2
      clear hm hm2
      obtain ⟨x, hx⟩ : ∃ x, ds[m]? = some x := ⟨_, List.getElem?_eq_getElem (by omega)⟩
      have hx2 : x < 256 := HD.out x (by obtain ⟨h1, h2⟩ := List.getElem?_eq_some_iff.1 hx; rw [← h2]; exact List.getElem_mem h1)
      have hcx : wr.cell? ⟨g, m, none⟩ = some (.int .u8 (x : Int)) := HC.out _ _ hx
      have hvs : valD (ds.take (m + 1)) = valD (ds.take m) * 256 + x := by
        rw [List.take_add_one, hx]
        exact valD_snoc _ _
      have hvl : valD (ds.take m) < 16777216 := by
        have := valD_lt (ds.take m) fun d h => HD.out d (List.mem_of_mem_take h)
        have h3 : 256 ^ (ds.take m).length ≤ 256 ^ 3 := Nat.pow_le_pow_right (by decide) (by rw [List.length_take]; omega)
        have : (256 : Nat) ^ 3 = 16777216 := by decide
        omega
      obtain ⟨V, hV⟩ : ∃ V, V = valD (ds.take m) := ⟨_, rfl⟩
      rw [← hV] at hvs hvl ⊢
      have HVS := hid hvs
      clear hx hvs hV
      go_wp2_with fail
      go_roundg k
      case measure => omega
      case rel =>
        rw [HM.out]
        exact ⟨rfl, by omega, by go_num, by rw [HVS.out]; go_num⟩

theorem newDecoder_short (a : Option Addr) (k cap : Nat) (n : Nat) (w : World) (h1 : 1 ≤ n) (hn : n ≤ 4096) (hk : k < 4) :
    Calls Tryz.prog 124 #[.slice a k cap, .int .i64 n] w fun e w' => e = .returned (.tuple #[.pointer none, .int .i64 3]) ∧ w' = w := by
  have t1 : decide ((n : Int) < 1) = false := by simp; omega
  have t2 : decide ((4096 : Int) < n) = false := by simp; omega
  have t3 : decide ((k : Int) < 4) = true := by simp; omega
  go_enter Tryz.func124, Tryz.ntmps124
  go_wp2_with fail
  go_ret2
  exact ⟨rfl, rfl⟩
end Go.Proofs.YtpkplhmdnjdmoaaGreatDoor

/- Why a decoder answers what the coder was told: the numbers that the digits write. Plain Lean, no program. -/
namespace Go.Proofs.YtpkplhmdnjdmoaaGreatDoor
set_option linter.unusedSimpArgs false
set_option linter.unusedVariables false
open Go.RowKit

def leV : List Nat → Nat
  | [] => 0
  | d :: ds => d + 256 * leV ds
theorem valD_reverse (l : List Nat) : valD l.reverse = leV l := by
  induction l with
  | nil => rfl
  | cons d l ih => rw [List.reverse_cons, valD_snoc, ih, leV]; omega
theorem leV_carry (ds : List Nat) : ∀ n, leV ds + n < 256 ^ ds.length → leV (carry ds n) = leV ds + n := by
  induction ds with
  | nil => intro n h; simp [leV] at h; subst h; rfl
  | cons d ds ih =>
    intro n h
    unfold carry
    split
    · rename_i h0; simp [h0]
    · rw [List.length_cons, Nat.pow_succ, leV] at h
      have hq : leV ds + (n + d) / 256 < 256 ^ ds.length := by omega
      rw [leV, leV, ih _ hq]
      omega
theorem valD_grow (ds : List Nat) (n : Nat) (h : valD ds + n < 256 ^ ds.length) : valD (growL ds n) = valD ds + n := by
  have e : valD ds = leV ds.reverse := by rw [← valD_reverse, List.reverse_reverse]
  rw [growL, valD_reverse, leV_carry _ _ (by rw [← e]; simpa using h), ← e]

/-- Low and Width fit into Low's digits. -/
def CodFit (c : Cod) : Prop := valD c.low + c.W ≤ 4294967295 * 256 ^ (c.low.length - 4)
theorem newCod_fit (n : Nat) : CodFit (newCod n) := by simp [CodFit, newCod, valD]
theorem fit_room {c : Cod} (h : CodOk c) (hf : CodFit c) : valD c.low + c.W < 256 ^ c.low.length := by
  unfold CodFit at hf
  have h1 := h.len
  have h2 : 256 ^ c.low.length = 4294967296 * 256 ^ (c.low.length - 4) := by
    have : (4294967296 : Nat) = 256 ^ 4 := by decide
    rw [this, ← Nat.pow_add]
    congr 1
    omega
  have h3 : 0 < 256 ^ (c.low.length - 4) := Nat.pow_pos (by decide)
  rw [h2]
  generalize 256 ^ (c.low.length - 4) = q at *
  omega
theorem val_lowA {c : Cod} (h : CodOk c) (hf : CodFit c) {bound : Nat} (hb : BoundOk c bound) (bit : Nat) : valD (lowA c bound bit) = if bit = 0 then valD c.low else valD c.low + bound := by
  have h1 := fit_room h hf
  have h2 := hb.2
  unfold lowA
  split
  · rfl
  · exact valD_grow _ _ (by omega)
theorem sum_A {c : Cod} (h : CodOk c) (hf : CodFit c) {bound : Nat} (hb : BoundOk c bound) (bit : Nat) : valD c.low ≤ valD (lowA c bound bit) ∧ valD (lowA c bound bit) + widA c bound bit ≤ valD c.low + c.W := by
  have h2 := hb.2
  rw [val_lowA h hf hb]
  unfold widA
  split <;> omega
theorem codeL_fit {c : Cod} (h : CodOk c) (hf : CodFit c) {bound : Nat} (hb : BoundOk c bound) (bit : Nat) : CodFit (codeL c bound bit) := by
  have h1 := (sum_A h hf hb bit).2
  have h2 := lowA_len c bound bit
  have h3 := h.len
  unfold CodFit at hf ⊢
  unfold codeL
  generalize lowA c bound bit = l1 at *
  generalize widA c bound bit = W1 at *
  split
  · simp only
    rw [valD_snoc, List.length_append, List.length_singleton, h2]
    have e : c.low.length + 1 - 4 = (c.low.length - 4) + 1 := by omega
    rw [e, Nat.pow_succ]
    omega
  · simp only; rw [h2]; omega
theorem putL_fit {c : Cod} (h : CodOk c) (hf : CodFit c) {ctx : Nat} (hc : ctx < c.odds.length) (bit : Nat) : CodFit (putL c ctx bit) := codeL_fit h hf (bound_put h hc) bit

/-- The number in the first j bytes. -/
def pre (data : List Nat) (j : Nat) : Nat := valD (data.take j)
theorem pre_succ {data : List Nat} {j x : Nat} (h : data[j]? = some x) : pre data (j + 1) = pre data j * 256 + x := by
  unfold pre
  rw [List.take_add_one, h]
  exact valD_snoc _ _
theorem pre_take {F : List Nat} {k j : Nat} (h : j ≤ k) : pre (F.take k) j = pre F j := by
  unfold pre
  rw [List.take_take, Nat.min_eq_left h]
/-- The bytes lie in the coder's interval. -/
structure Fut (data : List Nat) (c : Cod) : Prop where
  len : c.low.length ≤ data.length
  lo : valD c.low ≤ pre data c.low.length
  hi : pre data c.low.length < valD c.low + c.W
theorem fut_self {c : Cod} (h : CodOk c) : Fut c.low c :=
  ⟨Nat.le_refl _, by simp [pre], by have := h.lo; simp [pre]; omega⟩
theorem fut_codeA {c : Cod} {data : List Nat} (h : CodOk c) (hd : ∀ d ∈ data, d < 256) (hf : CodFit c) {bound : Nat} (hb : BoundOk c bound) (bit : Nat) (hF : Fut data (codeL c bound bit)) :
    c.low.length ≤ data.length ∧ valD (lowA c bound bit) ≤ pre data c.low.length ∧ pre data c.low.length < valD (lowA c bound bit) + widA c bound bit := by
  have h2 := lowA_len c bound bit
  obtain ⟨h3, h4, h5⟩ := hF
  unfold codeL at h3 h4 h5
  generalize lowA c bound bit = l1 at *
  generalize widA c bound bit = W1 at *
  by_cases hs : W1 < 16777216
  · rw [if_pos hs] at h3 h4 h5
    simp only [List.length_append, List.length_singleton, h2] at h3 h4 h5
    obtain ⟨x, hx⟩ : ∃ x, data[c.low.length]? = some x := ⟨_, List.getElem?_eq_getElem (by omega)⟩
    have hx2 : x < 256 := hd x (by obtain ⟨h1, h2⟩ := List.getElem?_eq_some_iff.1 hx; rw [← h2]; exact List.getElem_mem h1)
    rw [pre_succ hx, valD_snoc] at h4 h5
    exact ⟨by omega, by omega, by omega⟩
  · rw [if_neg hs] at h3 h4 h5
    simp only [h2] at h3 h4 h5
    exact ⟨h3, h4, h5⟩
theorem fut_code {c : Cod} {data : List Nat} (h : CodOk c) (hd : ∀ d ∈ data, d < 256) (hf : CodFit c) {bound : Nat} (hb : BoundOk c bound) (bit : Nat) (hF : Fut data (codeL c bound bit)) : Fut data c := by
  obtain ⟨h1, h2, h3⟩ := fut_codeA h hd hf hb bit hF
  have h4 := sum_A h hf hb bit
  exact ⟨h1, by omega, by omega⟩
theorem fut_put {c : Cod} {data : List Nat} (h : CodOk c) (hd : ∀ d ∈ data, d < 256) (hf : CodFit c) {ctx : Nat} (hc : ctx < c.odds.length) (bit : Nat) (hF : Fut data (putL c ctx bit)) : Fut data c :=
  fut_code h hd hf (bound_put h hc) bit ⟨hF.len, hF.lo, hF.hi⟩

/-- The decoder stands where the coder stood. -/
structure Syn (D : Dec) (c : Cod) : Prop where
  err : D.err = 0
  W : D.W = c.W
  odds : D.odds = c.odds
  pos : D.pos = c.low.length
  V : pre D.data D.pos = D.V + valD c.low

theorem syn_new (ds : List Nat) (n : Nat) : Syn (newDec ds n) (newCod n) :=
  ⟨rfl, rfl, rfl, rfl, by simp [newDec, newCod, pre, valD]⟩

theorem bit_of {D : Dec} {c : Cod} (hS : Syn D c) (h : CodOk c) (hf : CodFit c) {bound bit : Nat} (hb : BoundOk c bound) (hbit : bit = 0 ∨ bit = 1)
    (hlo : valD (lowA c bound bit) ≤ pre D.data c.low.length) (hhi : pre D.data c.low.length < valD (lowA c bound bit) + widA c bound bit) :
    dbit D bound = bit ∧ dV D bound + valD (lowA c bound bit) = pre D.data c.low.length ∧ dW D bound = widA c bound bit := by
  have hV := hS.V
  rw [hS.pos] at hV
  rw [val_lowA h hf hb] at hlo hhi ⊢
  unfold dbit dV dW
  unfold widA at hhi ⊢
  rw [hS.W]
  rcases hbit with rfl | rfl
  · simp only [if_true] at hlo hhi ⊢
    rw [if_neg (by omega), if_neg (by omega), if_neg (by omega)]
    exact ⟨rfl, by omega, rfl⟩
  · simp only [Nat.one_ne_zero, if_false] at hlo hhi ⊢
    rw [if_pos (by omega), if_pos (by omega), if_pos (by omega)]
    exact ⟨rfl, by omega, rfl⟩

/-- A decoder of the whole bytes, or of the first k of them. -/
theorem dcode_cut {D : Dec} {c : Cod} {F : List Nat} {k : Nat} (hS : Syn D c) (hDF : D.data = F.take k) (hkF : k ≤ F.length) (hpos : D.pos ≤ D.data.length) (hd : ∀ d ∈ F, d < 256) (h : CodOk c) (hf : CodFit c)
    {bound bit : Nat} (hb : BoundOk c bound) (hbit : bit = 0 ∨ bit = 1) (hF : Fut F (codeL c bound bit)) :
    ((codeL c bound bit).low.length ≤ k → (dcode D bound).1 = bit ∧ Syn (dcode D bound).2 (codeL c bound bit)) ∧ (k < (codeL c bound bit).low.length → (dcode D bound).2.err = 3) := by
  have hlen : D.data.length = k := by rw [hDF, List.length_take]; omega
  obtain ⟨h1, h2, h3⟩ := fut_codeA h hd hf hb bit hF
  have hpk : c.low.length ≤ k := by rw [← hS.pos, ← hlen]; exact hpos
  have hpre : pre D.data c.low.length = pre F c.low.length := by rw [hDF]; exact pre_take hpk
  rw [← hpre] at h2 h3
  obtain ⟨e1, e2, e3⟩ := bit_of hS h hf hb hbit h2 h3
  have hA := lowA_len c bound bit
  unfold dcode
  rw [e1, e3]
  unfold codeL
  by_cases hs : widA c bound bit < 16777216
  · rw [if_pos hs, if_pos hs]
    simp only [List.length_append, List.length_singleton, hA]
    refine ⟨fun hk => ?_, fun hk => ?_⟩
    · obtain ⟨x, hx⟩ : ∃ x, D.data[D.pos]? = some x := ⟨_, List.getElem?_eq_getElem (by rw [hlen, hS.pos]; omega)⟩
      rw [hx]
      refine ⟨rfl, hS.err, rfl, hS.odds, ?_, ?_⟩
      · simp [hA, hS.pos]
      · simp only
        rw [pre_succ hx, valD_snoc, hS.pos, ← e2]
        omega
    · rw [List.getElem?_eq_none (by rw [hlen, hS.pos]; omega)]
  · rw [if_neg hs, if_neg hs]
    simp only [hA]
    refine ⟨fun _ => ⟨trivial, hS.err, rfl, hS.odds, ?_, ?_⟩, fun hk => ?_⟩
    · simp [hA, hS.pos]
    · simp only
      rw [hS.pos, ← e2]
    · omega
theorem dcode_syn {D : Dec} {c : Cod} (hS : Syn D c) (hok : DecOk D) (h : CodOk c) (hf : CodFit c)
    {bound bit : Nat} (hb : BoundOk c bound) (hbit : bit = 0 ∨ bit = 1) (hF : Fut D.data (codeL c bound bit)) :
    (dcode D bound).1 = bit ∧ Syn (dcode D bound).2 (codeL c bound bit) :=
  (dcode_cut (k := D.data.length) hS (by simp) (Nat.le_refl _) hok.pos hok.dig h hf hb hbit hF).1 hF.len
theorem dOdds_syn {D : Dec} {c : Cod} (hS : Syn D c) (ctx : Nat) : dOddsAt D ctx = oddsAt c ctx := by
  unfold dOddsAt oddsAt
  rw [hS.odds]
theorem dget_cut {D : Dec} {c : Cod} {F : List Nat} {k : Nat} (hS : Syn D c) (hDF : D.data = F.take k) (hkF : k ≤ F.length) (hpos : D.pos ≤ D.data.length) (hd : ∀ d ∈ F, d < 256) (h : CodOk c) (hf : CodFit c)
    {ctx bit : Nat} (hctx : ctx < c.odds.length) (hbit : bit = 0 ∨ bit = 1) (hF : Fut F (putL c ctx bit)) :
    ((putL c ctx bit).low.length ≤ k → (dget D ctx).1 = bit ∧ Syn (dget D ctx).2 (putL c ctx bit)) ∧ (k < (putL c ctx bit).low.length → (dget D ctx).2.err = 3) := by
  have hc := dcode_cut hS hDF hkF hpos hd h hf (bound_put h hctx) hbit ⟨hF.len, hF.lo, hF.hi⟩
  unfold dget
  simp only
  rw [hS.W, dOdds_syn hS ctx]
  refine ⟨fun hk => ?_, fun hk => ?_⟩
  · obtain ⟨h1, h2⟩ := hc.1 hk
    rw [if_pos h2.err, h1]
    refine ⟨rfl, h2.err, h2.W, ?_, h2.pos, h2.V⟩
    simp only [putL]
    rw [hS.odds]
  · have h1 := hc.2 hk
    rw [if_neg (by omega)]
    exact h1
theorem dget_syn {D : Dec} {c : Cod} (hS : Syn D c) (hok : DecOk D) (h : CodOk c) (hf : CodFit c) {ctx bit : Nat} (hctx : ctx < c.odds.length) (hbit : bit = 0 ∨ bit = 1) (hF : Fut D.data (putL c ctx bit)) :
    (dget D ctx).1 = bit ∧ Syn (dget D ctx).2 (putL c ctx bit) :=
  (dget_cut (k := D.data.length) hS (by simp) (Nat.le_refl _) hok.pos hok.dig h hf hctx hbit hF).1 hF.len
theorem dget_data (D : Dec) (ctx : Nat) : (dget D ctx).2.data = D.data := by
  unfold dget
  simp only
  split <;> exact (dcode_data D _).1

theorem rawL_fit (v n : Nat) : ∀ {c : Cod}, CodOk c → CodFit c → CodFit (rawL c v n) := by
  induction n with
  | zero => exact fun _ h => h
  | succ n ih => exact fun h hf => ih (codeL_ok h (bound_raw h) _) (codeL_fit h hf (bound_raw h) _)
theorem fut_raw {data : List Nat} (hd : ∀ d ∈ data, d < 256) (v n : Nat) : ∀ {c : Cod}, CodOk c → CodFit c → Fut data (rawL c v n) → Fut data c := by
  induction n with
  | zero => exact fun _ _ h => h
  | succ n ih => exact fun h hf hF => fut_code h hd hf (bound_raw h) _ (ih (codeL_ok h (bound_raw h) _) (codeL_fit h hf (bound_raw h) _) hF)
theorem onesL_fit {c : Cod} (h : CodOk c) (hf : CodFit c) {ctx k : Nat} (hk : ctx + k ≤ c.odds.length) : CodFit (onesL c ctx k) := by
  induction k with
  | zero => exact hf
  | succ k ih => exact putL_fit (onesL_ok h (by omega)) (ih (by omega)) (by rw [onesL_odds_len]; omega) 1
theorem fut_ones {data : List Nat} (hd : ∀ d ∈ data, d < 256) {c : Cod} (h : CodOk c) (hf : CodFit c) {ctx k : Nat} (hk : ctx + k ≤ c.odds.length) (j : Nat) (hj : j ≤ k) (hF : Fut data (onesL c ctx k)) : Fut data (onesL c ctx j) := by
  induction k with
  | zero => obtain rfl : j = 0 := by omega
            exact hF
  | succ k ih =>
    by_cases e : j = k + 1
    · subst e; exact hF
    · exact ih (by omega) (by omega) (fut_put (onesL_ok h (by omega)) hd (onesL_fit h hf (by omega)) (by rw [onesL_odds_len]; omega) 1 hF)
/-- A number's middle: behind its ones and its zero. -/
def midL (c : Cod) (ctx d : Nat) : Cod := if d < 32 then putL (onesL c ctx d) (ctx + d) 0 else onesL c ctx d
theorem midL_ok {c : Cod} (h : CodOk c) {ctx d : Nat} (hd : d ≤ 32) (hc : ctx + 33 ≤ c.odds.length) : CodOk (midL c ctx d) := by
  have h1 : CodOk (onesL c ctx d) := onesL_ok h (by omega)
  unfold midL
  split
  · exact putL_ok h1 (by rw [onesL_odds_len]; omega) 0
  · exact h1
theorem midL_fit {c : Cod} (h : CodOk c) (hf : CodFit c) {ctx d : Nat} (hd : d ≤ 32) (hc : ctx + 33 ≤ c.odds.length) : CodFit (midL c ctx d) := by
  have h1 : CodOk (onesL c ctx d) := onesL_ok h (by omega)
  have h2 : CodFit (onesL c ctx d) := onesL_fit h hf (by omega)
  unfold midL
  split
  · exact putL_fit h1 h2 (by rw [onesL_odds_len]; omega) 0
  · exact h2
theorem numL_mid (c : Cod) (ctx v : Nat) : numL c ctx v = rawL (midL c ctx (Nat.log2 (v + 1))) (v + 1 - 2 ^ Nat.log2 (v + 1)) (Nat.log2 (v + 1)) := rfl
theorem numL_fit {c : Cod} (h : CodOk c) (hf : CodFit c) {ctx v : Nat} (hv : v < 4294967296) (hc : ctx + 33 ≤ c.odds.length) : CodFit (numL c ctx v) :=
  rawL_fit _ _ (midL_ok h (log2_le hv) hc) (midL_fit h hf (log2_le hv) hc)
theorem fut_mid {data : List Nat} (hd : ∀ d ∈ data, d < 256) {c : Cod} (h : CodOk c) (hf : CodFit c) {ctx d : Nat} (hd32 : d ≤ 32) (hc : ctx + 33 ≤ c.odds.length) (hF : Fut data (midL c ctx d)) : Fut data (onesL c ctx d) := by
  unfold midL at hF
  split at hF
  · exact fut_put (onesL_ok h (by omega)) hd (onesL_fit h hf (by omega)) (by rw [onesL_odds_len]; omega) 0 hF
  · exact hF
theorem fut_num {data : List Nat} (hd : ∀ d ∈ data, d < 256) {c : Cod} (h : CodOk c) (hf : CodFit c) {ctx v : Nat} (hv : v < 4294967296) (hc : ctx + 33 ≤ c.odds.length) (hF : Fut data (numL c ctx v)) : Fut data c := by
  rw [numL_mid] at hF
  have h1 := fut_raw hd _ _ (midL_ok h (log2_le hv) hc) (midL_fit h hf (log2_le hv) hc) hF
  exact fut_ones hd h hf (k := Nat.log2 (v + 1)) (by have := log2_le hv; omega) 0 (Nat.zero_le _) (fut_mid hd h hf (log2_le hv) hc h1)
end Go.Proofs.YtpkplhmdnjdmoaaGreatDoor

/- The decoder's functions, the fourth part: Raw and Number of a decoder that stands where the coder stood. -/
namespace Go.Proofs.YtpkplhmdnjdmoaaGreatDoor
set_option linter.unusedSimpArgs false
set_option linter.unusedVariables false
open Go.RowKit

theorem or_bitA (q bit : Nat) (hq : q < 4294967296) (hb : bit = 0 ∨ bit = 1) : bits BinOp.or IntKind.u64 ((q : Int) * 2) (bit : Int) = ((q * 2 + bit : Nat) : Int) := by
  have h1 := u64_or_nat (q * 2) bit (by omega) (by omega)
  have h2 : q * 2 ||| bit = q * 2 + bit := by
    have := Nat.two_pow_add_eq_or_of_lt (i := 1) (b := bit) (by omega) q
    rw [Nat.mul_comm q 2]
    simpa using this.symm
  rw [h2] at h1
  have e : ((q * 2 : Nat) : Int) = (q : Int) * 2 := by simp
  rw [← e]
  exact h1

set_option maxRecDepth 100000 in
set_option maxHeartbeats 2000000 in
theorem draw_syn (w : World) (b g h : Nat) (D : Dec) (c : Cod) (v n : Nat) (hc : IsDec 186 w b g h D) (hok : DecOk D) (hS : Syn D c) (hco : CodOk c) (hf : CodFit c) (hn : n ≤ 32) (hv : v < 2 ^ n) (hv64 : v < 4294967296)
    (hF : Fut D.data (rawL c v n)) :
    Calls Tryz.prog 156 #[.pointer (some ⟨b, 0, none⟩), .int .i64 n] w fun e w' => e = .returned (.int .u64 v) ∧
      ∃ D', IsDec 186 w' b g h D' ∧ DecOk D' ∧ Syn D' (rawL c v n) ∧ D'.data = D.data ∧ Chg [b] w w' := by
  have t1 : decide ((n : Int) < 0) = false := by simp
  have t2 : decide ((32 : Int) < n) = false := by simp; omega
  have HF := hid hF
  have HV := hid hv
  clear hF hv
  have c5 : w.cell? ⟨b, 5, none⟩ = some (.int .i64 0) := by
    obtain ⟨vd, vo, hb, -, -⟩ := hc.ex
    have := hb.cell 5
    simpa [hS.err] using this
  go_enter Tryz.func156, Tryz.ntmps156
  go_wp2_with fail
  go_loopg [5, 21] n (fun k x i wr => ∃ (D' : Dec) (c' : Cod), k ≤ n ∧ x = .int .u64 ((v / 2 ^ k : Nat) : Int) ∧ i = .int .i64 ((n - k : Nat) : Int) ∧ IsDec 186 wr b g h D' ∧ DecOk D' ∧ Syn D' c' ∧ CodOk c' ∧ CodFit c' ∧
      Hid (rawL c v n = rawL c' v k) ∧ Hid (D'.data = D.data) ∧ Chg [b] w wr)
  case atStart => exact ⟨D, c, Nat.le_refl _, by rw [Nat.div_eq_of_lt HV.out]; rfl, by simp, hc, hok, hS, hco, hf, hid rfl, hid rfl, Chg.refl _ _⟩
  case round =>
    obtain ⟨D', c', hk, rfl, rfl, hcr, hokr, hSr, hcor, hfr, Hr, Hdata, hch⟩ := hrel
    rcases gk with _ | k
    · have t4 : decide (((n - 0 : Nat) : Int) < n) = false := by simp
      go_wp2_with fail
      go_ret
      refine ⟨by simp, D', hcr, hokr, ?_, Hdata.out, hch⟩
      rw [Hr.out]; exact hSr
    · obtain ⟨m, hm⟩ : ∃ m, m = n - (k + 1) := ⟨_, rfl⟩
      rw [← hm]
      have hm1 : m < n := by omega
      have hm2 : n - k = m + 1 := by omega
      have HM := hid hm2
      clear hm hm2
      obtain ⟨bit, hbit⟩ : ∃ bit, bit = v / 2 ^ k % 2 := ⟨_, rfl⟩
      have hvk : v / 2 ^ k = (v / 2 ^ (k + 1)) * 2 + bit := by
        rw [hbit, Nat.pow_succ, ← Nat.div_div_eq_div_mul]; omega
      have hle : v / 2 ^ (k + 1) ≤ v := Nat.div_le_self _ _
      obtain ⟨q, hq⟩ : ∃ q, q = v / 2 ^ (k + 1) := ⟨_, rfl⟩
      rw [← hq] at hvk hle ⊢
      have hbit1 : bit = 0 ∨ bit = 1 := by omega
      have HVK := hid hvk
      have hF2 : Fut D'.data (rawL (codeL c' (c'.W / 2) bit) v k) := by
        have := HF.out
        rw [Hr.out] at this
        rw [Hdata.out, hbit]
        exact this
      have Hr2 : Hid (rawL c v n = rawL (codeL c' (c'.W / 2) bit) v k) := by
        refine hid ?_
        rw [Hr.out, hbit]
        rfl
      have hbd := bound_raw hcor
      have hF3 := fut_raw hokr.dig v k (codeL_ok hcor hbd bit) (codeL_fit hcor hfr hbd bit) hF2
      have hsy := dcode_syn hSr hokr hcor hfr hbd hbit1 hF3
      have hdata2 := (dcode_data D' (c'.W / 2)).1
      have hok2 := dcode_ok hokr (bound := c'.W / 2) (by rw [hSr.W]; exact hbd)
      have HB1 := hid hbit1
      have hbit2 : bit ≤ 1 := by omega
      have HSY := hid hsy
      have HD2 := hid hdata2
      clear hbit hvk hq hbit1 hsy hdata2 hF2 hF3
      obtain ⟨vd, vo, hb, hl, ho⟩ := hcr.ex
      have c3 := hb.cell 3
      simp at c3
      have HW := hid hSr.W
      rw [hSr.W] at c3
      obtain ⟨W2, hW2⟩ : ∃ W2, W2 = c'.W / 2 := ⟨_, rfl⟩
      have hw2 : IntKind.u64.wrap ((c'.W : Int) / 2) = (W2 : Int) := by
        have e : (c'.W : Int) / 2 = ((c'.W / 2 : Nat) : Int) := by simp
        rw [e, hW2]
        exact IntWalk.u64_in _ (by have := hcor.hi; omega)
      rw [← hW2] at HSY HD2 hok2 hbd Hr2
      have HW2 := hid hW2
      clear hW2 hb hl ho
      go_wp2_with fail
      refine (dcode_any wr b g h D' W2 hcr hokr (by rw [HW.out]; exact hbd)).mono ?_
      rintro e w1 ⟨rfl, hc1, hch1⟩
      rw [HSY.out.1]
      have c5' : w1.cell? ⟨b, 5, none⟩ = some (.int .i64 0) := by
        obtain ⟨vd, vo, hb, -, -⟩ := hc1.ex
        have := hb.cell 5
        simpa [HSY.out.2.err] using this
      go_wp2_with fail
      rw [or_bitA q bit (by omega) HB1.out]
      go_roundg k
      case measure => omega
      case rel =>
        rw [HM.out]
        refine ⟨_, _, by omega, by rw [HVK.out], by go_num, hc1, hok2, HSY.out.2, codeL_ok hcor hbd bit, codeL_fit hcor hfr hbd bit, Hr2, hid ?_, hch.trans_same hch1⟩
        rw [HD2.out]; exact Hdata.out

theorem num_val (v d : Nat) (h : 2 ^ d ≤ v + 1) (hv : v < 4294967296) : IntKind.u64.wrap (IntKind.u64.wrap (IntKind.u64.wrap ((2 : Int) ^ d) + ((v + 1 - 2 ^ d : Nat) : Int)) - 1) = (v : Int) := by
  have e : ((2 : Int) ^ d) = ((2 ^ d : Nat) : Int) := by simp
  rw [e]
  generalize 2 ^ d = p at *
  rw [IntWalk.u64_in (p : Int) (by omega), IntWalk.u64_in ((p : Int) + ((v + 1 - p : Nat) : Int)) (by omega), IntWalk.u64_in _ (by omega)]
  omega

/-- What a number's decoding leaves. -/
def NumPost (T : TypeId) (w : World) (b g h : Nat) (D : Dec) (c : Cod) (ctx v most : Nat) (e : Ending) (w' : World) : Prop :=
  e = .returned (.int .u64 ((if v ≤ most then v else 0 : Nat) : Int)) ∧
    ∃ D', IsDec T w' b g h D' ∧ (if v ≤ most then DecOk D' ∧ Syn D' (numL c ctx v) else D'.err = 2) ∧ D'.data = D.data ∧ Chg [b, h] w w'

set_option maxRecDepth 100000 in
set_option maxHeartbeats 2000000 in
theorem dnum_syn (w : World) (b g h : Nat) (D : Dec) (c : Cod) (ctx v most : Nat) (hc : IsDec 186 w b g h D) (hok : DecOk D) (hS : Syn D c) (hco : CodOk c) (hf : CodFit c) (hctx : ctx + 33 ≤ c.odds.length) (hv : v < 4294967296)
    (hmost : most < 18446744073709551616) (hF : Fut D.data (numL c ctx v)) :
    Calls Tryz.prog 125 #[.pointer (some ⟨b, 0, none⟩), .int .i64 ctx, .int .u64 most] w (NumPost 186 w b g h D c ctx v most) := by
  obtain ⟨vd, vo, hb, hl, ho⟩ := hc.ex
  obtain ⟨capo, rfl, hcp, hcom, -, -⟩ := ho.open_map
  have c4 := hb.cell 4
  have c5 := hb.cell 5
  simp at c4 c5
  rw [hS.err] at c5
  rw [hS.odds] at c4 hcp
  clear hb hl ho
  have t2 : decide ((ctx : Int) < 0) = false := by simp
  have t3 : decide ((c.odds.length : Int) - 33 < (ctx : Int)) = false := by simp; omega
  obtain ⟨d, hd⟩ : ∃ d, d = Nat.log2 (v + 1) := ⟨_, rfl⟩
  have hd32 : d ≤ 32 := by rw [hd]; exact log2_le hv
  have h2d : 2 ^ d ≤ v + 1 := by rw [hd]; exact Nat.log2_self_le (by omega)
  have h2d' : v + 1 < 2 ^ (d + 1) := by rw [hd]; exact Nat.lt_log2_self
  have hnum : numL c ctx v = rawL (midL c ctx d) (v + 1 - 2 ^ d) d := by rw [hd]; rfl
  have hmidok : CodOk (midL c ctx d) := midL_ok hco hd32 hctx
  have hmidf : CodFit (midL c ctx d) := midL_fit hco hf hd32 hctx
  have hF1 : Fut D.data (rawL (midL c ctx d) (v + 1 - 2 ^ d) d) := by rw [← hnum]; exact hF
  have hF2 : Fut D.data (midL c ctx d) := fut_raw hok.dig _ _ hmidok hmidf hF1
  have hF3 : Fut D.data (onesL c ctx d) := fut_mid hok.dig hco hf hd32 hctx hF2
  have hF4 : ∀ j, j ≤ d → Fut D.data (onesL c ctx j) := fun j hj => fut_ones hok.dig hco hf (by omega) j hj hF3
  have HF1 := hid hF1
  have HF2 := hid hF2
  have HF4 := hid hF4
  have HN := hid hnum
  have H2 := hid h2d'
  clear hd hnum hF hF1 hF2 hF3 hF4 h2d'
  go_enter Tryz.func125, Tryz.ntmps125
  go_wp2_with fail
  go_loopg [7] d (fun k n wr => ∃ (D' : Dec), k ≤ d ∧ n = .int .i64 ((d - k : Nat) : Int) ∧ IsDec 186 wr b g h D' ∧ DecOk D' ∧ Syn D' (onesL c ctx (d - k)) ∧ Hid (D'.data = D.data) ∧ Chg [b, h] w wr)
  case atStart => exact ⟨D, Nat.le_refl _, by simp, hc, hok, by simpa [onesL] using hS, hid rfl, Chg.refl _ _⟩
  case round =>
    obtain ⟨D', hk, rfl, hcr, hokr, hSr, Hdata, hch⟩ := hrel
    have hdone : ∀ Dz, DecOk Dz → Syn Dz (midL c ctx d) → Dz.data = D.data → True := fun _ _ _ _ => trivial
    clear hdone
    rcases gk with _ | k
    · simp only [Nat.sub_zero] at hSr ⊢
      have hlo : CodOk (onesL c ctx d) := onesL_ok hco (by omega)
      have hlf : CodFit (onesL c ctx d) := onesL_fit hco hf (by omega)
      have hol : ctx + d ≤ (onesL c ctx d).odds.length := by rw [onesL_odds_len]; omega
      by_cases hlt : d < 32
      · have t4 : decide ((d : Int) < 32) = true := by simp; omega
        have hmid : midL c ctx d = putL (onesL c ctx d) (ctx + d) 0 := by unfold midL; rw [if_pos hlt]
        have hcl : ctx + d < (onesL c ctx d).odds.length := by rw [onesL_odds_len]; omega
        have hsy := dget_syn hSr hokr hlo hlf hcl (bit := 0) (by simp) (by rw [Hdata.out, ← hmid]; exact HF2.out)
        have hok2 := dget_ok hokr (ctx := ctx + d) (by rw [hSr.odds]; exact hcl)
        have hdat := dget_data D' (ctx + d)
        have HS := hid hsy
        have HM := hid hmid
        have HDt := hid hdat
        clear hmid hsy hdat
        go_wp2_with fail
        rw [show ((ctx : Int) + d) = ((ctx + d : Nat) : Int) from by omega]
        refine (dget_any wr b g h D' (ctx + d) hcr hokr hSr.err (by rw [hSr.odds]; exact hcl)).mono ?_
        rintro e wz ⟨rfl, hcz, hchz⟩
        rw [HS.out.1]
        have hokz := hok2
        have hSz : Syn (dget D' (ctx + d)).2 (midL c ctx d) := by rw [HM.out]; exact HS.out.2
        have hdz : Hid ((dget D' (ctx + d)).2.data = D.data) := hid (by rw [HDt.out]; exact Hdata.out)
        have hchz2 : Chg [b, h] w wz := hch.trans_same hchz
        generalize (dget D' (ctx + d)).2 = Dz at *
        go_wp2_with fail
        refine (draw_syn wz b g h Dz (midL c ctx d) (v + 1 - 2 ^ d) d hcz hokz hSz hmidok hmidf hd32 (by have := H2.out; rw [Nat.pow_succ] at this; omega) (by have : 1 ≤ 2 ^ d := Nat.one_le_two_pow; omega) (by rw [hdz.out]; exact HF1.out)).mono ?_
        rintro e w2 ⟨rfl, D2, hc2, hok3, hS2, hd2, hch2⟩
        obtain ⟨vd2, vo2, hb2, hl2, ho2⟩ := hc2.ex
        have c5z := hb2.cell 5
        simp at c5z
        rw [hS2.err] at c5z
        have f5z := hb2.frozen 5
        have hgb2 := hl2.ne_ hb2 (by decide)
        have hhb2 := ho2.ne_ hb2 (by decide)
        have HD2 := hid hd2
        have hval := num_val v d h2d hv
        have hch3 : Chg [b, h] w w2 := hchz2.trans hch2 (by simp)
        clear hd2
        by_cases hm : v ≤ most
        · have t6 : decide (most < v) = false := by simpa using hm
          go_wp2
          go_ret
          unfold NumPost
          simp only [if_pos hm]
          exact ⟨rfl, D2, hc2, ⟨hok3, by rw [HN.out]; exact hS2⟩, by rw [HD2.out]; exact hdz.out, hch3⟩
        · have t6 : decide (most < v) = true := by simp; omega
          go_wp2
          go_ret
          unfold NumPost
          simp only [if_neg hm]
          refine ⟨rfl, { D2 with err := 2 }, ⟨vd2, vo2, ?_, hl2.far (p := ⟨b, 5, none⟩) hgb2 _, ho2.far (p := ⟨b, 5, none⟩) hhb2 _⟩, rfl, by simp only; rw [HD2.out]; exact hdz.out, hch3.setCell (by simp) _⟩
          have := hb2.set_ 5 (.int .i64 2)
          simpa using this
      · have t4 : decide ((d : Int) < 32) = false := by simp; omega
        have hmid : midL c ctx d = onesL c ctx d := by unfold midL; rw [if_neg hlt]
        have hcz := hcr
        have hokz := hokr
        have hSz : Syn D' (midL c ctx d) := by rw [hmid]; exact hSr
        have hdz := Hdata
        have hchz2 := hch
        clear hmid
        generalize D' = Dz at *
        obtain ⟨wz, hwz⟩ : ∃ wz, wz = wr := ⟨_, rfl⟩
        subst hwz
        go_wp2_with fail
        refine (draw_syn wz b g h Dz (midL c ctx d) (v + 1 - 2 ^ d) d hcz hokz hSz hmidok hmidf hd32 (by have := H2.out; rw [Nat.pow_succ] at this; omega) (by have : 1 ≤ 2 ^ d := Nat.one_le_two_pow; omega) (by rw [hdz.out]; exact HF1.out)).mono ?_
        rintro e w2 ⟨rfl, D2, hc2, hok3, hS2, hd2, hch2⟩
        obtain ⟨vd2, vo2, hb2, hl2, ho2⟩ := hc2.ex
        have c5z := hb2.cell 5
        simp at c5z
        rw [hS2.err] at c5z
        have f5z := hb2.frozen 5
        have hgb2 := hl2.ne_ hb2 (by decide)
        have hhb2 := ho2.ne_ hb2 (by decide)
        have HD2 := hid hd2
        have hval := num_val v d h2d hv
        have hch3 : Chg [b, h] w w2 := hchz2.trans hch2 (by simp)
        clear hd2
        by_cases hm : v ≤ most
        · have t6 : decide (most < v) = false := by simpa using hm
          go_wp2
          go_ret
          unfold NumPost
          simp only [if_pos hm]
          exact ⟨rfl, D2, hc2, ⟨hok3, by rw [HN.out]; exact hS2⟩, by rw [HD2.out]; exact hdz.out, hch3⟩
        · have t6 : decide (most < v) = true := by simp; omega
          go_wp2
          go_ret
          unfold NumPost
          simp only [if_neg hm]
          refine ⟨rfl, { D2 with err := 2 }, ⟨vd2, vo2, ?_, hl2.far (p := ⟨b, 5, none⟩) hgb2 _, ho2.far (p := ⟨b, 5, none⟩) hhb2 _⟩, rfl, by simp only; rw [HD2.out]; exact hdz.out, hch3.setCell (by simp) _⟩
          have := hb2.set_ 5 (.int .i64 2)
          simpa using this
    · obtain ⟨m, hm⟩ : ∃ m, m = d - (k + 1) := ⟨_, rfl⟩
      rw [← hm] at hSr ⊢
      have hm1 : m < d := by omega
      have hm2 : d - k = m + 1 := by omega
      have HM := hid hm2
      clear hm hm2
      have t4 : decide ((m : Int) < 32) = true := by simp; omega
      have hlo : CodOk (onesL c ctx m) := onesL_ok hco (by omega)
      have hlf : CodFit (onesL c ctx m) := onesL_fit hco hf (by omega)
      have hcl : ctx + m < (onesL c ctx m).odds.length := by rw [onesL_odds_len]; omega
      have hsy := dget_syn hSr hokr hlo hlf hcl (bit := 1) (by simp) (by rw [Hdata.out]; exact HF4.out (m + 1) (by omega))
      have hok2 := dget_ok hokr (ctx := ctx + m) (by rw [hSr.odds]; exact hcl)
      have hdat := dget_data D' (ctx + m)
      have HS := hid hsy
      have HDt := hid hdat
      clear hsy hdat
      go_wp2_with fail
      rw [show ((ctx : Int) + m) = ((ctx + m : Nat) : Int) from by omega]
      refine (dget_any wr b g h D' (ctx + m) hcr hokr hSr.err (by rw [hSr.odds]; exact hcl)).mono ?_
      rintro e wz ⟨rfl, hcz, hchz⟩
      rw [HS.out.1]
      go_wp2_with fail
      go_roundg k
      case measure => omega
      case rel =>
        rw [HM.out]
        exact ⟨_, by omega, by go_num, hcz, hok2, HS.out.2, hid (by rw [HDt.out]; exact Hdata.out), hch.trans_same hchz⟩
end Go.Proofs.YtpkplhmdnjdmoaaGreatDoor
