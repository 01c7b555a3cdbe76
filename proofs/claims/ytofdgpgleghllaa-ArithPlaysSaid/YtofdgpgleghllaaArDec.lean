/- The decoder's functions, each by its contract: code, Get, Left, Err. -/
import Derived.Test.YtofdgpgleghllaaArCod2
import Derived.Test.YtofdgpgleghllaaArPlainD
namespace Go.Proofs.Ytofdgpgleghllaa
set_option linter.unusedSimpArgs false
set_option linter.unusedVariables false
open Go.RowKit

set_option maxRecDepth 100000 in
set_option maxHeartbeats 2000000 in
theorem dcode_any (w : World) (b g h : Nat) (D : Dec) (bound : Nat) (hc : IsDec 69 w b g h D) (hok : DecOk D) (hbd : 65536 ≤ bound ∧ bound + 65536 ≤ D.W) :
    Calls Try.prog 41 #[.pointer (some ⟨b, 0, none⟩), .int .u64 bound] w fun e w' => e = .returned (.int .i64 ((dcode D bound).1 : Nat)) ∧
      IsDec 69 w' b g h (dcode D bound).2 ∧ Chg [b] w w' := by
  obtain ⟨vd, vo, hb, hl, ho⟩ := hc.ex
  have hgb := hl.ne_ hb (by decide)
  have hhb := ho.ne_ hb (by decide)
  obtain ⟨cap, rfl, hcl, hcm, hcell, -⟩ := hl.open_map
  have c0 := hb.cell 0
  have c1 := hb.cell 1
  have c2 := hb.cell 2
  have c3 := hb.cell 3
  have c5 := hb.cell 5
  have f1 := hb.frozen 1
  have f2 := hb.frozen 2
  have f3 := hb.frozen 3
  have f5 := hb.frozen 5
  simp at c0 c1 c2 c3 c5
  have hpos := hok.pos
  have hval := hok.val
  have hhi := hok.hi
  obtain ⟨hw1, hw2, hw3⟩ := dW_ok hok hbd
  obtain ⟨hb1, hb2⟩ := hbd
  obtain ⟨W1, hW1⟩ : ∃ W1, W1 = dW D bound := ⟨_, rfl⟩
  obtain ⟨V1, hV1⟩ : ∃ V1, V1 = dV D bound := ⟨_, rfl⟩
  obtain ⟨bit, hbit⟩ : ∃ bit, bit = dbit D bound := ⟨_, rfl⟩
  rw [← hW1] at hw1 hw2 hw3
  rw [← hV1] at hw3
  have hdc : dcode D bound = if W1 < 16777216 then
    (match D.data[D.pos]? with
      | none => (0, { D with err := 3 })
      | some x => (bit, { D with V := V1 * 256 + x, W := W1 * 256, pos := D.pos + 1 }))
  else (bit, { D with V := V1, W := W1 }) := by rw [hW1, hV1, hbit]; rfl
  have HC := hid hcell
  have HDC := hid hdc
  have HW := hid hW1
  have HV := hid hV1
  have HB := hid hbit
  clear hcell hdc hW1 hV1 hbit
  have hB := hb
  have hL := hl
  have hO := ho
  clear hb hl ho hc
  go_enter Try.func41, Try.ntmps41
  go_wp2
  go_quiet (fail)
  generalize nq = na
  go_upto_if 20 with fail
  go_cut [5, 6, 7] (fun s5 s6 s7 wx => s5 = .int .i64 (bit : Int) ∧ s6 = .int .u64 (V1 : Int) ∧ s7 = .int .u64 (W1 : Int) ∧ ∃ nq2, wx = w.drewN nq2)
  case first =>
    by_cases hV : bound ≤ D.V
    · have t1 : decide (bound ≤ D.V) = true := by simpa using hV
      go_wp2
      go_quiet (fail)
      go_wp2
      go_meet
      case rel =>
        refine ⟨?_, ?_, ?_, na + nq, by simp⟩
        · rw [HB.out]; unfold dbit; rw [if_pos hV]; rfl
        · rw [HV.out]; unfold dV; rw [if_pos hV]; go_num
        · rw [HW.out]; unfold dW; rw [if_pos hV]; go_num
    · have t1 : decide (bound ≤ D.V) = false := by simpa using hV
      go_wp2
      go_meet
      case rel =>
        refine ⟨?_, ?_, ?_, na, rfl⟩
        · rw [HB.out]; unfold dbit; rw [if_neg hV]; rfl
        · rw [HV.out]; unfold dV; rw [if_neg hV]
        · rw [HW.out]; unfold dW; rw [if_neg hV]
  case rest =>
    obtain ⟨rfl, rfl, rfl, nq2, rfl⟩ := hcut
    have hend : ∀ D' : Dec, D'.data = D.data → D'.odds = D.odds → dcode D bound = (bit, D') → ∀ wz, Blk wz b 69 #[.slice (some ⟨g, 0, none⟩) D.data.length cap, .int .i64 (D'.pos : Int), .int .u64 (D'.V : Int), .int .u64 (D'.W : Int), vo, .int .i64 (D'.err : Int)] →
        Chg [b] w wz → IsDec 69 wz b g h (dcode D bound).2 := fun D' e1 e2 e3 wz hz hch => by
      rw [e3]
      exact ⟨_, vo, hz, by rw [e1]; exact hL.chg hch (by simpa using hgb), by rw [e2]; exact hO.chg hch (by simpa using hhb)⟩
    have Hend := hid hend
    clear hend
    by_cases hs : W1 < 16777216
    · go_wp2_with fail
      go_loopg [6, 7, 8] 1 (fun k v wd at_ wr => ∃ V W p : Nat, v = .int .u64 (V : Int) ∧ wd = .int .u64 (W : Int) ∧ at_ = .int .i64 (p : Int) ∧ (∃ nq, wr = w.drewN nq) ∧
        ((k = 1 ∧ V = V1 ∧ W = W1 ∧ p = D.pos) ∨ (k = 0 ∧ 16777216 ≤ W ∧ W < 4294967296 ∧ Hid (dcode D bound = (bit, { D with V := V, W := W, pos := p })))))
      case atStart => exact ⟨V1, W1, D.pos, rfl, rfl, rfl, ⟨nq2, rfl⟩, .inl ⟨rfl, rfl, rfl, rfl⟩⟩
      case round =>
        obtain ⟨V, W, p, rfl, rfl, rfl, ⟨nq3, rfl⟩, hcase⟩ := hrel
        rcases hcase with ⟨rfl, rfl, rfl, rfl⟩ | ⟨rfl, hW1', hW2', hfin⟩
        · have t2 : decide ((W : Int) < 16777216) = true := by simp; omega
          by_cases hp : D.pos = D.data.length
          · have t3 : ((D.pos : Int) == (D.data.length : Int)) = true := by rw [beq_iff_eq]; omega
            have HP := hid hp
            clear hp
            go_wp2
            go_ret
            have e1 : dcode D bound = (0, { D with err := 3 }) := by
              rw [HDC.out, if_pos hs, List.getElem?_eq_none (by have := HP.out; omega)]
            rw [e1]
            refine ⟨rfl, ⟨.slice (some ⟨g, 0, none⟩) D.data.length cap, vo, ?_, (hL.drewN nq3).far (p := ⟨b, 5, none⟩) hgb _, (hO.drewN nq3).far (p := ⟨b, 5, none⟩) hhb _⟩, ((Chg.refl _ _).drewN nq3).setCell (by simp) _⟩
            have := (hB.drewN nq3).set_ 5 (.int .i64 3)
            simpa using this
          · have hlt : D.pos < D.data.length := by omega
            have t3 : ((D.pos : Int) == (D.data.length : Int)) = false := by rw [beq_eq_false_iff_ne]; omega
            obtain ⟨x, hx⟩ : ∃ x, D.data[D.pos]? = some x := ⟨_, List.getElem?_eq_getElem hlt⟩
            have hx2 : x < 256 := hok.dig x (by obtain ⟨h1, h2⟩ := List.getElem?_eq_some_iff.1 hx; rw [← h2]; exact List.getElem_mem h1)
            have hcx : w.cell? ⟨g, D.pos, none⟩ = some (.int .u8 (x : Int)) := HC.out _ _ hx
            have HX := hid hx
            clear hx hp
            go_wp2
            go_roundg 0
            case measure => omega
            case rel =>
              refine ⟨V * 256 + x, W * 256, D.pos + 1, by go_num, by go_num, by go_num, ⟨nq3, rfl⟩, .inr ⟨rfl, by omega, by omega, hid ?_⟩⟩
              rw [HDC.out, if_pos hs, HX.out]
        · have t2 : decide ((W : Int) < 16777216) = false := by simp; omega
          go_wp2
          go_ret
          refine ⟨?_, Hend.out { D with V := V, W := W, pos := p } rfl rfl hfin.out _ ?_ ?_, ?_⟩
          · rw [hfin.out]; rfl
          · have := (((hB.drewN nq3).set_ 2 (.int .u64 (V : Int))).set_ 3 (.int .u64 (W : Int))).set_ 1 (.int .i64 (p : Int))
            simpa using this
          · exact ((((Chg.refl _ _).drewN nq3).setCell (by simp) _).setCell (by simp) _).setCell (by simp) _
          · exact ((((Chg.refl _ _).drewN nq3).setCell (by simp) _).setCell (by simp) _).setCell (by simp) _
    · have t2 : decide ((W1 : Int) < 16777216) = false := by simp; omega
      go_wp2_with fail
      refine wp_loop_once ?_
      go_wp2
      go_ret
      have e1 : dcode D bound = (bit, { D with V := V1, W := W1 }) := by rw [HDC.out, if_neg hs]
      refine ⟨?_, Hend.out { D with V := V1, W := W1 } rfl rfl e1 _ ?_ ?_, ?_⟩
      · rw [e1]; rfl
      · have := (((hB.drewN nq2).set_ 2 (.int .u64 (V1 : Int))).set_ 3 (.int .u64 (W1 : Int))).set_ 1 (.int .i64 (D.pos : Int))
        simpa using this
      · exact ((((Chg.refl _ _).drewN nq2).setCell (by simp) _).setCell (by simp) _).setCell (by simp) _
      · exact ((((Chg.refl _ _).drewN nq2).setCell (by simp) _).setCell (by simp) _).setCell (by simp) _
end Go.Proofs.Ytofdgpgleghllaa
