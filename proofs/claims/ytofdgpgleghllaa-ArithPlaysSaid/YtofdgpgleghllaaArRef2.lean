/- The reference's coder, the second part: step, Put. -/
import Derived.Test.YtofdgpgleghllaaArRef
namespace Go.Proofs.Ytofdgpgleghllaa
set_option linter.unusedSimpArgs false
set_option linter.unusedVariables false
open Go.RowKit

/-- append of one element of one cell at a step of a region that draws its order. -/
theorem step_append_row1 {P : Program} {w : World} {ops : Array Oper} {o : Oper} {a : Act} {K : Act → World → Prop} {Q : Exit → Act → World → Prop} {E0 : Prop} (hgd : o.guard = none) {s x : Operand} {t : TypeId}
    (ho : o.op = .call { callee := .builtin .append, args := #[s, x], argTypes := #[t, t] })
    {e : TypeId} {z : Value} {bytes : Nat} (E : Elem P t e z 1 bytes) (hzs : z.cells.size = 1)
    {v : Value} {g : Nat} {xs : List Value} (hs : a.eval s = v) (hr : Row w e v g xs) {B c : Nat} (u : Value) (hx : a.eval x = .slice (some ⟨B, 0, none⟩) 1 c)
    (hu : w.cell? ⟨B, 0, none⟩ = some u) (h1 : u.oneCell' = true) (hbytes : (xs.length + 1) * bytes ≤ 140737488355328) (h63 : xs.length < 9223372036854775807)
    (h : ∀ g' cap w', Row w' e (.slice (some ⟨g', 0, none⟩) (xs.length + 1) cap) g' (xs ++ [u]) → Chg [g] w w' → (g' = g ∨ w.heap.size ≤ g') → K (a.put o.dst (.slice (some ⟨g', 0, none⟩) (xs.length + 1) cap)) w') :
    if Region.wanted o (yielded ops a.tmps) = true then Oper.wp P o a w K Q else E0 := by
  rw [if_pos (by simp [Region.wanted, hgd])]
  refine wp_append_sl ho E hzs (by decide) hs (hr.own 0 (Nat.zero_le _)) hx (news := [u]) (by simp) (by decide) ?_ (by simpa using h1) (by omega) hbytes ?_
  · intro j u' hj
    match j, hj with
    | 0, hj => simp at hj; subst hj; simpa [Addr.add] using hu
  · intro g' cap w' h2 h3 h4
    obtain ⟨g'', h5, h6⟩ := Row.of_own h2 rfl
    rw [hr.own_block] at h3 h4
    simp only [Value.ownBlock] at h6
    injection h6 with h6
    subst h6
    exact h g' cap w' h5 h3 (by rcases h4 with h4 | h4; · left; injection h4
                                · exact .inr h4)

set_option maxRecDepth 100000 in
set_option maxHeartbeats 4000000 in
set_option maxRecDepth 100000 in
theorem step_any (w : World) (b g h : Nat) (c : Cod) (bound bit : Nat) (hc : IsCod 63 w b g h c) (hok : CodOk c) (hbd : BoundOk c bound) (hbit : bit = 0 ∨ bit = 1)
    (hlen : c.low.length ≤ 1099511627776) :
    Calls Try.prog 37 #[.pointer (some ⟨b, 0, none⟩), .int .u64 bound, .int .i64 bit] w fun e w' => e = .returned (.tuple #[]) ∧
      ∃ g', IsCod 63 w' b g' h (codeL c bound bit) ∧ Chg [b, g] w w' ∧ (g' = g ∨ w.heap.size ≤ g') := by
  obtain ⟨vl, vo, hb, hl, ho⟩ := hc.ex
  obtain ⟨hb1, hb2⟩ := hbd
  have hhi := hok.hi
  have hgb := hl.ne_ hb (by decide)
  have hhb := ho.ne_ hb (by decide)
  have hgh := hl.ne_row ho (by decide)
  obtain ⟨cap, rfl, hcl, hcm, -, -⟩ := hl.open_map
  have hc0 := hb.cell 0
  have hc1 := hb.cell 1
  have hf1 := hb.frozen 1
  simp at hc0 hc1
  have hwid := widA_ok hok ⟨hb1, by omega⟩ bit
  obtain ⟨W1, hW1⟩ : ∃ W1, W1 = widA c bound bit := ⟨_, rfl⟩
  obtain ⟨l1, hl1⟩ : ∃ l1, l1 = lowA c bound bit := ⟨_, rfl⟩
  rw [← hW1] at hwid
  have HW1 := hid hW1
  have Hl1 := hid hl1
  clear hW1 hl1 
  have hlow : l1.length = c.low.length := by rw [Hl1.out, lowA_len]
  have Hlow := hid hlow
  clear hlow
  go_enter Try.func37, Try.ntmps37
  go_upto_if 7 with fail
  go_cut [] (fun wx => Blk wx b 63 #[.slice (some ⟨g, 0, none⟩) c.low.length cap, .int .u64 (W1 : Int), vo] ∧ Row wx 5 (.slice (some ⟨g, 0, none⟩) c.low.length cap) g (l1.map b8) ∧ Chg [b, g] w wx)
  case first =>
    rcases hbit with rfl | rfl
    · go_wp2
      go_meet
      case rel =>
        refine ⟨?_, ?_, (Chg.refl _ _).setCell (by simp) _⟩
        · have := hb.set_ 1 (.int .u64 (W1 : Int))
          rw [HW1.out] at this ⊢
          exact this
        · rw [Hl1.out]
          exact hl.far (p := ⟨b, 1, none⟩) hgb _
    · go_wp2_with (go_at_call 43; refine (more_any _ _ _ _ _ _ _ _ hb hl hok.dig (by omega)).mono ?_; rintro e w1 ⟨rfl, hl1, hch1⟩; have hb1 := hb.chg hch1 (by simpa using hgb.symm); have hc11 := hb1.cell 1; have hf11 := hb1.frozen 1; simp at hc11)
      go_meet
      case rel =>
        refine ⟨?_, ?_, (hch1.mono (F' := [b, g]) (by simp)).setCell (by simp) _⟩
        · have := hb1.set_ 1 (.int .u64 ((c.W : Int) - bound))
          have e : ((W1 : Nat) : Int) = (c.W : Int) - bound := by rw [HW1.out]; unfold widA; simp; omega
          rw [e]
          exact this
        · rw [Hl1.out]
          exact hl1.far (p := ⟨b, 1, none⟩) hgb _
  case rest =>
    obtain ⟨hbc, hlc, hchc⟩ := hcut
    have hd0 := hbc.cell 0
    have hd1 := hbc.cell 1
    have hg0 := hbc.frozen 0
    have hg1 := hbc.frozen 1
    simp at hd0 hd1
    clear hc0 hc1 hf1
    go_wp2_with fail
    go_loopg [] 1 (fun k wr => ∃ (g' cap' : Nat) (l : List Nat) (W : Nat), Blk wr b 63 #[.slice (some ⟨g', 0, none⟩) l.length cap', .int .u64 (W : Int), vo] ∧
        Row wr 5 (.slice (some ⟨g', 0, none⟩) l.length cap') g' (l.map b8) ∧ Chg [b, g] w wr ∧ (g' = g ∨ w.heap.size ≤ g') ∧
        ((k = 1 ∧ W = W1 ∧ l = l1) ∨ (k = 0 ∧ 16777216 ≤ W ∧ W < 4294967296 ∧ Hid (codeL c bound bit = ⟨l, W, c.odds⟩))))
    case atStart => exact ⟨g, cap, l1, W1, by rw [Hlow.out]; exact hbc, by rw [Hlow.out]; exact hlc, hchc, .inl rfl, .inl ⟨rfl, rfl, rfl⟩⟩
    case round =>
      clear hd0 hd1 hg0 hg1 hbc hlc
      obtain ⟨g', cap', l, W, hbr, hlr, hchr, hg', hcase⟩ := hrel
      have hgb' := hlr.ne_ hbr (by decide)
      have hd0 := hbr.cell 0
      have hd1 := hbr.cell 1
      have hg0 := hbr.frozen 0
      have hg1 := hbr.frozen 1
      simp at hd0 hd1
      have hend : ∀ W', W' = W → codeL c bound bit = ⟨l, W', c.odds⟩ → IsCod 63 wr b g' h (codeL c bound bit) := fun W' e he => by
        subst e
        rw [he]
        have hoh : h ∉ [b, g] := by simp; exact ⟨hhb, hgh.symm⟩
        exact ⟨_, vo, hbr, hlr, ho.chg hchr hoh⟩
      have Hend := hid hend
      clear hend
      rcases hcase with ⟨rfl, rfl, rfl⟩ | ⟨rfl, hW, hW2, Hfin⟩
      · by_cases hs : W < 16777216
        · have hdec : decide ((W : Int) < 16777216) = true := by simp; omega
          have hs1 : IntKind.u64.wrap ((W : Int) * 256) = ((W * 256 : Nat) : Int) := by
            have e : ((W : Int) * 256) = ((W * 256 : Nat) : Int) := by omega
            rw [e]
            exact IntWalk.u64_in _ (by omega)
          have hll : l.length ≤ 1099511627776 := by have := Hlow.out; omega
          go_wp2_with fail
          have hba := hbr.alloc (.cells #[.int .u8 0] 5)
          have n0 : (wr.alloc (Obj.cells #[Value.int IntKind.u8 0] 5)).cell? { block := b, off := 0 } = some (.slice (some ⟨g', 0, none⟩) l.length cap') := by simpa using hba.cell 0
          have n1 : (wr.alloc (Obj.cells #[Value.int IntKind.u8 0] 5)).cell? { block := b, off := 1 } = some (.int .u64 (W : Int)) := by simpa using hba.cell 1
          have n2 := hba.frozen 0
          have n3 := hba.frozen 1
          clear hba
          go_region_law (first | (refine step_append_row1 (by rfl) (by rfl) u8_el (by rfl) (by rfl) ((hlr.alloc (.cells #[.int .u8 0] 5)).drew) (.int .u8 0) (by rfl) (by simp [go_sem]) (by rfl) (by simp; omega) (by simp; omega) ?_; intro g2 cap2 w2 hl2 hch2 hg2; have hbb : Blk w2 b 63 #[.slice (some ⟨g', 0, none⟩) l.length cap', .int .u64 (W : Int), vo] := ((hbr.alloc (.cells #[.int .u8 0] 5)).drew).chg hch2 (by simpa using hgb'.symm); have y0 := hbb.cell 0; have y1 := hbb.cell 1; have z0 := hbb.frozen 0; have z1 := hbb.frozen 1; simp at y0 y1))
          all_goals go_ways
          all_goals
            have hgb2 := hl2.ne_ hbb (by decide)
            have hch3 : Chg [b, g] w w2 := ((hchr.alloc (.cells #[.int .u8 0] 5)).drew).trans hch2 (by
              intro x hx
              simp at hx
              subst hx
              rcases hg' with rfl | hg'
              · exact .inl (by simp)
              · exact .inr hg')
            have hsz := hchr.size
            have hg3 : g2 = g ∨ w.heap.size ≤ g2 := by
              rcases hg2 with rfl | hg2
              · exact hg'
              · exact .inr (Nat.le_trans ((hchr.alloc (.cells #[.int .u8 0] 5)).drew).size hg2)
            clear hch2
            go_wp2_with fail
            go_roundg 0
            case measure => omega
            case rel =>
              refine ⟨g2, cap2, l ++ [0], W * 256, ?_, ?_, (hch3.setCell (p := ⟨b, 1, none⟩) (by simp) _).setCell (by simp) _, hg3, .inr ⟨rfl, by omega, by omega, ?_⟩⟩
              · have h1 := (hbb.set_ 1 (.int .u64 ((W * 256 : Nat) : Int))).set_ 0 (.slice (some ⟨g2, 0, none⟩) (l.length + 1) cap2)
                simp at h1
                simpa using h1
              · have h1 := (hl2.far (p := ⟨b, 1, none⟩) hgb2 (.int .u64 ((W * 256 : Nat) : Int))).far (p := ⟨b, 0, none⟩) hgb2 (.slice (some ⟨g2, 0, none⟩) (l.length + 1) cap2)
                simpa [b8] using h1
              · refine hid ?_
                unfold codeL
                rw [← HW1.out, if_pos hs, ← Hl1.out]
        · have hdec : decide ((W : Int) < 16777216) = false := by simp; omega
          go_wp2
          go_end0
          refine ⟨rfl, g', ?_, hchr, hg'⟩
          refine Hend.out W rfl ?_
          unfold codeL
          rw [← HW1.out, if_neg hs, ← Hl1.out]
      · have hdec : decide ((W : Int) < 16777216) = false := by simp; omega
        go_wp2
        go_end0
        exact ⟨rfl, g', Hend.out W rfl Hfin.out, hchr, hg'⟩
end Go.Proofs.Ytofdgpgleghllaa
