/- grids of the tile law: two equal grids. -/
import Derived.Test.YtpkplhmdnjdmoaaGreatDoorMg43
import Derived.ChangeKeysEq
set_option linter.unusedVariables false
set_option linter.unusedSimpArgs false
namespace Go.Proofs.YtpkplhmdnjdmoaaGreatDoor
set_option linter.unusedSimpArgs false
set_option linter.unusedVariables false
open Go.RowKit

def sqAt (l : List Sq) (i : Nat) : Sq := l.getD i ⟨0, 0, 0, 0⟩
theorem sq_flat_get : ∀ (l : List Sq) (i : Nat), i < l.length →
    (l.flatMap sqCells)[i * 4]? = some (.int .i64 (sqAt l i).x) ∧ (l.flatMap sqCells)[i * 4 + 1]? = some (.int .i64 (sqAt l i).y) ∧ (l.flatMap sqCells)[i * 4 + 2]? = some (.int .i64 (sqAt l i).w) ∧ (l.flatMap sqCells)[i * 4 + 3]? = some (.int .i64 (sqAt l i).h)
  | [], i, h => by simp at h
  | s :: l, 0, _ => by
    rw [List.flatMap_cons]
    exact ⟨rfl, rfl, rfl, rfl⟩
  | s :: l, i + 1, h => by
    have hl : (sqCells s).length = 4 := rfl
    obtain ⟨a, b, c, d⟩ := sq_flat_get l i (by simpa using h)
    have e : sqAt (s :: l) (i + 1) = sqAt l i := rfl
    rw [List.flatMap_cons, e]
    refine ⟨?_, ?_, ?_, ?_⟩
    · rw [List.getElem?_append_right (by omega), hl, show (i + 1) * 4 - 4 = i * 4 by omega]; exact a
    · rw [List.getElem?_append_right (by omega), hl, show (i + 1) * 4 + 1 - 4 = i * 4 + 1 by omega]; exact b
    · rw [List.getElem?_append_right (by omega), hl, show (i + 1) * 4 + 2 - 4 = i * 4 + 2 by omega]; exact c
    · rw [List.getElem?_append_right (by omega), hl, show (i + 1) * 4 + 3 - 4 = i * 4 + 3 by omega]; exact d
theorem sq_cell {w : World} {A : Option Addr} {l : List Sq} (hc : Cells (fun v => v) w A (l.flatMap sqCells)) {i : Nat} (hi : i < l.length) :
    ∃ g o, A = some ⟨g, o, none⟩ ∧ w.cell? ⟨g, o + i * 4, none⟩ = some (.int .i64 (sqAt l i).x) ∧ w.cell? ⟨g, o + i * 4 + 1, none⟩ = some (.int .i64 (sqAt l i).y) ∧ w.cell? ⟨g, o + i * 4 + 2, none⟩ = some (.int .i64 (sqAt l i).w) ∧ w.cell? ⟨g, o + i * 4 + 3, none⟩ = some (.int .i64 (sqAt l i).h) := by
  have hl := sq_len l
  obtain ⟨g, o, e, _, h⟩ := hc.ex (by omega)
  obtain ⟨a, b, c, d⟩ := sq_flat_get l i hi
  exact ⟨g, o, e, h _ _ a, by have := h _ _ b; rwa [← Nat.add_assoc] at this, by have := h _ _ c; rwa [← Nat.add_assoc] at this, by have := h _ _ d; rwa [← Nat.add_assoc] at this⟩

theorem eq_four (a b c d : Int) (w : World) : (Op.equalIn 10000 25 (.agg #[.int .i64 a, .int .i64 b, .int .i64 c, .int .i64 d]) (.agg #[.int .i64 a, .int .i64 b, .int .i64 c, .int .i64 d])).run Tryz.prog w = .ok true w := by
  obtain ⟨i, hi, hz, hsize, hby⟩ := int_elem.hi
  have hco : Tryz.prog.cellsOf 3 = 1 := by kernel_rfl
  have hp : ∀ (xs : Array Value) (o : Nat) (x : Value), xs[o]? = some x → (part 3 xs o).run Tryz.prog w = .ok x w := by
    intro xs o x hx
    simp [part, isAgg, run_underlying Tryz.underlying3, hx]
  rw [show (10000 : Nat) = 9999 + 1 from rfl, run_equalIn_array w 9999 _ _ Tryz.underlying25 hi, hco]
  have he : ∀ x : Int, (Op.equalIn 9999 3 (.int .i64 x) (.int .i64 x)).run Tryz.prog w = .ok true w := fun x => by
    rw [show (9999 : Nat) = 9998 + 1 from rfl, run_equalIn_int w 9998 3 .i64 .i64 x x Tryz.underlying3]
    simp
  have hr : List.range 4 = [0, 1, 2, 3] := rfl
  rw [hr]
  have p0 := hp #[.int .i64 a, .int .i64 b, .int .i64 c, .int .i64 d] 0 (.int .i64 a) rfl
  have p1 := hp #[.int .i64 a, .int .i64 b, .int .i64 c, .int .i64 d] 1 (.int .i64 b) rfl
  have p2 := hp #[.int .i64 a, .int .i64 b, .int .i64 c, .int .i64 d] 2 (.int .i64 c) rfl
  have p3 := hp #[.int .i64 a, .int .i64 b, .int .i64 c, .int .i64 d] 3 (.int .i64 d) rfl
  simp [Op.eqItems, p0, p1, p2, p3, he]

set_option maxRecDepth 100000 in
set_option maxHeartbeats 1000000 in
theorem grids_same (w : World) (A B : Option Addr) (ca cb : Nat) (l : List Sq) (hA : Cells (fun v => v) w A (l.flatMap sqCells)) (hB : Cells (fun v => v) w B (l.flatMap sqCells)) (hl : l.length ≤ 4096) :
    Calls Tryz.prog 10 #[.slice A l.length ca, .slice B l.length cb] w fun e w' => e = .returned (.bool true) ∧ ∃ q, w' = w.drewN q := by
  obtain ⟨n, hn⟩ : ∃ n, n = l.length := ⟨_, rfl⟩
  rw [← hn] at hl ⊢
  have HN := hid hn
  have HA := hid hA
  have HB := hid hB
  clear hn hA hB
  have t2 : ((n : Int) != (n : Int)) = false := by simp
  go_enter Tryz.func10, Tryz.ntmps10
  go_wp2_with fail
  go_loopg [5] n (fun j iv wr => ∃ i q : Nat, iv = .int .i64 (i : Int) ∧ i + j = n ∧ wr = w.drewN q)
  case atStart => exact ⟨0, 0, rfl, by omega, rfl⟩
  case round =>
    obtain ⟨i, q, rfl, hij, rfl⟩ := hrel
    rcases gk with _ | j
    · obtain rfl : i = n := by omega
      have t5 : decide (i < i) = false := by simp
      go_wp2
      go_ret
      exact ⟨rfl, q, rfl⟩
    · have hin : i < n := by omega
      obtain ⟨g1, o1, rfl, a1, a2, a3, a4⟩ := sq_cell HA.out (i := i) (by rw [← HN.out]; exact hin)
      obtain ⟨g2, o2, rfl, b1, b2, b3, b4⟩ := sq_cell HB.out (i := i) (by rw [← HN.out]; exact hin)
      generalize sqAt l i = s at *
      go_wp2
      have heq := fun wz => eq_four (s.x : Int) (s.y : Int) (s.w : Int) (s.h : Int) wz
      go_quiet (fail)
      go_wp2
      go_roundg j
      case measure => omega
      case rel => exact ⟨i + 1, q + nq, by go_num, by omega, by first | rfl | rw [World.drewN_drewN]⟩
end Go.Proofs.YtpkplhmdnjdmoaaGreatDoor

/- known() of the tile law by its contract. -/
namespace Go.Proofs.YtpkplhmdnjdmoaaGreatDoor
set_option linter.unusedSimpArgs false
set_option linter.unusedVariables false
open Go.RowKit

theorem flat5_ahead : Ahead [0, 160] 0 (tileBits 0 flat5 2 2 8) := by
  have e := flat5_bits
  rw [flat5_best] at e
  rw [e]
  exact ⟨[0, 0, 0, 0, 0], by decide +kernel⟩
theorem cells_lit (w : World) (l : List Int) {vs : Array Value} (hv : vs = (l.map vi).toArray) : Cells vi (w.alloc (.cells vs 3)) (some ⟨w.heap.size, 0, none⟩) l :=
  ⟨fun _ => ⟨w.heap.size, 0, rfl, (Blk.new w 3 vs).lt, fun i a ha => by
    rw [(Blk.new w 3 vs).cell, hv]
    simp [ha]⟩⟩
theorem cells_sq (w : World) (l : List Sq) {vs : Array Value} (hv : vs = (l.flatMap sqCells).toArray) : Cells (fun v => v) (w.alloc (.cells vs 25)) (some ⟨w.heap.size, 0, none⟩) (l.flatMap sqCells) :=
  ⟨fun _ => ⟨w.heap.size, 0, rfl, (Blk.new w 25 vs).lt, fun i a ha => by
    rw [(Blk.new w 25 vs).cell, hv]
    simpa using ha⟩⟩
def knownGrid : List Sq := [⟨0, 0, 16, 3⟩, ⟨16, 0, 4, 3⟩]
theorem two_tile (w : World) : Tile (w.alloc (.cells #[.int .i64 1, .int .i64 2] 3)) [1, 2] (some ⟨w.heap.size, 0, none⟩) 2 1 8 :=
  ⟨by decide, by decide, by decide, by decide, by decide, by decide, rfl, fun s hs => by
    simp at hs
    rcases hs with rfl | rfl <;> decide, cells_lit w [1, 2] rfl⟩
set_option maxRecDepth 100000 in
set_option maxHeartbeats 2000000 in
theorem known_ok (w : World) (hp : Pts w) : Calls Tryz.prog 12 #[] w fun e w' => e = .returned (.bool true) ∧ Chg [] w w' := by
  obtain ⟨w1, hw1⟩ : ∃ w1, w1 = w.alloc (.cells #[.slice none 0 0, .int .i64 0] 37) := ⟨_, rfl⟩
  obtain ⟨b, hb⟩ : ∃ b, b = w.heap.size := ⟨_, rfl⟩
  have hwr : IsWr w1 b [b] [] := by rw [hw1, hb]; exact IsWr.new w
  have ch1 : Chg [] w w1 := by rw [hw1]; exact (Chg.refl [] w).alloc _
  have hp1 := hp.same ch1
  have hb0 : 0 ∉ [b] := by have := hp.lt; simp; omega
  have HW1 := hid hw1
  have HBB := hid hb
  have HP := hid hp
  -- the tile
  obtain ⟨w2, hw2⟩ : ∃ w2, w2 = w1.alloc (.cells #[.int .i64 5, .int .i64 5, .int .i64 5, .int .i64 5] 3) := ⟨_, rfl⟩
  obtain ⟨g, hg⟩ : ∃ g, g = w1.heap.size := ⟨_, rfl⟩
  have hcl : Cells vi w2 (some ⟨g, 0, none⟩) flat5 := by rw [hw2, hg]; exact cells_lit w1 flat5 rfl
  have ch2 : Chg [] w1 w2 := by rw [hw2]; exact (Chg.refl [] w1).alloc _
  have ht : Tile w2 flat5 (some ⟨g, 0, none⟩) 2 2 8 := ⟨by decide, by decide, by decide, by decide, by decide, by decide, rfl, fun s hs => by rw [flat5_mem s hs]; decide, hcl⟩
  have hap : Apt (some ⟨g, 0, none⟩) flat5 [b] := fun _ ad e => by
    injection e with e
    subst e
    have := hwr.lt b (by simp)
    simp only [List.mem_singleton]
    omega
  have hput := tput_ok 4 ht (hp1.same ch2) b [b] [] (hwr.same ch2) hap hb0 (by simp)
  unfold PutPost at hput
  rw [List.nil_append] at hput
  obtain ⟨T, hT⟩ : ∃ T, T = tileBits (bestKind flat5 2 2 8) flat5 2 2 8 := ⟨_, rfl⟩
  have hTl : Hid (T.length = 11) := hid (by rw [hT, flat5_bits]; rfl)
  have hTp : Hid (packed T = [0, 160]) := hid (by rw [hT, flat5_packed])
  rw [← hT] at hput
  have hgb : g = b + 1 := by rw [hg, hw1, hb]; simp
  have HW2 := hid hw2
  have HG := hid hgb
  have HLT := hid hap
  rw [hgb] at hput
  have hb0w : 0 < b := by rw [hb]; exact hp.lt
  have hch2 : Hid (Chg [] w w2) := hid (ch1.trans_same ch2)
  clear hT hw1 hb hw2 hg hgb hap hp hp1 hwr hcl ht
  go_enter Tryz.func12, Tryz.ntmps12
  go_wp2_with fail
  rw [← HW1.out, ← HBB.out, ← HW2.out]
  refine hput.mono ?_
  rintro e w3 ⟨rfl, F3, hwr3, hgr3⟩
  have hby := wbytes_ok w3 b F3 T hwr3 (by rw [hTl.out]; decide)
  clear hput
  go_wp2_with fail
  refine hby.mono ?_
  rintro e w4 ⟨v, G, rfl, hown, ch4, hG⟩
  rw [hTp.out] at hown
  obtain ⟨A, cap, rfl, hcl, hcm, hcells⟩ := hown.open_map
  have hnew := rnew_ok w4 A cap [0, 160] hcells (by decide) (by decide) hcl hcm
  rw [show ([0, 160] : List Nat).length = 2 from rfl] at hnew ⊢
  clear hby
  go_wp2_with fail
  refine hnew.mono ?_
  rintro e w5 ⟨r, FR, rfl, hrd, ch5, hFR⟩
  have hget := tget_flat (l := flat5) (W := 2) (H := 2) (d := 8) hrd (by decide) (by decide) (by decide) (by decide) (by decide) (by decide) rfl (fun s hs => by rw [flat5_mem s hs]; decide) flat5_may flat5_ahead
  unfold GetPost at hget
  clear hnew
  go_wp2_with fail
  refine hget.mono ?_
  rintro e w6 ⟨v6, G6, rfl, hown6, hrd6, ch6, hG6⟩
  obtain ⟨A6, cap6, rfl, hcl6, hcm6, hcells6⟩ := hown6.open_map
  have hwr6 : IsWr w6 b F3 T := ((hwr3.same ch4).same ch5).chg ch6 (fun x hx hm => by
    have := hwr3.lt x hx
    have := hFR x (by simpa using List.mem_singleton.1 hm ▸ hrd.mem)
    have := ch4.size
    omega)
  have hlen := wlen_any w6 b F3 T hwr6
  rw [hTl.out] at hlen
  rw [show flat5.length = 4 from rfl] at hcl6 ⊢
  clear hget
  go_wp2_with fail
  refine hlen.mono ?_
  rintro e wx ⟨rfl, rfl⟩
  have hby2 := wbytes_ok w6 b F3 T hwr6 (by rw [hTl.out]; decide)
  clear hlen
  go_wp2_with fail
  refine hby2.mono ?_
  rintro e w7 ⟨v7, G7, rfl, hown7, ch7, hG7⟩
  rw [hTp.out] at hown7
  obtain ⟨A7, cap7, rfl, hcl7, hcm7, hcells7⟩ := hown7.open_map
  obtain ⟨g7, o7, rfl, hlt7, hcell7⟩ := hcells7.ex (by decide)
  rw [show ([0, 160] : List Nat).length = 2 from rfl] at hcl7 ⊢
  have hcv : (Go.convert 35 9 (.slice (some ⟨g7, o7, none⟩) 2 cap7)).run Tryz.prog w7 = .ok (.string ⟨#[0, 160]⟩) w7 := by
    exact run_convert_bytes_arg w7 35 5 Tryz.underlying35 Tryz.underlying5 g7 o7 2 cap7 [0, 160] rfl (fun i hi => by
      match i, hi with
      | 0, _ => exact hcell7 0 0 rfl
      | 1, _ => exact hcell7 1 160 rfl) 9 Tryz.underlying9
  have hch3 : Chg [] w w3 := hch2.out.trans hgr3.chg fun x hx => .inr (by have := HBB.out; simp at hx; omega)
  have hch6 : Chg [] w w6 := ((hch3.trans_same ch4).trans_same ch5).trans ch6 fun x hx => .inr (by
    have h1 := hFR x (by simpa using List.mem_singleton.1 hx ▸ hrd.mem)
    have := hch3.size
    have := ch4.size
    omega)
  have hch7 := hid (hch6.trans_same ch7)
  have c6 := hcells6.same (ch7.trans_same ((Chg.refl [] w7).alloc (.cells #[.int .i64 5, .int .i64 5, .int .i64 5, .int .i64 5] 3)))
  have hin := ints_ok (w7.alloc (.cells #[.int .i64 5, .int .i64 5, .int .i64 5, .int .i64 5] 3)) A6 (some ⟨w7.heap.size, 0, none⟩) cap6 4 flat5 flat5 c6 (cells_lit w7 flat5 rfl) (by decide) (by decide)
  rw [show decide (flat5 = flat5) = true from by simp, show flat5.length = 4 from rfl] at hin
  clear hby2 hown hown6 hown7 hcells hcells6 hcells7 hcell7 hrd hrd6 hwr3 hwr6 hgr3 hch3 hch6 ch4 ch5 ch6 ch7 c6 hG hG6 hG7 hFR
  go_wp2_with fail
  refine hin.mono ?_
  rintro e w8 ⟨rfl, q8, rfl⟩
  have hch8 := hid ((hch7.out.alloc (.cells #[.int .i64 5, .int .i64 5, .int .i64 5, .int .i64 5] 3)).drewN q8)
  have htg := fun wz => tgrid_ok 20 3 16 wz (by decide) (by decide) (by decide) (by decide) (by decide) (by decide)
  rw [grid_known] at htg
  generalize (w7.alloc (.cells #[.int .i64 5, .int .i64 5, .int .i64 5, .int .i64 5] 3)).drewN q8 = w8 at *
  clear hin
  go_wp2_with fail
  refine (htg _).mono ?_
  rintro e w9 ⟨v9, F9, rfl, hsq, ch9, hF9⟩
  obtain ⟨A9, cap9, rfl, _, _, hc9, _⟩ := OwnK.open_ hsq
  have hch9 := hid (hch8.out.trans_same ch9)
  obtain ⟨wa, hwa⟩ : ∃ wa, wa = w9.alloc (.cells #[.int .i64 0, .int .i64 0, .int .i64 16, .int .i64 3, .int .i64 16, .int .i64 0, .int .i64 4, .int .i64 3] 25) := ⟨_, rfl⟩
  have chA : Chg [] w9 wa := by rw [hwa]; exact (Chg.refl [] w9).alloc _
  have hgs := grids_same wa A9 (some ⟨w9.heap.size, 0, none⟩) cap9 2 knownGrid (hc9.same chA) (by rw [hwa]; exact cells_sq w9 knownGrid rfl) (by decide)
  rw [show knownGrid.length = 2 from rfl] at hgs
  have HWA := hid hwa
  have hchA := hid (hch9.out.trans_same chA)
  clear htg hsq hwa hc9
  go_wp2_with fail
  rw [← HWA.out]
  refine hgs.mono ?_
  rintro e wb ⟨rfl, qb, rfl⟩
  have hchB := hid (hchA.out.drewN qb)
  clear hgs chA
  generalize wa.drewN qb = wb at *
  obtain ⟨wc', hwc⟩ : ∃ wc', wc' = wb.alloc (.cells #[.int .i64 1, .int .i64 2] 3) := ⟨_, rfl⟩
  have chC : Chg [] wb wc' := by rw [hwc]; exact (Chg.refl [] wb).alloc _
  have hchC := hid (hchB.out.trans_same chC)
  have hco := cost_ok 2 (by rw [hwc]; exact two_tile wb : Tile wc' [1, 2] (some ⟨wb.heap.size, 0, none⟩) 2 1 8) (HP.out.same hchC.out) 1 (by decide) (mayB_one _ _ _)
  rw [two_cost] at hco
  have HWC := hid hwc
  clear hwc chC
  go_wp2_with fail
  rw [← HWC.out]
  refine hco.mono ?_
  rintro e wd ⟨rfl, chD⟩
  go_wp2
  go_ret
  exact ⟨rfl, hchC.out.trans_same chD⟩
end Go.Proofs.YtpkplhmdnjdmoaaGreatDoor

/- The law TileSmall by its contract. -/
namespace Go.Proofs.YtpkplhmdnjdmoaaGreatDoor
set_option linter.unusedSimpArgs false
set_option linter.unusedVariables false
open Go.RowKit

theorem Row.cells_vi {w : World} {v : Value} {g : Nat} {l : List Int} (h : Row w 3 v g (l.map vi)) : ∃ cap, v = .slice (some ⟨g, 0, none⟩) l.length cap ∧ Cells vi w (some ⟨g, 0, none⟩) l := by
  have hlt := h.lt
  obtain ⟨cap, rfl, h2, h3, h4, h5⟩ := h.open_map
  exact ⟨cap, rfl, ⟨fun _ => ⟨g, 0, rfl, hlt, fun i a ha => by rw [Nat.zero_add]; exact h4 i a ha⟩⟩⟩
theorem apt_block {α : Type} {g : Nat} {l : List α} {F : List Nat} (h : g ∉ F) : Apt (some ⟨g, 0, none⟩) l F := fun _ ad e => by
  injection e with e
  subst e
  exact h
theorem small_flat {c : Int} {n d W H : Nat} (hn : 0 < n) : costK (bestKind (List.replicate n c) W H d) (List.replicate n c) W H d ≤ 3 + d := by
  have hm : mayB 0 (List.replicate n c) W d = true := flat_may W d (by simpa using hn) (fun x hx => List.eq_of_mem_replicate hx)
  have := (bestKind_ok (List.replicate n c) W H d).2.2 0 (by omega) hm
  rw [flat_cost] at this
  exact this
theorem small_any (l : List Int) (W H d : Nat) : costK (bestKind l W H d) l W H d ≤ 3 + d * l.length := by
  have := (bestKind_ok l W H d).2.2 1 (by omega) (mayB_one _ _ _)
  rw [plain_cost] at this
  exact this
set_option maxRecDepth 100000 in
set_option maxHeartbeats 2000000 in
theorem small_ok (w : World) (A : Option Addr) (cap : Nat) (L : List Int) (hc : Cells vi w A L) (hin : ∀ x ∈ L, In64 x) (hlen : L.length ≤ 9223372036854775807) (v : Int) (hv : In64 v) (hp : Pts w) :
    Calls Tryz.prog 5 #[.slice A L.length cap, .int .i64 v] w fun e w' => e = .returned (.bool true) ∧ Chg [] w w' := by
  have hnew := tape_new w A cap L hc hin hlen
  have HP := hid hp
  clear hc hin hlen hp
  go_enter Tryz.func5, Tryz.ntmps5
  go_wp2_with fail
  refine hnew.mono ?_
  rintro e w1 ⟨b, rfl, htp, ch1, hb⟩
  have hdr := drawn_tp w1 b cap 0 A L htp
  clear hnew htp
  go_wp2_with fail
  refine hdr.mono ?_
  rintro e w2 ⟨vl, g, l, at', W, H, d, rfl, hrow, hll, hsm, _, ch2, hg, hW0, hW1, hH0, hH1, hd0, hd1⟩
  have HC2 := hid (ch1.trans ch2 fun x hx => .inr (by simp at hx; omega))
  obtain ⟨capl, rfl, hcl⟩ := Row.cells_vi hrow
  have hglt := hrow.lt
  obtain ⟨n, hn⟩ : ∃ n, n = l.length := ⟨_, rfl⟩
  have hn0 : 0 < n := by rw [hn, hll]; exact Nat.mul_pos hW0 hH0
  have hn1 : n ≤ 256 := by rw [hn, hll]; exact Nat.mul_le_mul hW1 hH1
  rw [← hn]
  obtain ⟨c, hcv⟩ : ∃ c, c = wrapI v d := ⟨_, rfl⟩
  have hwr := fun w' => wrap24_ok v d w' hd0 hd1
  rw [← hcv] at hwr
  have hmk := run_make1 (P := Tryz.prog) int_elem rfl .i64 .i64 n (by omega) (by omega)
  have hrow0 := Row.zeros w2 n (by omega)
  obtain ⟨B, hB⟩ : ∃ B, B = w2.heap.size := ⟨_, rfl⟩
  have ch0 : Chg [] w2 (w2.alloc (.cells (List.replicate n (Value.int .i64 0)).toArray 3)) := (Chg.refl [] w2).alloc _
  rw [← hB] at hrow0
  have HB := hid hB
  have HN := hid hn
  have HLL := hid hll
  have HCV := hid hcv
  have HCL := hid hcl
  have HSM := hid hsm
  clear hdr hB hn hll hcv hcl hrow ch1 ch2 hg hsm
  go_wp2_with fail
  rw [← HB.out]
  go_loopg [10] n (fun j iv wr => ∃ i : Nat, iv = .int .i64 (i : Int) ∧ i + j = n ∧ Row wr 3 (.slice (some ⟨B, 0, none⟩) n n) B ((fillL (List.replicate i c) n).map vi) ∧ Hid (Chg [] w2 wr))
  case atStart => exact ⟨0, rfl, by omega, hrow0, hid ch0⟩
  case round =>
    clear hrow0 ch0
    obtain ⟨i, rfl, hij, hrow, HCH⟩ := hrel
    rcases gk with _ | j
    · obtain rfl : i = n := by omega
      have t1 : decide (i < i) = false := by simp
      rw [fillL_full (by simp)] at hrow
      obtain ⟨fl, hfl⟩ : ∃ fl, fl = List.replicate i c := ⟨_, rfl⟩
      have hfll : fl.length = i := by rw [hfl]; simp
      rw [← hfl] at hrow
      obtain ⟨b1, hb1⟩ : ∃ b1, b1 = wr.heap.size := ⟨_, rfl⟩
      obtain ⟨wa, hwa⟩ : ∃ wa, wa = wr.alloc (.cells #[.slice none 0 0, .int .i64 0] 37) := ⟨_, rfl⟩
      obtain ⟨wb, hwb⟩ : ∃ wb, wb = wa.alloc (.cells #[.slice none 0 0, .int .i64 0] 37) := ⟨_, rfl⟩
      have cha : Chg [] wr wa := by rw [hwa]; exact (Chg.refl [] wr).alloc _
      have chb : Chg [] wa wb := by rw [hwb]; exact (Chg.refl [] wa).alloc _
      have has : wa.heap.size = b1 + 1 := by rw [hwa, hb1]; simp
      have hbs : wb.heap.size = b1 + 1 + 1 := by rw [hwb]; simp [has]
      have hwra : IsWr wb b1 [b1] [] := by
        have := IsWr.new wr
        rw [← hwa, ← hb1] at this
        exact this.same chb
      have hwrb : IsWr wb (b1 + 1) [b1 + 1] [] := by
        have := IsWr.new wa
        rw [← hwb, has] at this
        exact this
      have ch2b : Chg [] w2 wb := (HCH.out.trans_same cha).trans_same chb
      have ch0b : Chg [] w wb := HC2.out.trans_same ch2b
      have hgw : g < b1 := by rw [hb1]; have := HCH.out.size; omega
      have hBw : B < b1 := by rw [hb1]; exact hrow.lt
      have hw2b : w2.heap.size ≤ b1 := by rw [hb1]; exact HCH.out.size
      have hww : w.heap.size ≤ b1 := Nat.le_trans HC2.out.size hw2b
      have hpw := HP.out.lt
      have ht1 : Tile wb l (some ⟨g, 0, none⟩) W H d := ⟨hW0, hW1, hH0, hH1, hd0, hd1, HLL.out, HSM.out, HCL.out.same ch2b⟩
      obtain ⟨capB, hvB, hcB⟩ := Row.cells_vi hrow
      have hcr : 0 ≤ wrapI v d ∧ wrapI v d < 2 ^ d := ⟨wrapI_lo v d, wrapI_hi v d⟩
      have ht2 : ∀ wz, Chg [] wb wz → Tile wz fl (some ⟨B, 0, none⟩) W H d := fun wz hz => ⟨hW0, hW1, hH0, hH1, hd0, hd1, by rw [hfll, HN.out]; exact HLL.out, fun s hs => by rw [hfl] at hs; rw [List.eq_of_mem_replicate hs, HCV.out]; exact hcr, hcB.same ((cha.trans_same chb).trans_same hz)⟩
      have hput1 := tput_ok capl ht1 (HP.out.same ch0b) b1 [b1] [] hwra (apt_block (by simp; omega)) (by simp; omega) (by simp)
      unfold PutPost at hput1
      rw [List.nil_append, ← HN.out] at hput1
      have hs1 := small_any l W H d
      have hs2 := small_flat (c := c) (n := i) (d := d) (W := W) (H := H) hn0
      rw [← HN.out] at hs1
      rw [← hfl] at hs2
      unfold costK at hs1 hs2
      obtain ⟨T1, hT1⟩ : ∃ T1, T1 = tileBits (bestKind l W H d) l W H d := ⟨_, rfl⟩
      obtain ⟨T2, hT2⟩ : ∃ T2, T2 = tileBits (bestKind fl W H d) fl W H d := ⟨_, rfl⟩
      rw [← hT1] at hput1 hs1
      rw [← hT2] at hs2
      have HT2 := hid hT2
      obtain ⟨a1, ha1⟩ : ∃ a1, a1 = T1.length := ⟨_, rfl⟩
      obtain ⟨a2, ha2⟩ : ∃ a2, a2 = T2.length := ⟨_, rfl⟩
      rw [← ha1] at hs1
      rw [← ha2] at hs2
      obtain ⟨dn, hdn⟩ : ∃ dn, dn = d * i := ⟨_, rfl⟩
      have edn : (d : Int) * (i : Int) = (dn : Int) := by rw [hdn]; simp
      rw [← hdn] at hs1
      obtain ⟨m1, hm1⟩ : ∃ m1 : Nat, m1 = 3 + dn := ⟨_, rfl⟩
      obtain ⟨m2, hm2⟩ : ∃ m2 : Nat, m2 = 3 + d := ⟨_, rfl⟩
      have em1 : (3 : Int) + (dn : Int) = (m1 : Int) := by omega
      have em2 : (3 : Int) + (d : Int) = (m2 : Int) := by omega
      have u1 : decide (a1 ≤ m1) = true := decide_eq_true (by omega)
      have u2 : decide (a2 ≤ m2) = true := decide_eq_true (by omega)
      have hdn4 : dn ≤ 4096 := by rw [hdn]; exact Nat.mul_le_mul hd1 hn1
      have hmf : mayB 0 fl W d = true := by rw [hfl]; exact flat_may W d (by simpa using hn0) (fun x hx => List.eq_of_mem_replicate hx)
      have HA1 := hid ha1
      have HA2 := hid ha2
      have HFL := hid hfll
      have HWB := hid hwb
      have HWA := hid hwa
      have HB1 := hid hb1
      have HBS := hid hbs
      have HHS := hid has
      have HT := hid ht2
      have HMF := hid hmf
      have HWRB := hid hwrb
      have HCH0 := hid ch0b
      clear hT1 hT2 ha1 ha2 hdn hm1 hm2 hs1 hs2 hfl hfll hwb hwa hb1 hbs has ht2 ht1 hmf hwra hwrb ch2b ch0b cha chb hrow hcB hvB
      go_wp2_with fail
      rw [← HWA.out, ← HB1.out, ← HWB.out]
      refine hput1.mono ?_
      rintro e w3 ⟨rfl, F1, hwr1, hgr1⟩
      have htt := (HT.out wb (Chg.refl _ _)).chg (apt_block (by simp; omega)) hgr1.chg
      have hp3 := (HP.out.same HCH0.out).chg hgr1.chg (by simp; omega)
      have hput2 := tput_ok i htt hp3 (b1 + 1) [b1 + 1] [] (HWRB.out.chg hgr1.chg (by simp)) (apt_block (by simp; omega)) (by simp) (by simp)
      unfold PutPost at hput2
      rw [List.nil_append, HFL.out, ← HT2.out] at hput2
      have hch3 := hid (HCH0.out.trans hgr1.chg fun x hx => .inr (by simp at hx; omega))
      have hout1 : ∀ x ∈ F1, x ∉ [b1 + 1] := fun x hx hm => by
        simp at hm
        exact hgr1.out (g := b1 + 1) (by rw [HBS.out]; omega) (by simp) (hm ▸ hx)
      have HTT := hid htt
      clear hput1 hp3 htt
      go_wp2_with fail
      refine hput2.mono ?_
      rintro e w4 ⟨rfl, F2, hwr2, hgr2⟩
      have hl1 := wlen_any w4 b1 F1 T1 (hwr1.chg hgr2.chg hout1)
      have hl2 := wlen_any w4 (b1 + 1) F2 T2 hwr2
      rw [← HA1.out] at hl1
      rw [← HA2.out] at hl2
      have ht4 := HTT.out.chg (apt_block (by simp; omega)) hgr2.chg
      have hch4 := hid (hch3.out.trans hgr2.chg fun x hx => .inr (by simp at hx; omega))
      have hmay := may_all i ht4 0 (by omega)
      unfold MayPost at hmay
      rw [HMF.out, HFL.out] at hmay
      have hkn := fun wz (hz : Chg [] w wz) => known_ok wz (HP.out.same hz)
      clear hput2 ht4 hwr1 hwr2 hgr1 hgr2
      go_wp2_with fail
      refine hl1.mono ?_
      rintro e wx ⟨rfl, rfl⟩
      go_wp2_with fail
      refine hl2.mono ?_
      rintro e wx ⟨rfl, rfl⟩
      go_wp2_with fail
      refine hmay.mono ?_
      rintro e w5 ⟨rfl, ch5⟩
      have hch5 := hch4.out.trans_same ch5
      have hkn5 := hkn w5 hch5
      go_wp2_with fail
      refine hkn5.mono ?_
      rintro e w6 ⟨rfl, ch6⟩
      go_wp2
      go_ret
      exact ⟨rfl, hch5.trans_same ch6⟩
    · have hin2 : i < n := by omega
      have t1 : decide (i < n) = true := decide_eq_true hin2
      have hrp : (List.replicate i c).length = i := by simp
      obtain ⟨hce, hfr⟩ := hrow.fill_cell (by rw [hrp]; exact hin2)
      have hfill := hrow.fill (by rw [hrp]; exact hin2) c
      rw [hrp] at hce hfr hfill
      have HFI := hid hfill
      clear hrp hrow hfill
      go_wp2_with (go_at_call 27; refine (hwr _).mono ?_; rintro e w' ⟨rfl, rfl⟩)
      go_roundg j
      case measure => omega
      case rel =>
        refine ⟨i + 1, by go_num, by omega, ?_, hid (HCH.out.trans ((Chg.refl [B] wr).setCell (p := ⟨B, i, none⟩) (.inl (by simp)) (.int .i64 c)) fun y hy => .inr (by have := HB.out; simp at hy; omega))⟩
        rw [List.replicate_succ']
        exact HFI.out
end Go.Proofs.YtpkplhmdnjdmoaaGreatDoor

/- The law TileGrids by its contract. -/
namespace Go.Proofs.YtpkplhmdnjdmoaaGreatDoor
set_option linter.unusedSimpArgs false
set_option linter.unusedVariables false
open Go.RowKit

theorem area_take {l : List Sq} {i : Nat} (hi : i < l.length) : area (l.take (i + 1)) = area (l.take i) + (sqAt l i).w * (sqAt l i).h := by
  have e : sqAt l i = l[i] := by unfold sqAt; rw [List.getD_eq_getElem?_getD, List.getElem?_eq_getElem hi]; rfl
  rw [List.take_succ_eq_append_getElem hi, area_append, e]
  rfl
theorem area_take_le (l : List Sq) (i : Nat) : area (l.take i) ≤ area l := by
  have h : area l = area (l.take i) + area (l.drop i) := by rw [← area_append, List.take_append_drop]
  omega
set_option maxRecDepth 100000 in
set_option maxHeartbeats 2000000 in
theorem grids_ok (w : World) (x : Int) (hx : In64 x) (y : Int) (hy : In64 y) (z : Int) (hz : In64 z) (hp : Pts w) :
    Calls Tryz.prog 3 #[.int .i64 x, .int .i64 y, .int .i64 z] w fun e w' => e = .returned (.bool true) ∧ Chg [] w w' := by
  have hwi := fun c (hc : In64 c) w' => within_ok c 1 64 w' hc (by decide) (by decide) (by decide)
  have hcx := within_in x (lo := 1) (hi := 64) (by decide)
  have hcy := within_in y (lo := 1) (hi := 64) (by decide)
  have hcz := within_in z (lo := 1) (hi := 64) (by decide)
  have hwx := hwi x hx
  have hwy := hwi y hy
  have hwz := hwi z hz
  obtain ⟨a, ha⟩ : ∃ a : Nat, withinI x 1 64 = (a : Int) := ⟨(withinI x 1 64).toNat, by omega⟩
  obtain ⟨b, hb⟩ : ∃ b : Nat, withinI y 1 64 = (b : Int) := ⟨(withinI y 1 64).toNat, by omega⟩
  obtain ⟨s, hs⟩ : ∃ s : Nat, withinI z 1 64 = (s : Int) := ⟨(withinI z 1 64).toNat, by omega⟩
  rw [ha] at hcx hwx
  rw [hb] at hcy hwy
  rw [hs] at hcz hwz
  have htg := fun w' => tgrid_ok a b s w' (by omega) (by omega) (by omega) (by omega) (by omega) (by omega)
  have hrg := fun w' => rgrid_ok a b s w' (by omega) (by omega) (by omega) (by omega) (by omega) (by omega)
  have hta := fun w' => tgrid_any x y z w'
  have hra := fun w' => rgrid_any x y z w'
  have har := area_grid (w := a) (h := b) (s := s) (by omega)
  have hgo := grid_ok (w := a) (h := b) (s := s) (by omega)
  have hgl := grid_len a b s
  have hba : b * a ≤ 64 * 64 := Nat.mul_le_mul (by omega) (by omega)
  have hab : a * b ≤ 64 * 64 := Nat.mul_le_mul (by omega) (by omega)
  obtain ⟨l, hl⟩ : ∃ l, l = gridL a b s := ⟨_, rfl⟩
  rw [← hl] at htg hrg har hgo hgl
  have hll : l.length ≤ 4096 := by omega
  have h2l := gridI_len x y z
  unfold GridPost at hta hra
  obtain ⟨l2, hl2⟩ : ∃ l2, l2 = gridI x y z := ⟨_, rfl⟩
  rw [← hl2] at hta hra h2l
  obtain ⟨ab, habe⟩ : ∃ ab, ab = a * b := ⟨_, rfl⟩
  have eab : (a : Int) * (b : Int) = (ab : Int) := by rw [habe]; simp
  rw [← habe] at hab har
  obtain ⟨n, hn⟩ : ∃ n, n = l.length := ⟨_, rfl⟩
  have hn4 : n ≤ 4096 := by omega
  have HGO := hid hgo
  have HAR := hid har
  have HN := hid hn
  have HP := hid hp
  have HHL := hid (And.intro hll h2l)
  have HRG := hid hrg
  have HTA := hid hta
  have HRA := hid hra
  clear hl hl2 habe hgl hba hn hgo har hp hll h2l hrg hta hra hwi ha hb hs hcx hcy
  go_enter Tryz.func3, Tryz.ntmps3
  go_wp2_with fail
  refine (hwx _).mono ?_
  rintro e w' ⟨rfl, rfl⟩
  go_wp2_with fail
  refine (hwy _).mono ?_
  rintro e w' ⟨rfl, rfl⟩
  go_wp2_with fail
  refine (hwz _).mono ?_
  rintro e w' ⟨rfl, rfl⟩
  clear hwx hwy hwz
  go_wp2_with fail
  refine (htg _).mono ?_
  rintro e w1 ⟨v1, F1, rfl, hsq, ch1, hF1⟩
  obtain ⟨A, cap, rfl, hlc, hcm, hc, _⟩ := OwnK.open_ hsq
  rw [← HN.out]
  have HC := hid hc
  have HCH := hid ch1
  clear htg hsq hc ch1 hF1
  go_wp2_with fail
  go_loopg [11, 12] n (fun j vn vi wr => ∃ i q m : Nat, vi = .int .i64 (i : Int) ∧ i + j = n ∧ vn = .int .i64 (m : Int) ∧ Hid (m = area (l.take i)) ∧ wr = w1.drewN q)
  case atStart => exact ⟨0, 0, 0, rfl, by omega, rfl, hid (by simp [area]), rfl⟩
  case round =>
    obtain ⟨i, q, m, rfl, hij, rfl, HM, rfl⟩ := hrel
    rcases gk with _ | j
    · obtain rfl : i = n := by omega
      have t1 : decide (i < i) = false := by simp
      have hm : m = ab := by
        have := HM.out
        rw [HN.out, List.take_length] at this
        rw [this]; exact HAR.out
      have t2 : ((m : Int) == (ab : Int)) = true := by rw [hm]; simp
      clear hm
      have hc1 := HC.out.same ((Chg.refl [] w1).drewN q)
      have ch0 := HCH.out.drewN q
      generalize w1.drewN q = wq at *
      have HC1 := hid hc1
      have HCH1 := hid ch0
      clear hc1 ch0
      go_wp2_with fail
      refine (HRG.out _).mono ?_
      rintro e w2 ⟨v2, F2, rfl, hsq2, ch2, hF2⟩
      obtain ⟨A2, cap2, rfl, _, _, hc2, _⟩ := OwnK.open_ hsq2
      have hgs := grids_same w2 A A2 cap cap2 l (HC1.out.same ch2) hc2 HHL.out.1
      have HCH2 := hid (HCH1.out.trans_same ch2)
      rw [← HN.out] at hgs ⊢
      clear hsq2 hc2 ch2 hF2
      go_wp2_with fail
      refine hgs.mono ?_
      rintro e w3' ⟨rfl, q3, rfl⟩
      have HCH3 := hid (HCH2.out.drewN q3)
      generalize w2.drewN q3 = w3 at *
      clear hgs
      go_wp2_with fail
      refine (HTA.out _).mono ?_
      rintro e w4 ⟨v4, F4, rfl, hsq4, ch4, hF4⟩
      obtain ⟨A4, cap4, rfl, _, _, hc4, _⟩ := OwnK.open_ hsq4
      have HCH4 := hid (HCH3.out.trans_same ch4)
      clear hsq4 ch4 hF4
      go_wp2_with fail
      refine (HRA.out _).mono ?_
      rintro e w5 ⟨v5, F5, rfl, hsq5, ch5, hF5⟩
      obtain ⟨A5, cap5, rfl, _, _, hc5, _⟩ := OwnK.open_ hsq5
      have hgs2 := grids_same w5 A4 A5 cap4 cap5 l2 (hc4.same ch5) hc5 HHL.out.2
      have HCH5 := hid (HCH4.out.trans_same ch5)
      clear hsq5 hc5 ch5 hF5 hc4
      go_wp2_with fail
      refine hgs2.mono ?_
      rintro e w6' ⟨rfl, q6, rfl⟩
      have HCH6 := hid (HCH5.out.drewN q6)
      generalize w5.drewN q6 = w6 at *
      clear hgs2
      have hkn := known_ok w6 (HP.out.same HCH6.out)
      go_wp2_with fail
      refine hkn.mono ?_
      rintro e w7 ⟨rfl, ch7⟩
      go_wp2
      go_ret
      exact ⟨rfl, HCH6.out.trans_same ch7⟩
    · have hin : i < n := by omega
      have hil : i < l.length := by rw [← HN.out]; exact hin
      obtain ⟨g1, o1, rfl, a1, a2, a3, a4⟩ := sq_cell HC.out hil
      have hq := HGO.out (sqAt l i) (by unfold sqAt; rw [List.getD_eq_getElem?_getD, List.getElem?_eq_getElem hil]; exact List.getElem_mem hil)
      have hat := area_take hil
      have hatl := area_take_le l (i + 1)
      rw [hat, HAR.out, ← HM.out] at hatl
      rw [← HM.out] at hat
      generalize sqAt l i = sq at *
      obtain ⟨sx, sy, sw, sh⟩ := sq
      simp only at hq hat hatl a1 a2 a3 a4
      obtain ⟨wh, hwh⟩ : ∃ wh, wh = sw * sh := ⟨_, rfl⟩
      have ewh : (sw : Int) * (sh : Int) = (wh : Int) := by rw [hwh]; simp
      rw [← hwh] at hat hatl
      obtain ⟨m2, hm2⟩ : ∃ m2, m2 = m + wh := ⟨_, rfl⟩
      have em2 : (m : Int) + (wh : Int) = (m2 : Int) := by omega
      rw [← hm2] at hat hatl
      have HM2 := hid hat
      have t3 : decide ((sw : Int) < 1) = false := decide_eq_false (by omega)
      have t4 : decide ((s : Int) < (sw : Int)) = false := decide_eq_false (by omega)
      have t4' : decide (s < sw) = false := decide_eq_false (by omega)
      have t5 : decide ((sh : Int) < 1) = false := decide_eq_false (by omega)
      have t6 : decide ((s : Int) < (sh : Int)) = false := decide_eq_false (by omega)
      have t6' : decide (s < sh) = false := decide_eq_false (by omega)
      clear hwh hm2 hat hil
      go_wp2_with fail
      go_quiet (fail)
      go_wp2_with fail
      go_roundg j
      case measure => omega
      case rel => exact ⟨i + 1, q + nq, m2, by go_num, by omega, rfl, hid HM2.out.symm, by first | rfl | rw [World.drewN_drewN]⟩
end Go.Proofs.YtpkplhmdnjdmoaaGreatDoor
