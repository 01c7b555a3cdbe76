/- The law's helper asked(): a decoder that stands where the coder stood answers the steps that the coder was told. -/
import Derived.Test.YtofdgpgleghllaaArActs
namespace Go.Proofs.Ytofdgpgleghllaa
set_option linter.unusedSimpArgs false
set_option linter.unusedVariables false
open Go.RowKit

theorem flat_get : ∀ (l : List ActV) (i : Nat) (a : ActV), l[i]? = some a → ∀ (j : Nat) (u : Value), (actCells a)[j]? = some u → (l.flatMap actCells)[i * 5 + j]? = some u
  | [], i, a, h, _, _, _ => by simp at h
  | x :: l, 0, a, h, j, u, hu => by
    simp at h
    subst h
    have hj : j < (actCells x).length := (List.getElem?_eq_some_iff.1 hu).1
    rw [List.flatMap_cons, Nat.zero_mul, Nat.zero_add, List.getElem?_append_left hj]
    exact hu
  | x :: l, i + 1, a, h, j, u, hu => by
    simp at h
    rw [List.flatMap_cons, List.getElem?_append_right (by rw [actCells_len]; omega), actCells_len]
    have := flat_get l i a h j u hu
    rwa [show (i + 1) * 5 + j - 5 = i * 5 + j from by omega]
theorem acts_of_own {w : World} {vd : Value} {l : List ActV} (h : w.ownsRow 0 33 5 vd l.length (l.flatMap actCells)) (hw : ∀ a ∈ l, WfA a) :
    ∃ A cap, vd = .slice A l.length cap ∧ Acts w A l ∧ vd.ownBlock = A.map (·.block) := by
  rcases h.2 with ⟨rfl, hn⟩ | ⟨g, cap, cur, rfl, hb, hg, hnc, hcm, hcs, htake⟩
  · refine ⟨none, 0, by rw [hn], ⟨fun h0 => by omega, hw⟩, rfl⟩
  · refine ⟨some ⟨g, 0, none⟩, cap, rfl, ⟨fun _ => ⟨g, 0, rfl, (Array.getElem?_eq_some_iff.1 hg).1, fun i a ha j u hu => ?_⟩, hw⟩, rfl⟩
    have h1 := flat_get l i a ha j u hu
    rw [← htake, List.getElem?_take] at h1
    split at h1
    · rw [cell_of_row w g (0 + i * 5 + j) cur _ (0, 0) hg, Nat.zero_add]
      simpa using h1
    · cases h1

/-- What asked() leaves. -/
def AskPost (w : World) (b g h : Nat) (D : Dec) (c : Cod) (e : Ending) (w' : World) : Prop :=
  e = .returned (.bool true) ∧ ∃ D', IsDec 69 w' b g h D' ∧ DecOk D' ∧ Syn D' c ∧ D'.data = D.data ∧ Chg [b, h] w w'

set_option maxRecDepth 100000 in
set_option maxHeartbeats 4000000 in
theorem asked_ok (w : World) (b g h : Nat) (D : Dec) (c : Cod) (A : Option Addr) (cap : Nat) (l : List ActV) (hc : IsDec 69 w b g h D) (hok : DecOk D) (hS : Syn D c) (hco : CodOk c) (hf : CodFit c)
    (hl : Acts w A l) (hne : ∀ ad, A = some ad → ad.block ≠ b ∧ ad.block ≠ h) (hv : ∀ a ∈ l, okAct c.odds.length a = true) (hF : Fut D.data (runA c l)) (hlen : l.length ≤ 1000) :
    Calls Try.prog 26 #[.pointer (some ⟨b, 0, none⟩), .slice A l.length cap] w (AskPost w b g h D (runA c l)) := by
  have HF := hid hF
  have HV := hid hv
  have HNE := hid hne
  clear hF hv hne
  go_enter Try.func26, Try.ntmps26
  go_wp2_with fail
  go_loopg [5] l.length (fun k i wr => ∃ (D' : Dec), k ≤ l.length ∧ i = .int .i64 ((l.length - k : Nat) : Int) ∧ IsDec 69 wr b g h D' ∧ DecOk D' ∧ Syn D' (runA c (l.take (l.length - k))) ∧ Hid (D'.data = D.data) ∧ Chg [b, h] w wr)
  case atStart => exact ⟨D, Nat.le_refl _, by simp, hc, hok, by simpa [runA] using hS, hid rfl, Chg.refl _ _⟩
  case round =>
    obtain ⟨D', hk, rfl, hcr, hokr, hSr, Hdata, hch⟩ := hrel
    rcases gk with _ | k
    · have t1 : decide (((l.length - 0 : Nat) : Int) < l.length) = false := by simp
      go_wp2_with fail
      go_ret
      exact ⟨rfl, D', hcr, hokr, by simpa using hSr, Hdata.out, hch⟩
    · obtain ⟨m, hm⟩ : ∃ m, m = l.length - (k + 1) := ⟨_, rfl⟩
      rw [← hm] at hSr ⊢
      have hm1 : m < l.length := by omega
      have hm2 : l.length - k = m + 1 := by omega
      have HM := hid hm2
      clear hm hm2
      obtain ⟨a, ha⟩ : ∃ a, l[m]? = some a := ⟨_, List.getElem?_eq_getElem hm1⟩
      obtain ⟨b0, o0, rfl, hb0, hcells⟩ := hl.ex (by omega)
      have hac := hcells m a ha
      have hn0 := HNE.out _ rfl
      have hrd : ∀ (j : Nat) (u : Value), (actCells a)[j]? = some u → wr.cell? ⟨b0, o0 + m * 5 + j, none⟩ = some u := fun j u hu => (World.cell?_of_block (w := w) (hch.block b0 hb0 (by simpa using hn0))).trans (hac j u hu)
      have r0 : wr.cell? ⟨b0, o0 + m * 5, none⟩ = some (.int .i64 a.what) := hrd 0 _ rfl
      have r1 : wr.cell? ⟨b0, o0 + m * 5 + 1, none⟩ = some (.int .i64 a.ctx) := hrd 1 _ rfl
      have r2 : wr.cell? ⟨b0, o0 + m * 5 + 2, none⟩ = some (.int .i64 a.bit) := hrd 2 _ rfl
      have r3 : wr.cell? ⟨b0, o0 + m * 5 + 3, none⟩ = some (.int .i64 a.n) := hrd 3 _ rfl
      have r4 : wr.cell? ⟨b0, o0 + m * 5 + 4, none⟩ = some (.int .u64 a.v) := hrd 4 _ rfl
      have hmem := List.mem_of_getElem? ha
      have hwf := hl.wf a hmem
      have hva := HV.out a hmem
      have htk : l.take (m + 1) = l.take m ++ [a] := by rw [List.take_add_one, ha]; rfl
      have hall : ∀ x ∈ l.take m, WfA x ∧ okAct c.odds.length x = true := fun x hx => ⟨hl.wf x (List.mem_of_mem_take hx), HV.out x (List.mem_of_mem_take hx)⟩
      obtain ⟨hokc, hfc, hodc, -⟩ := runA_ok (l.take m) hco hf hall
      have hF2 : Fut D'.data (applyA (runA c (l.take m)) a) := by
        rw [Hdata.out, ← runA_snoc, ← htk]
        have hsplit : runA c l = runA (runA c (l.take (m + 1))) (l.drop (m + 1)) := by
          unfold runA
          rw [← List.foldl_append, List.take_append_drop]
        have hall2 : ∀ x ∈ l.take (m + 1), WfA x ∧ okAct c.odds.length x = true := fun x hx => ⟨hl.wf x (List.mem_of_mem_take hx), HV.out x (List.mem_of_mem_take hx)⟩
        obtain ⟨k1, k2, k3, -⟩ := runA_ok (l.take (m + 1)) hco hf hall2
        refine fut_run (l.drop (m + 1)) (by have := hokr.dig; rwa [Hdata.out] at this) k1 k2 (fun x hx => ?_) (by rw [← hsplit]; exact HF.out)
        rw [k3]
        exact ⟨hl.wf x (List.mem_of_mem_drop hx), HV.out x (List.mem_of_mem_drop hx)⟩
      rw [← hodc] at hva
      have hrun : runA c (l.take (m + 1)) = applyA (runA c (l.take m)) a := by rw [htk, runA_snoc]
      have HR := hid hrun
      clear ha hcells hac hrd hmem htk hall hodc hrun
      generalize runA c (l.take m) = c1 at *
      obtain ⟨what, ctx, bit, n, v⟩ := a
      obtain ⟨lt1, lt2, lt3⟩ := hcr.lt
      simp only at r0 r1 r2 r3 r4 
      have hv0 : 0 ≤ v := hwf.1
      have hv1 : v ≤ 18446744073709551615 := hwf.2
      obtain ⟨z, rfl⟩ := Int.eq_ofNat_of_zero_le hv0
      unfold okAct at hva
      simp only at hva
      by_cases q0 : what = 0
      · subst q0
        rw [if_pos rfl] at hva
        simp only [decide_eq_true_eq] at hva
        obtain ⟨a1, a2, a3⟩ := hva
        obtain ⟨x, rfl⟩ := Int.eq_ofNat_of_zero_le a1
        obtain ⟨y, rfl⟩ := Int.eq_ofNat_of_zero_le (show 0 ≤ bit by omega)
        have e1 : applyA c1 ⟨0, x, y, n, z⟩ = putL c1 x y := rfl
        rw [e1] at hF2 HR
        have hx : x < c1.odds.length := by omega
        have hy : y = 0 ∨ y = 1 := by omega
        have hsy := dget_syn hSr hokr hokc hfc hx hy hF2
        have hok2 := dget_ok hokr (ctx := x) (by rw [hSr.odds]; exact hx)
        have hdat := dget_data D' x
        have HS := hid hsy
        have HDt := hid hdat
        have HF2 := hid hF2
        clear hsy hdat hF2 a3 e1 hy
        go_wp2_with fail
        go_region_held3 (fun w' => w'.cell? ⟨wr.heap.size, 1, none⟩ = some (.int .i64 (x : Int)) ∧ w'.cell? ⟨wr.heap.size, 2, none⟩ = some (.int .i64 (y : Int))) (first | (go_keep; done) | exact ⟨y1, y2⟩)
          (first | (go_at_call 30; refine (dget_any _ b g h D' x (hcr.same ((Chg.refl _ _).alloc _).drew) hokr hSr.err (by rw [hSr.odds]; exact hx)).mono ?_; rintro e w2 ⟨rfl, hc2, ch2⟩; have hab : Blk w2 wr.heap.size 33 #[.int .i64 0, .int .i64 (x : Int), .int .i64 (y : Int), .int .i64 n, .int .u64 (z : Int)] := ((Blk.new wr _ _).drew).chg ch2 (by simp; omega); have y1 := hab.cell 1; have y2 := hab.cell 2; simp at y1 y2; rw [HS.out.1]))
        have HCH : Hid (Chg [b, h] w w2) := hid (((hch.alloc _).drew).trans_same ch2)
        have HSY : Hid (Syn (dget D' x).2 (putL c1 x y)) := hid HS.out.2
        have HDT : Hid ((dget D' x).2.data = D.data) := hid (by rw [HDt.out]; exact Hdata.out)
        generalize (dget D' x).2 = D2 at *
        have hx5 : IsDec 69 w2 b g h D2 := hc2
        go_wp2_with fail
        refine (err_any w2 b g h D2 hx5).mono ?_
        rintro e w3 ⟨rfl, rfl⟩
        rw [HSY.out.err]
        go_wp2_with fail
        go_roundg k
        case measure => omega
        case rel =>
          rw [HM.out]
          exact ⟨D2, by omega, by go_num, hx5, hok2, by rw [HR.out]; exact HSY.out, hid HDT.out, HCH.out⟩
      · rw [if_neg q0] at hva
        by_cases q1 : what = 1
        · subst q1
          rw [if_pos rfl] at hva
          simp only [decide_eq_true_eq] at hva
          obtain ⟨a1, a2, a3⟩ := hva
          have hlt := raw_v (v := (z : Int)) (by omega) a1 a3
          obtain ⟨x, rfl⟩ := Int.eq_ofNat_of_zero_le a1
          rw [Int.toNat_natCast, Int.toNat_natCast] at hlt
          have hx : x ≤ 32 := by omega
          have hz : z < 4294967296 := Nat.lt_of_lt_of_le hlt (pow_le32 hx)
          have e1 : applyA c1 ⟨1, ctx, bit, x, z⟩ = rawL c1 z x := rfl
          rw [e1] at hF2 HR
          have HF2 := hid hF2
          have HLT := hid hlt
          clear hF2 e1 q0 a3 hlt
          go_wp2_with fail
          go_region_held3 (fun w' => w'.cell? ⟨wr.heap.size, 3, none⟩ = some (.int .i64 (x : Int)) ∧ w'.cell? ⟨wr.heap.size, 4, none⟩ = some (.int .u64 (z : Int))) (first | (go_keep; done) | exact ⟨y1, y2⟩)
            (first | (go_at_call 40; refine (draw_syn _ b g h D' c1 z x (hcr.same ((Chg.refl _ _).alloc _).drew) hokr hSr hokc hfc hx HLT.out hz HF2.out).mono ?_; rintro e w2 ⟨rfl, D2, hc2, hok2, hS2, hd2, ch2⟩; have hab : Blk w2 wr.heap.size 33 #[.int .i64 1, .int .i64 ctx, .int .i64 bit, .int .i64 (x : Int), .int .u64 (z : Int)] := ((Blk.new wr _ _).drew).chg ch2 (by simp; omega); have y1 := hab.cell 3; have y2 := hab.cell 4; simp at y1 y2; have HSY := hid hS2; have HDT0 := hid hd2; clear hS2 hd2))
          have HCH : Hid (Chg [b, h] w w2) := hid (((hch.alloc _).drew).trans ch2 (by simp))
          have HDT : Hid (D2.data = D.data) := hid (by rw [HDT0.out]; exact Hdata.out)
          have hx5 : IsDec 69 w2 b g h D2 := hc2
          go_wp2_with fail
          refine (err_any w2 b g h D2 hx5).mono ?_
          rintro e w3 ⟨rfl, rfl⟩
          rw [HSY.out.err]
          go_wp2_with fail
          go_roundg k
          case measure => omega
          case rel =>
            rw [HM.out]
            exact ⟨D2, by omega, by go_num, hx5, hok2, by rw [HR.out]; exact HSY.out, hid HDT.out, HCH.out⟩
        · rw [if_neg q1] at hva
          simp only [decide_eq_true_eq] at hva
          obtain ⟨a1, a2, a3⟩ := hva
          obtain ⟨x, rfl⟩ := Int.eq_ofNat_of_zero_le a2
          have hx : x + 33 ≤ c1.odds.length := by omega
          have hz : z < 4294967296 := by omega
          have e1 : applyA c1 ⟨what, x, bit, n, z⟩ = numL c1 x z := by unfold applyA; rw [if_neg q0, if_neg q1]; rfl
          rw [e1] at hF2 HR
          have t5 : (what == 0) = false := by rw [beq_eq_false_iff_ne]; exact q0
          have t6 : (what == 1) = false := by rw [beq_eq_false_iff_ne]; exact q1
          have HF2 := hid hF2
          clear hF2 e1 q0 q1
          go_wp2_with fail
          go_region_held3 (fun w' => w'.cell? ⟨wr.heap.size, 1, none⟩ = some (.int .i64 (x : Int)) ∧ w'.cell? ⟨wr.heap.size, 4, none⟩ = some (.int .u64 (z : Int))) (first | (go_keep; done) | exact ⟨y1, y2⟩)
            (first | (go_at_call 28; refine (dnum_syn _ b g h D' c1 x z z (hcr.same ((Chg.refl _ _).alloc _).drew) hokr hSr hokc hfc hx hz (by omega) HF2.out).mono ?_; rintro e w2 hp; obtain ⟨rfl, D2, hc2, hq2, hd2, ch2⟩ := hp; simp only [Nat.le_refl, if_true] at hq2; have hab : Blk w2 wr.heap.size 33 #[.int .i64 what, .int .i64 (x : Int), .int .i64 bit, .int .i64 n, .int .u64 (z : Int)] := ((Blk.new wr _ _).drew).chg ch2 (by simp; omega); have y1 := hab.cell 1; have y2 := hab.cell 4; simp at y1 y2; obtain ⟨hok2, hS2⟩ := hq2; have HSY := hid hS2; have HDT0 := hid hd2; clear hS2 hd2; rw [if_pos (Nat.le_refl z)]))
          have HCH : Hid (Chg [b, h] w w2) := hid (((hch.alloc _).drew).trans_same ch2)
          have HDT : Hid (D2.data = D.data) := hid (by rw [HDT0.out]; exact Hdata.out)
          have hx5 : IsDec 69 w2 b g h D2 := hc2
          go_wp2_with fail
          refine (err_any w2 b g h D2 hx5).mono ?_
          rintro e w3 ⟨rfl, rfl⟩
          rw [HSY.out.err]
          go_wp2_with fail
          go_roundg k
          case measure => omega
          case rel =>
            rw [HM.out]
            exact ⟨D2, by omega, by go_num, hx5, hok2, by rw [HR.out]; exact HSY.out, hid HDT.out, HCH.out⟩
end Go.Proofs.Ytofdgpgleghllaa
