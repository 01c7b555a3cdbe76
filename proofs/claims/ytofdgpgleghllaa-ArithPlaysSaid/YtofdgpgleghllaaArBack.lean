/- ArithBack, the walk: whatever steps a coder is told, a decoder of its bytes answers them in order, and then no byte is left. -/
import Derived.Test.YtofdgpgleghllaaArAsk
namespace Go.Proofs.Ytofdgpgleghllaa
set_option linter.unusedSimpArgs false
set_option linter.unusedVariables false
open Go.RowKit

theorem filter_all {N : Nat} {l : List ActV} {A : Option Addr} {w : World} (hl : Acts w A l) : ∀ a ∈ l.filter (okAct N), WfA a ∧ okAct N a = true := fun a ha =>
  ⟨hl.wf a (List.mem_filter.1 ha).1, (List.mem_filter.1 ha).2⟩
/-- A decoder of the bytes of a coder that was told these steps. -/
theorem first_four {c : Cod} (h : CodOk c) (hf : CodFit c) {F : List Nat} (hd : ∀ d ∈ F, d < 256) (hF : Fut F (newCod 1)) : valD (F.take 4) ≠ 4294967295 := by
  have := hF.hi
  simp [newCod, pre, valD] at this
  unfold valD
  simp
  omega
theorem fut_new {N M : Nat} {F : List Nat} (h : Fut F (newCod N)) : Fut F (newCod M) := ⟨h.len, h.lo, h.hi⟩

theorem Acts.chg {w w' : World} {A : Option Addr} {l : List ActV} {F : List Nat} (h : Acts w A l) (hc : Chg F w w') (hA : ∀ ad, A = some ad → ad.block ∉ F) : Acts w' A l :=
  ⟨fun h0 => by
    obtain ⟨b0, o0, e0, hb0, hcells⟩ := h.ex h0
    exact ⟨b0, o0, e0, Nat.lt_of_lt_of_le hb0 hc.size, fun i a ha j u hu => (World.cell?_of_block (w := w) (hc.block b0 hb0 (hA _ e0))).trans (hcells i a ha j u hu)⟩, h.wf⟩
theorem newDec_ok (N : Nat) {F : List Nat} (hd : ∀ d ∈ F, d < 256) (h4 : 4 ≤ F.length) (hF : Fut F (newCod N)) : DecOk (newDec F N) := by
  have := hF.hi
  simp [newCod, pre, valD] at this
  refine ⟨hd, by simp [newDec], by simp [newDec], ?_, h4, by simp [newDec]⟩
  simp [newDec, valD]
  omega

set_option maxRecDepth 100000 in
set_option maxHeartbeats 4000000 in
theorem back_walk (w : World) (nc : Int) (A : Option Addr) (cap : Nat) (l : List ActV) (hl : Acts w A l) (hcap : l.length ≤ cap) (hcap2 : cap ≤ 9223372036854775807) :
    Calls Try.prog 4 #[.int .i64 nc, .slice A l.length cap] w fun e w' => e = .returned (.bool true) ∧ Below w.heap.size w w' := by
  by_cases c0 : 150 < l.length
  · have t0 : decide ((150 : Int) < (l.length : Int)) = true := by simp; omega
    go_enter Try.func4, Try.ntmps4
    go_wp2_with fail
    refine (known_ok w).mono ?_
    rintro e w1 ⟨rfl, ch1⟩
    go_wp2_with fail
    go_ret
    exact ⟨rfl, ch1.below (by simp)⟩
  have t0 : decide ((150 : Int) < (l.length : Int)) = false := by simp; omega
  by_cases c1 : nc < 1
  · have t1 : decide (nc < 1) = true := by simpa using c1
    go_enter Try.func4, Try.ntmps4
    go_wp2_with fail
    refine (known_ok w).mono ?_
    rintro e w1 ⟨rfl, ch1⟩
    go_wp2_with fail
    go_ret
    exact ⟨rfl, ch1.below (by simp)⟩
  have t1 : decide (nc < 1) = false := by simpa using c1
  by_cases c2 : 4096 < nc
  · have t2 : decide (4096 < nc) = true := by simpa using c2
    go_enter Try.func4, Try.ntmps4
    go_wp2_with fail
    refine (known_ok w).mono ?_
    rintro e w1 ⟨rfl, ch1⟩
    go_wp2_with fail
    go_ret
    exact ⟨rfl, ch1.below (by simp)⟩
  have t2 : decide (4096 < nc) = false := by simpa using c2
  obtain ⟨N, rfl⟩ := Int.eq_ofNat_of_zero_le (show 0 ≤ nc by omega)
  have hN1 : 1 ≤ N := by omega
  have hN2 : N ≤ 4096 := by omega
  clear c1 c2
  have hall := filter_all (N := N) hl
  have hfl : (l.filter (okAct N)).length ≤ 150 := Nat.le_trans (List.length_filter_le _ _) (by omega)
  generalize hdone : l.filter (okAct N) = done at hall hfl
  obtain ⟨kok, kfit, kod, klen⟩ := runA_ok done (newCod_ok N) (newCod_fit N) (fun a ha => ⟨(hall a ha).1, by simpa [newCod] using (hall a ha).2⟩)
  have hF := fut_self kok
  have hF0 : Fut (runA (newCod N) done).low (newCod N) := fut_run _ kok.dig (newCod_ok N) (newCod_fit N) (fun a ha => ⟨(hall a ha).1, by simpa [newCod] using (hall a ha).2⟩) hF
  obtain ⟨cF, hcF⟩ : ∃ cF, cF = runA (newCod N) done := ⟨_, rfl⟩
  rw [← hcF] at kok kfit kod klen hF hF0
  have hlow : cF.low.length ≤ 100000 := by
    have : (newCod N).low.length = 4 := rfl
    omega
  have hdig := kok.dig
  have h4 := kok.len
  have hff := first_four kok kfit hdig (fut_new hF0)
  have HALL := hid hall
  have HDIG := hid hdig
  have HFF := hid hff
  have HDONE := hid hdone
  have HCF := hid hcF
  clear hall hdig hff kod klen hdone hcF
  go_enter Try.func4, Try.ntmps4
  go_wp2_with fail
  refine (known_ok w).mono ?_
  rintro e w1 ⟨rfl, ch1⟩
  have hl1 : Acts w1 A l := hl.chg ch1 (by simp)
  go_wp2_with fail
  refine (coded_ok w1 N A cap l hN1 hN2 hl1 (by omega)).mono ?_
  rintro e w2 ⟨b, g, h, vd, rfl, hc2, ho2, ch2, hb2, hg2, hh2, hv2⟩
  rw [HDONE.out, ← HCF.out] at hc2
  rw [HDONE.out] at ho2
  obtain ⟨A2, cap2, rfl, hacts2, hob2⟩ := acts_of_own ho2 (fun a ha => (HALL.out a ha).1)
  go_wp2_with fail
  refine (bytes_ok w2 b g h cF hc2 kok (by omega)).mono ?_
  rintro e w3 ⟨g3, cap3, rfl, hr3, ch3, hg3⟩
  obtain ⟨cap3', e3, l3, m3, cl3, -⟩ := hr3.open_map
  obtain rfl : cap3 = cap3' := by simpa using e3
  clear e3
  have CL3 := hid cl3
  clear cl3
  go_wp2_with fail
  refine (newDecoder_ok g3 cap3 cF.low N w3 hN1 hN2 l3 m3 CL3.out HDIG.out h4 (by omega) HFF.out).mono ?_
  rintro e w4 ⟨b4, g4, h4', rfl, hd4, ch4, hb4, hg4, hh4⟩
  have hacts4 := (hacts2.chg ch3 (by simp)).chg ch4 (by simp)
  have hout : ∀ ad, A2 = some ad → ad.block ≠ b4 ∧ ad.block ≠ h4' := by
    intro ad e0
    subst e0
    have h1 := own_lt ho2 ad.block rfl
    have h2 := ch3.size
    omega
  have hch4 : Chg [] w w4 := ((ch1.trans_same ch2).trans_same ch3).trans_same ch4
  have hok4 : DecOk (newDec cF.low N) := newDec_ok N HDIG.out h4 hF0
  have hv4 : ∀ a ∈ done, okAct (newCod N).odds.length a = true := fun a ha => by simpa [newCod] using (HALL.out a ha).2
  have HV4 := hid hv4
  have HO4 := hid hout
  clear hv4 hout
  go_wp2_with fail
  refine (asked_ok w4 b4 g4 h4' (newDec cF.low N) (newCod N) A2 cap2 done hd4 hok4 (syn_new _ _) (newCod_ok N) (newCod_fit N) hacts4 HO4.out HV4.out (by rw [← HCF.out]; exact hF) (by omega)).mono ?_
  rintro e w5 hp
  obtain ⟨rfl, D5, hd5, hok5, hS5, hdat5, ch5⟩ := hp
  rw [← HCF.out] at hS5
  have hleft : D5.data.length - D5.pos = 0 := by
    rw [hdat5, hS5.pos]
    simp [newDec]
  have HL := hid hleft
  have HDT := hid hdat5
  clear hleft hdat5
  go_wp2_with fail
  refine (left_any w5 b4 g4 h4' D5 hd5 hok5.pos).mono ?_
  rintro e w6 ⟨rfl, n6, rfl⟩
  rw [HL.out]
  go_wp2_with fail
  go_ret
  refine ⟨rfl, Chg.below (F := []) ?_ (by simp)⟩
  refine (hch4.trans ch5 ?_).drewN n6
  intro x hx
  have := hch4.size
  have := ch4.size
  have := (ch1.trans_same ch2).trans_same ch3
  have := this.size
  simp at hx
  right
  omega
end Go.Proofs.Ytofdgpgleghllaa
