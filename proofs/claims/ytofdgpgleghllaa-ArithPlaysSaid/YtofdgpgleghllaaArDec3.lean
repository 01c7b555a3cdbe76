/- The decoder's functions, the third part: NewDecoder. -/
import Derived.Test.YtofdgpgleghllaaArDec2
namespace Go.Proofs.Ytofdgpgleghllaa
set_option linter.unusedSimpArgs false
set_option linter.unusedVariables false
open Go.RowKit

set_option maxRecDepth 100000 in
set_option maxHeartbeats 2000000 in
theorem newDecoder_ok (g cap : Nat) (ds : List Nat) (n : Nat) (w : World) (h1 : 1 ≤ n) (hn : n ≤ 4096) (hcap : ds.length ≤ cap) (hcap2 : cap ≤ 9223372036854775807)
    (hcell : ∀ (i d : Nat), ds[i]? = some d → w.cell? ⟨g, i, none⟩ = some (b8 d)) (hd : ∀ d ∈ ds, d < 256) (h4 : 4 ≤ ds.length) (hlen : ds.length ≤ 1099511627776) (hff : valD (ds.take 4) ≠ 4294967295) :
    Calls Try.prog 25 #[.slice (some ⟨g, 0, none⟩) ds.length cap, .int .i64 n] w fun e w' => ∃ b g' h, e = .returned (.tuple #[.pointer (some ⟨b, 0, none⟩), .int .i64 0]) ∧
      IsDec 69 w' b g' h (newDec ds n) ∧ Chg [] w w' ∧ w.heap.size ≤ b ∧ w.heap.size ≤ g' ∧ w.heap.size ≤ h := by
  have t1 : decide ((n : Int) < 1) = false := by simp; omega
  have t2 : decide ((4096 : Int) < n) = false := by simp; omega
  have t3 : decide ((ds.length : Int) < 4) = false := by simp; omega
  have HC := hid hcell
  have HD := hid hd
  have HF := hid hff
  have hv4 : valD (ds.take 4) < 4294967296 := by
    have := valD_lt (ds.take 4) fun d h => hd d (List.mem_of_mem_take h)
    rw [List.length_take, Nat.min_eq_left h4] at this
    simpa using this
  have HV := hid hv4
  clear hcell hd hff hv4
  go_enter Try.func25, Try.ntmps25
  go_wp2_with fail
  go_loopg [6, 8, 22] 4 (fun k v c i wr => wr = w ∧ k ≤ 4 ∧ i = .int .i64 ((4 - k : Nat) : Int) ∧ v = .int .u64 ((valD (ds.take (4 - k)) : Nat) : Int))
  case atStart => exact ⟨rfl, Nat.le_refl _, rfl, rfl⟩
  case round =>
    obtain ⟨rfl, hk, rfl, rfl⟩ := hrel
    rcases gk with _ | k
    · have t4 : decide (((4 - 0 : Nat) : Int) < 4) = false := by simp
      simp only [Nat.sub_zero]
      obtain ⟨V, hV⟩ : ∃ V, V = valD (ds.take 4) := ⟨_, rfl⟩
      rw [← hV]
      have t5 : ((V : Int) == 4294967295) = false := by rw [beq_eq_false_iff_ne, hV]; have := HF.out; omega
      have HVV := hid hV
      clear hV
      have hcell' : ∀ j u, (ds.map b8)[j]? = some u → wr.cell? ((⟨g, 0, none⟩ : Addr).add j) = some u := by
        intro j u hj
        rw [List.getElem?_map] at hj
        obtain ⟨d, hd1, rfl⟩ := Option.map_eq_some_iff.1 hj
        have e : (⟨g, 0, none⟩ : Addr).add j = ⟨g, j, none⟩ := by unfold Addr.add; split <;> simp_all
        rw [e]
        exact HC.out j d hd1
      have Hcell := hid hcell'
      clear hcell'
      go_wp2_with (at_builtin; refine wpList_append_sl rfl rfl u8_el rfl (by decide) rfl (World.ownsRow_nil _ 0 _ _) (news := ds.map b8) rfl ?c1 ?c2 ?c3 ?c4 ?c5 ?c6 ?_)
      case c1 => simp
      case c2 => omega
      case c3 => exact Hcell.out
      case c4 => intro u hu; obtain ⟨d, _, rfl⟩ := List.mem_map.1 hu; rfl
      case c5 => omega
      case c6 => omega
      intro g' cap' w1 r1 r2 r3
      obtain ⟨g'', r4, r5⟩ := Row.of_own r1 rfl
      simp only [Value.ownBlock] at r5
      injection r5 with r5
      subst r5
      have r6 : wr.heap.size ≤ g' := by simpa [Value.ownBlock] using r3
      simp only [Value.ownBlock, Option.toList_none] at r2
      clear r1 r3
      go_wp2_with (go_at_call 32; refine (start_ok n _ hn).mono ?_; rintro e w2 ⟨h, rfl, q1, q2, q3⟩)
      go_ret2
      have s1 := r2.size
      have s2 := q2.size
      refine ⟨_, _, _, rfl, ⟨_, _, ?_, ((r4.chg q2 (by simp)).alloc _), q1.alloc _⟩, (r2.trans_same q2).alloc _, by omega, r6, by omega⟩
      have := Blk.new w2 69 #[.slice (some ⟨g', 0, none⟩) ds.length cap', .int .i64 4, .int .u64 (V : Int), .int .u64 4294967295, .slice (some ⟨h, 0, none⟩) n n, .int .i64 0]
      simp only [newDec, ← HVV.out]
      exact this
    · obtain ⟨m, hm⟩ : ∃ m, m = 4 - (k + 1) := ⟨_, rfl⟩
      rw [← hm]
      have hm1 : m < 4 := by omega
      have hm2 : 4 - k = m + 1 := by omega
      have HM := hid hm2
      clear hm hm2
      obtain ⟨x, hx⟩ : ∃ x, ds[m]? = some x := ⟨_, List.getElem?_eq_getElem (by omega)⟩
      have hx2 : x < 256 := HD.out x (by obtain ⟨h1, h2⟩ := List.getElem?_eq_some_iff.1 hx; rw [← h2]; exact List.getElem_mem h1)
      have hcx : wr.cell? ⟨g, m, none⟩ = some (.int .u8 (x : Int)) := HC.out _ _ hx
      have hvs : valD (ds.take (m + 1)) = valD (ds.take m) * 256 + x := by
        rw [List.take_add_one, hx]
        exact valD_snoc _ _
      have hvl : valD (ds.take m) < 16777216 := by
        have := valD_lt (ds.take m) fun d h => HD.out d (List.mem_of_mem_take h)
        have h3 : 256 ^ (ds.take m).length ≤ 256 ^ 3 := Nat.pow_le_pow_right (by decide) (by rw [List.length_take]; omega)
        have : (256 : Nat) ^ 3 = 16777216 := by decide
        omega
      obtain ⟨V, hV⟩ : ∃ V, V = valD (ds.take m) := ⟨_, rfl⟩
      rw [← hV] at hvs hvl ⊢
      have HVS := hid hvs
      clear hx hvs hV
      go_wp2_with fail
      go_roundg k
      case measure => omega
      case rel =>
        rw [HM.out]
        exact ⟨rfl, by omega, by go_num, by rw [HVS.out]; go_num⟩

theorem newDecoder_short (a : Option Addr) (k cap : Nat) (n : Nat) (w : World) (h1 : 1 ≤ n) (hn : n ≤ 4096) (hk : k < 4) :
    Calls Try.prog 25 #[.slice a k cap, .int .i64 n] w fun e w' => e = .returned (.tuple #[.pointer none, .int .i64 3]) ∧ w' = w := by
  have t1 : decide ((n : Int) < 1) = false := by simp; omega
  have t2 : decide ((4096 : Int) < n) = false := by simp; omega
  have t3 : decide ((k : Int) < 4) = true := by simp; omega
  go_enter Try.func25, Try.ntmps25
  go_wp2_with fail
  go_ret2
  exact ⟨rfl, rfl⟩
end Go.Proofs.Ytofdgpgleghllaa
