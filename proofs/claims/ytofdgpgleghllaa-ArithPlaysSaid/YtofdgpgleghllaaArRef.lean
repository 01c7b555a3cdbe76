/- The reference's coder, each function by its contract: it computes what the coder computes. -/
import Derived.Test.YtofdgpgleghllaaArKnown
import Derived.Deep.RegionHeld3
import Derived.Deep.RegionLaw
namespace Go.Proofs.Ytofdgpgleghllaa
set_option linter.unusedSimpArgs false
set_option linter.unusedVariables false
open Go.RowKit

theorem after_any (o bit : Nat) (w : World) (h2 : o ≤ 4096) (hbit : bit = 0 ∨ bit = 1) :
    Calls Try.prog 36 #[.int .i64 o, .int .i64 bit] w fun e w' => e = .returned (.int .i64 (adaptN o bit : Nat)) ∧ w' = w := by
  rcases hbit with rfl | rfl
  all_goals
    go_enter Try.func36, Try.ntmps36
    go_wp2
    go_ret
    exact ⟨by unfold adaptN; simp; go_num, rfl⟩

theorem u64_and_255 (x : Nat) (hx : x < 18446744073709551616) : bits BinOp.and IntKind.u64 (x : Int) 255 = ((x % 256 : Nat) : Int) := by
  have h1 := u64_and_nat x 255 hx (by decide)
  have h2 : x &&& 255 = x % 256 := Nat.and_two_pow_sub_one_eq_mod x 8
  rw [h2] at h1
  exact h1

set_option maxHeartbeats 400000 in
theorem more_any (w : World) (b g : Nat) (v odds : Value) (W : Int) (ds : List Nat) (n0 : Nat)
    (hb : Blk w b 63 #[v, .int .u64 W, odds]) (hr : Row w 5 v g (ds.map b8)) (hd : ∀ d ∈ ds, d < 256) (hn : n0 < 9223372036854775808) :
    Calls Try.prog 43 #[.pointer (some ⟨b, 0, none⟩), .int .u64 n0] w fun e w' => e = .returned (.tuple #[]) ∧ Row w' 5 v g ((growL ds n0).map b8) ∧ Chg [g] w w' := by
  obtain ⟨cap, rfl, hcl, hcm, -, -⟩ := hr.open_map
  have hne := hr.ne_ hb (by decide)
  have HD := hid hd
  clear hd
  have hc0 := hb.cell 0
  simp at hc0
  go_enter Try.func43, Try.ntmps43
  go_wp2
  go_loopw [1, 4] (fun n i wr => ∃ (l t : List Nat) (c : Nat) (j : Int), i = .int .i64 j ∧ n = .int .u64 (c : Int) ∧ j = (l.length : Int) - 1 ∧ c < 9223372036854775808 ∧ l.length + t.length = ds.length ∧
      growL ds n0 = growL l c ++ t ∧ (∀ d ∈ l, d < 256) ∧ Row wr 5 (.slice (some ⟨g, 0, none⟩) ds.length cap) g ((l ++ t).map b8) ∧ Chg [g] w wr)
    (fun n i _ => (intOf i + 1).toNat)
  case atStart => exact ⟨ds, [], n0, _, rfl, rfl, rfl, hn, by simp, by simp, HD.out, by simpa using hr, Chg.refl _ _⟩
  case round =>
    obtain ⟨l, t, c, j, rfl, rfl, hj, hc, hlen, hgr, hl, hrow, hchg⟩ := hrel
    have hbr := hb.chg hchg (by simpa using hne.symm)
    have hc0r := hbr.cell 0
    simp at hc0r
    clear hc0
    rcases List.eq_nil_or_concat l with rfl | ⟨l', d, rfl⟩
    · obtain rfl : j = -1 := by simpa using hj
      have HG := hid hgr
      clear hj hlen hgr hl
      go_wp2
      all_goals
        go_end0
        refine ⟨rfl, ?_, hchg⟩
        rw [HG.out]; simpa [growL_nil] using hrow
    · have hcd : wr.cell? ⟨g, l'.length, none⟩ = some (.int .u8 (d : Int)) := by
        obtain ⟨_, h1, _, _, h2, _⟩ := hrow.open_map
        exact h2 l'.length d (by simp)
      have hfr : wr.frozen? ⟨g, l'.length, none⟩ = false := by
        obtain ⟨_, h1, _, _, _, h2⟩ := hrow.open_map
        exact h2 _
      obtain rfl : j = (l'.length : Int) := by simp at hj; omega
      have hd256 : d < 256 := hl d (by simp)
      have hlt : l'.length < ds.length := by simp at hlen; omega
      have HL := hid hlen
      have HG := hid hgr
      have HLL := hid hl
      clear hj hlen hgr hl
      have hand : bits BinOp.and IntKind.u64 ((c : Int) + (d : Int)) 255 = (((c : Int) + d) % 256) := by
        have := u64_and_255 (c + d) (by omega)
        have e : ((c + d : Nat) : Int) = (c : Int) + d := by omega
        rw [e] at this
        rw [this]
        omega
      go_wp2
      · have hcp : 0 < c := by omega
        go_roundw
        case rel =>
          have e1 := growL_snoc l' d c (by omega)
          have HLO := HL.out
          refine ⟨l', (c + d) % 256 :: t, (c + d) / 256, _, rfl, by go_num, rfl, by omega, by simp at HLO ⊢; omega, ?_, fun x hx => HLL.out x (by simp [hx]), ?_, hchg.setCell (by simp) _⟩
          · rw [HG.out, List.concat_eq_append, e1, List.append_assoc]; rfl
          · have h2 := hrow.set_ (i := l'.length) (by simp) (b8 ((c + d) % 256))
            have e2 : ((l'.concat d ++ t).map b8).set l'.length (b8 ((c + d) % 256)) = (l' ++ (c + d) % 256 :: t).map b8 := by
              rw [List.concat_eq_append, List.append_assoc, List.map_append, List.map_append, List.set_append_right _ _ (by simp)]
              simp
            rw [e2] at h2
            have e3 : b8 ((c + d) % 256) = .int .u8 (((c : Int) + d) % 256) := by unfold b8; go_num
            rw [e3] at h2
            exact h2
        case measure => simp [intOf]
      · obtain rfl : c = 0 := by omega
        go_end0
        refine ⟨rfl, ?_, hchg⟩
        rw [HG.out, growL_zero]; exact hrow

end Go.Proofs.Ytofdgpgleghllaa
