/- The player's methods by their contracts: Waits, next. -/
import Derived.Test.YtacmaphhbbadjaaGreatDoorPyNew
import Derived.Test.YtacmaphhbbadjaaGreatDoorOwnK
import Derived.Test.YtacmaphhbbadjaaGreatDoorTailH
import Derived.Deep.RegionLaw
namespace Go.Proofs.YtacmaphhbbadjaaGreatDoor
set_option linter.all false
open Go.RowKit

section
variable {w : World} {B o S oS c m : Nat} {now : Int} {Q : Value} {last e s : Int}
/-- The player's cells. -/
theorem PlAt.pcells (h : PlAt w B o S oS c m now Q last e s) : (w.cell? ⟨B, o, none⟩ = some (.slice (some ⟨S, oS, none⟩) 1 c) ∧ w.cell? ⟨B, o + 1, none⟩ = some (.int .i64 (m : Int)) ∧ w.cell? ⟨B, o + 2, none⟩ = some (.int .i64 now) ∧ w.cell? ⟨B, o + 3, none⟩ = some (.bool false)) ∧ w.frozen? ⟨B, o + 2, none⟩ = false :=
  ⟨⟨h.pl.cell (i := 0) rfl, h.pl.cell (i := 1) rfl, h.pl.cell (i := 2) rfl, h.pl.cell (i := 3) rfl⟩, h.pl.frozen (i := 2) (by show 2 < 4; decide)⟩
theorem PlAt.scells (h : PlAt w B o S oS c m now Q last e s) : (w.cell? ⟨S, oS + 10, none⟩ = some Q ∧ w.cell? ⟨S, oS + 11, none⟩ = some (.int .i64 last) ∧ w.cell? ⟨S, oS + 12, none⟩ = some (.int .i64 e) ∧ w.cell? ⟨S, oS + 13, none⟩ = some (.int .i64 s)) ∧
    w.frozen? ⟨S, oS + 10, none⟩ = false ∧ w.frozen? ⟨S, oS + 11, none⟩ = false ∧ w.frozen? ⟨S, oS + 12, none⟩ = false ∧ w.frozen? ⟨S, oS + 13, none⟩ = false :=
  ⟨⟨h.st.cell (i := 10) rfl, h.st.cell (i := 11) rfl, h.st.cell (i := 12) rfl, h.st.cell (i := 13) rfl⟩, h.st.frozen (i := 10) (by show 10 < 20; decide), h.st.frozen (i := 11) (by show 11 < 20; decide), h.st.frozen (i := 12) (by show 12 < 20; decide), h.st.frozen (i := 13) (by show 13 < 20; decide)⟩
set_option maxRecDepth 100000 in
set_option maxHeartbeats 1000000 in
theorem waits_ok {A : Option Addr} {n cap : Nat} (h : PlAt w B o S oS c m now (.slice A n cap) last e s) : Calls Tryz.prog 8 #[.pointer (some ⟨B, o, none⟩), .int .i64 0] w fun x w' => x = .returned (.int .i64 (n : Int)) ∧ w = w' := by
  obtain ⟨⟨b0, b1, b2, b3⟩, _⟩ := h.pcells
  obtain ⟨⟨c0, _⟩, _⟩ := h.scells
  go_enter Tryz.func8, Tryz.ntmps8
  go_wp2
  go_ret
  exact ⟨rfl, rfl⟩
set_option maxRecDepth 100000 in
set_option maxHeartbeats 1000000 in
theorem next_none {A : Option Addr} {cap : Nat} {tt : Int} (h : PlAt w B o S oS c m now (.slice A 0 cap) last e s) : Calls Tryz.prog 16 #[.pointer (some ⟨B, o, none⟩), .int .i64 tt] w fun x w' => x = .returned (.pointer none) ∧ w = w' := by
  obtain ⟨⟨b0, b1, b2, b3⟩, _⟩ := h.pcells
  obtain ⟨⟨c0, _⟩, _⟩ := h.scells
  go_enter Tryz.func16, Tryz.ntmps16
  go_wp2_with fail
  go_loopg [5, 6, 7, 13] 1 (fun j v5 v6 v7 v13 wr => ∃ i : Nat, i + j = 1 ∧ v13 = .int .i64 (i : Int) ∧ v5 = .pointer none ∧ w = wr)
  case atStart => exact ⟨0, rfl, rfl, rfl, rfl⟩
  case round =>
    obtain ⟨i, hij, rfl, rfl, rfl⟩ := hrel
    rcases gk with _ | j
    · obtain rfl : i = 1 := by omega
      go_wp2
      go_ret
      exact ⟨rfl, rfl⟩
    · obtain rfl : i = 0 := by omega
      go_wp2
      go_roundg 0
      case measure => omega
      case rel => exact ⟨1, by omega, rfl, rfl, rfl⟩
set_option maxRecDepth 100000 in
set_option maxHeartbeats 1000000 in
theorem next_some {G g n cap : Nat} {tt : Int} (h : PlAt w B o S oS c m now (.slice (some ⟨G, g, none⟩) (n + 1) cap) last e s) (hq : w.cell? ⟨G, g + 1, none⟩ = some (.int .i64 0)) (ht : 0 ≤ tt) :
    Calls Tryz.prog 16 #[.pointer (some ⟨B, o, none⟩), .int .i64 tt] w fun x w' => x = .returned (.pointer (some ⟨S, oS, none⟩)) ∧ ∃ q, w' = w.drewN q := by
  obtain ⟨⟨b0, b1, b2, b3⟩, _⟩ := h.pcells
  obtain ⟨⟨c0, _⟩, _⟩ := h.scells
  have t1 : decide (tt < 0) = false := by simp; omega
  obtain ⟨n1, hn1⟩ : ∃ n1 : Nat, n1 = n + 1 := ⟨_, rfl⟩
  have t2 : (((n1 : Nat) : Int) == 0) = false := by simp; omega
  have t3 : decide (0 < n1) = true := by simp; omega
  have t4 : decide ((0 : Int) < (n1 : Int)) = true := by simp; omega
  have t5 : 0 < n1 := by omega
  rw [← hn1] at h c0
  clear hn1 h ht
  go_enter Tryz.func16, Tryz.ntmps16
  go_wp2_with fail
  go_loopg [5, 6, 7, 13] 1 (fun j v5 v6 v7 v13 wr => (j = 1 ∧ v13 = .int .i64 0 ∧ v5 = .pointer none ∧ w = wr) ∨ (j = 0 ∧ v13 = .int .i64 1 ∧ v5 = .pointer (some ⟨S, oS, none⟩) ∧ ∃ q, wr = w.drewN q))
  case atStart => exact .inl ⟨rfl, rfl, rfl, rfl⟩
  case round =>
    rcases hrel with ⟨hj, rfl, rfl, rfl⟩ | ⟨rfl, rfl, rfl, q, rfl⟩
    · go_wp2
      go_quiet (fail)
      go_wp2
      go_roundg 0
      case measure => omega
      case rel => exact .inr ⟨rfl, rfl, rfl, _, rfl⟩
    · go_wp2
      go_ret
      exact ⟨rfl, _, rfl⟩
end
end Go.Proofs.YtacmaphhbbadjaaGreatDoor
