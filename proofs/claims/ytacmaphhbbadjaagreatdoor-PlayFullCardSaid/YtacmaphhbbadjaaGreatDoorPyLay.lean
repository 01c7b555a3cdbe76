/- page.Lay of the play law's packets, run by the small machine. -/
import Derived.Test.YtacmaphhbbadjaaGreatDoorEvUn3
import Derived.Test.YtacmaphhbbadjaaGreatDoorEvChk
namespace Go.Proofs.YtacmaphhbbadjaaGreatDoor
set_option linter.all false
open Go.RowKit

def evi (n : Nat) : EV := .int .i64 (.ofNat n)
def evb (n : Nat) : EV := .int .u8 (.ofNat n)
def iv (n : Nat) : Value := .int .i64 n
def bv (n : Nat) : Value := .int .u8 n
def d0 : List Nat := [245, 75, 0, 2, 4, 1, 8, 0, 3, 222, 32, 25, 64, 121, 106]
def d1 : List Nat := [245, 75, 2, 2, 4, 1, 8, 0, 3, 103, 32, 33, 160, 181, 156]
/-- A packet of the song: its time, its bytes. -/
def pkE (a : Nat) (x : EV) : List EV := [evi 0, evi a, evi 2, .bool true, .bool false, x]
def pkV (a : Nat) (x : Value) : List Value := [iv 0, iv a, iv 2, .bool true, .bool false, x]
def layOk : EV → Bool
  | .tup [.sl _ _ _ _ _, .int .i64 (.ofNat 0)] => true
  | _ => false
/-- One block of bytes. -/
noncomputable def oneH (d : List Nat) : EH := EH.upd ⟨1, EH.empty.bl⟩ 0 (.of (d.map evb))
def oneR (D o : Nat) : ERho := fun b => match b with
  | 0 => some (D, o)
  | _ => none
theorem lay_run0 (c : Nat) : chkRunP layOk [(0, d0.map evb)] (xcall Tryz.prog undoE msk 20 15 [.agg (pkE 0 (.sl 0 0 15 c 0))] (oneH d0)) = true := by kernel_rfl
theorem lay_run1 (c : Nat) : chkRunP layOk [(0, d1.map evb)] (xcall Tryz.prog undoE msk 20 15 [.agg (pkE 2 (.sl 0 0 15 c 0))] (oneH d1)) = true := by kernel_rfl
section
variable {w : World} {D o c : Nat} {d : List Nat}
theorem one_rep (h : Pre w D o (d.map bv)) : ERep (oneR D o) w (oneH d) := by
  refine ERep.add (n := 0) (B := D) (o := o) (.start _ _ _ (fun b hb => ?_) (fun b p hb => ?_)) rfl h ((ERs.lits (g := bv) (fun a ρ w V => Iff.rfl) d _).2 rfl) (fun b ba hb => ?_) (blk?_empty 1 0)
  · match b, hb with
    | b + 1, _ => rfl
  · match b, hb with
    | 0, hb => injection hb with hb; rw [← hb]; exact h.lt
  · match b, hb with
    | 0, _ => rfl
theorem one_live {H : EH} (h : ∀ b x, H.blk? b = some x → b < 1) : ∀ B, ELive (oneR D o) H B → B ∈ [D] := by
  rintro B ⟨b, x, ba, hb, e⟩
  match b, h b x hb, e with
  | 0, _, e => injection e with e; injection e with e _; simp [e]
theorem oneH_blk (b : Nat) (x : EBlk) (h : (oneH d).blk? b = some x) : b < 1 := by
  unfold oneH at h
  rcases blk?_upd h with ⟨rfl, _⟩ | ⟨_, h⟩
  · decide
  · rw [blk?_empty] at h; cases h
theorem one_sl : ER (oneR D o) w (.sl 0 0 15 c 0) (.slice (some ⟨D, o, none⟩) 15 c) := ⟨D, o, _, _, rfl, rfl, by simp, .inl ⟨rfl, .inl rfl⟩⟩
theorem lay_of {a : Nat} (hd : d.length = 15) (hr : chkRunP layOk [(0, d.map evb)] (xcall Tryz.prog undoE msk 20 15 [.agg (pkE a (.sl 0 0 15 c 0))] (oneH d)) = true) (h : Pre w D o (d.map bv)) :
    Calls Tryz.prog 15 #[.agg (pkV a (.slice (some ⟨D, o, none⟩) 15 c)).toArray] w fun e w' => ∃ A n cap, e = .returned (.tuple #[.slice A n cap, .int .i64 0]) ∧ Chg [D] w w' ∧ Pre w' D o (d.map bv) := by
  obtain ⟨v, H, e, hv, hb⟩ := chkRunP_ok hr
  have R := one_rep h
  refine (machine follows_mixed chk_fns undoE_ok e R (A := #[.agg (pkV a (.slice (some ⟨D, o, none⟩) 15 c)).toArray]) ⟨⟨_, rfl, rfl, rfl, rfl, rfl, rfl, one_sl, trivial⟩, trivial⟩).mono ?_
  rintro e w' ⟨V, ρ', rfl, st, r⟩
  unfold layOk at hv
  split at hv
  · obtain ⟨cs, rfl, r1⟩ := r
    obtain ⟨l⟩ := cs
    match l, r1 with
    | [x, y], r1 =>
      obtain ⟨⟨_, _, A, C, _, rfl, _⟩, rfl, _⟩ := r1
      refine ⟨_, _, _, rfl, st.chg (one_live fun b x hx => oneH_blk b x hx), ?_⟩
      obtain ⟨B, o', V, hρ, hp, hl⟩ := st.rep.preIs (p := (0, d.map evb)) (hb _ (by simp))
      have := st.ext 0 _ (show oneR D o 0 = some (D, o) from rfl)
      rw [this] at hρ; injection hρ with hρ; injection hρ with e1 e2; subst e1; subst e2
      rw [(ERs.lits (g := bv) (fun a ρ w V => Iff.rfl) d _).1 hl] at hp
      exact hp
  · cases hv
end
end Go.Proofs.YtacmaphhbbadjaaGreatDoor
