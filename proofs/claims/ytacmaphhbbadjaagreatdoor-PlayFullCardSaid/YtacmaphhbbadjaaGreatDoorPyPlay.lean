/- One packet of the song played, run by the small machine. -/
import Derived.Test.YtacmaphhbbadjaaGreatDoorPyLay
namespace Go.Proofs.YtacmaphhbbadjaaGreatDoor
set_option linter.all false
open Go.RowKit

def infoN : List Nat := [1, 1, 1, 4, 1, 8, 0, 0, 0, 0]
def seenE : List EV := [evi 0, evi 0, evi 0, .lit (.slice none 0 0), evi 0, evi 0, evi 0, .lit (.slice none 0 0)]
def seenV : List Value := [iv 0, iv 0, iv 0, .slice none 0 0, iv 0, iv 0, iv 0, .slice none 0 0]
def strE (vs : List Value) : List EV := infoN.map evi ++ vs.map .lit
def strV (vs : List Value) : List Value := infoN.map iv ++ vs
noncomputable def threeH (vs : List Value) : EH := EH.upd (EH.upd (EH.upd ⟨3, EH.empty.bl⟩ 0 (.of (d0.map evb))) 1 (.of (strE vs))) 2 (.of seenE)
noncomputable def playR (vs : List Value) : XR := xcall Tryz.prog undoE msk 60 17 [.ptr 1 0, .agg (pkE 0 (.sl 0 0 15 15 1) ++ [.bool false]), .ptr 2 0] (threeH vs)
noncomputable def heapOf (r : XR) : EH := XR.rec (fun _ H => H) EH.empty r
theorem play_a (q l e s f g a b d h : Value) : playR [q, l, e, s, f, g, a, b, d, h] = .ok (.bool true) (heapOf (playR [q, l, e, s, f, g, a, b, d, h])) := by kernel_rfl
theorem play_b (q l e s f g a b d h : Value) : (heapOf (playR [q, l, e, s, f, g, a, b, d, h])).blk? 1 = some (.of (strE [q, l, e, s, f, g, a, b, d, h])) := by kernel_rfl
noncomputable def seenIs (H : EH) : Bool := match H.blk? 2 with
  | some x => Nat.ble 8 x.size && (x.getN 0 8).all EV.one
  | none => false
theorem play_c (q l e s f g a b d h : Value) : seenIs (heapOf (playR [q, l, e, s, f, g, a, b, d, h])) = true := by kernel_rfl
def threeR (D S oS R : Nat) : ERho := fun b => match b with
  | 0 => some (D, 0)
  | 1 => some (S, oS)
  | 2 => some (R, 0)
  | _ => none
section
variable {w : World} {D S oS R cap : Nat} {vs : List Value}
theorem ERs.append_of {ρ : ERho} {w : World} {l l' : List EV} {L L' : List Value} (h : ERs ρ w l L) (k : ERs ρ w l' L') : ERs ρ w (l ++ l') (L ++ L') := h.append k
theorem three_rep (hD : Pre w D 0 (d0.map bv)) (hS : Pre w S oS (strV vs)) (hR : Pre w R 0 seenV) (n1 : D ≠ S) (n2 : D ≠ R) (n3 : S ≠ R) : ERep (threeR D S oS R) w (threeH vs) := by
  have hb : ∀ b p, threeR D S oS R b = some p → b = 0 ∧ p = (D, 0) ∨ b = 1 ∧ p = (S, oS) ∨ b = 2 ∧ p = (R, 0) := by
    intro b p h
    match b, h with
    | 0, h => injection h with h; exact .inl ⟨rfl, h.symm⟩
    | 1, h => injection h with h; exact .inr (.inl ⟨rfl, h.symm⟩)
    | 2, h => injection h with h; exact .inr (.inr ⟨rfl, h.symm⟩)
  have k0 : ERep (threeR D S oS R) w ⟨3, EH.empty.bl⟩ := .start _ _ _ (fun b hb => by match b, hb with | b + 3, _ => rfl) (fun b p h => by
    rcases hb b p h with ⟨_, rfl⟩ | ⟨_, rfl⟩ | ⟨_, rfl⟩
    · exact hD.lt
    · exact hS.lt
    · exact hR.lt)
  have k1 := k0.add (n := 0) (B := D) (o := 0) rfl hD ((ERs.lits (g := bv) (f := evb) (fun a ρ w V => Iff.rfl) d0 _).2 rfl) (fun b ba h => by
    rcases hb b _ h with ⟨h, _⟩ | ⟨_, h⟩ | ⟨_, h⟩
    · exact h
    · injection h with h; exact absurd h n1
    · injection h with h; exact absurd h n2) (blk?_empty _ _)
  have k2 := k1.add (n := 1) (B := S) (o := oS) rfl hS (((ERs.lits (g := iv) (f := evi) (fun a ρ w V => Iff.rfl) infoN _).2 rfl).append ((ERs.lits (g := id) (f := .lit) (fun a ρ w V => Iff.rfl) vs _).2 (by simp))) (fun b ba h => by
    rcases hb b _ h with ⟨_, h⟩ | ⟨h, _⟩ | ⟨_, h⟩
    · injection h with h; exact absurd h.symm n1
    · exact h
    · injection h with h; exact absurd h n3) (by
    cases q : EH.blk? (EH.upd ⟨3, EH.empty.bl⟩ 0 (.of (d0.map evb))) 1 with
    | none => rfl
    | some x =>
      rcases blk?_upd q with ⟨h, _⟩ | ⟨_, h⟩
      · cases h
      · rw [blk?_empty] at h; cases h)
  exact k2.add (n := 2) (B := R) (o := 0) rfl hR ⟨rfl, rfl, rfl, rfl, rfl, rfl, rfl, rfl, trivial⟩ (fun b ba h => by
    rcases hb b _ h with ⟨_, h⟩ | ⟨_, h⟩ | ⟨h, _⟩
    · injection h with h; exact absurd h.symm n2
    · injection h with h; exact absurd h.symm n3
    · exact h) (by
    cases q : EH.blk? (EH.upd (EH.upd ⟨3, EH.empty.bl⟩ 0 (.of (d0.map evb))) 1 (.of (strE vs))) 2 with
    | none => rfl
    | some x =>
      rcases blk?_upd q with ⟨h, _⟩ | ⟨_, h⟩
      · cases h
      · rcases blk?_upd h with ⟨h, _⟩ | ⟨_, h⟩
        · cases h
        · rw [blk?_empty] at h; cases h)
theorem threeH_blk (b : Nat) (x : EBlk) (h : (threeH vs).blk? b = some x) : b = 0 ∨ b = 1 ∨ b = 2 := by
  unfold threeH at h
  rcases blk?_upd h with ⟨rfl, _⟩ | ⟨_, h⟩
  · exact .inr (.inr rfl)
  · rcases blk?_upd h with ⟨rfl, _⟩ | ⟨_, h⟩
    · exact .inr (.inl rfl)
    · rcases blk?_upd h with ⟨rfl, _⟩ | ⟨_, h⟩
      · exact .inl rfl
      · rw [blk?_empty] at h; cases h
theorem ERs.lits_inv {ρ : ERho} {w : World} {l : List EV} {V W : List Value} (h : ERs ρ w l V) (k : ERs ρ w l W) (hl : ∀ x ∈ l, ∀ A B, ER ρ w x A → ER ρ w x B → A = B) : V = W := by
  induction l generalizing V W with
  | nil =>
    cases V <;> cases W <;> first | rfl | exact h.elim | exact k.elim
  | cons x l ih =>
    match V, W, h, k with
    | v :: V, u :: W, h, k => rw [hl x (by simp) _ _ h.1 k.1, ih h.2 k.2 fun y hy => hl y (by simp [hy])]
set_option maxRecDepth 100000 in
theorem play_ok {q l e s f g a b d h : Value} (hD : Pre w D 0 (d0.map bv)) (hz : eSize w D = some cap) (h15 : 15 ≤ cap) (hS : Pre w S oS (strV [q, l, e, s, f, g, a, b, d, h])) (hR : Pre w R 0 seenV) (n1 : D ≠ S) (n2 : D ≠ R) (n3 : S ≠ R) :
    Calls Tryz.prog 17 #[.pointer (some ⟨S, oS, none⟩), .agg (pkV 0 (.slice (some ⟨D, 0, none⟩) 15 cap) ++ [Value.bool false]).toArray, .pointer (some ⟨R, 0, none⟩)] w fun x w' =>
      x = .returned (.bool true) ∧ Chg [D, S, R] w w' ∧ Pre w' S oS (strV [q, l, e, s, f, g, a, b, d, h]) ∧ ∃ us : List Value, us.length = 8 ∧ Pre w' R 0 us ∧ ∀ u ∈ us, u.oneCell' = true := by
  have R0 := three_rep hD hS hR n1 n2 n3
  have hsl : ER (threeR D S oS R) w (.sl 0 0 15 15 1) (.slice (some ⟨D, 0, none⟩) 15 cap) := ⟨D, 0, _, _, rfl, rfl, by simpa using h15, .inl ⟨rfl, .inr ⟨cap, hz, by omega⟩⟩⟩
  refine (machine follows_mixed chk_fns undoE_ok (play_a q l e s f g a b d h) R0 (A := #[.pointer (some ⟨S, oS, none⟩), .agg (pkV 0 (.slice (some ⟨D, 0, none⟩) 15 cap) ++ [Value.bool false]).toArray, .pointer (some ⟨R, 0, none⟩)])
    ⟨⟨S, oS, rfl, rfl⟩, ⟨(pkV 0 (.slice (some ⟨D, 0, none⟩) 15 cap) ++ [Value.bool false]).toArray, rfl, ERs.append (l := pkE 0 (.sl 0 0 15 15 1)) (L := pkV 0 (.slice (some ⟨D, 0, none⟩) 15 cap)) ⟨rfl, rfl, rfl, rfl, rfl, hsl, trivial⟩ (l' := [.bool false]) (L' := [.bool false]) ⟨rfl, trivial⟩⟩, ⟨R, 0, rfl, rfl⟩, trivial⟩).mono ?_
  rintro x w' ⟨V, ρ', rfl, st, r⟩
  have r : V = .bool true := r
  subst r
  refine ⟨rfl, st.chg ?_, ?_, ?_⟩
  · rintro B ⟨b, x, ba, hb, e⟩
    rcases threeH_blk b x hb with rfl | rfl | rfl <;> (injection e with e; injection e with e _; simp [e])
  · obtain ⟨B, o, V, h1, h2, h3⟩ := st.rep.pre (l := strE [q, l, e, s, f, g, a, b, d, h]) (play_b q l e s f g a b d h) rfl (Nat.le_refl _)
    have := st.ext 1 _ (show threeR D S oS R 1 = some (S, oS) from rfl)
    rw [this] at h1; injection h1 with h1; injection h1 with e1 e2; subst e1; subst e2
    have hV : V = strV [q, l, e, s, f, g, a, b, d, h] := by
      refine ERs.lits_inv h3 (((ERs.lits (g := iv) (f := evi) (fun a ρ w V => Iff.rfl) infoN _).2 rfl).append ((ERs.lits (g := id) (f := .lit) (fun a ρ w V => Iff.rfl) _ _).2 (by simp))) fun x hx A B hA hB => ?_
      simp only [strE, List.mem_append, List.mem_map] at hx
      rcases hx with ⟨_, _, rfl⟩ | ⟨_, _, rfl⟩
      · exact (show A = _ from hA).trans (show B = _ from hB).symm
      · exact (show A = _ from hA).trans (show B = _ from hB).symm
    rw [← hV]; exact h2
  · have hs := play_c q l e s f g a b d h
    unfold seenIs at hs
    split at hs
    · rename_i x hx
      simp only [Bool.and_eq_true] at hs
      obtain ⟨B, o, V, h1, h2, h3⟩ := st.rep.pre (l := x.getN 0 8) hx (by rw [EBlk.getN_length]) (by rw [EBlk.getN_length]; exact Nat.le_of_ble_eq_true hs.1)
      have := st.ext 2 _ (show threeR D S oS R 2 = some (R, 0) from rfl)
      rw [this] at h1; injection h1 with h1; injection h1 with e1 e2; subst e1; subst e2
      exact ⟨V, by rw [← h3.length, EBlk.getN_length], h2, one_all hs.2 h3⟩
    · cases hs
end
end Go.Proofs.YtacmaphhbbadjaaGreatDoor
