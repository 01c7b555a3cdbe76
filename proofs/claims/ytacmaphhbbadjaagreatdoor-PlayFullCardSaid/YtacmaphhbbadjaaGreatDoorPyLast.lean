/- play.Put of the song's second packet to an empty queue, run by the small machine. -/
import Derived.Test.YtacmaphhbbadjaaGreatDoorPyPut
namespace Go.Proofs.YtacmaphhbbadjaaGreatDoor
set_option linter.all false
open Go.RowKit

def fourP (k c : Nat) (now : Int) : List EV := [.sl 2 0 1 c 0, .int .i64 (.ofNat (k + 1)), .int .i64 now, .bool false]
def fourS (e s : Value) : List EV := infoN.map evi ++ [.sl 3 0 0 0 7, evi 0, .lit e, .lit s, .bool false, .bool false, evi 0, evi 0, evi 0, .lit (.slice none 0 0)]
noncomputable def fourH (k c : Nat) (now : Int) (e s : Value) : EH := EH.upd (EH.upd (EH.upd (EH.upd ⟨4, EH.empty.bl⟩ 0 (.of (d1.map evb))) 1 (.of (fourP k c now))) 2 (.of (fourS e s))) 3 (.of [])
noncomputable def lastR (k c cE : Nat) (now : Int) (e s : Value) : XR := xcall Tryz.prog undoE msk 60 7 [.ptr 1 0, .agg (pkE 2 (.sl 0 0 15 cE 0))] (fourH k c now e s)
theorem last_a (k c cE : Nat) (now : Int) (e s : Value) : lastR k c cE now e s = .ok (evi 0) (heapOf (lastR k c cE now e s)) := by kernel_rfl
def fourR (E oE B o S oS G g : Nat) : ERho := fun b => match b with
  | 0 => some (E, oE)
  | 1 => some (B, o)
  | 2 => some (S, oS)
  | 3 => some (G, g)
  | _ => none
section
variable {w : World} {E oE cE B o S oS G g c k cq z : Nat} {now : Int} {e s : Int}
set_option maxRecDepth 100000 in
theorem last_ok (h : PlAt w B o S oS c (k + 1) now (.slice (some ⟨G, g, none⟩) 0 cq) 0 e s) (hG : Pre w G g []) (hz : eSize w G = some z) (hr : g + cq * 7 ≤ z) (hE : Pre w E oE (d1.map bv))
    (n1 : E ≠ B) (n2 : E ≠ S) (n3 : E ≠ G) (n4 : B ≠ S) (n5 : B ≠ G) (n6 : S ≠ G) :
    Calls Tryz.prog 7 #[.pointer (some ⟨B, o, none⟩), .agg (pkV 2 (.slice (some ⟨E, oE, none⟩) 15 cE)).toArray] w fun x w' => x = .returned (iv 0) ∧ Chg [E, B, S, G] w w' := by
  have hb : ∀ b p, fourR E oE B o S oS G g b = some p → b = 0 ∧ p = (E, oE) ∨ b = 1 ∧ p = (B, o) ∨ b = 2 ∧ p = (S, oS) ∨ b = 3 ∧ p = (G, g) := by
    intro b p h
    match b, h with
    | 0, h => injection h with h; exact .inl ⟨rfl, h.symm⟩
    | 1, h => injection h with h; exact .inr (.inl ⟨rfl, h.symm⟩)
    | 2, h => injection h with h; exact .inr (.inr (.inl ⟨rfl, h.symm⟩))
    | 3, h => injection h with h; exact .inr (.inr (.inr ⟨rfl, h.symm⟩))
  have k0 : ERep (fourR E oE B o S oS G g) w ⟨4, EH.empty.bl⟩ := .start _ _ _ (fun b hb => by match b, hb with | b + 4, _ => rfl) (fun b p q => by
    rcases hb b p q with ⟨_, rfl⟩ | ⟨_, rfl⟩ | ⟨_, rfl⟩ | ⟨_, rfl⟩
    · exact hE.lt
    · exact h.pl.lt
    · exact h.st.lt
    · exact hG.lt)
  have none_upd : ∀ {H : EH} {n i : Nat} {x : EBlk}, H.blk? i = none → i ≠ n → (H.upd n x).blk? i = none := by
    intro H n i x hn hne
    cases q : (H.upd n x).blk? i with
    | none => rfl
    | some y =>
      rcases blk?_upd q with ⟨h, _⟩ | ⟨_, h⟩
      · exact absurd h hne
      · rw [hn] at h; cases h
  have r1 : ERs (fourR E oE B o S oS G g) w (fourP k c now) [.slice (some ⟨S, oS, none⟩) 1 c, iv (k + 1), .int .i64 now, .bool false] := ⟨⟨S, oS, _, _, rfl, rfl, by simp, .inl ⟨rfl, .inl rfl⟩⟩, rfl, rfl, rfl, trivial⟩
  have r2 : ERs (fourR E oE B o S oS G g) w (fourS (.int .i64 e) (.int .i64 s)) (strV (rest (.slice (some ⟨G, g, none⟩) 0 cq) 0 e s)) :=
    ERs.append ((ERs.lits (g := iv) (f := evi) (fun a ρ w V => Iff.rfl) infoN _).2 rfl) ⟨⟨G, g, _, _, rfl, rfl, by simp, .inl ⟨rfl, .inr ⟨z, hz, by omega⟩⟩⟩, rfl, rfl, rfl, rfl, rfl, rfl, rfl, rfl, rfl, trivial⟩
  have k1 := k0.add (n := 0) (B := E) (o := oE) rfl hE ((ERs.lits (g := bv) (f := evb) (fun a ρ w V => Iff.rfl) d1 _).2 rfl) (fun b ba q => by
    rcases hb b _ q with ⟨q, _⟩ | ⟨_, q⟩ | ⟨_, q⟩ | ⟨_, q⟩
    · exact q
    · injection q with q; exact absurd q n1
    · injection q with q; exact absurd q n2
    · injection q with q; exact absurd q n3) (blk?_empty _ _)
  have k2 := k1.add (n := 1) (B := B) (o := o) rfl h.pl r1 (fun b ba q => by
    rcases hb b _ q with ⟨_, q⟩ | ⟨q, _⟩ | ⟨_, q⟩ | ⟨_, q⟩
    · injection q with q; exact absurd q.symm n1
    · exact q
    · injection q with q; exact absurd q n4
    · injection q with q; exact absurd q n5) (none_upd (blk?_empty _ _) (by decide))
  have k3 := k2.add (n := 2) (B := S) (o := oS) rfl h.st r2 (fun b ba q => by
    rcases hb b _ q with ⟨_, q⟩ | ⟨_, q⟩ | ⟨q, _⟩ | ⟨_, q⟩
    · injection q with q; exact absurd q.symm n2
    · injection q with q; exact absurd q.symm n4
    · exact q
    · injection q with q; exact absurd q n6) (none_upd (none_upd (blk?_empty _ _) (by decide)) (by decide))
  have R := k3.add (n := 3) (B := G) (o := g) (l := []) rfl hG trivial (fun b ba q => by
    rcases hb b _ q with ⟨_, q⟩ | ⟨_, q⟩ | ⟨_, q⟩ | ⟨q, _⟩
    · injection q with q; exact absurd q.symm n3
    · injection q with q; exact absurd q.symm n5
    · injection q with q; exact absurd q.symm n6
    · exact q) (none_upd (none_upd (none_upd (blk?_empty _ _) (by decide)) (by decide)) (by decide))
  have hsl : ER (fourR E oE B o S oS G g) w (.sl 0 0 15 cE 0) (.slice (some ⟨E, oE, none⟩) 15 cE) := ⟨E, oE, _, _, rfl, rfl, by simp, .inl ⟨rfl, .inl rfl⟩⟩
  refine (machine follows_mixed chk_fns undoE_ok (last_a k c cE now (.int .i64 e) (.int .i64 s)) R (A := #[.pointer (some ⟨B, o, none⟩), .agg (pkV 2 (.slice (some ⟨E, oE, none⟩) 15 cE)).toArray])
    ⟨⟨B, o, rfl, rfl⟩, ⟨_, rfl, rfl, rfl, rfl, rfl, rfl, hsl, trivial⟩, trivial⟩).mono ?_
  rintro x w' ⟨V, ρ', rfl, st, r⟩
  have r : V = iv 0 := r
  subst r
  refine ⟨rfl, st.chg ?_⟩
  rintro Bq ⟨b, x, ba, _, q⟩
  rcases hb b _ q with ⟨_, q⟩ | ⟨_, q⟩ | ⟨_, q⟩ | ⟨_, q⟩ <;> (injection q with q _; simp [q])
end
end Go.Proofs.YtacmaphhbbadjaaGreatDoor
