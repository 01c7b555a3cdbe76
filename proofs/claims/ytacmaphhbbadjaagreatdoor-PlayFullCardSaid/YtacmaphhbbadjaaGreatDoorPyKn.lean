/- The play law's known(), run by the small machine; song() is answered at once. -/
import Derived.Test.YtacmaphhbbadjaaGreatDoorPySong
namespace Go.Proofs.YtacmaphhbbadjaaGreatDoor
set_option linter.all false
open Go.RowKit

section
variable {ρ ρ' : ERho} {w w' : World} {H H' : EH}
/-- A block of the world becomes the machine's next. -/
theorem ERep.join (R : ERep ρ w H) {B o : Nat} {l : List EV} {V : List Value} (hp : Pre w B o V) (hl : ERs ρ w l V) (hf : ∀ b ba, ρ b ≠ some (B, ba)) : ERep (ePutρ ρ H.next (B, o)) w (H.new (.of l)) := by
  have hn := R.next _ (Nat.le_refl H.next)
  have g : EGrow ρ (ePutρ ρ H.next (B, o)) w w := ⟨rho_put ρ hn _, fun _ _ h => h⟩
  refine ⟨fun b hb => ?_, fun b y hb => ?_, fun b b' y y' C ba C' ba' hb hb' e e' hne => ?_, fun b p h => ?_⟩
  · have hb : H.next + 1 ≤ b := hb
    rw [rho_other _ _ (by omega)]; exact R.next b (by omega)
  · rcases blk?_new hb with ⟨rfl, rfl⟩ | ⟨_, h⟩
    · refine ⟨B, o, rho_self _ _ _, ?_⟩
      obtain ⟨cur, t, fr, h1, h2, h3, h4⟩ := hp.ex
      have hlen := hl.length
      refine ⟨cur, t, fr, h1, by show o + l.length ≤ _; omega, h2, fun i hi => ?_⟩
      have hi : i < l.length := hi
      obtain ⟨v, e, r⟩ := hl.get i l[i] (by simp [hi])
      exact ⟨v, h4 i v e, by rw [EBlk.of_get l i hi]; exact ER.mono g _ _ r⟩
    · obtain ⟨C, ba, e, k⟩ := R.blk b y h
      exact ⟨C, ba, rho_put ρ hn _ _ _ e, k.mono g rfl⟩
  · rcases blk?_new hb with ⟨h1, _⟩ | ⟨h1, hb⟩ <;> rcases blk?_new hb' with ⟨h2, _⟩ | ⟨h2, hb'⟩
    · omega
    · subst h1
      rw [rho_self] at e; injection e with e; injection e with e1 e2
      rw [rho_other _ _ h2] at e'
      rintro rfl
      exact hf _ _ (e1 ▸ e')
    · subst h2
      rw [rho_self] at e'; injection e' with e'; injection e' with e1 e2
      rw [rho_other _ _ h1] at e
      rintro rfl
      exact hf _ _ (e1 ▸ e)
    · rw [rho_other _ _ h1] at e
      rw [rho_other _ _ h2] at e'
      exact R.inj b b' y y' C ba C' ba' hb hb' e e' hne
  · unfold ePutρ at h
    split at h
    · injection h with h; subst h; exact hp.lt
    · exact R.bnd b p h
theorem EStep.join {w0 : World} {H0 : EH} {ρ0 : ERho} (s : EStep ρ0 w0 H0 ρ w H) {B o : Nat} {l : List EV} {V : List Value} (hp : Pre w B o V) (hl : ERs ρ w l V) (hf : ∀ b ba, ρ b ≠ some (B, ba)) (hB : w0.heap.size ≤ B) :
    EStep ρ0 w0 H0 (ePutρ ρ H.next (B, o)) w (H.new (.of l)) := by
  have hn := s.rep.next _ (Nat.le_refl H.next)
  refine ⟨fun b x h => rho_put ρ hn _ _ _ (s.ext b x h), s.rep.join hp hl hf, s.kp, fun C hC => ?_, Nat.le_trans s.next (Nat.le_succ _), fun b hb => ?_⟩
  · obtain ⟨b, x, ba, hx, e⟩ := hC
    rcases blk?_new hx with ⟨h1, _⟩ | ⟨h1, hx⟩
    · subst h1
      rw [rho_self] at e; injection e with e; injection e with e1 e2
      exact .inr (e1 ▸ hB)
    · rw [rho_other _ _ h1] at e
      exact s.new C ⟨b, x, ba, hx, e⟩
  · have := s.next
    rw [rho_other _ _ (by omega)]; exact s.old b hb
end

noncomputable def songH1 (H : EH) : EH := H.new (.of (d0.map evb))
noncomputable def songH2 (H : EH) : EH := (songH1 H).new (.of (d1.map evb))
noncomputable def songH3 (H : EH) : EH := (songH2 H).new (.of (pkE 0 (.sl H.next 0 15 15 1) ++ pkE 2 (.sl (songH1 H).next 0 15 15 1)))
noncomputable def songX (l : List EV) (H : EH) : XR := List.rec (.ok (.tup [.agg (infoM.map evi), .sl (songH2 H).next 0 2 2 6]) (songH3 H)) (fun _ _ _ => .no) l
/-- The own answers: song(), and lift.Undo of no steps. -/
noncomputable def songE (ca d : XCa) : XCa := fun f args H => Bool.rec (undoE ca d f args H) (songX args H) (Nat.beq f 4)
theorem sl_of {ρ : ERho} {w : World} {b B o n c k : Nat} (e : ρ b = some (B, o)) (h : Room w B o n c (k + 1)) : ER ρ w (.sl b 0 n n (k + 1)) (.slice (some ⟨B, o, none⟩) n c) := by
  obtain ⟨h1, m, h2, h3⟩ := h
  exact ⟨B, o, _, c, e, rfl, h1, .inl ⟨rfl, .inr ⟨m, h2, h3⟩⟩⟩
theorem songE_ok : EExt Tryz.prog songE := by
  intro ca d hca hd f args H v H' h
  have h : (Bool.rec (undoE ca d f args H) (songX args H) (Nat.beq f 4) : XR).opt = some (v, H') := h
  cases hb : Nat.beq f 4 with
  | false => rw [hb] at h; exact undoE_ok ca d hca hd f args H v H' h
  | true =>
    rw [hb] at h
    obtain rfl := Nat.eq_of_beq_eq_true hb
    match args, h with
    | [], h =>
      have h : some (EV.tup [.agg (infoM.map evi), .sl (songH2 H).next 0 2 2 6], songH3 H) = some (v, H') := h
      injection h with h; injection h with e1 e2; subst e1; subst e2
      refine ⟨fun A w => Go.Proofs.enters_of Tryz.func4 (by kernel_rfl) rfl A w, fun ρ w A R r => ?_⟩
      obtain ⟨l⟩ := A
      match l, r with
      | [], _ =>
        refine (song_all w).mono ?_
        rintro e w' ⟨B, o, D, oD, cD, E, oE, cE, c, rfl, _, C, S, ⟨zB, zD, zE⟩, rB, rD, rE⟩
        have old : ∀ b X ba, w.heap.size ≤ X → ρ b ≠ some (X, ba) := fun b X ba hX q => by have := R.bnd _ _ q; omega
        have s0 := (EStep.refl R).same C
        have s1 := s0.join S.fst ((ERs.lits (g := bv) (f := evb) (fun a ρ w V => Iff.rfl) d0 _).2 rfl) (fun b ba => old b D ba zD) zD
        have s2 := s1.join S.snd ((ERs.lits (g := bv) (f := evb) (fun a ρ w V => Iff.rfl) d1 _).2 rfl) (fun b ba q => by
          unfold ePutρ at q
          split at q
          · injection q with q; injection q with q; exact S.de q
          · exact old b E ba zE q) zE
        have x1 : ePutρ (ePutρ ρ H.next (D, oD)) (songH1 H).next (E, oE) H.next = some (D, oD) :=
          (rho_other (n := (songH1 H).next) (ePutρ ρ H.next (D, oD)) _ (show H.next ≠ (songH1 H).next from Nat.ne_of_lt (Nat.lt_succ_self _))).trans (rho_self _ _ _)
        have x2 : ePutρ (ePutρ ρ H.next (D, oD)) (songH1 H).next (E, oE) (songH1 H).next = some (E, oE) := rho_self _ _ _
        have s3 := s2.join S.pk (l := pkE 0 (.sl H.next 0 15 15 1) ++ pkE 2 (.sl (songH1 H).next 0 15 15 1)) ⟨rfl, rfl, rfl, rfl, rfl, sl_of x1 rD, rfl, rfl, rfl, rfl, rfl, sl_of x2 rE, trivial⟩ (fun b ba q => by
          unfold ePutρ at q
          split at q
          · injection q with q; injection q with q; exact S.be q.symm
          · split at q
            · injection q with q; injection q with q; exact S.bd q.symm
            · exact old b B ba zB q) zB
        exact ⟨_, _, rfl, s3, _, rfl, ⟨_, rfl, (ERs.lits (g := iv) (f := evi) (fun a ρ w V => Iff.rfl) infoM _).2 rfl⟩, sl_of (rho_self _ _ _) rB, trivial⟩
    | _ :: _, h => cases h
theorem known_run : chkRun (.bool true) [] (xcall Tryz.prog songE msk 100 11 [] EH.empty) = true := by kernel_rfl
theorem pknown_ok (w : World) : Calls Tryz.prog 11 #[] w fun e w' => e = .returned (.bool true) ∧ Chg [] w w' := by
  obtain ⟨H, e, _⟩ := chkRun_ok known_run
  have R : ERep (fun _ => none) w EH.empty := .start _ _ 0 (fun _ _ => rfl) (fun _ _ h => by cases h)
  refine (machine follows_mixed chk_fns songE_ok e R (A := #[]) trivial).mono ?_
  rintro e w' ⟨V, ρ', rfl, st, r⟩
  have r : V = .bool true := r
  subst r
  exact ⟨rfl, st.chg fun B hB => by obtain ⟨_, _, _, _, e⟩ := hB; cases e⟩
end Go.Proofs.YtacmaphhbbadjaaGreatDoor
