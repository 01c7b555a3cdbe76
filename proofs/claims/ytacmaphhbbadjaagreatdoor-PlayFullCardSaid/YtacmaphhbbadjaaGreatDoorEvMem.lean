/- The small machine in use: known blocks as its memory, its answers as facts on memory. -/
import Derived.Test.YtacmaphhbbadjaaGreatDoorEvZ
namespace Go.Proofs.YtacmaphhbbadjaaGreatDoor
set_option linter.all false
open Go.RowKit

/-- From o on block B has these cells, none of them frozen. -/
structure Pre (w : World) (B o : Nat) (l : List Value) : Prop where
  ex : ∃ cur t fr, w.heap[B]? = some (.cells cur t fr) ∧ (fr.1 = fr.2 ∨ cur.size ≤ fr.1) ∧ o + l.length ≤ cur.size ∧ ∀ (i : Nat) (v : Value), l[i]? = some v → cur[o + i]? = some v
section
variable {w w' : World} {B o : Nat} {l : List Value} {F : List Nat}
theorem Pre.lt (h : Pre w B o l) : B < w.heap.size := by
  obtain ⟨_, _, _, h, _⟩ := h.ex
  exact (Array.getElem?_eq_some_iff.1 h).1
theorem Pre.keep (h : Pre w B o l) (hb : w'.heap[B]? = w.heap[B]?) : Pre w' B o l := by
  obtain ⟨cur, t, fr, h1, h2⟩ := h.ex
  exact ⟨cur, t, fr, hb.trans h1, h2⟩
theorem Pre.chg (h : Pre w B o l) (hc : Chg F w w') (hB : B ∉ F) : Pre w' B o l := h.keep (hc.block B h.lt hB)
theorem Pre.same (h : Pre w B o l) (hc : Chg [] w w') : Pre w' B o l := h.chg hc (by simp)
theorem Pre.alloc (h : Pre w B o l) (x : Obj) : Pre (w.alloc x) B o l := h.keep (Below.heap_alloc w x B h.lt)
theorem Pre.drew (h : Pre w B o l) : Pre w.drew B o l := h.keep rfl
theorem Pre.drewN (h : Pre w B o l) (n : Nat) : Pre (w.drewN n) B o l := h.keep rfl
theorem Pre.far (h : Pre w B o l) {p : Addr} (hp : B ≠ p.block) (u : Value) : Pre (w.setCell p u) B o l := h.keep (Below.heap_setCell w p u B hp)
theorem Pre.cell (h : Pre w B o l) {i : Nat} {v : Value} (hi : l[i]? = some v) : w.cell? ⟨B, o + i, none⟩ = some v := by
  obtain ⟨cur, t, fr, h1, h2, h3, h4⟩ := h.ex
  simp [World.cell?, h1, h4 i v hi]
theorem Pre.frozen (h : Pre w B o l) {i : Nat} (hi : i < l.length) : w.frozen? ⟨B, o + i, none⟩ = false := by
  obtain ⟨cur, t, fr, h1, h2, h3, h4⟩ := h.ex
  simp only [World.frozen?, h1]
  rw [← Bool.decide_and, decide_eq_false_iff_not]
  rcases h2 with h2 | h2 <;> omega
theorem Pre.set_ (h : Pre w B o l) {i : Nat} (hi : i < l.length) (u : Value) : Pre (w.setCell ⟨B, o + i, none⟩ u) B o (l.set i u) := by
  obtain ⟨cur, t, fr, h1, h2, h3, h4⟩ := h.ex
  refine ⟨cur.setIfInBounds (o + i) u, t, fr, by simp [World.setCell, Array.getElem?_modify, h1], by simpa using h2, by simpa using h3, fun j v hj => ?_⟩
  rw [Array.getElem?_setIfInBounds]
  by_cases e : i = j
  · subst e
    rw [List.getElem?_set_self hi] at hj
    rw [if_pos rfl, if_pos (by omega), hj]
  · rw [List.getElem?_set_ne e] at hj
    rw [if_neg (by omega), h4 j v hj]
theorem Pre.of_blk {t : TypeId} {cs : Array Value} (h : Blk w B t cs) : Pre w B 0 cs.toList := ⟨cs, t, (0, 0), h, .inl rfl, by simp, fun i v hi => by simpa using hi⟩
theorem Pre.cells (h : Pre w B o l) : Cells (fun v => v) w (some ⟨B, o, none⟩) l := ⟨fun _ => ⟨B, o, rfl, h.lt, fun i a ha => h.cell ha⟩⟩
/-- A part. -/
theorem Pre.part (h : Pre w B o l) (i : Nat) {m : List Value} (hi : i + m.length ≤ l.length) (hm : ∀ (j : Nat) (v : Value), m[j]? = some v → l[i + j]? = some v) : Pre w B (o + i) m := by
  obtain ⟨cur, t, fr, h1, h2, h3, h4⟩ := h.ex
  exact ⟨cur, t, fr, h1, h2, by omega, fun j v hj => by rw [Nat.add_assoc]; exact h4 _ _ (hm j v hj)⟩
end
section
variable {P : Program} {w w' : World} {ρ ρ' : ERho} {H H' : EH} {F : List Nat}
theorem EStep.chg (s : EStep ρ w H ρ' w' H') (hF : ∀ B, ELive ρ H B → B ∈ F) : Chg F w w' :=
  ⟨s.kp.os, s.kp.tape, s.kp.output, s.kp.hsize, fun k hk hn => s.kp.block k hk fun q => hn (hF k q)⟩
theorem blk?_empty (n b : Nat) : EH.blk? ⟨n, EH.empty.bl⟩ b = none := by
  have hg : hget EH.empty.bl b = none ∨ 65536 ≤ b := by
    rcases Nat.lt_or_ge b 65536 with h | h
    · left
      unfold hget EH.empty
      have h1 : Nat.div b 4096 < 16 := by show b / 4096 < 16; omega
      have h2 : Nat.mod (Nat.div b 256) 16 < 16 := Nat.mod_lt _ (by decide)
      have h3 : Nat.mod (Nat.div b 16) 16 < 16 := Nat.mod_lt _ (by decide)
      have h4 : Nat.mod b 16 < 16 := Nat.mod_lt _ (by decide)
      simp only [dig_rep _ h1, dig_rep _ h2, dig_rep _ h3, dig_rep _ h4]
    · exact .inr h
  unfold EH.blk?
  rcases hg with h | h
  · show (Bool.rec none (hget EH.empty.bl b) (Nat.blt b 65536) : Option EBlk) = none
    rw [h]
    cases Nat.blt b 65536 <;> rfl
  · rw [blt_f (by omega)]
theorem ERep.start (ρ : ERho) (w : World) (n : Nat) (hn : ∀ b, n ≤ b → ρ b = none) (hb : ∀ (b : Nat) (p : Nat × Nat), ρ b = some p → p.1 < w.heap.size) : ERep ρ w ⟨n, EH.empty.bl⟩ :=
  ⟨hn, fun b x h => absurd h (by rw [blk?_empty]; simp), fun b b' x x' B ba B' ba' h => absurd h (by rw [blk?_empty]; simp), hb⟩
theorem ERep.add (R : ERep ρ w H) {n B o : Nat} (hρ : ρ n = some (B, o)) {l : List EV} {V : List Value} (hp : Pre w B o V) (hl : ERs ρ w l V) (hd : ∀ b ba, ρ b = some (B, ba) → b = n) (hN : H.blk? n = none) : ERep ρ w (H.upd n (.of l)) := by
  refine R.wake hρ (.of l) ?_ ?_ (fun b y h => blk?_upd h) (Nat.le_refl _)
  · obtain ⟨cur, t, fr, h1, h2, h3, h4⟩ := hp.ex
    have hlen := hl.length
    refine ⟨cur, t, fr, h1, by show o + l.length ≤ _; omega, h2, fun i hi => ?_⟩
    have hi : i < l.length := hi
    obtain ⟨v, e, r⟩ := hl.get i l[i] (by simp [hi])
    exact ⟨v, h4 i v e, by rw [EBlk.of_get l i hi]; exact r⟩
  · rintro ⟨b, x, ba, hx, e⟩
    rw [hd b ba e] at hx
    rw [hN] at hx; cases hx
theorem ERep.pre (R : ERep ρ w H) {b : Nat} {x : EBlk} (hb : H.blk? b = some x) {l : List EV} (hx : x.getN 0 l.length = l) (hn : l.length ≤ x.size) : ∃ B o V, ρ b = some (B, o) ∧ Pre w B o V ∧ ERs ρ w l V := by
  obtain ⟨B, o, hρ, cur, t, fr, h1, h2, h3, h4⟩ := R.blk b x hb
  let V := (List.range l.length).map fun i => cur.getD (o + i) undef
  have hV : ∀ i, i < l.length → ∃ v, cur[o + i]? = some v ∧ V[i]? = some v ∧ ER ρ w (x.get i) v := by
    intro i hi
    obtain ⟨v, e, r⟩ := h4 i (by omega)
    refine ⟨v, e, ?_, r⟩
    simp [V, hi, Array.getD_eq_getD_getElem?, e]
  refine ⟨B, o, V, hρ, ⟨cur, t, fr, h1, h3, by simp [V]; omega, fun i v hi => ?_⟩, ERs.mk (by simp [V]) fun i u v hu hv => ?_⟩
  · have hlt : i < l.length := by
      have := (List.getElem?_eq_some_iff.1 hi).1
      simpa [V] using this
    obtain ⟨v', e, e', _⟩ := hV i hlt
    rw [hi] at e'; injection e' with e'; subst e'
    exact e
  · have hlt : i < l.length := (List.getElem?_eq_some_iff.1 hu).1
    obtain ⟨v', e, e', r⟩ := hV i hlt
    rw [hv] at e'; injection e' with e'; subst e'
    have := EBlk.getN_get x l.length 0 i hlt
    rw [hx, hu, Nat.zero_add] at this
    injection this with this
    rw [this]; exact r
/-- A slice's value. -/
theorem ER.slice {b o n c k : Nat} {V : Value} (r : ER ρ w (.sl b o n c k) V) (hn : 0 < n) : ∃ B base C, ρ b = some (B, base) ∧ V = .slice (some ⟨B, base + o, none⟩) n C ∧ (if k = 0 then C = c else c ≤ C) := by
  obtain ⟨B, base, A, C, h1, h2, h3, h4⟩ := r
  rcases h4 with ⟨h4, _⟩ | ⟨h4, _⟩
  · exact ⟨B, base, C, h1, by rw [h2, h4], h3⟩
  · omega
end
def evIs : EV → EV → Bool
  | .tup l, .tup m => allSame (evSame 6) l m
  | x, y => evSame 6 x y
theorem evIs_ok {x y : EV} (h : evIs x y = true) : x = y := by
  unfold evIs at h
  split at h
  · rw [allSame_ok (evSame_ok 6) _ _ h]
  · exact evSame_ok _ _ _ h
def blkIs (H : EH) (p : Nat × List EV) : Prop := ∃ x, H.blk? p.1 = some x ∧ p.2.length ≤ x.size ∧ x.getN 0 p.2.length = p.2
noncomputable def chkBlk (H : EH) (p : Nat × List EV) : Bool := match H.blk? p.1 with
  | some x => Nat.ble p.2.length x.size && allSame (evSame 6) (x.getN 0 p.2.length) p.2
  | none => false
noncomputable def chkRun (v : EV) (bs : List (Nat × List EV)) (r : XR) : Bool := XR.rec (fun u H => evIs u v && bs.all (chkBlk H)) false r
theorem chkRun_ok {v : EV} {bs : List (Nat × List EV)} {r : XR} (h : chkRun v bs r = true) : ∃ H, r = .ok v H ∧ ∀ p ∈ bs, blkIs H p := by
  cases r with
  | no => cases h
  | ok u H =>
    have h : (evIs u v && bs.all (chkBlk H)) = true := h
    simp only [Bool.and_eq_true, List.all_eq_true] at h
    refine ⟨H, by rw [evIs_ok h.1], fun p hp => ?_⟩
    have := h.2 p hp
    unfold chkBlk at this
    split at this
    · rename_i x hx
      simp only [Bool.and_eq_true] at this
      exact ⟨x, hx, Nat.le_of_ble_eq_true this.1, allSame_ok (evSame_ok 6) _ _ this.2⟩
    · cases this
noncomputable def chkRunP (f : EV → Bool) (bs : List (Nat × List EV)) (r : XR) : Bool := XR.rec (fun u H => f u && bs.all (chkBlk H)) false r
theorem chkRunP_ok {f : EV → Bool} {bs : List (Nat × List EV)} {r : XR} (h : chkRunP f bs r = true) : ∃ v H, r = .ok v H ∧ f v = true ∧ ∀ p ∈ bs, blkIs H p := by
  cases r with
  | no => cases h
  | ok u H =>
    have h : (f u && bs.all (chkBlk H)) = true := h
    simp only [Bool.and_eq_true, List.all_eq_true] at h
    refine ⟨u, H, rfl, h.1, fun p hp => ?_⟩
    have := h.2 p hp
    unfold chkBlk at this
    split at this
    · rename_i x hx
      simp only [Bool.and_eq_true] at this
      exact ⟨x, hx, Nat.le_of_ble_eq_true this.1, allSame_ok (evSame_ok 6) _ _ this.2⟩
    · cases this
theorem ERep.preIs {ρ : ERho} {w : World} {H : EH} (R : ERep ρ w H) {p : Nat × List EV} (h : blkIs H p) : ∃ B o V, ρ p.1 = some (B, o) ∧ Pre w B o V ∧ ERs ρ w p.2 V := by
  obtain ⟨x, h1, h2, h3⟩ := h
  exact R.pre h1 h3 h2
/-- Literal cells. -/
theorem ERs.lits {ρ : ERho} {w : World} {α : Type} {f : α → EV} {g : α → Value} (hfg : ∀ a ρ w V, ER ρ w (f a) V ↔ V = g a) : ∀ (l : List α) (V : List Value), ERs ρ w (l.map f) V ↔ V = l.map g
  | [], V => by cases V <;> simp [ERs]
  | a :: l, V => by
    cases V with
    | nil => simp [ERs]
    | cons v V =>
      show ER ρ w (f a) v ∧ ERs ρ w (l.map f) V ↔ _
      rw [hfg, ERs.lits hfg l V]
      simp
end Go.Proofs.YtacmaphhbbadjaaGreatDoor
