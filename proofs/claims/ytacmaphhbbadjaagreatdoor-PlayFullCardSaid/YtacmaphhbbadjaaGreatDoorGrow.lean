/- Words on memory, the second part: an object's blocks that may turn and may be handed over to new ones (Grow); a slice that may still be nil (Own). Plain lemmas, no program. -/
import Derived.Test.YtacmaphhbbadjaaGreatDoorBase
namespace Go.Proofs.YtacmaphhbbadjaaGreatDoor
set_option linter.all false
open Go.RowKit

/-- Nothing turned but the blocks F, and the new ones; F' are of F or new. -/
structure Grow (F F' : List Nat) (w w' : World) : Prop where
  chg : Chg F w w'
  new : ∀ x ∈ F', x ∈ F ∨ w.heap.size ≤ x

section
variable {F F' F'' : List Nat} {a b c w w' : World} {g : Nat}
theorem Grow.refl (F : List Nat) (w : World) : Grow F F w w := ⟨Chg.refl _ _, fun _ h => .inl h⟩
theorem Grow.trans (h : Grow F F' a b) (k : Grow F' F'' b c) : Grow F F'' a c :=
  ⟨h.chg.trans k.chg h.new, fun x hx => by
    rcases k.new x hx with h1 | h1
    · exact h.new x h1
    · exact .inr (Nat.le_trans h.chg.size h1)⟩
/-- A step that leaves all old blocks alone. -/
theorem Grow.same (h : Grow F F' a b) (k : Chg [] b c) : Grow F F' a c :=
  ⟨h.chg.trans k (by simp), h.new⟩
theorem Grow.pre (k : Chg [] a b) (h : Grow F F' b c) : Grow F F' a c :=
  ⟨⟨h.chg.os.trans k.os, h.chg.tape.trans k.tape, h.chg.output.trans k.output, Nat.le_trans k.size h.chg.size, fun x hx hn => (h.chg.block x (Nat.lt_of_lt_of_le hx k.size) hn).trans (k.block x hx (by simp))⟩,
   fun x hx => by rcases h.new x hx with h1 | h1; exact .inl h1; exact .inr (Nat.le_trans k.size h1)⟩
theorem Grow.drewN (h : Grow F F' a b) (n : Nat) : Grow F F' a (b.drewN n) := ⟨h.chg.drewN n, h.new⟩
theorem Grow.drew (h : Grow F F' a b) : Grow F F' a b.drew := ⟨h.chg.drew, h.new⟩
theorem Grow.alloc (h : Grow F F' a b) (o : Obj) : Grow F F' a (b.alloc o) := ⟨h.chg.alloc o, h.new⟩
theorem Grow.setCell (h : Grow F F' a b) {p : Addr} (hp : p.block ∈ F') (u : Value) : Grow F F' a (b.setCell p u) :=
  ⟨h.chg.setCell (h.new _ hp) u, h.new⟩
theorem Grow.cons (h : Grow F F' a b) (x : Nat) : Grow (x :: F) (x :: F') a b :=
  ⟨h.chg.mono fun k hk _ => by simp [hk], fun k hk => by
    rcases List.mem_cons.1 hk with rfl | hk
    · exact .inl (by simp)
    · rcases h.new k hk with h1 | h1
      · exact .inl (by simp [h1])
      · exact .inr h1⟩
theorem Grow.mono (h : Grow F F' a b) {G : List Nat} (hF : ∀ x ∈ F, x ∈ G) : Grow G F' a b :=
  ⟨h.chg.mono fun k hk _ => hF k hk, fun k hk => by
    rcases h.new k hk with h1 | h1
    · exact .inl (hF k h1)
    · exact .inr h1⟩
/-- What is not of the object stays not of it. -/
theorem Grow.out (h : Grow F F' w w') (hg : g < w.heap.size) (hn : g ∉ F) : g ∉ F' := fun hm => by
  rcases h.new g hm with h1 | h1
  · exact hn h1
  · omega
theorem Grow.size (h : Grow F F' w w') : w.heap.size ≤ w'.heap.size := h.chg.size
/-- An object that is all new: nothing old turned. -/
theorem Grow.fresh (h : Grow F F' a b) (hF : ∀ x ∈ F, w.heap.size ≤ x) (k : Chg [] w a) : Chg [] w b :=
  k.trans h.chg fun x hx => .inr (hF x hx)
theorem Grow.freshF (h : Grow F F' a b) (hF : ∀ x ∈ F, w.heap.size ≤ x) (k : Chg [] w a) : ∀ x ∈ F', w.heap.size ≤ x := fun x hx => by
  rcases h.new x hx with h1 | h1
  · exact hF x h1
  · exact Nat.le_trans k.size h1
end

/-- The slice value v owns the elements xs (one cell each, of type e), or is nil and there are none; F: its block, if it has one. -/
structure Own (w : World) (e : TypeId) (v : Value) (F : List Nat) (xs : List Value) : Prop where
  own : w.ownsRow 0 e 1 v xs.length xs
  fp : F = v.ownBlock.toList

section
variable {w w' : World} {e : TypeId} {v : Value} {F G G' : List Nat} {xs : List Value}
theorem Own.nil (w : World) (e : TypeId) : Own w e (.slice none 0 0) [] [] := ⟨World.ownsRow_nil _ 0 _ _, rfl⟩
theorem Own.chg (h : Own w e v F xs) (hc : Chg G w w') (hd : ∀ x ∈ F, x ∉ G) : Own w' e v F xs :=
  ⟨own_chg h.own hc fun k hk => hd k (by rw [h.fp, hk]; simp), h.fp⟩
theorem Own.same (h : Own w e v F xs) (hc : Chg [] w w') : Own w' e v F xs := h.chg hc (by simp)
theorem Own.lt (h : Own w e v F xs) : ∀ x ∈ F, x < w.heap.size := fun x hx => by
  rw [h.fp] at hx
  exact own_lt h.own x (by simpa using hx)
theorem Own.ne_ (h : Own w e v F xs) {g : Nat} {t : TypeId} {cs : Array Value} (hg : Blk w g t cs) (hne : e ≠ t) : g ∉ F := fun hm => by
  rw [h.fp] at hm
  exact own_ne h.own hg hne (by simpa using hm)
theorem Row.toOwn {g : Nat} (h : Row w e v g xs) : Own w e v [g] xs := ⟨h.own 0 (Nat.zero_le _), by rw [h.own_block]; rfl⟩
/-- Nil, or a row. -/
theorem Own.cases (h : Own w e v F xs) : (v = .slice none 0 0 ∧ xs = [] ∧ F = []) ∨ ∃ g, Row w e v g xs ∧ F = [g] := by
  obtain ⟨h1, h2⟩ := h.own
  rcases h2 with ⟨rfl, h3⟩ | ⟨g, cap, cur, rfl, h2, h3, h4, h5, h6, h7⟩
  · exact .inl ⟨rfl, List.eq_nil_of_length_eq_zero h3, by rw [h.fp]; rfl⟩
  · refine .inr ⟨g, ⟨cap, cur, rfl, h3, h4, h5, by simpa using h6, by simpa using h7⟩, by rw [h.fp]; rfl⟩
/-- Its shape: an address (or none), the length, a capacity; cells; not frozen. -/
theorem Own.open_ (h : Own w e v F xs) : ∃ (A : Option Addr) (cap : Nat), v = .slice A xs.length cap ∧ xs.length ≤ cap ∧ cap ≤ 9223372036854775807 ∧ Cells (fun v => v) w A xs ∧
    ∀ ad, A = some ad → ∃ g, ad = ⟨g, 0, none⟩ ∧ F = [g] ∧ ∀ i, w.frozen? ⟨g, i, none⟩ = false := by
  rcases h.cases with ⟨rfl, rfl, rfl⟩ | ⟨g, hr, rfl⟩
  · exact ⟨none, 0, rfl, Nat.le_refl _, by decide, ⟨fun h => by simp at h⟩, fun ad h => by cases h⟩
  · have hlt := hr.lt
    obtain ⟨cap, rfl, h2, h3, h4, h5⟩ := hr.open_
    exact ⟨some ⟨g, 0, none⟩, cap, rfl, h2, by simpa [maxLen] using h3, ⟨fun _ => ⟨g, 0, rfl, hlt, fun i a ha => by
      rw [Nat.zero_add, h4 i (List.getElem?_eq_some_iff.1 ha).1, ha]⟩⟩, fun ad h => by
        injection h with h
        exact ⟨g, h.symm, rfl, h5⟩⟩
end
section
variable {w w' : World} {e : TypeId} {v : Value} {F G G' : List Nat} {xs : List Value}
theorem Own.alloc (h : Own w e v F xs) (o : Obj) : Own (w.alloc o) e v F xs := h.same ((Chg.refl [] w).alloc o)
theorem Own.drewN (h : Own w e v F xs) (n : Nat) : Own (w.drewN n) e v F xs := h.same ((Chg.refl [] w).drewN n)
theorem Own.drew (h : Own w e v F xs) : Own w.drew e v F xs := h.same (Chg.refl [] w).drew
theorem Own.far (h : Own w e v F xs) {p : Addr} (hp : p.block ∉ F) (u : Value) : Own (w.setCell p u) e v F xs :=
  h.chg ((Chg.refl [p.block] w).setCell (by simp) u) (by intro x hx hm; simp at hm; subst hm; exact hp hx)
theorem Own.row (h : Own w e v F xs) {g n c : Nat} (hv : v = .slice (some ⟨g, 0, none⟩) n c) : Row w e v g xs ∧ F = [g] := by
  rcases h.cases with ⟨rfl, _⟩ | ⟨g', hr, rfl⟩
  · cases hv
  · have := hr.own_block
    rw [hv] at this
    simp only [Value.ownBlock] at this
    injection this with this
    subst this
    exact ⟨hr, rfl⟩
/-- The same of a list that is spelled. -/
theorem Own.open_map {α : Type} {f : α → Value} {ds : List α} (h : Own w e v F (ds.map f)) : ∃ (A : Option Addr) (cap : Nat), v = .slice A ds.length cap ∧ ds.length ≤ cap ∧ cap ≤ 9223372036854775807 ∧ Cells f w A ds := by
  obtain ⟨A, cap, h1, h2, h3, h4, _⟩ := h.open_
  simp only [List.length_map] at h1 h2
  refine ⟨A, cap, h1, h2, h3, ⟨fun h0 => ?_⟩⟩
  obtain ⟨b, o, e1, e2, e3⟩ := h4.ex (by simpa using h0)
  exact ⟨b, o, e1, e2, fun i a ha => e3 i (f a) (by rw [List.getElem?_map, ha]; rfl)⟩
end
theorem Cells.map {α β : Type} {f : β → Value} {k : α → β} {w : World} {A : Option Addr} {l : List α} (h : Cells f w A (l.map k)) : Cells (fun x => f (k x)) w A l :=
  ⟨fun h0 => by
    obtain ⟨b, o, e1, e2, e3⟩ := h.ex (by simpa using h0)
    exact ⟨b, o, e1, e2, fun i a ha => e3 i (k a) (by rw [List.getElem?_map, ha]; rfl)⟩⟩
theorem Cells.drewN {α : Type} {f : α → Value} {w : World} {A : Option Addr} {l : List α} (h : Cells f w A l) (n : Nat) : Cells f (w.drewN n) A l := h.chg ((Chg.refl [] w).drewN n) (by simp)
/-- What a slice holds is apart from an object's blocks. -/
def Apt {α : Type} (A : Option Addr) (l : List α) (F : List Nat) : Prop := 0 < l.length → ∀ ad, A = some ad → ad.block ∉ F
section
variable {α : Type} {f : α → Value} {w w' : World} {A : Option Addr} {l : List α} {F F' : List Nat}
theorem Cells.keep (h : Cells f w A l) (a : Apt A l F) (hc : Chg F w w') : Cells f w' A l :=
  ⟨fun h0 => by
    obtain ⟨b0, o0, e0, hb0, hcells⟩ := h.ex h0
    exact ⟨b0, o0, e0, Nat.lt_of_lt_of_le hb0 hc.size, fun i x hx => (World.cell?_of_block (w := w) (hc.block b0 hb0 (a h0 _ e0))).trans (hcells i x hx)⟩⟩
theorem Apt.grow (a : Apt A l F) (h : Cells f w A l) (g : Grow F F' w w') : Apt A l F' := fun h0 ad e => by
  obtain ⟨b0, o0, e0, hb0, _⟩ := h.ex h0
  have ha := a h0 ad e
  rw [e] at e0
  injection e0 with e0
  subst e0
  exact g.out hb0 ha
theorem Apt.fresh (h : Cells f w A l) (hF : ∀ x ∈ F, w.heap.size ≤ x) : Apt A l F := fun h0 ad e hm => by
  obtain ⟨b0, o0, e0, hb0, _⟩ := h.ex h0
  rw [e] at e0
  injection e0 with e0
  subst e0
  have := hF _ hm
  simp at this
  omega
theorem Apt.nil (F : List Nat) : Apt A ([] : List α) F := fun h => by simp at h
theorem Apt.of {β : Type} {l' : List β} (a : Apt A l F) (h : l'.length ≤ l.length) : Apt A l' F := fun h0 => a (by omega)
theorem Apt.to {A' : Option Addr} {β : Type} {l' : List β} (a : Apt A l F) (h : l'.length ≤ l.length) (hb : ∀ ad, A' = some ad → ∃ ad0, A = some ad0 ∧ ad.block = ad0.block) : Apt A' l' F := fun h0 ad e => by
  obtain ⟨ad0, e0, h1⟩ := hb ad e
  rw [h1]
  exact a (by omega) ad0 e0
/-- A slice that is owned: it reads; where it is apart. -/
theorem Own.cells {e : TypeId} {n c : Nat} (h : Own w e (.slice A n c) F (l.map f)) : Cells f w A l := by
  obtain ⟨A', cap', h1, _, _, h2⟩ := h.open_map
  injection h1 with h1
  subst h1
  exact h2
theorem Own.apt {β : Type} {l' : List β} {e : TypeId} {n c : Nat} {xs : List Value} (h : Own w e (.slice A n c) F xs) (hd : ∀ x ∈ F, x ∉ F') : Apt A l' F' := fun _ ad e => by
  subst e
  have h1 := h.fp
  rcases h.cases with ⟨h2, _⟩ | ⟨g, hr, rfl⟩
  · cases h2
  · obtain ⟨cap, h3, _⟩ := hr.open_
    injection h3 with h3
    injection h3 with h3
    subst h3
    exact hd _ (by simp)
end
end Go.Proofs.YtacmaphhbbadjaaGreatDoor
namespace Go.Proofs.YtacmaphhbbadjaaGreatDoor
open Go.RowKit
section
variable {P : Program}
/-- append of m elements (m > 0) of one cell that lie at an address, to a slice that is owned or nil. -/
theorem wpList_append_o {w : World} {ops : Array Oper} {rest : List Oper} {o : Oper} {a : Act} {Q : Exit → Act → World → Prop} (hgd : o.guard = none) {s x : Operand} {t : TypeId}
    (ho : o.op = .call { callee := .builtin .append, args := #[s, x], argTypes := #[t, t] })
    {e : TypeId} {z : Value} {bytes : Nat} (E : Elem P t e z 1 bytes) (hzs : z.cells.size = 1)
    {v : Value} {F : List Nat} {xs : List Value} (hs : a.eval s = v) (hown : Own w e v F xs) {ad : Addr} {c : Nat} (news : List Value) (hx : a.eval x = .slice (some ad) news.length c) (hm : 0 < news.length)
    (hnews : ∀ j u, news[j]? = some u → w.cell? (ad.add j) = some u) (h1 : ∀ u ∈ news, u.oneCell' = true) (h63 : xs.length + news.length ≤ 9223372036854775807) (hbytes : (xs.length + news.length) * bytes ≤ 140737488355328)
    (h : ∀ g cap w', Row w' e (.slice (some ⟨g, 0, none⟩) (xs.length + news.length) cap) g (xs ++ news) → Grow F [g] w w' → wpList P ops Q rest (a.put o.dst (.slice (some ⟨g, 0, none⟩) (xs.length + news.length) cap)) w') : wpList P ops Q (o :: rest) a w := by
  refine wpList_append_sl hgd ho E hzs (by decide) hs hown.own hx (news := news) (by simp) hm hnews h1 h63 hbytes ?_
  intro g' cap w' h2 h3 h4
  obtain ⟨g'', h5, h6⟩ := Row.of_own h2 rfl
  simp only [Value.ownBlock] at h6
  injection h6 with h6
  subst h6
  rw [← hown.fp] at h3
  refine h g' cap w' h5 ⟨h3, fun x hx => ?_⟩
  simp at hx
  subst hx
  rcases h4 with h4 | h4
  · left; rw [hown.fp, ← h4]; simp
  · exact .inr h4
/-- append of one element, which lies in a block of its own. -/
theorem wpList_append_o1 {w : World} {ops : Array Oper} {rest : List Oper} {o : Oper} {a : Act} {Q : Exit → Act → World → Prop} (hgd : o.guard = none) {s x : Operand} {t : TypeId}
    (ho : o.op = .call { callee := .builtin .append, args := #[s, x], argTypes := #[t, t] })
    {e : TypeId} {z : Value} {bytes : Nat} (E : Elem P t e z 1 bytes) (hzs : z.cells.size = 1)
    {v : Value} {F : List Nat} {xs : List Value} (hs : a.eval s = v) (hown : Own w e v F xs) {B c : Nat} (u : Value) (hx : a.eval x = .slice (some ⟨B, 0, none⟩) 1 c)
    (hu : w.cell? ⟨B, 0, none⟩ = some u) (h1 : u.oneCell' = true) (hbytes : (xs.length + 1) * bytes ≤ 140737488355328) (h63 : xs.length < 9223372036854775807)
    (h : ∀ g cap w', Row w' e (.slice (some ⟨g, 0, none⟩) (xs.length + 1) cap) g (xs ++ [u]) → Grow F [g] w w' → wpList P ops Q rest (a.put o.dst (.slice (some ⟨g, 0, none⟩) (xs.length + 1) cap)) w') : wpList P ops Q (o :: rest) a w := by
  refine wpList_append_o hgd ho E hzs hs hown [u] hx (by simp) ?_ (by simpa using h1) (by simp; omega) (by simpa using hbytes) h
  intro j u' hj
  match j, hj with
  | 0, hj => simp at hj; subst hj; simpa [Addr.add] using hu
/-- The same as a step of a region that draws its order. -/
theorem step_append_o1 {w : World} {ops : Array Oper} {o : Oper} {a : Act} {K : Act → World → Prop} {Q : Exit → Act → World → Prop} {E0 : Prop} (hgd : o.guard = none) {s x : Operand} {t : TypeId}
    (ho : o.op = .call { callee := .builtin .append, args := #[s, x], argTypes := #[t, t] })
    {e : TypeId} {z : Value} {bytes : Nat} (E : Elem P t e z 1 bytes) (hzs : z.cells.size = 1)
    {v : Value} {F : List Nat} {xs : List Value} (hs : a.eval s = v) (hown : Own w e v F xs) {B c : Nat} (u : Value) (hx : a.eval x = .slice (some ⟨B, 0, none⟩) 1 c)
    (hu : w.cell? ⟨B, 0, none⟩ = some u) (h1 : u.oneCell' = true) (hbytes : (xs.length + 1) * bytes ≤ 140737488355328) (h63 : xs.length < 9223372036854775807)
    (h : ∀ g cap w', Row w' e (.slice (some ⟨g, 0, none⟩) (xs.length + 1) cap) g (xs ++ [u]) → Grow F [g] w w' → K (a.put o.dst (.slice (some ⟨g, 0, none⟩) (xs.length + 1) cap)) w') :
    if Region.wanted o (yielded ops a.tmps) = true then Oper.wp P o a w K Q else E0 := by
  rw [if_pos (by simp [Region.wanted, hgd])]
  refine wp_append_sl ho E hzs (by decide) hs hown.own hx (news := [u]) (by simp) (by decide) ?_ (by simpa using h1) (by omega) hbytes ?_
  · intro j u' hj
    match j, hj with
    | 0, hj => simp at hj; subst hj; simpa [Addr.add] using hu
  · intro g' cap w' h2 h3 h4
    obtain ⟨g'', h5, h6⟩ := Row.of_own h2 rfl
    simp only [Value.ownBlock] at h6
    injection h6 with h6
    subst h6
    rw [← hown.fp] at h3
    refine h g' cap w' h5 ⟨h3, fun x hx => ?_⟩
    simp at hx
    subst hx
    rcases h4 with h4 | h4
    · left; rw [hown.fp, ← h4]; simp
    · exact .inr h4
end
end Go.Proofs.YtacmaphhbbadjaaGreatDoor
