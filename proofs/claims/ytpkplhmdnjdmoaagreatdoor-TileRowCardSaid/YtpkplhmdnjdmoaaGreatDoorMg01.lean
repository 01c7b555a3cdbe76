/- Words of this seat's proofs on memory: a block that is known whole, a slice that lies at the head of a block of its own, and which blocks a call may turn. Plain lemmas, no program. -/
import Derived.WalkKit
import Derived.Deep.Draws
import Derived.Maps.AppendAt
set_option linter.unusedVariables false
set_option linter.unusedSimpArgs false
namespace Go.Proofs.YtpkplhmdnjdmoaaGreatDoor
set_option linter.unusedSimpArgs false
set_option linter.unusedVariables false
open Go.RowKit

theorem hid {p : Prop} (h : p) : Hid p := h

/-- Which blocks may have turned: those of F, and the new ones. -/
structure Chg (F : List Nat) (w w' : World) : Prop where
  os : w'.os = w.os
  tape : w'.tape = w.tape
  output : w'.output = w.output
  size : w.heap.size ≤ w'.heap.size
  block : ∀ k, k < w.heap.size → k ∉ F → w'.heap[k]? = w.heap[k]?

section
variable {F F' : List Nat} {a b c w w' : World}
theorem Chg.refl (F : List Nat) (w : World) : Chg F w w := ⟨rfl, rfl, rfl, Nat.le_refl _, fun _ _ _ => rfl⟩
theorem Chg.mono (h : Chg F a b) (hF : ∀ k ∈ F, k < a.heap.size → k ∈ F') : Chg F' a b :=
  ⟨h.os, h.tape, h.output, h.size, fun k hk hn => h.block k hk fun hm => hn (hF k hm hk)⟩
theorem Chg.trans (h : Chg F a b) (k : Chg F' b c) (hF : ∀ x ∈ F', x ∈ F ∨ a.heap.size ≤ x) : Chg F a c :=
  ⟨k.os.trans h.os, k.tape.trans h.tape, k.output.trans h.output, Nat.le_trans h.size k.size, fun x hx hn =>
    (k.block x (Nat.lt_of_lt_of_le hx h.size) fun hm => by rcases hF x hm with h1 | h1; exact hn h1; omega).trans (h.block x hx hn)⟩
theorem Chg.trans_same (h : Chg F a b) (k : Chg F b c) : Chg F a c := h.trans k fun _ h => .inl h
theorem Chg.drew (h : Chg F a w) : Chg F a w.drew := ⟨h.os, h.tape, h.output, h.size, h.block⟩
theorem Chg.drewN (h : Chg F a w) (n : Nat) : Chg F a (w.drewN n) := ⟨h.os, h.tape, h.output, h.size, h.block⟩
theorem Chg.alloc (h : Chg F a w) (o : Obj) : Chg F a (w.alloc o) :=
  h.trans_same ⟨rfl, rfl, rfl, by simp, fun k hk _ => Below.heap_alloc _ _ _ hk⟩
theorem Chg.setCell (h : Chg F a w) {p : Addr} (hp : p.block ∈ F ∨ a.heap.size ≤ p.block) (u : Value) : Chg F a (w.setCell p u) :=
  h.trans (F' := [p.block]) ⟨rfl, rfl, rfl, by simp [World.setCell], fun k _ hn => Below.heap_setCell _ _ _ _ (by simpa using hn)⟩ (by simpa using hp)
theorem Chg.of_grown {row : Option Nat} (hg : a.grownBy b row) (hr : ∀ k, row = some k → k ∈ F ∨ a.heap.size ≤ k) : Chg F a b :=
  ⟨hg.os, hg.tape, hg.output, hg.size, fun k hk hn => hg.block k hk fun e => by rcases hr k e.symm with h | h; exact hn h; omega⟩
theorem Chg.grown {row : Option Nat} (h : Chg F a w) (hg : w.grownBy w' row) (hr : ∀ k, row = some k → k ∈ F ∨ a.heap.size ≤ k) : Chg F a w' :=
  h.trans (F' := row.toList) (Chg.of_grown hg (by intro k hk; subst hk; exact .inl (by simp))) (by intro x hx; exact hr x (by simpa using hx))
theorem Chg.below (h : Chg F a b) (hF : ∀ k ∈ F, a.heap.size ≤ k) : Below a.heap.size a b :=
  ⟨h.os, h.tape, h.output, h.size, fun k hk => h.block k hk fun hm => by have := hF k hm; omega⟩
theorem Chg.of_below (h : Below a.heap.size a b) : Chg F a b := ⟨h.os, h.tape, h.output, h.size, fun k hk _ => h.block k hk⟩
theorem Chg.toBelow {B : Nat} (h : Chg F a b) (hB : B ≤ a.heap.size) (hF : ∀ k ∈ F, B ≤ k) : Below B a b :=
  ⟨h.os, h.tape, h.output, h.size, fun k hk => h.block k (by omega) fun hm => by have := hF k hm; omega⟩
end

/-- Block g is just these cells, none of them frozen. -/
def Blk (w : World) (g : Nat) (t : TypeId) (cs : Array Value) : Prop := w.heap[g]? = some (.cells cs t (0, 0))

section
variable {w w' : World} {g : Nat} {t : TypeId} {cs : Array Value} {F : List Nat}
theorem Blk.lt (h : Blk w g t cs) : g < w.heap.size := by
  unfold Blk at h
  exact (Array.getElem?_eq_some_iff.1 h).1
theorem Blk.cell (h : Blk w g t cs) (i : Nat) : w.cell? ⟨g, i, none⟩ = cs[i]? := cell_of_row w g i cs t (0, 0) h
theorem Blk.frozen (h : Blk w g t cs) (i : Nat) : w.frozen? ⟨g, i, none⟩ = false := by
  unfold Blk at h
  simp [World.frozen?, h]
theorem Blk.new (w : World) (t : TypeId) (cs : Array Value) : Blk (w.alloc (.cells cs t)) w.heap.size t cs := heap_alloc_new w _
theorem Blk.drew (h : Blk w g t cs) : Blk w.drew g t cs := h
theorem Blk.drewN (h : Blk w g t cs) (n : Nat) : Blk (w.drewN n) g t cs := h
theorem Blk.alloc (h : Blk w g t cs) (o : Obj) : Blk (w.alloc o) g t cs := (Below.heap_alloc w o g h.lt).trans h
theorem Blk.set_ (h : Blk w g t cs) (i : Nat) (u : Value) : Blk (w.setCell ⟨g, i, none⟩ u) g t (cs.setIfInBounds i u) := by
  unfold Blk at h ⊢
  simp [World.setCell, Array.getElem?_modify, h]
theorem Blk.far (h : Blk w g t cs) {p : Addr} (hp : g ≠ p.block) (u : Value) : Blk (w.setCell p u) g t cs := (Below.heap_setCell w p u g hp).trans h
theorem Blk.chg (h : Blk w g t cs) (hc : Chg F w w') (hg : g ∉ F) : Blk w' g t cs := (hc.block g h.lt hg).trans h
theorem Blk.below {B : Nat} (h : Blk w g t cs) (hb : Below B w w') (hg : g < B) : Blk w' g t cs := (hb.block g hg).trans h
theorem Blk.grown {row : Option Nat} (h : Blk w g t cs) (hb : w.grownBy w' row) (hg : some g ≠ row) : Blk w' g t cs := (hb.block g h.lt hg).trans h
theorem Blk.ne_ {g' : Nat} {t' : TypeId} {cs' : Array Value} (h : Blk w g t cs) (h' : Blk w g' t' cs') (hne : t ≠ t') : g ≠ g' := by
  rintro rfl
  unfold Blk at h h'
  rw [h] at h'
  injection h' with h'
  injection h' with _ ht
  exact hne ht
end

/-- The slice value v, of the elements xs (one cell each, of type e), lies at the head of block g, which is its own. -/
structure Row (w : World) (e : TypeId) (v : Value) (g : Nat) (xs : List Value) : Prop where
  ex : ∃ cap cur, v = .slice (some ⟨g, 0, none⟩) xs.length cap ∧ Blk w g e cur ∧ xs.length ≤ cap ∧ cap ≤ maxLen ∧ cur.size = cap ∧ cur.toList.take xs.length = xs

section
variable {w w' : World} {e : TypeId} {v : Value} {g : Nat} {xs : List Value} {F : List Nat}
theorem Row.lt (h : Row w e v g xs) : g < w.heap.size := by obtain ⟨_, _, _, h, _⟩ := h.ex; exact h.lt
theorem Row.keep (h : Row w e v g xs) (hb : ∀ t cs, Blk w g t cs → Blk w' g t cs) : Row w' e v g xs := by
  obtain ⟨cap, cur, h1, h2, h3⟩ := h.ex
  exact ⟨cap, cur, h1, hb _ _ h2, h3⟩
theorem Row.drew (h : Row w e v g xs) : Row w.drew e v g xs := h.keep fun _ _ h => h.drew
theorem Row.drewN (h : Row w e v g xs) (n : Nat) : Row (w.drewN n) e v g xs := h.keep fun _ _ h => h.drewN n
theorem Row.alloc (h : Row w e v g xs) (o : Obj) : Row (w.alloc o) e v g xs := h.keep fun _ _ h => h.alloc o
theorem Row.far (h : Row w e v g xs) {p : Addr} (hp : g ≠ p.block) (u : Value) : Row (w.setCell p u) e v g xs := h.keep fun _ _ h => h.far hp u
theorem Row.chg (h : Row w e v g xs) (hc : Chg F w w') (hg : g ∉ F) : Row w' e v g xs := h.keep fun _ _ h => h.chg hc hg
theorem Row.grown {row : Option Nat} (h : Row w e v g xs) (hb : w.grownBy w' row) (hg : some g ≠ row) : Row w' e v g xs := h.keep fun _ _ h => h.grown hb hg
theorem Row.own (h : Row w e v g xs) (base : Nat) (hb : base ≤ g) : w.ownsRow base e 1 v xs.length xs := by
  obtain ⟨cap, cur, h1, h2, h3, h4, h5, h6⟩ := h.ex
  exact ⟨by simp, .inr ⟨g, cap, cur, h1, hb, h2, h3, h4, by simp [h5], by simpa using h6⟩⟩
theorem Row.of_own {base n : Nat} (h : w.ownsRow base e 1 v n xs) {a : Addr} {m c : Nat} (hv : v = .slice (some a) m c) : ∃ g, Row w e v g xs ∧ v.ownBlock = some g := by
  obtain ⟨h1, h2⟩ := h
  rcases h2 with ⟨rfl, _⟩ | ⟨g, cap, cur, rfl, _, h3, h4, h5, h6, h7⟩
  · cases hv
  · have hn : xs.length = n := by simpa using h1
    subst hn
    exact ⟨g, ⟨cap, cur, rfl, h3, h4, h5, by simpa using h6, by simpa using h7⟩, rfl⟩
theorem Row.own_block (h : Row w e v g xs) : v.ownBlock = some g := by
  obtain ⟨cap, cur, rfl, _⟩ := h.ex
  rfl
/-- Its shape, and its cells in the walk's own spelling. -/
theorem Row.open_ (h : Row w e v g xs) : ∃ cap, v = .slice (some ⟨g, 0, none⟩) xs.length cap ∧ xs.length ≤ cap ∧ cap ≤ maxLen ∧ (∀ i, i < xs.length → w.cell? ⟨g, i, none⟩ = xs[i]?) ∧ ∀ i, w.frozen? ⟨g, i, none⟩ = false := by
  obtain ⟨cap, cur, h1, h2, h3, h4, h5, h6⟩ := h.ex
  refine ⟨cap, h1, h3, h4, fun i hi => ?_, h2.frozen⟩
  rw [h2.cell i]
  have : (cur.toList.take xs.length)[i]? = xs[i]? := by rw [h6]
  rw [List.getElem?_take, if_pos hi] at this
  simpa using this
/-- The same of a row that a list spells: the cell at a place is what the list has there. -/
theorem Row.open_map {α : Type} {f : α → Value} {ds : List α} (h : Row w e v g (ds.map f)) : ∃ cap : Nat, v = .slice (some ⟨g, 0, none⟩) ds.length cap ∧ ds.length ≤ cap ∧ cap ≤ 9223372036854775807 ∧ (∀ (i : Nat) (d : α), ds[i]? = some d → w.cell? ⟨g, i, none⟩ = some (f d)) ∧ ∀ i, w.frozen? ⟨g, i, none⟩ = false := by
  obtain ⟨cap, h1, h2, h3, h4, h5⟩ := h.open_
  simp only [List.length_map] at h1 h2 h4
  refine ⟨cap, h1, h2, by simpa [maxLen] using h3, fun i d hd => ?_, h5⟩
  have hi : i < ds.length := (List.getElem?_eq_some_iff.1 hd).1
  rw [h4 i hi, List.getElem?_map, hd]
  rfl
theorem Row.set_ (h : Row w e v g xs) {i : Nat} (hi : i < xs.length) (u : Value) : Row (w.setCell ⟨g, i, none⟩ u) e v g (xs.set i u) := by
  obtain ⟨cap, cur, h1, h2, h3, h4, h5, h6⟩ := h.ex
  refine ⟨cap, _, by simpa using h1, h2.set_ i u, by simpa using h3, h4, by simpa using h5, ?_⟩
  rw [List.length_set, Array.toList_setIfInBounds, List.take_set, h6]
theorem Row.ne_ {t : TypeId} {cs : Array Value} {b : Nat} (h : Row w e v g xs) (hb : Blk w b t cs) (hne : e ≠ t) : g ≠ b := by
  obtain ⟨_, _, _, h2, _⟩ := h.ex
  exact h2.ne_ hb hne
theorem Row.ne_row {e' : TypeId} {v' : Value} {g' : Nat} {xs' : List Value} (h : Row w e v g xs) (hb : Row w e' v' g' xs') (hne : e ≠ e') : g ≠ g' := by
  obtain ⟨_, _, _, h2, _⟩ := hb.ex
  exact h.ne_ h2 hne
theorem Row.made (w : World) (e : TypeId) (xs : List Value) (hm : xs.length ≤ maxLen) : Row (w.alloc (.cells xs.toArray e)) e (.slice (some ⟨w.heap.size, 0, none⟩) xs.length xs.length) w.heap.size xs :=
  ⟨xs.length, xs.toArray, rfl, Blk.new w e _, Nat.le_refl _, hm, by simp, by simp⟩
end

/-- The element type's row of the program's table: slices t of elements e (size cells, so many bytes, the zero value z). -/
structure Elem (P : Program) (t e : TypeId) (z : Value) (size bytes : Nat) : Prop where
  ht : P.underlying t = some (.slice e)
  hi : ∃ i, P.info? e = some i ∧ i.zero = some z ∧ i.size = size ∧ i.bytes = bytes
theorem Elem.mk' {P : Program} {t e : TypeId} {z : Value} {size bytes : Nat} (ht : P.underlying t = some (.slice e)) (h : (P.info? e).map (fun i => (i.zero, i.size, i.bytes)) = some (some z, size, bytes)) : Elem P t e z size bytes :=
  ⟨ht, info_parts h⟩

section
variable {P : Program}
/-- append of m elements (m > 0) that lie at an address. -/
theorem run_append_sl {w : World} {t ty e : TypeId} {z : Value} {size bytes : Nat} (E : Elem P t e z size bytes) (hzs : z.cells.size = size) (hsz : 0 < size)
    {v : Value} {n : Nat} {xs : List Value} (hown : w.ownsRow 0 e size v n xs) {ad : Addr} {m c : Nat} {news : List Value} (hl : news.length = m * size) (hm : 0 < m)
    (hnews : ∀ j u, news[j]? = some u → w.cell? (ad.add j) = some u) (h1 : ∀ u ∈ news, u.oneCell' = true) (h63 : n + m ≤ 9223372036854775807) (hbytes : (n + m) * bytes ≤ 140737488355328) :
    ∃ g cap w', (Builtin.append_ #[t, t] ty #[v, .slice (some ad) m c]).run P w = .ok (.slice (some ⟨g, 0, none⟩) (n + m) cap) w' ∧ w'.ownsRow 0 e size (.slice (some ⟨g, 0, none⟩) (n + m) cap) (n + m) (xs ++ news) ∧
      Chg v.ownBlock.toList w w' ∧ (some g = v.ownBlock ∨ w.heap.size ≤ g) := by
  obtain ⟨i, hi, hz, hsize, hby⟩ := E.hi
  obtain ⟨v', w', hr, h2, h3, h4, h5⟩ := run_append_own_at (P := P) w 0 t ty e i z size bytes E.ht hi hz hsize hby hzs hsz v n xs hown ad m c news hl hnews h1 (by simpa [maxLen] using h63) hbytes (Nat.zero_le _)
  rcases h2.2 with ⟨rfl, hn⟩ | ⟨g, cap, cur, rfl, hrest⟩
  · omega
  · refine ⟨g, cap, w', hr, ⟨h2.1, .inr ⟨g, cap, cur, rfl, hrest⟩⟩, Chg.of_grown h3 (by intro k hk; left; simp [hk]), ?_⟩
    simp only [Value.ownBlock] at h5
    rcases h5 with h5 | h5
    · exact .inl h5
    · right
      injection h5 with h5
      omega
theorem wp_append_sl {w : World} {o : Oper} {a : Act} {K : Act → World → Prop} {Q : Exit → Act → World → Prop} {s x : Operand} {t : TypeId}
    (ho : o.op = .call { callee := .builtin .append, args := #[s, x], argTypes := #[t, t] })
    {e : TypeId} {z : Value} {size bytes : Nat} (E : Elem P t e z size bytes) (hzs : z.cells.size = size) (hsz : 0 < size)
    {v : Value} {n : Nat} {xs : List Value} (hs : a.eval s = v) (hown : w.ownsRow 0 e size v n xs) {ad : Addr} {m c : Nat} {news : List Value} (hx : a.eval x = .slice (some ad) m c) (hl : news.length = m * size) (hm : 0 < m)
    (hnews : ∀ j u, news[j]? = some u → w.cell? (ad.add j) = some u) (h1 : ∀ u ∈ news, u.oneCell' = true) (h63 : n + m ≤ 9223372036854775807) (hbytes : (n + m) * bytes ≤ 140737488355328)
    (h : ∀ g cap w', w'.ownsRow 0 e size (.slice (some ⟨g, 0, none⟩) (n + m) cap) (n + m) (xs ++ news) → Chg v.ownBlock.toList w w' → (some g = v.ownBlock ∨ w.heap.size ≤ g) → K (a.put o.dst (.slice (some ⟨g, 0, none⟩) (n + m) cap)) w') : o.wp P a w K Q := by
  obtain ⟨g, cap, w', hr, h2, h3, h4⟩ := run_append_sl (P := P) (ty := o.type) E hzs hsz hown (ad := ad) (c := c) hl hm hnews h1 h63 hbytes
  unfold Oper.wp execOp
  simp only [ho, resolve, invoke, builtin, Sem.run_bind, Sem.run_pure, Result.andThen_ok, List.map_toArray, List.map_cons, List.map_nil, hs, hx, hr]
  exact h g cap w' h2 h3 h4
theorem wpList_append_sl {w : World} {ops : Array Oper} {rest : List Oper} {o : Oper} {a : Act} {Q : Exit → Act → World → Prop} (hgd : o.guard = none) {s x : Operand} {t : TypeId}
    (ho : o.op = .call { callee := .builtin .append, args := #[s, x], argTypes := #[t, t] })
    {e : TypeId} {z : Value} {size bytes : Nat} (E : Elem P t e z size bytes) (hzs : z.cells.size = size) (hsz : 0 < size)
    {v : Value} {n : Nat} {xs : List Value} (hs : a.eval s = v) (hown : w.ownsRow 0 e size v n xs) {ad : Addr} {m c : Nat} {news : List Value} (hx : a.eval x = .slice (some ad) m c) (hl : news.length = m * size) (hm : 0 < m)
    (hnews : ∀ j u, news[j]? = some u → w.cell? (ad.add j) = some u) (h1 : ∀ u ∈ news, u.oneCell' = true) (h63 : n + m ≤ 9223372036854775807) (hbytes : (n + m) * bytes ≤ 140737488355328)
    (h : ∀ g cap w', w'.ownsRow 0 e size (.slice (some ⟨g, 0, none⟩) (n + m) cap) (n + m) (xs ++ news) → Chg v.ownBlock.toList w w' → (some g = v.ownBlock ∨ w.heap.size ≤ g) → wpList P ops Q rest (a.put o.dst (.slice (some ⟨g, 0, none⟩) (n + m) cap)) w') : wpList P ops Q (o :: rest) a w :=
  wpList_plain hgd fun _ hK => wp_append_sl ho E hzs hsz hs hown hx hl hm hnews h1 h63 hbytes fun g cap w' h2 h3 h4 => hK _ _ (h g cap w' h2 h3 h4)
/-- append of one element of one cell, which lies in a block of its own, to a row. -/
theorem wpList_append_row1 {w : World} {ops : Array Oper} {rest : List Oper} {o : Oper} {a : Act} {Q : Exit → Act → World → Prop} (hgd : o.guard = none) {s x : Operand} {t : TypeId}
    (ho : o.op = .call { callee := .builtin .append, args := #[s, x], argTypes := #[t, t] })
    {e : TypeId} {z : Value} {bytes : Nat} (E : Elem P t e z 1 bytes) (hzs : z.cells.size = 1)
    {v : Value} {g : Nat} {xs : List Value} (hs : a.eval s = v) (hr : Row w e v g xs) {B c : Nat} (u : Value) (hx : a.eval x = .slice (some ⟨B, 0, none⟩) 1 c)
    (hu : w.cell? ⟨B, 0, none⟩ = some u) (h1 : u.oneCell' = true) (hbytes : (xs.length + 1) * bytes ≤ 140737488355328) (h63 : xs.length < 9223372036854775807)
    (h : ∀ g' cap w', Row w' e (.slice (some ⟨g', 0, none⟩) (xs.length + 1) cap) g' (xs ++ [u]) → Chg [g] w w' → (g' = g ∨ w.heap.size ≤ g') → wpList P ops Q rest (a.put o.dst (.slice (some ⟨g', 0, none⟩) (xs.length + 1) cap)) w') : wpList P ops Q (o :: rest) a w := by
  refine wpList_append_sl hgd ho E hzs (by decide) hs (hr.own 0 (Nat.zero_le _)) hx (news := [u]) (by simp) (by decide) ?_ (by simpa using h1) (by omega) hbytes ?_
  · intro j u' hj
    match j, hj with
    | 0, hj => simp at hj; subst hj; simpa [Addr.add] using hu
  · intro g' cap w' h2 h3 h4
    obtain ⟨g'', h5, h6⟩ := Row.of_own h2 rfl
    rw [hr.own_block] at h3 h4
    simp only [Value.ownBlock] at h6
    injection h6 with h6
    subst h6
    exact h g' cap w' h5 h3 (by rcases h4 with h4 | h4; · left; injection h4
                                · exact .inr h4)
end

/-- make of n elements of one cell. -/
theorem run_make1 {P : Program} {t e : TypeId} {z : Value} {bytes : Nat} (E : Elem P t e z 1 bytes) (hzs : z.cells = #[z]) (kl kc : IntKind) (n : Nat) (hb : bytes * n ≤ 281474976710656) (h63 : n ≤ 9223372036854775807) (w : World) :
    (Instr.makeSlice t (.int kl (n : Int)) (.int kc (n : Int))).run P w = .ok (.slice (some ⟨w.heap.size, 0, none⟩) n n) (w.alloc (.cells (List.replicate n z).toArray e)) := by
  obtain ⟨i, hi, hz, hsize, hby⟩ := E.hi
  subst hby
  have hb' : (i.bytes : Int) * (n : Int) ≤ 281474976710656 := by
    have h : ((i.bytes * n : Nat) : Int) ≤ 281474976710656 := by omega
    rwa [Int.natCast_mul] at h
  have hr := run_make (P := P) w t e i z E.ht hi hz kl kc n n (by omega) (Int.le_refl _) hb' (by omega)
  rw [hr, hsize, hzs]
  simp only [Int.toNat_natCast, Nat.mul_one]
  have : madeCells #[z] n = (List.replicate n z).toArray := by
    apply Array.toList_inj.1
    rw [toList_madeCells_one]
  rw [this]

section
variable {w w' : World} {base : Nat} {e : TypeId} {size n : Nat} {v : Value} {xs : List Value} {F : List Nat}
theorem own_chg (h : w.ownsRow base e size v n xs) (hc : Chg F w w') (hv : ∀ k, v.ownBlock = some k → k ∉ F) : w'.ownsRow base e size v n xs := by
  refine ⟨h.1, ?_⟩
  rcases h.2 with hn | ⟨g, cap, cur, rfl, hb, hg, rest⟩
  · exact .inl hn
  · exact .inr ⟨g, cap, cur, rfl, hb, (hc.block g (Array.getElem?_eq_some_iff.1 hg).1 (hv g rfl)).trans hg, rest⟩
theorem own_ne (h : w.ownsRow base e size v n xs) {g : Nat} {t : TypeId} {cs : Array Value} (hg : Blk w g t cs) (hne : e ≠ t) : v.ownBlock ≠ some g := by
  rcases h.2 with ⟨rfl, _⟩ | ⟨g', cap, cur, rfl, _, hh, _⟩
  · simp [Value.ownBlock]
  · intro he
    simp only [Value.ownBlock] at he
    injection he with he
    subst he
    exact (show Blk w g' e cur from hh).ne_ hg hne rfl
theorem own_ne_row (h : w.ownsRow base e size v n xs) {g : Nat} {t : TypeId} {u : Value} {ys : List Value} (hg : Row w t u g ys) (hne : e ≠ t) : v.ownBlock ≠ some g := by
  obtain ⟨_, _, _, h2, _⟩ := hg.ex
  exact own_ne h h2 hne
theorem own_lt (h : w.ownsRow base e size v n xs) : ∀ k, v.ownBlock = some k → k < w.heap.size := fun k hk => (h.lt k hk).2
theorem own_drewN (h : w.ownsRow base e size v n xs) (k : Nat) : (w.drewN k).ownsRow base e size v n xs := h
end

/-- A slice of one-cell elements in memory, which is only read: at some address (or nowhere, if it is empty), the elements l. -/
structure Cells {α : Type} (f : α → Value) (w : World) (A : Option Addr) (l : List α) : Prop where
  ex : 0 < l.length → ∃ b o, A = some ⟨b, o, none⟩ ∧ b < w.heap.size ∧ ∀ (i : Nat) (a : α), l[i]? = some a → w.cell? ⟨b, o + i, none⟩ = some (f a)
theorem Cells.chg {α : Type} {f : α → Value} {w w' : World} {A : Option Addr} {l : List α} {F : List Nat} (h : Cells f w A l) (hc : Chg F w w') (hA : ∀ ad, A = some ad → ad.block ∉ F) : Cells f w' A l :=
  ⟨fun h0 => by
    obtain ⟨b0, o0, e0, hb0, hcells⟩ := h.ex h0
    exact ⟨b0, o0, e0, Nat.lt_of_lt_of_le hb0 hc.size, fun i a ha => (World.cell?_of_block (w := w) (hc.block b0 hb0 (hA _ e0))).trans (hcells i a ha)⟩⟩
theorem Cells.same {α : Type} {f : α → Value} {w w' : World} {A : Option Addr} {l : List α} (h : Cells f w A l) (hc : Chg [] w w') : Cells f w' A l := h.chg hc (by simp)
end Go.Proofs.YtpkplhmdnjdmoaaGreatDoor

/- Words on memory, the second part: an object's blocks that may turn and may be handed over to new ones (Grow); a slice that may still be nil (Own). Plain lemmas, no program. -/
namespace Go.Proofs.YtpkplhmdnjdmoaaGreatDoor
set_option linter.unusedSimpArgs false
set_option linter.unusedVariables false
open Go.RowKit

/-- Nothing turned but the blocks F, and the new ones; F' are of F or new. -/
structure Grow (F F' : List Nat) (w w' : World) : Prop where
  chg : Chg F w w'
  new : ∀ x ∈ F', x ∈ F ∨ w.heap.size ≤ x

section
variable {F F' F'' : List Nat} {a b c w w' : World} {g : Nat}
theorem Grow.refl (F : List Nat) (w : World) : Grow F F w w := ⟨Chg.refl _ _, fun _ h => .inl h⟩
theorem Grow.trans (h : Grow F F' a b) (k : Grow F' F'' b c) : Grow F F'' a c :=
  ⟨h.chg.trans k.chg h.new, fun x hx => by
    rcases k.new x hx with h1 | h1
    · exact h.new x h1
    · exact .inr (Nat.le_trans h.chg.size h1)⟩
/-- A step that leaves all old blocks alone. -/
theorem Grow.same (h : Grow F F' a b) (k : Chg [] b c) : Grow F F' a c :=
  ⟨h.chg.trans k (by simp), h.new⟩
theorem Grow.pre (k : Chg [] a b) (h : Grow F F' b c) : Grow F F' a c :=
  ⟨⟨h.chg.os.trans k.os, h.chg.tape.trans k.tape, h.chg.output.trans k.output, Nat.le_trans k.size h.chg.size, fun x hx hn => (h.chg.block x (Nat.lt_of_lt_of_le hx k.size) hn).trans (k.block x hx (by simp))⟩,
   fun x hx => by rcases h.new x hx with h1 | h1; exact .inl h1; exact .inr (Nat.le_trans k.size h1)⟩
theorem Grow.drewN (h : Grow F F' a b) (n : Nat) : Grow F F' a (b.drewN n) := ⟨h.chg.drewN n, h.new⟩
theorem Grow.drew (h : Grow F F' a b) : Grow F F' a b.drew := ⟨h.chg.drew, h.new⟩
theorem Grow.alloc (h : Grow F F' a b) (o : Obj) : Grow F F' a (b.alloc o) := ⟨h.chg.alloc o, h.new⟩
theorem Grow.setCell (h : Grow F F' a b) {p : Addr} (hp : p.block ∈ F') (u : Value) : Grow F F' a (b.setCell p u) :=
  ⟨h.chg.setCell (h.new _ hp) u, h.new⟩
theorem Grow.cons (h : Grow F F' a b) (x : Nat) : Grow (x :: F) (x :: F') a b :=
  ⟨h.chg.mono fun k hk _ => by simp [hk], fun k hk => by
    rcases List.mem_cons.1 hk with rfl | hk
    · exact .inl (by simp)
    · rcases h.new k hk with h1 | h1
      · exact .inl (by simp [h1])
      · exact .inr h1⟩
theorem Grow.mono (h : Grow F F' a b) {G : List Nat} (hF : ∀ x ∈ F, x ∈ G) : Grow G F' a b :=
  ⟨h.chg.mono fun k hk _ => hF k hk, fun k hk => by
    rcases h.new k hk with h1 | h1
    · exact .inl (hF k h1)
    · exact .inr h1⟩
/-- What is not of the object stays not of it. -/
theorem Grow.out (h : Grow F F' w w') (hg : g < w.heap.size) (hn : g ∉ F) : g ∉ F' := fun hm => by
  rcases h.new g hm with h1 | h1
  · exact hn h1
  · omega
theorem Grow.size (h : Grow F F' w w') : w.heap.size ≤ w'.heap.size := h.chg.size
/-- An object that is all new: nothing old turned. -/
theorem Grow.fresh (h : Grow F F' a b) (hF : ∀ x ∈ F, w.heap.size ≤ x) (k : Chg [] w a) : Chg [] w b :=
  k.trans h.chg fun x hx => .inr (hF x hx)
theorem Grow.freshF (h : Grow F F' a b) (hF : ∀ x ∈ F, w.heap.size ≤ x) (k : Chg [] w a) : ∀ x ∈ F', w.heap.size ≤ x := fun x hx => by
  rcases h.new x hx with h1 | h1
  · exact hF x h1
  · exact Nat.le_trans k.size h1
end

/-- The slice value v owns the elements xs (one cell each, of type e), or is nil and there are none; F: its block, if it has one. -/
structure Own (w : World) (e : TypeId) (v : Value) (F : List Nat) (xs : List Value) : Prop where
  own : w.ownsRow 0 e 1 v xs.length xs
  fp : F = v.ownBlock.toList

section
variable {w w' : World} {e : TypeId} {v : Value} {F G G' : List Nat} {xs : List Value}
theorem Own.nil (w : World) (e : TypeId) : Own w e (.slice none 0 0) [] [] := ⟨World.ownsRow_nil _ 0 _ _, rfl⟩
theorem Own.chg (h : Own w e v F xs) (hc : Chg G w w') (hd : ∀ x ∈ F, x ∉ G) : Own w' e v F xs :=
  ⟨own_chg h.own hc fun k hk => hd k (by rw [h.fp, hk]; simp), h.fp⟩
theorem Own.same (h : Own w e v F xs) (hc : Chg [] w w') : Own w' e v F xs := h.chg hc (by simp)
theorem Own.lt (h : Own w e v F xs) : ∀ x ∈ F, x < w.heap.size := fun x hx => by
  rw [h.fp] at hx
  exact own_lt h.own x (by simpa using hx)
theorem Own.ne_ (h : Own w e v F xs) {g : Nat} {t : TypeId} {cs : Array Value} (hg : Blk w g t cs) (hne : e ≠ t) : g ∉ F := fun hm => by
  rw [h.fp] at hm
  exact own_ne h.own hg hne (by simpa using hm)
theorem Row.toOwn {g : Nat} (h : Row w e v g xs) : Own w e v [g] xs := ⟨h.own 0 (Nat.zero_le _), by rw [h.own_block]; rfl⟩
/-- Nil, or a row. -/
theorem Own.cases (h : Own w e v F xs) : (v = .slice none 0 0 ∧ xs = [] ∧ F = []) ∨ ∃ g, Row w e v g xs ∧ F = [g] := by
  obtain ⟨h1, h2⟩ := h.own
  rcases h2 with ⟨rfl, h3⟩ | ⟨g, cap, cur, rfl, h2, h3, h4, h5, h6, h7⟩
  · exact .inl ⟨rfl, List.eq_nil_of_length_eq_zero h3, by rw [h.fp]; rfl⟩
  · refine .inr ⟨g, ⟨cap, cur, rfl, h3, h4, h5, by simpa using h6, by simpa using h7⟩, by rw [h.fp]; rfl⟩
/-- Its shape: an address (or none), the length, a capacity; cells; not frozen. -/
theorem Own.open_ (h : Own w e v F xs) : ∃ (A : Option Addr) (cap : Nat), v = .slice A xs.length cap ∧ xs.length ≤ cap ∧ cap ≤ 9223372036854775807 ∧ Cells (fun v => v) w A xs ∧
    ∀ ad, A = some ad → ∃ g, ad = ⟨g, 0, none⟩ ∧ F = [g] ∧ ∀ i, w.frozen? ⟨g, i, none⟩ = false := by
  rcases h.cases with ⟨rfl, rfl, rfl⟩ | ⟨g, hr, rfl⟩
  · exact ⟨none, 0, rfl, Nat.le_refl _, by decide, ⟨fun h => by simp at h⟩, fun ad h => by cases h⟩
  · have hlt := hr.lt
    obtain ⟨cap, rfl, h2, h3, h4, h5⟩ := hr.open_
    exact ⟨some ⟨g, 0, none⟩, cap, rfl, h2, by simpa [maxLen] using h3, ⟨fun _ => ⟨g, 0, rfl, hlt, fun i a ha => by
      rw [Nat.zero_add, h4 i (List.getElem?_eq_some_iff.1 ha).1, ha]⟩⟩, fun ad h => by
        injection h with h
        exact ⟨g, h.symm, rfl, h5⟩⟩
end
section
variable {w w' : World} {e : TypeId} {v : Value} {F G G' : List Nat} {xs : List Value}
theorem Own.alloc (h : Own w e v F xs) (o : Obj) : Own (w.alloc o) e v F xs := h.same ((Chg.refl [] w).alloc o)
theorem Own.drewN (h : Own w e v F xs) (n : Nat) : Own (w.drewN n) e v F xs := h.same ((Chg.refl [] w).drewN n)
theorem Own.drew (h : Own w e v F xs) : Own w.drew e v F xs := h.same (Chg.refl [] w).drew
theorem Own.far (h : Own w e v F xs) {p : Addr} (hp : p.block ∉ F) (u : Value) : Own (w.setCell p u) e v F xs :=
  h.chg ((Chg.refl [p.block] w).setCell (by simp) u) (by intro x hx hm; simp at hm; subst hm; exact hp hx)
theorem Own.row (h : Own w e v F xs) {g n c : Nat} (hv : v = .slice (some ⟨g, 0, none⟩) n c) : Row w e v g xs ∧ F = [g] := by
  rcases h.cases with ⟨rfl, _⟩ | ⟨g', hr, rfl⟩
  · cases hv
  · have := hr.own_block
    rw [hv] at this
    simp only [Value.ownBlock] at this
    injection this with this
    subst this
    exact ⟨hr, rfl⟩
/-- The same of a list that is spelled. -/
theorem Own.open_map {α : Type} {f : α → Value} {ds : List α} (h : Own w e v F (ds.map f)) : ∃ (A : Option Addr) (cap : Nat), v = .slice A ds.length cap ∧ ds.length ≤ cap ∧ cap ≤ 9223372036854775807 ∧ Cells f w A ds := by
  obtain ⟨A, cap, h1, h2, h3, h4, _⟩ := h.open_
  simp only [List.length_map] at h1 h2
  refine ⟨A, cap, h1, h2, h3, ⟨fun h0 => ?_⟩⟩
  obtain ⟨b, o, e1, e2, e3⟩ := h4.ex (by simpa using h0)
  exact ⟨b, o, e1, e2, fun i a ha => e3 i (f a) (by rw [List.getElem?_map, ha]; rfl)⟩
end
theorem Cells.map {α β : Type} {f : β → Value} {k : α → β} {w : World} {A : Option Addr} {l : List α} (h : Cells f w A (l.map k)) : Cells (fun x => f (k x)) w A l :=
  ⟨fun h0 => by
    obtain ⟨b, o, e1, e2, e3⟩ := h.ex (by simpa using h0)
    exact ⟨b, o, e1, e2, fun i a ha => e3 i (k a) (by rw [List.getElem?_map, ha]; rfl)⟩⟩
theorem Cells.drewN {α : Type} {f : α → Value} {w : World} {A : Option Addr} {l : List α} (h : Cells f w A l) (n : Nat) : Cells f (w.drewN n) A l := h.chg ((Chg.refl [] w).drewN n) (by simp)
/-- What a slice holds is apart from an object's blocks. -/
def Apt {α : Type} (A : Option Addr) (l : List α) (F : List Nat) : Prop := 0 < l.length → ∀ ad, A = some ad → ad.block ∉ F
section
variable {α : Type} {f : α → Value} {w w' : World} {A : Option Addr} {l : List α} {F F' : List Nat}
theorem Cells.keep (h : Cells f w A l) (a : Apt A l F) (hc : Chg F w w') : Cells f w' A l :=
  ⟨fun h0 => by
    obtain ⟨b0, o0, e0, hb0, hcells⟩ := h.ex h0
    exact ⟨b0, o0, e0, Nat.lt_of_lt_of_le hb0 hc.size, fun i x hx => (World.cell?_of_block (w := w) (hc.block b0 hb0 (a h0 _ e0))).trans (hcells i x hx)⟩⟩
theorem Apt.grow (a : Apt A l F) (h : Cells f w A l) (g : Grow F F' w w') : Apt A l F' := fun h0 ad e => by
  obtain ⟨b0, o0, e0, hb0, _⟩ := h.ex h0
  have ha := a h0 ad e
  rw [e] at e0
  injection e0 with e0
  subst e0
  exact g.out hb0 ha
theorem Apt.fresh (h : Cells f w A l) (hF : ∀ x ∈ F, w.heap.size ≤ x) : Apt A l F := fun h0 ad e hm => by
  obtain ⟨b0, o0, e0, hb0, _⟩ := h.ex h0
  rw [e] at e0
  injection e0 with e0
  subst e0
  have := hF _ hm
  simp at this
  omega
theorem Apt.nil (F : List Nat) : Apt A ([] : List α) F := fun h => by simp at h
theorem Apt.of {β : Type} {l' : List β} (a : Apt A l F) (h : l'.length ≤ l.length) : Apt A l' F := fun h0 => a (by omega)
theorem Apt.to {A' : Option Addr} {β : Type} {l' : List β} (a : Apt A l F) (h : l'.length ≤ l.length) (hb : ∀ ad, A' = some ad → ∃ ad0, A = some ad0 ∧ ad.block = ad0.block) : Apt A' l' F := fun h0 ad e => by
  obtain ⟨ad0, e0, h1⟩ := hb ad e
  rw [h1]
  exact a (by omega) ad0 e0
/-- A slice that is owned: it reads; where it is apart. -/
theorem Own.cells {e : TypeId} {n c : Nat} (h : Own w e (.slice A n c) F (l.map f)) : Cells f w A l := by
  obtain ⟨A', cap', h1, _, _, h2⟩ := h.open_map
  injection h1 with h1
  subst h1
  exact h2
theorem Own.apt {β : Type} {l' : List β} {e : TypeId} {n c : Nat} {xs : List Value} (h : Own w e (.slice A n c) F xs) (hd : ∀ x ∈ F, x ∉ F') : Apt A l' F' := fun _ ad e => by
  subst e
  have h1 := h.fp
  rcases h.cases with ⟨h2, _⟩ | ⟨g, hr, rfl⟩
  · cases h2
  · obtain ⟨cap, h3, _⟩ := hr.open_
    injection h3 with h3
    injection h3 with h3
    subst h3
    exact hd _ (by simp)
end
end Go.Proofs.YtpkplhmdnjdmoaaGreatDoor
namespace Go.Proofs.YtpkplhmdnjdmoaaGreatDoor
open Go.RowKit
section
variable {P : Program}
/-- append of m elements (m > 0) of one cell that lie at an address, to a slice that is owned or nil. -/
theorem wpList_append_o {w : World} {ops : Array Oper} {rest : List Oper} {o : Oper} {a : Act} {Q : Exit → Act → World → Prop} (hgd : o.guard = none) {s x : Operand} {t : TypeId}
    (ho : o.op = .call { callee := .builtin .append, args := #[s, x], argTypes := #[t, t] })
    {e : TypeId} {z : Value} {bytes : Nat} (E : Elem P t e z 1 bytes) (hzs : z.cells.size = 1)
    {v : Value} {F : List Nat} {xs : List Value} (hs : a.eval s = v) (hown : Own w e v F xs) {ad : Addr} {c : Nat} (news : List Value) (hx : a.eval x = .slice (some ad) news.length c) (hm : 0 < news.length)
    (hnews : ∀ j u, news[j]? = some u → w.cell? (ad.add j) = some u) (h1 : ∀ u ∈ news, u.oneCell' = true) (h63 : xs.length + news.length ≤ 9223372036854775807) (hbytes : (xs.length + news.length) * bytes ≤ 140737488355328)
    (h : ∀ g cap w', Row w' e (.slice (some ⟨g, 0, none⟩) (xs.length + news.length) cap) g (xs ++ news) → Grow F [g] w w' → wpList P ops Q rest (a.put o.dst (.slice (some ⟨g, 0, none⟩) (xs.length + news.length) cap)) w') : wpList P ops Q (o :: rest) a w := by
  refine wpList_append_sl hgd ho E hzs (by decide) hs hown.own hx (news := news) (by simp) hm hnews h1 h63 hbytes ?_
  intro g' cap w' h2 h3 h4
  obtain ⟨g'', h5, h6⟩ := Row.of_own h2 rfl
  simp only [Value.ownBlock] at h6
  injection h6 with h6
  subst h6
  rw [← hown.fp] at h3
  refine h g' cap w' h5 ⟨h3, fun x hx => ?_⟩
  simp at hx
  subst hx
  rcases h4 with h4 | h4
  · left; rw [hown.fp, ← h4]; simp
  · exact .inr h4
/-- append of one element, which lies in a block of its own. -/
theorem wpList_append_o1 {w : World} {ops : Array Oper} {rest : List Oper} {o : Oper} {a : Act} {Q : Exit → Act → World → Prop} (hgd : o.guard = none) {s x : Operand} {t : TypeId}
    (ho : o.op = .call { callee := .builtin .append, args := #[s, x], argTypes := #[t, t] })
    {e : TypeId} {z : Value} {bytes : Nat} (E : Elem P t e z 1 bytes) (hzs : z.cells.size = 1)
    {v : Value} {F : List Nat} {xs : List Value} (hs : a.eval s = v) (hown : Own w e v F xs) {B c : Nat} (u : Value) (hx : a.eval x = .slice (some ⟨B, 0, none⟩) 1 c)
    (hu : w.cell? ⟨B, 0, none⟩ = some u) (h1 : u.oneCell' = true) (hbytes : (xs.length + 1) * bytes ≤ 140737488355328) (h63 : xs.length < 9223372036854775807)
    (h : ∀ g cap w', Row w' e (.slice (some ⟨g, 0, none⟩) (xs.length + 1) cap) g (xs ++ [u]) → Grow F [g] w w' → wpList P ops Q rest (a.put o.dst (.slice (some ⟨g, 0, none⟩) (xs.length + 1) cap)) w') : wpList P ops Q (o :: rest) a w := by
  refine wpList_append_o hgd ho E hzs hs hown [u] hx (by simp) ?_ (by simpa using h1) (by simp; omega) (by simpa using hbytes) h
  intro j u' hj
  match j, hj with
  | 0, hj => simp at hj; subst hj; simpa [Addr.add] using hu
/-- The same as a step of a region that draws its order. -/
theorem step_append_o1 {w : World} {ops : Array Oper} {o : Oper} {a : Act} {K : Act → World → Prop} {Q : Exit → Act → World → Prop} {E0 : Prop} (hgd : o.guard = none) {s x : Operand} {t : TypeId}
    (ho : o.op = .call { callee := .builtin .append, args := #[s, x], argTypes := #[t, t] })
    {e : TypeId} {z : Value} {bytes : Nat} (E : Elem P t e z 1 bytes) (hzs : z.cells.size = 1)
    {v : Value} {F : List Nat} {xs : List Value} (hs : a.eval s = v) (hown : Own w e v F xs) {B c : Nat} (u : Value) (hx : a.eval x = .slice (some ⟨B, 0, none⟩) 1 c)
    (hu : w.cell? ⟨B, 0, none⟩ = some u) (h1 : u.oneCell' = true) (hbytes : (xs.length + 1) * bytes ≤ 140737488355328) (h63 : xs.length < 9223372036854775807)
    (h : ∀ g cap w', Row w' e (.slice (some ⟨g, 0, none⟩) (xs.length + 1) cap) g (xs ++ [u]) → Grow F [g] w w' → K (a.put o.dst (.slice (some ⟨g, 0, none⟩) (xs.length + 1) cap)) w') :
    if Region.wanted o (yielded ops a.tmps) = true then Oper.wp P o a w K Q else E0 := by
  rw [if_pos (by simp [Region.wanted, hgd])]
  refine wp_append_sl ho E hzs (by decide) hs hown.own hx (news := [u]) (by simp) (by decide) ?_ (by simpa using h1) (by omega) hbytes ?_
  · intro j u' hj
    match j, hj with
    | 0, hj => simp at hj; subst hj; simpa [Addr.add] using hu
  · intro g' cap w' h2 h3 h4
    obtain ⟨g'', h5, h6⟩ := Row.of_own h2 rfl
    simp only [Value.ownBlock] at h6
    injection h6 with h6
    subst h6
    rw [← hown.fp] at h3
    refine h g' cap w' h5 ⟨h3, fun x hx => ?_⟩
    simp at hx
    subst hx
    rcases h4 with h4 | h4
    · left; rw [hown.fp, ← h4]; simp
    · exact .inr h4
end
end Go.Proofs.YtpkplhmdnjdmoaaGreatDoor

/- Bits in bytes, plain Lean: what bits.Writer keeps (for the Tile laws and all behind them). -/
namespace Go.Proofs.YtpkplhmdnjdmoaaGreatDoor

def bt (bs : List Nat) (k : Nat) : Nat := bs.getD k 0
/-- Byte i of the bits, the first bit highest, the missing ones 0. -/
def byteAt (bs : List Nat) (i : Nat) : Nat :=
  bt bs (8 * i) * 128 + bt bs (8 * i + 1) * 64 + bt bs (8 * i + 2) * 32 + bt bs (8 * i + 3) * 16 + bt bs (8 * i + 4) * 8 + bt bs (8 * i + 5) * 4 + bt bs (8 * i + 6) * 2 + bt bs (8 * i + 7)
def packed (bs : List Nat) : List Nat := (List.range ((bs.length + 7) / 8)).map (byteAt bs)
theorem packed_len (bs : List Nat) : (packed bs).length = (bs.length + 7) / 8 := by simp [packed]
theorem bt_out {bs : List Nat} {k : Nat} (h : bs.length ≤ k) : bt bs k = 0 := by
  unfold bt
  rw [List.getD_eq_getElem?_getD, List.getElem?_eq_none h]
  rfl
theorem bt_snoc (bs : List Nat) (b k : Nat) : bt (bs ++ [b]) k = if k < bs.length then bt bs k else if k = bs.length then b else 0 := by
  by_cases h : k < bs.length
  · rw [if_pos h]
    unfold bt
    rw [List.getD_eq_getElem?_getD, List.getD_eq_getElem?_getD, List.getElem?_append_left h]
  · rw [if_neg h]
    by_cases h2 : k = bs.length
    · rw [if_pos h2, h2]
      unfold bt
      rw [List.getD_eq_getElem?_getD, List.getElem?_append_right (Nat.le_refl _)]
      simp
    · rw [if_neg h2]
      exact bt_out (by simp; omega)
theorem byteAt_full {bs : List Nat} {b i : Nat} (h : 8 * i + 8 ≤ bs.length) : byteAt (bs ++ [b]) i = byteAt bs i := by
  unfold byteAt
  simp only [bt_snoc]
  rw [if_pos (by omega), if_pos (by omega), if_pos (by omega), if_pos (by omega), if_pos (by omega), if_pos (by omega), if_pos (by omega), if_pos (by omega)]
theorem byteAt_last {bs : List Nat} {b i r : Nat} (hl : bs.length = 8 * i + r) (hr : r < 8) : byteAt (bs ++ [b]) i = byteAt bs i + b * 2 ^ (7 - r) := by
  have z : ∀ j, r ≤ j → bt bs (8 * i + j) = 0 := fun j hj => bt_out (by omega)
  have s : ∀ j, bt (bs ++ [b]) (8 * i + j) = if j < r then bt bs (8 * i + j) else if j = r then b else 0 := fun j => by
    rw [bt_snoc, hl]
    by_cases h1 : j < r
    · rw [if_pos h1, if_pos (by omega)]
    · rw [if_neg h1, if_neg (by omega)]
      by_cases h2 : j = r
      · rw [if_pos h2, if_pos (by omega)]
      · rw [if_neg h2, if_neg (by omega)]
  have s0 := s 0
  have z0 := z 0
  simp only [Nat.add_zero] at s0 z0
  unfold byteAt
  rw [s0, s 1, s 2, s 3, s 4, s 5, s 6, s 7]
  have z1 := z 1
  have z2 := z 2
  have z3 := z 3
  have z4 := z 4
  have z5 := z 5
  have z6 := z 6
  have z7 := z 7
  clear s0 s z hl
  obtain rfl | rfl | rfl | rfl | rfl | rfl | rfl | rfl : r = 0 ∨ r = 1 ∨ r = 2 ∨ r = 3 ∨ r = 4 ∨ r = 5 ∨ r = 6 ∨ r = 7 := by omega
  all_goals
    simp at *
    omega
/-- A last byte has nothing where the next bit goes. -/
theorem byteAt_low {bs : List Nat} {i r : Nat} (hl : bs.length = 8 * i + r) (hr : r < 8) : byteAt bs i % 2 ^ (8 - r) = 0 := by
  have z : ∀ j, r ≤ j → bt bs (8 * i + j) = 0 := fun j hj => bt_out (by omega)
  have z0 := z 0
  simp only [Nat.add_zero] at z0
  have z1 := z 1
  have z2 := z 2
  have z3 := z 3
  have z4 := z 4
  have z5 := z 5
  have z6 := z 6
  have z7 := z 7
  unfold byteAt
  clear z hl
  obtain rfl | rfl | rfl | rfl | rfl | rfl | rfl | rfl : r = 0 ∨ r = 1 ∨ r = 2 ∨ r = 3 ∨ r = 4 ∨ r = 5 ∨ r = 6 ∨ r = 7 := by omega
  all_goals
    simp at *
    omega
theorem byteAt_lt {bs : List Nat} (h : ∀ b ∈ bs, b < 2) (i : Nat) : byteAt bs i < 256 := by
  have s : ∀ k, bt bs k ≤ 1 := fun k => by
    unfold bt
    rw [List.getD_eq_getElem?_getD]
    cases e : bs[k]? with
    | none => simp
    | some v => have := h v (List.mem_of_getElem? e); simp; omega
  unfold byteAt
  have := s (8 * i)
  have := s (8 * i + 1)
  have := s (8 * i + 2)
  have := s (8 * i + 3)
  have := s (8 * i + 4)
  have := s (8 * i + 5)
  have := s (8 * i + 6)
  have := s (8 * i + 7)
  omega
/-- The next bit at a byte's start: a new byte. -/
theorem packed_new {bs : List Nat} {b : Nat} (h : bs.length % 8 = 0) : packed (bs ++ [b]) = packed bs ++ [b * 128] := by
  obtain ⟨i, hi⟩ : ∃ i, bs.length = 8 * i + 0 := ⟨bs.length / 8, by omega⟩
  unfold packed
  have e1 : ((bs ++ [b]).length + 7) / 8 = i + 1 := by simp; omega
  have e2 : (bs.length + 7) / 8 = i := by omega
  rw [e1, e2, List.range_succ, List.map_append]
  congr 1
  · refine List.map_congr_left fun k hk => byteAt_full ?_
    have := List.mem_range.1 hk
    omega
  · have h0 := byteAt_low hi (by omega)
    have hz : byteAt bs i = 0 := by
      unfold byteAt
      rw [bt_out (by omega), bt_out (by omega), bt_out (by omega), bt_out (by omega), bt_out (by omega), bt_out (by omega), bt_out (by omega), bt_out (by omega)]
    simp [byteAt_last hi (by omega), hz]
/-- The next bit within a byte: the last byte turns. -/
theorem packed_in {bs : List Nat} {b : Nat} (h : bs.length % 8 ≠ 0) :
    packed (bs ++ [b]) = (packed bs).set (bs.length / 8) (byteAt bs (bs.length / 8) + b * 2 ^ (7 - bs.length % 8)) := by
  have hl : bs.length = 8 * (bs.length / 8) + bs.length % 8 := by omega
  have e1 : ((bs ++ [b]).length + 7) / 8 = bs.length / 8 + 1 := by simp; omega
  have e2 : (bs.length + 7) / 8 = bs.length / 8 + 1 := by omega
  have h1 := byteAt_last (b := b) hl (by omega)
  unfold packed
  rw [e1, e2, List.range_succ, List.map_append, List.map_append, List.set_append_right _ _ (by simp)]
  congr 1
  · refine List.map_congr_left fun k hk => byteAt_full ?_
    have := List.mem_range.1 hk
    omega
  · simp [h1]
end Go.Proofs.YtpkplhmdnjdmoaaGreatDoor

/- Bits in bytes: the machine's words for what the Writer reckons. -/
namespace Go.Proofs.YtpkplhmdnjdmoaaGreatDoor

theorem or_low {x y k : Nat} (h : x % 2 ^ k = 0) (hy : y < 2 ^ k) : x ||| y = x + y := by
  obtain ⟨q, rfl⟩ := Nat.dvd_of_mod_eq_zero h
  exact (Nat.two_pow_add_eq_or_of_lt hy q).symm
/-- The byte that bit() stores. -/
theorem or_bit {bs : List Nat} {i r b : Nat} (hl : bs.length = 8 * i + r) (hr : r < 8) (hb : b < 2) : byteAt bs i ||| (b * 2 ^ (7 - r)) = byteAt bs i + b * 2 ^ (7 - r) := by
  refine or_low (byteAt_low hl hr) ?_
  have e : 8 - r = (7 - r) + 1 := by omega
  have hp : 0 < 2 ^ (7 - r) := Nat.two_pow_pos _
  rw [e, Nat.pow_succ]
  generalize 2 ^ (7 - r) = p at *
  obtain rfl | rfl : b = 0 ∨ b = 1 := by omega
  all_goals omega
/-- What Put writes: v in n bits, the highest first. -/
def bitsOf (v : Nat) : Nat → List Nat
  | 0 => []
  | n + 1 => (v / 2 ^ n % 2) :: bitsOf v n
theorem bitsOf_len (v : Nat) : ∀ n, (bitsOf v n).length = n
  | 0 => rfl
  | n + 1 => by rw [bitsOf, List.length_cons, bitsOf_len v n]
theorem bitsOf_lt (v : Nat) : ∀ n, ∀ b ∈ bitsOf v n, b < 2
  | 0, b, h => by simp [bitsOf] at h
  | n + 1, b, h => by
    rw [bitsOf] at h
    rcases List.mem_cons.1 h with rfl | h
    · omega
    · exact bitsOf_lt v n b h
/-- The number that n bits say. -/
def numOf (bs : List Nat) : Nat := bs.foldl (fun v b => 2 * v + b) 0
theorem numOf_snoc (bs : List Nat) (b : Nat) : numOf (bs ++ [b]) = 2 * numOf bs + b := by simp [numOf]
theorem foldl_bits (v : Nat) : ∀ n s, (bitsOf v n).foldl (fun v b => 2 * v + b) s = s * 2 ^ n + v % 2 ^ n
  | 0, s => by simp [bitsOf, Nat.mod_one]
  | n + 1, s => by
    rw [bitsOf, List.foldl_cons, foldl_bits v n]
    have h1 : v % 2 ^ (n + 1) = v % 2 ^ n + 2 ^ n * (v / 2 ^ n % 2) := Nat.mod_pow_succ
    rw [h1, Nat.pow_succ]
    generalize v / 2 ^ n % 2 = b
    generalize 2 ^ n = p
    rw [Nat.add_mul, Nat.mul_comm b p, Nat.mul_comm 2 s, Nat.mul_assoc, Nat.mul_comm 2 p]
    omega
/-- What is put is got. -/
theorem num_bits {v n : Nat} (h : v < 2 ^ n) : numOf (bitsOf v n) = v := by
  unfold numOf
  rw [foldl_bits, Nat.mod_eq_of_lt h]
  simp
end Go.Proofs.YtpkplhmdnjdmoaaGreatDoor
