/- Words of this seat's proofs on memory: a block that is known whole, a slice that lies at the head of a block of its own, and which blocks a call may turn. Plain lemmas, no program. -/
import Derived.WalkKit
import Derived.Deep.Draws
import Derived.Maps.AppendAt
namespace Go.Proofs.YtacmaphhbbadjaaGreatDoor
set_option linter.all false
open Go.RowKit

theorem hid {p : Prop} (h : p) : Hid p := h

/-- Which blocks may have turned: those of F, and the new ones. -/
structure Chg (F : List Nat) (w w' : World) : Prop where
  os : w'.os = w.os
  tape : w'.tape = w.tape
  output : w'.output = w.output
  size : w.heap.size ≤ w'.heap.size
  block : ∀ k, k < w.heap.size → k ∉ F → w'.heap[k]? = w.heap[k]?

section
variable {F F' : List Nat} {a b c w w' : World}
theorem Chg.refl (F : List Nat) (w : World) : Chg F w w := ⟨rfl, rfl, rfl, Nat.le_refl _, fun _ _ _ => rfl⟩
theorem Chg.mono (h : Chg F a b) (hF : ∀ k ∈ F, k < a.heap.size → k ∈ F') : Chg F' a b :=
  ⟨h.os, h.tape, h.output, h.size, fun k hk hn => h.block k hk fun hm => hn (hF k hm hk)⟩
theorem Chg.trans (h : Chg F a b) (k : Chg F' b c) (hF : ∀ x ∈ F', x ∈ F ∨ a.heap.size ≤ x) : Chg F a c :=
  ⟨k.os.trans h.os, k.tape.trans h.tape, k.output.trans h.output, Nat.le_trans h.size k.size, fun x hx hn =>
    (k.block x (Nat.lt_of_lt_of_le hx h.size) fun hm => by rcases hF x hm with h1 | h1; exact hn h1; omega).trans (h.block x hx hn)⟩
theorem Chg.trans_same (h : Chg F a b) (k : Chg F b c) : Chg F a c := h.trans k fun _ h => .inl h
theorem Chg.drew (h : Chg F a w) : Chg F a w.drew := ⟨h.os, h.tape, h.output, h.size, h.block⟩
theorem Chg.drewN (h : Chg F a w) (n : Nat) : Chg F a (w.drewN n) := ⟨h.os, h.tape, h.output, h.size, h.block⟩
theorem Chg.alloc (h : Chg F a w) (o : Obj) : Chg F a (w.alloc o) :=
  h.trans_same ⟨rfl, rfl, rfl, by simp, fun k hk _ => Below.heap_alloc _ _ _ hk⟩
theorem Chg.setCell (h : Chg F a w) {p : Addr} (hp : p.block ∈ F ∨ a.heap.size ≤ p.block) (u : Value) : Chg F a (w.setCell p u) :=
  h.trans (F' := [p.block]) ⟨rfl, rfl, rfl, by simp [World.setCell], fun k _ hn => Below.heap_setCell _ _ _ _ (by simpa using hn)⟩ (by simpa using hp)
theorem Chg.of_grown {row : Option Nat} (hg : a.grownBy b row) (hr : ∀ k, row = some k → k ∈ F ∨ a.heap.size ≤ k) : Chg F a b :=
  ⟨hg.os, hg.tape, hg.output, hg.size, fun k hk hn => hg.block k hk fun e => by rcases hr k e.symm with h | h; exact hn h; omega⟩
theorem Chg.grown {row : Option Nat} (h : Chg F a w) (hg : w.grownBy w' row) (hr : ∀ k, row = some k → k ∈ F ∨ a.heap.size ≤ k) : Chg F a w' :=
  h.trans (F' := row.toList) (Chg.of_grown hg (by intro k hk; subst hk; exact .inl (by simp))) (by intro x hx; exact hr x (by simpa using hx))
theorem Chg.below (h : Chg F a b) (hF : ∀ k ∈ F, a.heap.size ≤ k) : Below a.heap.size a b :=
  ⟨h.os, h.tape, h.output, h.size, fun k hk => h.block k hk fun hm => by have := hF k hm; omega⟩
theorem Chg.of_below (h : Below a.heap.size a b) : Chg F a b := ⟨h.os, h.tape, h.output, h.size, fun k hk _ => h.block k hk⟩
theorem Chg.toBelow {B : Nat} (h : Chg F a b) (hB : B ≤ a.heap.size) (hF : ∀ k ∈ F, B ≤ k) : Below B a b :=
  ⟨h.os, h.tape, h.output, h.size, fun k hk => h.block k (by omega) fun hm => by have := hF k hm; omega⟩
end

/-- Block g is just these cells, none of them frozen. -/
def Blk (w : World) (g : Nat) (t : TypeId) (cs : Array Value) : Prop := w.heap[g]? = some (.cells cs t (0, 0))

section
variable {w w' : World} {g : Nat} {t : TypeId} {cs : Array Value} {F : List Nat}
theorem Blk.lt (h : Blk w g t cs) : g < w.heap.size := by
  unfold Blk at h
  exact (Array.getElem?_eq_some_iff.1 h).1
theorem Blk.cell (h : Blk w g t cs) (i : Nat) : w.cell? ⟨g, i, none⟩ = cs[i]? := cell_of_row w g i cs t (0, 0) h
theorem Blk.frozen (h : Blk w g t cs) (i : Nat) : w.frozen? ⟨g, i, none⟩ = false := by
  unfold Blk at h
  simp [World.frozen?, h]
theorem Blk.new (w : World) (t : TypeId) (cs : Array Value) : Blk (w.alloc (.cells cs t)) w.heap.size t cs := heap_alloc_new w _
theorem Blk.drew (h : Blk w g t cs) : Blk w.drew g t cs := h
theorem Blk.drewN (h : Blk w g t cs) (n : Nat) : Blk (w.drewN n) g t cs := h
theorem Blk.alloc (h : Blk w g t cs) (o : Obj) : Blk (w.alloc o) g t cs := (Below.heap_alloc w o g h.lt).trans h
theorem Blk.set_ (h : Blk w g t cs) (i : Nat) (u : Value) : Blk (w.setCell ⟨g, i, none⟩ u) g t (cs.setIfInBounds i u) := by
  unfold Blk at h ⊢
  simp [World.setCell, Array.getElem?_modify, h]
theorem Blk.far (h : Blk w g t cs) {p : Addr} (hp : g ≠ p.block) (u : Value) : Blk (w.setCell p u) g t cs := (Below.heap_setCell w p u g hp).trans h
theorem Blk.chg (h : Blk w g t cs) (hc : Chg F w w') (hg : g ∉ F) : Blk w' g t cs := (hc.block g h.lt hg).trans h
theorem Blk.below {B : Nat} (h : Blk w g t cs) (hb : Below B w w') (hg : g < B) : Blk w' g t cs := (hb.block g hg).trans h
theorem Blk.grown {row : Option Nat} (h : Blk w g t cs) (hb : w.grownBy w' row) (hg : some g ≠ row) : Blk w' g t cs := (hb.block g h.lt hg).trans h
theorem Blk.ne_ {g' : Nat} {t' : TypeId} {cs' : Array Value} (h : Blk w g t cs) (h' : Blk w g' t' cs') (hne : t ≠ t') : g ≠ g' := by
  rintro rfl
  unfold Blk at h h'
  rw [h] at h'
  injection h' with h'
  injection h' with _ ht
  exact hne ht
end

/-- The slice value v, of the elements xs (one cell each, of type e), lies at the head of block g, which is its own. -/
structure Row (w : World) (e : TypeId) (v : Value) (g : Nat) (xs : List Value) : Prop where
  ex : ∃ cap cur, v = .slice (some ⟨g, 0, none⟩) xs.length cap ∧ Blk w g e cur ∧ xs.length ≤ cap ∧ cap ≤ maxLen ∧ cur.size = cap ∧ cur.toList.take xs.length = xs

section
variable {w w' : World} {e : TypeId} {v : Value} {g : Nat} {xs : List Value} {F : List Nat}
theorem Row.lt (h : Row w e v g xs) : g < w.heap.size := by obtain ⟨_, _, _, h, _⟩ := h.ex; exact h.lt
theorem Row.keep (h : Row w e v g xs) (hb : ∀ t cs, Blk w g t cs → Blk w' g t cs) : Row w' e v g xs := by
  obtain ⟨cap, cur, h1, h2, h3⟩ := h.ex
  exact ⟨cap, cur, h1, hb _ _ h2, h3⟩
theorem Row.drew (h : Row w e v g xs) : Row w.drew e v g xs := h.keep fun _ _ h => h.drew
theorem Row.drewN (h : Row w e v g xs) (n : Nat) : Row (w.drewN n) e v g xs := h.keep fun _ _ h => h.drewN n
theorem Row.alloc (h : Row w e v g xs) (o : Obj) : Row (w.alloc o) e v g xs := h.keep fun _ _ h => h.alloc o
theorem Row.far (h : Row w e v g xs) {p : Addr} (hp : g ≠ p.block) (u : Value) : Row (w.setCell p u) e v g xs := h.keep fun _ _ h => h.far hp u
theorem Row.chg (h : Row w e v g xs) (hc : Chg F w w') (hg : g ∉ F) : Row w' e v g xs := h.keep fun _ _ h => h.chg hc hg
theorem Row.grown {row : Option Nat} (h : Row w e v g xs) (hb : w.grownBy w' row) (hg : some g ≠ row) : Row w' e v g xs := h.keep fun _ _ h => h.grown hb hg
theorem Row.own (h : Row w e v g xs) (base : Nat) (hb : base ≤ g) : w.ownsRow base e 1 v xs.length xs := by
  obtain ⟨cap, cur, h1, h2, h3, h4, h5, h6⟩ := h.ex
  exact ⟨by simp, .inr ⟨g, cap, cur, h1, hb, h2, h3, h4, by simp [h5], by simpa using h6⟩⟩
theorem Row.of_own {base n : Nat} (h : w.ownsRow base e 1 v n xs) {a : Addr} {m c : Nat} (hv : v = .slice (some a) m c) : ∃ g, Row w e v g xs ∧ v.ownBlock = some g := by
  obtain ⟨h1, h2⟩ := h
  rcases h2 with ⟨rfl, _⟩ | ⟨g, cap, cur, rfl, _, h3, h4, h5, h6, h7⟩
  · cases hv
  · have hn : xs.length = n := by simpa using h1
    subst hn
    exact ⟨g, ⟨cap, cur, rfl, h3, h4, h5, by simpa using h6, by simpa using h7⟩, rfl⟩
theorem Row.own_block (h : Row w e v g xs) : v.ownBlock = some g := by
  obtain ⟨cap, cur, rfl, _⟩ := h.ex
  rfl
/-- Its shape, and its cells in the walk's own spelling. -/
theorem Row.open_ (h : Row w e v g xs) : ∃ cap, v = .slice (some ⟨g, 0, none⟩) xs.length cap ∧ xs.length ≤ cap ∧ cap ≤ maxLen ∧ (∀ i, i < xs.length → w.cell? ⟨g, i, none⟩ = xs[i]?) ∧ ∀ i, w.frozen? ⟨g, i, none⟩ = false := by
  obtain ⟨cap, cur, h1, h2, h3, h4, h5, h6⟩ := h.ex
  refine ⟨cap, h1, h3, h4, fun i hi => ?_, h2.frozen⟩
  rw [h2.cell i]
  have : (cur.toList.take xs.length)[i]? = xs[i]? := by rw [h6]
  rw [List.getElem?_take, if_pos hi] at this
  simpa using this
/-- The same of a row that a list spells: the cell at a place is what the list has there. -/
theorem Row.open_map {α : Type} {f : α → Value} {ds : List α} (h : Row w e v g (ds.map f)) : ∃ cap : Nat, v = .slice (some ⟨g, 0, none⟩) ds.length cap ∧ ds.length ≤ cap ∧ cap ≤ 9223372036854775807 ∧ (∀ (i : Nat) (d : α), ds[i]? = some d → w.cell? ⟨g, i, none⟩ = some (f d)) ∧ ∀ i, w.frozen? ⟨g, i, none⟩ = false := by
  obtain ⟨cap, h1, h2, h3, h4, h5⟩ := h.open_
  simp only [List.length_map] at h1 h2 h4
  refine ⟨cap, h1, h2, by simpa [maxLen] using h3, fun i d hd => ?_, h5⟩
  have hi : i < ds.length := (List.getElem?_eq_some_iff.1 hd).1
  rw [h4 i hi, List.getElem?_map, hd]
  rfl
theorem Row.set_ (h : Row w e v g xs) {i : Nat} (hi : i < xs.length) (u : Value) : Row (w.setCell ⟨g, i, none⟩ u) e v g (xs.set i u) := by
  obtain ⟨cap, cur, h1, h2, h3, h4, h5, h6⟩ := h.ex
  refine ⟨cap, _, by simpa using h1, h2.set_ i u, by simpa using h3, h4, by simpa using h5, ?_⟩
  rw [List.length_set, Array.toList_setIfInBounds, List.take_set, h6]
theorem Row.ne_ {t : TypeId} {cs : Array Value} {b : Nat} (h : Row w e v g xs) (hb : Blk w b t cs) (hne : e ≠ t) : g ≠ b := by
  obtain ⟨_, _, _, h2, _⟩ := h.ex
  exact h2.ne_ hb hne
theorem Row.ne_row {e' : TypeId} {v' : Value} {g' : Nat} {xs' : List Value} (h : Row w e v g xs) (hb : Row w e' v' g' xs') (hne : e ≠ e') : g ≠ g' := by
  obtain ⟨_, _, _, h2, _⟩ := hb.ex
  exact h.ne_ h2 hne
theorem Row.made (w : World) (e : TypeId) (xs : List Value) (hm : xs.length ≤ maxLen) : Row (w.alloc (.cells xs.toArray e)) e (.slice (some ⟨w.heap.size, 0, none⟩) xs.length xs.length) w.heap.size xs :=
  ⟨xs.length, xs.toArray, rfl, Blk.new w e _, Nat.le_refl _, hm, by simp, by simp⟩
end

/-- The element type's row of the program's table: slices t of elements e (size cells, so many bytes, the zero value z). -/
structure Elem (P : Program) (t e : TypeId) (z : Value) (size bytes : Nat) : Prop where
  ht : P.underlying t = some (.slice e)
  hi : ∃ i, P.info? e = some i ∧ i.zero = some z ∧ i.size = size ∧ i.bytes = bytes
theorem Elem.mk' {P : Program} {t e : TypeId} {z : Value} {size bytes : Nat} (ht : P.underlying t = some (.slice e)) (h : (P.info? e).map (fun i => (i.zero, i.size, i.bytes)) = some (some z, size, bytes)) : Elem P t e z size bytes :=
  ⟨ht, info_parts h⟩

section
variable {P : Program}
/-- append of m elements (m > 0) that lie at an address. -/
theorem run_append_sl {w : World} {t ty e : TypeId} {z : Value} {size bytes : Nat} (E : Elem P t e z size bytes) (hzs : z.cells.size = size) (hsz : 0 < size)
    {v : Value} {n : Nat} {xs : List Value} (hown : w.ownsRow 0 e size v n xs) {ad : Addr} {m c : Nat} {news : List Value} (hl : news.length = m * size) (hm : 0 < m)
    (hnews : ∀ j u, news[j]? = some u → w.cell? (ad.add j) = some u) (h1 : ∀ u ∈ news, u.oneCell' = true) (h63 : n + m ≤ 9223372036854775807) (hbytes : (n + m) * bytes ≤ 140737488355328) :
    ∃ g cap w', (Builtin.append_ #[t, t] ty #[v, .slice (some ad) m c]).run P w = .ok (.slice (some ⟨g, 0, none⟩) (n + m) cap) w' ∧ w'.ownsRow 0 e size (.slice (some ⟨g, 0, none⟩) (n + m) cap) (n + m) (xs ++ news) ∧
      Chg v.ownBlock.toList w w' ∧ (some g = v.ownBlock ∨ w.heap.size ≤ g) := by
  obtain ⟨i, hi, hz, hsize, hby⟩ := E.hi
  obtain ⟨v', w', hr, h2, h3, h4, h5⟩ := run_append_own_at (P := P) w 0 t ty e i z size bytes E.ht hi hz hsize hby hzs hsz v n xs hown ad m c news hl hnews h1 (by simpa [maxLen] using h63) hbytes (Nat.zero_le _)
  rcases h2.2 with ⟨rfl, hn⟩ | ⟨g, cap, cur, rfl, hrest⟩
  · omega
  · refine ⟨g, cap, w', hr, ⟨h2.1, .inr ⟨g, cap, cur, rfl, hrest⟩⟩, Chg.of_grown h3 (by intro k hk; left; simp [hk]), ?_⟩
    simp only [Value.ownBlock] at h5
    rcases h5 with h5 | h5
    · exact .inl h5
    · right
      injection h5 with h5
      omega
theorem wp_append_sl {w : World} {o : Oper} {a : Act} {K : Act → World → Prop} {Q : Exit → Act → World → Prop} {s x : Operand} {t : TypeId}
    (ho : o.op = .call { callee := .builtin .append, args := #[s, x], argTypes := #[t, t] })
    {e : TypeId} {z : Value} {size bytes : Nat} (E : Elem P t e z size bytes) (hzs : z.cells.size = size) (hsz : 0 < size)
    {v : Value} {n : Nat} {xs : List Value} (hs : a.eval s = v) (hown : w.ownsRow 0 e size v n xs) {ad : Addr} {m c : Nat} {news : List Value} (hx : a.eval x = .slice (some ad) m c) (hl : news.length = m * size) (hm : 0 < m)
    (hnews : ∀ j u, news[j]? = some u → w.cell? (ad.add j) = some u) (h1 : ∀ u ∈ news, u.oneCell' = true) (h63 : n + m ≤ 9223372036854775807) (hbytes : (n + m) * bytes ≤ 140737488355328)
    (h : ∀ g cap w', w'.ownsRow 0 e size (.slice (some ⟨g, 0, none⟩) (n + m) cap) (n + m) (xs ++ news) → Chg v.ownBlock.toList w w' → (some g = v.ownBlock ∨ w.heap.size ≤ g) → K (a.put o.dst (.slice (some ⟨g, 0, none⟩) (n + m) cap)) w') : o.wp P a w K Q := by
  obtain ⟨g, cap, w', hr, h2, h3, h4⟩ := run_append_sl (P := P) (ty := o.type) E hzs hsz hown (ad := ad) (c := c) hl hm hnews h1 h63 hbytes
  unfold Oper.wp execOp
  simp only [ho, resolve, invoke, builtin, Sem.run_bind, Sem.run_pure, Result.andThen_ok, List.map_toArray, List.map_cons, List.map_nil, hs, hx, hr]
  exact h g cap w' h2 h3 h4
theorem wpList_append_sl {w : World} {ops : Array Oper} {rest : List Oper} {o : Oper} {a : Act} {Q : Exit → Act → World → Prop} (hgd : o.guard = none) {s x : Operand} {t : TypeId}
    (ho : o.op = .call { callee := .builtin .append, args := #[s, x], argTypes := #[t, t] })
    {e : TypeId} {z : Value} {size bytes : Nat} (E : Elem P t e z size bytes) (hzs : z.cells.size = size) (hsz : 0 < size)
    {v : Value} {n : Nat} {xs : List Value} (hs : a.eval s = v) (hown : w.ownsRow 0 e size v n xs) {ad : Addr} {m c : Nat} {news : List Value} (hx : a.eval x = .slice (some ad) m c) (hl : news.length = m * size) (hm : 0 < m)
    (hnews : ∀ j u, news[j]? = some u → w.cell? (ad.add j) = some u) (h1 : ∀ u ∈ news, u.oneCell' = true) (h63 : n + m ≤ 9223372036854775807) (hbytes : (n + m) * bytes ≤ 140737488355328)
    (h : ∀ g cap w', w'.ownsRow 0 e size (.slice (some ⟨g, 0, none⟩) (n + m) cap) (n + m) (xs ++ news) → Chg v.ownBlock.toList w w' → (some g = v.ownBlock ∨ w.heap.size ≤ g) → wpList P ops Q rest (a.put o.dst (.slice (some ⟨g, 0, none⟩) (n + m) cap)) w') : wpList P ops Q (o :: rest) a w :=
  wpList_plain hgd fun _ hK => wp_append_sl ho E hzs hsz hs hown hx hl hm hnews h1 h63 hbytes fun g cap w' h2 h3 h4 => hK _ _ (h g cap w' h2 h3 h4)
/-- append of one element of one cell, which lies in a block of its own, to a row. -/
theorem wpList_append_row1 {w : World} {ops : Array Oper} {rest : List Oper} {o : Oper} {a : Act} {Q : Exit → Act → World → Prop} (hgd : o.guard = none) {s x : Operand} {t : TypeId}
    (ho : o.op = .call { callee := .builtin .append, args := #[s, x], argTypes := #[t, t] })
    {e : TypeId} {z : Value} {bytes : Nat} (E : Elem P t e z 1 bytes) (hzs : z.cells.size = 1)
    {v : Value} {g : Nat} {xs : List Value} (hs : a.eval s = v) (hr : Row w e v g xs) {B c : Nat} (u : Value) (hx : a.eval x = .slice (some ⟨B, 0, none⟩) 1 c)
    (hu : w.cell? ⟨B, 0, none⟩ = some u) (h1 : u.oneCell' = true) (hbytes : (xs.length + 1) * bytes ≤ 140737488355328) (h63 : xs.length < 9223372036854775807)
    (h : ∀ g' cap w', Row w' e (.slice (some ⟨g', 0, none⟩) (xs.length + 1) cap) g' (xs ++ [u]) → Chg [g] w w' → (g' = g ∨ w.heap.size ≤ g') → wpList P ops Q rest (a.put o.dst (.slice (some ⟨g', 0, none⟩) (xs.length + 1) cap)) w') : wpList P ops Q (o :: rest) a w := by
  refine wpList_append_sl hgd ho E hzs (by decide) hs (hr.own 0 (Nat.zero_le _)) hx (news := [u]) (by simp) (by decide) ?_ (by simpa using h1) (by omega) hbytes ?_
  · intro j u' hj
    match j, hj with
    | 0, hj => simp at hj; subst hj; simpa [Addr.add] using hu
  · intro g' cap w' h2 h3 h4
    obtain ⟨g'', h5, h6⟩ := Row.of_own h2 rfl
    rw [hr.own_block] at h3 h4
    simp only [Value.ownBlock] at h6
    injection h6 with h6
    subst h6
    exact h g' cap w' h5 h3 (by rcases h4 with h4 | h4; · left; injection h4
                                · exact .inr h4)
end

/-- make of n elements of one cell. -/
theorem run_make1 {P : Program} {t e : TypeId} {z : Value} {bytes : Nat} (E : Elem P t e z 1 bytes) (hzs : z.cells = #[z]) (kl kc : IntKind) (n : Nat) (hb : bytes * n ≤ 281474976710656) (h63 : n ≤ 9223372036854775807) (w : World) :
    (Instr.makeSlice t (.int kl (n : Int)) (.int kc (n : Int))).run P w = .ok (.slice (some ⟨w.heap.size, 0, none⟩) n n) (w.alloc (.cells (List.replicate n z).toArray e)) := by
  obtain ⟨i, hi, hz, hsize, hby⟩ := E.hi
  subst hby
  have hb' : (i.bytes : Int) * (n : Int) ≤ 281474976710656 := by
    have h : ((i.bytes * n : Nat) : Int) ≤ 281474976710656 := by omega
    rwa [Int.natCast_mul] at h
  have hr := run_make (P := P) w t e i z E.ht hi hz kl kc n n (by omega) (Int.le_refl _) hb' (by omega)
  rw [hr, hsize, hzs]
  simp only [Int.toNat_natCast, Nat.mul_one]
  have : madeCells #[z] n = (List.replicate n z).toArray := by
    apply Array.toList_inj.1
    rw [toList_madeCells_one]
  rw [this]

section
variable {w w' : World} {base : Nat} {e : TypeId} {size n : Nat} {v : Value} {xs : List Value} {F : List Nat}
theorem own_chg (h : w.ownsRow base e size v n xs) (hc : Chg F w w') (hv : ∀ k, v.ownBlock = some k → k ∉ F) : w'.ownsRow base e size v n xs := by
  refine ⟨h.1, ?_⟩
  rcases h.2 with hn | ⟨g, cap, cur, rfl, hb, hg, rest⟩
  · exact .inl hn
  · exact .inr ⟨g, cap, cur, rfl, hb, (hc.block g (Array.getElem?_eq_some_iff.1 hg).1 (hv g rfl)).trans hg, rest⟩
theorem own_ne (h : w.ownsRow base e size v n xs) {g : Nat} {t : TypeId} {cs : Array Value} (hg : Blk w g t cs) (hne : e ≠ t) : v.ownBlock ≠ some g := by
  rcases h.2 with ⟨rfl, _⟩ | ⟨g', cap, cur, rfl, _, hh, _⟩
  · simp [Value.ownBlock]
  · intro he
    simp only [Value.ownBlock] at he
    injection he with he
    subst he
    exact (show Blk w g' e cur from hh).ne_ hg hne rfl
theorem own_ne_row (h : w.ownsRow base e size v n xs) {g : Nat} {t : TypeId} {u : Value} {ys : List Value} (hg : Row w t u g ys) (hne : e ≠ t) : v.ownBlock ≠ some g := by
  obtain ⟨_, _, _, h2, _⟩ := hg.ex
  exact own_ne h h2 hne
theorem own_lt (h : w.ownsRow base e size v n xs) : ∀ k, v.ownBlock = some k → k < w.heap.size := fun k hk => (h.lt k hk).2
theorem own_drewN (h : w.ownsRow base e size v n xs) (k : Nat) : (w.drewN k).ownsRow base e size v n xs := h
end

/-- A slice of one-cell elements in memory, which is only read: at some address (or nowhere, if it is empty), the elements l. -/
structure Cells {α : Type} (f : α → Value) (w : World) (A : Option Addr) (l : List α) : Prop where
  ex : 0 < l.length → ∃ b o, A = some ⟨b, o, none⟩ ∧ b < w.heap.size ∧ ∀ (i : Nat) (a : α), l[i]? = some a → w.cell? ⟨b, o + i, none⟩ = some (f a)
theorem Cells.chg {α : Type} {f : α → Value} {w w' : World} {A : Option Addr} {l : List α} {F : List Nat} (h : Cells f w A l) (hc : Chg F w w') (hA : ∀ ad, A = some ad → ad.block ∉ F) : Cells f w' A l :=
  ⟨fun h0 => by
    obtain ⟨b0, o0, e0, hb0, hcells⟩ := h.ex h0
    exact ⟨b0, o0, e0, Nat.lt_of_lt_of_le hb0 hc.size, fun i a ha => (World.cell?_of_block (w := w) (hc.block b0 hb0 (hA _ e0))).trans (hcells i a ha)⟩⟩
theorem Cells.same {α : Type} {f : α → Value} {w w' : World} {A : Option Addr} {l : List α} (h : Cells f w A l) (hc : Chg [] w w') : Cells f w' A l := h.chg hc (by simp)
end Go.Proofs.YtacmaphhbbadjaaGreatDoor
