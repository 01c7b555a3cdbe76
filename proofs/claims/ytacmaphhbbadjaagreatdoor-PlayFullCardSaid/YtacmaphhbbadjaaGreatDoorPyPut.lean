/- play.Put of the song's first packet by its contract. -/
import Derived.Test.YtacmaphhbbadjaaGreatDoorPyW
namespace Go.Proofs.YtacmaphhbbadjaaGreatDoor
set_option linter.all false
open Go.RowKit

section
variable {P : Program}
theorem step_append_k1 {w : World} {ops : Array Oper} {o : Oper} {a : Act} {K : Act → World → Prop} {Q : Exit → Act → World → Prop} {E0 : Prop} (hgd : o.guard = none) {s x : Operand} {t : TypeId}
    (ho : o.op = .call { callee := .builtin .append, args := #[s, x], argTypes := #[t, t] })
    {e : TypeId} {z : Value} {k bytes : Nat} (E : Elem P t e z k bytes) (hzs : z.cells.size = k) (hk : 0 < k)
    {v : Value} {F : List Nat} {n : Nat} {xs : List Value} (hs : a.eval s = v) (hown : OwnK w e k v F n xs) {ad : Addr} {c : Nat} (news : List Value) (hx : a.eval x = .slice (some ad) 1 c) (hl : news.length = k)
    (hnews : ∀ j u, news[j]? = some u → w.cell? (ad.add j) = some u) (h1 : ∀ u ∈ news, u.oneCell' = true) (h63 : n < 9223372036854775807) (hbytes : (n + 1) * bytes ≤ 140737488355328)
    (h : ∀ g cap w', OwnK w' e k (.slice (some ⟨g, 0, none⟩) (n + 1) cap) [g] (n + 1) (xs ++ news) → Grow F [g] w w' → K (a.put o.dst (.slice (some ⟨g, 0, none⟩) (n + 1) cap)) w') :
    if Region.wanted o (yielded ops a.tmps) = true then Oper.wp P o a w K Q else E0 := by
  rw [if_pos (by simp [Region.wanted, hgd])]
  refine wp_append_sl ho E hzs hk hs hown.own hx (news := news) (by omega) (by decide) hnews h1 (by omega) hbytes ?_
  intro g' cap w' h2 h3 h4
  rw [← hown.fp] at h3
  refine h g' cap w' ⟨h2, rfl⟩ ⟨h3, fun x hx => ?_⟩
  simp at hx
  subst hx
  rcases h4 with h4 | h4
  · left; rw [hown.fp, ← h4]; simp
  · exact .inr h4
end
theorem byte_el : Elem Tryz.prog 38 5 (.int .u8 0) 1 1 := .mk' Tryz.underlying38 (by kernel_rfl)
def wtZ : Value := .agg #[.int .i64 0, .int .i64 0, .int .i64 0, .bool false, .bool false, .slice none 0 0, .bool false]
theorem wt_el : Elem Tryz.prog 55 64 wtZ 7 64 := .mk' Tryz.underlying55 (by kernel_rfl)
theorem seen_el : Elem Tryz.prog 42 67 (.agg seenV.toArray) 8 96 := .mk' Tryz.underlying42 (by kernel_rfl)
def wtV (D c : Nat) : List Value := pkV 0 (.slice (some ⟨D, 0, none⟩) 15 c) ++ [.bool false]
theorem wt_one (D c : Nat) : ∀ u ∈ wtV D c, u.oneCell' = true := by
  intro u hu
  simp only [wtV, pkV, List.cons_append, List.nil_append, List.mem_cons, List.not_mem_nil, or_false] at hu
  rcases hu with rfl | rfl | rfl | rfl | rfl | rfl | rfl <;> rfl
section
variable {w w' : World} {B o S oS c m : Nat} {now : Int} {Q : Value} {last e s : Int} {F : List Nat}
theorem Blk.same' {w w' : World} {g : Nat} {t : TypeId} {cs : Array Value} (h : Blk w g t cs) (hc : Chg [] w w') : Blk w' g t cs := h.chg hc (by simp)
theorem PlAt.chg (h : PlAt w B o S oS c m now Q last e s) (hc : Chg F w w') (h1 : B ∉ F) (h2 : S ∉ F) : PlAt w' B o S oS c m now Q last e s := ⟨h.pl.chg hc h1, h.st.chg hc h2, h.ne⟩
theorem PlAt.same (h : PlAt w B o S oS c m now Q last e s) (hc : Chg [] w w') : PlAt w' B o S oS c m now Q last e s := h.chg hc (by simp) (by simp)
theorem Row.pre {w : World} {e : TypeId} {g n cap : Nat} {xs : List Value} (h : Row w e (.slice (some ⟨g, 0, none⟩) n cap) g xs) : Pre w g 0 xs ∧ eSize w g = some cap ∧ xs.length ≤ cap := by
  obtain ⟨cap', cur, e1, hb, h1, h2, h3, h4⟩ := h.ex
  injection e1 with _ _ e1; subst e1
  refine ⟨⟨cur, e, (0, 0), hb, .inl rfl, by omega, fun i v hi => ?_⟩, ?_, h1⟩
  · have hlt : i < xs.length := (List.getElem?_eq_some_iff.1 hi).1
    rw [← h4, List.getElem?_take, if_pos hlt] at hi
    simpa using hi
  · unfold eSize
    rw [show w.heap[g]? = some (.cells cur e (0, 0)) from hb]
    simp [h3]
theorem newA (w : World) (cs : Array Value) (t : TypeId) : ∀ (j : Nat) (u : Value), cs.toList[j]? = some u → (w.alloc (.cells cs t)).cell? (Addr.add ⟨w.heap.size, 0, none⟩ j) = some u := by
  intro j u hj
  have := (Blk.new w t cs).cell j
  unfold Addr.add
  split
  · rename_i h0; subst h0; rw [this]; simpa using hj
  · simp only [Nat.zero_add]; rw [this]; simpa using hj
theorem PlAt.setQ (h : PlAt w B o S oS c m now Q last e s) (Q' : Value) : PlAt (w.setCell ⟨S, oS + 10, none⟩ Q') B o S oS c m now Q' last e s := ⟨h.pl.far h.ne _, h.st.set_ (i := 10) (by show 10 < 20; decide) Q', h.ne⟩
theorem PlAt.setLast (h : PlAt w B o S oS c m now Q last e s) (l : Int) : PlAt (w.setCell ⟨S, oS + 11, none⟩ (.int .i64 l)) B o S oS c m now Q l e s := ⟨h.pl.far h.ne _, h.st.set_ (i := 11) (by show 11 < 20; decide) (.int .i64 l), h.ne⟩
theorem PlAt.setEnd (h : PlAt w B o S oS c m now Q last e s) (l : Int) : PlAt (w.setCell ⟨S, oS + 12, none⟩ (.int .i64 l)) B o S oS c m now Q last l s := ⟨h.pl.far h.ne _, h.st.set_ (i := 12) (by show 12 < 20; decide) (.int .i64 l), h.ne⟩
theorem PlAt.setSt (h : PlAt w B o S oS c m now Q last e s) (l : Int) : PlAt (w.setCell ⟨S, oS + 13, none⟩ (.int .i64 l)) B o S oS c m now Q last e l := ⟨h.pl.far h.ne _, h.st.set_ (i := 13) (by show 13 < 20; decide) (.int .i64 l), h.ne⟩
theorem PlAt.setNow (h : PlAt w B o S oS c m now Q last e s) (l : Int) : PlAt (w.setCell ⟨B, o + 2, none⟩ (.int .i64 l)) B o S oS c m l Q last e s := ⟨h.pl.set_ (i := 2) (by show 2 < 4; decide) (.int .i64 l), h.st.far (fun e => h.ne e.symm) _, h.ne⟩
theorem eSize_of {w w' : World} {b n : Nat} (h : eSize w b = some n) (hb : w'.heap[b]? = w.heap[b]?) : eSize w' b = some n := by
  unfold eSize at h ⊢
  rw [hb]; exact h
/-- What Put's last part finds, and leaves. -/
theorem put_end {w2 w3 w4 w5 : World} {D oD q X g3 cap3 G cap5 : Nat} {xs : List Value} {A : Option Addr} {cq : Nat}
    (hlt : (∀ x ∈ F, x < w.heap.size) ∧ S < w.heap.size ∧ D < w.heap.size) (hS : S ∉ F) (hDF : D ∉ F) (hDS : D ≠ S) (hX : X = w.heap.size)
    (HS4 : PlAt w4 B o S oS c m now (.slice A q cq) 0 e s ∧ OwnK w4 64 7 (.slice A q cq) F q xs ∧ Row w4 5 (.slice (some ⟨g3, 0, none⟩) 15 cap3) g3 (d0.map bv) ∧ Blk w4 X 40 #[.int .i64 0, .int .i64 0, .int .i64 2, .bool true, .bool false, .slice (some ⟨g3, 0, none⟩) 15 cap3])
    (HC4 : Chg [D] w w2 ∧ Chg [] w2 w3 ∧ Chg [X] w3 w4) (HD4 : Pre w4 D oD (d0.map bv)) (hg3 : w2.heap.size ≤ g3)
    (hown5 : OwnK w5 64 7 (.slice (some ⟨G, 0, none⟩) (q + 1) cap5) [G] (q + 1) (xs ++ wtV g3 cap3)) (gr5 : Grow F [G] w4 w5) (h5 : PlAt w5 B o S oS c m now (.slice A q cq) 0 e s) :
    (∃ w6, w6 = w5.setCell ⟨S, oS + 10, none⟩ (.slice (some ⟨G, 0, none⟩) (q + 1) cap5) ∧ (w6.cell? ⟨X, 1, none⟩ = some (.int .i64 0) ∧ w6.frozen? ⟨S, oS + 11, none⟩ = false ∧ w6.cell? ⟨S, oS + 11, none⟩ = some (.int .i64 0)) ∧
    ∃ w7, w7 = w6.setCell ⟨S, oS + 11, none⟩ (.int .i64 0) ∧ PlAt w7 B o S oS c m now (.slice (some ⟨G, 0, none⟩) (q + 1) cap5) 0 e s ∧
      OwnK w7 64 7 (.slice (some ⟨G, 0, none⟩) (q + 1) cap5) [G] (q + 1) (xs ++ wtV g3 cap3) ∧ Pre w7 g3 0 (d0.map bv) ∧ eSize w7 g3 = some cap3 ∧ 15 ≤ cap3 ∧ w.heap.size ≤ g3 ∧ g3 ≠ G ∧ (G ∈ F ∨ w.heap.size ≤ G) ∧ Chg (D :: S :: F) w w7 ∧ Pre w7 D oD (d0.map bv)) := by
  obtain ⟨h4, own4, row4, bX4⟩ := HS4
  obtain ⟨C12, C23, C34⟩ := HC4
  obtain ⟨hFlt, hSlt, hDlt⟩ := hlt
  have z2 := C12.size
  have z3 := C23.size
  have z4 := C34.size
  have hgx : g3 ≠ X := by
    rintro rfl
    obtain ⟨_, cur, _, hb, _⟩ := row4.ex
    have := hb.ne_ bX4 (by decide)
    exact this rfl
  have hg3lt := row4.lt
  have hg3F : g3 ∉ F := fun hx => by have := hFlt g3 hx; omega
  have hXF : X ∉ F := fun hx => by have := hFlt X hx; omega
  have hGn : G ∈ F ∨ w4.heap.size ≤ G := gr5.new G (by simp)
  have hSG : S ≠ G := by
    rintro rfl
    rcases hGn with q | q
    · exact hS q
    · omega
  have hg3G : g3 ≠ G := by
    rintro rfl
    rcases hGn with q | q
    · exact hg3F q
    · omega
  have hDG : D ∉ F := hDF
  obtain ⟨w6, hw6⟩ : ∃ w6, w6 = w5.setCell ⟨S, oS + 10, none⟩ (.slice (some ⟨G, 0, none⟩) (q + 1) cap5) := ⟨_, rfl⟩
  obtain ⟨w7, hw7⟩ : ∃ w7, w7 = w6.setCell ⟨S, oS + 11, none⟩ (.int .i64 0) := ⟨_, rfl⟩
  have C56 : Chg [S] w5 w6 := by rw [hw6]; exact (Chg.refl [S] w5).setCell (.inl (by simp)) _
  have C67 : Chg [S] w6 w7 := by rw [hw7]; exact (Chg.refl [S] w6).setCell (.inl (by simp)) _
  have C57 : Chg [S] w5 w7 := C56.trans_same C67
  have h6 : PlAt w6 B o S oS c m now (.slice (some ⟨G, 0, none⟩) (q + 1) cap5) 0 e s := by rw [hw6]; exact h5.setQ _
  have h7 : PlAt w7 B o S oS c m now (.slice (some ⟨G, 0, none⟩) (q + 1) cap5) 0 e s := by rw [hw7]; exact h6.setLast 0
  have bX6 := (bX4.chg gr5.chg hXF).chg C56 (by simp; omega)
  have x1 := bX6.cell 1
  simp at x1
  obtain ⟨⟨_, d1, _⟩, _, k1, _⟩ := h6.scells
  obtain ⟨p3, s3, l3⟩ := row4.pre
  have C47 : Chg (S :: F) w4 w7 := (gr5.chg.mono (fun k hk _ => by simp [hk])).trans C57 (fun x hx => .inl (by simp at hx; simp [hx]))
  have C07 : Chg (D :: S :: F) w w7 := ((((C12.mono (fun k hk _ => by simp at hk; simp [hk])).trans C23 (by simp)).trans C34 (fun x hx => .inr (by simp at hx; omega))).trans C47 (fun x hx => .inl (List.mem_cons_of_mem _ hx)))
  refine ⟨w6, hw6, ⟨x1, k1, d1⟩, w7, hw7, h7, hown5.chg C57 (fun x hx => by simp at hx; subst hx; simpa using hSG.symm), p3.chg C47 (by simp; exact ⟨by omega, hg3F⟩), eSize_of s3 (C47.block g3 hg3lt (by simp; exact ⟨by omega, hg3F⟩)), l3, by omega, hg3G, hGn.imp id (by omega), C07, HD4.chg C47 (by simp; exact ⟨hDS, hDF⟩)⟩
end
end Go.Proofs.YtacmaphhbbadjaaGreatDoor
