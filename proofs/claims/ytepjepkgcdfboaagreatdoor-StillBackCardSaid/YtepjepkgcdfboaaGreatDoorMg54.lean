/- Rows that are made one by one, stored, and filled: what a loop keeps. -/
import Derived.Test.YtepjepkgcdfboaaGreatDoorMg34
set_option linter.unusedVariables false
set_option linter.unusedSimpArgs false
namespace Go.Proofs.YtepjepkgcdfboaaGreatDoor
open Go.RowKit
structure b6n (w0:World) (E:List Nat) (n gC:Nat) (w:World) (P:List (List Int)) (xs:List Value) (gs:List Nat):Prop where
 row:Row w 22 (.slice (some ⟨gC,0,none⟩) n n) gC (xs++List.replicate (n-P.length) (.slice none 0 0))
 pl:a2k w xs P gs
 dg:gC∉gs
 new:∀ x∈gC::gs,w0.heap.size<=x
 old:∀ x∈E,x<w0.heap.size
 chg:Chg E w0 w
section
variable {w0 w wa:World} {E:List Nat} {n gC:Nat} {P:List (List Int)} {l:List Int} {xs:List Value} {gs:List Nat}
theorem b6n.start (hn:n<=4096) (hE:∀ x∈E,x<w0.heap.size):b6n w0 E n w0.heap.size (w0.alloc (.cells (List.replicate n (Value.slice none 0 0)).toArray 22)) [] [] []:=by
 refine ⟨?_,a2k.nil _,by simp,by simp,hE,(zR E w0).alloc _⟩
 have:=Row.made w0 22 (List.replicate n (.slice none 0 0)) (by simp [maxLen];omega)
 simpa using this
theorem b6n.turn (h:b6n w0 E n gC w P xs gs) (hc:Chg E w wa):b6n w0 E n gC wa P xs gs:=by
 have hd:∀ x∈gC::gs,x∉E:=fun x hx hm=>by have:=h.new x hx;have:=h.old x hm;omega
 exact ⟨h.row.chg hc (hd gC (by simp)),h.pl.chg hc (fun x hx=>hd x (by simp [hx])),h.dg,h.new,h.old,h.chg.trans hc (fun x hx => .inl hx)⟩
theorem b6n.next (h:b6n w0 E n gC w P xs gs) (hi:P.length<n) {g5:Nat} {u:Value} (ca:Chg [] w wa) (hg5:w.heap.size<=g5) (r:Row wa 3 u g5 (l.map vi)) :
  b6n w0 E n gC (wa.setCell ⟨gC,P.length,none⟩ u) (P++[l]) (xs++[u]) (gs++[g5]):=by
 have hl:=h.pl.lx
 have aa:g5≠gC:=fun e=>by have:=h.row.lt;omega
 have ac:g5∉gs:=fun hm=>by have:=h.pl.lt g5 hm;omega
 have ab:Chg [gC] wa (wa.setCell ⟨gC,P.length,none⟩ u):=(zR [gC] wa).setCell (p:=⟨gC,P.length,none⟩) (.inl (by simp)) u
 refine ⟨?_,?_,?_,?_,h.old,?_⟩
 ·have h1:=(h.row.chg ca (by simp)).set_ (i:=P.length) (by simp [hl];omega) u
  have e:(xs++List.replicate (n-P.length) (Value.slice none 0 0)).set P.length u=(xs++[u])++List.replicate (n-(P++[l]).length) (Value.slice none 0 0):=by
   rw [List.set_append_right _ _ (by omega),hl,Nat.sub_self,zC,List.length_singleton]
   rw [show n-P.length=(n-(P.length+1))+1 by omega,List.replicate_succ]
   simp
  rw [e] at h1
  exact h1
 ·refine ((h.pl.same ca).snoc r ac).chg ab ?_
  intro x hx hm
  simp at hm
  subst hm
  rcases zP.1 hx with hx | hx
  ·exact h.dg hx
  ·simp at hx;exact aa hx.symm
 ·intro hm
  rcases zP.1 hm with hx | hx
  ·exact h.dg hx
  ·simp at hx;exact aa hx.symm
 ·intro x hx
  have:=h.chg.size
  simp only [zJ,zP,List.not_mem_nil,or_false] at hx
  rcases hx with rfl | hx | rfl
  ·exact h.new x (by simp)
  ·exact h.new x (by simp [hx])
  ·omega
 ·exact (h.chg.tq (ca.mono (by simp))).trans ab (fun x hx => .inr (by simp at hx;subst hx;exact h.new _ (by simp)))
theorem b6n.last (h:b6n w0 E n gC w (P++[l]) xs gs) (hi:P.length<n):∃ g c,w.cell? ⟨gC,P.length,none⟩=some (.slice (some ⟨g,0,none⟩) l.length c)/\Row w 3 (.slice (some ⟨g,0,none⟩) l.length c) g (l.map vi)/\xs[P.length]?=some (.slice (some ⟨g,0,none⟩) l.length c)/\gs[P.length]?=some g/\w0.heap.size<=g:=by
 obtain ⟨u,g,h1,h2,h3⟩:=h.pl.row P.length l (by simp)
 obtain ⟨c,rfl,_,_⟩:=h3.oq
 obtain ⟨_,_,_,_,aa,_⟩:=h.row.open_
 refine ⟨g,c,?_,h3,h1,h2,h.new g (List.mem_cons_of_mem _ (List.mem_of_getElem? h2))⟩
 have hx:P.length<xs.length:=by rw [h.pl.lx];simp
 rw [aa P.length (by rw [zC];omega),List.getElem?_append_left hx,h1]
theorem b6n.fill (h:b6n w0 E n gC w (P++[l]) xs gs) {j g:Nat} {u:Value} (hx:xs[P.length]?=some u) (hg:gs[P.length]?=some g) (r:Row w 3 u g (l.map vi)) (hj:j<l.length) (v:Int) :
  b6n w0 E n gC (w.setCell ⟨g,j,none⟩ (.int .i64 v)) (P++[l.set j v]) xs gs:=by
 have ab:Chg [g] w (w.setCell ⟨g,j,none⟩ (.int .i64 v)):=(zR [g] w).setCell (p:=⟨g,j,none⟩) (.inl (by simp)) _
 have ac:g∈gs:=List.mem_of_getElem? hg
 have ad:gC∉[g]:=fun hm=>by simp at hm;subst hm;exact h.dg ac
 have h1:=r.set_ (i:=j) (by rw [zE];exact hj) (.int .i64 v)
 have e:(l.map vi).set j (.int .i64 v)=(l.set j v).map vi:=by rw [List.map_set];rfl
 rw [e] at h1
 have hp:=h.pl.set hx hg h1 ab
 have e2:(P++[l]).set P.length (l.set j v)=P++[l.set j v]:=by rw [List.set_append_right _ _ (zQ _)];simp
 rw [e2] at hp
 have aa:=h.row.chg ab ad
 have e3:(P++[l]).length=(P++[l.set j v]).length:=by simp
 rw [e3] at aa
 exact ⟨aa,hp,h.dg,h.new,h.old,h.chg.trans ab (fun x hx => .inr (by simp at hx;subst hx;exact h.new _ (List.mem_cons_of_mem _ ac)))⟩
end
end Go.Proofs.YtepjepkgcdfboaaGreatDoor
