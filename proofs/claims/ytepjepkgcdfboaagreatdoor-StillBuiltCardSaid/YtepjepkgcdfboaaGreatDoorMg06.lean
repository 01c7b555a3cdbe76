/- Words on memory, the third part: the worlds of the kit's sort (Holds, putRow, grow) in the words Row, Chg. Plain lemmas, no program. -/
import Derived.Test.YtepjepkgcdfboaaGreatDoorMg01
import Derived.Sort.Grow
set_option linter.unusedVariables false
set_option linter.unusedSimpArgs false
namespace Go.Proofs.YtepjepkgcdfboaaGreatDoor
open Go.RowKit Go.Sort
section
variable {α:Type} [Inhabited α] {enc:α->Value} {w w' a:World} {g:Nat} {e t:TypeId} {v:Value} {xs ys:List α} {F:List Nat} {cs:Array Value}
theorem Chg.growO (h:Chg F a w) (os:Array Obj):Chg F a (grow w os) :=
 h.tq ⟨rfl,rfl,rfl,by rw [size_grow];omega,fun k hk _=>heap_grow_old w os hk⟩
theorem Chg.aheadN (h:Chg F a w) (n:Nat):Chg F a (Sort.ahead w n):=⟨h.os,h.tape,h.output,h.size,h.block⟩
theorem c6z (w:World) (blk k:Nat) (f:Array Value->Array Value) (h:k≠blk):(mapBlock w blk f).heap[k]?=w.heap[k]?:=by
 unfold mapBlock
 rw [Array.getElem?_modify,if_neg (by omega)]
theorem Chg.mapBlk (h:Chg F a w) {blk:Nat} (hb:blk∈F\/a.heap.size<=blk) (f:Array Value->Array Value):Chg F a (mapBlock w blk f) :=
 h.trans (F':=[blk]) ⟨rfl,rfl,rfl,by simp [mapBlock],fun k _ hn=>c6z w blk k f (by simpa using hn)⟩ (by simpa using hb)
theorem Chg.putRow (h:Chg F a w) {blk:Nat} (hb:blk∈F\/a.heap.size<=blk) (off:Nat) (d:Array α):Chg F a (putRow enc w blk off d):=h.mapBlk hb _
theorem Blk.mapBlk (h:Blk w g t cs) (f:Array Value->Array Value):Blk (mapBlock w g f) g t (f cs):=by
 unfold Blk at h ⊢
 unfold mapBlock
 rw [Array.getElem?_modify,if_pos rfl,h]
 rfl
theorem Blk.growO (h:Blk w g t cs) (os:Array Obj):Blk (grow w os) g t cs:=(heap_grow_old w os h.lt).trans h
theorem Blk.aheadN (h:Blk w g t cs) (n:Nat):Blk (Sort.ahead w n) g t cs:=h
theorem Row.growO {zs:List Value} (h:Row w e v g zs) (os:Array Obj):Row (grow w os) e v g zs:=h.keep fun _ _ h=>h.growO os
theorem Row.aheadN {zs:List Value} (h:Row w e v g zs) (n:Nat):Row (Sort.ahead w n) e v g zs:=h.keep fun _ _ h=>h
theorem c7v (enc:α->Value) (d:Array α) (c:Array Value) (h:d.size<=c.size):(putCells enc 0 d c).toList.take d.size=d.toList.map enc:=by
 apply List.ext_getElem?
 intro k
 rw [List.getElem?_take]
 by_cases hk:k<d.size
 ·rw [if_pos hk,Array.getElem?_toList]
  unfold putCells
  rw [Array.getElem?_mapIdx,Array.getElem?_eq_getElem (by omega),Option.map_some,if_pos ⟨by omega,by omega⟩,zW,Array.getElem?_toList,Array.getElem?_eq_getElem hk,Nat.sub_zero,getElem!_pos d k hk]
  rfl
 ·rw [if_neg hk,zW,Array.getElem?_toList,Array.getElem?_eq_none (by omega)]
  rfl
theorem Row.putRow (h:Row w e v g (xs.map enc)) (hl:ys.length=xs.length):Row (putRow enc w g 0 ys.toArray) e v g (ys.map enc):=by
 obtain ⟨ab,aa,h1,h2,h3,h4,h5,h6⟩:=h.ex
 simp only [zE] at h1 h3
 refine ⟨ab,_,by simpa [hl] using h1,h2.mapBlk _,by simpa [hl] using h3,h4,by simpa [putCells] using h5,?_⟩
 have:=c7v enc ys.toArray aa (by simp;omega)
 simpa using this
theorem Row.holds (h:Row w e v g (xs.map enc)):Holds enc w g 0 xs.toArray:=by
 obtain ⟨ab,h1,h2,h3,h4,h5⟩:=h.oq
 intro j hj
 have aa:j<xs.length:=by simpa using hj
 refine ⟨?_,h5 _⟩
 rw [Nat.zero_add,h4 j _ (zF aa)]
 congr 2
 simp [aa]
theorem Row.of_owns {n:Nat} {zs:List Value} {base:Nat} (h:w.ownsRow base e 1 v n zs) (hv:v≠.slice none 0 0):∃ g,Row w e v g zs/\base<=g:=by
 obtain ⟨h1,h2⟩:=h
 rcases h2 with ⟨rfl,_⟩ | ⟨g,ab,aa,rfl,hb,h3,h4,h5,h6,h7⟩
 ·exact absurd rfl hv
 ·have hn:zs.length=n:=by simpa using h1
  subst hn
  exact ⟨g,⟨ab,aa,rfl,h3,h4,h5,by simpa using h6,by simpa using h7⟩,hb⟩
end
theorem a0d.getD_ {w:World} {b o:Nat} {l:List Int} (h:a0d (fun x=>Value.int .i64 x) w (some ⟨b,o,none⟩) l):∀ j,j<l.length->w.cell? ⟨b,o+j,none⟩=some (.int .i64 (l.getD j 0)):=by
 intro j hj
 obtain ⟨b',o',e,_,hc⟩:=h.ex (by omega)
 injection e with e
 injection e with e1 e2 _
 subst e1
 subst e2
 rw [zD,zF hj]
 exact hc j _ (zF hj)
end Go.Proofs.YtepjepkgcdfboaaGreatDoor
