/- Lemmas. -/
import Derived.Test.YtnepiccbpokmiaaGreatDoorMg11
import Derived.Sort.Grow
set_option linter.all false
namespace Go.Proofs.YtnepiccbpokmiaaGreatDoor
open List Nat Go.RowKit Go.Sort
variable {zs:List Value}{blk:Nat}
section
variable {α:Type} [Inhabited α] {enc:α->Value} {w w' a:World} {g:Nat} {e t:TypeId} {v:Value} {xs ys:List α} {F:List Nat} {cs:Array Value}
theorem gf.growO(h:gf F a w)(os:Array Obj):gf F a (grow w os):=
 h.tq ⟨rfl,rfl,rfl,by rw[size_grow];omega,λk hk _=>heap_grow_old w os hk⟩
theorem gf.aheadN(h:gf F a w)(n:Nat):gf F a (Sort.ahead w n):=⟨h.os,h.tape,h.output,h.size,h.block⟩
theorem Gy(w:World)(blk k:Nat)(f:Array Value->Array Value)(h:k≠blk):(mapBlock w blk f).heap[k]?=w.heap[k]?:=by
 unfold mapBlock;rw[Array.getElem?_modify,if_neg (by omega)]
theorem gf.mapBlk(h:gf F a w)(b:blk∈F\/a.heap.size<=blk)(f:Array Value->Array Value):gf F a (mapBlock w blk f):=
 h.trans (F':=[blk]) ⟨rfl,rfl,rfl,by simp[mapBlock],λk _ hn=>Gy w blk k f (by simpa using hn)⟩ (by simpa using b)
theorem gf.putRow(h:gf F a w)(c:blk∈F\/a.heap.size<=blk)(b:Nat)(d:Array α):gf F a (putRow enc w blk b d):=h.mapBlk c _
theorem gn.mapBlk(h:gn w g t cs)(f:Array Value->Array Value):gn (mapBlock w g f) g t (f cs):=by
 unfold gn at h⊢;unfold mapBlock;rw[Array.getElem?_modify,if_pos rfl,h];rfl
theorem gn.growO(h:gn w g t cs)(os:Array Obj):gn (grow w os) g t cs:=(heap_grow_old w os h.lt).trans h
theorem gn.aheadN(h:gn w g t cs)(n:Nat):gn (Sort.ahead w n) g t cs:=h
theorem gv.growO(h:gv w e v g zs)(os:Array Obj):gv (grow w os) e v g zs:=h.Q λ_ _ h=>h.growO os
theorem gv.aheadN(h:gv w e v g zs)(n:Nat):gv (Sort.ahead w n) e v g zs:=h.Q λ_ _ h=>h
theorem GF(enc:α->Value)(d:Array α)(c:Array Value)(h:d.size<=c.size):(putCells enc 0 d c).toList.take d.size=d.toList.map enc:=by
 apply ext_getElem?;intro k;rw[getElem?_take];by_cases hk:k<d.size
 .rw[if_pos hk,Array.getElem?_toList]
  unfold putCells;rw[Array.getElem?_mapIdx,Array.getElem?_eq_getElem (by omega),Option.map_some,if_pos ⟨by omega,by omega⟩,zW,Array.getElem?_toList,Array.getElem?_eq_getElem hk,Nat.sub_zero,getElem!_pos d k hk];rfl
 .rw[if_neg hk,zW,Array.getElem?_toList,Array.getElem?_eq_none (by omega)]
  rfl
theorem gv.putRow(h:gv w e v g (xs.map enc))(d:ys.length=xs.length):gv (putRow enc w g 0 ys.toArray) e v g (ys.map enc):=by
 obtain⟨f,i,b,j,c,k,l,m⟩:=h.ex;simp only[zE]at b c;refine⟨f,_,by simpa[d]using b,j.mapBlk _,by simpa[d]using c,k,by simpa[putCells]using l,?_⟩
 have:=GF enc ys.toArray i (by simp;omega)
 simpa using this
theorem gv.holds(h:gv w e v g (xs.map enc)):Holds enc w g 0 xs.toArray:=by
 obtain⟨i,k,l,m,c,d⟩:=h.oq;intro j f;have b:j<xs.length:=by simpa using f
 refine⟨?_,d _⟩;rw[Nat.zero_add,c j _ (zF b)]
 congr 2
 simp[b]
theorem gv.of_owns{n:Nat}{b:Nat}(h:w.ownsRow b e 1 v n zs)(r:v≠.slice none 0 0):∃g,gv w e v g zs/\b<=g:=by
 obtain⟨f,i⟩:=h;rcases i with⟨rfl,_⟩|⟨g,c,d,rfl,p,j,k,l,m,o⟩
 .exact absurd rfl r
 .have q:zs.length=n:=by simpa using f
  subst q;exact⟨g,⟨c,d,rfl,j,k,l,by simpa using m,by simpa using o⟩,p⟩
end
theorem gu.getD_{w:World}{b o:Nat}{l:List Int}(h:gu (λx=>Value.int .i64 x) w (some ⟨b,o,none⟩) l):∀j,j<l.length->w.cell? ⟨b,o+j,none⟩=some (.int .i64 (l.getD j 0)):=by
 intro j c;obtain⟨f,i,e,_,d⟩:=h.ex (by omega);injection e with e;injection e with e1 e2 _;subst e1;subst e2;rw[zD,zF c];exact d j _ (zF c)
end Go.Proofs.YtnepiccbpokmiaaGreatDoor
