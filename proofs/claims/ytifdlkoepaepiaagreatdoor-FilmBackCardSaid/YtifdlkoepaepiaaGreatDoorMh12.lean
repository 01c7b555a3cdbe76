/- Lemmas. -/
import Derived.Test.YtifdlkoepaepiaaGreatDoorMh08
import Derived.Sort.Grow
import Derived.Maps.OwnSet
set_option linter.all false
namespace Go.Proofs.YtifdlkoepaepiaaGreatDoor
open List Nat Go.RowKit Go.Sort
variable {zs:List Value}{blk:Nat}
section
variable {α:Type} [Inhabited α] {enc:α->Value} {w w' a:World} {g:Nat} {e t:TypeId} {v:Value} {xs ys:List α} {F:List Nat} {cs:Array Value}
theorem gg.growO(h:gg F a w)(os:Array Obj):gg F a (grow w os):=
 h.tq ⟨rfl,rfl,rfl,by rw[size_grow];omega,λk hk _=>heap_grow_old w os hk⟩
theorem gg.aheadN(h:gg F a w)(n:Nat):gg F a (Sort.ahead w n):=⟨h.os,h.tape,h.output,h.size,h.block⟩
theorem Jv(w:World)(blk k:Nat)(f:Array Value->Array Value)(h:k≠blk):(mapBlock w blk f).heap[k]?=w.heap[k]?:=by
 unfold mapBlock;rw[Array.getElem?_modify,if_neg (by omega)]
theorem gg.mapBlk(h:gg F a w)(c:blk∈F\/a.heap.size<=blk)(f:Array Value->Array Value):gg F a (mapBlock w blk f):=
 h.trans (F':=[blk]) ⟨rfl,rfl,rfl,by simp[mapBlock],λk _ hn=>Jv w blk k f (by simpa using hn)⟩ (by simpa using c)
theorem gg.putRow(h:gg F a w)(i:blk∈F\/a.heap.size<=blk)(c:Nat)(d:Array α):gg F a (putRow enc w blk c d):=h.mapBlk i _
theorem gn.mapBlk(h:gn w g t cs)(f:Array Value->Array Value):gn (mapBlock w g f) g t (f cs):=by
 unfold gn at h⊢;unfold mapBlock;rw[Array.getElem?_modify,if_pos rfl,h];rfl
theorem gn.growO(h:gn w g t cs)(os:Array Obj):gn (grow w os) g t cs:=(heap_grow_old w os h.lt).trans h
theorem gn.aheadN(h:gn w g t cs)(n:Nat):gn (Sort.ahead w n) g t cs:=h
theorem gv.growO(h:gv w e v g zs)(os:Array Obj):gv (grow w os) e v g zs:=h.N λ_ _ h=>h.growO os
theorem gv.aheadN(h:gv w e v g zs)(n:Nat):gv (Sort.ahead w n) e v g zs:=h.N λ_ _ h=>h
theorem JB(enc:α->Value)(d:Array α)(c:Array Value)(h:d.size<=c.size):(putCells enc 0 d c).toList.take d.size=d.toList.map enc:=by
 apply ext_getElem?;intro k;rw[getElem?_take];by_cases hk:k<d.size
 .rw[if_pos hk,Array.getElem?_toList]
  unfold putCells;rw[Array.getElem?_mapIdx,Array.getElem?_eq_getElem (by omega),Option.map_some,if_pos ⟨by omega,by omega⟩,zW,Array.getElem?_toList,Array.getElem?_eq_getElem hk,Nat.sub_zero,getElem!_pos d k hk];rfl
 .rw[if_neg hk,zW,Array.getElem?_toList,Array.getElem?_eq_none (by omega)]
  rfl
theorem gv.putRow(h:gv w e v g (xs.map enc))(i:ys.length=xs.length):gv (putRow enc w g 0 ys.toArray) e v g (ys.map enc):=by
 obtain⟨j,l,c,m,d,o,p,q⟩:=h.ex;simp only[zE]at c d;refine⟨j,_,by simpa[i]using c,m.mapBlk _,by simpa[i]using d,o,by simpa[putCells]using p,?_⟩
 have:=JB enc ys.toArray l (by simp;omega)
 simpa using this
theorem gv.holds(h:gv w e v g (xs.map enc)):Holds enc w g 0 xs.toArray:=by
 obtain⟨m,o,p,q,d,i⟩:=h.T;intro j l;have c:j<xs.length:=by simpa using l
 refine⟨?_,i _⟩;rw[Nat.zero_add,d j _ (zF c)]
 congr 2
 simp[c]
theorem gv.of_owns{n:Nat}{c:Nat}(h:w.ownsRow c e 1 v n zs)(x:v≠.slice none 0 0):∃g,gv w e v g zs/\c<=g:=by
 obtain⟨j,l⟩:=h;rcases l with⟨rfl,_⟩|⟨g,d,i,rfl,s,m,o,p,q,r⟩
 .exact absurd rfl x
 .have u:zs.length=n:=by simpa using j
  subst u;exact⟨g,⟨d,i,rfl,m,o,p,by simpa using q,by simpa using r⟩,s⟩
end
theorem gz.getD_{w:World}{b o:Nat}{l:List Int}(h:gz (λx=>Value.int .i64 x) w (some ⟨b,o,none⟩) l):∀j,j<l.length->w.cell? ⟨b,o+j,none⟩=some (.int .i64 (l.getD j 0)):=by
 intro j c;obtain⟨i,m,e,_,d⟩:=h.ex (by omega);injection e with e;injection e with e1 e2 _;subst e1;subst e2;rw[zD,zF c];exact d j _ (zF c)
open Go.RowKit Go.Maps
structure xW (P:Program) (k:TypeId) {α:Type} (kv:α->Value) (ok:α->Prop):Prop where
 key:∀a,ok a->∃l,keyOf P k (kv a)=some l
 inj:∀a b,ok a->ok b->kv a=kv b->a=b
def ju(P:Program)(k e:TypeId){α:Type}(kv:α->Value)(ok:α->Prop)(w:World)(b n:Nat)(f:α->Option Lit):Prop:=
 ∃D:DataW Unit,w.ownsMap P k (plainElem P e) b n D/\IsMap D/\∀a l,ok a->keyOf P k (kv a)=some l->has D l=(f a).isSome/\∀z,D.atKey l z=match f a with
  | some x=>.lit x
  | none=>z
section
variable {P:Program} {k e t:TypeId} {α:Type} {kv:α->Value} {ok:α->Prop} {w w':World} {b n:Nat} {f:α->Option Lit}
theorem ju.made(w:World)(P:Program)(k e:TypeId)(kv:α->Value)(ok:α->Prop):ju P k e kv ok (w.alloc (.map #[] 0)) w.heap.size 0 (λ_=>none):=
 ⟨.map [],World.ownsMap_made _ _ _ _,isMap_empty,λv l _ _=>⟨rfl,λz=>rfl⟩⟩
theorem ju.lt(h:ju P k e kv ok w b n f):b<w.heap.size:=by obtain⟨D,c,_⟩:=h;exact c.lt
theorem ju.Z{F:List Nat}(h:ju P k e kv ok w b n f)(o:gg F w w')(m:b∉F):ju P k e kv ok w' b n f:=by
 obtain⟨D,c,l⟩:=h;have i:=c.lt;obtain⟨j,d,p,r⟩:=c;exact⟨D,⟨j,d,(o.block b i m).trans p,r⟩,l⟩
theorem ju.Y(h:ju P k e kv ok w b n f)(c:gg [] w w'):ju P k e kv ok w' b n f:=h.Z c (by simp)
theorem ju.ne_{g:Nat}{ty:TypeId}{cs:Array Value}(h:ju P k e kv ok w b n f)(c:gn w g ty cs):g≠b:=by
 obtain⟨D,⟨j,i,d,_⟩,_⟩:=h;rintro rfl;unfold gn at c;rw[d]at c;cases c
theorem ju.store[DecidableEq α](h:ju P k e kv ok w b n f)(o:xW P k kv ok)(K:Keyed P k)(I:P.underlying t=some (.map k e))(C:n<maxLen){a:α}(q:ok a){i:Value}{x:Lit}(J:plainElem (H:=Unit) P e i=some (.lit x,[])):∃w',(Instr.mapUpdate t (.map (some b)) (kv a) i).run P w=.ok () w'/\ju P k e kv ok w' b (n+1) (λc=>if c=a then some x else f c)/\gg [b] w w':=by
 obtain⟨D,u,m,y⟩:=h;obtain⟨kl,d⟩:=o.key a q;obtain⟨w',G,E,A⟩:=u.update K I C d J;refine⟨w',G,⟨_,E,m.put _ _,λc l hc hl=>?_⟩,gg.of_grown A (by intro j B;cases B;exact .inl (by simp))⟩;by_cases hvk:c=a
 .subst hvk
  rw[d]at hl;injection hl with hl;subst hl;simp only[if_true];exact⟨has_put_same m (K.key d) _,λz=>atKey_put_same m (K.key d) _ z⟩
 .simp only[if_neg hvk]
  have p:l≠kl:=λe=>hvk (o.inj c a hc q (K.inj hl (e ▸ d)));obtain⟨r,s⟩:=y c l hc hl;exact⟨(has_put_other p _).trans r,λz=>(atKey_put_other p _ z).trans (s z)⟩
theorem ju.look_bool(h:ju P k e kv ok w b n f)(o:xW P k kv ok)(K:Keyed P k)(y:P.underlying t=some (.map k e))(l:P.underlying e=some .bool)(z:(zeroValue e).run P w=.ok (.bool false) w){a:α}(j:ok a){x:Bool}(d:f a=some (.bool x)\/f a=none/\x=false):(Instr.lookup t (.map (some b)) (kv a) false).run P w=.ok (.bool x) w:=by
 obtain⟨D,r,B,s⟩:=h;obtain⟨m,i⟩:=o.key a j;obtain⟨v,ps,u,c⟩:=r.lookup K y z (plainElem_bool l false) i;obtain⟨A,p⟩:=s a m j i;have q:D.atKey m (.lit (.bool false))=.lit (.bool x):=by
  rw[p];rcases d with d|⟨d,rfl⟩<;>rw[d]
 rw[q]at c;unfold plainElem at c;rw[l]at c;cases v<;>simp at c;obtain⟨rfl,-⟩:=c;exact u
theorem ju.look_int(h:ju P k e kv ok w b n f)(p:xW P k kv ok)(K:Keyed P k)(z:P.underlying t=some (.map k e))(m:P.underlying e=some (.int .i64))(A:(zeroValue e).run P w=.ok (.int .i64 0) w){a:α}(j:ok a){x:Int}(o:f a=some (.int .i64 x)):(Instr.lookup t (.map (some b)) (kv a) true).run P w=.ok (.tuple #[x,.bool true]) w:=by
 obtain⟨D,s,C,u⟩:=h;obtain⟨B,d⟩:=p.key a j;obtain⟨v,ps,c,i⟩:=s.look_ok K z A (plainElem_int m (by decide)) d;obtain⟨q,r⟩:=u a B j d;rw[r,o]at i;rw[q,o]at c;obtain⟨y,rfl,l,_⟩:=plainElem_int_inv m i;simp at l;rw[<-l.1]at c;exact c
end
end Go.Proofs.YtifdlkoepaepiaaGreatDoor
