/- Lemmas. -/
import Derived.WalkKit
import Derived.Deep.Draws
import Derived.Maps.AppendAt
import Derived.Test.YtnepiccbpokmiaaGreatDoorMg04
set_option linter.all false
namespace Go.Proofs.YtnepiccbpokmiaaGreatDoor
open List Nat
variable {K:Act->World->Prop}{ops:Array Oper}{done q:List Int}{bs lens:List Nat}{rest:List Oper}{news:List Value}{B H W bytes d g' h i m r s warm y:Nat}{x:Operand}{ty:TypeId}{z:Value}
structure gh(p:Prop):Prop where
 o:p
theorem gL(a b:Int)(h:¬a<b):decide (a<b)=false:=decide_eq_false h
theorem i6(a b:Int)(h:a<b):decide (a<b)=true:=decide_eq_true h
theorem kK(a b:Int)(h:¬a<=b):decide (a<=b)=false:=decide_eq_false h
theorem iI(a b:Int)(h:a<=b):decide (a<=b)=true:=decide_eq_true h
theorem gy{p q:Prop}(a:p)(b:q):gh p/\gh q:=⟨⟨a⟩,⟨b⟩⟩
theorem gS{p q r:Prop}(a:p)(b:q)(c:r):gh p/\gh q/\gh r:=⟨⟨a⟩,⟨b⟩,⟨c⟩⟩
theorem gz{p q r s:Prop}(a:p)(b:q)(c:r)(d:s):gh p/\gh q/\gh r/\gh s:=⟨⟨a⟩,⟨b⟩,⟨c⟩,⟨d⟩⟩
instance:Coe Nat Value:=⟨λn=>.int .i64 n⟩
instance:Coe Int Value:=⟨λn=>.int .i64 n⟩
instance:Coe Nat Addr:=⟨λb=>⟨b,0,none⟩⟩
instance:Coe Nat (Option Addr):=⟨λb=>some ⟨b,0,none⟩⟩
class ZR(R:Ending->World->Prop)(x:outParam Ending)(u:outParam World):Prop where
 o:∀e v,R e v->e=x/\v=u
instance(x:Ending)(u:World):ZR (λe v=>e=x/\v=u) x u:=⟨λ_ _ h=>h⟩
instance(x:Ending)(u:World):ZR (λe v=>e=x/\u=v) x u:=⟨λ_ _ h=>⟨h.1,h.2.symm⟩⟩
theorem gx{P:Program}{f:FuncId}{a:Array Value}{w u:World}{x:Ending}{R Q:Ending->World->Prop}[z:ZR R x u](h:Calls P f a w R)(k:Q x u):Calls P f a w Q:=h.mono λe v y=>by obtain⟨m,n⟩:=z.o e v y;subst m;subst n;exact k
theorem zA{p:Prop}[inst:Decidable p](h:¬p):decide p=false:=decide_eq_false h
theorem zB{p:Prop}[inst:Decidable p](h:p):decide p=true:=decide_eq_true h
theorem zC{α:Type _}{as bs:List α}:(as++bs).length=as.length+bs.length:=length_append
theorem zD{α:Type _}{l:List α}{a:α}:l.getD i a=l[i]?.getD a:=getD_eq_getElem?_getD
theorem zE{α:Type _}{β:Type _}{as:List α}(f:α -> β):(as.map f).length=as.length:=length_map f
theorem zF{α:Type _}{l:List α}(h:i<l.length):l[i]? =some l[i]:=getElem?_eq_getElem h
theorem zG{α:Type _}{l:List α}{n:Nat}(h:n<l.length):l[n]∈l:=getElem_mem h
theorem zH{α:Type _}(a b c:List α):a++b++c=a++(b++c):=append_assoc a b c
theorem zI{α:Type _}{l:List α}:(l.take i).length=min i l.length:=length_take
theorem zJ{α:Type _}{b:α}{l:List α}{a:α}:a∈b::l ↔ a=b\/a∈l:=mem_cons
theorem zK{α:Type _}{a:α}{as:List α}:(a::as).length=as.length+1:=length_cons
theorem zL{a b c:Nat}(h:a<=b)(k:c<=d):a*c<=b*d:=Nat.mul_le_mul h k
theorem zM{α:Type _}{β:Type _}{f:α -> β}{a b:List α}:(a++b).map f=a.map f++b.map f:=map_append
theorem zN{α:Type _}{l:List α}:l.take l.length=l:=take_length
theorem zO{α:Type _}{l:List α}:(l.drop i).length=l.length-i:=length_drop
theorem zP{α:Type _}{a:α}{s t:List α}:a∈s++t ↔ a∈s\/a∈t:=mem_append
theorem zQ(n:Nat):n<=n:=Nat.le_refl n
theorem zS{α:Type _}{l₁ l₂:List α}(h:l₁.length<=i):(l₁++l₂)[i]? =l₂[i-l₁.length]?:=getElem?_append_right h
theorem zT{α:Type _}{l:List α}(h:l.length<=i):l.take i=l:=take_of_length_le h
theorem zU{α:Type _}{a b:α}:a∈[b] ↔ a=b:=mem_singleton
theorem zV{α:Type _}{n:Nat}{a:α}:(replicate n a).length=n:=length_replicate
theorem zW{α:Type _}{β:Type _}{f:α -> β}{l:List α}:(l.map f)[i]? =l[i]?.map f:=getElem?_map
theorem zY(a b:Nat):a*b=b*a:=Nat.mul_comm a b
theorem zZ(a b:Nat):a<b\/a≥b:=Nat.lt_or_ge a b
theorem zX{α:Sort _}(a:α):∃x,x=a:=⟨a,rfl⟩
open Go.RowKit
theorem gd{p:Prop}(h:p):gh p:=⟨h⟩
structure gf (F:List Nat) (w w':World):Prop where
 os:w'.os=w.os
 tape:w'.tape=w.tape
 output:w'.output=w.output
 size:w.heap.size<=w'.heap.size
 block:∀k,k<w.heap.size->k∉F->w'.heap[k]?=w.heap[k]?
section
variable {F F':List Nat} {a b c w w':World}
theorem gf.refl(F:List Nat)(w:World):gf F w w:=⟨rfl,rfl,rfl,zQ _,λ_ _ _=>rfl⟩
theorem zR(F:List Nat)(w:World):gf F w w:=gf.refl F w
theorem gf.mono(h:gf F a b)(hF:∀k∈F,k<a.heap.size->k∈F'):gf F' a b:=
 ⟨h.os,h.tape,h.output,h.size,λk hk hn=>h.block k hk λhm=>hn (hF k hm hk)⟩
theorem gf.trans(h:gf F a b)(k:gf F' b c)(hF:∀x∈F',x∈F\/a.heap.size<=x):gf F a c:=
 ⟨k.os.trans h.os,k.tape.trans h.tape,k.output.trans h.output,Nat.le_trans h.size k.size,λx hx hn=>
  (k.block x (Nat.lt_of_lt_of_le hx h.size) λhm=>by rcases hF x hm with j|j;exact hn j;omega).trans (h.block x hx hn)⟩
theorem gf.tq(h:gf F a b)(k:gf F b c):gf F a c:=h.trans k λ_ h=>.inl h
theorem gf.drew(h:gf F a w):gf F a w.drew:=⟨h.os,h.tape,h.output,h.size,h.block⟩
theorem gf.drewN(h:gf F a w)(n:Nat):gf F a (w.drewN n):=⟨h.os,h.tape,h.output,h.size,h.block⟩
theorem gf.alloc(h:gf F a w)(o:Obj):gf F a (w.alloc o):=
 h.tq ⟨rfl,rfl,rfl,by simp,λk hk _=>Below.heap_alloc _ _ _ hk⟩
theorem gf.setCell(h:gf F a w){p:Addr}(j:p.block∈F\/a.heap.size<=p.block)(u:Value):gf F a (w.setCell p u):=
 h.trans (F':=[p.block]) ⟨rfl,rfl,rfl,by simp[World.setCell],λk _ hn=>Below.heap_setCell _ _ _ _ (by simpa using hn)⟩ (by simpa using j)
theorem gf.of_grown{o:Option Nat}(j:a.grownBy b o)(p:∀k,o=some k->k∈F\/a.heap.size<=k):gf F a b:=
 ⟨j.os,j.tape,j.output,j.size,λk hk hn=>j.block k hk λe=>by rcases p k e.symm with h|h;exact hn h;omega⟩
theorem gf.below(h:gf F a b)(hF:∀k∈F,a.heap.size<=k):Below a.heap.size a b:=
 ⟨h.os,h.tape,h.output,h.size,λk hk=>h.block k hk λhm=>by have:=hF k hm;omega⟩
theorem gf.of_below(h:Below a.heap.size a b):gf F a b:=⟨h.os,h.tape,h.output,h.size,λk hk _=>h.block k hk⟩
theorem gf.toBelow(h:gf F a b)(j:B<=a.heap.size)(hF:∀k∈F,B<=k):Below B a b:=
 ⟨h.os,h.tape,h.output,h.size,λk hk=>h.block k (by omega) λhm=>by have:=hF k hm;omega⟩
end
def gn(w:World)(g:Nat)(t:TypeId)(cs:Array Value):Prop:=w.heap[g]?=some (.cells cs t (0,0))
section
variable {w w':World} {g:Nat} {t:TypeId} {cs:Array Value} {F:List Nat}
theorem gn.lt(h:gn w g t cs):g<w.heap.size:=by
 unfold gn at h;exact(Array.getElem?_eq_some_iff.1 h).1
theorem gn.X(h:gn w g t cs)(i:Nat):w.cell? ⟨g,i,none⟩=cs[i]?:=cell_of_row w g i cs t (0,0) h
theorem gn.V(h:gn w g t cs)(i:Nat):w.frozen? ⟨g,i,none⟩=false:=by
 unfold gn at h;simp[World.frozen?,h]
theorem gn.new(w:World)(t:TypeId)(cs:Array Value):gn (w.alloc (.cells cs t)) w.heap.size t cs:=heap_alloc_new w _
theorem gn.drew(h:gn w g t cs):gn w.drew g t cs:=h
theorem gn.drewN(h:gn w g t cs)(n:Nat):gn (w.drewN n) g t cs:=h
theorem gn.alloc(h:gn w g t cs)(o:Obj):gn (w.alloc o) g t cs:=(Below.heap_alloc w o g h.lt).trans h
theorem gn.T(h:gn w g t cs)(i:Nat)(u:Value):gn (w.setCell ⟨g,i,none⟩ u) g t (cs.setIfInBounds i u):=by
 unfold gn at h⊢;simp[World.setCell,Array.getElem?_modify,h]
theorem gn.R(h:gn w g t cs){p:Addr}(j:g≠p.block)(u:Value):gn (w.setCell p u) g t cs:=(Below.heap_setCell w p u g j).trans h
theorem gn.Z(h:gn w g t cs)(j:gf F w w')(o:g∉F):gn w' g t cs:=(j.block g h.lt o).trans h
theorem gn.below(h:gn w g t cs)(j:Below B w w')(o:g<B):gn w' g t cs:=(j.block g o).trans h
theorem gn.ne_{u:TypeId}{o:Array Value}(h:gn w g t cs)(j:gn w g' u o)(p:t≠u):g≠g':=by
 rintro rfl;unfold gn at h j;rw[h]at j;injection j with j;injection j with _ ht;exact p ht
end
theorem jD{w v:World}{o:Obj}(h:v=w.alloc o):gf [] w v:=by rw[h];exact(gf.refl [] w).alloc o
theorem rT{w v:World}{o q:Obj}(h:v=(w.alloc o).alloc q):gf [] w v:=by rw[h];exact((gf.refl [] w).alloc o).alloc q
theorem qd{w v:World}{t:TypeId}{c:Array Value}{x:Nat}(h:v=w.alloc (.cells c t))(k:x=w.heap.size):gn v x t c:=by rw[h,k];exact gn.new w t c
theorem FV{w v:World}{t:TypeId}{c:Array Value}{x:Nat}{o:Obj}(h:v=(w.alloc (.cells c t)).alloc o)(k:x=w.heap.size):gn v x t c:=by rw[h,k];exact(gn.new w t c).alloc o
theorem jM{w:World}{g:Nat}{t:TypeId}{c:Array Value}(h:gn w g t c):w.cell? ⟨g,0,none⟩=c[0]?/\w.cell? ⟨g,1,none⟩=c[1]?/\w.cell? ⟨g,2,none⟩=c[2]?/\w.cell? ⟨g,3,none⟩=c[3]?:=⟨h.X 0,h.X 1,h.X 2,h.X 3⟩
theorem pt{w:World}{g:Nat}{t:TypeId}{c:Array Value}(h:gn w g t c)(a b:Nat):w.frozen? ⟨g,a,none⟩=false/\w.frozen? ⟨g,b,none⟩=false:=⟨h.V a,h.V b⟩
theorem OY{w:World}{g:Nat}{t:TypeId}{c:Array Value}(h:gn w g t c)(a b c:Nat):w.frozen? ⟨g,a,none⟩=false/\w.frozen? ⟨g,b,none⟩=false/\w.frozen? ⟨g,c,none⟩=false:=⟨h.V a,h.V b,h.V c⟩
theorem rU{w:World}{g:Nat}{t:TypeId}{c:Array Value}(h:gn w g t c)(a b c d:Nat):w.frozen? ⟨g,a,none⟩=false/\w.frozen? ⟨g,b,none⟩=false/\w.frozen? ⟨g,c,none⟩=false/\w.frozen? ⟨g,d,none⟩=false:=⟨h.V a,h.V b,h.V c,h.V d⟩
theorem OZ{w:World}{g:Nat}{t:TypeId}{c:Array Value}(h:gn w g t c)(a b c d e:Nat):w.frozen? ⟨g,a,none⟩=false/\w.frozen? ⟨g,b,none⟩=false/\w.frozen? ⟨g,c,none⟩=false/\w.frozen? ⟨g,d,none⟩=false/\w.frozen? ⟨g,e,none⟩=false:=⟨h.V a,h.V b,h.V c,h.V d,h.V e⟩
theorem gf.zs{w v:World}{g:Nat}(h:gf [g] w v)(i:Nat)(u:Value):gf [g] w (v.setCell ⟨g,i,none⟩ u):=h.setCell (p:=⟨g,i,none⟩) (.inl (by simp)) u
structure gv (w:World) (e:TypeId) (v:Value) (g:Nat) (xs:List Value):Prop where
 ex:∃cap cur,v=.slice g xs.length cap/\gn w g e cur/\xs.length<=cap/\cap<=maxLen/\cur.size=cap/\cur.toList.take xs.length=xs
section
variable {w w':World} {e:TypeId} {v:Value} {g:Nat} {xs:List Value} {F:List Nat}
theorem gv.lt(h:gv w e v g xs):g<w.heap.size:=by obtain⟨_,_,_,h,_⟩:=h.ex;exact h.lt
theorem gv.Q(h:gv w e v g xs)(D:∀t cs,gn w g t cs->gn w' g t cs):gv w' e v g xs:=by
 obtain⟨j,o,p,u,C⟩:=h.ex;exact⟨j,o,p,D _ _ u,C⟩
theorem gv.drew(h:gv w e v g xs):gv w.drew e v g xs:=h.Q λ_ _ h=>h.drew
theorem gv.drewN(h:gv w e v g xs)(n:Nat):gv (w.drewN n) e v g xs:=h.Q λ_ _ h=>h.drewN n
theorem gv.alloc(h:gv w e v g xs)(o:Obj):gv (w.alloc o) e v g xs:=h.Q λ_ _ h=>h.alloc o
theorem gv.R(h:gv w e v g xs){p:Addr}(j:g≠p.block)(u:Value):gv (w.setCell p u) e v g xs:=h.Q λ_ _ h=>h.R j u
theorem gv.Z(h:gv w e v g xs)(j:gf F w w')(o:g∉F):gv w' e v g xs:=h.Q λ_ _ h=>h.Z j o
theorem gv.own(h:gv w e v g xs)(base:Nat)(J:base<=g):w.ownsRow base e 1 v xs.length xs:=by
 obtain⟨j,o,p,u,C,D,E,I⟩:=h.ex;exact⟨by simp,.inr ⟨g,j,o,p,J,u,C,D,by simp[E],by simpa using I⟩⟩
theorem gv.of_own{base n:Nat}(h:w.ownsRow base e 1 v n xs){a:Addr}{c:Nat}(M:v=.slice (some a) m c):∃g,gv w e v g xs/\v.ownBlock=some g:=by
 obtain⟨p,u⟩:=h;rcases u with⟨rfl,_⟩|⟨g,j,o,rfl,_,C,D,E,I,J⟩
 .cases M
 .have L:xs.length=n:=by simpa using p
  subst L;exact⟨g,⟨j,o,rfl,C,D,E,by simpa using I,by simpa using J⟩,rfl⟩
theorem gv.own_block(h:gv w e v g xs):v.ownBlock=some g:=by
 obtain⟨j,o,rfl,_⟩:=h.ex;rfl
theorem gv.open_(h:gv w e v g xs):∃cap,v=.slice g xs.length cap/\xs.length<=cap/\cap<=maxLen/\(∀i,i<xs.length->w.cell? ⟨g,i,none⟩=xs[i]?)/\∀i,w.frozen? ⟨g,i,none⟩=false:=by
 obtain⟨cap,o,p,j,u,C,E,D⟩:=h.ex;refine⟨cap,p,u,C,λi hi=>?_,j.V⟩;rw[j.X i]
 have:(o.toList.take xs.length)[i]?=xs[i]?:=by rw[D]
 rw[getElem?_take,if_pos hi]at this
 simpa using this
theorem gv.oq{α:Type}{f:α->Value}{j:List α}(h:gv w e v g (j.map f)):∃cap:Nat,v=.slice g j.length cap/\j.length<=cap/\cap<=9223372036854775807/\(∀(i:Nat) (d:α),j[i]?=some d->w.cell? ⟨g,i,none⟩=some (f d))/\∀i,w.frozen? ⟨g,i,none⟩=false:=by
 obtain⟨cap,o,p,C,u,D⟩:=h.open_;simp only[zE]at o p u;refine⟨cap,o,p,by simpa[maxLen]using C,λi d hd=>?_,D⟩;have hi:i<j.length:=(List.getElem?_eq_some_iff.1 hd).1;rw[u i hi,zW,hd];rfl
theorem gv.T(h:gv w e v g xs)(hi:i<xs.length)(u:Value):gv (w.setCell ⟨g,i,none⟩ u) e v g (xs.set i u):=by
 obtain⟨j,J,o,p,C,D,E,I⟩:=h.ex;refine⟨j,_,by simpa using o,p.T i u,by simpa using C,D,by simpa using E,?_⟩;rw[length_set,Array.toList_setIfInBounds,take_set,I]
theorem gv.ne_{t:TypeId}{cs:Array Value}{b:Nat}(h:gv w e v g xs)(p:gn w b t cs)(j:e≠t):g≠b:=by
 obtain⟨_,_,_,o,_⟩:=h.ex;exact o.ne_ p j
theorem gv.ne_row{p:TypeId}{D:Value}{o:List Value}(h:gv w e v g xs)(C:gv w p D g' o)(j:e≠p):g≠g':=by
 obtain⟨_,_,_,u,_⟩:=C.ex;exact h.ne_ u j
theorem gv.made(w:World)(e:TypeId)(xs:List Value)(j:xs.length<=maxLen):gv (w.alloc (.cells xs.toArray e)) e (.slice (some ⟨w.heap.size,0,none⟩) xs.length xs.length) w.heap.size xs:=
 ⟨xs.length,xs.toArray,rfl,gn.new w e _,zQ _,j,by simp,by simp⟩
end
structure jA (P:Program) (t e:TypeId) (z:Value) (size bytes:Nat):Prop where
 ht:P.underlying t=some (.slice e)
 hi:∃i,P.info? e=some i/\i.zero=some z/\i.size=size/\i.bytes=bytes
theorem jA.mk'{P:Program}{t e:TypeId}{size:Nat}(j:P.underlying t=some (.slice e))(h:(P.info? e).map (λi=>(i.zero,i.size,i.bytes))=some (some z,size,bytes)):jA P t e z size bytes:=
 ⟨j,info_parts h⟩
section
variable {P:Program}
theorem GO{w:World}{t e:TypeId}{size:Nat}(E:jA P t e z size bytes)(L:z.cells.size=size)(J:0<size){v:Value}{n:Nat}{xs:List Value}(D:w.ownsRow 0 e size v n xs){ad:Addr}{c:Nat}(V:news.length=m*size)(hm:0<m)(C:∀j u,news[j]?=some u->w.cell? (ad.add j)=some u)(S:∀u∈news,u.oneCell'=true)(I:n+m<=9223372036854775807)(o:(n+m)*bytes<=140737488355328):∃g cap w',(Builtin.append_ #[t,t] ty #[v,.slice (some ad) m c]).run P w=.ok (.slice (some ⟨g,0,none⟩) (n+m) cap) w'/\w'.ownsRow 0 e size (.slice (some ⟨g,0,none⟩) (n+m) cap) (n+m) (xs++news) /\ gf v.ownBlock.toList w w'/\(some g=v.ownBlock\/w.heap.size<=g):=by
 obtain⟨i,hi,Y,O,R⟩:=E.hi;obtain⟨v',w',X,M,T,Z,p⟩:=run_append_own_at (P:=P) w 0 t ty e i z size bytes E.ht hi Y O R L J v n xs D ad m c news V C S (by simpa[maxLen]using I) o (zero_le _);rcases M.2 with⟨rfl,hn⟩|⟨g,cap,Q,rfl,N⟩
 .omega
 .refine⟨g,cap,w',X,⟨M.1,.inr ⟨g,cap,Q,rfl,N⟩⟩,gf.of_grown T (by intro k U;left;simp[U]),?_⟩
  simp only[Value.ownBlock]at p;rcases p with p|p
  .exact .inl p
  .right
   injection p with p;omega
theorem tU{w:World}{o:Oper}{a:Act}{Q:Exit->Act->World->Prop}{s:Operand}{t:TypeId}(U:o.op=.call { callee:=.builtin .append,args:=#[s,x],argTypes:=#[t,t] }){e:TypeId}{size:Nat}(E:jA P t e z size bytes)(L:z.cells.size=size)(J:0<size){v:Value}{n:Nat}{xs:List Value}(X:a.eval s=v)(D:w.ownsRow 0 e size v n xs){ad:Addr}{c:Nat}(Y:a.eval x=.slice (some ad) m c)(S:news.length=m*size)(T:0<m)(C:∀j u,news[j]?=some u->w.cell? (ad.add j)=some u)(M:∀u∈news,u.oneCell'=true)(I:n+m<=9223372036854775807)(p:(n+m)*bytes<=140737488355328)(h:∀g cap w',w'.ownsRow 0 e size (.slice (some ⟨g,0,none⟩) (n+m) cap) (n+m) (xs++news)->gf v.ownBlock.toList w w'->(some g=v.ownBlock\/w.heap.size<=g)->K (a.put o.dst (.slice (some ⟨g,0,none⟩) (n+m) cap)) w'):o.wp P a w K Q:=by
 obtain⟨g,cap,w',V,N,O,R⟩:=GO (P:=P) (ty:=o.type) E L J D (ad:=ad) (c:=c) S T C M I p;unfold Oper.wp execOp;simp only[U,resolve,invoke,builtin,Sem.run_bind,Sem.run_pure,Result.andThen_ok,map_toArray,map_cons,map_nil,X,Y,V];exact h g cap w' N O R
theorem rW{w:World}{o:Oper}{a:Act}{Q:Exit->Act->World->Prop}(J:o.guard=none){s:Operand}{t:TypeId}(S:o.op=.call { callee:=.builtin .append,args:=#[s,x],argTypes:=#[t,t] }){e:TypeId}{size:Nat}(E:jA P t e z size bytes)(M:z.cells.size=size)(L:0<size){v:Value}{n:Nat}{xs:List Value}(T:a.eval s=v)(D:w.ownsRow 0 e size v n xs){ad:Addr}{c:Nat}(U:a.eval x=.slice (some ad) m c)(O:news.length=m*size)(R:0<m)(C:∀j u,news[j]?=some u->w.cell? (ad.add j)=some u)(N:∀u∈news,u.oneCell'=true)(I:n+m<=9223372036854775807)(p:(n+m)*bytes<=140737488355328)(h:∀g cap w',w'.ownsRow 0 e size (.slice (some ⟨g,0,none⟩) (n+m) cap) (n+m) (xs++news)->gf v.ownBlock.toList w w'->(some g=v.ownBlock\/w.heap.size<=g)->wpList P ops Q rest (a.put o.dst (.slice (some ⟨g,0,none⟩) (n+m) cap)) w'):wpList P ops Q (o::rest) a w:=
 wpList_plain J λ_ hK=>tU S E M L T D U O R C N I p λg cap w' h2 h3 h4=>hK _ _ (h g cap w' h2 h3 h4)
theorem FW{w:World}{o:Oper}{a:Act}{Q:Exit->Act->World->Prop}(I:o.guard=none){s:Operand}{t:TypeId}(U:o.op=.call { callee:=.builtin .append,args:=#[s,x],argTypes:=#[t,t] }){e:TypeId}(E:jA P t e z 1 bytes)(J:z.cells.size=1){v:Value}{g:Nat}{xs:List Value}(V:a.eval s=v)(N:gv w e v g xs){c:Nat}(u:Value)(Y:a.eval x=.slice B 1 c)(X:w.cell? B=some u)(O:u.oneCell'=true)(p:(xs.length+1)*bytes<=140737488355328)(T:xs.length<9223372036854775807)(h:∀g' cap w',gv w' e (.slice (some ⟨g',0,none⟩) (xs.length+1) cap) g' (xs++[u])->gf [g] w w'->(g'=g\/w.heap.size<=g')->wpList P ops Q rest (a.put o.dst (.slice (some ⟨g',0,none⟩) (xs.length+1) cap)) w'):wpList P ops Q (o::rest) a w:=by
 refine rW I U E J (by decide) V (N.own 0 (zero_le _)) Y (news:=[u]) (by simp) (by decide) ?_ (by simpa using O) (by omega) p ?_
 .intro j u' D
  match j,D with
  | 0,D=>simp at D;subst D;simpa[Addr.add]using X
 .intro g' cap w' R L M
  obtain⟨Z,S,C⟩:=gv.of_own R rfl;rw[N.own_block]at L M;simp only[Value.ownBlock]at C;injection C with C;subst C;exact h g' cap w' S L (M.elim (λh=>.inl (by injection h)) .inr)
end
theorem lp{P:Program}{t e:TypeId}(E:jA P t e z 1 bytes)(j:z.cells=#[z])(p o:IntKind)(n:Nat)(M:bytes*n<=281474976710656)(I:n<=9223372036854775807)(w:World):(Instr.makeSlice t (.int p (n:Int)) (.int o (n:Int))).run P w=.ok (.slice (some ⟨w.heap.size,0,none⟩) n n) (w.alloc (.cells (replicate n z).toArray e)):=by
 obtain⟨i,hi,L,u,D⟩:=E.hi;subst D;have C:(i.bytes:Int)*(n:Int)<=281474976710656:=by
  have h:((i.bytes*n:Nat):Int)<=281474976710656:=by omega
  rwa [Int.natCast_mul]at h
 have J:=run_make (P:=P) w t e i z E.ht hi L p o n n (by omega) (Int.le_refl _) C (by omega);rw[J,u,j];simp only[Int.toNat_natCast,Nat.mul_one]
 have:madeCells #[z] n=(replicate n z).toArray:=by
  apply Array.toList_inj.1;rw[toList_madeCells_one]
 rw[this]
section
variable {w w':World} {base:Nat} {e:TypeId} {size n:Nat} {v:Value} {xs:List Value} {F:List Nat}
theorem Fe(h:w.ownsRow base e size v n xs)(C:gf F w w')(E:∀k,v.ownBlock=some k->k∉F):w'.ownsRow base e size v n xs:=by
 refine⟨h.1,?_⟩;rcases h.2 with D|⟨g,o,p,rfl,u,j,rest⟩
 .exact .inl D
 .exact .inr ⟨g,o,p,rfl,u,(C.block g (Array.getElem?_eq_some_iff.1 j).1 (E g rfl)).trans j,rest⟩
theorem OD(h:w.ownsRow base e size v n xs){g:Nat}{t:TypeId}{cs:Array Value}(u:gn w g t cs)(o:e≠t):v.ownBlock≠some g:=by
 rcases h.2 with⟨rfl,_⟩|⟨g',D,p,rfl,_,C,_⟩
 .simp[Value.ownBlock]
 .intro j
  simp only[Value.ownBlock]at j;injection j with j;subst j;exact(show gn w g' e p from C).ne_ u o rfl
theorem FL(h:w.ownsRow base e size v n xs):∀k,v.ownBlock=some k->k<w.heap.size:=λk hk=>(h.lt k hk).2
end
structure gu {α:Type} (f:α->Value) (w:World) (A:Option Addr) (l:List α):Prop where
 ex:0<l.length->∃b o,A=some ⟨b,o,none⟩/\b<w.heap.size/\∀(i:Nat) (a:α),l[i]?=some a->w.cell? ⟨b,o+i,none⟩=some (f a)
theorem gu.Z{α:Type}{f:α->Value}{w w':World}{A:Option Addr}{l:List α}{F:List Nat}(h:gu f w A l)(C:gf F w w')(D:∀ad,A=some ad->ad.block∉F):gu f w' A l:=
 ⟨λh0=>by
  obtain⟨p,E,u,o,j⟩:=h.ex h0;exact⟨p,E,u,Nat.lt_of_lt_of_le o C.size,λi a ha=>(World.cell?_of_block (w:=w) (C.block p o (D _ u))).trans (j i a ha)⟩⟩
theorem gu.Y{α:Type}{f:α->Value}{w w':World}{A:Option Addr}{l:List α}(h:gu f w A l)(j:gf [] w w'):gu f w' A l:=h.Z j (by simp)
structure gB (F F':List Nat) (w w':World):Prop where
 Z:gf F w w'
 new:∀x∈F',x∈F\/w.heap.size<=x
section
variable {F F' F'':List Nat} {a b c w w':World} {g:Nat}
theorem gB.refl(F:List Nat)(w:World):gB F F w w:=⟨zR _ _,λ_ h=>.inl h⟩
theorem gB.trans(h:gB F F' a b)(k:gB F' F'' b c):gB F F'' a c:=
 ⟨h.Z.trans k.Z h.new,λx hx=>by
  rcases k.new x hx with j|j
  .exact h.new x j
  .exact .inr (Nat.le_trans h.Z.size j)⟩
theorem gB.Y(h:gB F F' a b)(k:gf [] b c):gB F F' a c:=
 ⟨h.Z.trans k (by simp),h.new⟩
theorem gB.pre(k:gf [] a b)(h:gB F F' b c):gB F F' a c:=
  ⟨⟨h.Z.os.trans k.os,h.Z.tape.trans k.tape,h.Z.output.trans k.output,Nat.le_trans k.size h.Z.size,λx hx hn=>(h.Z.block x (Nat.lt_of_lt_of_le hx k.size) hn).trans (k.block x hx (by simp))⟩,
   λx hx=>by rcases h.new x hx with j|j;exact .inl j;exact .inr (Nat.le_trans k.size j)⟩
theorem gB.drewN(h:gB F F' a b)(n:Nat):gB F F' a (b.drewN n):=⟨h.Z.drewN n,h.new⟩
theorem gB.drew(h:gB F F' a b):gB F F' a b.drew:=⟨h.Z.drew,h.new⟩
theorem gB.alloc(h:gB F F' a b)(o:Obj):gB F F' a (b.alloc o):=⟨h.Z.alloc o,h.new⟩
theorem gB.setCell(h:gB F F' a b){p:Addr}(j:p.block∈F')(u:Value):gB F F' a (b.setCell p u):=
 ⟨h.Z.setCell (h.new _ j) u,h.new⟩
theorem gB.cons(h:gB F F' a b)(x:Nat):gB (x::F) (x::F') a b:=
 ⟨h.Z.mono λk j _=>by simp[j],λk j=>by
  rcases zJ.1 j with rfl|j
  .exact .inl (by simp)
  .rcases h.new k j with o|o
   .exact .inl (by simp[o])
   .exact .inr o⟩
theorem gB.mono(h:gB F F' a b){G:List Nat}(hF:∀x∈F,x∈G):gB G F' a b:=
 ⟨h.Z.mono λk hk _=>hF k hk,λk hk=>by
  rcases h.new k hk with j|j
  .exact .inl (hF k j)
  .exact .inr j⟩
theorem gB.o(h:gB F F' w w')(p:g<w.heap.size)(o:g∉F):g∉F':=λhm=>by
 rcases h.new g hm with j|j
 .exact o j
 .omega
theorem gB.size(h:gB F F' w w'):w.heap.size<=w'.heap.size:=h.Z.size
theorem gB.fresh(h:gB F F' a b)(hF:∀x∈F,w.heap.size<=x)(k:gf [] w a):gf [] w b:=
 k.trans h.Z λx hx=>.inr (hF x hx)
theorem gB.freshF(h:gB F F' a b)(hF:∀x∈F,w.heap.size<=x)(k:gf [] w a):∀x∈F',w.heap.size<=x:=λx hx=>by
 rcases h.new x hx with j|j
 .exact hF x j
 .exact Nat.le_trans k.size j
end
structure gE (w:World) (e:TypeId) (v:Value) (F:List Nat) (xs:List Value):Prop where
 own:w.ownsRow 0 e 1 v xs.length xs
 fp:F=v.ownBlock.toList
section
variable {w w':World} {e:TypeId} {v:Value} {F G G':List Nat} {xs:List Value}
theorem gE.nil(w:World)(e:TypeId):gE w e (.slice none 0 0) [] []:=⟨World.ownsRow_nil _ 0 _ _,rfl⟩
theorem gE.Z(h:gE w e v F xs)(j:gf G w w')(o:∀x∈F,x∉G):gE w' e v F xs:=
 ⟨Fe h.own j λk hk=>o k (by rw[h.fp,hk];simp),h.fp⟩
theorem gE.Y(h:gE w e v F xs)(j:gf [] w w'):gE w' e v F xs:=h.Z j (by simp)
theorem gE.lt(h:gE w e v F xs):∀x∈F,x<w.heap.size:=λx hx=>by
 rw[h.fp]at hx;exact FL h.own x (by simpa using hx)
theorem gE.ne_(h:gE w e v F xs){g:Nat}{t:TypeId}{cs:Array Value}(o:gn w g t cs)(j:e≠t):g∉F:=λhm=>by
 rw[h.fp]at hm;exact OD h.own o j (by simpa using hm)
theorem gv.S{g:Nat}(h:gv w e v g xs):gE w e v [g] xs:=⟨h.own 0 (zero_le _),by rw[h.own_block];rfl⟩
theorem gE.cases(h:gE w e v F xs):(v=.slice none 0 0/\xs=[]/\F=[])\/∃g,gv w e v g xs/\F=[g]:=by
 obtain⟨J,o⟩:=h.own;rcases o with⟨rfl,j⟩|⟨g,p,u,rfl,o,j,C,D,E,I⟩
 .exact .inl ⟨rfl,eq_nil_of_length_eq_zero j,by rw[h.fp];rfl⟩
 .refine .inr ⟨g,⟨p,u,rfl,j,C,D,by simpa using E,by simpa using I⟩,by rw[h.fp];rfl⟩
theorem gE.open_(h:gE w e v F xs):∃(A:Option Addr) (cap:Nat),v=.slice A xs.length cap/\xs.length<=cap/\cap<=9223372036854775807/\gu (λv=>v) w A xs /\ ∀ad,A=some ad->∃g,ad=⟨g,0,none⟩/\F=[g]/\∀i,w.frozen? ⟨g,i,none⟩=false:=by
 rcases h.cases with⟨rfl,rfl,rfl⟩|⟨g,j,rfl⟩
 .exact⟨none,0,rfl,zQ _,by decide,⟨λh=>by simp at h⟩,λad h=>by cases h⟩
 .have o:=j.lt
  obtain⟨cap,rfl,p,u,C,D⟩:=j.open_;exact⟨some ⟨g,0,none⟩,cap,rfl,p,by simpa[maxLen]using u,⟨λ_=>⟨g,0,rfl,o,λi a ha=>by
   rw[Nat.zero_add,C i (List.getElem?_eq_some_iff.1 ha).1,ha]⟩⟩,λad h=>by
    injection h with h;exact⟨g,h.symm,rfl,D⟩⟩
end
section
variable {w w':World} {e:TypeId} {v:Value} {F G G':List Nat} {xs:List Value}
theorem gE.alloc(h:gE w e v F xs)(o:Obj):gE (w.alloc o) e v F xs:=h.Y ((zR [] w).alloc o)
theorem gE.drewN(h:gE w e v F xs)(n:Nat):gE (w.drewN n) e v F xs:=h.Y ((zR [] w).drewN n)
theorem gE.drew(h:gE w e v F xs):gE w.drew e v F xs:=h.Y (zR [] w).drew
theorem gE.R(h:gE w e v F xs){p:Addr}(o:p.block∉F)(u:Value):gE (w.setCell p u) e v F xs:=
 h.Z ((zR [p.block] w).setCell (by simp) u) (by intro x C j;simp at j;subst j;exact o C)
theorem gE.row(h:gE w e v F xs){g n c:Nat}(o:v=.slice g n c):gv w e v g xs/\F=[g]:=by
 rcases h.cases with⟨rfl,_⟩|⟨g',j,rfl⟩
 .cases o
 .have:=j.own_block
  rw[o]at this;simp only[Value.ownBlock]at this;injection this with this;subst this;exact⟨j,rfl⟩
theorem gE.oq{α:Type}{f:α->Value}{ds:List α}(h:gE w e v F (ds.map f)):∃(A:Option Addr) (cap:Nat),v=.slice A ds.length cap/\ds.length<=cap/\cap<=9223372036854775807/\gu f w A ds:=by
 obtain⟨A,cap,j,p,E,I,_⟩:=h.open_;simp only[zE]at j p;refine⟨A,cap,j,p,E,⟨λh0=>?_⟩⟩;obtain⟨b,o,u,C,D⟩:=I.ex (by simpa using h0);exact⟨b,o,u,C,λi a ha=>D i (f a) (by rw[zW,ha];rfl)⟩
end
theorem gu.map{α β:Type}{f:β->Value}{k:α->β}{w:World}{A:Option Addr}{l:List α}(h:gu f w A (l.map k)):gu (λx=>f (k x)) w A l:=
 ⟨λh0=>by
  obtain⟨b,o,j,p,u⟩:=h.ex (by simpa using h0);exact⟨b,o,j,p,λi a ha=>u i (k a) (by rw[zW,ha];rfl)⟩⟩
theorem gu.drewN{α:Type}{f:α->Value}{w:World}{A:Option Addr}{l:List α}(h:gu f w A l)(n:Nat):gu f (w.drewN n) A l:=h.Z ((zR [] w).drewN n) (by simp)
def gM{α:Type}(A:Option Addr)(l:List α)(F:List Nat):Prop:=0<l.length->∀ad,A=some ad->ad.block∉F
section
variable {α:Type} {f:α->Value} {w w':World} {A:Option Addr} {l:List α} {F F':List Nat}
theorem gu.Q(h:gu f w A l)(a:gM A l F)(C:gf F w w'):gu f w' A l:=
 ⟨λh0=>by
  obtain⟨p,D,u,o,j⟩:=h.ex h0;exact⟨p,D,u,Nat.lt_of_lt_of_le o C.size,λi x hx=>(World.cell?_of_block (w:=w) (C.block p o (a h0 _ u))).trans (j i x hx)⟩⟩
theorem gM.grow(a:gM A l F)(h:gu f w A l)(g:gB F F' w w'):gM A l F':=λh0 ad e=>by
 obtain⟨u,C,j,o,_⟩:=h.ex h0;have p:=a h0 ad e;rw[e]at j;injection j with j;subst j;exact g.o o p
theorem gM.fresh(h:gu f w A l)(hF:∀x∈F,w.heap.size<=x):gM A l F:=λh0 ad e hm=>by
 obtain⟨p,u,j,o,_⟩:=h.ex h0;rw[e]at j;injection j with j;subst j
 have:=hF _ hm
 simp at this;omega
theorem gM.nil(F:List Nat):gM A ([]:List α) F:=λh=>by simp at h
theorem gM.of{β:Type}{l':List β}(a:gM A l F)(h:l'.length<=l.length):gM A l' F:=λh0=>a (by omega)
theorem gM.to{o:Option Addr}{β:Type}{l':List β}(a:gM A l F)(h:l'.length<=l.length)(C:∀ad,o=some ad->∃j,A=some j/\ad.block=j.block):gM o l' F:=λh0 ad e=>by
 obtain⟨j,p,u⟩:=C ad e;rw[u];exact a (by omega) j p
theorem gE.cells{e:TypeId}{n c:Nat}(h:gE w e (.slice A n c) F (l.map f)):gu f w A l:=by
 obtain⟨p,u,j,_,_,o⟩:=h.oq;injection j with j;subst j;exact o
theorem gE.apt{β:Type}{l':List β}{e:TypeId}{n c:Nat}{xs:List Value}(h:gE w e (.slice A n c) F xs)(p:∀x∈F,x∉F'):gM A l' F':=λ_ ad e=>by
 subst e;have C:=h.fp;rcases h.cases with⟨o,_⟩|⟨g,u,rfl⟩
 .cases o
 .obtain⟨cap,j,_⟩:=u.open_
  injection j with j;injection j with j;subst j;exact p _ (by simp)
end
section
variable {P:Program}
theorem Ga{w:World}{o:Oper}{a:Act}{Q:Exit->Act->World->Prop}(N:o.guard=none){s:Operand}{t:TypeId}(X:o.op=.call { callee:=.builtin .append,args:=#[s,x],argTypes:=#[t,t] }){e:TypeId}(E:jA P t e z 1 bytes)(O:z.cells.size=1){v:Value}{F:List Nat}{xs:List Value}(Y:a.eval s=v)(p:gE w e v F xs){ad:Addr}{c:Nat}(news:List Value)(L:a.eval x=.slice (some ad) news.length c)(V:0<news.length)(D:∀j u,news[j]?=some u->w.cell? (ad.add j)=some u)(S:∀u∈news,u.oneCell'=true)(M:xs.length+news.length<=9223372036854775807)(C:(xs.length+news.length)*bytes<=140737488355328)(h:∀g cap w',gv w' e (.slice (some ⟨g,0,none⟩) (xs.length+news.length) cap) g (xs++news)->gB F [g] w w'->wpList P ops Q rest (a.put o.dst (.slice (some ⟨g,0,none⟩) (xs.length+news.length) cap)) w'):wpList P ops Q (o::rest) a w:=by
 refine rW N X E O (by decide) Y p.own L (news:=news) (by simp) V D S M C ?_;intro g' cap w' T R I;obtain⟨Z,U,J⟩:=gv.of_own T rfl;simp only[Value.ownBlock]at J;injection J with J;subst J;rw[<-p.fp]at R;refine h g' cap w' U ⟨R,λx L=>?_⟩;simp at L;subst L;rcases I with I|I
 .left;rw[p.fp,<-I];simp
 .exact .inr I
theorem jT{w:World}{o:Oper}{a:Act}{Q:Exit->Act->World->Prop}(I:o.guard=none){s:Operand}{t:TypeId}(N:o.op=.call { callee:=.builtin .append,args:=#[s,x],argTypes:=#[t,t] }){e:TypeId}(E:jA P t e z 1 bytes)(J:z.cells.size=1){v:Value}{F:List Nat}{xs:List Value}(O:a.eval s=v)(C:gE w e v F xs){c:Nat}(u:Value)(S:a.eval x=.slice B 1 c)(R:w.cell? B=some u)(L:u.oneCell'=true)(p:(xs.length+1)*bytes<=140737488355328)(M:xs.length<9223372036854775807)(h:∀g cap w',gv w' e (.slice (some ⟨g,0,none⟩) (xs.length+1) cap) g (xs++[u])->gB F [g] w w'->wpList P ops Q rest (a.put o.dst (.slice (some ⟨g,0,none⟩) (xs.length+1) cap)) w'):wpList P ops Q (o::rest) a w:=by
 refine Ga I N E J O C [u] S (by simp) ?_ (by simpa using L) (by simp;omega) (by simpa using p) h;intro j T D
 match j,D with
 | 0,D=>simp at D;subst D;simpa[Addr.add]using R
theorem oT{w:World}{o:Oper}{a:Act}{Q:Exit->Act->World->Prop}{E0:Prop}(M:o.guard=none){s:Operand}{t:TypeId}(V:o.op=.call { callee:=.builtin .append,args:=#[s,x],argTypes:=#[t,t] }){e:TypeId}(E:jA P t e z 1 bytes)(N:z.cells.size=1){v:Value}{F:List Nat}{xs:List Value}(X:a.eval s=v)(p:gE w e v F xs){c:Nat}(u:Value)(L:a.eval x=.slice B 1 c)(Y:w.cell? B=some u)(R:u.oneCell'=true)(C:(xs.length+1)*bytes<=140737488355328)(U:xs.length<9223372036854775807)(h:∀g cap w',gv w' e (.slice (some ⟨g,0,none⟩) (xs.length+1) cap) g (xs++[u])->gB F [g] w w'->K (a.put o.dst (.slice (some ⟨g,0,none⟩) (xs.length+1) cap)) w'):if Region.wanted o (yielded ops a.tmps)=true then Oper.wp P o a w K Q else E0:=by
 rw[if_pos (by simp[Region.wanted,M])];refine tU V E N (by decide) X p.own L (news:=[u]) (by simp) (by decide) ?_ (by simpa using R) (by omega) C ?_
 .intro j u' J
  match j,J with
  | 0,J=>simp at J;subst J;simpa[Addr.add]using Y
 .intro g' cap w' S O D
  obtain⟨Z,T,I⟩:=gv.of_own S rfl;simp only[Value.ownBlock]at I;injection I with I;subst I;rw[<-p.fp]at O;refine h g' cap w' T ⟨O,λx L=>?_⟩;simp at L;subst L;rcases D with D|D
  .left;rw[p.fp,<-D];simp
  .exact .inr D
end
def bt(bs:List Nat)(k:Nat):Nat:=bs.getD k 0
def j4(bs:List Nat)(i:Nat):Nat:=
 bt bs (8*i)*128+bt bs (8*i+1)*64+bt bs (8*i+2)*32+bt bs (8*i+3)*16+bt bs (8*i+4)*8+bt bs (8*i+5)*4+bt bs (8*i+6)*2+bt bs (8*i+7)
def iE(bs:List Nat):List Nat:=(range ((bs.length+7) / 8)).map (j4 bs)
theorem mL(bs:List Nat):(iE bs).length=(bs.length+7) / 8:=by simp[iE]
theorem nV{k:Nat}(h:bs.length<=k):bt bs k=0:=by
 unfold bt;rw[zD,getElem?_eq_none h];rfl
theorem EX(bs:List Nat)(b k:Nat):bt (bs++[b]) k=if k<bs.length then bt bs k else if k=bs.length then b else 0:=by
 by_cases h:k<bs.length
 .rw[if_pos h]
  unfold bt;rw[zD,zD,getElem?_append_left h]
 .rw[if_neg h]
  by_cases h2:k=bs.length
  .rw[if_pos h2,h2]
   unfold bt;rw[zD,zS (zQ _)];simp
  .rw[if_neg h2]
   exact nV (by simp;omega)
theorem Bl{b:Nat}(h:8*i+8<=bs.length):j4 (bs++[b]) i=j4 bs i:=by
 unfold j4;simp only[EX];rw[if_pos (by omega),if_pos (by omega),if_pos (by omega),if_pos (by omega),if_pos (by omega),if_pos (by omega),if_pos (by omega),if_pos (by omega)]
theorem Bm{b:Nat}(p:bs.length=8*i+r)(C:r<8):j4 (bs++[b]) i=j4 bs i+b*2^(7-r):=by
 have z:∀j,r<=j->bt bs (8*i+j)=0:=λj hj=>nV (by omega);have s:∀j,bt (bs++[b]) (8*i+j)=if j<r then bt bs (8*i+j)else if j=r then b else 0:=λj=>by
  rw[EX,p];by_cases h1:j<r
  .rw[if_pos h1,if_pos (by omega)]
  .rw[if_neg h1,if_neg (by omega)]
   by_cases h2:j=r
   .rw[if_pos h2,if_pos (by omega)]
   .rw[if_neg h2,if_neg (by omega)]
 have o:=s 0;have u:=z 0;simp only[Nat.add_zero]at o u;unfold j4;rw[o,s 1,s 2,s 3,s 4,s 5,s 6,s 7];have D:=z 1;have E:=z 2;have I:=z 3;have J:=z 4;have L:=z 5;have M:=z 6;have N:=z 7;clear o s z p;obtain rfl|rfl|rfl|rfl|rfl|rfl|rfl|rfl:r=0\/r=1\/r=2\/r=3\/r=4\/r=5\/r=6\/r=7:=by omega
 all_goals
  simp at *;omega
theorem BY(o:bs.length=8*i+r)(u:r<8):j4 bs i%2^(8-r)=0:=by
 have z:∀j,r<=j->bt bs (8*i+j)=0:=λj hj=>nV (by omega);have p:=z 0;simp only[Nat.add_zero]at p;have C:=z 1;have D:=z 2;have E:=z 3;have I:=z 4;have J:=z 5;have L:=z 6;have M:=z 7;unfold j4;clear z o;obtain rfl|rfl|rfl|rfl|rfl|rfl|rfl|rfl:r=0\/r=1\/r=2\/r=3\/r=4\/r=5\/r=6\/r=7:=by omega
 all_goals
  simp at *;omega
theorem xS(h:∀b∈bs,b<2)(i:Nat):j4 bs i<256:=by
 have s:∀k,bt bs k<=1:=λk=>by
  unfold bt;rw[zD]
  cases e:bs[k]? with
  | none=>simp
  | some v=>have := h v (mem_of_getElem? e);simp;omega
 unfold j4
 have:=s (8*i)
 have:=s (8*i+1)
 have:=s (8*i+2)
 have:=s (8*i+3)
 have:=s (8*i+4)
 have:=s (8*i+5)
 have:=s (8*i+6)
 have:=s (8*i+7)
 omega
theorem Cn{b:Nat}(h:bs.length%8=0):iE (bs++[b])=iE bs++[b*128]:=by
 obtain⟨i,hi⟩:∃i,bs.length=8*i+0:=⟨bs.length / 8,by omega⟩;unfold iE;have j:((bs++[b]).length+7) / 8=i+1:=by simp;omega
 have o:(bs.length+7) / 8=i:=by omega
 rw[j,o,range_succ,zM]
 congr 1
 .refine map_congr_left λk hk=>Bl ?_
  have:=List.mem_range.1 hk
  omega
 .have u:=BY hi (by omega)
  have p:j4 bs i=0:=by
   unfold j4;rw[nV (by omega),nV (by omega),nV (by omega),nV (by omega),nV (by omega),nV (by omega),nV (by omega),nV (by omega)]
  simp[Bm hi (by omega),p]
theorem De{b:Nat}(h:bs.length%8≠0):iE (bs++[b])=(iE bs).set (bs.length / 8) (j4 bs (bs.length / 8)+b*2^(7-bs.length%8)):=by
 have u:bs.length=8*(bs.length / 8)+bs.length%8:=by omega
 have j:((bs++[b]).length+7) / 8=bs.length / 8+1:=by simp;omega
 have o:(bs.length+7) / 8=bs.length / 8+1:=by omega
 have p:=Bm (b:=b) u (by omega);unfold iE;rw[j,o,range_succ,zM,zM,set_append_right _ _ (by simp)]
 congr 1
 .refine map_congr_left λk hk=>Bl ?_
  have:=List.mem_range.1 hk
  omega
 .simp[p]
theorem OC{x k:Nat}(h:x%2^k=0)(j:y<2^k):x ||| y=x+y:=by
 obtain⟨q,rfl⟩:=dvd_of_mod_eq_zero h;exact(two_pow_add_eq_or_of_lt j q).symm
theorem FK{b:Nat}(j:bs.length=8*i+r)(o:r<8)(u:b<2):j4 bs i ||| (b*2^(7-r))=j4 bs i+b*2^(7-r):=by
 refine OC (BY j o) ?_;have e:8-r=(7-r)+1:=by omega
 have C:0<2^(7-r):=Nat.two_pow_pos _;rw[e,Nat.pow_succ];generalize 2^(7-r)=p at *;obtain rfl|rfl:b=0\/b=1:=by omega
 all_goals omega
def gA(v:Nat):Nat->List Nat
 | 0=>[]
 | n+1=>(v / 2^n%2)::gA v n
theorem gJ(v:Nat):∀n,(gA v n).length=n
 | 0=>rfl
 | n+1=>by rw[gA,zK,gJ v n]
def iw(v:Int)(d:Nat):Int:=v%2^d
def ii(v:Int)(d:Nat):Int:=if 2^(d-1)<=iw v d then iw v d-2^d else iw v d
theorem jZ(d:Nat):(0:Int)<2^d:=Int.pow_pos (by decide)
theorem pE(j:1<=d):(2:Int)^d=2*2^(d-1):=by
 obtain⟨e,rfl⟩:∃e,d=e+1:=⟨d-1,by omega⟩;rw[Nat.add_sub_cancel,Int.pow_succ];omega
theorem tg(v:Int)(d:Nat):0<=iw v d:=Int.emod_nonneg _ (by have:=jZ d;omega)
theorem rt(v:Int)(d:Nat):iw v d<2^d:=Int.emod_lt_of_pos _ (jZ d)
theorem tf{v:Int}(j:0<=v)(o:v<2^d):iw v d=v:=Int.emod_eq_of_lt j o
theorem ny(v:Int)(j:1<=d):-2^(d-1)<=ii v d/\ii v d<2^(d-1):=by
 have o:=tg v d;have C:=rt v d;have D:=pE j;unfold ii;generalize iw v d=u at *;generalize (2:Int)^(d-1)=p at *;generalize (2:Int)^d=q at *;split<;>omega
theorem Ml{v:Int}(j:1<=d)(o : -2^(d-1)<=v)(p:v<2^(d-1)):ii v d=v:=by
 have u:=pE j;by_cases hv:0<=v
 .unfold ii
  rw[tf hv (by omega),if_neg (by omega)]
 .have e:iw v d=v+2^d:=by
   unfold iw;rw[<-Int.add_emod_right];exact Int.emod_eq_of_lt (by omega) (by omega)
  unfold ii;rw[e,if_pos (by omega)];omega
theorem Aq(a b:Int)(d:Nat):iw (a+iw b d) d=iw (a+b) d:=by
 unfold iw;rw[Int.add_emod,Int.emod_emod,<-Int.add_emod]
theorem J1(b:Int)(d:Nat):iw (iw b d) d=iw b d:=by
 unfold iw;rw[Int.emod_emod]
def jt(x:Int):Nat:=if 0<=x then(2*x).toNat else(-2*x-1).toNat
def la(u:Nat):Int:=if u%2=0 then(u / 2:Nat)else -((u / 2:Nat):Int)-1
def ib(x:Int):Prop:=-1073741824<=x/\x<1073741824
theorem sW{x:Int}(h:ib x):jt x<2147483648:=by
 unfold ib at h;unfold jt;split<;>omega
def mV(k:Nat)(x:Int):Nat:=if jt x / 2^k<32 then jt x / 2^k+1+k else 65
def jm(k:Nat)(x:Int):List Nat:=
 if jt x / 2^k<32 then replicate (jt x / 2^k) 0++1::gA (jt x%2^k) k
 else replicate 32 0++1::gA (jt x) 32
theorem nz(k:Nat)(x:Int):(jm k x).length=mV k x:=by
 unfold jm mV;split
 .simp[gJ];omega
 .simp[gJ]
theorem mO(k:Nat)(x:Int)(j:k<=25):mV k x<=65:=by unfold mV;split<;>omega
def iR(k:Nat)(l:List Int):Nat:=(l.map (mV k)).sum
def kt(k:Nat)(l:List Int):List Nat:=l.flatMap (jm k)
theorem Hg(k:Nat)(l:List Int):(kt k l).length=iR k l:=by
 induction l with
 | nil=>rfl
 | cons x l ih=>simp only[kt,iR,flatMap_cons,zC,map_cons,sum_cons,nz]at *;omega
theorem zf(k:Nat)(l:List Int)(j:k<=25):iR k l<=65*l.length:=by
 induction l with
 | nil=>simp[iR]
 | cons x l ih=>have := mO k x j;simp only[iR,map_cons,sum_cons,zK]at *;omega
def ls(l:List Int):Nat->Nat
 | 0=>0
 | n+1=>if iR (n+1) l<iR (ls l n) l then n+1 else ls l n
def jS(l:List Int):Nat:=ls l 25
theorem vW(l:List Int):∀n,ls l n<=n
 | 0=>zQ _
 | n+1=>by
  have:=vW l n
  unfold ls;split<;>omega
theorem qv(l:List Int):jS l<=25:=vW l 25
def gU(d:Nat)(l:List Int):Prop:=∀s∈l,0<=s/\s<2^d
structure ll where
 w:Int
 n:Int
 nw:Int
 ne:Int
def ij(l:List Int)(w x y:Nat):ll:=
  if y=0 then(if x=0 then⟨0,0,0,0⟩else⟨l.getD (y*w+x-1) 0,l.getD (y*w+x-1) 0,l.getD (y*w+x-1) 0,l.getD (y*w+x-1) 0⟩)
  else ⟨if 0 < x then l.getD (y * w + x - 1) 0 else l.getD (y * w + x - w) 0, l.getD (y * w + x - w) 0,
        if 0<x then l.getD (y*w+x-w-1) 0 else l.getD (y*w+x-w) 0,if x<w-1 then l.getD (y*w+x-w+1) 0 else l.getD (y*w+x-w) 0⟩
theorem Ci{w:Nat}(j:y≠0):w<=y*w:=Nat.le_mul_of_pos_left w (by omega)
structure oI (d:Nat) (g:ll):Prop where
 w:0<=g.w/\g.w<2^d
 n:0<=g.n/\g.n<2^d
 nw:0<=g.nw/\g.nw<2^d
 ne:0<=g.ne/\g.ne<2^d
theorem nS{l:List Int}(h:gU d l)(i:Nat):0<=l.getD i 0/\l.getD i 0<2^d:=by
 have j:=jZ d;rw[zD]
 cases e:l[i]? with
 | none=>simp[j]
 | some v=>exact h v (mem_of_getElem? e)
theorem pf{l:List Int}(h:gU d l)(w x y:Nat):oI d (ij l w x y):=by
 have j:=jZ d;unfold ij;split
 .split
  .exact⟨⟨Int.le_refl _,j⟩,⟨Int.le_refl _,j⟩,⟨Int.le_refl _,j⟩,⟨Int.le_refl _,j⟩⟩
  .exact⟨nS h _,nS h _,nS h _,nS h _⟩
 .refine⟨?_,nS h _,?_,?_⟩
  all_goals
   simp only;split
   all_goals exact nS h _
def iA(a b:Int):Int:=if a<b then b-a else a-b
def pL(t a b c:Int):Int:=
 if iA c t<iA (if iA b t<iA a t then b else a) t then c else if iA b t<iA a t then b else a
def jL(kind:Nat)(g:ll)(d:Nat):Int:=
 match kind with
 | 1=>g.w
 | 2=>g.n
 | 3=>g.nw
 | 4=>g.ne
 | 5=>(g.w+g.n) / 2
 | 6=>pL (g.w+g.n-g.nw) g.w g.n g.nw
 | 7=>max (min g.w g.n) (min (max g.w g.n) (g.w+g.n-g.nw))
 | 8=>min (max (g.w+g.n-g.nw) 0) (2^d-1)
 | 9=>(g.w+g.n+g.nw+g.ne+2) / 4
 | _=>0
theorem sJ{g:ll}(h:oI d g)(j:Nat):0<=jL j g d/\jL j g d<2^d:=by
  obtain⟨⟨o,u⟩,⟨C,D⟩,⟨c1,c2⟩,⟨E,I⟩⟩:=h;have J:=jZ d;unfold jL pL;generalize (2:Int)^d=p at *;split
  all_goals first
    | omega
    | (split
       · omega
       · split<;>omega)
theorem CI(v:Int)(hi:i<=62):bits .and .i64 v (2^i-1)=v%2^i:=by
 have p:0<2^i:=Nat.two_pow_pos i;have N:2^i<=2^62:=Nat.pow_le_pow_right (by decide) hi;have L:((2:Int)^i-1)=((2^i-1:Nat):Int):=by rw[Int.natCast_sub p];simp
 have o:((2:Int)^i)∣2^64:=by
  obtain⟨j,M⟩:∃j,64=i+j:=⟨64-i,by omega⟩;rw[M,Int.pow_add];exact Int.dvd_mul_right _ _
 have J:0<=v%2^64:=Int.emod_nonneg _ (by decide);have u:(BitVec.ofInt 64 v).toNat=(v%2^64).toNat:=by simp[BitVec.toNat_ofInt]
 have C:(BitVec.ofInt 64 ((2^i-1:Nat):Int)).toNat=2^i-1:=by
  rw[BitVec.ofInt_natCast,BitVec.toNat_ofNat];exact mod_eq_of_lt (by omega)
 have D:(BitVec.ofInt 64 v &&& BitVec.ofInt 64 ((2^i-1:Nat):Int)).toNat=(v%2^64).toNat%2^i:=by
  rw[BitVec.toNat_and,u,C,and_two_pow_sub_one_eq_mod]
 have E:(((v%2^64).toNat%2^i:Nat):Int)=v%2^i:=by
  rw[Int.natCast_emod,Int.toNat_of_nonneg J];simp only[Int.natCast_pow];exact Int.emod_emod_of_dvd v o
 have I:bits .and .i64 v ((2^i-1:Nat):Int)=IntKind.i64.wrap (((BitVec.ofInt 64 v &&& BitVec.ofInt 64 ((2^i-1:Nat):Int)).toNat:Nat):Int):=rfl;rw[L,I,D,E];exact IntWalk.i64_in _ (by omega)
theorem Bk{v:Int}(j:0<=v)(o:v<18446744073709551616)(hi:i<=64):bits .and .u64 v (2^i-1)=v%2^i:=
 bits_mask .u64 64 (by decide) (λn a b=>IntWalk.u64_in _ (by omega)) i hi v j (by omega)
theorem zo{x:Nat}(j:x<256)(o:y<256):bits .or .u8 (x:Int) (y:Int)=((x ||| y:Nat):Int):=
 (bits_nat .u8 8 (by decide) wraps_u8 x y j o).2
theorem Hx{v b:Nat}(o:v<9223372036854775808)(j:b<2):bits .or .u64 ((2*v:Nat):Int) (b:Int)=((2*v+b:Nat):Int):=by
 rw[bits_join .u64 64 (by decide) (λn a b=>IntWalk.u64_in _ (by omega)) 1 _ _ (by omega) (by omega) (by omega) (by omega) (by omega) (by omega)];omega
theorem Ht{v:Nat}(j:v<256):bits .and .u8 (v:Int) 1=((v%2:Nat):Int):=by
 have:=bits_mask .u8 8 (by decide) wraps_u8 1 (by decide) (v:Int) (by omega) (by omega)
 simpa using this
theorem AF{v:Nat}(j:v<18446744073709551616):bits .and .u64 (v:Int) 1=((v%2:Nat):Int):=by
 have:=bits_mask .u64 64 (by decide) (λn a b=>IntWalk.u64_in _ (by omega)) 1 (by decide) (v:Int) (by omega) (by omega)
 simpa using this
section
variable {P:Program}
theorem F0{w:World}{t e:TypeId}(E:jA P t e z 1 bytes){v:Value}{F:List Nat}{xs:List Value}(j:gE w e v F xs)(c:Nat):(Builtin.append_ #[t,t] ty #[v,.slice none 0 c]).run P w=.ok v w:=by
 obtain⟨i,hi,I,p,C⟩:=E.hi;rcases j.own.2 with⟨rfl,D⟩|⟨g,u,ad,rfl,_,_,o,_⟩
 .simp[Builtin.append_,run_underlying E.ht,sizeOf,typeInfo,hi,Builtin.lenOf,Builtin.firstCells]
 .simp[Builtin.append_,run_underlying E.ht,sizeOf,typeInfo,hi,Builtin.lenOf,Builtin.firstCells,o,storeCells]
theorem A0{w:World}{t e:TypeId}(E:jA P t e z 1 bytes)(M:z.cells.size=1){v:Value}{F:List Nat}{xs:List Value}(p:gE w e v F xs){A:Option Addr}{c:Nat}(news:List Value)(N:gu (λu=>u) w A news)(S:∀u∈news,u.oneCell'=true)(L:xs.length+news.length<=9223372036854775807)(C:(xs.length+news.length)*bytes<=140737488355328):∃J F' w',(Builtin.append_ #[t,t] ty #[v,.slice A news.length c]).run P w=.ok J w'/\gE w' e J F' (xs++news)/\gB F F' w w':=by
 rcases A with _|ad
 .have D:news=[]:=by
   rcases eq_zero_or_pos news.length with D|D
   .exact eq_nil_of_length_eq_zero D
   .obtain⟨_,_,h,_⟩:=N.ex D
    cases h
  subst D;exact⟨v,F,w,F0 E p c,by simpa using p,gB.refl _ _⟩
 .have O:∀j u,news[j]?=some u->w.cell? (ad.add j)=some u:=λj u hj=>by
   obtain⟨b,o,e,hb,V⟩:=N.ex (by have:=(List.getElem?_eq_some_iff.1 hj).1;omega);injection e with e;subst e;rw[<-V j u hj];unfold Addr.add;split
   .rename_i h;subst h;rfl
   .rfl
  obtain⟨i,hi,Z,Q,R⟩:=E.hi;obtain⟨J,w',Y,T,U,h4,I⟩:=run_append_own_at (P:=P) w 0 t ty e i z 1 bytes E.ht hi Z Q R M (by decide) v xs.length xs p.own ad news.length c news (by simp) O S (by simpa[maxLen]using L) C (zero_le _);refine⟨J,J.ownBlock.toList,w',Y,⟨by simpa using T,rfl⟩,?_,λx hx=>?_⟩
  .rw[p.fp]
   exact gf.of_grown U (by intro k X;left;simp[X])
  .rcases I with I|I
   .left;rw[p.fp,<-I];exact hx
   .right;rw[I]at hx;simp at hx;omega
theorem na{w:World}{o:Oper}{a:Act}{Q:Exit->Act->World->Prop}(I:o.guard=none){s:Operand}{t:TypeId}(T:o.op=.call { callee:=.builtin .append,args:=#[s,x],argTypes:=#[t,t] }){e:TypeId}(E:jA P t e z 1 bytes)(L:z.cells.size=1){v:Value}{F:List Nat}{xs:List Value}(U:a.eval s=v)(p:gE w e v F xs){A:Option Addr}{c:Nat}(news:List Value)(n:Nat)(V:a.eval x=.slice A n c)(J:n=news.length)(S:gu (λu=>u) w A news)(N:∀u∈news,u.oneCell'=true)(D:xs.length+news.length<=9223372036854775807)(j:(xs.length+news.length)*bytes<=140737488355328)(h:∀C F' w',gE w' e C F' (xs++news)->gB F F' w w'->wpList P ops Q rest (a.put o.dst C) w'):wpList P ops Q (o::rest) a w:=by
 subst J;refine wpList_plain I λK hK=>?_;obtain⟨C,F',w',M,O,R⟩:=A0 (P:=P) (ty:=o.type) E L p (c:=c) news S N D j;unfold Oper.wp execOp;simp only[T,resolve,invoke,builtin,Sem.run_bind,Sem.run_pure,Result.andThen_ok,map_toArray,map_cons,map_nil,U,V,M];exact hK _ _ (h C F' w' O R)
end
theorem uS{P:Program}{t e:TypeId}(j:P.underlying t=some (.slice e)):P.elem t=e:=by simp[Program.elem,j]
theorem sC{P:Program}{t e:TypeId}(u:P.underlying t=some (.slice e))(J:∀w,(sizeOf e).run P w=.ok 1 w)(A:Option Addr)(n c lo:Nat)(h:lo<=n)(I:n<=c):∃A',(∀w,(Instr.slice t (.slice A n c) (some (.int .i64 lo)) none none).run P w=.ok (.slice A' (n-lo) (c-lo)) w) /\ (∀ad,A'=some ad->∃ad0,A=some ad0/\ad.block=ad0.block) /\ ∀(α:Type) (f:α->Value) (w:World) (l:List α),l.length=n->gu f w A l->gu f w A' (l.drop lo):=by
 have p:=uS u;refine⟨if c=lo then A else A.map (·.add (lo*1)),λw=>?_,?_,?_⟩
 .rw[run_slice_l (P:=P) (w:=w) t A n c (by rw[p];exact u) .i64 (lo:Int) (by omega) (by omega),p,J]
  simp[sliced]
 .intro ad j
  split at j
  .exact⟨ad,j,rfl⟩
  .cases A with
   | none=>simp at j
   | some ad0=>
    simp at j;subst j;refine⟨ad0,rfl,?_⟩;unfold Addr.add;split<;>rfl
 .intro α f w l L E
  refine⟨λh0=>?_⟩;rw[zO]at h0;obtain⟨b,o,rfl,D,C⟩:=E.ex (by omega);rw[if_neg (by omega)];refine⟨b,o+lo,?_,D,λi a ha=>?_⟩
  .simp only[Option.map_some,Addr.add,Nat.mul_one]
   split
   .rename_i h;subst h;rfl
   .rfl
  .rw[getElem?_drop]at ha
   have:=C (lo+i) a ha
   rwa [<-Nat.add_assoc]at this
theorem gu.take{α:Type}{f:α->Value}{w:World}{A:Option Addr}{l:List α}(h:gu f w A l)(n:Nat):gu f w A (l.take n):=
 ⟨λh0=>by
  rw[zI]at h0;obtain⟨b,o,e,j,p⟩:=h.ex (by omega);refine⟨b,o,e,j,λi a ha=>p i a ?_⟩;rw[getElem?_take]at ha;split at ha
  .exact ha
  .cases ha⟩
def ph(l:List Int)(W d kind y x:Nat):Int:=iw (l.getD (y*W+x) 0-jL kind (ij l W x y) d) d
def jY(l:List Int)(W y d kind:Nat):List Int:=(range W).map (ph l W d kind y)
theorem rq(l:List Int)(W y d j:Nat):(jY l W y d j).length=W:=by simp[jY]
def nD(d:Nat)(v:Int):Int:=iA (ii v d) 0
theorem xr(h:1<=d)(u:d<=16)(v:Int):0<=nD d v/\nD d v<=32768:=by
 obtain⟨j,o⟩:=ny v h;have p:(2:Int)^(d-1)<=2^15:=by
  have:=Nat.pow_le_pow_right (n:=2) (by decide) (show d-1<=15 by omega)
  exact_mod_cast this
 unfold nD iA;split<;>omega
def ji(l:List Int)(d:Nat):Int:=(l.map (nD d)).sum
theorem Bf(l:List Int)(x:Int)(d:Nat):ji (l++[x]) d=ji l d+nD d x:=by simp[ji]
theorem CF(h:1<=d)(j:d<=16)(l:List Int):0<=ji l d/\ji l d<=32768*l.length:=by
 induction l with
 | nil=>simp[ji]
 | cons x l ih=>
  have:=xr h j x
  have e:ji (x::l) d=nD d x+ji l d:=by simp[ji]
  rw[e,zK];omega
def mo(l:List Int)(W y d:Nat):Nat->Nat
 | 0=>0
 | n+1=>if ji (jY l W y d (n+1)) d<ji (jY l W y d (mo l W y d n)) d then n+1 else mo l W y d n
theorem xP(l:List Int)(W y d:Nat):∀n,mo l W y d n<=n
 | 0=>zQ _
 | n+1=>by
  have:=xP l W y d n
  unfold mo;split<;>omega
def lm(l:List Int)(W H d:Nat):List Nat:=(range H).map (λy=>mo l W y d 9)
theorem tN(l:List Int)(W H d:Nat):(lm l W H d).length=H:=by simp[lm]
theorem vK(l:List Int)(W H d:Nat):∀k∈lm l W H d,k<10:=by
 intro k j;obtain⟨y,_,rfl⟩:=List.mem_map.1 j
 have:=xP l W y d 9
 omega
def kN(l:List Int)(W H d:Nat)(ks:List Nat):List Int:=(range H).flatMap (λy=>jY l W y d (ks.getD y 0))
theorem Ac{α β:Type}(f:α->List β)(n:Nat)(l:List α)(h:∀a∈l,(f a).length=n):(l.flatMap f).length=n*l.length:=by
 induction l with
 | nil=>simp
 | cons a l ih=>
  rw[flatMap_cons,zC,h a (by simp),ih λb hb=>h b (by simp[hb]),zK,Nat.mul_add];omega
theorem sH(l:List Int)(W H d:Nat)(ks:List Nat):(kN l W H d ks).length=W*H:=by
 unfold kN;rw[Ac _ W _ λy _=>rq _ _ _ _ _,length_range]
def jI(done:List Int)(n:Nat):List Int:=done++replicate (n-done.length) 0
theorem xY{n:Nat}(h:done.length<=n):(jI done n).length=n:=by simp[jI];omega
theorem CT{n:Nat}(h:done.length<n)(v:Int):(jI done n).set done.length v=jI (done++[v]) n:=by
 unfold jI;obtain⟨k,o⟩:∃k,n-done.length=k+1:=⟨n-done.length-1,by omega⟩;have j:n-(done++[v]).length=k:=by simp;omega
 rw[o,j,set_append_right _ _ (zQ _),Nat.sub_self];simp[replicate_succ]
theorem sq{n:Nat}(h:done.length=n):jI done n=done:=by simp[jI,h]
theorem xZ(n:Nat):jI [] n=replicate n 0:=by simp[jI]
def zr:Nat->List Nat->Nat
 | 0,_=>0
 | _+1,[]=>0
 | m+1,x::l=>if x=0 then zr m l+1 else 0
theorem FT(m:Nat):∀l,zr m l<=m:=by
 induction m with
 | zero=>intro l;simp[zr]
 | succ m ih=>
  intro l
  cases l with
  | nil=>simp[zr]
  | cons x l=>
   unfold zr;split
   .have:=ih l;omega
   .omega
theorem zz(m:Nat):∀l,zr m l<=l.length:=by
 induction m with
 | zero=>intro l;simp[zr]
 | succ m ih=>
  intro l
  cases l with
  | nil=>simp[zr]
  | cons x l=>
   unfold zr;split
   .have:=ih l;simp;omega
   .simp
theorem Fw(m:Nat):∀(l:List Nat) (z:Nat),z<zr m l->l.getD z 0=0:=by
 induction m with
 | zero=>intro l z h;simp[zr]at h
 | succ m ih=>
  intro l z h
  cases l with
  | nil=>simp
  | cons x l=>
   unfold zr at h;split at h
   .rename_i hx
    cases z with
    | zero=>simpa using hx
    | succ z=>
     have:=ih l z (by omega)
     simpa using this
   .omega
theorem Fv(m:Nat):∀(l:List Nat),zr m l=m\/zr m l=l.length\/l.getD (zr m l) 0≠0:=by
 induction m with
 | zero=>intro l;left;simp[zr]
 | succ m ih=>
  intro l
  cases l with
  | nil=>right;left;simp[zr]
  | cons x l=>
   unfold zr;split
   .rcases ih l with h|h|h
    .left;omega
    .right;left;simp;omega
    .right;right;simpa using h
   .rename_i hx
    right;right;simpa using hx
def mh:Nat->List Nat->List Nat
 | 0,_=>[]
 | _+1,[]=>[]
 | f+1,x::l=>
  if zr 66 (x::l)<3 then gA x 5++mh f l else gA 31 5++(gA (zr 66 (x::l)-3) 6++mh f ((x::l).drop (zr 66 (x::l))))
def oX(lens:List Nat):List Nat:=gA (lens.length-1) 10++mh lens.length lens
theorem up:∀(f g:Nat) (l:List Nat),l.length<=f->l.length<=g->mh f l=mh g l
 | 0,g,l,h,_=>by
  obtain rfl:l=[]:=eq_nil_of_length_eq_zero (by omega);cases g<;>rfl
 | f+1,0,l,_,h=>by
  obtain rfl:l=[]:=eq_nil_of_length_eq_zero (by omega);rfl
 | f+1,g+1,[],_,_=>rfl
 | f+1,g+1,x::l,h1,h2=>by
  simp only[zK]at h1 h2;unfold mh;split
  .rw[up f g l (by omega) (by omega)]
  .rw[up f g _ (by rw[zO,zK];omega) (by rw[zO,zK];omega)]
theorem CK(f x:Nat)(l:List Nat):mh (f+1) (x::l) = if zr 66 (x::l)<3 then gA x 5++mh f l else gA 31 5++(gA (zr 66 (x::l)-3) 6++mh f ((x::l).drop (zr 66 (x::l)))):=rfl
def nh(lens:List Nat)(i:Nat):List Nat:=mh lens.length (lens.drop i)
theorem AI(lens:List Nat):nh lens lens.length=[]:=by
 unfold nh;rw[drop_length];cases lens.length<;>rfl
theorem AJ(hi:i<lens.length)(j:zr 66 (lens.drop i)<3):nh lens i=gA (gI lens i) 5++nh lens (i+1):=by
 unfold nh;have e:lens.drop i=lens[i]::lens.drop (i+1):=drop_eq_getElem_cons hi;rw[e]at j⊢;obtain⟨f,o⟩:∃f,lens.length=f+1:=⟨lens.length-1,by omega⟩;have p:gI lens i=lens[i]:=by unfold gI;rw[zD,zF hi];rfl
 rw[p];rw[o,CK,if_pos j,up f (f+1) _ (by rw[zO];omega) (by rw[zO];omega)]
theorem As(hi:i<lens.length)(j:¬zr 66 (lens.drop i)<3):nh lens i=gA 31 5++(gA (zr 66 (lens.drop i)-3) 6++nh lens (i+zr 66 (lens.drop i))):=by
 unfold nh;have e:lens.drop i=lens[i]::lens.drop (i+1):=drop_eq_getElem_cons hi;have o:lens.drop (i+zr 66 (lens.drop i))=(lens.drop i).drop (zr 66 (lens.drop i)):=by rw[drop_drop]
 rw[o];rw[e]at j⊢;obtain⟨f,p⟩:∃f,lens.length=f+1:=⟨lens.length-1,by omega⟩;rw[p,CK,if_neg j,up f (f+1) _ (by rw[zO,zK,zO];omega) (by rw[zO,zK,zO];omega)]
theorem Ba(lens:List Nat):oX lens=gA (lens.length-1) 10++nh lens 0:=rfl
theorem yn:∀(f:Nat) (l:List Nat),(mh f l).length<=11*l.length
 | 0,l=>by simp[mh]
 | f+1,[]=>by simp[mh]
 | f+1,x::l=>by
  unfold mh;split
  .have:=yn f l
   rw[zC,gJ,zK];omega
  .have:=yn f ((x::l).drop (zr 66 (x::l)))
   rw[zC,zC,gJ,gJ];rw[zO]at this
   have:=zz 66 (x::l)
   omega
theorem AA(lens:List Nat):(oX lens).length<=10+11*lens.length:=by
 unfold oX
 have:=yn lens.length lens
 rw[zC,gJ];omega
def uZ(lens:List Nat)(s:Nat):List Nat:=gA (nj lens s) (gI lens s)
def nC(lens:List Nat)(l:List Nat):List Nat:=l.flatMap (uZ lens)
theorem Az(lens l:List Nat)(s:Nat):nC lens (l++[s])=nC lens l++uZ lens s:=by simp[nC]
structure ic (w:World) (e:TypeId) (k:Nat) (v:Value) (F:List Nat) (n:Nat) (xs:List Value):Prop where
 own:w.ownsRow 0 e k v n xs
 fp:F=v.ownBlock.toList
section
variable {w w':World} {e:TypeId} {k n:Nat} {v:Value} {F G:List Nat} {xs:List Value}
theorem ic.nil(w:World)(e:TypeId)(k:Nat):ic w e k (.slice none 0 0) [] 0 []:=⟨World.ownsRow_nil _ 0 _ _,rfl⟩
theorem ic.Z(h:ic w e k v F n xs)(j:gf G w w')(o:∀x∈F,x∉G):ic w' e k v F n xs:=
 ⟨Fe h.own j λy hy=>o y (by rw[h.fp,hy];simp),h.fp⟩
theorem ic.Y(h:ic w e k v F n xs)(j:gf [] w w'):ic w' e k v F n xs:=h.Z j (by simp)
theorem ic.lt(h:ic w e k v F n xs):∀x∈F,x<w.heap.size:=λx hx=>by
 rw[h.fp]at hx;exact FL h.own x (by simpa using hx)
theorem ic.open_(h:ic w e k v F n xs):∃(A:Option Addr) (cap:Nat),v=.slice A n cap/\n<=cap/\cap<=9223372036854775807/\gu (λv=>v) w A xs /\ ∀ad,A=some ad->∃g,ad=⟨g,0,none⟩/\F=[g]/\∀i,w.frozen? ⟨g,i,none⟩=false:=by
 obtain⟨⟨E,C⟩,u⟩:=h;rcases C with⟨rfl,rfl⟩|⟨g,cap,cur,rfl,_,D,I,o,J,p⟩
 .exact⟨none,0,rfl,zQ _,by decide,⟨λh=>by rw[E]at h;simp at h⟩,λad h=>by cases h⟩
 .have j:gn w g e cur:=D
  refine⟨some ⟨g,0,none⟩,cap,rfl,I,by simpa[maxLen]using o,⟨λ_=>⟨g,0,rfl,j.lt,λi a ha=>?_⟩⟩,λad h=>?_⟩
  .rw[Nat.zero_add,j.X]
   have hi:i<xs.length:=(List.getElem?_eq_some_iff.1 ha).1;rw[<-p,getElem?_take,if_pos (by omega)]at ha
   simpa using ha
  .injection h with h
   exact⟨g,h.symm,u,j.V⟩
theorem ic.shape(h:ic w e k v F n xs):∃A cap,v=.slice A n cap:=by
 obtain⟨A,cap,j,_⟩:=h.open_;exact⟨A,cap,j⟩
end
section
variable {P:Program}
theorem ou{w:World}{o:Oper}{a:Act}{Q:Exit->Act->World->Prop}(L:o.guard=none){s:Operand}{t:TypeId}(U:o.op=.call { callee:=.builtin .append,args:=#[s,x],argTypes:=#[t,t] }){e:TypeId}{k:Nat}(E:jA P t e z k bytes)(M:z.cells.size=k)(T:0<k){v:Value}{F:List Nat}{n:Nat}{xs:List Value}(V:a.eval s=v)(p:ic w e k v F n xs){ad:Addr}{c:Nat}(news:List Value)(J:a.eval x=.slice (some ad) 1 c)(X:news.length=k)(D:∀j u,news[j]?=some u->w.cell? (ad.add j)=some u)(O:∀u∈news,u.oneCell'=true)(S:n<9223372036854775807)(C:(n+1)*bytes<=140737488355328)(h:∀g cap w',ic w' e k (.slice (some ⟨g,0,none⟩) (n+1) cap) [g] (n+1) (xs++news)->gB F [g] w w'->wpList P ops Q rest (a.put o.dst (.slice (some ⟨g,0,none⟩) (n+1) cap)) w'):wpList P ops Q (o::rest) a w:=by
 refine rW L U E M T V p.own J (news:=news) (by omega) (by decide) D O (by omega) C ?_;intro g' cap w' R N I;rw[<-p.fp]at N;refine h g' cap w' ⟨R,rfl⟩ ⟨N,λx J=>?_⟩;simp at J;subst J;rcases I with I|I
 .left;rw[p.fp,<-I];simp
 .exact .inr I
end
def gX(x:Int):Int:=if x<0 then -x else x
def li(u:Int):Int:=if u<3 then 1 else if u<7 then 2 else if u<21 then 3 else 4
def iu(g:Int)(d:Nat):Int:=if g=0 then 0 else if g<0 then -li (gX g*256 / 2^d)else li (gX g*256 / 2^d)
theorem Nh(u:Int):1<=li u/\li u<=4:=by unfold li;split<;>(try split)<;>(try split)<;>omega
theorem lH(g:Int)(d:Nat):-4<=iu g d/\iu g d<=4:=by
 have:=Nh (gX g*256 / 2^d)
 unfold iu;split
 .omega
 .split<;>omega
def nM(g:ll)(d:Nat):Int:=81*iu (g.ne-g.n) d+9*iu (g.n-g.nw) d+iu (g.nw-g.w) d
def mg(g:ll)(d:Nat):Nat:=(gX (nM g d)).toNat
def nm(g:ll)(d:Nat):Bool:=decide (nM g d<0)
def nF(g:ll)(d:Nat):Int:=gX (iu (g.ne-g.n) d)+gX (iu (g.n-g.nw) d)+gX (iu (g.nw-g.w) d)
theorem rx(g:ll)(d:Nat):mg g d<365:=by
 have j:=lH (g.ne-g.n) d;have o:=lH (g.n-g.nw) d;have p:=lH (g.nw-g.w) d;unfold mg nM gX;split<;>omega
theorem CM(g:ll)(d:Nat):0<=nF g d/\nF g d<=12:=by
 have j:=lH (g.ne-g.n) d;have o:=lH (g.n-g.nw) d;have p:=lH (g.nw-g.w) d;unfold nF gX;split<;>split<;>split<;>omega
structure gY where
 n:Int
 a:Int
 b:Int
 c:Int
structure pd (s:gY):Prop where
 n0:1<=s.n
 n1:s.n<=64
 a0:0<=s.a
 a1:s.a<=32768*s.n
 b0 : -s.n<s.b
 b1:s.b<=0
 c0 : -128<=s.c
 c1:s.c<=127
def rH(d:Nat):Int:=max 2 ((2^d+32) / 64)
def lI(d:Nat):gY:=⟨1,rH d,0,0⟩
theorem Jj(h:(2:Int)^d<=65536):pd (lI d):=by
 have:=jZ d
 refine⟨?_,?_,?_,?_,?_,?_,?_,?_⟩<;>simp only[lI,rH]<;>omega
def mQ(s:gY)(p:Int)(t:Bool)(d:Nat):Int:=min (max (p+(if t then -s.c else s.c)) 0) (2^d-1)
theorem CY(s:gY)(p:Int)(t:Bool)(h:2<=(2:Int)^d):0<=mQ s p t d/\mQ s p t d<2^d:=by
 unfold mQ;omega
def mG(s:gY):Nat->Nat->Nat
 | 0,k=>k
 | f+1,k=>if s.n*2^k<s.a then mG s f (k+1)else k
def mJ(s:gY):Nat:=mG s 16 0
theorem Eb{s:gY}(h:pd s):∀f k,k<=15->mG s f k<=15
 | 0,k,hk=>hk
 | f+1,k,hk=>by
  unfold mG;split
  .rename_i hc
   have:k≠15:=by
    rintro rfl
    have:=h.a1
    have e:(2:Int)^15=32768:=rfl;rw[e]at hc;omega
   exact Eb h f (k+1) (by omega)
  .exact hk
theorem tA{s:gY}(h:pd s):mJ s<=15:=Eb h 16 0 (by omega)
theorem Ce{s:gY}{k:Nat}(h:¬s.n*2^k<s.a)(f:Nat):mG s f k=k:=by
 cases f with
 | zero=>rfl
 | succ f=>rw[mG,if_neg h]
theorem Cd{s:gY}{k:Nat}(h:s.n*2^k<s.a)(f:Nat):mG s (f+1) k=mG s f (k+1):=by rw[mG,if_pos h]
theorem Ec{s:gY}(o:pd s){k:Nat}(h:s.n*2^k<s.a):k<15:=by
 rcases zZ k 15 with j|j
 .exact j
 .exfalso
  have p:(32768:Int)<=2^k:=by
   have:=Nat.pow_le_pow_right (n:=2) (by decide) j
   have e:(2:Int)^15<=2^k:=(by exact_mod_cast this);exact e
  have u:=o.a1;have C:=o.n0;have D:s.n*32768<=s.n*2^k:=Int.mul_le_mul_of_nonneg_left p (by omega);omega
def ma(s:gY)(e:Int):gY:=
 if s.n=64 then⟨33,(s.a+gX e) / 2,(s.b+e) / 2,s.c⟩else⟨s.n+1,s.a+gX e,s.b+e,s.c⟩
def lC(s:gY):gY:=
 if s.b<=-s.n then⟨s.n,s.a,max (s.b+s.n) (1-s.n),max (s.c-1) (-128)⟩
 else if 0<s.b then⟨s.n,s.a,min (s.b-s.n) 0,min (s.c+1) 127⟩else s
def nH(s:gY)(e:Int):gY:=lC (ma s e)
theorem xV{s:gY}(h:pd s){e:Int}(D : -32768<=e)(E:e<32768):1<=(ma s e).n/\(ma s e).n<=64/\0<=(ma s e).a/\(ma s e).a<=32768*(ma s e).n/\-65536<=(ma s e).b/\(ma s e).b<=65536/\(ma s e).c=s.c:=by
 obtain⟨J,n1,j,o,p,u,C,c1⟩:=h;have I:0<=gX e/\gX e<=32768:=by unfold gX;split<;>omega
 unfold ma;split
 .refine⟨?_,?_,?_,?_,?_,?_,rfl⟩<;>simp only<;>omega
 .refine⟨?_,?_,?_,?_,?_,?_,rfl⟩<;>simp only<;>omega
theorem KB{s:gY}(h:pd s){e:Int}(o : -32768<=e)(p:e<32768):pd (nH s e):=by
 obtain⟨C,D,E,I,J,L,u⟩:=xV h o p;have j:=h.c0;have c1:=h.c1;rw[<-u]at j c1;unfold nH;generalize ma s e=t at *;unfold lC;split
 .constructor<;>simp only<;>omega
 .split
  .constructor<;>simp only<;>omega
  .constructor<;>omega
def qG(s g:Int)(t:Bool)(d:Nat):Int:=if t then ii (-ii (s-g) d) d else ii (s-g) d
theorem tW(s g:Int)(t:Bool)(h:1<=d):-2^(d-1)<=qG s g t d/\qG s g t d<2^(d-1):=by
 unfold qG;split
 .exact ny _ h
 .exact ny _ h
def iS(m:List gY)(i:Nat):gY:=m.getD i (lI 1)
def jW(l:List Int)(W d i:Nat):Nat:=mg (ij l W (i%W) (i / W)) d
def kD(l:List Int)(W d i:Nat):Bool:=nm (ij l W (i%W) (i / W)) d
def lK(m:List gY)(l:List Int)(W d i:Nat):Int:=mQ (iS m (jW l W d i)) (jL 7 (ij l W (i%W) (i / W)) d) (kD l W d i) d
def oc(m:List gY)(l:List Int)(W d i:Nat):Int:=qG (l.getD i 0) (lK m l W d i) (kD l W d i) d
def ru(m:List gY)(l:List Int)(W d i:Nat):List Nat:=jm (mJ (iS m (jW l W d i))) (oc m l W d i)
def qH(m:List gY)(l:List Int)(W d i:Nat):List gY:=m.set (jW l W d i) (nH (iS m (jW l W d i)) (oc m l W d i))
def ri(d:Nat):List gY:=replicate 365 (lI d)
def mB(l:List Int)(W d:Nat):Nat->List gY
 | 0=>ri d
 | i+1=>qH (mB l W d i) l W d i
def l4(l:List Int)(W d:Nat):Nat->List Nat
 | 0=>[]
 | i+1=>l4 l W d i++ru (mB l W d i) l W d i
structure mz (m:List gY):Prop where
 len:m.length=365
 all:∀s∈m,pd s
theorem ow{m:List gY}(h:mz m)(hi:i<365):m[i]?=some (iS m i)/\pd (iS m i):=by
 have j:i<m.length:=by rw[h.len];exact hi
 unfold iS;rw[zD,zF j];exact⟨rfl,h.all _ (zG j)⟩
theorem Ih(h:(2:Int)^d<=65536):mz (ri d):=
 ⟨zV,λs hs=>by rw[eq_of_mem_replicate hs];exact Jj h⟩
theorem ql(j:d<=16){e:Int}(h : -2^(d-1)<=e/\e<2^(d-1)):-32768<=e/\e<32768:=by
 have:(2:Int)^(d-1)<=2^15:=by
  have:=Nat.pow_le_pow_right (n:=2) (by decide) (show d-1<=15 by omega)
  exact_mod_cast this
 omega
theorem MJ{m:List gY}(h:mz m)(l:List Int)(W:Nat)(u:1<=d)(C:d<=16)(i:Nat):mz (qH m l W d i):=by
 refine⟨by simp[qH,h.len],λs j=>?_⟩;rcases mem_or_eq_of_mem_set j with j|rfl
 .exact h.all s j
 .obtain⟨o,p⟩:=ql C (tW (l.getD i 0) (lK m l W d i) (kD l W d i) u)
  exact KB (ow h (rx _ _)).2 o p
theorem uf(l:List Int)(W:Nat){d:Nat}(j:1<=d)(o:d<=16)(p:(2:Int)^d<=65536):∀i,mz (mB l W d i)
 | 0=>Ih p
 | i+1=>MJ (uf l W j o p i) l W j o i
theorem vJ(l:List Int)(W:Nat){d:Nat}(j:1<=d)(o:d<=16)(p:(2:Int)^d<=65536):∀i,(l4 l W d i).length<=65*i
 | 0=>by simp[l4]
 | i+1=>by
  have:=vJ l W j o p i
  have u:=tA (ow (uf l W j o p i) (rx (ij l W (i%W) (i / W)) d)).2
  have:=mO (mJ (iS (mB l W d i) (jW l W d i))) (oc (mB l W d i) l W d i) (by unfold jW;omega)
  rw[l4,zC,ru,nz];omega
def mc(x:Int)(n:Nat):Bool:=decide (1<=n)&&decide (n<=31)&&decide (-2^(n-1)<=x)&&decide (x<=2^(n-1)-1)
def kl(x:Int):Nat->Nat->Nat
 | 0,w=>w
 | f+1,w=>if x≠0/\w<32/\mc x w=false then kl x f (w+1)else w
def jV(l:List Int):Nat:=l.foldl (λw x=>kl x 32 w) 0
theorem BS(l:List Int)(x:Int):jV (l++[x])=kl x 32 (jV l):=by simp[jV]
theorem pz{n:Nat}(h:m<=n):(2:Int)^m<=2^n:=by
 have:=Nat.pow_le_pow_right (n:=2) (by decide) h
 exact_mod_cast this
theorem sG{x:Int}(h:ib x):mc x 31=true:=by
 unfold ib at h;unfold mc;simp only[Bool.and_eq_true,decide_eq_true_eq];exact⟨⟨⟨by decide,by decide⟩,by have:(2:Int)^(31-1)=1073741824:=rfl;omega⟩,by have:(2:Int)^(31-1)=1073741824:=rfl;omega⟩
theorem Fd{x:Int}(h:ib x):∀f w,w<=31->kl x f w<=31
 | 0,w,hw=>hw
 | f+1,w,hw=>by
  unfold kl;split
  .rename_i hc
   have:w≠31:=λe=>by rw[e,sG h]at hc;simp at hc
   exact Fd h f (w+1) (by omega)
  .exact hw
theorem Dd{x:Int}{w:Nat}(p:x≠0)(o:w<32)(j:mc x w=false)(f:Nat):kl x (f+1) w=kl x f (w+1):=by
 rw[kl,if_pos ⟨p,o,j⟩]
theorem uy{x:Int}{w f:Nat}(h:x=0\/mc x w=true):kl x f w=w:=by
 cases f with
 | zero=>rfl
 | succ f=>
  rw[kl,if_neg];rintro⟨o,p,j⟩;rcases h with h|h
  .exact o h
  .rw[h]at j;cases j
theorem qt{l:List Int}(h:∀x∈l,ib x):jV l<=31:=by
 unfold jV
 suffices H:∀(l:List Int) (w:Nat),(∀x∈l,ib x)->w<=31->l.foldl (λw x=>kl x 32 w) w<=31 from H l 0 h (by omega)
 intro l
 induction l with
 | nil=>intro w _ j;exact j
 | cons x l ih=>intro w o j;exact ih _ (λy hy=>o y (by simp[hy])) (Fd (o x (by simp)) 32 w j)
def kS(x:Int)(n:Nat):Nat:=(x%2^n).toNat
theorem Fc(x:Int)(n:Nat):kS x n<2^n:=by
 have j:=Int.emod_nonneg x (show(2:Int)^n≠0 by have:=jZ n;omega);have o:=Int.emod_lt_of_pos x (jZ n);unfold kS
 have:((x%2^n).toNat:Int)<((2^n:Nat):Int):=by
  rw[Int.toNat_of_nonneg j]
  simpa using o
 omega
theorem KO(x:Int)(n:Nat):((kS x n:Nat):Int)=x%2^n:=by
 unfold kS;exact Int.toNat_of_nonneg (Int.emod_nonneg x (by have:=jZ n;omega))
def io(o n warm:Nat):List Nat:=if n / 2^o*2^o=n/\warm<=n / 2^o then(n / 2^o-warm)::replicate (2^o-1) (n / 2^o)else[]
theorem Iz{n:Nat}(h:warm<=n):io 0 n warm=[n-warm]:=by
 unfold io;simp[h]
theorem pI{o n:Nat}(h:io o n warm≠[]):(io o n warm).length=2^o:=by
 unfold io at *;split
 .have:=Nat.two_pow_pos o
  simp;omega
 .rename_i hc
  rw[if_neg hc]at h;exact absurd rfl h
theorem qZ{o n:Nat}(h:io o n warm≠[]):(io o n warm).sum=n-warm:=by
 unfold io at *;split
 .rename_i hc
  obtain⟨j,p⟩:=hc;have u:=Nat.two_pow_pos o;have e:(2^o-1)*(n / 2^o)+n / 2^o=n:=by
   rw[<-succ_mul]
   have:succ (2^o-1)=2^o:=by omega
   rw[this,zY];exact j
  simp;omega
 .rename_i hc
  rw[if_neg hc]at h;exact absurd rfl h
def ie{α:Type}:List Nat->List α->List (List α)
 | [],_=>[]
 | s::ss,l=>l.take s::ie ss (l.drop s)
theorem nR{α:Type}:∀(ss:List Nat) (l:List α),(ie ss l).length=ss.length
 | [],_=>rfl
 | s::ss,l=>by rw[ie,zK,nR ss,zK]
def jz(ss:List Nat)(i:Nat):Nat:=(ss.take i).sum
theorem qp{α:Type}:∀(ss:List Nat) (l:List α) (i:Nat) (h:i<ss.length),(ie ss l)[i]?=some ((l.drop (jz ss i)).take ss[i])
 | s::ss,l,0,_=>by simp[ie,jz]
 | s::ss,l,i+1,h=>by
  rw[ie,getElem?_cons_succ,qp ss (l.drop s) i (by simpa using h)];simp[jz,drop_drop]
theorem r8(ss:List Nat)(i:Nat)(h:i<ss.length):jz ss (i+1)=jz ss i+ss[i]:=by
 unfold jz;rw[take_succ_eq_append_getElem h,sum_append];simp only[sum_cons,sum_nil,Nat.add_zero]
theorem JT(ss:List Nat)(i:Nat):jz ss i<=ss.sum:=by
 unfold jz
 have:ss.sum=(ss.take i).sum+(ss.drop i).sum:=by rw[<-sum_append,take_append_drop]
 omega
theorem qS(ss:List Nat)(i:Nat)(h:i<ss.length):jz ss i+ss[i]<=ss.sum:=by
 rw[<-r8 ss i h];exact JT ss (i+1)
def lw(part:List Int):Nat:=5+jV part*part.length
def mx(k:Nat)(part:List Int):Nat:=5+if k=31 then lw part else iR k part
def mj(k:Nat)(part:List Int):List Nat:=
 gA k 5++if k=31 then gA (jV part) 5++part.flatMap (λx=>gA (kS x (jV part)) (jV part))else kt k part
theorem Gw(n:Nat)(f:Int->Nat)(l:List Int):(l.flatMap (λx=>gA (f x) n)).length=n*l.length:=by
 induction l with
 | nil=>simp
 | cons x l ih=>rw[flatMap_cons,zC,gJ,ih,zK,Nat.mul_add];omega
theorem AY(k:Nat)(part:List Int):(mj k part).length=mx k part:=by
 unfold mj mx lw;split
 .rw[zC,zC,gJ,gJ,Gw]
 .rw[zC,gJ,Hg]
def j8(ks:List Nat)(ps:List (List Int)):Nat:=4+((ks.zip ps).map (λp=>mx p.1 p.2)).sum
def mU(o:Nat)(ks:List Nat)(ps:List (List Int)):List Nat:=gA o 4++(ks.zip ps).flatMap (λp=>mj p.1 p.2)
def jx(part:List Int):Nat:=if lw part<iR (jS part) part then 31 else jS part
theorem B0(j:List Int):jx j<=25\/jx j=31:=by
 have:=qv j
 unfold jx;split<;>omega
def j6(o n warm:Nat)(l:List Int):List Nat:=(ie (io o n warm) l).map jx
structure tH where
 order:Nat
 ks:List Nat
 cost:Nat
def pM(n warm:Nat)(l:List Int)(s:tH)(o:Nat):tH:=
 if io o n warm=[]then s
 else if s.cost=0\/j8 (j6 o n warm l) (ie (io o n warm) l)<s.cost then⟨o,j6 o n warm l,j8 (j6 o n warm l) (ie (io o n warm) l)⟩else s
def mH(n warm:Nat)(l:List Int)(m:Nat):tH:=(range m).foldl (pM n warm l) ⟨0,[],0⟩
def jF(n warm most:Nat)(l:List Int):tH:=mH n warm l (min most 8+1)
theorem uj(n warm:Nat)(l:List Int)(m:Nat):mH n warm l (m+1)=pM n warm l (mH n warm l m) m:=by
 simp[mH,range_succ]
def Fy(n warm:Nat)(l:List Int)(s:tH):Prop:=io s.order n warm≠[]/\s.ks=j6 s.order n warm l/\s.cost=j8 s.ks (ie (io s.order n warm) l)
theorem xT(ks:List Nat)(ps:List (List Int)):4<=j8 ks ps:=by unfold j8;omega
theorem Ev{n warm:Nat}(h:warm<=n)(l:List Int):∀m,Fy n warm l (mH n warm l (m+1))/\(mH n warm l (m+1)).order<=m
 | 0=>by
  have u:=Iz h;have j:io 0 n warm≠[]:=by rw[u];simp
  have p:mH n warm l 0=⟨0,[],0⟩:=rfl;rw[uj,p,pM,if_neg j,if_pos (.inl rfl)];exact⟨⟨j,rfl,rfl⟩,zQ _⟩
 | m+1=>by
  obtain⟨o,C⟩:=Ev h l m;rw[uj,pM];split
  .exact⟨o,by omega⟩
  .rename_i j
   split
   .exact⟨⟨j,rfl,rfl⟩,zQ _⟩
   .exact⟨o,by omega⟩
theorem tV{n most:Nat}(h:warm<=n)(l:List Int):Fy n warm l (jF n warm most l)/\(jF n warm most l).order<=8/\(jF n warm most l).order<=most:=by
 obtain⟨o,j⟩:=Ev h l (min most 8);exact⟨o,Nat.le_trans j (Nat.min_le_right _ _),Nat.le_trans j (Nat.min_le_left _ _)⟩
def j5(s n:Nat):Nat->Nat->List (Nat × Nat)
 | 0,_=>[]
 | f+1,x=>if x<n then(x,min s (n-x))::j5 s n f (x+s)else[]
theorem qm{n x:Nat}(f:Nat)(h:n<=x):j5 s n f x=[]:=by
 cases f
 .rfl
 .rw[j5,if_neg (by omega)]
theorem qj{n x:Nat}(f:Nat)(h:x<n):j5 s n (f+1) x=(x,min s (n-x))::j5 s n f (x+s):=by
 rw[j5,if_pos h]
theorem xE{s n:Nat}(j:1<=s):∀(f x:Nat),n<=x+f->((j5 s n f x).map (·.2)).sum=n-x
 | 0,x,h=>by simp[j5];omega
 | f+1,x,h=>by
  by_cases hx:x<n
  .rw[qj f hx,map_cons,sum_cons,xE j f (x+s) (by omega)]
   simp only;omega
  .rw[qm _ (by omega)]
   simp;omega
theorem sL{s n:Nat}(o:1<=s):∀(f x:Nat),∀p∈j5 s n f x,1<=p.2/\p.2<=s/\p.1+p.2<=n
 | 0,x,p,j=>by simp[j5]at j
 | f+1,x,p,j=>by
  by_cases hx:x<n
  .rw[qj f hx]at j
   rcases zJ.1 j with rfl|j
   .simp only;omega
   .exact sL o f (x+s) p j
  .rw[qm _ (by omega)]at j
   simp at j
theorem xD(s n:Nat):∀(f x:Nat),(j5 s n f x).length<=f
 | 0,x=>by simp[j5]
 | f+1,x=>by
  by_cases hx:x<n
  .rw[qj f hx,zK]
   have:=xD s n f (x+s)
   omega
  .rw[qm _ (by omega)]
   simp
structure Sq where
 x:Nat
 y:Nat
 w:Nat
 h:Nat
def ml(w s:Nat)(p:Nat × Nat):List Sq:=(j5 s w w 0).map λq=>⟨q.1,p.1,q.2,p.2⟩
def gZ(w h s:Nat):List Sq:=(j5 s h h 0).flatMap (ml w s)
def area(l:List Sq):Nat:=(l.map λq=>q.w*q.h).sum
theorem Hs(a b:List Sq):area (a++b)=area a+area b:=by simp[area]
theorem LX{w:Nat}(j:1<=s)(p:Nat × Nat):area (ml w s p)=w*p.2:=by
 have h:=xE (n:=w) j w 0 (by omega);have e:∀l:List (Nat × Nat),(l.map λq:Nat × Nat=>q.2*p.2).sum=(l.map (·.2)).sum*p.2:=by
  intro l
  induction l with
  | nil=>simp
  | cons a l ih=>simp only[map_cons,sum_cons,ih,Nat.add_mul]
 unfold area ml;rw[map_map];show((j5 s w w 0).map λq=>q.2*p.2).sum=_;rw[e,h];rfl
theorem sE{w:Nat}(j:1<=s):area (gZ w h s)=w*h:=by
 have e:∀l:List (Nat × Nat),area (l.flatMap (ml w s))=w*(l.map (·.2)).sum:=by
  intro l
  induction l with
  | nil=>simp[area]
  | cons a l ih=>rw[flatMap_cons,Hs,ih,LX j,map_cons,sum_cons,Nat.mul_add]
 unfold gZ;rw[e,xE j h 0 (by omega)];rfl
theorem pQ{w:Nat}(C:1<=s):∀q∈gZ w h s,1<=q.w/\q.w<=s/\1<=q.h/\q.h<=s:=by
 intro q j;obtain⟨p,D,j⟩:=List.mem_flatMap.1 j;obtain⟨r,E,rfl⟩:=List.mem_map.1 j;have o:=sL C _ _ p D;have u:=sL C _ _ r E;exact⟨u.1,u.2.1,o.1,o.2.1⟩
structure gH where
 W:Nat
 H:Nat
 d:Nat
 P:List (List Int)
structure gH.Ok (p:gH):Prop where
 w0:1<=p.W
 w1:p.W<=64
 h0:1<=p.H
 h1:p.H<=64
 d0:1<=p.d
 d1:p.d<=16
 n0:1<=p.P.length
 n1:p.P.length<=4
 len:∀l∈p.P,l.length=p.W*p.H
 smp:∀l∈p.P,gU p.d l
theorem gH.Ok.area{p:gH}(h:p.Ok):p.W*p.H<=4096:=zL h.w1 h.h1
theorem gH.Ok.pos{p:gH}(h:p.Ok):0<p.W*p.H:=Nat.mul_pos h.w0 h.h0
structure jv (p q:gH):Prop where
 W:p.W=q.W
 H:p.H=q.H
 d:p.d=q.d
 n:p.P.length=q.P.length
def jb(l:List Int)(W x y w h:Nat):List Int:=(range h).flatMap λj=>(range w).map λi=>l.getD ((y+j)*W+(x+i)) 0
theorem yt{α:Type}{w:Nat}:∀(h:Nat) (f:Nat->List α),(∀j,(f j).length=w)->((range h).flatMap f).length=h*w
 | 0,f,_=>by simp
 | h+1,f,hf=>by rw[range_succ,flatMap_append,zC,yt h f hf];simp[hf,succ_mul]
theorem DV{α:Type}{w:Nat}:∀(h:Nat) (f:Nat->List α),(∀j,(f j).length=w)->∀j i,j<h->i<w->((range h).flatMap f)[j*w+i]?=(f j)[i]?
 | 0,f,_,j,i,hj,_=>by omega
 | h+1,f,hf,j,i,hj,hi=>by
  rw[range_succ,flatMap_append];have p:=yt h f hf;rcases zZ j h with o|o
  .have u:j*w+i<h*w:=by
    have:=mul_le_mul_right w (show j+1<=h by omega)
    rw[succ_mul]at this;omega
   rw[getElem?_append_left (by omega),DV h f hf j i o hi]
  .obtain rfl:j=h:=by omega
   rw[zS (by omega),p];simp
theorem pK(l:List Int)(W x y w h:Nat):(jb l W x y w h).length=h*w:=yt h _ (by simp)
theorem KW(l:List Int)(W x y:Nat){w j:Nat}(o:j<h)(hi:i<w):(jb l W x y w h)[j*w+i]?=some (l.getD ((y+j)*W+(x+i)) 0):=by
 unfold jb;rw[DV h _ (by simp) j i o hi];simp[hi]
theorem Co(l:List Int)(W x y w h:Nat):jb l W x y w (h+1)=jb l W x y w h++(range w).map λi=>l.getD ((y+h)*W+(x+i)) 0:=by
 unfold jb;rw[range_succ,flatMap_append];simp
theorem nB{l:List Int}(h:gU d l)(k:Nat):0<=l.getD k 0/\l.getD k 0<2^d:=by
 rw[zD]
 cases hx:l[k]? with
 | none=>exact⟨Int.le_refl 0,jZ d⟩
 | some x=>exact h x (mem_of_getElem? hx)
theorem yd{l:List Int}(p:gU d l)(W x y w h:Nat):gU d (jb l W x y w h):=by
 intro v o;obtain⟨j,_,o⟩:=List.mem_flatMap.1 o;obtain⟨i,_,rfl⟩:=List.mem_map.1 o;exact nB p _
theorem Ly{l:List Int}{x Y w:Nat}(p:l.length=W*H)(u:x+w<=W)(o:Y<H):((l.drop (Y*W+x)).take w)=(range w).map λi=>l.getD (Y*W+(x+i)) 0:=by
 have j:Y*W+W<=W*H:=by
  have:=mul_le_mul_right W (show Y+1<=H by omega)
  rw[succ_mul,zY H]at this;exact this
 apply ext_getElem?;intro i;rcases zZ i w with hi|hi
 .rw[getElem?_take,if_pos hi,getElem?_drop,zW,getElem?_range hi,Option.map_some,zD,<-Nat.add_assoc,zF (show Y*W+x+i<l.length by omega)]
  rfl
 .rw[getElem?_take,if_neg (by omega),getElem?_eq_none (by simp;omega)]
def oK(now old:List Int)(d:Nat):List Int:=List.zipWith (λa b=>iw (a-b) d) now old
def Fu(old df:List Int)(d:Nat):List Int:=List.zipWith (λa b=>iw (a+b) d) old df
theorem Kl{now old:List Int}(h:now.length=old.length)(d:Nat):(oK now old d).length=now.length:=by unfold oK;rw[List.length_zipWith];omega
theorem uu(now old:List Int)(d:Nat):gU d (oK now old d):=by
 intro v j;unfold oK at j;rw[List.zipWith_eq_zipWith_take_min]at j;obtain⟨i,hi,rfl⟩:=getElem_of_mem j;rw[List.getElem_zipWith];exact⟨tg _ _,rt _ _⟩
theorem BQ{d:Nat}:∀ {now old:List Int},now.length=old.length->gU d now->Fu old (oK now old d) d=now
 | [],[],_,_=>rfl
 | a::now,b::old,h,hs=>by
  have j:=BQ (d:=d) (now:=now) (old:=old) (by simpa using h) (λx hx=>hs x (by simp[hx]));have p:iw (b+iw (a-b) d) d=a:=by
   obtain⟨o,j⟩:=hs a (by simp);rw[Aq]
   have:b+(a-b)=a:=by omega
   rw[this];exact tf o j
  unfold Fu oK at j⊢;rw[List.zipWith_cons_cons,List.zipWith_cons_cons,j,p]
 | [],b::old,h,_=>by simp at h
 | a::now,[],h,_=>by simp at h
def nN(W k:Nat)(s:Sq):Bool:=decide (s.x<=k%W)&&decide (k%W<s.x+s.w)&&decide (s.y<=k / W)&&decide (k / W<s.y+s.h)
def ky(q l:List Int)(W:Nat)(bs:List Sq):List Int:=(range l.length).map λk=>if bs.any (nN W k)then q.getD k 0 else l.getD k 0
theorem qu(q l:List Int)(W:Nat)(bs:List Sq):(ky q l W bs).length=l.length:=by simp[ky]
theorem sT{l:List Int}{bs:List Sq}{k:Nat}(j:k<l.length):(ky q l W bs)[k]?=some (if bs.any (nN W k)then q.getD k 0 else l.getD k 0):=by
 unfold ky;rw[zW,getElem?_range j];rfl
theorem MD(q l:List Int)(W:Nat):ky q l W []=l:=by
 apply ext_getElem?;intro k;rcases zZ k l.length with j|j
 .rw[sT j,zF j]
  simp[j]
 .rw[getElem?_eq_none j,getElem?_eq_none (by rw[qu];exact j)]
theorem KL(q l:List Int)(W:Nat)(bs:List Sq)(s:Sq)(j:s.h=0):ky q l W (bs++[s])=ky q l W bs:=by
 unfold ky
 congr 1
 funext k
 have e:(bs++[s]).any (nN W k)=bs.any (nN W k):=by
  rw[any_append];have h:nN W k s=false:=by unfold nN;rw[j];simp<;>omega
  simp[h]
 rw[e]
theorem MC{l:List Int}{bs:List Sq}(o:q.length=l.length)(h:∀k,k<l.length->bs.any (nN W k)=true):ky q l W bs=q:=by
 apply ext_getElem?;intro k;rcases zZ k l.length with j|j
 .rw[sT j,if_pos (h k j),zF (by omega),zD,zF (by omega)]
  rfl
 .rw[getElem?_eq_none (by rw[qu];exact j),getElem?_eq_none (by omega)]
theorem ME{l:List Int}{bs:List Sq}{s:Sq}(U:q.length=l.length)(I:l.length=W*H)(V:s.x+s.w<=W)(X:s.y+s.h<H):let m:=ky q l W (bs++[s])
  let at_:=(s.y+s.h)*W+s.x
  m.take at_++((range s.w).map λi=>q.getD ((s.y+s.h)*W+(s.x+i)) 0)++m.drop (at_+s.w)=ky q l W (bs++[⟨s.x,s.y,s.w,s.h+1⟩]):=by
 intro m at_;have⟨Y,hY⟩:=zX (s.y+s.h);have S:at_=Y*W+s.x:=by rw[hY]
 have T:Y*W+W<=l.length:=by
  have:=mul_le_mul_right W (show Y+1<=H by omega)
  rw[succ_mul,zY H,<-I]at this;exact this
 have J:m.length=l.length:=qu _ _ _ _;have E:(m.take at_).length=at_:=by rw[zI,J];omega
 rw[<-hY];have N:∀k,nN W k ⟨s.x,s.y,s.w,s.h+1⟩=(nN W k s||(decide (s.x<=k%W)&&decide (k%W<s.x+s.w)&&decide (k / W=Y))):=by
  intro k;unfold nN;simp only;rw[hY];by_cases o:s.x<=k%W
  .by_cases u:k%W<s.x+s.w
   .simp only[o,u,decide_true,Bool.true_and]
    by_cases h4:s.y<=k / W
    .by_cases h5:k / W<s.y+s.h
     .have j:k / W<s.y+(s.h+1):=by omega
      simp[h4,h5,j]
     .by_cases j:k / W=s.y+s.h
      .simp[j]<;>omega
      .have Q:¬k / W<s.y+(s.h+1):=by omega
       simp[h5,j,Q]
    .have j:¬k / W=s.y+s.h:=by omega
     simp[h4,j]
   .simp[u]
  .simp[o]
 apply ext_getElem?;intro k;rcases zZ k l.length with p|p
 .rw[sT p]
  have R:0<W:=by
   rcases eq_zero_or_pos W with h|h
   .rw[h]at I;omega
   .exact h
  have ad:=div_add_mod k W;rw[any_append,any_cons,any_nil,Bool.or_false,N k];rcases zZ k at_ with o|o
  .rw[zH,getElem?_append_left (by omega),getElem?_take,if_pos o,sT p,any_append,any_cons,any_nil,Bool.or_false]
   have D:(decide (s.x<=k%W)&&decide (k%W<s.x+s.w)&&decide (k / W=Y))=false:=by
    rw[Bool.and_eq_false_iff];by_cases j:k / W=Y
    .left
     rw[Bool.and_eq_false_iff];left;rw[decide_eq_false_iff_not];rw[j,zY]at ad;omega
    .right;simp[j]
   rw[D,Bool.or_false]
  .rcases zZ k (at_+s.w)with u|u
   .have C:k=Y*W+(s.x+(k-at_)):=by omega
    have M:k%W=s.x+(k-at_):=by
     rw[C,Nat.add_comm,add_mul_mod_self_right,mod_eq_of_lt (by omega)];omega
    have L:k / W=Y:=by
     rw[C,Nat.add_comm,add_mul_div_right _ _ R,div_eq_of_lt (by omega),Nat.zero_add]
    have O:(decide (s.x<=k%W)&&decide (k%W<s.x+s.w)&&decide (k / W=Y))=true:=by
     rw[M,L];simp;omega
    rw[O,Bool.or_true,Bool.or_true,if_pos rfl,zH,zS (by omega),E,getElem?_append_left (by simp;omega),zW,getElem?_range (by omega),Option.map_some,<-C]
   .rw[zH,zS (by omega),E,zS (by simp;omega),zE,length_range,getElem?_drop]
    rw[show at_+s.w+(k-at_-s.w)=k by omega,sT p,any_append,any_cons,any_nil,Bool.or_false];have D:(decide (s.x<=k%W)&&decide (k%W<s.x+s.w)&&decide (k / W=Y))=false:=by
     rw[Bool.and_eq_false_iff];by_cases j:k / W=Y
     .left
      rw[Bool.and_eq_false_iff];right;rw[decide_eq_false_iff_not];rw[j,zY]at ad;omega
     .right;simp[j]
    rw[D,Bool.or_false]
 .rw[getElem?_eq_none (l:=ky _ _ _ _) (by rw[qu];exact p),getElem?_eq_none]
  rw[zC,zC,E,zE,length_range,zO,J];omega
theorem vT{s n:Nat}(u:1<=s):∀(f x k:Nat),n<=x+f->x<=k->k<n->∃p∈j5 s n f x,p.1<=k/\k<p.1+p.2
 | 0,x,k,h,h1,h2=>by omega
 | f+1,x,k,h,h1,h2=>by
  have C:x<n:=by omega
  rw[qj f C];by_cases hk:k<x+min s (n-x)
  .exact⟨_,mem_cons_self ..,h1,hk⟩
  .obtain⟨p,o,j⟩:=vT u f (x+s) k (by omega) (by omega) h2
   exact⟨p,mem_cons_of_mem _ o,j⟩
theorem I6{k:Nat}(o:1<=s)(j:k<W*H):(gZ W H s).any (nN W k)=true:=by
 have E:0<W:=by
  rcases eq_zero_or_pos W with h|h
  .rw[h]at j;omega
  .exact h
 obtain⟨p,I,u,C⟩:=vT (s:=s) (n:=H) o H 0 (k / W) (by omega) (zero_le _) (Nat.div_lt_of_lt_mul j);obtain⟨q,J,D,ad⟩:=vT (s:=s) (n:=W) o W 0 (k%W) (by omega) (zero_le _) (mod_lt _ E);rw[any_eq_true];refine⟨⟨q.1,p.1,q.2,p.2⟩,List.mem_flatMap.2 ⟨p,I,List.mem_map.2 ⟨q,J,rfl⟩⟩,?_⟩;unfold nN;simp[u,C,D,ad]
theorem o3(o:1<=s):∀q∈gZ W H s,q.x+q.w<=W/\q.y+q.h<=H:=by
 intro q j;obtain⟨p,D,j⟩:=List.mem_flatMap.1 j;obtain⟨r,E,rfl⟩:=List.mem_map.1 j;have u:=sL o _ _ p D;have C:=sL o _ _ r E;exact⟨C.2.2,u.2.2⟩
theorem If(t a b c:Int):(if iA a t<=iA b t/\iA a t<=iA c t then a else if iA b t<=iA c t then b else c)=pL t a b c:=by
 unfold pL;by_cases h1:iA b t<iA a t
 .rw[if_pos h1,if_neg (by omega)]
  by_cases h2:iA c t<iA b t
  .rw[if_pos h2,if_neg (by omega)]
  .rw[if_neg h2,if_pos (by omega)]
 .rw[if_neg h1]
  by_cases h2:iA c t<iA a t
  .rw[if_pos h2,if_neg (by omega),if_neg (by omega)]
  .rw[if_neg h2,if_pos (by omega)]
def pe(l:List Int)(W d:Nat)(ks:List Nat)(i:Nat):Int:=ph l W d (ks.getD (i / W) 0) (i / W) (i%W)
theorem tZ(l:List Int){W:Nat}(o:1<=W)(d:Nat)(ks:List Nat):∀H,kN l W H d ks=(range (W*H)).map (pe l W d ks)
 | 0=>by simp[kN]
 | H+1=>by
  have e:kN l W (H+1) d ks=kN l W H d ks++jY l W H d (ks.getD H 0):=by
   unfold kN;rw[range_succ,flatMap_append];simp
  rw[e,tZ l o d ks H,mul_succ,range_add,zM]
  congr 1
  unfold jY;rw[map_map];apply map_congr_left;intro x p;have j:=List.mem_range.1 p;show _=pe l W d ks (W*H+x);unfold pe;rw[Nat.mul_add_div (by omega),div_eq_of_lt j,Nat.add_zero,Nat.mul_add_mod,mod_eq_of_lt j]
theorem sN{P:Program}{t e:TypeId}(C:P.underlying t=some (.slice e))(L:∀w,(sizeOf e).run P w=.ok 1 w)(A:Option Addr)(n c lo m hi:Nat)(p:hi=lo+m)(h:hi<=n)(J:n<=c):∃A',(∀w,(Instr.slice t (.slice A n c) (some (.int .i64 lo)) (some (.int .i64 hi)) none).run P w=.ok (.slice A' m (c-lo)) w) /\ (∀ad,A'=some ad->∃ad0,A=some ad0/\ad.block=ad0.block) /\ ∀(α:Type) (f:α->Value) (w:World) (l:List α),l.length=n->gu f w A l->gu f w A' ((l.drop lo).take m):=by
 have u:=uS C;subst p;refine⟨if c=lo then A else A.map (·.add (lo*1)),λw=>?_,?_,?_⟩
 .rw[run_slice_lh (P:=P) (w:=w) t A n c (by rw[u];exact C) .i64 .i64 (lo:Int) ((lo+m:Nat):Int) (by omega) (by omega) (by omega),u,L]
  simp[sliced];omega
 .intro ad j
  split at j
  .exact⟨ad,j,rfl⟩
  .cases A with
   | none=>simp at j
   | some ad0=>
    simp at j;subst j;refine⟨ad0,rfl,?_⟩;unfold Addr.add;split<;>rfl
 .intro α f w l M I
  refine⟨λh0=>?_⟩;rw[zI,zO]at h0;obtain⟨b,o,rfl,E,D⟩:=I.ex (by omega);rw[if_neg (by omega)];refine⟨b,o+lo,?_,E,λi a ha=>?_⟩
  .simp only[Option.map_some,Addr.add,Nat.mul_one]
   split
   .rename_i h;subst h;rfl
   .rfl
  .rw[getElem?_take]at ha
   split at ha
   .rw[getElem?_drop]at ha
    have:=D (lo+i) a ha
    rwa [<-Nat.add_assoc]at this
   .cases ha
def km(s:Nat):Nat:=if s%2=1 then(s / 2) ^^^ 3988292384 else s / 2
def jr:Nat->Nat->Nat
 | 0,s=>s
 | n+1,s=>jr n (km s)
def E4(s c:Nat):Nat:=jr 8 (s ^^^ c)
def n7(s:Nat)(ds:List Nat):Nat:=ds.foldl E4 s
def lE(ds:List Nat):Nat:=n7 4294967295 ds ^^^ 4294967295
theorem xw(h:s<4294967296):km s<4294967296:=by
 unfold km;split
 .exact xor_lt_two_pow (n:=32) (by omega) (by decide)
 .omega
theorem Bs:∀(n:Nat) {s:Nat},s<4294967296->jr n s<4294967296
 | 0,s,h=>h
 | n+1,s,h=>Bs n (xw h)
theorem IV{c:Nat}(h:s<4294967296)(j:c<256):E4 s c<4294967296:=
 Bs 8 (xor_lt_two_pow (n:=32) h (by omega))
theorem yp:∀(ds:List Nat) {s:Nat},s<4294967296->(∀d∈ds,d<256)->n7 s ds<4294967296
 | [],s,h,_=>h
 | d::ds,s,h,hd=>yp ds (IV h (hd d (by simp))) (λx hx=>hd x (by simp[hx]))
theorem tk{j:List Nat}(o:∀d∈j,d<256):lE j<4294967296:=xor_lt_two_pow (n:=32) (yp j (by decide) o) (by decide)
theorem zl{a b c:Nat}(h:a ^^^ c=b ^^^ c):a=b:=by
 have j:(a ^^^ c) ^^^ c=(b ^^^ c) ^^^ c:=by rw[h]
 simpa[Nat.xor_assoc]using j
theorem Fs{x:Nat}(h:x<2147483648):2147483648<=x ^^^ 3988292384:=by
 rcases zZ (x ^^^ 3988292384) 2147483648 with j|j
 .exfalso
  have o:(x ^^^ 3988292384) ^^^ x<2^31:=xor_lt_two_pow (by omega) (by omega);rw[Nat.xor_comm x,Nat.xor_assoc,Nat.xor_self,Nat.xor_zero]at o;omega
 .exact j
theorem HJ{t:Nat}(p:s<4294967296)(u:t<4294967296)(h:km s=km t):s=t:=by
 unfold km at h;have j:=Fs (x:=s / 2) (by omega);have o:=Fs (x:=t / 2) (by omega);by_cases h1:s%2=1<;>by_cases h2:t%2=1
 .rw[if_pos h1,if_pos h2]at h
  have:=zl h
  omega
 .rw[if_pos h1,if_neg h2]at h
  omega
 .rw[if_neg h1,if_pos h2]at h
  omega
 .rw[if_neg h1,if_neg h2]at h
  omega
theorem AO:∀(n:Nat) {s t:Nat},s<4294967296->t<4294967296->jr n s=jr n t->s=t
 | 0,s,t,_,_,h=>h
 | n+1,s,t,hs,ht,h=>HJ hs ht (AO n (xw hs) (xw ht) h)
theorem tR(s:Nat)(a b:List Nat):n7 s (a++b)=n7 (n7 s a) b:=foldl_append
theorem H3(a b:Nat):km (a ^^^ b)=km a ^^^ km b:=by
 have o:(a ^^^ b)%2=(a%2+b%2)%2:=by
  have e:∀x:Nat,x%2=(x.testBit 0).toNat:=λx=>by rw[Nat.testBit_zero];rcases Nat.mod_two_eq_zero_or_one x with h|h<;>simp[h]
  rw[e,e a,e b,Nat.testBit_xor];cases a.testBit 0<;>cases b.testBit 0<;>rfl
 have j:(a ^^^ b) / 2=a / 2 ^^^ b / 2:=Nat.xor_div_two;unfold km;rw[j];by_cases h1:a%2=1<;>by_cases h2:b%2=1
 .rw[if_neg (by omega),if_pos h1,if_pos h2,Nat.xor_assoc,Nat.xor_comm 3988292384,Nat.xor_assoc,Nat.xor_self,Nat.xor_zero]
 .rw[if_pos (by omega),if_pos h1,if_neg h2,Nat.xor_assoc,Nat.xor_assoc,Nat.xor_comm 3988292384]
 .rw[if_pos (by omega),if_neg h1,if_pos h2,Nat.xor_assoc]
 .rw[if_neg (by omega),if_neg h1,if_neg h2]
theorem AQ:∀(n a b:Nat),jr n (a ^^^ b)=jr n a ^^^ jr n b
 | 0,a,b=>rfl
 | n+1,a,b=>by
  unfold jr;rw[H3,AQ n]
theorem vQ:∀(m n s:Nat),jr (m+n) s=jr n (jr m s)
 | 0,n,s=>by rw[Nat.zero_add];rfl
 | m+1,n,s=>by
  rw[show m+1+n=(m+n)+1 by omega];show jr (m+n) (km s)=jr n (jr m (km s));exact vQ m n _
theorem Gh(c:Nat):km (2*c)=c:=by
 unfold km;rw[if_neg (by omega)];omega
theorem Am:∀(n c:Nat),jr n (2^n*c)=c
 | 0,c=>by simp[jr]
 | n+1,c=>by
  unfold jr;rw[Nat.pow_succ,show 2^n*2*c=2*(2^n*c)by rw[zY (2^n) 2,Nat.mul_assoc],Gh,Am n]
theorem vH(s c:Nat)(n:Nat):jr 8 (jr n s ^^^ c)=jr (n+8) (s ^^^ 2^n*c):=by
 rw[vQ,AQ n,Am]
theorem B5(s a b c d:Nat):n7 s [a,b,c,d]=jr 32 (s ^^^ a ^^^ 256*b ^^^ 65536*c ^^^ 16777216*d):=by
 show jr 8 (jr 8 (jr 8 (jr 8 (s ^^^ a) ^^^ b) ^^^ c) ^^^ d)=_;rw[vH (s ^^^ a) b 8,vH _ c 16,vH _ d 24]
theorem yP{x k:Nat}(j:x<2^k):x ^^^ 2^k*y=x+2^k*y:=by
 have o:x ||| 2^k*y=x+2^k*y:=by
  rw[Nat.or_comm,<-two_pow_add_eq_or_of_lt j];omega
 rw[<-o];apply Nat.eq_of_testBit_eq;intro i;rw[Nat.testBit_xor,Nat.testBit_or,Nat.testBit_two_pow_mul];rcases zZ i k with h|h
 .simp[h,Nat.not_le.2 h]
 .rw[Nat.testBit_lt_two_pow (Nat.lt_of_lt_of_le j (Nat.pow_le_pow_right (by decide) h))]
  simp
theorem L8{m:List Nat}{a b c j o p d':Nat}(U:∀x∈m,x<256)(L:a<256)(M:b<256)(N:c<256)(O:d<256)(C:j<256)(D:o<256)(E:p<256)(I:d'<256)(h:lE (m++[a,b,c,d])=lE (m++[j,o,p,d'])):a=j/\b=o/\c=p/\d=d':=by
 unfold lE at h;have u:=zl h;rw[tR,tR,B5,B5]at u;have Q:=yp m (s:=4294967295) (by decide) U;generalize n7 4294967295 m=s at *;have e:∀a b c d:Nat,a<256->b<256->c<256->d<256->s ^^^ a ^^^ 256*b ^^^ 65536*c ^^^ 16777216*d=s ^^^ (a+256*b+65536*c+16777216*d):=by
  intro a b c d L M N O;have R:=yP (x:=a) (y:=b) (k:=8) (by omega);have S:=yP (x:=a+256*b) (y:=c) (k:=16) (by omega);have T:=yP (x:=a+256*b+65536*c) (y:=d) (k:=24) (by omega);rw[<-T,<-S,<-R];simp only[Nat.xor_assoc]
 rw[e a b c d L M N O,e j o p d' C D E I]at u;have V:s ^^^ (a+256*b+65536*c+16777216*d)<4294967296:=xor_lt_two_pow (n:=32) Q (by omega);have X:s ^^^ (j+256*o+65536*p+16777216*d')<4294967296:=xor_lt_two_pow (n:=32) Q (by omega);have J:=AO 32 V X u;rw[Nat.xor_comm,Nat.xor_comm s]at J;have Y:=zl J;omega
def iK(n:Nat):List Nat:=[n / 16777216%256,n / 65536%256,n / 256%256,n%256]
theorem DK{a b:Nat}(j:a<4294967296)(o:b<4294967296)(h:iK a=iK b):a=b:=by
 unfold iK at h;simp only[List.cons.injEq,and_true]at h;omega
theorem yR(n:Nat):∀d∈iK n,d<256:=by
 intro d j;unfold iK at j;simp only[zJ,not_mem_nil,or_false]at j;omega
section
variable {P:Program}
theorem FY{w:World}{t e:TypeId}{k:Nat}(E:jA P t e z k bytes){v:Value}{F:List Nat}{n:Nat}{xs:List Value}(j:ic w e k v F n xs)(c:Nat):(Builtin.append_ #[t,t] ty #[v,.slice none 0 c]).run P w=.ok v w:=by
 obtain⟨i,hi,I,p,C⟩:=E.hi;rcases j.own.2 with⟨rfl,D⟩|⟨g,u,ad,rfl,_,_,o,_⟩
 .simp[Builtin.append_,run_underlying E.ht,sizeOf,typeInfo,hi,Builtin.lenOf,Builtin.firstCells]
 .simp[Builtin.append_,run_underlying E.ht,sizeOf,typeInfo,hi,Builtin.lenOf,Builtin.firstCells,o,storeCells]
theorem GN{w:World}{t e:TypeId}{k:Nat}(E:jA P t e z k bytes)(N:z.cells.size=k)(L:0<k){v:Value}{F:List Nat}{n:Nat}{xs:List Value}(p:ic w e k v F n xs){A:Option Addr}{c:Nat}(news:List Value)(O:news.length=m*k)(Q:gu (λu=>u) w A news)(U:∀u∈news,u.oneCell'=true)(M:n+m<=9223372036854775807)(C:(n+m)*bytes<=140737488355328):∃J F' w',(Builtin.append_ #[t,t] ty #[v,.slice A m c]).run P w=.ok J w'/\ic w' e k J F' (n+m) (xs++news)/\gB F F' w w':=by
 rcases A with _|ad
 .have D:news=[]:=by
   rcases eq_zero_or_pos news.length with D|D
   .exact eq_nil_of_length_eq_zero D
   .obtain⟨_,_,h,_⟩:=Q.ex D
    cases h
  subst D;obtain rfl:m=0:=by
   rcases eq_zero_or_pos m with h|h
   .exact h
   .have:=Nat.mul_pos h L
    simp at O;omega
  exact⟨v,F,w,FY E p c,by simpa using p,gB.refl _ _⟩
 .have R:∀j u,news[j]?=some u->w.cell? (ad.add j)=some u:=λj u hj=>by
   obtain⟨b,o,e,hb,Y⟩:=Q.ex (by have:=(List.getElem?_eq_some_iff.1 hj).1;omega);injection e with e;subst e;rw[<-Y j u hj];unfold Addr.add;split
   .rename_i h;subst h;rfl
   .rfl
  obtain⟨i,hi,hz,S,T⟩:=E.hi;obtain⟨J,w',Z,V,X,h4,I⟩:=run_append_own_at (P:=P) w 0 t ty e i z k bytes E.ht hi hz S T N L v n xs p.own ad m c news O R U (by simpa[maxLen]using M) C (zero_le _);refine⟨J,J.ownBlock.toList,w',Z,⟨V,rfl⟩,?_,λx hx=>?_⟩
  .rw[p.fp]
   exact gf.of_grown X (by intro k L;left;simp[L])
  .rcases I with I|I
   .left;rw[p.fp,<-I];exact hx
   .right;rw[I]at hx;simp at hx;omega
theorem tM{w:World}{o:Oper}{a:Act}{Q:Exit->Act->World->Prop}{E0:Prop}(I:o.guard=none){s:Operand}{t:TypeId}(U:o.op=.call { callee:=.builtin .append,args:=#[s,x],argTypes:=#[t,t] }){e:TypeId}{k:Nat}(E:jA P t e z k bytes)(J:z.cells.size=k)(R:0<k){v:Value}{F:List Nat}{n:Nat}{xs:List Value}(V:a.eval s=v)(p:ic w e k v F n xs){A:Option Addr}{c:Nat}(news:List Value)(m:Nat)(X:a.eval x=.slice A m c)(S:news.length=m*k)(T:gu (λu=>u) w A news)(M:∀u∈news,u.oneCell'=true)(D:n+m<=9223372036854775807)(j:(n+m)*bytes<=140737488355328)(h:∀C F' w',ic w' e k C F' (n+m) (xs++news)->gB F F' w w'->K (a.put o.dst C) w'):if Region.wanted o (yielded ops a.tmps)=true then Oper.wp P o a w K Q else E0:=by
 rw[if_pos (by simp[Region.wanted,I])];obtain⟨C,F',w',L,N,O⟩:=GN (P:=P) (ty:=o.type) E J R p (c:=c) news S T M D j;unfold Oper.wp execOp;simp only[U,resolve,invoke,builtin,Sem.run_bind,Sem.run_pure,Result.andThen_ok,map_toArray,map_cons,map_nil,V,X,L];exact h C F' w' N O
theorem tL{w:World}{o:Oper}{a:Act}{Q:Exit->Act->World->Prop}{E0:Prop}(L:o.guard=none){s:Operand}{t:TypeId}(U:o.op=.call { callee:=.builtin .append,args:=#[s,x],argTypes:=#[t,t] }){e:TypeId}{k:Nat}(E:jA P t e z k bytes)(M:z.cells.size=k)(T:0<k){v:Value}{F:List Nat}{n:Nat}{xs:List Value}(V:a.eval s=v)(p:ic w e k v F n xs){ad:Addr}{c:Nat}(news:List Value)(J:a.eval x=.slice (some ad) 1 c)(X:news.length=k)(D:∀j u,news[j]?=some u->w.cell? (ad.add j)=some u)(O:∀u∈news,u.oneCell'=true)(S:n<9223372036854775807)(C:(n+1)*bytes<=140737488355328)(h:∀g cap w',ic w' e k (.slice (some ⟨g,0,none⟩) (n+1) cap) [g] (n+1) (xs++news)->gB F [g] w w'->K (a.put o.dst (.slice (some ⟨g,0,none⟩) (n+1) cap)) w'):if Region.wanted o (yielded ops a.tmps)=true then Oper.wp P o a w K Q else E0:=by
 rw[if_pos (by simp[Region.wanted,L])];refine tU U E M T V p.own J (news:=news) (by omega) (by decide) D O (by omega) C ?_;intro g' cap w' R N I;rw[<-p.fp]at N;refine h g' cap w' ⟨R,rfl⟩ ⟨N,λx J=>?_⟩;simp at J;subst J;rcases I with I|I
 .left;rw[p.fp,<-I];simp
 .exact .inr I
end
theorem xi{s n:Nat}:∀(f x:Nat),∀p∈j5 s n f x,p.2=min s (n-p.1)
 | 0,x,p,j=>by simp[j5]at j
 | f+1,x,p,j=>by
  by_cases hx:x<n
  .rw[qj f hx]at j
   rcases zJ.1 j with rfl|j
   .rfl
   .exact xi f (x+s) p j
  .rw[qm _ (by omega)]at j
   simp at j
theorem E5:∀q∈gZ W H s,q.w=min s (W-q.x)/\q.h=min s (H-q.y):=by
 intro q j;obtain⟨p,o,j⟩:=List.mem_flatMap.1 j;obtain⟨r,u,rfl⟩:=List.mem_map.1 j;exact⟨xi _ _ r u,xi _ _ p o⟩
theorem gf.X{F:List Nat}{a b:World}{p:Addr}{v:Value}(h:gf F a b)(C:p.block∉F)(o:a.cell? p=some v):b.cell? p=some v:=by
 have u:p.block<a.heap.size:=by
  rcases zZ p.block a.heap.size with j|j
  .exact j
  .have e:a.heap[p.block]?=none:=Array.getElem?_eq_none j
   simp[World.cell?,e]at o
 exact(World.cell?_of_block (w:=a) (h.block p.block u C)).trans o
end Go.Proofs.YtnepiccbpokmiaaGreatDoor
