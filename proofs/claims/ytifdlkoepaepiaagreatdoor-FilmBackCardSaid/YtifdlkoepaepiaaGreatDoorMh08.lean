/- Lemmas. -/
import Derived.WalkKit
import Derived.Deep.Draws
import Derived.Maps.AppendAt
import Derived.Test.YtifdlkoepaepiaaGreatDoorMh03
set_option linter.all false
namespace Go.Proofs.YtifdlkoepaepiaaGreatDoor
open List Nat
variable {K:Act->World->Prop}{ops:Array Oper}{done q:List Int}{bs lens:List Nat}{rest:List Oper}{news:List Value}{B H W bytes d g' h i j m r s warm x y:Nat}{ty:TypeId}{z:Value}
structure gh(p:Prop):Prop where
 o:p
theorem Ra(a b:Int)(h:¬a<b):decide (a<b)=false:=decide_eq_false h
theorem jo(a b:Int)(h:a<b):decide (a<b)=true:=decide_eq_true h
theorem mF(a b:Int)(h:¬a<=b):decide (a<=b)=false:=decide_eq_false h
theorem jB(a b:Int)(h:a<=b):decide (a<=b)=true:=decide_eq_true h
theorem gy{p q:Prop}(a:p)(b:q):gh p/\gh q:=⟨⟨a⟩,⟨b⟩⟩
theorem Q9{p q r:Prop}(a:p)(b:q)(c:r):gh p/\gh q/\gh r:=⟨⟨a⟩,⟨b⟩,⟨c⟩⟩
theorem gu{p q r s:Prop}(a:p)(b:q)(c:r)(d:s):gh p/\gh q/\gh r/\gh s:=⟨⟨a⟩,⟨b⟩,⟨c⟩,⟨d⟩⟩
instance:Coe Nat Value:=⟨λn=>.int .i64 n⟩
instance:Coe Int Value:=⟨λn=>.int .i64 n⟩
instance:Coe Nat Addr:=⟨λb=>⟨b,0,none⟩⟩
instance:Coe Nat (Option Addr):=⟨λb=>some ⟨b,0,none⟩⟩
class ZR(R:Ending->World->Prop)(x:outParam Ending)(u:outParam World):Prop where
 o:∀e v,R e v->e=x/\v=u
instance(x:Ending)(u:World):ZR (λe v=>e=x/\v=u) x u:=⟨λ_ _ h=>h⟩
instance(x:Ending)(u:World):ZR (λe v=>e=x/\u=v) x u:=⟨λ_ _ h=>⟨h.1,h.2.symm⟩⟩
theorem gB{P:Program}{f:FuncId}{a:Array Value}{w u:World}{x:Ending}{R Q:Ending->World->Prop}[z:ZR R x u](h:Calls P f a w R)(k:Q x u):Calls P f a w Q:=h.mono λe v y=>by obtain⟨m,n⟩:=z.o e v y;subst m;subst n;exact k
theorem zA{p:Prop}[inst:Decidable p](h:¬p):decide p=false:=decide_eq_false h
theorem zB{p:Prop}[inst:Decidable p](h:p):decide p=true:=decide_eq_true h
theorem zC{α:Type _}{as bs:List α}:(as++bs).length=as.length+bs.length:=length_append
theorem zD{α:Type _}{l:List α}{a:α}:l.getD i a=l[i]?.getD a:=getD_eq_getElem?_getD
theorem zE{α:Type _}{β:Type _}{as:List α}(f:α -> β):(as.map f).length=as.length:=length_map f
theorem zF{α:Type _}{l:List α}(h:i<l.length):l[i]? =some l[i]:=getElem?_eq_getElem h
theorem zG{α:Type _}{l:List α}{n:Nat}(h:n<l.length):l[n]∈l:=getElem_mem h
theorem zH{α:Type _}(a b c:List α):a++b++c=a++(b++c):=append_assoc a b c
theorem zI{α:Type _}{l:List α}:(l.take i).length=min i l.length:=length_take
theorem zJ{α:Type _}{b:α}{l:List α}{a:α}:a∈b::l ↔ a=b\/a∈l:=mem_cons
theorem zK{α:Type _}{a:α}{as:List α}:(a::as).length=as.length+1:=length_cons
theorem zL{a b c:Nat}(h:a<=b)(k:c<=d):a*c<=b*d:=Nat.mul_le_mul h k
theorem zM{α:Type _}{β:Type _}{f:α -> β}{a b:List α}:(a++b).map f=a.map f++b.map f:=map_append
theorem zN{α:Type _}{l:List α}:l.take l.length=l:=take_length
theorem zO{α:Type _}{l:List α}:(l.drop i).length=l.length-i:=length_drop
theorem zP{α:Type _}{a:α}{s t:List α}:a∈s++t ↔ a∈s\/a∈t:=mem_append
theorem zQ(n:Nat):n<=n:=Nat.le_refl n
theorem zS{α:Type _}{l₁ l₂:List α}(h:l₁.length<=i):(l₁++l₂)[i]? =l₂[i-l₁.length]?:=getElem?_append_right h
theorem zT{α:Type _}{l:List α}(h:l.length<=i):l.take i=l:=take_of_length_le h
theorem zU{α:Type _}{a b:α}:a∈[b] ↔ a=b:=mem_singleton
theorem zV{α:Type _}{n:Nat}{a:α}:(replicate n a).length=n:=length_replicate
theorem zW{α:Type _}{β:Type _}{f:α -> β}{l:List α}:(l.map f)[i]? =l[i]?.map f:=getElem?_map
theorem zY(a b:Nat):a*b=b*a:=Nat.mul_comm a b
theorem zZ(a b:Nat):a<b\/a≥b:=Nat.lt_or_ge a b
theorem zX{α:Sort _}(a:α):∃x,x=a:=⟨a,rfl⟩
open Go.RowKit
theorem gd{p:Prop}(h:p):gh p:=⟨h⟩
structure gg (F:List Nat) (w w':World):Prop where
 os:w'.os=w.os
 tape:w'.tape=w.tape
 output:w'.output=w.output
 size:w.heap.size<=w'.heap.size
 block:∀k,k<w.heap.size->k∉F->w'.heap[k]?=w.heap[k]?
section
variable {F F':List Nat} {a b c w w':World}
theorem gg.refl(F:List Nat)(w:World):gg F w w:=⟨rfl,rfl,rfl,zQ _,λ_ _ _=>rfl⟩
theorem zR(F:List Nat)(w:World):gg F w w:=gg.refl F w
theorem gg.mono(h:gg F a b)(hF:∀k∈F,k<a.heap.size->k∈F'):gg F' a b:=
 ⟨h.os,h.tape,h.output,h.size,λk hk hn=>h.block k hk λhm=>hn (hF k hm hk)⟩
theorem gg.trans(h:gg F a b)(k:gg F' b c)(hF:∀x∈F',x∈F\/a.heap.size<=x):gg F a c:=
 ⟨k.os.trans h.os,k.tape.trans h.tape,k.output.trans h.output,Nat.le_trans h.size k.size,λx hx hn=>
  (k.block x (Nat.lt_of_lt_of_le hx h.size) λhm=>by rcases hF x hm with o|o;exact hn o;omega).trans (h.block x hx hn)⟩
theorem gg.tq(h:gg F a b)(k:gg F b c):gg F a c:=h.trans k λ_ h=>.inl h
theorem gg.drew(h:gg F a w):gg F a w.drew:=⟨h.os,h.tape,h.output,h.size,h.block⟩
theorem gg.drewN(h:gg F a w)(n:Nat):gg F a (w.drewN n):=⟨h.os,h.tape,h.output,h.size,h.block⟩
theorem gg.alloc(h:gg F a w)(o:Obj):gg F a (w.alloc o):=
 h.tq ⟨rfl,rfl,rfl,by simp,λk hk _=>Below.heap_alloc _ _ _ hk⟩
theorem gg.setCell(h:gg F a w){p:Addr}(o:p.block∈F\/a.heap.size<=p.block)(u:Value):gg F a (w.setCell p u):=
 h.trans (F':=[p.block]) ⟨rfl,rfl,rfl,by simp[World.setCell],λk _ hn=>Below.heap_setCell _ _ _ _ (by simpa using hn)⟩ (by simpa using o)
theorem gg.of_grown{p:Option Nat}(o:a.grownBy b p)(u:∀k,p=some k->k∈F\/a.heap.size<=k):gg F a b:=
 ⟨o.os,o.tape,o.output,o.size,λk hk hn=>o.block k hk λe=>by rcases u k e.symm with h|h;exact hn h;omega⟩
theorem gg.grown{o:Option Nat}(h:gg F a w)(p:w.grownBy w' o)(C:∀k,o=some k->k∈F\/a.heap.size<=k):gg F a w':=
 h.trans (F':=o.toList) (gg.of_grown p (by intro k u;subst u;exact .inl (by simp))) (by intro x D;exact C x (by simpa using D))
theorem gg.below(h:gg F a b)(hF:∀k∈F,a.heap.size<=k):Below a.heap.size a b:=
 ⟨h.os,h.tape,h.output,h.size,λk hk=>h.block k hk λhm=>by have:=hF k hm;omega⟩
theorem gg.of_below(h:Below a.heap.size a b):gg F a b:=⟨h.os,h.tape,h.output,h.size,λk hk _=>h.block k hk⟩
theorem gg.toBelow(h:gg F a b)(o:B<=a.heap.size)(hF:∀k∈F,B<=k):Below B a b:=
 ⟨h.os,h.tape,h.output,h.size,λk hk=>h.block k (by omega) λhm=>by have:=hF k hm;omega⟩
end
def gn(w:World)(g:Nat)(t:TypeId)(cs:Array Value):Prop:=w.heap[g]?=some (.cells cs t (0,0))
section
variable {w w':World} {g:Nat} {t:TypeId} {cs:Array Value} {F:List Nat}
theorem gn.lt(h:gn w g t cs):g<w.heap.size:=by
 unfold gn at h;exact(Array.getElem?_eq_some_iff.1 h).1
theorem gn.X(h:gn w g t cs)(i:Nat):w.cell? ⟨g,i,none⟩=cs[i]?:=cell_of_row w g i cs t (0,0) h
theorem gn.U(h:gn w g t cs)(i:Nat):w.frozen? ⟨g,i,none⟩=false:=by
 unfold gn at h;simp[World.frozen?,h]
theorem gn.new(w:World)(t:TypeId)(cs:Array Value):gn (w.alloc (.cells cs t)) w.heap.size t cs:=heap_alloc_new w _
theorem gn.drew(h:gn w g t cs):gn w.drew g t cs:=h
theorem gn.drewN(h:gn w g t cs)(n:Nat):gn (w.drewN n) g t cs:=h
theorem gn.alloc(h:gn w g t cs)(o:Obj):gn (w.alloc o) g t cs:=(Below.heap_alloc w o g h.lt).trans h
theorem gn.S(h:gn w g t cs)(i:Nat)(u:Value):gn (w.setCell ⟨g,i,none⟩ u) g t (cs.setIfInBounds i u):=by
 unfold gn at h⊢;simp[World.setCell,Array.getElem?_modify,h]
theorem gn.Q(h:gn w g t cs){p:Addr}(o:g≠p.block)(u:Value):gn (w.setCell p u) g t cs:=(Below.heap_setCell w p u g o).trans h
theorem gn.Z(h:gn w g t cs)(o:gg F w w')(p:g∉F):gn w' g t cs:=(o.block g h.lt p).trans h
theorem gn.below(h:gn w g t cs)(o:Below B w w')(p:g<B):gn w' g t cs:=(o.block g p).trans h
theorem gn.grown{o:Option Nat}(h:gn w g t cs)(p:w.grownBy w' o)(u:some g≠o):gn w' g t cs:=(p.block g h.lt u).trans h
theorem gn.ne_{C:TypeId}{p:Array Value}(h:gn w g t cs)(o:gn w g' C p)(u:t≠C):g≠g':=by
 rintro rfl;unfold gn at h o;rw[h]at o;injection o with o;injection o with _ ht;exact u ht
end
theorem H4{w v:World}{o:Obj}(h:v=w.alloc o):gg [] w v:=by rw[h];exact(gg.refl [] w).alloc o
theorem RF{w v:World}{o q:Obj}(h:v=(w.alloc o).alloc q):gg [] w v:=by rw[h];exact((gg.refl [] w).alloc o).alloc q
theorem RD{w v:World}{t:TypeId}{c:Array Value}(h:v=w.alloc (.cells c t))(k:x=w.heap.size):gn v x t c:=by rw[h,k];exact gn.new w t c
theorem RG{w v:World}{t:TypeId}{c:Array Value}{o:Obj}(h:v=(w.alloc (.cells c t)).alloc o)(k:x=w.heap.size):gn v x t c:=by rw[h,k];exact(gn.new w t c).alloc o
theorem my{w:World}{g:Nat}{t:TypeId}{c:Array Value}(h:gn w g t c):w.cell? ⟨g,0,none⟩=c[0]?/\w.cell? ⟨g,1,none⟩=c[1]?/\w.cell? ⟨g,2,none⟩=c[2]?/\w.cell? ⟨g,3,none⟩=c[3]?:=⟨h.X 0,h.X 1,h.X 2,h.X 3⟩
theorem RL{w:World}{g:Nat}{t:TypeId}{c:Array Value}(h:gn w g t c)(a b:Nat):w.frozen? ⟨g,a,none⟩=false/\w.frozen? ⟨g,b,none⟩=false:=⟨h.U a,h.U b⟩
theorem RK{w:World}{g:Nat}{t:TypeId}{c:Array Value}(h:gn w g t c)(a b c:Nat):w.frozen? ⟨g,a,none⟩=false/\w.frozen? ⟨g,b,none⟩=false/\w.frozen? ⟨g,c,none⟩=false:=⟨h.U a,h.U b,h.U c⟩
theorem RJ{w:World}{g:Nat}{t:TypeId}{c:Array Value}(h:gn w g t c)(a b c d:Nat):w.frozen? ⟨g,a,none⟩=false/\w.frozen? ⟨g,b,none⟩=false/\w.frozen? ⟨g,c,none⟩=false/\w.frozen? ⟨g,d,none⟩=false:=⟨h.U a,h.U b,h.U c,h.U d⟩
theorem RM{w:World}{g:Nat}{t:TypeId}{c:Array Value}(h:gn w g t c)(a b c d e:Nat):w.frozen? ⟨g,a,none⟩=false/\w.frozen? ⟨g,b,none⟩=false/\w.frozen? ⟨g,c,none⟩=false/\w.frozen? ⟨g,d,none⟩=false/\w.frozen? ⟨g,e,none⟩=false:=⟨h.U a,h.U b,h.U c,h.U d,h.U e⟩
theorem gg.zs{w v:World}{g:Nat}(h:gg [g] w v)(i:Nat)(u:Value):gg [g] w (v.setCell ⟨g,i,none⟩ u):=h.setCell (p:=⟨g,i,none⟩) (.inl (by simp)) u
structure gv (w:World) (e:TypeId) (v:Value) (g:Nat) (xs:List Value):Prop where
 ex:∃cap cur,v=.slice g xs.length cap/\gn w g e cur/\xs.length<=cap/\cap<=maxLen/\cur.size=cap/\cur.toList.take xs.length=xs
section
variable {w w':World} {e:TypeId} {v:Value} {g:Nat} {xs:List Value} {F:List Nat}
theorem gv.lt(h:gv w e v g xs):g<w.heap.size:=by obtain⟨_,_,_,h,_⟩:=h.ex;exact h.lt
theorem gv.N(h:gv w e v g xs)(E:∀t cs,gn w g t cs->gn w' g t cs):gv w' e v g xs:=by
 obtain⟨o,p,u,C,D⟩:=h.ex;exact⟨o,p,u,E _ _ C,D⟩
theorem gv.drew(h:gv w e v g xs):gv w.drew e v g xs:=h.N λ_ _ h=>h.drew
theorem gv.drewN(h:gv w e v g xs)(n:Nat):gv (w.drewN n) e v g xs:=h.N λ_ _ h=>h.drewN n
theorem gv.alloc(h:gv w e v g xs)(o:Obj):gv (w.alloc o) e v g xs:=h.N λ_ _ h=>h.alloc o
theorem gv.Q(h:gv w e v g xs){p:Addr}(o:g≠p.block)(u:Value):gv (w.setCell p u) e v g xs:=h.N λ_ _ h=>h.Q o u
theorem gv.Z(h:gv w e v g xs)(o:gg F w w')(p:g∉F):gv w' e v g xs:=h.N λ_ _ h=>h.Z o p
theorem gv.grown{o:Option Nat}(h:gv w e v g xs)(p:w.grownBy w' o)(u:some g≠o):gv w' e v g xs:=h.N λ_ _ h=>h.grown p u
theorem gv.own(h:gv w e v g xs)(base:Nat)(L:base<=g):w.ownsRow base e 1 v xs.length xs:=by
 obtain⟨o,p,u,C,D,E,I,J⟩:=h.ex;exact⟨by simp,.inr ⟨g,o,p,u,L,C,D,E,by simp[I],by simpa using J⟩⟩
theorem gv.of_own{base n:Nat}(h:w.ownsRow base e 1 v n xs){a:Addr}{c:Nat}(N:v=.slice (some a) m c):∃g,gv w e v g xs/\v.ownBlock=some g:=by
 obtain⟨u,C⟩:=h;rcases C with⟨rfl,_⟩|⟨g,o,p,rfl,_,D,E,I,J,L⟩
 .cases N
 .have M:xs.length=n:=by simpa using u
  subst M;exact⟨g,⟨o,p,rfl,D,E,I,by simpa using J,by simpa using L⟩,rfl⟩
theorem gv.own_block(h:gv w e v g xs):v.ownBlock=some g:=by
 obtain⟨o,p,rfl,_⟩:=h.ex;rfl
theorem gv.open_(h:gv w e v g xs):∃o,v=.slice g xs.length o/\xs.length<=o/\o<=maxLen/\(∀i,i<xs.length->w.cell? ⟨g,i,none⟩=xs[i]?)/\∀i,w.frozen? ⟨g,i,none⟩=false:=by
 obtain⟨o,u,C,p,D,E,J,I⟩:=h.ex;refine⟨o,C,D,E,λi hi=>?_,p.U⟩;rw[p.X i]
 have:(u.toList.take xs.length)[i]?=xs[i]?:=by rw[I]
 rw[getElem?_take,if_pos hi]at this
 simpa using this
theorem gv.T{α:Type}{f:α->Value}{p:List α}(h:gv w e v g (p.map f)):∃o:Nat,v=.slice g p.length o/\p.length<=o/\o<=9223372036854775807/\(∀(i:Nat) (d:α),p[i]?=some d->w.cell? ⟨g,i,none⟩=some (f d))/\∀i,w.frozen? ⟨g,i,none⟩=false:=by
 obtain⟨o,u,C,E,D,I⟩:=h.open_;simp only[zE]at u C D;refine⟨o,u,C,by simpa[maxLen]using E,λi d hd=>?_,I⟩;have J:i<p.length:=(List.getElem?_eq_some_iff.1 hd).1;rw[D i J,zW,hd];rfl
theorem gv.S(h:gv w e v g xs)(M:i<xs.length)(u:Value):gv (w.setCell ⟨g,i,none⟩ u) e v g (xs.set i u):=by
 obtain⟨o,L,p,C,D,E,I,J⟩:=h.ex;refine⟨o,_,by simpa using p,C.S i u,by simpa using D,E,by simpa using I,?_⟩;rw[length_set,Array.toList_setIfInBounds,take_set,J]
theorem gv.ne_{t:TypeId}{cs:Array Value}{b:Nat}(h:gv w e v g xs)(u:gn w b t cs)(o:e≠t):g≠b:=by
 obtain⟨_,_,_,p,_⟩:=h.ex;exact p.ne_ u o
theorem gv.ne_row{u:TypeId}{E:Value}{p:List Value}(h:gv w e v g xs)(D:gv w u E g' p)(o:e≠u):g≠g':=by
 obtain⟨_,_,_,C,_⟩:=D.ex;exact h.ne_ C o
theorem gv.made(w:World)(e:TypeId)(xs:List Value)(o:xs.length<=maxLen):gv (w.alloc (.cells xs.toArray e)) e (.slice (some ⟨w.heap.size,0,none⟩) xs.length xs.length) w.heap.size xs:=
 ⟨xs.length,xs.toArray,rfl,gn.new w e _,zQ _,o,by simp,by simp⟩
end
structure jx (P:Program) (t e:TypeId) (z:Value) (size bytes:Nat):Prop where
 ht:P.underlying t=some (.slice e)
 hi:∃i,P.info? e=some i/\i.zero=some z/\i.size=size/\i.bytes=bytes
theorem jx.mk'{P:Program}{t e:TypeId}{size:Nat}(o:P.underlying t=some (.slice e))(h:(P.info? e).map (λi=>(i.zero,i.size,i.bytes))=some (some z,size,bytes)):jx P t e z size bytes:=
 ⟨o,info_parts h⟩
section
variable {P:Program}
theorem JH{w:World}{t e:TypeId}{size:Nat}(E:jx P t e z size bytes)(M:z.cells.size=size)(L:0<size){v:Value}{n:Nat}{xs:List Value}(I:w.ownsRow 0 e size v n xs){ad:Addr}{c:Nat}(Y:news.length=m*size)(hm:0<m)(D:∀j u,news[j]?=some u->w.cell? (ad.add j)=some u)(T:∀u∈news,u.oneCell'=true)(J:n+m<=9223372036854775807)(p:(n+m)*bytes<=140737488355328):∃g o w',(Builtin.append_ #[t,t] ty #[v,.slice (some ad) m c]).run P w=.ok (.slice (some ⟨g,0,none⟩) (n+m) o) w'/\w'.ownsRow 0 e size (.slice (some ⟨g,0,none⟩) (n+m) o) (n+m) (xs++news) /\ gg v.ownBlock.toList w w'/\(some g=v.ownBlock\/w.heap.size<=g):=by
 obtain⟨i,V,hz,Q,S⟩:=E.hi;obtain⟨v',w',Z,N,U,h4,C⟩:=run_append_own_at (P:=P) w 0 t ty e i z size bytes E.ht V hz Q S M L v n xs I ad m c news Y D T (by simpa[maxLen]using J) p (zero_le _);rcases N.2 with⟨rfl,hn⟩|⟨g,o,R,rfl,O⟩
 .omega
 .refine⟨g,o,w',Z,⟨N.1,.inr ⟨g,o,R,rfl,O⟩⟩,gg.of_grown U (by intro k X;left;simp[X]),?_⟩
  simp only[Value.ownBlock]at C;rcases C with C|C
  .exact .inl C
  .right
   injection C with C;omega
theorem CL{w:World}{o:Oper}{a:Act}{Q:Exit->Act->World->Prop}{s x:Operand}{t:TypeId}(V:o.op=.call { callee:=.builtin .append,args:=#[s,x],argTypes:=#[t,t] }){e:TypeId}{size:Nat}(E:jx P t e z size bytes)(M:z.cells.size=size)(L:0<size){v:Value}{n:Nat}{xs:List Value}(Y:a.eval s=v)(I:w.ownsRow 0 e size v n xs){ad:Addr}{c:Nat}(Z:a.eval x=.slice (some ad) m c)(T:news.length=m*size)(U:0<m)(D:∀j u,news[j]?=some u->w.cell? (ad.add j)=some u)(N:∀u∈news,u.oneCell'=true)(J:n+m<=9223372036854775807)(C:(n+m)*bytes<=140737488355328)(h:∀g p w',w'.ownsRow 0 e size (.slice (some ⟨g,0,none⟩) (n+m) p) (n+m) (xs++news)->gg v.ownBlock.toList w w'->(some g=v.ownBlock\/w.heap.size<=g)->K (a.put o.dst (.slice (some ⟨g,0,none⟩) (n+m) p)) w'):o.wp P a w K Q:=by
 obtain⟨g,p,w',X,O,R,S⟩:=JH (P:=P) (ty:=o.type) E M L I (ad:=ad) (c:=c) T U D N J C;unfold Oper.wp execOp;simp only[V,resolve,invoke,builtin,Sem.run_bind,Sem.run_pure,Result.andThen_ok,map_toArray,map_cons,map_nil,Y,Z,X];exact h g p w' O R S
theorem tP{w:World}{o:Oper}{a:Act}{Q:Exit->Act->World->Prop}(J:o.guard=none){s x:Operand}{t:TypeId}(S:o.op=.call { callee:=.builtin .append,args:=#[s,x],argTypes:=#[t,t] }){e:TypeId}{size:Nat}(E:jx P t e z size bytes)(M:z.cells.size=size)(L:0<size){v:Value}{n:Nat}{xs:List Value}(T:a.eval s=v)(D:w.ownsRow 0 e size v n xs){ad:Addr}{c:Nat}(U:a.eval x=.slice (some ad) m c)(O:news.length=m*size)(R:0<m)(C:∀j u,news[j]?=some u->w.cell? (ad.add j)=some u)(N:∀u∈news,u.oneCell'=true)(I:n+m<=9223372036854775807)(p:(n+m)*bytes<=140737488355328)(h:∀g cap w',w'.ownsRow 0 e size (.slice (some ⟨g,0,none⟩) (n+m) cap) (n+m) (xs++news)->gg v.ownBlock.toList w w'->(some g=v.ownBlock\/w.heap.size<=g)->wpList P ops Q rest (a.put o.dst (.slice (some ⟨g,0,none⟩) (n+m) cap)) w'):wpList P ops Q (o::rest) a w:=
 wpList_plain J λ_ hK=>CL S E M L T D U O R C N I p λg cap w' h2 h3 h4=>hK _ _ (h g cap w' h2 h3 h4)
theorem IS{w:World}{o:Oper}{a:Act}{Q:Exit->Act->World->Prop}(J:o.guard=none){s x:Operand}{t:TypeId}(V:o.op=.call { callee:=.builtin .append,args:=#[s,x],argTypes:=#[t,t] }){e:TypeId}(E:jx P t e z 1 bytes)(L:z.cells.size=1){v:Value}{g:Nat}{xs:List Value}(X:a.eval s=v)(O:gv w e v g xs){c:Nat}(u:Value)(Z:a.eval x=.slice B 1 c)(Y:w.cell? B=some u)(R:u.oneCell'=true)(C:(xs.length+1)*bytes<=140737488355328)(U:xs.length<9223372036854775807)(h:∀g' p w',gv w' e (.slice (some ⟨g',0,none⟩) (xs.length+1) p) g' (xs++[u])->gg [g] w w'->(g'=g\/w.heap.size<=g')->wpList P ops Q rest (a.put o.dst (.slice (some ⟨g',0,none⟩) (xs.length+1) p)) w'):wpList P ops Q (o::rest) a w:=by
 refine tP J V E L (by decide) X (O.own 0 (zero_le _)) Z (news:=[u]) (by simp) (by decide) ?_ (by simpa using R) (by omega) C ?_
 .intro j u' I
  match j,I with
  | 0,I=>simp at I;subst I;simpa[Addr.add]using Y
 .intro g' p w' S M N
  obtain⟨aa,T,D⟩:=gv.of_own S rfl;rw[O.own_block]at M N;simp only[Value.ownBlock]at D;injection D with D;subst D;exact h g' p w' T M (N.elim (λh=>.inl (by injection h)) .inr)
end
theorem kg{P:Program}{t e:TypeId}(E:jx P t e z 1 bytes)(o:z.cells=#[z])(u p:IntKind)(n:Nat)(O:bytes*n<=281474976710656)(J:n<=9223372036854775807)(w:World):(Instr.makeSlice t (.int u (n:Int)) (.int p (n:Int))).run P w=.ok (.slice (some ⟨w.heap.size,0,none⟩) n n) (w.alloc (.cells (replicate n z).toArray e)):=by
 obtain⟨i,L,N,C,I⟩:=E.hi;subst I;have D:(i.bytes:Int)*(n:Int)<=281474976710656:=by
  have h:((i.bytes*n:Nat):Int)<=281474976710656:=by omega
  rwa [Int.natCast_mul]at h
 have M:=run_make (P:=P) w t e i z E.ht L N u p n n (by omega) (Int.le_refl _) D (by omega);rw[M,C,o];simp only[Int.toNat_natCast,Nat.mul_one]
 have:madeCells #[z] n=(replicate n z).toArray:=by
  apply Array.toList_inj.1;rw[toList_madeCells_one]
 rw[this]
section
variable {w w':World} {base:Nat} {e:TypeId} {size n:Nat} {v:Value} {xs:List Value} {F:List Nat}
theorem Gz(h:w.ownsRow base e size v n xs)(D:gg F w w')(I:∀k,v.ownBlock=some k->k∉F):w'.ownsRow base e size v n xs:=by
 refine⟨h.1,?_⟩;rcases h.2 with E|⟨g,p,u,rfl,C,o,rest⟩
 .exact .inl E
 .exact .inr ⟨g,p,u,rfl,C,(D.block g (Array.getElem?_eq_some_iff.1 o).1 (I g rfl)).trans o,rest⟩
theorem PH(h:w.ownsRow base e size v n xs){g:Nat}{t:TypeId}{cs:Array Value}(C:gn w g t cs)(p:e≠t):v.ownBlock≠some g:=by
 rcases h.2 with⟨rfl,_⟩|⟨g',E,u,rfl,_,D,_⟩
 .simp[Value.ownBlock]
 .intro o
  simp only[Value.ownBlock]at o;injection o with o;subst o;exact(show gn w g' e u from D).ne_ C p rfl
theorem He(h:w.ownsRow base e size v n xs):∀k,v.ownBlock=some k->k<w.heap.size:=λk hk=>(h.lt k hk).2
end
structure gz {α:Type} (f:α->Value) (w:World) (A:Option Addr) (l:List α):Prop where
 ex:0<l.length->∃b o,A=some ⟨b,o,none⟩/\b<w.heap.size/\∀(i:Nat) (a:α),l[i]?=some a->w.cell? ⟨b,o+i,none⟩=some (f a)
theorem gz.Z{α:Type}{f:α->Value}{w w':World}{A:Option Addr}{l:List α}{F:List Nat}(h:gz f w A l)(D:gg F w w')(E:∀ad,A=some ad->ad.block∉F):gz f w' A l:=
 ⟨λh0=>by
  obtain⟨u,I,C,p,o⟩:=h.ex h0;exact⟨u,I,C,Nat.lt_of_lt_of_le p D.size,λi a ha=>(World.cell?_of_block (w:=w) (D.block u p (E _ C))).trans (o i a ha)⟩⟩
theorem gz.Y{α:Type}{f:α->Value}{w w':World}{A:Option Addr}{l:List α}(h:gz f w A l)(o:gg [] w w'):gz f w' A l:=h.Z o (by simp)
structure gE (F F':List Nat) (w w':World):Prop where
 Z:gg F w w'
 new:∀x∈F',x∈F\/w.heap.size<=x
section
variable {F F' F'':List Nat} {a b c w w':World} {g:Nat}
theorem gE.refl(F:List Nat)(w:World):gE F F w w:=⟨zR _ _,λ_ h=>.inl h⟩
theorem gE.trans(h:gE F F' a b)(k:gE F' F'' b c):gE F F'' a c:=
 ⟨h.Z.trans k.Z h.new,λx hx=>by
  rcases k.new x hx with o|o
  .exact h.new x o
  .exact .inr (Nat.le_trans h.Z.size o)⟩
theorem gE.Y(h:gE F F' a b)(k:gg [] b c):gE F F' a c:=
 ⟨h.Z.trans k (by simp),h.new⟩
theorem gE.pre(k:gg [] a b)(h:gE F F' b c):gE F F' a c:=
  ⟨⟨h.Z.os.trans k.os,h.Z.tape.trans k.tape,h.Z.output.trans k.output,Nat.le_trans k.size h.Z.size,λx hx hn=>(h.Z.block x (Nat.lt_of_lt_of_le hx k.size) hn).trans (k.block x hx (by simp))⟩,
   λx hx=>by rcases h.new x hx with o|o;exact .inl o;exact .inr (Nat.le_trans k.size o)⟩
theorem gE.drewN(h:gE F F' a b)(n:Nat):gE F F' a (b.drewN n):=⟨h.Z.drewN n,h.new⟩
theorem gE.drew(h:gE F F' a b):gE F F' a b.drew:=⟨h.Z.drew,h.new⟩
theorem gE.alloc(h:gE F F' a b)(o:Obj):gE F F' a (b.alloc o):=⟨h.Z.alloc o,h.new⟩
theorem gE.setCell(h:gE F F' a b){p:Addr}(o:p.block∈F')(u:Value):gE F F' a (b.setCell p u):=
 ⟨h.Z.setCell (h.new _ o) u,h.new⟩
theorem gE.cons(h:gE F F' a b)(x:Nat):gE (x::F) (x::F') a b:=
 ⟨h.Z.mono λk o _=>by simp[o],λk o=>by
  rcases zJ.1 o with rfl|o
  .exact .inl (by simp)
  .rcases h.new k o with p|p
   .exact .inl (by simp[p])
   .exact .inr p⟩
theorem gE.mono(h:gE F F' a b){G:List Nat}(hF:∀x∈F,x∈G):gE G F' a b:=
 ⟨h.Z.mono λk hk _=>hF k hk,λk hk=>by
  rcases h.new k hk with o|o
  .exact .inl (hF k o)
  .exact .inr o⟩
theorem gE.o(h:gE F F' w w')(u:g<w.heap.size)(p:g∉F):g∉F':=λhm=>by
 rcases h.new g hm with o|o
 .exact p o
 .omega
theorem gE.size(h:gE F F' w w'):w.heap.size<=w'.heap.size:=h.Z.size
theorem gE.fresh(h:gE F F' a b)(hF:∀x∈F,w.heap.size<=x)(k:gg [] w a):gg [] w b:=
 k.trans h.Z λx hx=>.inr (hF x hx)
end
structure jj (w:World) (e:TypeId) (v:Value) (F:List Nat) (xs:List Value):Prop where
 own:w.ownsRow 0 e 1 v xs.length xs
 fp:F=v.ownBlock.toList
section
variable {w w':World} {e:TypeId} {v:Value} {F G G':List Nat} {xs:List Value}
theorem jj.nil(w:World)(e:TypeId):jj w e (.slice none 0 0) [] []:=⟨World.ownsRow_nil _ 0 _ _,rfl⟩
theorem jj.Z(h:jj w e v F xs)(o:gg G w w')(p:∀x∈F,x∉G):jj w' e v F xs:=
 ⟨Gz h.own o λk hk=>p k (by rw[h.fp,hk];simp),h.fp⟩
theorem jj.Y(h:jj w e v F xs)(o:gg [] w w'):jj w' e v F xs:=h.Z o (by simp)
theorem jj.lt(h:jj w e v F xs):∀x∈F,x<w.heap.size:=λx hx=>by
 rw[h.fp]at hx;exact He h.own x (by simpa using hx)
theorem jj.ne_(h:jj w e v F xs){g:Nat}{t:TypeId}{cs:Array Value}(p:gn w g t cs)(o:e≠t):g∉F:=λhm=>by
 rw[h.fp]at hm;exact PH h.own p o (by simpa using hm)
theorem gv.R{g:Nat}(h:gv w e v g xs):jj w e v [g] xs:=⟨h.own 0 (zero_le _),by rw[h.own_block];rfl⟩
theorem jj.cases(h:jj w e v F xs):(v=.slice none 0 0/\xs=[]/\F=[])\/∃g,gv w e v g xs/\F=[g]:=by
 obtain⟨L,p⟩:=h.own;rcases p with⟨rfl,o⟩|⟨g,u,C,rfl,p,o,D,E,I,J⟩
 .exact .inl ⟨rfl,eq_nil_of_length_eq_zero o,by rw[h.fp];rfl⟩
 .refine .inr ⟨g,⟨u,C,rfl,o,D,E,by simpa using I,by simpa using J⟩,by rw[h.fp];rfl⟩
theorem jj.open_(h:jj w e v F xs):∃(A:Option Addr) (o:Nat),v=.slice A xs.length o/\xs.length<=o/\o<=9223372036854775807/\gz (λv=>v) w A xs /\ ∀ad,A=some ad->∃g,ad=⟨g,0,none⟩/\F=[g]/\∀i,w.frozen? ⟨g,i,none⟩=false:=by
 rcases h.cases with⟨rfl,rfl,rfl⟩|⟨g,p,rfl⟩
 .exact⟨none,0,rfl,zQ _,by decide,⟨λh=>by simp at h⟩,λad h=>by cases h⟩
 .have u:=p.lt
  obtain⟨o,rfl,C,D,E,I⟩:=p.open_;exact⟨some ⟨g,0,none⟩,o,rfl,C,by simpa[maxLen]using D,⟨λ_=>⟨g,0,rfl,u,λi a ha=>by
   rw[Nat.zero_add,E i (List.getElem?_eq_some_iff.1 ha).1,ha]⟩⟩,λad h=>by
    injection h with h;exact⟨g,h.symm,rfl,I⟩⟩
end
section
variable {w w':World} {e:TypeId} {v:Value} {F G G':List Nat} {xs:List Value}
theorem jj.alloc(h:jj w e v F xs)(o:Obj):jj (w.alloc o) e v F xs:=h.Y ((zR [] w).alloc o)
theorem jj.drewN(h:jj w e v F xs)(n:Nat):jj (w.drewN n) e v F xs:=h.Y ((zR [] w).drewN n)
theorem jj.drew(h:jj w e v F xs):jj w.drew e v F xs:=h.Y (zR [] w).drew
theorem jj.Q(h:jj w e v F xs){p:Addr}(C:p.block∉F)(u:Value):jj (w.setCell p u) e v F xs:=
 h.Z ((zR [p.block] w).setCell (by simp) u) (by intro x D o;simp at o;subst o;exact C D)
theorem jj.row(h:jj w e v F xs){g n c:Nat}(p:v=.slice g n c):gv w e v g xs/\F=[g]:=by
 rcases h.cases with⟨rfl,_⟩|⟨g',o,rfl⟩
 .cases p
 .have:=o.own_block
  rw[p]at this;simp only[Value.ownBlock]at this;injection this with this;subst this;exact⟨o,rfl⟩
theorem jj.T{α:Type}{f:α->Value}{ds:List α}(h:jj w e v F (ds.map f)):∃(A:Option Addr) (p:Nat),v=.slice A ds.length p/\ds.length<=p/\p<=9223372036854775807/\gz f w A ds:=by
 obtain⟨A,p,u,C,E,I,_⟩:=h.open_;simp only[zE]at u C;refine⟨A,p,u,C,E,⟨λh0=>?_⟩⟩;obtain⟨b,o,D,e2,e3⟩:=I.ex (by simpa using h0);exact⟨b,o,D,e2,λi a ha=>e3 i (f a) (by rw[zW,ha];rfl)⟩
end
theorem gz.map{α β:Type}{f:β->Value}{k:α->β}{w:World}{A:Option Addr}{l:List α}(h:gz f w A (l.map k)):gz (λx=>f (k x)) w A l:=
 ⟨λh0=>by
  obtain⟨b,o,p,e2,e3⟩:=h.ex (by simpa using h0);exact⟨b,o,p,e2,λi a ha=>e3 i (k a) (by rw[zW,ha];rfl)⟩⟩
theorem gz.drewN{α:Type}{f:α->Value}{w:World}{A:Option Addr}{l:List α}(h:gz f w A l)(n:Nat):gz f (w.drewN n) A l:=h.Z ((zR [] w).drewN n) (by simp)
def ib{α:Type}(A:Option Addr)(l:List α)(F:List Nat):Prop:=0<l.length->∀ad,A=some ad->ad.block∉F
section
variable {α:Type} {f:α->Value} {w w':World} {A:Option Addr} {l:List α} {F F':List Nat}
theorem gz.N(h:gz f w A l)(a:ib A l F)(D:gg F w w'):gz f w' A l:=
 ⟨λh0=>by
  obtain⟨u,E,C,p,o⟩:=h.ex h0;exact⟨u,E,C,Nat.lt_of_lt_of_le p D.size,λi x hx=>(World.cell?_of_block (w:=w) (D.block u p (a h0 _ C))).trans (o i x hx)⟩⟩
theorem ib.grow(a:ib A l F)(h:gz f w A l)(g:gE F F' w w'):ib A l F':=λh0 ad e=>by
 obtain⟨C,D,o,p,_⟩:=h.ex h0;have u:=a h0 ad e;rw[e]at o;injection o with o;subst o;exact g.o p u
theorem ib.fresh(h:gz f w A l)(hF:∀x∈F,w.heap.size<=x):ib A l F:=λh0 ad e hm=>by
 obtain⟨u,C,o,p,_⟩:=h.ex h0;rw[e]at o;injection o with o;subst o
 have:=hF _ hm
 simp at this;omega
theorem ib.nil(F:List Nat):ib A ([]:List α) F:=λh=>by simp at h
theorem ib.of{β:Type}{l':List β}(a:ib A l F)(h:l'.length<=l.length):ib A l' F:=λh0=>a (by omega)
theorem ib.to{p:Option Addr}{β:Type}{l':List β}(a:ib A l F)(h:l'.length<=l.length)(D:∀ad,p=some ad->∃o,A=some o/\ad.block=o.block):ib p l' F:=λh0 ad e=>by
 obtain⟨o,u,C⟩:=D ad e;rw[C];exact a (by omega) o u
theorem jj.cells{e:TypeId}{n c:Nat}(h:jj w e (.slice A n c) F (l.map f)):gz f w A l:=by
 obtain⟨u,C,o,_,_,p⟩:=h.T;injection o with o;subst o;exact p
theorem jj.apt{β:Type}{l':List β}{e:TypeId}{n c:Nat}{xs:List Value}(h:jj w e (.slice A n c) F xs)(C:∀x∈F,x∉F'):ib A l' F':=λ_ ad e=>by
 subst e;have E:=h.fp;rcases h.cases with⟨u,_⟩|⟨g,D,rfl⟩
 .cases u
 .obtain⟨p,o,_⟩:=D.open_
  injection o with o;injection o with o;subst o;exact C _ (by simp)
end
section
variable {P:Program}
theorem I4{w:World}{o:Oper}{a:Act}{Q:Exit->Act->World->Prop}(O:o.guard=none){s x:Operand}{t:TypeId}(Y:o.op=.call { callee:=.builtin .append,args:=#[s,x],argTypes:=#[t,t] }){e:TypeId}(E:jx P t e z 1 bytes)(R:z.cells.size=1){v:Value}{F:List Nat}{xs:List Value}(Z:a.eval s=v)(p:jj w e v F xs){ad:Addr}{c:Nat}(news:List Value)(M:a.eval x=.slice (some ad) news.length c)(X:0<news.length)(I:∀j u,news[j]?=some u->w.cell? (ad.add j)=some u)(T:∀u∈news,u.oneCell'=true)(N:xs.length+news.length<=9223372036854775807)(D:(xs.length+news.length)*bytes<=140737488355328)(h:∀g C w',gv w' e (.slice (some ⟨g,0,none⟩) (xs.length+news.length) C) g (xs++news)->gE F [g] w w'->wpList P ops Q rest (a.put o.dst (.slice (some ⟨g,0,none⟩) (xs.length+news.length) C)) w'):wpList P ops Q (o::rest) a w:=by
 refine tP O Y E R (by decide) Z p.own M (news:=news) (by simp) X I T N D ?_;intro g' C w' U S J;obtain⟨aa,V,L⟩:=gv.of_own U rfl;simp only[Value.ownBlock]at L;injection L with L;subst L;rw[<-p.fp]at S;refine h g' C w' V ⟨S,λx M=>?_⟩;simp at M;subst M;rcases J with J|J
 .left;rw[p.fp,<-J];simp
 .exact .inr J
theorem ka{w:World}{o:Oper}{a:Act}{Q:Exit->Act->World->Prop}(I:o.guard=none){s x:Operand}{t:TypeId}(N:o.op=.call { callee:=.builtin .append,args:=#[s,x],argTypes:=#[t,t] }){e:TypeId}(E:jx P t e z 1 bytes)(J:z.cells.size=1){v:Value}{F:List Nat}{xs:List Value}(O:a.eval s=v)(C:jj w e v F xs){c:Nat}(u:Value)(S:a.eval x=.slice B 1 c)(R:w.cell? B=some u)(L:u.oneCell'=true)(p:(xs.length+1)*bytes<=140737488355328)(M:xs.length<9223372036854775807)(h:∀g cap w',gv w' e (.slice (some ⟨g,0,none⟩) (xs.length+1) cap) g (xs++[u])->gE F [g] w w'->wpList P ops Q rest (a.put o.dst (.slice (some ⟨g,0,none⟩) (xs.length+1) cap)) w'):wpList P ops Q (o::rest) a w:=by
 refine I4 I N E J O C [u] S (by simp) ?_ (by simpa using L) (by simp;omega) (by simpa using p) h;intro j T D
 match j,D with
 | 0,D=>simp at D;subst D;simpa[Addr.add]using R
theorem rL{w:World}{o:Oper}{a:Act}{Q:Exit->Act->World->Prop}{E0:Prop}(N:o.guard=none){s x:Operand}{t:TypeId}(X:o.op=.call { callee:=.builtin .append,args:=#[s,x],argTypes:=#[t,t] }){e:TypeId}(E:jx P t e z 1 bytes)(O:z.cells.size=1){v:Value}{F:List Nat}{xs:List Value}(Y:a.eval s=v)(p:jj w e v F xs){c:Nat}(u:Value)(M:a.eval x=.slice B 1 c)(Z:w.cell? B=some u)(S:u.oneCell'=true)(D:(xs.length+1)*bytes<=140737488355328)(V:xs.length<9223372036854775807)(h:∀g C w',gv w' e (.slice (some ⟨g,0,none⟩) (xs.length+1) C) g (xs++[u])->gE F [g] w w'->K (a.put o.dst (.slice (some ⟨g,0,none⟩) (xs.length+1) C)) w'):if Region.wanted o (yielded ops a.tmps)=true then Oper.wp P o a w K Q else E0:=by
 rw[if_pos (by simp[Region.wanted,N])];refine CL X E O (by decide) Y p.own M (news:=[u]) (by simp) (by decide) ?_ (by simpa using S) (by omega) D ?_
 .intro j u' L
  match j,L with
  | 0,L=>simp at L;subst L;simpa[Addr.add]using Z
 .intro g' C w' T R I
  obtain⟨aa,U,J⟩:=gv.of_own T rfl;simp only[Value.ownBlock]at J;injection J with J;subst J;rw[<-p.fp]at R;refine h g' C w' U ⟨R,λx M=>?_⟩;simp at M;subst M;rcases I with I|I
  .left;rw[p.fp,<-I];simp
  .exact .inr I
end
def bt(bs:List Nat)(k:Nat):Nat:=bs.getD k 0
def j6(bs:List Nat)(i:Nat):Nat:=
 bt bs (8*i)*128+bt bs (8*i+1)*64+bt bs (8*i+2)*32+bt bs (8*i+3)*16+bt bs (8*i+4)*8+bt bs (8*i+5)*4+bt bs (8*i+6)*2+bt bs (8*i+7)
def iD(bs:List Nat):List Nat:=(range ((bs.length+7) / 8)).map (j6 bs)
theorem ox(bs:List Nat):(iD bs).length=(bs.length+7) / 8:=by simp[iD]
theorem o4{k:Nat}(h:bs.length<=k):bt bs k=0:=by
 unfold bt;rw[zD,getElem?_eq_none h];rfl
theorem Gf(bs:List Nat)(b k:Nat):bt (bs++[b]) k=if k<bs.length then bt bs k else if k=bs.length then b else 0:=by
 by_cases h:k<bs.length
 .rw[if_pos h]
  unfold bt;rw[zD,zD,getElem?_append_left h]
 .rw[if_neg h]
  by_cases h2:k=bs.length
  .rw[if_pos h2,h2]
   unfold bt;rw[zD,zS (zQ _)];simp
  .rw[if_neg h2]
   exact o4 (by simp;omega)
theorem CS{b:Nat}(h:8*i+8<=bs.length):j6 (bs++[b]) i=j6 bs i:=by
 unfold j6;simp only[Gf];rw[if_pos (by omega),if_pos (by omega),if_pos (by omega),if_pos (by omega),if_pos (by omega),if_pos (by omega),if_pos (by omega),if_pos (by omega)]
theorem CT{b:Nat}(p:bs.length=8*i+r)(C:r<8):j6 (bs++[b]) i=j6 bs i+b*2^(7-r):=by
 have z:∀j,r<=j->bt bs (8*i+j)=0:=λj hj=>o4 (by omega);have s:∀j,bt (bs++[b]) (8*i+j)=if j<r then bt bs (8*i+j)else if j=r then b else 0:=λj=>by
  rw[Gf,p];by_cases h1:j<r
  .rw[if_pos h1,if_pos (by omega)]
  .rw[if_neg h1,if_neg (by omega)]
   by_cases h2:j=r
   .rw[if_pos h2,if_pos (by omega)]
   .rw[if_neg h2,if_neg (by omega)]
 have o:=s 0;have u:=z 0;simp only[Nat.add_zero]at o u;unfold j6;rw[o,s 1,s 2,s 3,s 4,s 5,s 6,s 7];have D:=z 1;have E:=z 2;have I:=z 3;have J:=z 4;have L:=z 5;have M:=z 6;have N:=z 7;clear o s z p;obtain rfl|rfl|rfl|rfl|rfl|rfl|rfl|rfl:r=0\/r=1\/r=2\/r=3\/r=4\/r=5\/r=6\/r=7:=by omega
 all_goals
  simp at *;omega
theorem Dx(o:bs.length=8*i+r)(u:r<8):j6 bs i%2^(8-r)=0:=by
 have z:∀j,r<=j->bt bs (8*i+j)=0:=λj hj=>o4 (by omega);have p:=z 0;simp only[Nat.add_zero]at p;have C:=z 1;have D:=z 2;have E:=z 3;have I:=z 4;have J:=z 5;have L:=z 6;have M:=z 7;unfold j6;clear z o;obtain rfl|rfl|rfl|rfl|rfl|rfl|rfl|rfl:r=0\/r=1\/r=2\/r=3\/r=4\/r=5\/r=6\/r=7:=by omega
 all_goals
  simp at *;omega
theorem D9(h:∀b∈bs,b<2)(i:Nat):j6 bs i<256:=by
 have s:∀k,bt bs k<=1:=λk=>by
  unfold bt;rw[zD]
  cases e:bs[k]? with
  | none=>simp
  | some v=>have := h v (mem_of_getElem? e);simp;omega
 unfold j6
 have:=s (8*i)
 have:=s (8*i+1)
 have:=s (8*i+2)
 have:=s (8*i+3)
 have:=s (8*i+4)
 have:=s (8*i+5)
 have:=s (8*i+6)
 have:=s (8*i+7)
 omega
theorem LL{b:Nat}(h:bs.length%8=0):iD (bs++[b])=iD bs++[b*128]:=by
 obtain⟨i,o⟩:∃i,bs.length=8*i+0:=⟨bs.length / 8,by omega⟩;unfold iD;have p:((bs++[b]).length+7) / 8=i+1:=by simp;omega
 have e2:(bs.length+7) / 8=i:=by omega
 rw[p,e2,range_succ,zM]
 congr 1
 .refine map_congr_left λk hk=>CS ?_
  have:=List.mem_range.1 hk
  omega
 .have C:=Dx o (by omega)
  have u:j6 bs i=0:=by
   unfold j6;rw[o4 (by omega),o4 (by omega),o4 (by omega),o4 (by omega),o4 (by omega),o4 (by omega),o4 (by omega),o4 (by omega)]
  simp[CT o (by omega),u]
theorem MS{b:Nat}(h:bs.length%8≠0):iD (bs++[b])=(iD bs).set (bs.length / 8) (j6 bs (bs.length / 8)+b*2^(7-bs.length%8)):=by
 have u:bs.length=8*(bs.length / 8)+bs.length%8:=by omega
 have o:((bs++[b]).length+7) / 8=bs.length / 8+1:=by simp;omega
 have e2:(bs.length+7) / 8=bs.length / 8+1:=by omega
 have p:=CT (b:=b) u (by omega);unfold iD;rw[o,e2,range_succ,zM,zM,set_append_right _ _ (by simp)]
 congr 1
 .refine map_congr_left λk hk=>CS ?_
  have:=List.mem_range.1 hk
  omega
 .simp[p]
theorem PG{k:Nat}(h:x%2^k=0)(o:y<2^k):x ||| y=x+y:=by
 obtain⟨q,rfl⟩:=dvd_of_mod_eq_zero h;exact(two_pow_add_eq_or_of_lt o q).symm
theorem PF{b:Nat}(o:bs.length=8*i+r)(u:r<8)(C:b<2):j6 bs i ||| (b*2^(7-r))=j6 bs i+b*2^(7-r):=by
 refine PG (Dx o u) ?_;have e:8-r=(7-r)+1:=by omega
 have D:0<2^(7-r):=Nat.two_pow_pos _;rw[e,Nat.pow_succ];generalize 2^(7-r)=p at *;obtain rfl|rfl:b=0\/b=1:=by omega
 all_goals omega
def gx(v:Nat):Nat->List Nat
 | 0=>[]
 | n+1=>(v / 2^n%2)::gx v n
theorem gH(v:Nat):∀n,(gx v n).length=n
 | 0=>rfl
 | n+1=>by rw[gx,zK,gH v n]
def gU(v:Int)(d:Nat):Int:=v%2^d
def ii(v:Int)(d:Nat):Int:=if 2^(d-1)<=gU v d then gU v d-2^d else gU v d
theorem ke(d:Nat):(0:Int)<2^d:=Int.pow_pos (by decide)
theorem sF(o:1<=d):(2:Int)^d=2*2^(d-1):=by
 obtain⟨e,rfl⟩:∃e,d=e+1:=⟨d-1,by omega⟩;rw[Nat.add_sub_cancel,Int.pow_succ];omega
theorem jK(v:Int)(d:Nat):0<=gU v d:=Int.emod_nonneg _ (by have:=ke d;omega)
theorem jJ(v:Int)(d:Nat):gU v d<2^d:=Int.emod_lt_of_pos _ (ke d)
theorem rf{v:Int}(o:0<=v)(p:v<2^d):gU v d=v:=Int.emod_eq_of_lt o p
theorem om(v:Int)(o:1<=d):-2^(d-1)<=ii v d/\ii v d<2^(d-1):=by
 have C:=jK v d;have D:=jJ v d;have E:=sF o;unfold ii;generalize gU v d=u at *;generalize (2:Int)^(d-1)=p at *;generalize (2:Int)^d=q at *;split<;>omega
theorem vW(v:Int)(d:Nat):gU (ii v d) d=gU v d:=by
 unfold ii;split
 .unfold gU
  rw[<-Int.emod_add_mul_ediv (v%2^d-2^d) (2^d)]
  have:(v%2^d-2^d)%2^d=v%2^d:=by
   rw[Int.sub_emod,Int.emod_self,Int.emod_emod];simp
  rw[Int.emod_add_mul_ediv,this]
 .unfold gU
  rw[Int.emod_emod]
theorem Fd{v:Int}(o:1<=d)(p : -2^(d-1)<=v)(u:v<2^(d-1)):ii v d=v:=by
 have C:=sF o;by_cases hv:0<=v
 .unfold ii
  rw[rf hv (by omega),if_neg (by omega)]
 .have e:gU v d=v+2^d:=by
   unfold gU;rw[<-Int.add_emod_right];exact Int.emod_eq_of_lt (by omega) (by omega)
  unfold ii;rw[e,if_pos (by omega)];omega
theorem qX(a b:Int)(d:Nat):gU (a+gU b d) d=gU (a+b) d:=by
 unfold gU;rw[Int.add_emod,Int.emod_emod,<-Int.add_emod]
theorem Dp{s g:Int}(o:0<=s)(p:s<2^d):gU (g+ii (s-g) d) d=s:=by
 rw[<-qX,vW,qX]
 have:g+(s-g)=s:=by omega
 rw[this];exact rf o p
theorem KR{s g:Int}(o:0<=s)(p:s<2^d):gU (gU (s-g) d+g) d=s:=by
 rw[Int.add_comm,qX]
 have:g+(s-g)=s:=by omega
 rw[this];exact rf o p
theorem Jm(v:Int)(d:Nat):gU (-ii v d) d=gU (-v) d:=by
 have h:=vW v d;unfold gU at *;rw[Int.neg_emod_eq_sub_emod,Int.neg_emod_eq_sub_emod (a:=v)];rw[Int.sub_emod,h,<-Int.sub_emod]
theorem JK{s g:Int}(o:0<=s)(p:s<2^d):gU (g + -ii (-ii (s-g) d) d) d=s:=by
 rw[<-qX,Jm,Int.neg_neg,vW,qX]
 have:g+(s-g)=s:=by omega
 rw[this];exact rf o p
def kM(x:Int):Nat:=if 0<=x then(2*x).toNat else(-2*x-1).toNat
def jr(u:Nat):Int:=if u%2=0 then(u / 2:Nat)else -((u / 2:Nat):Int)-1
theorem Cq(x:Int):jr (kM x)=x:=by
 unfold kM jr;split<;>split<;>omega
theorem JG(u:Nat):kM (jr u)=u:=by
 unfold kM jr;split<;>split<;>omega
def iy(x:Int):Prop:=-1073741824<=x/\x<1073741824
theorem Bc{x:Int}(h:iy x):kM x<2147483648:=by
 unfold iy at h;unfold kM;split<;>omega
def qf(k:Nat)(x:Int):Nat:=if kM x / 2^k<32 then kM x / 2^k+1+k else 65
def jp(k:Nat)(x:Int):List Nat:=
 if kM x / 2^k<32 then replicate (kM x / 2^k) 0++1::gx (kM x%2^k) k
 else replicate 32 0++1::gx (kM x) 32
theorem qy(k:Nat)(x:Int):(jp k x).length=qf k x:=by
 unfold jp qf;split
 .simp[gH];omega
 .simp[gH]
theorem pN(k:Nat)(x:Int)(o:k<=25):qf k x<=65:=by unfold qf;split<;>omega
def kr(k:Nat)(l:List Int):Nat:=(l.map (qf k)).sum
def jl(k:Nat)(l:List Int):List Nat:=l.flatMap (jp k)
theorem J8(k:Nat)(l:List Int):(jl k l).length=kr k l:=by
 induction l with
 | nil=>rfl
 | cons x l ih=>simp only[jl,kr,flatMap_cons,zC,map_cons,sum_cons,qy]at *;omega
theorem GK(k:Nat)(l:List Int)(o:k<=25):kr k l<=65*l.length:=by
 induction l with
 | nil=>simp[kr]
 | cons x l ih=>have := pN k x o;simp only[kr,map_cons,sum_cons,zK]at *;omega
def oV(l:List Int):Nat->Nat
 | 0=>0
 | n+1=>if kr (n+1) l<kr (oV l n) l then n+1 else oV l n
def j8(l:List Int):Nat:=oV l 25
theorem CP(l:List Int):∀n,oV l n<=n
 | 0=>zQ _
 | n+1=>by
  have:=CP l n
  unfold oV;split<;>omega
theorem q8(l:List Int):j8 l<=25:=CP l 25
def ie(d:Nat)(l:List Int):Prop:=∀s∈l,0<=s/\s<2^d
structure mS where
 w:Int
 n:Int
 nw:Int
 ne:Int
def iC(l:List Int)(w x y:Nat):mS:=
  if y=0 then(if x=0 then⟨0,0,0,0⟩else⟨l.getD (y*w+x-1) 0,l.getD (y*w+x-1) 0,l.getD (y*w+x-1) 0,l.getD (y*w+x-1) 0⟩)
  else ⟨if 0 < x then l.getD (y * w + x - 1) 0 else l.getD (y * w + x - w) 0, l.getD (y * w + x - w) 0,
        if 0<x then l.getD (y*w+x-w-1) 0 else l.getD (y*w+x-w) 0,if x<w-1 then l.getD (y*w+x-w+1) 0 else l.getD (y*w+x-w) 0⟩
theorem DH{w:Nat}(o:y≠0):w<=y*w:=Nat.le_mul_of_pos_left w (by omega)
theorem ML{l l':List Int}{w:Nat}(p:x<w)(h:∀i,i<y*w+x->l.getD i 0=l'.getD i 0):iC l w x y=iC l' w x y:=by
 unfold iC;by_cases hy:y=0
 .rw[if_pos hy,if_pos hy]
  by_cases hx0:x=0
  .rw[if_pos hx0,if_pos hx0]
  .rw[if_neg hx0,if_neg hx0,h _ (by omega)]
 .have o:=DH (w:=w) hy
  rw[if_neg hy,if_neg hy,h (y*w+x-w) (by omega)]
  congr 1
  .by_cases hx0:0<x
   .rw[if_pos hx0,if_pos hx0,h _ (by omega)]
   .rw[if_neg hx0,if_neg hx0]
  .by_cases hx0:0<x
   .rw[if_pos hx0,if_pos hx0,h _ (by omega)]
   .rw[if_neg hx0,if_neg hx0]
  .by_cases hx0:x<w-1
   .rw[if_pos hx0,if_pos hx0,h _ (by omega)]
   .rw[if_neg hx0,if_neg hx0]
structure tj (d:Nat) (g:mS):Prop where
 w:0<=g.w/\g.w<2^d
 n:0<=g.n/\g.n<2^d
 nw:0<=g.nw/\g.nw<2^d
 ne:0<=g.ne/\g.ne<2^d
theorem mZ{l:List Int}(h:ie d l)(i:Nat):0<=l.getD i 0/\l.getD i 0<2^d:=by
 have o:=ke d;rw[zD]
 cases e:l[i]? with
 | none=>simp[o]
 | some v=>exact h v (mem_of_getElem? e)
theorem qL{l:List Int}(h:ie d l)(w x y:Nat):tj d (iC l w x y):=by
 have o:=ke d;unfold iC;split
 .split
  .exact⟨⟨Int.le_refl _,o⟩,⟨Int.le_refl _,o⟩,⟨Int.le_refl _,o⟩,⟨Int.le_refl _,o⟩⟩
  .exact⟨mZ h _,mZ h _,mZ h _,mZ h _⟩
 .refine⟨?_,mZ h _,?_,?_⟩
  all_goals
   simp only;split
   all_goals exact mZ h _
def kS(a b:Int):Int:=if a<b then b-a else a-b
def uz(t a b c:Int):Int:=
 if kS c t<kS (if kS b t<kS a t then b else a) t then c else if kS b t<kS a t then b else a
def jV(kind:Nat)(g:mS)(d:Nat):Int:=
 match kind with
 | 1=>g.w
 | 2=>g.n
 | 3=>g.nw
 | 4=>g.ne
 | 5=>(g.w+g.n) / 2
 | 6=>uz (g.w+g.n-g.nw) g.w g.n g.nw
 | 7=>max (min g.w g.n) (min (max g.w g.n) (g.w+g.n-g.nw))
 | 8=>min (max (g.w+g.n-g.nw) 0) (2^d-1)
 | 9=>(g.w+g.n+g.nw+g.ne+2) / 4
 | _=>0
theorem sN{g:mS}(h:tj d g)(kind:Nat):0<=jV kind g d/\jV kind g d<2^d:=by
  obtain⟨⟨o,u⟩,⟨C,D⟩,⟨c1,c2⟩,⟨E,e2⟩⟩:=h;have I:=ke d;unfold jV uz;generalize (2:Int)^d=p at *;split
  all_goals first
    | omega
    | (split
       · omega
       · split<;>omega)
theorem Gc(v:Int)(I:i<=62):bits .and .i64 v (2^i-1)=v%2^i:=by
 have p:0<2^i:=Nat.two_pow_pos i;have L:2^i<=2^62:=Nat.pow_le_pow_right (by decide) I;have E:((2:Int)^i-1)=((2^i-1:Nat):Int):=by rw[Int.natCast_sub p];simp
 have o:((2:Int)^i)∣2^64:=by
  obtain⟨j,J⟩:∃j,64=i+j:=⟨64-i,by omega⟩;rw[J,Int.pow_add];exact Int.dvd_mul_right _ _
 have D:0<=v%2^64:=Int.emod_nonneg _ (by decide);have u:(BitVec.ofInt 64 v).toNat=(v%2^64).toNat:=by simp[BitVec.toNat_ofInt]
 have e2:(BitVec.ofInt 64 ((2^i-1:Nat):Int)).toNat=2^i-1:=by
  rw[BitVec.ofInt_natCast,BitVec.toNat_ofNat];exact mod_eq_of_lt (by omega)
 have e3:(BitVec.ofInt 64 v &&& BitVec.ofInt 64 ((2^i-1:Nat):Int)).toNat=(v%2^64).toNat%2^i:=by
  rw[BitVec.toNat_and,u,e2,and_two_pow_sub_one_eq_mod]
 have e4:(((v%2^64).toNat%2^i:Nat):Int)=v%2^i:=by
  rw[Int.natCast_emod,Int.toNat_of_nonneg D];simp only[Int.natCast_pow];exact Int.emod_emod_of_dvd v o
 have C:bits .and .i64 v ((2^i-1:Nat):Int)=IntKind.i64.wrap (((BitVec.ofInt 64 v &&& BitVec.ofInt 64 ((2^i-1:Nat):Int)).toNat:Nat):Int):=rfl;rw[E,C,e3,e4];exact IntWalk.i64_in _ (by omega)
theorem CO{v:Int}(o:0<=v)(u:v<18446744073709551616)(p:i<=64):bits .and .u64 v (2^i-1)=v%2^i:=
 bits_mask .u64 64 (by decide) (λn a b=>IntWalk.u64_in _ (by omega)) i p v o (by omega)
theorem Ro(o:x<256)(p:y<256):bits .or .u8 (x:Int) (y:Int)=((x ||| y:Nat):Int):=
 (bits_nat .u8 8 (by decide) wraps_u8 x y o p).2
theorem CR{v b:Nat}(p:v<9223372036854775808)(o:b<2):bits .or .u64 ((2*v:Nat):Int) (b:Int)=((2*v+b:Nat):Int):=by
 rw[bits_join .u64 64 (by decide) (λn a b=>IntWalk.u64_in _ (by omega)) 1 _ _ (by omega) (by omega) (by omega) (by omega) (by omega) (by omega)];omega
theorem Kh{v:Nat}(o:v<256):bits .and .u8 (v:Int) 1=((v%2:Nat):Int):=by
 have:=bits_mask .u8 8 (by decide) wraps_u8 1 (by decide) (v:Int) (by omega) (by omega)
 simpa using this
theorem JM{v:Nat}(o:v<18446744073709551616):bits .and .u64 (v:Int) 1=((v%2:Nat):Int):=by
 have:=bits_mask .u64 64 (by decide) (λn a b=>IntWalk.u64_in _ (by omega)) 1 (by decide) (v:Int) (by omega) (by omega)
 simpa using this
section
variable {P:Program}
theorem IZ{w:World}{t e:TypeId}(E:jx P t e z 1 bytes){v:Value}{F:List Nat}{xs:List Value}(o:jj w e v F xs)(c:Nat):(Builtin.append_ #[t,t] ty #[v,.slice none 0 c]).run P w=.ok v w:=by
 obtain⟨i,p,L,C,I⟩:=E.hi;rcases o.own.2 with⟨rfl,J⟩|⟨g,D,ad,rfl,_,_,u,_⟩
 .simp[Builtin.append_,run_underlying E.ht,sizeOf,typeInfo,p,Builtin.lenOf,Builtin.firstCells]
 .simp[Builtin.append_,run_underlying E.ht,sizeOf,typeInfo,p,Builtin.lenOf,Builtin.firstCells,u,storeCells]
theorem EH{w:World}{t e:TypeId}(E:jx P t e z 1 bytes)(M:z.cells.size=1){v:Value}{F:List Nat}{xs:List Value}(p:jj w e v F xs){A:Option Addr}{c:Nat}(news:List Value)(N:gz (λu=>u) w A news)(S:∀u∈news,u.oneCell'=true)(L:xs.length+news.length<=9223372036854775807)(C:(xs.length+news.length)*bytes<=140737488355328):∃J F' w',(Builtin.append_ #[t,t] ty #[v,.slice A news.length c]).run P w=.ok J w'/\jj w' e J F' (xs++news)/\gE F F' w w':=by
 rcases A with _|ad
 .have D:news=[]:=by
   rcases eq_zero_or_pos news.length with D|D
   .exact eq_nil_of_length_eq_zero D
   .obtain⟨_,_,h,_⟩:=N.ex D
    cases h
  subst D;exact⟨v,F,w,IZ E p c,by simpa using p,gE.refl _ _⟩
 .have O:∀j u,news[j]?=some u->w.cell? (ad.add j)=some u:=λj u hj=>by
   obtain⟨b,o,e,hb,V⟩:=N.ex (by have:=(List.getElem?_eq_some_iff.1 hj).1;omega);injection e with e;subst e;rw[<-V j u hj];unfold Addr.add;split
   .rename_i h;subst h;rfl
   .rfl
  obtain⟨i,X,hz,Q,R⟩:=E.hi;obtain⟨J,w',Z,T,U,h4,I⟩:=run_append_own_at (P:=P) w 0 t ty e i z 1 bytes E.ht X hz Q R M (by decide) v xs.length xs p.own ad news.length c news (by simp) O S (by simpa[maxLen]using L) C (zero_le _);refine⟨J,J.ownBlock.toList,w',Z,⟨by simpa using T,rfl⟩,?_,λx hx=>?_⟩
  .rw[p.fp]
   exact gg.of_grown U (by intro k Y;left;simp[Y])
  .rcases I with I|I
   .left;rw[p.fp,<-I];exact hx
   .right;rw[I]at hx;simp at hx;omega
theorem ns{w:World}{o:Oper}{a:Act}{Q:Exit->Act->World->Prop}(J:o.guard=none){s x:Operand}{t:TypeId}(U:o.op=.call { callee:=.builtin .append,args:=#[s,x],argTypes:=#[t,t] }){e:TypeId}(E:jx P t e z 1 bytes)(M:z.cells.size=1){v:Value}{F:List Nat}{xs:List Value}(V:a.eval s=v)(C:jj w e v F xs){A:Option Addr}{c:Nat}(news:List Value)(n:Nat)(X:a.eval x=.slice A n c)(L:n=news.length)(T:gz (λu=>u) w A news)(O:∀u∈news,u.oneCell'=true)(I:xs.length+news.length<=9223372036854775807)(p:(xs.length+news.length)*bytes<=140737488355328)(h:∀D F' w',jj w' e D F' (xs++news)->gE F F' w w'->wpList P ops Q rest (a.put o.dst D) w'):wpList P ops Q (o::rest) a w:=by
 subst L;refine wpList_plain J λK hK=>?_;obtain⟨D,F',w',N,R,S⟩:=EH (P:=P) (ty:=o.type) E M C (c:=c) news T O I p;unfold Oper.wp execOp;simp only[U,resolve,invoke,builtin,Sem.run_bind,Sem.run_pure,Result.andThen_ok,map_toArray,map_cons,map_nil,V,X,N];exact hK _ _ (h D F' w' R S)
end
theorem th{P:Program}{t e:TypeId}(o:P.underlying t=some (.slice e)):P.elem t=e:=by simp[Program.elem,o]
theorem uh{P:Program}{t e:TypeId}(D:P.underlying t=some (.slice e))(M:∀w,(sizeOf e).run P w=.ok 1 w)(A:Option Addr)(n c p:Nat)(h:p<=n)(L:n<=c):∃A',(∀w,(Instr.slice t (.slice A n c) (some (.int .i64 p)) none none).run P w=.ok (.slice A' (n-p) (c-p)) w) /\ (∀ad,A'=some ad->∃ad0,A=some ad0/\ad.block=ad0.block) /\ ∀(α:Type) (f:α->Value) (w:World) (l:List α),l.length=n->gz f w A l->gz f w A' (l.drop p):=by
 have C:=th D;refine⟨if c=p then A else A.map (·.add (p*1)),λw=>?_,?_,?_⟩
 .rw[run_slice_l (P:=P) (w:=w) t A n c (by rw[C];exact D) .i64 (p:Int) (by omega) (by omega),C,M]
  simp[sliced]
 .intro ad u
  split at u
  .exact⟨ad,u,rfl⟩
  .cases A with
   | none=>simp at u
   | some ad0=>
    simp at u;subst u;refine⟨ad0,rfl,?_⟩;unfold Addr.add;split<;>rfl
 .intro α f w l N J
  refine⟨λh0=>?_⟩;rw[zO]at h0;obtain⟨b,o,rfl,I,E⟩:=J.ex (by omega);rw[if_neg (by omega)];refine⟨b,o+p,?_,I,λi a ha=>?_⟩
  .simp only[Option.map_some,Addr.add,Nat.mul_one]
   split
   .rename_i h;subst h;rfl
   .rfl
  .rw[getElem?_drop]at ha
   have:=E (p+i) a ha
   rwa [<-Nat.add_assoc]at this
theorem gz.take{α:Type}{f:α->Value}{w:World}{A:Option Addr}{l:List α}(h:gz f w A l)(n:Nat):gz f w A (l.take n):=
 ⟨λh0=>by
  rw[zI]at h0;obtain⟨b,o,e,p,u⟩:=h.ex (by omega);refine⟨b,o,e,p,λi a ha=>u i a ?_⟩;rw[getElem?_take]at ha;split at ha
  .exact ha
  .cases ha⟩
def p9(l:List Int)(W d kind y x:Nat):Int:=gU (l.getD (y*W+x) 0-jV kind (iC l W x y) d) d
def lj(l:List Int)(W y d kind:Nat):List Int:=(range W).map (p9 l W d kind y)
theorem uB(l:List Int)(W y d kind:Nat):(lj l W y d kind).length=W:=by simp[lj]
theorem Pk(l:List Int)(W y d kind:Nat):ie d (lj l W y d kind):=by
 intro s o;obtain⟨x,_,rfl⟩:=List.mem_map.1 o;exact⟨jK _ _,jJ _ _⟩
def rg(d:Nat)(v:Int):Int:=kS (ii v d) 0
theorem Ds(h:1<=d)(C:d<=16)(v:Int):0<=rg d v/\rg d v<=32768:=by
 obtain⟨o,p⟩:=om v h;have u:(2:Int)^(d-1)<=2^15:=by
  have:=Nat.pow_le_pow_right (n:=2) (by decide) (show d-1<=15 by omega)
  exact_mod_cast this
 unfold rg kS;split<;>omega
def lB(l:List Int)(d:Nat):Int:=(l.map (rg d)).sum
theorem Ka(l:List Int)(x:Int)(d:Nat):lB (l++[x]) d=lB l d+rg d x:=by simp[lB]
theorem L0(h:1<=d)(o:d<=16)(l:List Int):0<=lB l d/\lB l d<=32768*l.length:=by
 induction l with
 | nil=>simp[lB]
 | cons x l ih=>
  have:=Ds h o x
  have e:lB (x::l) d=rg d x+lB l d:=by simp[lB]
  rw[e,zK];omega
def oD(l:List Int)(W y d:Nat):Nat->Nat
 | 0=>0
 | n+1=>if lB (lj l W y d (n+1)) d<lB (lj l W y d (oD l W y d n)) d then n+1 else oD l W y d n
theorem zy(l:List Int)(W y d:Nat):∀n,oD l W y d n<=n
 | 0=>zQ _
 | n+1=>by
  have:=zy l W y d n
  unfold oD;split<;>omega
def jI(l:List Int)(W H d:Nat):List Nat:=(range H).map (λy=>oD l W y d 9)
theorem sD(l:List Int)(W H d:Nat):(jI l W H d).length=H:=by simp[jI]
theorem vJ(l:List Int)(W H d:Nat):∀k∈jI l W H d,k<10:=by
 intro k o;obtain⟨y,_,rfl⟩:=List.mem_map.1 o
 have:=zy l W y d 9
 omega
def nf(l:List Int)(W H d:Nat)(ks:List Nat):List Int:=(range H).flatMap (λy=>lj l W y d (ks.getD y 0))
theorem Cc{α β:Type}(f:α->List β)(n:Nat)(l:List α)(h:∀a∈l,(f a).length=n):(l.flatMap f).length=n*l.length:=by
 induction l with
 | nil=>simp
 | cons a l ih=>
  rw[flatMap_cons,zC,h a (by simp),ih λb hb=>h b (by simp[hb]),zK,Nat.mul_add];omega
theorem Ab(l:List Int)(W H d:Nat)(ks:List Nat):(nf l W H d ks).length=W*H:=by
 unfold nf;rw[Cc _ W _ λy _=>uB _ _ _ _ _,length_range]
theorem Fe(l:List Int)(W H d:Nat)(ks:List Nat):ie d (nf l W H d ks):=by
 intro s o;obtain⟨y,_,p⟩:=List.mem_flatMap.1 o;exact Pk _ _ _ _ _ s p
def ia(done:List Int)(n:Nat):List Int:=done++replicate (n-done.length) 0
theorem nM{n:Nat}(h:done.length<=n):(ia done n).length=n:=by simp[ia];omega
theorem sX{n:Nat}(h:done.length<n)(v:Int):(ia done n).set done.length v=ia (done++[v]) n:=by
 unfold ia;obtain⟨k,p⟩:∃k,n-done.length=k+1:=⟨n-done.length-1,by omega⟩;have o:n-(done++[v]).length=k:=by simp;omega
 rw[p,o,set_append_right _ _ (zQ _),Nat.sub_self];simp[replicate_succ]
theorem q7{n:Nat}(h:done.length=n):ia done n=done:=by simp[ia,h]
theorem BD(n:Nat):ia [] n=replicate n 0:=by simp[ia]
def zr:Nat->List Nat->Nat
 | 0,_=>0
 | _+1,[]=>0
 | m+1,x::l=>if x=0 then zr m l+1 else 0
theorem Hq(m:Nat):∀l,zr m l<=m:=by
 induction m with
 | zero=>intro l;simp[zr]
 | succ m ih=>
  intro l
  cases l with
  | nil=>simp[zr]
  | cons x l=>
   unfold zr;split
   .have:=ih l;omega
   .omega
theorem xP(m:Nat):∀l,zr m l<=l.length:=by
 induction m with
 | zero=>intro l;simp[zr]
 | succ m ih=>
  intro l
  cases l with
  | nil=>simp[zr]
  | cons x l=>
   unfold zr;split
   .have:=ih l;simp;omega
   .simp
theorem GR(m:Nat):∀(l:List Nat) (z:Nat),z<zr m l->l.getD z 0=0:=by
 induction m with
 | zero=>intro l z h;simp[zr]at h
 | succ m ih=>
  intro l z h
  cases l with
  | nil=>simp
  | cons x l=>
   unfold zr at h;split at h
   .rename_i hx
    cases z with
    | zero=>simpa using hx
    | succ z=>
     have:=ih l z (by omega)
     simpa using this
   .omega
theorem Pv(m:Nat):∀(l:List Nat),zr m l=m\/zr m l=l.length\/l.getD (zr m l) 0≠0:=by
 induction m with
 | zero=>intro l;left;simp[zr]
 | succ m ih=>
  intro l
  cases l with
  | nil=>right;left;simp[zr]
  | cons x l=>
   unfold zr;split
   .rcases ih l with h|h|h
    .left;omega
    .right;left;simp;omega
    .right;right;simpa using h
   .rename_i hx
    right;right;simpa using hx
def nt:Nat->List Nat->List Nat
 | 0,_=>[]
 | _+1,[]=>[]
 | f+1,x::l=>
  if zr 66 (x::l)<3 then gx x 5++nt f l else gx 31 5++(gx (zr 66 (x::l)-3) 6++nt f ((x::l).drop (zr 66 (x::l))))
def ou(lens:List Nat):List Nat:=gx (lens.length-1) 10++nt lens.length lens
theorem xh:∀(f g:Nat) (l:List Nat),l.length<=f->l.length<=g->nt f l=nt g l
 | 0,g,l,h,_=>by
  obtain rfl:l=[]:=eq_nil_of_length_eq_zero (by omega);cases g<;>rfl
 | f+1,0,l,_,h=>by
  obtain rfl:l=[]:=eq_nil_of_length_eq_zero (by omega);rfl
 | f+1,g+1,[],_,_=>rfl
 | f+1,g+1,x::l,h1,h2=>by
  simp only[zK]at h1 h2;unfold nt;split
  .rw[xh f g l (by omega) (by omega)]
  .rw[xh f g _ (by rw[zO,zK];omega) (by rw[zO,zK];omega)]
theorem D8(f x:Nat)(l:List Nat):nt (f+1) (x::l) = if zr 66 (x::l)<3 then gx x 5++nt f l else gx 31 5++(gx (zr 66 (x::l)-3) 6++nt f ((x::l).drop (zr 66 (x::l)))):=rfl
def mU(lens:List Nat)(i:Nat):List Nat:=nt lens.length (lens.drop i)
theorem Ct(lens:List Nat):mU lens lens.length=[]:=by
 unfold mU;rw[drop_length];cases lens.length<;>rfl
theorem Cu(o:i<lens.length)(p:zr 66 (lens.drop i)<3):mU lens i=gx (gO lens i) 5++mU lens (i+1):=by
 unfold mU;have e:lens.drop i=lens[i]::lens.drop (i+1):=drop_eq_getElem_cons o;rw[e]at p⊢;obtain⟨f,u⟩:∃f,lens.length=f+1:=⟨lens.length-1,by omega⟩;have C:gO lens i=lens[i]:=by unfold gO;rw[zD,zF o];rfl
 rw[C];rw[u,D8,if_pos p,xh f (f+1) _ (by rw[zO];omega) (by rw[zO];omega)]
theorem Ci(u:i<lens.length)(o:¬zr 66 (lens.drop i)<3):mU lens i=gx 31 5++(gx (zr 66 (lens.drop i)-3) 6++mU lens (i+zr 66 (lens.drop i))):=by
 unfold mU;have e:lens.drop i=lens[i]::lens.drop (i+1):=drop_eq_getElem_cons u;have e2:lens.drop (i+zr 66 (lens.drop i))=(lens.drop i).drop (zr 66 (lens.drop i)):=by rw[drop_drop]
 rw[e2];rw[e]at o⊢;obtain⟨f,p⟩:∃f,lens.length=f+1:=⟨lens.length-1,by omega⟩;rw[p,D8,if_neg o,xh f (f+1) _ (by rw[zO,zK,zO];omega) (by rw[zO,zK,zO];omega)]
theorem CI(lens:List Nat):ou lens=gx (lens.length-1) 10++mU lens 0:=rfl
theorem AE:∀(f:Nat) (l:List Nat),(nt f l).length<=11*l.length
 | 0,l=>by simp[nt]
 | f+1,[]=>by simp[nt]
 | f+1,x::l=>by
  unfold nt;split
  .have:=AE f l
   rw[zC,gH,zK];omega
  .have:=AE f ((x::l).drop (zr 66 (x::l)))
   rw[zC,zC,gH,gH];rw[zO]at this
   have:=xP 66 (x::l)
   omega
theorem yC(lens:List Nat):(ou lens).length<=10+11*lens.length:=by
 unfold ou
 have:=AE lens.length lens
 rw[zC,gH];omega
def ri(lens:List Nat)(s:Nat):List Nat:=gx (lS lens s) (gO lens s)
def kx(lens:List Nat)(l:List Nat):List Nat:=l.flatMap (ri lens)
theorem JI(lens l:List Nat)(s:Nat):kx lens (l++[s])=kx lens l++ri lens s:=by simp[kx]
structure jy (w:World) (e:TypeId) (k:Nat) (v:Value) (F:List Nat) (n:Nat) (xs:List Value):Prop where
 own:w.ownsRow 0 e k v n xs
 fp:F=v.ownBlock.toList
section
variable {w w':World} {e:TypeId} {k n:Nat} {v:Value} {F G:List Nat} {xs:List Value}
theorem jy.nil(w:World)(e:TypeId)(k:Nat):jy w e k (.slice none 0 0) [] 0 []:=⟨World.ownsRow_nil _ 0 _ _,rfl⟩
theorem jy.Z(h:jy w e k v F n xs)(o:gg G w w')(p:∀x∈F,x∉G):jy w' e k v F n xs:=
 ⟨Gz h.own o λy hy=>p y (by rw[h.fp,hy];simp),h.fp⟩
theorem jy.Y(h:jy w e k v F n xs)(o:gg [] w w'):jy w' e k v F n xs:=h.Z o (by simp)
theorem jy.lt(h:jy w e k v F n xs):∀x∈F,x<w.heap.size:=λx hx=>by
 rw[h.fp]at hx;exact He h.own x (by simpa using hx)
theorem jy.open_(h:jy w e k v F n xs):∃(A:Option Addr) (o:Nat),v=.slice A n o/\n<=o/\o<=9223372036854775807/\gz (λv=>v) w A xs /\ ∀ad,A=some ad->∃g,ad=⟨g,0,none⟩/\F=[g]/\∀i,w.frozen? ⟨g,i,none⟩=false:=by
 obtain⟨⟨J,E⟩,D⟩:=h;rcases E with⟨rfl,rfl⟩|⟨g,o,cur,rfl,_,I,L,u,M,C⟩
 .exact⟨none,0,rfl,zQ _,by decide,⟨λh=>by rw[J]at h;simp at h⟩,λad h=>by cases h⟩
 .have p:gn w g e cur:=I
  refine⟨some ⟨g,0,none⟩,o,rfl,L,by simpa[maxLen]using u,⟨λ_=>⟨g,0,rfl,p.lt,λi a ha=>?_⟩⟩,λad h=>?_⟩
  .rw[Nat.zero_add,p.X]
   have N:i<xs.length:=(List.getElem?_eq_some_iff.1 ha).1;rw[<-C,getElem?_take,if_pos (by omega)]at ha
   simpa using ha
  .injection h with h
   exact⟨g,h.symm,D,p.U⟩
theorem jy.shape(h:jy w e k v F n xs):∃A cap,v=.slice A n cap:=by
 obtain⟨A,cap,o,_⟩:=h.open_;exact⟨A,cap,o⟩
end
section
variable {P:Program}
theorem vR{w:World}{o:Oper}{a:Act}{Q:Exit->Act->World->Prop}(M:o.guard=none){s x:Operand}{t:TypeId}(V:o.op=.call { callee:=.builtin .append,args:=#[s,x],argTypes:=#[t,t] }){e:TypeId}{k:Nat}(E:jx P t e z k bytes)(N:z.cells.size=k)(U:0<k){v:Value}{F:List Nat}{n:Nat}{xs:List Value}(X:a.eval s=v)(p:jy w e k v F n xs){ad:Addr}{c:Nat}(news:List Value)(L:a.eval x=.slice (some ad) 1 c)(Y:news.length=k)(I:∀j u,news[j]?=some u->w.cell? (ad.add j)=some u)(R:∀u∈news,u.oneCell'=true)(T:n<9223372036854775807)(D:(n+1)*bytes<=140737488355328)(h:∀g C w',jy w' e k (.slice (some ⟨g,0,none⟩) (n+1) C) [g] (n+1) (xs++news)->gE F [g] w w'->wpList P ops Q rest (a.put o.dst (.slice (some ⟨g,0,none⟩) (n+1) C)) w'):wpList P ops Q (o::rest) a w:=by
 refine tP M V E N U X p.own L (news:=news) (by omega) (by decide) I R (by omega) D ?_;intro g' C w' S O J;rw[<-p.fp]at O;refine h g' C w' ⟨S,rfl⟩ ⟨O,λx L=>?_⟩;simp at L;subst L;rcases J with J|J
 .left;rw[p.fp,<-J];simp
 .exact .inr J
end
def i7(x:Int):Int:=if x<0 then -x else x
def ry(u:Int):Int:=if u<3 then 1 else if u<7 then 2 else if u<21 then 3 else 4
def jz(g:Int)(d:Nat):Int:=if g=0 then 0 else if g<0 then -ry (i7 g*256 / 2^d)else ry (i7 g*256 / 2^d)
theorem OG(u:Int):1<=ry u/\ry u<=4:=by unfold ry;split<;>(try split)<;>(try split)<;>omega
theorem Rc(g:Int)(d:Nat):-4<=jz g d/\jz g d<=4:=by
 have:=OG (i7 g*256 / 2^d)
 unfold jz;split
 .omega
 .split<;>omega
def sm(g:mS)(d:Nat):Int:=81*jz (g.ne-g.n) d+9*jz (g.n-g.nw) d+jz (g.nw-g.w) d
def qk(g:mS)(d:Nat):Nat:=(i7 (sm g d)).toNat
def si(g:mS)(d:Nat):Bool:=decide (sm g d<0)
def pY(g:mS)(d:Nat):Int:=i7 (jz (g.ne-g.n) d)+i7 (jz (g.n-g.nw) d)+i7 (jz (g.nw-g.w) d)
theorem uJ(g:mS)(d:Nat):qk g d<365:=by
 have o:=Rc (g.ne-g.n) d;have p:=Rc (g.n-g.nw) d;have u:=Rc (g.nw-g.w) d;unfold qk sm i7;split<;>omega
theorem Ea(g:mS)(d:Nat):0<=pY g d/\pY g d<=12:=by
 have o:=Rc (g.ne-g.n) d;have p:=Rc (g.n-g.nw) d;have u:=Rc (g.nw-g.w) d;unfold pY i7;split<;>split<;>split<;>omega
structure ir where
 n:Int
 a:Int
 b:Int
 c:Int
structure qI (s:ir):Prop where
 n0:1<=s.n
 n1:s.n<=64
 a0:0<=s.a
 a1:s.a<=32768*s.n
 b0 : -s.n<s.b
 b1:s.b<=0
 c0 : -128<=s.c
 c1:s.c<=127
def xV(d:Nat):Int:=max 2 ((2^d+32) / 64)
def oX(d:Nat):ir:=⟨1,xV d,0,0⟩
theorem LJ(h:(2:Int)^d<=65536):qI (oX d):=by
 have:=ke d
 refine⟨?_,?_,?_,?_,?_,?_,?_,?_⟩<;>simp only[oX,xV]<;>omega
def pZ(s:ir)(p:Int)(t:Bool)(d:Nat):Int:=min (max (p+(if t then -s.c else s.c)) 0) (2^d-1)
theorem Eq(s:ir)(p:Int)(t:Bool)(h:2<=(2:Int)^d):0<=pZ s p t d/\pZ s p t d<2^d:=by
 unfold pZ;omega
def oI(s:ir):Nat->Nat->Nat
 | 0,k=>k
 | f+1,k=>if s.n*2^k<s.a then oI s f (k+1)else k
def pz(s:ir):Nat:=oI s 16 0
theorem Fn{s:ir}(h:qI s):∀f k,k<=15->oI s f k<=15
 | 0,k,hk=>hk
 | f+1,k,hk=>by
  unfold oI;split
  .rename_i hc
   have:k≠15:=by
    rintro rfl
    have:=h.a1
    have e:(2:Int)^15=32768:=rfl;rw[e]at hc;omega
   exact Fn h f (k+1) (by omega)
  .exact hk
theorem xT{s:ir}(h:qI s):pz s<=15:=Fn h 16 0 (by omega)
theorem Lq{s:ir}{k:Nat}(h:¬s.n*2^k<s.a)(f:Nat):oI s f k=k:=by
 cases f with
 | zero=>rfl
 | succ f=>rw[oI,if_neg h]
theorem Lp{s:ir}{k:Nat}(h:s.n*2^k<s.a)(f:Nat):oI s (f+1) k=oI s f (k+1):=by rw[oI,if_pos h]
theorem NY{s:ir}(p:qI s){k:Nat}(h:s.n*2^k<s.a):k<15:=by
 rcases zZ k 15 with o|o
 .exact o
 .exfalso
  have u:(32768:Int)<=2^k:=by
   have:=Nat.pow_le_pow_right (n:=2) (by decide) o
   have e:(2:Int)^15<=2^k:=(by exact_mod_cast this);exact e
  have C:=p.a1;have D:=p.n0;have E:s.n*32768<=s.n*2^k:=Int.mul_le_mul_of_nonneg_left u (by omega);omega
def m7(s:ir)(e:Int):ir:=
 if s.n=64 then⟨33,(s.a+i7 e) / 2,(s.b+e) / 2,s.c⟩else⟨s.n+1,s.a+i7 e,s.b+e,s.c⟩
def mL(s:ir):ir:=
 if s.b<=-s.n then⟨s.n,s.a,max (s.b+s.n) (1-s.n),max (s.c-1) (-128)⟩
 else if 0<s.b then⟨s.n,s.a,min (s.b-s.n) 0,min (s.c+1) 127⟩else s
def p6(s:ir)(e:Int):ir:=mL (m7 s e)
theorem Ed{s:ir}(h:qI s){e:Int}(E : -32768<=e)(I:e<32768):1<=(m7 s e).n/\(m7 s e).n<=64/\0<=(m7 s e).a/\(m7 s e).a<=32768*(m7 s e).n/\-65536<=(m7 s e).b/\(m7 s e).b<=65536/\(m7 s e).c=s.c:=by
 obtain⟨L,n1,o,p,u,C,D,c1⟩:=h;have J:0<=i7 e/\i7 e<=32768:=by unfold i7;split<;>omega
 unfold m7;split
 .refine⟨?_,?_,?_,?_,?_,?_,rfl⟩<;>simp only<;>omega
 .refine⟨?_,?_,?_,?_,?_,?_,rfl⟩<;>simp only<;>omega
theorem Mz{s:ir}(h:qI s){e:Int}(p : -32768<=e)(u:e<32768):qI (p6 s e):=by
 obtain⟨D,E,I,J,L,M,C⟩:=Ed h p u;have o:=h.c0;have c1:=h.c1;rw[<-C]at o c1;unfold p6;generalize m7 s e=t at *;unfold mL;split
 .constructor<;>simp only<;>omega
 .split
  .constructor<;>simp only<;>omega
  .constructor<;>omega
def qe(s g:Int)(t:Bool)(d:Nat):Int:=if t then ii (-ii (s-g) d) d else ii (s-g) d
theorem vL(s g:Int)(t:Bool)(h:1<=d):-2^(d-1)<=qe s g t d/\qe s g t d<2^(d-1):=by
 unfold qe;split
 .exact om _ h
 .exact om _ h
theorem Le{s g:Int}(t:Bool)(o:0<=s)(p:s<2^d):gU (g+(if t then -qe s g t d else qe s g t d)) d=s:=by
 unfold qe;cases t
 .exact Dp o p
 .exact JK o p
def jW(m:List ir)(i:Nat):ir:=m.getD i (oX 1)
def j0(l:List Int)(W d i:Nat):Nat:=qk (iC l W (i%W) (i / W)) d
def kH(l:List Int)(W d i:Nat):Bool:=si (iC l W (i%W) (i / W)) d
def lV(m:List ir)(l:List Int)(W d i:Nat):Int:=pZ (jW m (j0 l W d i)) (jV 7 (iC l W (i%W) (i / W)) d) (kH l W d i) d
def RE(m:List ir)(l:List Int)(W d i:Nat):Int:=qe (l.getD i 0) (lV m l W d i) (kH l W d i) d
def rT(m:List ir)(l:List Int)(W d i:Nat):List Nat:=jp (pz (jW m (j0 l W d i))) (RE m l W d i)
def sg(m:List ir)(l:List Int)(W d i:Nat):List ir:=m.set (j0 l W d i) (p6 (jW m (j0 l W d i)) (RE m l W d i))
def xu(d:Nat):List ir:=replicate 365 (oX d)
def mG(l:List Int)(W d:Nat):Nat->List ir
 | 0=>xu d
 | i+1=>sg (mG l W d i) l W d i
def kw(l:List Int)(W d:Nat):Nat->List Nat
 | 0=>[]
 | i+1=>kw l W d i++rT (mG l W d i) l W d i
structure pQ (m:List ir):Prop where
 len:m.length=365
 all:∀s∈m,qI s
theorem rN{m:List ir}(h:pQ m)(p:i<365):m[i]?=some (jW m i)/\qI (jW m i):=by
 have o:i<m.length:=by rw[h.len];exact p
 unfold jW;rw[zD,zF o];exact⟨rfl,h.all _ (zG o)⟩
theorem KA(h:(2:Int)^d<=65536):pQ (xu d):=
 ⟨zV,λs hs=>by rw[eq_of_mem_replicate hs];exact LJ h⟩
theorem sG(o:d<=16){e:Int}(h : -2^(d-1)<=e/\e<2^(d-1)):-32768<=e/\e<32768:=by
 have:(2:Int)^(d-1)<=2^15:=by
  have:=Nat.pow_le_pow_right (n:=2) (by decide) (show d-1<=15 by omega)
  exact_mod_cast this
 omega
theorem Of{m:List ir}(h:pQ m)(l:List Int)(W:Nat)(C:1<=d)(D:d<=16)(i:Nat):pQ (sg m l W d i):=by
 refine⟨by simp[sg,h.len],λs o=>?_⟩;rcases mem_or_eq_of_mem_set o with o|rfl
 .exact h.all s o
 .obtain⟨p,u⟩:=sG D (vL (l.getD i 0) (lV m l W d i) (kH l W d i) C)
  exact Mz (rN h (uJ _ _)).2 p u
theorem vZ(l:List Int)(W:Nat){d:Nat}(o:1<=d)(p:d<=16)(u:(2:Int)^d<=65536):∀i,pQ (mG l W d i)
 | 0=>KA u
 | i+1=>Of (vZ l W o p u i) l W o p i
theorem yA(l:List Int)(W:Nat){d:Nat}(o:1<=d)(p:d<=16)(u:(2:Int)^d<=65536):∀i,(kw l W d i).length<=65*i
 | 0=>by simp[kw]
 | i+1=>by
  have:=yA l W o p u i
  have C:=xT (rN (vZ l W o p u i) (uJ (iC l W (i%W) (i / W)) d)).2
  have:=pN (pz (jW (mG l W d i) (j0 l W d i))) (RE (mG l W d i) l W d i) (by unfold j0;omega)
  rw[kw,zC,rT,qy];omega
def kK(x:Int)(n:Nat):Bool:=decide (1<=n)&&decide (n<=31)&&decide (-2^(n-1)<=x)&&decide (x<=2^(n-1)-1)
def jT(x:Int):Nat->Nat->Nat
 | 0,w=>w
 | f+1,w=>if x≠0/\w<32/\kK x w=false then jT x f (w+1)else w
def kY(l:List Int):Nat:=l.foldl (λw x=>jT x 32 w) 0
theorem KT(l:List Int)(x:Int):kY (l++[x])=jT x 32 (kY l):=by simp[kY]
theorem vH{n:Nat}(h:m<=n):(2:Int)^m<=2^n:=by
 have:=Nat.pow_le_pow_right (n:=2) (by decide) h
 exact_mod_cast this
theorem Mm{x:Int}{n:Nat}(h:kK x m=true)(o:m<=n)(p:n<=31):kK x n=true:=by
 unfold kK at *;simp only[Bool.and_eq_true,decide_eq_true_eq]at *;obtain⟨⟨⟨u,C⟩,D⟩,E⟩:=h
 have:=vH (show m-1<=n-1 by omega)
 exact⟨⟨⟨by omega,p⟩,by omega⟩,by omega⟩
theorem xj{x:Int}(h:iy x):kK x 31=true:=by
 unfold iy at h;unfold kK;simp only[Bool.and_eq_true,decide_eq_true_eq];exact⟨⟨⟨by decide,by decide⟩,by have:(2:Int)^(31-1)=1073741824:=rfl;omega⟩,by have:(2:Int)^(31-1)=1073741824:=rfl;omega⟩
theorem Gx(x:Int):∀f w,w<=jT x f w
 | 0,w=>zQ _
 | f+1,w=>by
  unfold jT;split
  .exact Nat.le_trans (by omega) (Gx x f (w+1))
  .exact zQ _
theorem xB{x:Int}(h:iy x):∀f w,w<=31->jT x f w<=31
 | 0,w,hw=>hw
 | f+1,w,hw=>by
  unfold jT;split
  .rename_i hc
   have:w≠31:=λe=>by rw[e,xj h]at hc;simp at hc
   exact xB h f (w+1) (by omega)
  .exact hw
theorem EA{x:Int}(h:iy x):∀f w,w<=31->32<=w+f->x=0\/kK x (jT x f w)=true
 | 0,w,hw,hf=>by omega
 | f+1,w,hw,hf=>by
  unfold jT;split
  .rename_i hc
   have:w≠31:=λe=>by rw[e,xj h]at hc;simp at hc
   exact EA h f (w+1) (by omega) (by omega)
  .rename_i hc
   by_cases hx:x=0
   .exact .inl hx
   .right
    have:¬(kK x w=false):=λe=>hc ⟨hx,by omega,e⟩
    simpa using this
theorem MM{x:Int}{w:Nat}(u:x≠0)(p:w<32)(o:kK x w=false)(f:Nat):jT x (f+1) w=jT x f (w+1):=by
 rw[jT,if_pos ⟨u,p,o⟩]
theorem EB{x:Int}{w f:Nat}(h:x=0\/kK x w=true):jT x f w=w:=by
 cases f with
 | zero=>rfl
 | succ f=>
  rw[jT,if_neg];rintro⟨p,u,o⟩;rcases h with h|h
  .exact p h
  .rw[h]at o;cases o
theorem ut{l:List Int}(h:∀x∈l,iy x):kY l<=31:=by
 unfold kY
 suffices H:∀(l:List Int) (w:Nat),(∀x∈l,iy x)->w<=31->l.foldl (λw x=>jT x 32 w) w<=31 from H l 0 h (by omega)
 intro l
 induction l with
 | nil=>intro w _ o;exact o
 | cons x l ih=>intro w p o;exact ih _ (λy hy=>p y (by simp[hy])) (xB (p x (by simp)) 32 w o)
theorem KS{l:List Int}(h:∀x∈l,iy x):∀x∈l,x=0\/kK x (kY l)=true:=by
 unfold kY
 suffices H:∀(l:List Int) (w:Nat),(∀x∈l,iy x)->w<=31->(∀x∈l,x=0\/kK x (l.foldl (λw x=>jT x 32 w) w)=true)/\w<=l.foldl (λw x=>jT x 32 w) w from(H l 0 h (by omega)).1
 intro l
 induction l with
 | nil=>intro w _ o;exact⟨by simp,zQ _⟩
 | cons x l ih=>
  intro w u o;have D:∀y∈l,iy y:=λy p=>u y (by simp[p]);have E:=xB (u x (by simp)) 32 w o;obtain⟨L,I⟩:=ih (jT x 32 w) D E;have J:=Gx x 32 w;refine⟨λy p=>?_,Nat.le_trans J I⟩;rcases zJ.1 p with rfl|p
  .rcases EA (u y (by simp)) 32 w o (by omega)with C|C
   .exact .inl C
   .right
    have ad:(foldl (λw x=>jT x 32 w) (jT y 32 w) l)<=31:=by
     have:∀(l:List Int) (w:Nat),(∀x∈l,iy x)->w<=31->l.foldl (λw x=>jT x 32 w) w<=31:=by
      intro l
      induction l with
      | nil=>intro w _ o;exact o
      | cons x l ih=>intro w u o;exact ih _ (λy p=>u y (by simp[p])) (xB (u x (by simp)) 32 w o)
     exact this l _ D E
    exact Mm C I ad
  .exact L y p
def kO(x:Int)(n:Nat):Nat:=(x%2^n).toNat
theorem xI(x:Int)(n:Nat):kO x n<2^n:=by
 have o:=Int.emod_nonneg x (show(2:Int)^n≠0 by have:=ke n;omega);have p:=Int.emod_lt_of_pos x (ke n);unfold kO
 have:((x%2^n).toNat:Int)<((2^n:Nat):Int):=by
  rw[Int.toNat_of_nonneg o]
  simpa using p
 omega
theorem Ez(x:Int)(n:Nat):((kO x n:Nat):Int)=x%2^n:=by
 unfold kO;exact Int.toNat_of_nonneg (Int.emod_nonneg x (by have:=ke n;omega))
def iR(o n warm:Nat):List Nat:=if n / 2^o*2^o=n/\warm<=n / 2^o then(n / 2^o-warm)::replicate (2^o-1) (n / 2^o)else[]
theorem KL{n:Nat}(h:warm<=n):iR 0 n warm=[n-warm]:=by
 unfold iR;simp[h]
theorem sJ{o n:Nat}(h:iR o n warm≠[]):(iR o n warm).length=2^o:=by
 unfold iR at *;split
 .have:=Nat.two_pow_pos o
  simp;omega
 .rename_i hc
  rw[if_neg hc]at h;exact absurd rfl h
theorem ug{o n:Nat}(h:iR o n warm≠[]):(iR o n warm).sum=n-warm:=by
 unfold iR at *;split
 .rename_i hc
  obtain⟨p,u⟩:=hc;have C:=Nat.two_pow_pos o;have e:(2^o-1)*(n / 2^o)+n / 2^o=n:=by
   rw[<-succ_mul]
   have:succ (2^o-1)=2^o:=by omega
   rw[this,zY];exact p
  simp;omega
 .rename_i hc
  rw[if_neg hc]at h;exact absurd rfl h
def iQ{α:Type}:List Nat->List α->List (List α)
 | [],_=>[]
 | s::ss,l=>l.take s::iQ ss (l.drop s)
theorem q4{α:Type}:∀(ss:List Nat) (l:List α),(iQ ss l).length=ss.length
 | [],_=>rfl
 | s::ss,l=>by rw[iQ,zK,q4 ss,zK]
theorem Dk{α:Type}:∀(ss:List Nat) (l:List α),ss.sum=l.length->(iQ ss l).flatten=l
 | [],l,h=>by
  have:l=[]:=eq_nil_of_length_eq_zero (by simpa using h.symm)
  subst this;rfl
 | s::ss,l,h=>by
  rw[iQ,flatten_cons,Dk ss,take_append_drop];rw[zO];simp at h;omega
def kh(ss:List Nat)(i:Nat):Nat:=(ss.take i).sum
theorem ui{α:Type}:∀(ss:List Nat) (l:List α) (i:Nat) (h:i<ss.length),(iQ ss l)[i]?=some ((l.drop (kh ss i)).take ss[i])
 | s::ss,l,0,_=>by simp[iQ,kh]
 | s::ss,l,i+1,h=>by
  rw[iQ,getElem?_cons_succ,ui ss (l.drop s) i (by simpa using h)];simp[kh,drop_drop]
theorem yM(ss:List Nat)(i:Nat)(h:i<ss.length):kh ss (i+1)=kh ss i+ss[i]:=by
 unfold kh;rw[take_succ_eq_append_getElem h,sum_append];simp only[sum_cons,sum_nil,Nat.add_zero]
theorem LW(ss:List Nat)(i:Nat):kh ss i<=ss.sum:=by
 unfold kh
 have:ss.sum=(ss.take i).sum+(ss.drop i).sum:=by rw[<-sum_append,take_append_drop]
 omega
theorem vO(ss:List Nat)(i:Nat)(h:i<ss.length):kh ss i+ss[i]<=ss.sum:=by
 rw[<-yM ss i h];exact LW ss (i+1)
def oZ(part:List Int):Nat:=5+kY part*part.length
def oz(k:Nat)(part:List Int):Nat:=5+if k=31 then oZ part else kr k part
def mV(k:Nat)(part:List Int):List Nat:=
 gx k 5++if k=31 then gx (kY part) 5++part.flatMap (λx=>gx (kO x (kY part)) (kY part))else jl k part
theorem Jt(n:Nat)(f:Int->Nat)(l:List Int):(l.flatMap (λx=>gx (f x) n)).length=n*l.length:=by
 induction l with
 | nil=>simp
 | cons x l ih=>rw[flatMap_cons,zC,gH,ih,zK,Nat.mul_add];omega
theorem Cz(k:Nat)(part:List Int):(mV k part).length=oz k part:=by
 unfold mV oz oZ;split
 .rw[zC,zC,gH,gH,Jt]
 .rw[zC,gH,J8]
def lH(ks:List Nat)(ps:List (List Int)):Nat:=4+((ks.zip ps).map (λp=>oz p.1 p.2)).sum
def m9(o:Nat)(ks:List Nat)(ps:List (List Int)):List Nat:=gx o 4++(ks.zip ps).flatMap (λp=>mV p.1 p.2)
theorem L5(o:Nat)(ks:List Nat)(ps:List (List Int)):(m9 o ks ps).length=lH ks ps:=by
 unfold m9 lH;rw[zC,gH]
 congr 1
 generalize ks.zip ps=z
 induction z with
 | nil=>rfl
 | cons p z ih=>rw[flatMap_cons,zC,Cz,ih,map_cons,sum_cons]
def l4(part:List Int):Nat:=if oZ part<kr (j8 part) part then 31 else j8 part
theorem Dy(o:List Int):l4 o<=25\/l4 o=31:=by
 have:=q8 o
 unfold l4;split<;>omega
def ml(o n warm:Nat)(l:List Int):List Nat:=(iQ (iR o n warm) l).map l4
structure uY where
 order:Nat
 ks:List Nat
 cost:Nat
def sU(n warm:Nat)(l:List Int)(s:uY)(o:Nat):uY:=
 if iR o n warm=[]then s
 else if s.cost=0\/lH (ml o n warm l) (iQ (iR o n warm) l)<s.cost then⟨o,ml o n warm l,lH (ml o n warm l) (iQ (iR o n warm) l)⟩else s
def pg(n warm:Nat)(l:List Int)(m:Nat):uY:=(range m).foldl (sU n warm l) ⟨0,[],0⟩
def jS(n warm most:Nat)(l:List Int):uY:=pg n warm l (min most 8+1)
theorem zl(n warm:Nat)(l:List Int)(m:Nat):pg n warm l (m+1)=sU n warm l (pg n warm l m) m:=by
 simp[pg,range_succ]
def GW(n warm:Nat)(l:List Int)(s:uY):Prop:=iR s.order n warm≠[]/\s.ks=ml s.order n warm l/\s.cost=lH s.ks (iQ (iR s.order n warm) l)
theorem Mc(ks:List Nat)(ps:List (List Int)):4<=lH ks ps:=by unfold lH;omega
theorem FI{n warm:Nat}(h:warm<=n)(l:List Int):∀m,GW n warm l (pg n warm l (m+1))/\(pg n warm l (m+1)).order<=m
 | 0=>by
  have C:=KL h;have o:iR 0 n warm≠[]:=by rw[C];simp
  have u:pg n warm l 0=⟨0,[],0⟩:=rfl;rw[zl,u,sU,if_neg o,if_pos (.inl rfl)];exact⟨⟨o,rfl,rfl⟩,zQ _⟩
 | m+1=>by
  obtain⟨p,D⟩:=FI h l m;rw[zl,sU];split
  .exact⟨p,by omega⟩
  .rename_i o
   split
   .exact⟨⟨o,rfl,rfl⟩,zQ _⟩
   .exact⟨p,by omega⟩
theorem tX{n most:Nat}(h:warm<=n)(l:List Int):GW n warm l (jS n warm most l)/\(jS n warm most l).order<=8/\(jS n warm most l).order<=most:=by
 obtain⟨p,o⟩:=FI h l (min most 8);exact⟨p,Nat.le_trans o (Nat.min_le_right _ _),Nat.le_trans o (Nat.min_le_left _ _)⟩
def kR(s n:Nat):Nat->Nat->List (Nat × Nat)
 | 0,_=>[]
 | f+1,x=>if x<n then(x,min s (n-x))::kR s n f (x+s)else[]
theorem uu{n:Nat}(f:Nat)(h:n<=x):kR s n f x=[]:=by
 cases f
 .rfl
 .rw[kR,if_neg (by omega)]
theorem sK{n:Nat}(f:Nat)(h:x<n):kR s n (f+1) x=(x,min s (n-x))::kR s n f (x+s):=by
 rw[kR,if_pos h]
theorem BN{s n:Nat}(o:1<=s):∀(f x:Nat),n<=x+f->((kR s n f x).map (·.2)).sum=n-x
 | 0,x,h=>by simp[kR];omega
 | f+1,x,h=>by
  by_cases hx:x<n
  .rw[sK f hx,map_cons,sum_cons,BN o f (x+s) (by omega)]
   simp only;omega
  .rw[uu _ (by omega)]
   simp;omega
theorem up{s n:Nat}(u:1<=s):∀(f x:Nat),∀p∈kR s n f x,1<=p.2/\p.2<=s/\p.1+p.2<=n
 | 0,x,p,o=>by simp[kR]at o
 | f+1,x,p,o=>by
  by_cases hx:x<n
  .rw[sK f hx]at o
   rcases zJ.1 o with rfl|o
   .simp only;omega
   .exact up u f (x+s) p o
  .rw[uu _ (by omega)]at o
   simp at o
theorem zk(s n:Nat):∀(f x:Nat),(kR s n f x).length<=f
 | 0,x=>by simp[kR]
 | f+1,x=>by
  by_cases hx:x<n
  .rw[sK f hx,zK]
   have:=zk s n f (x+s)
   omega
  .rw[uu _ (by omega)]
   simp
structure Sq where
 x:Nat
 y:Nat
 w:Nat
 h:Nat
def nQ(w s:Nat)(p:Nat × Nat):List Sq:=(kR s w w 0).map λq=>⟨q.1,p.1,q.2,p.2⟩
def iM(w h s:Nat):List Sq:=(kR s h h 0).flatMap (nQ w s)
def area(l:List Sq):Nat:=(l.map λq=>q.w*q.h).sum
theorem P4(a b:List Sq):area (a++b)=area a+area b:=by simp[area]
theorem P6{w:Nat}(o:1<=s)(p:Nat × Nat):area (nQ w s p)=w*p.2:=by
 have h:=BN (n:=w) o w 0 (by omega);have e:∀l:List (Nat × Nat),(l.map λq:Nat × Nat=>q.2*p.2).sum=(l.map (·.2)).sum*p.2:=by
  intro l
  induction l with
  | nil=>simp
  | cons a l ih=>simp only[map_cons,sum_cons,ih,Nat.add_mul]
 unfold area nQ;rw[map_map];show((kR s w w 0).map λq=>q.2*p.2).sum=_;rw[e,h];rfl
theorem Ht{w:Nat}(o:1<=s):area (iM w h s)=w*h:=by
 have e:∀l:List (Nat × Nat),area (l.flatMap (nQ w s))=w*(l.map (·.2)).sum:=by
  intro l
  induction l with
  | nil=>simp[area]
  | cons a l ih=>rw[flatMap_cons,P4,ih,P6 o,map_cons,sum_cons,Nat.mul_add]
 unfold iM;rw[e,BN o h 0 (by omega)];rfl
theorem uR{w:Nat}(D:1<=s):∀q∈iM w h s,1<=q.w/\q.w<=s/\1<=q.h/\q.h<=s:=by
 intro q o;obtain⟨p,E,o⟩:=List.mem_flatMap.1 o;obtain⟨r,I,rfl⟩:=List.mem_map.1 o;have u:=up D _ _ p E;have C:=up D _ _ r I;exact⟨C.1,C.2.1,u.1,u.2.1⟩
structure qc where
 W:Nat
 H:Nat
 d:Nat
 P:List (List Int)
structure qc.Ok (p:qc):Prop where
 w0:1<=p.W
 w1:p.W<=64
 h0:1<=p.H
 h1:p.H<=64
 d0:1<=p.d
 d1:p.d<=16
 n0:1<=p.P.length
 n1:p.P.length<=4
 len:∀l∈p.P,l.length=p.W*p.H
 smp:∀l∈p.P,ie p.d l
theorem qc.Ok.area{p:qc}(h:p.Ok):p.W*p.H<=4096:=zL h.w1 h.h1
theorem qc.Ok.pos{p:qc}(h:p.Ok):0<p.W*p.H:=Nat.mul_pos h.w0 h.h0
structure iY (p q:qc):Prop where
 W:p.W=q.W
 H:p.H=q.H
 d:p.d=q.d
 n:p.P.length=q.P.length
def jn(l:List Int)(W x y w h:Nat):List Int:=(range h).flatMap λj=>(range w).map λi=>l.getD ((y+j)*W+(x+i)) 0
theorem AN{α:Type}{w:Nat}:∀(h:Nat) (f:Nat->List α),(∀j,(f j).length=w)->((range h).flatMap f).length=h*w
 | 0,f,_=>by simp
 | h+1,f,hf=>by rw[range_succ,flatMap_append,zC,AN h f hf];simp[hf,succ_mul]
theorem Fb{α:Type}{w:Nat}:∀(h:Nat) (f:Nat->List α),(∀j,(f j).length=w)->∀j i,j<h->i<w->((range h).flatMap f)[j*w+i]?=(f j)[i]?
 | 0,f,_,j,i,hj,_=>by omega
 | h+1,f,hf,j,i,hj,hi=>by
  rw[range_succ,flatMap_append];have p:=AN h f hf;rcases zZ j h with o|o
  .have u:j*w+i<h*w:=by
    have:=mul_le_mul_right w (show j+1<=h by omega)
    rw[succ_mul]at this;omega
   rw[getElem?_append_left (by omega),Fb h f hf j i o hi]
  .obtain rfl:j=h:=by omega
   rw[zS (by omega),p];simp
theorem o6(l:List Int)(W x y w h:Nat):(jn l W x y w h).length=h*w:=AN h _ (by simp)
theorem MW(l:List Int)(W x y:Nat){w:Nat}(p:j<h)(o:i<w):(jn l W x y w h)[j*w+i]?=some (l.getD ((y+j)*W+(x+i)) 0):=by
 unfold jn;rw[Fb h _ (by simp) j i p o];simp[o]
theorem Ga(l:List Int)(W x y w h:Nat):jn l W x y w (h+1)=jn l W x y w h++(range w).map λi=>l.getD ((y+h)*W+(x+i)) 0:=by
 unfold jn;rw[range_succ,flatMap_append];simp
theorem mK{l:List Int}(h:ie d l)(k:Nat):0<=l.getD k 0/\l.getD k 0<2^d:=by
 rw[zD]
 cases hx:l[k]? with
 | none=>exact⟨Int.le_refl 0,ke d⟩
 | some x=>exact h x (mem_of_getElem? hx)
theorem Bh{l:List Int}(p:ie d l)(W x y w h:Nat):ie d (jn l W x y w h):=by
 intro v o;obtain⟨j,_,o⟩:=List.mem_flatMap.1 o;obtain⟨i,_,rfl⟩:=List.mem_map.1 o;exact mK p _
theorem GJ{l:List Int}{Y w:Nat}(C:l.length=W*H)(D:x+w<=W)(u:Y<H):((l.drop (Y*W+x)).take w)=(range w).map λi=>l.getD (Y*W+(x+i)) 0:=by
 have p:Y*W+W<=W*H:=by
  have:=mul_le_mul_right W (show Y+1<=H by omega)
  rw[succ_mul,zY H]at this;exact this
 apply ext_getElem?;intro i;rcases zZ i w with o|o
 .rw[getElem?_take,if_pos o,getElem?_drop,zW,getElem?_range o,Option.map_some,zD,<-Nat.add_assoc,zF (show Y*W+x+i<l.length by omega)]
  rfl
 .rw[getElem?_take,if_neg (by omega),getElem?_eq_none (by simp;omega)]
def rE(now old:List Int)(d:Nat):List Int:=List.zipWith (λa b=>gU (a-b) d) now old
def IG(old df:List Int)(d:Nat):List Int:=List.zipWith (λa b=>gU (a+b) d) old df
theorem QJ{now old:List Int}(h:now.length=old.length)(d:Nat):(rE now old d).length=now.length:=by unfold rE;rw[List.length_zipWith];omega
theorem Iq(now old:List Int)(d:Nat):ie d (rE now old d):=by
 intro v o;unfold rE at o;rw[List.zipWith_eq_zipWith_take_min]at o;obtain⟨i,p,rfl⟩:=getElem_of_mem o;rw[List.getElem_zipWith];exact⟨jK _ _,jJ _ _⟩
theorem Io{d:Nat}:∀ {now old:List Int},now.length=old.length->ie d now->IG old (rE now old d) d=now
 | [],[],_,_=>rfl
 | a::now,b::old,h,hs=>by
  have o:=Io (d:=d) (now:=now) (old:=old) (by simpa using h) (λx hx=>hs x (by simp[hx]));have u:gU (b+gU (a-b) d) d=a:=by
   obtain⟨p,o⟩:=hs a (by simp);rw[qX]
   have:b+(a-b)=a:=by omega
   rw[this];exact rf p o
  unfold IG rE at o⊢;rw[List.zipWith_cons_cons,List.zipWith_cons_cons,o,u]
 | [],b::old,h,_=>by simp at h
 | a::now,[],h,_=>by simp at h
def nZ(W k:Nat)(s:Sq):Bool:=decide (s.x<=k%W)&&decide (k%W<s.x+s.w)&&decide (s.y<=k / W)&&decide (k / W<s.y+s.h)
def jd(q l:List Int)(W:Nat)(bs:List Sq):List Int:=(range l.length).map λk=>if bs.any (nZ W k)then q.getD k 0 else l.getD k 0
theorem qa(q l:List Int)(W:Nat)(bs:List Sq):(jd q l W bs).length=l.length:=by simp[jd]
theorem uy{l:List Int}{bs:List Sq}{k:Nat}(o:k<l.length):(jd q l W bs)[k]?=some (if bs.any (nZ W k)then q.getD k 0 else l.getD k 0):=by
 unfold jd;rw[zW,getElem?_range o];rfl
theorem GT(q l:List Int)(W:Nat):jd q l W []=l:=by
 apply ext_getElem?;intro k;rcases zZ k l.length with o|o
 .rw[uy o,zF o]
  simp[o]
 .rw[getElem?_eq_none o,getElem?_eq_none (by rw[qa];exact o)]
theorem BH(q l:List Int)(W:Nat)(bs:List Sq)(s:Sq)(o:s.h=0):jd q l W (bs++[s])=jd q l W bs:=by
 unfold jd
 congr 1
 funext k
 have e:(bs++[s]).any (nZ W k)=bs.any (nZ W k):=by
  rw[any_append];have h:nZ W k s=false:=by unfold nZ;rw[o];simp<;>omega
  simp[h]
 rw[e]
theorem GS{l:List Int}{bs:List Sq}(p:q.length=l.length)(h:∀k,k<l.length->bs.any (nZ W k)=true):jd q l W bs=q:=by
 apply ext_getElem?;intro k;rcases zZ k l.length with o|o
 .rw[uy o,if_pos (h k o),zF (by omega),zD,zF (by omega)]
  rfl
 .rw[getElem?_eq_none (by rw[qa];exact o),getElem?_eq_none (by omega)]
theorem Oc{l:List Int}{bs:List Sq}{s:Sq}(V:q.length=l.length)(J:l.length=W*H)(X:s.x+s.w<=W)(Z:s.y+s.h<H):let m:=jd q l W (bs++[s])
  let at_:=(s.y+s.h)*W+s.x
  m.take at_++((range s.w).map λi=>q.getD ((s.y+s.h)*W+(s.x+i)) 0)++m.drop (at_+s.w)=jd q l W (bs++[⟨s.x,s.y,s.w,s.h+1⟩]):=by
 intro m at_;have⟨Y,hY⟩:=zX (s.y+s.h);have T:at_=Y*W+s.x:=by rw[hY]
 have U:Y*W+W<=l.length:=by
  have:=mul_le_mul_right W (show Y+1<=H by omega)
  rw[succ_mul,zY H,<-J]at this;exact this
 have L:m.length=l.length:=qa _ _ _ _;have I:(m.take at_).length=at_:=by rw[zI,L];omega
 rw[<-hY];have O:∀k,nZ W k ⟨s.x,s.y,s.w,s.h+1⟩=(nZ W k s||(decide (s.x<=k%W)&&decide (k%W<s.x+s.w)&&decide (k / W=Y))):=by
  intro k;unfold nZ;simp only;rw[hY];by_cases p:s.x<=k%W
  .by_cases C:k%W<s.x+s.w
   .simp only[p,C,decide_true,Bool.true_and]
    by_cases h4:s.y<=k / W
    .by_cases h5:k / W<s.y+s.h
     .have o:k / W<s.y+(s.h+1):=by omega
      simp[h4,h5,o]
     .by_cases o:k / W=s.y+s.h
      .simp[o]<;>omega
      .have R:¬k / W<s.y+(s.h+1):=by omega
       simp[h5,o,R]
    .have o:¬k / W=s.y+s.h:=by omega
     simp[h4,o]
   .simp[C]
  .simp[p]
 apply ext_getElem?;intro k;rcases zZ k l.length with u|u
 .rw[uy u]
  have S:0<W:=by
   rcases eq_zero_or_pos W with h|h
   .rw[h]at J;omega
   .exact h
  have ad:=div_add_mod k W;rw[any_append,any_cons,any_nil,Bool.or_false,O k];rcases zZ k at_ with p|p
  .rw[zH,getElem?_append_left (by omega),getElem?_take,if_pos p,uy u,any_append,any_cons,any_nil,Bool.or_false]
   have E:(decide (s.x<=k%W)&&decide (k%W<s.x+s.w)&&decide (k / W=Y))=false:=by
    rw[Bool.and_eq_false_iff];by_cases o:k / W=Y
    .left
     rw[Bool.and_eq_false_iff];left;rw[decide_eq_false_iff_not];rw[o,zY]at ad;omega
    .right;simp[o]
   rw[E,Bool.or_false]
  .rcases zZ k (at_+s.w)with C|C
   .have D:k=Y*W+(s.x+(k-at_)):=by omega
    have N:k%W=s.x+(k-at_):=by
     rw[D,Nat.add_comm,add_mul_mod_self_right,mod_eq_of_lt (by omega)];omega
    have M:k / W=Y:=by
     rw[D,Nat.add_comm,add_mul_div_right _ _ S,div_eq_of_lt (by omega),Nat.zero_add]
    have Q:(decide (s.x<=k%W)&&decide (k%W<s.x+s.w)&&decide (k / W=Y))=true:=by
     rw[N,M];simp;omega
    rw[Q,Bool.or_true,Bool.or_true,if_pos rfl,zH,zS (by omega),I,getElem?_append_left (by simp;omega),zW,getElem?_range (by omega),Option.map_some,<-D]
   .rw[zH,zS (by omega),I,zS (by simp;omega),zE,length_range,getElem?_drop]
    rw[show at_+s.w+(k-at_-s.w)=k by omega,uy u,any_append,any_cons,any_nil,Bool.or_false];have E:(decide (s.x<=k%W)&&decide (k%W<s.x+s.w)&&decide (k / W=Y))=false:=by
     rw[Bool.and_eq_false_iff];by_cases o:k / W=Y
     .left
      rw[Bool.and_eq_false_iff];right;rw[decide_eq_false_iff_not];rw[o,zY]at ad;omega
     .right;simp[o]
    rw[E,Bool.or_false]
 .rw[getElem?_eq_none (l:=jd _ _ _ _) (by rw[qa];exact u),getElem?_eq_none]
  rw[zC,zC,I,zE,length_range,zO,L];omega
theorem yJ{s n:Nat}(C:1<=s):∀(f x k:Nat),n<=x+f->x<=k->k<n->∃p∈kR s n f x,p.1<=k/\k<p.1+p.2
 | 0,x,k,h,h1,h2=>by omega
 | f+1,x,k,h,h1,h2=>by
  have D:x<n:=by omega
  rw[sK f D];by_cases hk:k<x+min s (n-x)
  .exact⟨_,mem_cons_self ..,h1,hk⟩
  .obtain⟨p,u,o⟩:=yJ C f (x+s) k (by omega) (by omega) h2
   exact⟨p,mem_cons_of_mem _ u,o⟩
theorem FZ{k:Nat}(u:1<=s)(o:k<W*H):(iM W H s).any (nZ W k)=true:=by
 have I:0<W:=by
  rcases eq_zero_or_pos W with h|h
  .rw[h]at o;omega
  .exact h
 obtain⟨p,J,C,D⟩:=yJ (s:=s) (n:=H) u H 0 (k / W) (by omega) (zero_le _) (Nat.div_lt_of_lt_mul o);obtain⟨q,L,E,ad⟩:=yJ (s:=s) (n:=W) u W 0 (k%W) (by omega) (zero_le _) (mod_lt _ I);rw[any_eq_true];refine⟨⟨q.1,p.1,q.2,p.2⟩,List.mem_flatMap.2 ⟨p,J,List.mem_map.2 ⟨q,L,rfl⟩⟩,?_⟩;unfold nZ;simp[C,D,E,ad]
theorem uT(u:1<=s):∀q∈iM W H s,q.x+q.w<=W/\q.y+q.h<=H:=by
 intro q o;obtain⟨p,E,o⟩:=List.mem_flatMap.1 o;obtain⟨r,I,rfl⟩:=List.mem_map.1 o;have C:=up u _ _ p E;have D:=up u _ _ r I;exact⟨D.2.2,C.2.2⟩
def kC(n k:Nat):Bool:=decide (1<=n)&&decide (n<=4)&&(decide (k=0)||(decide (k=1\/k=2\/k=3)&&decide (3<=n))||(decide (k=4)&&decide (2<=n)))
def kt(v:Int)(s:Nat):Int:=v / 2^s
def lf(k d:Nat)(a b c e:Int):List Int:=
 if k=1 then[gU (a-b) d,b,gU (c-b) d,e]
 else if k=2 then
  [gU (gU (c+kt (ii (gU (a-c) d) d) 1) d+kt (ii (gU (b-gU (c+kt (ii (gU (a-c) d) d) 1) d) d) d) 1) d,gU (a-c) d,gU (b-gU (c+kt (ii (gU (a-c) d) d) 1) d) d,e]
 else if k=3 then[gU (b+kt (ii (gU (c-b) d) d+ii (gU (a-b) d) d) 2) d,gU (c-b) d,gU (a-b) d,e]
 else if k=4 then[a,gU (b-a) d,gU (c-b) d,gU (e-c) d]
 else[a,b,c,e]
def jM(k d:Nat)(a b c e:Int):List Int:=
 if k=1 then[gU (a+b) d,b,gU (c+b) d,e]
 else if k=2 then
  [gU (b+gU (gU (a-kt (ii c d) 1) d-kt (ii b d) 1) d) d,gU (c+gU (a-kt (ii c d) 1) d) d,gU (gU (a-kt (ii c d) 1) d-kt (ii b d) 1) d,e]
 else if k=3 then[gU (c+gU (a-kt (ii b d+ii c d) 2) d) d,gU (a-kt (ii b d+ii c d) 2) d,gU (b+gU (a-kt (ii b d+ii c d) 2) d) d,e]
 else if k=4 then[a,gU (b+a) d,gU (c+gU (b+a) d) d,gU (e+gU (c+gU (b+a) d) d) d]
 else[a,b,c,e]
def vK(f:Int->Int->Int->Int->List Int)(c:List Int):List Int:=f (c.getD 0 0) (c.getD 1 0) (c.getD 2 0) (c.getD 3 0)
theorem Mp(k d:Nat)(a b c e:Int):(lf k d a b c e).length=4:=by unfold lf;(repeat' split)<;>rfl
theorem L3(k d:Nat)(a b c e:Int):(jM k d a b c e).length=4:=by unfold jM;(repeat' split)<;>rfl
def Rb(d:Nat)(v:Int):Prop:=0<=v/\v<2^d
theorem Rb.wrap(v:Int)(d:Nat):Rb d (gU v d):=⟨jK _ _,jJ _ _⟩
theorem NK{k:Nat}{a b c e:Int}(p:Rb d a)(u:Rb d b)(C:Rb d c)(D:Rb d e):∀v∈lf k d a b c e,Rb d v:=by
 unfold lf;intro v o
 repeat' split at o
 all_goals
  simp only[zJ,not_mem_nil,or_false]at o;rcases o with rfl|rfl|rfl|rfl<;>first|assumption|exact Rb.wrap _ _
theorem Nq{k:Nat}{a b c e:Int}(p:Rb d a)(u:Rb d b)(C:Rb d c)(D:Rb d e):∀v∈jM k d a b c e,Rb d v:=by
 unfold jM;intro v o
 repeat' split at o
 all_goals
  simp only[zJ,not_mem_nil,or_false]at o;rcases o with rfl|rfl|rfl|rfl<;>first|assumption|exact Rb.wrap _ _
theorem qz{s t:Int}(h:Rb d s)(g:Int)(o:t=s-g):gU (gU t d+g) d=s:=by
 subst o;exact KR h.1 h.2
theorem zv{s t:Int}(h:Rb d s)(g:Int)(o:t=s+g):gU (gU t d-g) d=s:=by
 subst o;rw[Int.sub_eq_add_neg,Int.add_comm,qX,show -g+(s+g)=s by omega];exact rf h.1 h.2
theorem K3{n k:Nat}(N:kC n k=true){a b c e:Int}(L:Rb d a)(M:Rb d b)(J:Rb d c)(S:Rb d e){x y z t:Int}(E:x=(lf k d a b c e).getD 0 0)(o:1<n->y=(lf k d a b c e).getD 1 0)(p:2<n->z=(lf k d a b c e).getD 2 0)(D:3<n->t=(lf k d a b c e).getD 3 0):∀j,j<n->(jM k d x y z t).getD j 0=[a,b,c,e].getD j 0:=by
 unfold kC at N;simp only[Bool.and_eq_true,Bool.or_eq_true,decide_eq_true_eq]at N;obtain⟨⟨U,n4⟩,T⟩:=N;have Q:k<=4:=by omega
 intro j C
 match k,Q with
 | 0,_=>
  simp only[lf,jM]at *
  match j with
  | 0=>simpa using E
  | 1=>simpa using o C
  | 2=>simpa using p C
  | 3=>simpa using D C
  | j+4=>omega
 | 1,_=>
  have n3:3<=n:=by omega
  have o:=o (by omega);have p:=p (by omega);simp[lf]at E o p D;subst E o p
  match j with
  | 0=>simpa[jM]using qz L y rfl
  | 1=>simp[jM]
  | 2=>simpa[jM]using qz J y rfl
  | 3=>simpa[jM]using D C
  | j+4=>omega
 | 2,_=>
  have n3:3<=n:=by omega
  have o:=o (by omega);have p:=p (by omega);simp[lf]at E o p D;have I:gU (x-kt (ii z d) 1) d=gU (c+kt (ii y d) 1) d:=by
   rw[E,p,o];exact zv (Rb.wrap _ _) _ rfl
  have e2:gU (gU (x-kt (ii z d) 1) d-kt (ii y d) 1) d=c:=by
   rw[I];exact zv J _ rfl
  match j with
  | 0=>
   have u:gU (y+c) d=a:=by rw[o];exact qz L c rfl
   simpa[jM,e2]using u
  | 1=>
   have u:gU (z+gU (c+kt (ii y d) 1) d) d=b:=by rw[p,o];exact qz M _ rfl
   simpa[jM,I]using u
  | 2=>simpa[jM]using e2
  | 3=>simpa[jM]using D C
  | j+4=>omega
 | 3,_=>
  have n3:3<=n:=by omega
  have o:=o (by omega);have p:=p (by omega);simp[lf]at E o p D;have I:gU (x-kt (ii y d+ii z d) 2) d=b:=by
   rw[E,o,p];exact zv M _ rfl
  match j with
  | 0=>
   have u:gU (z+b) d=a:=by rw[p];exact qz L b rfl
   simpa[jM,I]using u
  | 1=>simpa[jM]using I
  | 2=>
   have u:gU (y+b) d=c:=by rw[o];exact qz J b rfl
   simpa[jM,I]using u
  | 3=>simpa[jM]using D C
  | j+4=>omega
 | 4,_=>
  simp[lf]at E o p D;subst E;have u:1<n->gU (y+x) d=b:=λh=>by rw[o h];exact qz M x rfl
  have O:2<n->gU (z+b) d=c:=λh=>by rw[p h];exact qz J b rfl
  have R:3<n->gU (t+c) d=e:=λh=>by rw[D h];exact qz S c rfl
  match j with
  | 0=>simp[jM]
  | 1=>simpa[jM]using u C
  | 2=>simpa[jM,u (by omega)]using O C
  | 3=>simpa[jM,u (by omega),O (by omega)]using R C
  | j+4=>omega
def oS(P:List (List Int))(i:Nat):List Int:=(range 4).map λk=>(P.getD k []).getD i 0
theorem BI(P:List (List Int))(i:Nat):oS P i=[(P.getD 0 []).getD i 0,(P.getD 1 []).getD i 0,(P.getD 2 []).getD i 0,(P.getD 3 []).getD i 0]:=rfl
def qM(f:Int->Int->Int->Int->List Int)(P:List (List Int))(N:Nat):List (List Int):=(range P.length).map λk=>(range N).map λi=>(vK f (oS P i)).getD k 0
theorem pH(f:Int->Int->Int->Int->List Int)(P:List (List Int))(N:Nat):(qM f P N).length=P.length:=by simp[qM]
theorem LY{f:Int->Int->Int->Int->List Int}{P:List (List Int)}{N k:Nat}(o:k<P.length):(qM f P N).getD k []=(range N).map λi=>(vK f (oS P i)).getD k 0:=by
 unfold qM;rw[zD,zW,getElem?_range o];rfl
theorem xp{f:Int->Int->Int->Int->List Int}{P:List (List Int)}{N k:Nat}(p:k<P.length)(o:i<N):((qM f P N).getD k []).getD i 0=(vK f (oS P i)).getD k 0:=by
 rw[LY p,zD,zW,getElem?_range o];rfl
def xY(f:Int->Int->Int->Int->List Int)(p:qc):qc:=⟨p.W,p.H,p.d,qM f p.P (p.W*p.H)⟩
def jg(k:Nat)(p:qc):qc:=xY (lf k p.d) p
def rt(k:Nat)(p:qc):qc:=xY (jM k p.d) p
theorem l7{p:qc}(h:p.Ok)(i k:Nat):Rb p.d ((p.P.getD k []).getD i 0):=by
 rcases zZ k p.P.length with o|o
 .have u:p.P.getD k []∈p.P:=by
   rw[zD,zF o];exact zG o
  exact mK (h.smp _ u) i
 .rw[zD (l:=p.P),getElem?_eq_none o]
  exact⟨Int.le_refl 0,ke _⟩
theorem FX{p:qc}(h:p.Ok){f:Int->Int->Int->Int->List Int}(o:∀a b c e,Rb p.d a->Rb p.d b->Rb p.d c->Rb p.d e->∀v∈f a b c e,Rb p.d v):(xY f p).Ok where
 w0:=h.w0
 w1:=h.w1
 h0:=h.h0
 h1:=h.h1
 d0:=h.d0
 d1:=h.d1
 n0:=by show 1<=(qM _ _ _).length;rw[pH];exact h.n0
 n1:=by show(qM _ _ _).length<=4;rw[pH];exact h.n1
 len:=λl hl=>by
  obtain⟨k,_,rfl⟩:=List.mem_map.1 hl
  simp[xY]
 smp:=λl hl v hv=>by
  obtain⟨k,_,rfl⟩:=List.mem_map.1 hl
  obtain⟨i,_,rfl⟩:=List.mem_map.1 hv
  show Rb p.d _
  rw[zD]
  cases hx:(vK f (oS p.P i))[k]? with
  | none=>exact⟨Int.le_refl 0,ke _⟩
  | some x=>exact o _ _ _ _ (l7 h i 0) (l7 h i 1) (l7 h i 2) (l7 h i 3) x (mem_of_getElem? hx)
theorem sS{p:qc}(h:p.Ok)(k:Nat):(jg k p).Ok:=FX h λ_ _ _ _ a b c e=>NK a b c e
theorem EX{p:qc}(h:p.Ok)(k:Nat):(rt k p).Ok:=FX h λ_ _ _ _ a b c e=>Nq a b c e
theorem Pe{p q:qc}(J:p.W=q.W)(hH:p.H=q.H)(Q:p.d=q.d)(L:p.P.length=q.P.length)(M:p.Ok)(N:q.Ok)(h:∀k i,k<p.P.length->i<p.W*p.H->(p.P.getD k []).getD i 0=(q.P.getD k []).getD i 0):p=q:=by
 have e:p.P=q.P:=by
  apply ext_getElem L;intro k o C;have E:p.P.getD k []=p.P[k]:=by rw[zD,zF o];rfl
  have I:q.P.getD k []=q.P[k]:=by rw[zD,zF C];rfl
  have D:=M.len _ (zG o);have O:=N.len _ (zG C);apply ext_getElem (by rw[D,O,J,hH]);intro i u ad
  have:=h k i o (by rw[<-D];exact u)
  rw[E,I,zD,zD,zF u,zF ad]at this;exact this
 cases p;cases q
 simp_all
theorem L4{p:qc}(h:p.Ok){k:Nat}(L:kC p.P.length k=true):rt k (jg k p)=p:=by
 have E:(jg k p).P.length=p.P.length:=pH _ _ _;have D:(rt k (jg k p)).P.length=p.P.length:=(pH _ _ _).trans E;refine Pe rfl rfl rfl D (EX (sS h k) k) h ?_;intro j i C u;rw[D]at C;have u:i<p.W*p.H:=u;have o:∀t,t<p.P.length->((jg k p).P.getD t []).getD i 0=(lf k p.d ((p.P.getD 0 []).getD i 0) ((p.P.getD 1 []).getD i 0) ((p.P.getD 2 []).getD i 0) ((p.P.getD 3 []).getD i 0)).getD t 0:=λt ht=>xp ht u;show((qM (jM k p.d) (jg k p).P (p.W*p.H)).getD j []).getD i 0=_;rw[xp (by rw[E];exact C) u];have J:=K3 (n:=p.P.length) (k:=k) (d:=p.d) L (l7 h i 0) (l7 h i 1) (l7 h i 2) (l7 h i 3) (o 0 h.n0) (o 1) (o 2) (o 3) j C;refine J.trans ?_;have I:j<4:=by have:=h.n1;omega
 match j,I with
 | 0,_=>rfl
 | 1,_=>rfl
 | 2,_=>rfl
 | 3,_=>rfl
def qS(l:List Int)(W d:Nat)(n:Nat):Nat:=((range n).map λi=>(ii (l.getD i 0-if i%W=0 then 0 else l.getD (i-1) 0) d).natAbs).sum
theorem Er(l:List Int)(W d n:Nat):qS l W d (n+1)=qS l W d n+(ii (l.getD n 0-if n%W=0 then 0 else l.getD (n-1) 0) d).natAbs:=by
 unfold qS;rw[range_succ,zM,sum_append];simp
theorem Bn(l:List Int)(W:Nat){d:Nat}(o:1<=d)(p:d<=16):∀n,qS l W d n<=32768*n
 | 0=>by simp[qS]
 | n+1=>by
  have u:=Bn l W o p n;obtain⟨D,E⟩:=om (l.getD n 0-if n%W=0 then 0 else l.getD (n-1) 0) o;have C:(2:Int)^(d-1)<=2^15:=by
   have:=Nat.pow_le_pow_right (n:=2) (by decide) (show d-1<=15 by omega)
   exact_mod_cast this
  rw[Er];omega
def qT(p:qc)(k:Nat):Nat:=((range k).map λj=>qS (p.P.getD j []) p.W p.d (p.W*p.H)).sum
theorem Es(p:qc)(k:Nat):qT p (k+1)=qT p k+qS (p.P.getD k []) p.W p.d (p.W*p.H):=by
 unfold qT;rw[range_succ,zM,sum_append];simp
theorem Bo{p:qc}(h:p.Ok):∀k,qT p k<=134217728*k
 | 0=>by simp[qT]
 | k+1=>by
  have o:=Bo h k;have u:=Bn (p.P.getD k []) p.W h.d0 h.d1 (p.W*p.H);have C:=h.area;rw[Es];omega
def oH(p:qc):Nat:=qT p p.P.length
def kJ(p:qc):Nat->Nat
 | 0=>0
 | n+1=>if kC p.P.length (n+1)=true/\oH (jg (n+1) p)<oH (jg (kJ p n) p)then n+1 else kJ p n
theorem xq(p:qc):∀n,kJ p n<=n
 | 0=>zQ _
 | n+1=>by
  have:=xq p n
  unfold kJ;split<;>omega
theorem xg{p:qc}(h:p.Ok):∀n,kC p.P.length (kJ p n)=true
 | 0=>by
  have o:=h.n0;have u:=h.n1;simp[kJ,kC,o,u]
 | n+1=>by
  unfold kJ;split
  .rename_i hh;exact hh.1
  .exact xg h n
def mq(P Q:List (List Int))(n k:Nat):List (List Int):=(range P.length).map λj=>(Q.getD j []).take (if j<k then n+1 else n)++(P.getD j []).drop (if j<k then n+1 else n)
theorem oU(P Q:List (List Int))(n k:Nat):(mq P Q n k).length=P.length:=by simp[mq]
theorem q6{P Q:List (List Int)}(n k:Nat)(o:j<P.length):(mq P Q n k)[j]?=some ((Q.getD j []).take (if j<k then n+1 else n)++(P.getD j []).drop (if j<k then n+1 else n)):=by
 unfold mq;rw[zW,getElem?_range o];rfl
theorem LF{P Q:List (List Int)}(n k:Nat)(o:j<P.length):(mq P Q n k).getD j []=(Q.getD j []).take (if j<k then n+1 else n)++(P.getD j []).drop (if j<k then n+1 else n):=by
 rw[zD,q6 n k o];rfl
theorem Da(P Q:List (List Int)):mq P Q 0 0=P:=by
 apply ext_getElem?;intro j;rcases zZ j P.length with o|o
 .rw[q6 0 0 o,zF o,zD (l:=P),zF o]
  simp
 .rw[getElem?_eq_none (by rw[oU];exact o),getElem?_eq_none o]
theorem MI{P Q:List (List Int)}{N:Nat}(C:Q.length=P.length)(p:∀j,j<P.length->(P.getD j []).length=N)(u:∀j,j<P.length->(Q.getD j []).length=N):mq P Q N 0=Q:=by
 apply ext_getElem?;intro j;rcases zZ j P.length with o|o
 .rw[q6 N 0 o,if_neg (by omega),zT (by rw[u j o];exact zQ _),drop_eq_nil_of_le (by rw[p j o];exact zQ _),append_nil,zD,zF (by omega)]
  rfl
 .rw[getElem?_eq_none (by rw[oU];exact o),getElem?_eq_none (by omega)]
theorem Ey(P Q:List (List Int))(n:Nat):mq P Q n P.length=mq P Q (n+1) 0:=by
 apply ext_getElem?;intro j;rcases zZ j P.length with o|o
 .rw[q6 _ _ o,q6 _ _ o,if_pos o,if_neg (by omega)]
 .rw[getElem?_eq_none (by rw[oU];exact o),getElem?_eq_none (by rw[oU];exact o)]
theorem JJ{p:List Int}{n:Nat}(o:n<q.length)(C:n<p.length):(q.take n++p.drop n).set n (q.getD n 0)=q.take (n+1)++p.drop (n+1):=by
 have u:(q.take n).length=n:=by rw[zI];omega
 rw[set_append_right _ _ (by omega),u,Nat.sub_self,drop_eq_getElem_cons C,set_cons_zero,take_succ_eq_append_getElem o,zH,zD,zF o];rfl
theorem DL{P Q:List (List Int)}{n k:Nat}(p:k<P.length)(u:n<(P.getD k []).length)(C:n<(Q.getD k []).length):(mq P Q n k).set k (((mq P Q n k).getD k []).set n ((Q.getD k []).getD n 0))=mq P Q n (k+1):=by
 apply ext_getElem?;intro j;rcases zZ j P.length with o|o
 .by_cases e:k=j
  .subst e
   rw[getElem?_set_self (by rw[oU];exact p),q6 _ _ p,LF _ _ p,if_neg (by omega),if_pos (by omega),JJ C u]
  .rw[getElem?_set_ne e,q6 _ _ o,q6 _ _ o]
   congr 3
   .by_cases h:j<k
    .rw[if_pos h,if_pos (by omega)]
    .rw[if_neg h,if_neg (by omega)]
   .by_cases h:j<k
    .rw[if_pos h,if_pos (by omega)]
    .rw[if_neg h,if_neg (by omega)]
 .rw[getElem?_eq_none (by rw[length_set,oU];exact o),getElem?_eq_none (by rw[oU];exact o)]
def kp(p q:qc)(n k:Nat):qc:=⟨p.W,p.H,p.d,mq p.P q.P n k⟩
theorem jQ{P:List (List Int)}(o:j<P.length):P.getD j []∈P:=by
 rw[zD,zF o];exact zG o
theorem Gv{p q:qc}(h:p.Ok)(C:q.Ok)(u:iY p q)(n k:Nat):(kp p q n k).Ok where
 w0:=h.w0
 w1:=h.w1
 h0:=h.h0
 h1:=h.h1
 d0:=h.d0
 d1:=h.d1
 n0:=by show 1<=(mq _ _ _ _).length;rw[oU];exact h.n0
 n1:=by show(mq _ _ _ _).length<=4;rw[oU];exact h.n1
 len:=λl hl=>by
  obtain⟨j,o,rfl⟩:=List.mem_map.1 hl
  have o:=List.mem_range.1 o
  have D:=h.len _ (jQ o)
  have e2:=C.len _ (jQ (P:=q.P) (j:=j) (by rw[<-u.n];exact o))
  rw[<-u.W,<-u.H]at e2
  show _=p.W*p.H
  rw[zC,zI,zO,D,e2]
  omega
 smp:=λl hl v hv=>by
  obtain⟨j,o,rfl⟩:=List.mem_map.1 hl
  have o:=List.mem_range.1 o
  show 0<=v/\v<2^p.d
  rcases zP.1 hv with h1|h1
  .have:=C.smp _ (jQ (P:=q.P) (j:=j) (by rw[<-u.n];exact o)) v (mem_of_mem_take h1)
   rw[<-u.d]at this
   exact this
  .exact h.smp _ (jQ o) v (mem_of_mem_drop h1)
theorem AV{l:List Int}(p:x<W)(o:y*W+x=m)(u:m<=l.length):iC (ia (l.take m) l.length) W x y=iC l W x y:=by
 refine ML p λi hi=>?_;rw[o]at hi;rw[zD,zD];unfold ia;rw[getElem?_append_left (by rw[zI];omega),getElem?_take_of_lt hi]
theorem Nr{l:List Int}(u:ie d l)(W kind y x:Nat):gU (p9 l W d kind y x+jV kind (iC l W x y) d) d=l.getD (y*W+x) 0:=by
 obtain⟨o,p⟩:=mZ u (y*W+x);unfold p9;generalize jV kind (iC l W x y) d=g;rw[Int.add_comm,qX,show g+(l.getD (y*W+x) 0-g)=l.getD (y*W+x) 0 by omega];exact rf o p
theorem uw(l:List Int):ia (l.take l.length) l.length=l:=by
 rw[zN];simp[ia]
theorem CY{α:Type}{W x:Nat}(p:x<W):∀(L:List (List α)) (y:Nat),(∀a∈L,a.length=W)->y<L.length->L.flatten[y*W+x]?=(L[y]?).bind (·[x]?)
 | [],y,_,h=>by simp at h
 | a::L,0,h,_=>by
  have o:=h a (by simp);rw[flatten_cons,Nat.zero_mul,Nat.zero_add,getElem?_append_left (by omega)];simp
 | a::L,y+1,h,hy=>by
  have o:=h a (by simp);rw[flatten_cons,zS (by rw[o,succ_mul];omega),o,show(y+1)*W+x-W=y*W+x by rw[succ_mul];omega,CY p L y (λb hb=>h b (by simp[hb])) (by simpa using hy)];simp
theorem NJ(l:List Int)(d:Nat)(ks:List Nat)(p:y<H)(o:x<W):(nf l W H d ks).getD (y*W+x) 0=p9 l W d (ks.getD y 0) y x:=by
 have h:=CY o ((range H).map λy=>lj l W y d (ks.getD y 0)) y (λa ha=>by
  obtain⟨z,_,rfl⟩:=List.mem_map.1 ha;exact uB _ _ _ _ _) (by simpa using p)
 unfold nf;rw[zD,flatMap_def,h,zW,getElem?_range p];simp[lj,o]
theorem Mq(l:List Int)(W H d:Nat)(ks:List Nat):((nf l W H d ks).map λv=>ii v d).map (λv=>gU v d)=nf l W H d ks:=by
 rw[map_map];refine(map_congr_left λv hv=>?_).trans (map_id _);obtain⟨o,p⟩:=Fe l W H d ks v hv;show gU (ii v d) d=v;rw[vW,rf o p]
def js(lens:List Nat)(k n:Nat):List Nat:=((hO lens).take k).filter λs=>gO lens s==n
def jZ(lens:List Nat)(k n:Nat):Nat:=match js lens k n with | []=>0 | s::_=>lS lens s
def rp(lens:List Nat)(k:Nat):Nat:=match k with | 0=>0 | k+1=>gO lens ((hO lens).getD k 0)
theorem Cg{k:Nat}(h:k<(hO lens).length)(n:Nat):js lens (k+1) n=js lens k n++(if gO lens ((hO lens).getD k 0)=n then[(hO lens).getD k 0]else[]):=by
 unfold js;rw[<-take_append_getElem h,filter_append,filter_cons,filter_nil,zD,zF h]
 congr 1
 simp only[Option.getD_some,beq_iff_eq]
theorem CH{k n:Nat}(h:k<(hO lens).length)(o:gO lens ((hO lens).getD k 0)≠n):js lens (k+1) n=js lens k n:=by
 rw[Cg h,if_neg o,append_nil]
theorem y8{k n:Nat}(h:k<(hO lens).length)(o:gO lens ((hO lens).getD k 0)=n):js lens (k+1) n=js lens k n++[(hO lens).getD k 0]:=by
 rw[Cg h,if_pos o]
theorem Js{k n:Nat}(h:k<(hO lens).length)(o:gO lens ((hO lens).getD k 0)≠n):jZ lens (k+1) n=jZ lens k n:=by
 unfold jZ;rw[CH h o]
theorem Kn{k n:Nat}(h:k<(hO lens).length)(p:gO lens ((hO lens).getD k 0)=n)(o:js lens k n=[]):jZ lens (k+1) n=lS lens ((hO lens).getD k 0):=by
 unfold jZ;rw[y8 h p,o];rfl
theorem Ko{k n:Nat}(h:k<(hO lens).length)(p:gO lens ((hO lens).getD k 0)=n)(o:js lens k n≠[]):jZ lens (k+1) n=jZ lens k n:=by
 unfold jZ;rw[y8 h p]
 cases hq:js lens k n with
 | nil=>exact absurd hq o
 | cons a l=>rfl
theorem DX(lens:List Nat)(k n:Nat):(js lens k n).length<=lens.length:=by
 unfold js;have o:=length_filter_le (λs=>gO lens s==n) ((hO lens).take k);have p:=xw lens 24;unfold hO at *;rw[zI]at o;omega
def mp(lens:List Nat):Nat:=(hO lens).length
theorem CD(lens:List Nat)(n:Nat):∀d,∃X,i2 lens (n+d)=i2 lens n++X/\∀s∈X,n<gO lens s
 | 0=>⟨[],by simp,by simp⟩
 | d+1=>by
  obtain⟨X,o,p⟩:=CD lens n d;refine⟨X++ja lens (n+d+1) lens.length,by rw[show n+(d+1)=n+d+1 by omega,sE,o,zH],λs hs=>?_⟩;rcases zP.1 hs with h|h
  .exact p s h
  .have:=(pI.1 h).2;omega
theorem DR(lens:List Nat){n:Nat}(u:0<n)(C:n<=24):∃X,hO lens=i2 lens (n-1)++(ja lens n lens.length++X)/\∀s∈X,n<gO lens s:=by
 obtain⟨X,o,p⟩:=CD lens n (24-n);refine⟨X,?_,p⟩;have e:i2 lens n=i2 lens (n-1)++ja lens n lens.length:=by
  have:=sE lens (n-1)
  rwa [show n-1+1=n by omega]at this
 rw[show n+(24-n)=24 by omega,e,zH]at o;exact o
theorem xo(lens:List Nat){n:Nat}(u:0<n)(J:n<=24):js lens (mp lens) n=ja lens n lens.length:=by
 obtain⟨X,C,D⟩:=DR lens u J;unfold js mp;rw[zN,C,filter_append,filter_append];have p:(i2 lens (n-1)).filter (λs=>gO lens s==n)=[]:=by
  rw[filter_eq_nil_iff];intro s o h;have E:=sI.1 o;have I:gO lens s=n:=by simpa using h
  omega
 have e2:X.filter (λs=>gO lens s==n)=[]:=by
  rw[filter_eq_nil_iff];intro s o h;have E:=D s o;have I:gO lens s=n:=by simpa using h
  omega
 have e3:(ja lens n lens.length).filter (λs=>gO lens s==n)=ja lens n lens.length:=by
  rw[filter_eq_self];intro s o
  simpa using(pI.1 o).2
 rw[p,e2,e3];simp
theorem xL(lens:List Nat){n:Nat}(o:0<n)(C:n<=24)(u:i<(ja lens n lens.length).length):(i2 lens (n-1)).length+i<(hO lens).length/\(hO lens).getD ((i2 lens (n-1)).length+i) 0=(ja lens n lens.length).getD i 0:=by
 obtain⟨X,p,D⟩:=DR lens o C;rw[p];refine⟨by simp;omega,?_⟩;rw[zD,zS (by omega),show(i2 lens (n-1)).length+i-(i2 lens (n-1)).length=i by omega,getElem?_append_left u,<-zD]
theorem AD{n:Nat}(o:i<(ja lens n lens.length).length):gO lens ((ja lens n lens.length).getD i 0)=n:=by
 have p:(ja lens n lens.length).getD i 0∈ja lens n lens.length:=by
  rw[zD,zF o];exact zG o
 exact(pI.1 p).2
theorem zn(lens:List Nat){n:Nat}(o:0<n)(u:n<=24):∀i,i<=(ja lens n lens.length).length -> mn lens ((i2 lens (n-1)).length+i)=mn lens (i2 lens (n-1)).length+i*2^(24-n)
 | 0,_=>by simp
 | i+1,hi=>by
  obtain⟨C,D⟩:=xL lens o u (i:=i) (by omega);have p:=vM lens C;rw[D,AD (by omega),zn lens o u i (by omega)]at p;rw[show(i2 lens (n-1)).length+(i+1)=(i2 lens (n-1)).length+i+1 by omega,p,Nat.add_mul,Nat.one_mul,Nat.add_assoc]
theorem DF(lens:List Nat){n:Nat}(u:0<n)(D:n<=24)(p:0<(ja lens n lens.length).length):jZ lens (mp lens) n=mn lens (i2 lens (n-1)).length / 2^(24-n):=by
 obtain⟨E,C⟩:=xL lens u D p;have o:=vQ E;rw[C]at o;unfold jZ;rw[xo lens u D];unfold kZ at o;rw[C,AD p]at o
 cases hq:ja lens n lens.length with
 | nil=>rw[hq]at p;simp at p
 | cons a l=>
  rw[hq]at o
  simpa using o
theorem M4(C:∀x∈lens,x<=24){n:Nat}(Q:0<gO lens s)(p:0<n)(S:n<gO lens s):lS lens s / 2^(gO lens s-n)<jZ lens (mp lens) n\/jZ lens (mp lens) n+(js lens (mp lens) n).length<=lS lens s / 2^(gO lens s-n):=by
 obtain⟨j,I,rfl⟩:=xM C Q;obtain⟨T,R,-⟩:=qw I;have o:n<=24:=by omega
 rw[xo lens p o];rcases eq_zero_or_pos (ja lens n lens.length).length with u|u
 .right
  have O:=eq_nil_of_length_eq_zero u
  have:jZ lens (mp lens) n=0:=by unfold jZ;rw[xo lens p o,O]
  rw[this,u];exact zero_le _
 .right
  rw[vQ I,DF lens p o u];unfold kZ;generalize hLL:gO lens ((hO lens).getD j 0)=L at *;rw[Nat.div_div_eq_div_mul,<-Nat.pow_add,show 24-L+(L-n)=24-n by omega];have J:(i2 lens (n-1)).length+(ja lens n lens.length).length<=j:=by
   rcases zZ j ((i2 lens (n-1)).length+(ja lens n lens.length).length)with h|h
   .exfalso
    have D:=xL lens p o (i:=(ja lens n lens.length).length-1) (by omega);have M:=uP (lens:=lens) (j:=j) (k:=(i2 lens (n-1)).length+((ja lens n lens.length).length-1)) (by omega) D.1;rw[D.2,AD (by omega),hLL]at M;omega
   .exact h
  have E:=EG lens J;rw[zn lens p o _ (zQ _)]at E;have N:=Nat.div_le_div_right (c:=2^(24-n)) E
  rwa [add_mul_div_right _ _ (Nat.two_pow_pos _)]at N
theorem OD(D:∀x∈lens,x<=24)(S:0<gO lens s):jZ lens (mp lens) (gO lens s)<=lS lens s/\lS lens s-jZ lens (mp lens) (gO lens s)<(js lens (mp lens) (gO lens s)).length /\ (js lens (mp lens) (gO lens s)).getD (lS lens s-jZ lens (mp lens) (gO lens s)) 0=s:=by
 obtain⟨j,Q,M⟩:=xM D S;obtain⟨p,o,I⟩:=qw Q;rw[M]at p o I;generalize hLL:gO lens s=L at *;have R:s∈ja lens L lens.length:=pI.2 ⟨I,hLL⟩;obtain⟨i,J,O⟩:=getElem_of_mem R;have C:(ja lens L lens.length).getD i 0=s:=by rw[zD,zF J];exact O
 obtain⟨N,E⟩:=xL lens p o J;have u:=vQ N;rw[E,C]at u;unfold kZ at u;rw[E,C,hLL,zn lens p o _ (by omega),add_mul_div_right _ _ (Nat.two_pow_pos _)]at u;rw[xo lens p o,DF lens p o (by omega),u];refine⟨by omega,by omega,?_⟩;rw[show mn lens (i2 lens (L-1)).length / 2^(24-L)+i-mn lens (i2 lens (L-1)).length / 2^(24-L)=i by omega];exact C
theorem MB(o:∀x∈lens,x<=24)(u:0<gO lens s):gO lens s<=rp lens (mp lens)/\rp lens (mp lens)<=24:=by
 obtain⟨j,C,rfl⟩:=xM o u;unfold mp;obtain⟨k,p⟩:∃k,(hO lens).length=k+1:=⟨(hO lens).length-1,by omega⟩;rw[p];exact⟨uP (by omega) (by omega),(qw (by omega)).2.1⟩
def oT(s:Nat):Nat:=if s%2=1 then(s / 2) ^^^ 3988292384 else s / 2
def nm:Nat->Nat->Nat
 | 0,s=>s
 | n+1,s=>nm n (oT s)
def Gg(s c:Nat):Nat:=nm 8 (s ^^^ c)
def rV(s:Nat)(ds:List Nat):Nat:=ds.foldl Gg s
def mu(ds:List Nat):Nat:=rV 4294967295 ds ^^^ 4294967295
theorem IT(h:s<4294967296):oT s<4294967296:=by
 unfold oT;split
 .exact xor_lt_two_pow (n:=32) (by omega) (by decide)
 .omega
theorem CX:∀(n:Nat) {s:Nat},s<4294967296->nm n s<4294967296
 | 0,s,h=>h
 | n+1,s,h=>CX n (IT h)
theorem Lc{c:Nat}(h:s<4294967296)(o:c<256):Gg s c<4294967296:=
 CX 8 (xor_lt_two_pow (n:=32) h (by omega))
theorem E1:∀(ds:List Nat) {s:Nat},s<4294967296->(∀d∈ds,d<256)->rV s ds<4294967296
 | [],s,h,_=>h
 | d::ds,s,h,hd=>E1 ds (Lc h (hd d (by simp))) (λx hx=>hd x (by simp[hx]))
theorem xH{o:List Nat}(p:∀d∈o,d<256):mu o<4294967296:=xor_lt_two_pow (n:=32) (E1 o (by decide) p) (by decide)
theorem JT(s:Nat)(a b:List Nat):rV s (a++b)=rV (rV s a) b:=foldl_append
theorem Cb:∀(m n s:Nat),nm (m+n) s=nm n (nm m s)
 | 0,n,s=>by rw[Nat.zero_add];rfl
 | m+1,n,s=>by
  rw[show m+1+n=(m+n)+1 by omega];show nm (m+n) (oT s)=nm n (nm m (oT s));exact Cb m n _
def jP(n:Nat):List Nat:=[n / 16777216%256,n / 65536%256,n / 256%256,n%256]
theorem EU(n:Nat):∀d∈jP n,d<256:=by
 intro d o;unfold jP at o;simp only[zJ,not_mem_nil,or_false]at o;omega
theorem s9{P:Program}{t e:TypeId}(I:P.underlying t=some (.slice e))(O:∀w,(sizeOf e).run P w=.ok 1 w)(A:Option Addr)(n c p m D:Nat)(C:D=p+m)(h:D<=n)(N:n<=c):∃A',(∀w,(Instr.slice t (.slice A n c) (some (.int .i64 p)) (some (.int .i64 D)) none).run P w=.ok (.slice A' m (c-p)) w) /\ (∀ad,A'=some ad->∃ad0,A=some ad0/\ad.block=ad0.block) /\ ∀(α:Type) (f:α->Value) (w:World) (l:List α),l.length=n->gz f w A l->gz f w A' ((l.drop p).take m):=by
 have E:=th I;subst C;refine⟨if c=p then A else A.map (·.add (p*1)),λw=>?_,?_,?_⟩
 .rw[run_slice_lh (P:=P) (w:=w) t A n c (by rw[E];exact I) .i64 .i64 (p:Int) ((p+m:Nat):Int) (by omega) (by omega) (by omega),E,O]
  simp[sliced];omega
 .intro ad u
  split at u
  .exact⟨ad,u,rfl⟩
  .cases A with
   | none=>simp at u
   | some ad0=>
    simp at u;subst u;refine⟨ad0,rfl,?_⟩;unfold Addr.add;split<;>rfl
 .intro α f w l Q M
  refine⟨λh0=>?_⟩;rw[zI,zO]at h0;obtain⟨b,o,rfl,L,J⟩:=M.ex (by omega);rw[if_neg (by omega)];refine⟨b,o+p,?_,L,λi a ha=>?_⟩
  .simp only[Option.map_some,Addr.add,Nat.mul_one]
   split
   .rename_i h;subst h;rfl
   .rfl
  .rw[getElem?_take]at ha
   split at ha
   .rw[getElem?_drop]at ha
    have:=J (p+i) a ha
    rwa [<-Nat.add_assoc]at this
   .cases ha
end Go.Proofs.YtifdlkoepaepiaaGreatDoor
