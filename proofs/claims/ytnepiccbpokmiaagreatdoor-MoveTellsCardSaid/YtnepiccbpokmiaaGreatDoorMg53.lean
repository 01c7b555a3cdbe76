/- Lemmas. -/
import Derived.Test.YtnepiccbpokmiaaGreatDoorMg43
import Derived.Test.YtnepiccbpokmiaaGreatDoorMg52
set_option linter.all false
set_option maxRecDepth 100000
namespace Go.Proofs.YtnepiccbpokmiaaGreatDoor
open _root_.Go.Proofs.Tryz List Nat Go.ChangeShapes Go.WideShapes Go.ChangeAt Go.RowKit Go.Deep
variable {cs:List Value}{cap len:Nat}{A:Option Addr}
section
variable {H:Type} {enc:TypeId × Value->H} {w:World} {base:Nat} {spare:Nat->Bool} {held:Bool} {fuel:Nat}
theorem Gv{t e:TypeId}(M:prog.underlying t=some (.slice e))(I:prog.cellsOf e=1){x:DataW H × List MemPlace}(h:DataW.trod enc prog w base spare held fuel t [.slice A len cap]=some x):len<=cap/\cap<=9223372036854775807/\(0<len->∃g o,A=some ⟨g,o,none⟩/\g<w.heap.size/\∀i,i<len->∃(v:Value) (m:Nat) (y:DataW H × List MemPlace),w.cell? ⟨g,o+i,none⟩=some v/\DataW.trod enc prog w base spare held m e [v]=some y):=by
 rcases open_slice M h with⟨d,_⟩|⟨a,P,O,m,n,D,N,d,R,K,L,B,S,hi⟩
 .simp at d
  obtain⟨rfl,rfl,rfl⟩:=d;exact⟨zQ _,by omega,λc=>by omega⟩
 .simp at d
  obtain⟨rfl,rfl,rfl⟩:=d;have Q:len<=m:=by rw[B];split<;>omega
  have l:∀i,i<len->∃(v:Value) (k:Nat) (y:DataW H × List MemPlace),w.cell? (a.add i)=some v/\DataW.trod enc prog w base spare held k e [v]=some y:=by
   intro i p;obtain⟨u,J,ad⟩:=hi i (by omega);obtain⟨_,f,j⟩:=World.cells?_some J;rw[I]at j f;have c:=j 0 (by omega);rw[Nat.mul_one]at c;have C:(a.add i).add 0=a.add i:=by
    unfold Addr.add;by_cases e1:i=0<;>simp[e1]
   rw[C]at c
   match u,f,c,ad with
   | [v],_,c,ad=>exact⟨v,_,_,by simpa using c,ad⟩
  refine⟨K,by simpa[maxLen]using L,λhl0=>?_⟩;obtain⟨b,o,s⟩:=a;obtain⟨T,_,_,q,_⟩:=l 0 hl0;have r:s=none:=by simpa[Addr.add]using World.cell?_spot q
  subst r;have z:=World.block_lt_of_cell? w _ q;have E:∀i,(⟨b,o,none⟩:Addr).add i=⟨b,o+i,none⟩:=λi=>by
   unfold Addr.add;by_cases e1:i=0<;>simp[e1]
  refine⟨b,o,rfl,by simpa[Addr.add]using z,λi p=>?_⟩;obtain⟨v,k,y,F,G⟩:=l i p;exact⟨v,k,y,by rw[<-E];exact F,G⟩
theorem Hi{x:DataW H × List MemPlace}(h:DataW.trod enc prog w base spare held fuel 23 [.slice A len cap]=some x):len<=cap/\cap<=9223372036854775807/\∃(P:List (List Int)) (B:Nat->Option Addr) (c:Nat->Nat),P.length=len/\(0<len->∃g o,A=some ⟨g,o,none⟩/\g<w.heap.size/\∀i,i<len->w.cell? ⟨g,o+i,none⟩=some (.slice (B i) (P.getD i []).length (c i)))/\(∀i,i<len->gu vi w (B i) (P.getD i []))/\∀i,i<len->(P.getD i []).length<=c i/\c i<=9223372036854775807:=by
 obtain⟨t,u,C⟩:=Gv underlying23 (by kernel_rfl) h;refine⟨t,u,?_⟩;rcases eq_zero_or_pos len with j|j
 .subst j
  exact⟨[],λ_=>none,λ_=>0,rfl,λh=>by omega,λi h=>by omega,λi h=>by omega⟩
 .obtain⟨g,o,r,s,p⟩:=C j
  have ad:∀i,∃y:Option Addr × Nat × List Int,i<len->w.cell? ⟨g,o+i,none⟩=some (.slice y.1 y.2.2.length y.2.1)/\gu vi w y.1 y.2.2/\y.2.2.length<=y.2.1/\y.2.1<=9223372036854775807:=λi=>by
   by_cases hi:i<len
   .obtain⟨v,m,y,q,n⟩:=p i hi
    have z:∃b l' c',v=.slice b l' c':=by
     rcases DataW.trod_slice underlying22 n with⟨e,_⟩|⟨a,l',c',_,_,_,_,e,_⟩
     .exact⟨none,0,0,by simpa using e⟩
     .exact⟨some a,l',c',by simpa using e⟩
    obtain⟨b,l',c',rfl⟩:=z;obtain⟨k1,k2,l,k3,k4,k5⟩:=AT n;subst k3;exact⟨⟨b,c',l⟩,λ_=>⟨q,k4,k1,k2⟩⟩
   .exact⟨⟨none,0,[]⟩,λh=>absurd h hi⟩
  obtain⟨f,k⟩:=Classical.axiomOfChoice ad;have d:∀i,i<len->((range len).map λi=>(f i).2.2).getD i []=(f i).2.2:=λi hi=>by
   rw[zD,zW,getElem?_range hi];rfl
  refine⟨(range len).map λi=>(f i).2.2,λi=>(f i).1,λi=>(f i).2.1,by simp,λ_=>⟨g,o,r,s,λi hi=>?_⟩,λi hi=>?_,λi hi=>?_⟩
  .rw[d i hi]
   exact(k i hi).1
  .rw[d i hi]
   exact(k i hi).2.1
  .rw[d i hi]
   exact(k i hi).2.2
theorem BE{x:DataW H × List MemPlace}(h:DataW.trod enc prog w base spare held fuel 25 cs=some x):∃(r:iH) (A:Option Addr) (cap:Nat) (B:Nat->Option Addr) (c:Nat->Nat) (G:List Nat),cs=[.int .i64 r.W,.int .i64 r.H,.int .i64 r.d,.slice A r.P.length cap]/\jH w r A B c G:=by
 obtain⟨f,m,rfl,D,t,K,j⟩:=DataW.trod_struct underlying25 h;have c1:prog.cellsOf 3=1:=by kernel_rfl
 have c2:prog.cellsOf 23=1:=by kernel_rfl
 have c4:prog.cellsOf 25=4:=by kernel_rfl
 rw[c4]at t;have d:DataW.trod enc prog w base spare held m 3 ((cs.drop 0).take (prog.cellsOf 3))=f[0]?:=j 0 _ rfl;have l:DataW.trod enc prog w base spare held m 3 ((cs.drop 1).take (prog.cellsOf 3))=f[1]?:=j 1 _ rfl;have n:DataW.trod enc prog w base spare held m 3 ((cs.drop 2).take (prog.cellsOf 3))=f[2]?:=j 2 _ rfl;have p:DataW.trod enc prog w base spare held m 23 ((cs.drop 3).take (prog.cellsOf 23))=f[3]?:=j 3 _ rfl;have I:f.length=4:=by rw[K];rfl
 rw[c1]at d l n;rw[c2]at p
 match f,I,cs,t,d,l,n,p with
 | [x0,x1,x2,x3],_,[a,b,c,v],_,d,l,n,p=>
  obtain⟨M,y,_,_⟩:=DataW.trod_int underlying3 (show DataW.trod enc prog w base _ _ m 3 [a]=some x0 from d);obtain⟨k1,z,_,_⟩:=DataW.trod_int underlying3 (show DataW.trod enc prog w base _ _ m 3 [b]=some x1 from l);obtain⟨k2,C,_,_⟩:=DataW.trod_int underlying3 (show DataW.trod enc prog w base _ _ m 3 [c]=some x2 from n);have u:DataW.trod enc prog w base spare held m 23 [v]=some x3:=p;have L:∃q l' c',v=.slice q l' c':=by
   rcases DataW.trod_slice underlying23 u with⟨s,_⟩|⟨a,l',c',_,_,_,_,s,_⟩
   .exact⟨none,0,0,by simpa using s⟩
   .exact⟨some a,l',c',by simpa using s⟩
  obtain⟨q,l',c',rfl⟩:=L;obtain⟨N,O,P,B,J,Q,R,E,S⟩:=Hi u;subst Q;simp at y z C;subst y;subst z;subst C;refine⟨⟨M,k1,k2,P⟩,q,c',B,J,range w.heap.size,rfl,λx D=>List.mem_range.1 D,λd=>?_,E,λi hi d ad e=>?_,S,Nat.le_trans N O⟩
  .obtain⟨g,o,T,U,V⟩:=R d
   exact⟨g,o,T,List.mem_range.2 U,V⟩
  .obtain⟨W,X,k,F,_⟩:=(E i hi).ex d
   rw[e]at k;injection k with k;subst k;exact List.mem_range.2 F
theorem IF{x:DataW H × List MemPlace}(h:DataW.trod enc prog w base spare held fuel 48 cs=some x):∃m:Int × Int,cs=[.int .i64 m.1,.int .i64 m.2]/\mX m.1/\mX m.2:=by
 obtain⟨o,m,rfl,p,e,j,f⟩:=DataW.trod_array underlying48 h;have c1:prog.cellsOf 3=1:=by kernel_rfl
 have c2:prog.cellsOf 48=2:=by kernel_rfl
 rw[c2]at e;have c:=f 0 (by decide);have d:=f 1 (by decide);rw[c1]at c d
 match o,j,cs,e,c,d with
 | [x0,x1],_,[a,b],_,c,d=>
  obtain⟨k,g,_,l⟩:=DataW.trod_int underlying3 (show DataW.trod enc prog w base _ _ m 3 [a]=some x0 from c);obtain⟨k1,i,_,n⟩:=DataW.trod_int underlying3 (show DataW.trod enc prog w base _ _ m 3 [b]=some x1 from d);simp at g i;subst g;subst i;exact⟨(k,k1),rfl,bounds_i64 l,bounds_i64 n⟩
theorem Gz{x:DataW H × List MemPlace}(h:DataW.trod enc prog w base spare held fuel 26 [.slice A len cap]=some x):∃ms:List (Int × Int),ms.length=len/\gu (λv=>v) w A (ms.flatMap lu)/\rJ ms:=by
 have N:prog.cellsOf 48=2:=by kernel_rfl
 rcases open_slice underlying26 h with⟨g,_⟩|⟨a,T,S,m,n,D,R,g,W,Y,Z,I,hx,hi⟩
 .simp at g
  obtain⟨rfl,rfl,rfl⟩:=g;exact⟨[],rfl,⟨λc=>by simp at c⟩,λi=>by simp⟩
 .simp at g
  obtain⟨rfl,rfl,rfl⟩:=g;have V:len<=m:=by rw[I];split<;>omega
  have E:∀i,∃y:Int × Int,i<len->(w.cell? (a.add (i*2))=some (.int .i64 y.1)/\w.cell? ((a.add (i*2)).add 1)=some (.int .i64 y.2))/\mX y.1/\mX y.2:=by
   intro i;by_cases hil:i<len
   .obtain⟨U,O,J⟩:=hi i (by omega)
    obtain⟨y,rfl,P,Q⟩:=IF J;obtain⟨_,_,l⟩:=World.cells?_some O;rw[N]at l;have c:=l 0 (by omega);have j:=l 1 (by omega);have K:(a.add (i*2)).add 0=a.add (i*2):=(by simp[Addr.add]);rw[K]at c;exact⟨y,λ_=>⟨⟨by simpa using c,by simpa using j⟩,P,Q⟩⟩
   .exact⟨(0,0),λc=>absurd c hil⟩
  obtain⟨f,r⟩:=Classical.axiomOfChoice E;have u:∀i,i<len->((range len).map f).getD i (0,0)=f i:=λi hi=>by
   rw[zD,zW,getElem?_range hi];rfl
  refine⟨(range len).map f,by simp,⟨λc=>?_⟩,λi=>?_⟩
  .have F:0<len:=by
    rw[tB]at c;simp at c;omega
   obtain⟨b,o,C⟩:=a;have j:=(r 0 F).1.1;have B:C=none:=(by simpa[Addr.add]using World.cell?_spot j);subst B;have G:=World.block_lt_of_cell? w _ j;have L:∀i,(⟨b,o,none⟩:Addr).add i=⟨b,o+i,none⟩:=λi=>by
    unfold Addr.add;by_cases e1:i=0<;>simp[e1]
   refine⟨b,o,rfl,by simpa[Addr.add]using G,λk v hv=>?_⟩;have X:k<len*2:=by
    have:=(List.getElem?_eq_some_iff.1 hv).1
    rw[tB]at this
    simpa using this
   have s:k / 2<len:=(by omega);obtain⟨⟨z,t⟩,_,_⟩:=r (k / 2) s;rw[L]at z t;have M:(⟨b,o+k / 2*2,none⟩:Addr).add 1=⟨b,o+k / 2*2+1,none⟩:=(by simp[Addr.add]);rw[M]at t;obtain⟨d,q⟩:=sk ((range len).map f) (k / 2) (by simpa using s);rw[u _ s]at d q;rcases(by omega:k=k / 2*2\/k=k / 2*2+1)with e|e
   .have p:o+k=o+k / 2*2:=by omega
    rw[e,zY]at hv;rw[zY]at d
    first|rw[d]at hv|(rw[zY]at hv;rw[d]at hv)|(rw[zY]at d;rw[d]at hv)
    rw[p,<-hv];exact z
   .have p:o+k=o+k / 2*2+1:=by omega
    rw[e]at hv
    first|rw[q]at hv|(rw[zY]at hv;rw[q]at hv)
    rw[p,<-hv];exact t
  .rcases zZ i len with ad|ad
   .rw[u i ad]
    exact(r i ad).2
   .rw[zD,getElem?_eq_none (by simpa using ad)]
    decide
end
end Go.Proofs.YtnepiccbpokmiaaGreatDoor
