/- Lemmas. -/
import Derived.Test.YtifdlkoepaepiaaGreatDoorMh24
import Derived.Test.YtifdlkoepaepiaaGreatDoorMh15
import Derived.Deep.RegionHeld3
set_option linter.all false
set_option maxHeartbeats 4000000
set_option maxRecDepth 100000
namespace Go.Proofs.YtifdlkoepaepiaaGreatDoor
open Tryz List Nat Go.RowKit
open Go.RowKit Go.Sort Go.Shelf Go.Lib
variable {F l:List Nat}{b i n s:Nat}{w w':World}
def mA(P:Nat->Prop)(w:World):El->Nat->Prop
  | .coin s k,b=>P b/\gn w b 275 #[k,s,.slice none 0 0]
  | .pack x y, b => ∃ g b1 b2, P b /\ P g /\ gn w b 275 #[.int .i64 ((x.wt + y.wt : Nat) : Int), .int .i64 0, .slice (some ⟨g, 0, none⟩) 2 2] /\
      gn w g 273 #[.pointer (some ⟨b1,0,none⟩),.pointer (some ⟨b2,0,none⟩)]/\mA P w x b1/\mA P w y b2
theorem mA.head{P:Nat->Prop}{e:El}(h:mA P w e b):P b/\b<w.heap.size/\w.cell? b=some (.int .i64 e.wt):=by
 cases e with
 | coin s k=>exact⟨h.1,h.2.lt,by have := h.2.X 0;simpa[El.wt]using this⟩
 | pack x y=>
  obtain⟨g,d,f,c,j,a,_⟩:=h;exact⟨c,a.lt,by have:=a.X 0;simpa[El.wt]using this⟩
theorem mA.Z{P:Nat->Prop}(a:gg F w w')(hF:∀x∈F,¬P x):∀ {e:El} {b:Nat},mA P w e b->mA P w' e b:=by
 intro e
 induction e with
 | coin s k=>intro b h;exact⟨h.1,h.2.Z a λhm=>hF _ hm h.1⟩
 | pack x y ihx ihy=>
  intro b h;obtain⟨g,f,j,c,d,m,o,p,q⟩:=h;exact⟨g,f,j,c,d,m.Z a λhm=>hF _ hm c,o.Z a λhm=>hF _ hm d,ihx p,ihy q⟩
theorem mA.Y{P:Nat->Prop}(a:gg [] w w'){e:El}(h:mA P w e b):mA P w' e b:=h.Z a (by simp)
theorem mA.imp{P Q:Nat->Prop}(h:∀x,x<w.heap.size->P x->Q x):∀ {e:El} {b:Nat},mA P w e b->mA Q w e b:=by
 intro e
 induction e with
 | coin s k=>intro b k;exact⟨h _ k.2.lt k.1,k.2⟩
 | pack x y ihx ihy=>
  intro b k;obtain⟨g,d,f,j,m,a,c,o,p⟩:=k;exact⟨g,d,f,h _ a.lt j,h _ c.lt m,a,c,ihx o,ihy p⟩
abbrev PE:=Nat × El
def kB(p:PE):Value:=.pointer (some ⟨p.1,0,none⟩)
def kW(P:Nat->Prop)(w:World)(l:List PE):Prop:=∀p∈l,mA P w p.2 p.1
theorem kW.Z{P:Nat->Prop}{l:List PE}(h:kW P w l)(a:gg F w w')(hF:∀x∈F,¬P x):kW P w' l:=λp hp=>(h p hp).Z a hF
theorem kW.Y{P:Nat->Prop}{l:List PE}(h:kW P w l)(a:gg [] w w'):kW P w' l:=λp hp=>(h p hp).Y a
theorem kW.imp{P Q:Nat->Prop}{l:List PE}(h:kW P w l)(a:∀x,x<w.heap.size->P x->Q x):kW Q w l:=λp hp=>(h p hp).imp a
theorem OZ(blk d c h a:Nat)(W:World)(G K:Nat->Nat)(r:W.cell? h=some (.slice (some ⟨blk,d,none⟩) a c))(f:∀t,t<a->W.cell? ⟨blk,d+t,none⟩=some (.pointer (some ⟨G t,0,none⟩)))(g:∀t,t<a->W.cell? ⟨G t,0,none⟩=some (.int .i64 (K t:Int)))(i j:Nat)(k:i<a)(m:j<a):Calls prog 251 #[i,j,.pointer h] W λe w'=>e=.returned (.bool (decide (K i<K j)))/\∃q,w'=W.drewN q:=by
 have o:=f i k;have p:=f j m;have u:=g i k;have v:=g j m;clear f g;have e:decide (K i<K j)=decide ((K i:Int)<(K j:Int)):=by simp
 rw[e];generalize K i=ki at *;generalize K j=kj at *;generalize G i=gi at *;generalize G j=gj at *;clear e;go_enter func251,ntmps251;go_wp2
 go_quiet (fail)
 go_wp2;go_ret;exact⟨by simp,nq,rfl⟩
open Go.RowKit Go.Sort Go.Shelf Go.Lib
noncomputable def tD:TypeInfo:=(prog.info? 272).get (by kernel_rfl)
noncomputable def tz:TypeInfo:=(prog.info? 273).get (by kernel_rfl)
theorem OH(n:Nat)(e:2<=n):Lib.swapperK n tz 22=3:=by
 have a:tz.hasPointers=true:=by kernel_rfl
 have b:tz.bytes=8:=by kernel_rfl
 have c:(n==0)=false:=by simp;omega
 have d:(n==1)=false:=by simp;omega
 simp[Lib.swapperK,a,b,c,d]
theorem FD(w:World)(v:Value)(g:Nat)(E:List PE)(A:2<=E.length)(q:E.length<1099511627776)(r:gv w 273 v g (E.map kB))(R:kW (·≠g) w E):Calls prog 231 #[v] w λe w'=>e=.returned (.tuple #[])/\gv w' 273 v g ((qP (·.2) E (E.headD default)).map kB)/\gg [g] w w':=by
 have aG:=r.lt;obtain⟨a,rfl,am,au,_,_⟩:=r.T;have⟨n,hn⟩:=zX E.length;rw[<-hn]at A q am⊢
 -- the elements by their places
 have⟨e0,ak⟩:=zX (E.headD default);have M:e0∈E:=by
  rw[ak]
  cases E with
  | nil=>simp at hn;omega
  | cons x l=>simp
 have I:∀k,E.getD k e0∈E:=λk=>by
  rw[zD]
  cases hk:E[k]? with
  | none=>exact M
  | some x=>exact mem_of_getElem? hk
 let enc:Nat->Value:=λk=>kB (E.getD k e0)
 let T:List El:=E.map (·.2)
 have G:∀k,(E.getD k e0).2.wt=od T k:=λk=>by
  unfold od;show _=((E.map λp:PE=>p.2).getD k ((E.map λp:PE=>p.2).headD default)).wt;rw[zD,zD,zW,ak]
  cases hk:E[k]? with
  | none=>
   cases E with
   | nil=>rfl
   | cons x l=>rfl
  | some x=>rfl
 let lt:Nat->Nat->Bool:=λx y=>decide (od T x<od T y)
 have H:(range n).map enc=E.map kB:=by
  have e:(range n).map enc=((range n).map λk=>E.getD k e0).map kB:=by rw[map_map];rfl
  rw[e,hn,yz]
 rw[<-hn,<-H]at r;have z:=r.alloc (.cells #[.slice g n a] 272);have⟨W1,ab⟩:=zX (w.alloc (.cells #[.slice g n a] 272));have u:Holds enc W1 g 0 (range n).toArray:=by rw[ab];exact z.holds
 have L:g<W1.heap.size:=by rw[ab];simp;omega
 have h:(range n).toArray.size=n:=by simp
 have D:W1.cell? ⟨w.heap.size,0,none⟩=some (.slice g n a):=by rw[ab];simp
 have J:kW (·≠g) W1 E:=R.Y (by rw[ab];exact(zR [] w).alloc _);have C:LessReads prog 251 #[.pointer (some ⟨w.heap.size,0,none⟩)] enc lt g 0 n W1:=by
  intro m os d hs i j hi B;have f:SW enc W1 g 0 d (sortWorld enc W1 g 0 m d os):=⟨m,os,rfl⟩;have X:=f.holds L u (hs.trans h.symm);have hl:=OZ g 0 a w.heap.size n (sortWorld enc W1 g 0 m d os) (λt=>(E.getD d[t]! e0).1) (λt=>od T d[t]!)
   ((kX f (p:=⟨w.heap.size,0,none⟩) (by rw[ab];simp) (by show w.heap.size≠g;omega)).trans D)
   (λt ht=>(X t (by omega)).1)
   (λt ht=>by
    have o:=(J _ (I d[t]!)).head;rw[kX f (p:=⟨(E.getD d[t]! e0).1,0,none⟩) o.2.1 o.1,o.2.2,G]) i j hi B
  exact hl
 have ad:se lt (mO T) 0 n (range n).toArray:=by
  intro i j _ aH B;have ei:(range n).toArray[i]! = i:=by simp[show i<n by omega]
  have ej:(range n).toArray[j]! = j:=by simp[B]
  rw[ei,ej];show decide (od T j<od T i)=mO T j i;unfold mO
  congr 1
  simp only[eq_iff_iff];omega
 have K:T.length=n:=by show(E.map (·.2)).length=n;rw[zE];exact hn.symm
 have S:=Any.sort_SliceStable_of_stable (P:=prog) laysGt8 272 273 tD tz (by kernel_rfl) (by kernel_rfl) (by kernel_rfl) (by kernel_rfl) 22 (λ_=>by kernel_rfl) (some ⟨g,0,none⟩) n a (by omega) 273
  (by rw[OH _ A];kernel_rfl) (.func 251) #[] #[.pointer (some ⟨w.heap.size,0,none⟩)] W1
  (λW=>gv W 273 (.slice g n a) g ((qP (·.2) E e0).map kB)/\gg [g] W1 W) (by
   have hB:sliceBound prog 273 tz 22 (some ⟨g,0,none⟩) n a=#[.slice g n a,typeHandle prog 273]:=by
    unfold sliceBound;rw[if_neg (swapperK_gt _ _ _ A)]
   rw[hB];have V:kU prog enc lt 251 #[.pointer (some ⟨w.heap.size,0,none⟩)] g 0 n W1 (range n).toArray:=⟨C,u,L,h⟩;have ao:=swapSwaps_of_literal (P:=prog) true 273
    (λargs W=>run_callFunc_extern func273 (by kernel_rfl) (by kernel_rfl) (by kernel_rfl) (e:=Extern.ReflectliteSwapper.swap true) (by kernel_rfl) args W) 273 tz (by kernel_rfl) (by kernel_rfl) (λ_=>by kernel_rfl) enc (λ_=>rfl) g 0 n a
   have aF:=Ng enc lt (mO T) 251 #[.pointer (some ⟨w.heap.size,0,none⟩)] 273 #[.slice g n a,typeHandle prog 273] g 0 n (Fx T)
    (enters_of func251 (by kernel_rfl) rfl) ao q _ _
    ((V.alloc (.cells #[.slice g n a] 272)).alloc (.cells #[.pointer (some ⟨(prog).globals.size,272,none⟩),.pointer (some ⟨W1.heap.size,0,none⟩),.int .u64 151] (laysGt8_ren.t 36))) ad
   refine aF.mono ?_;rintro e w' ⟨rfl,c,aE,N,f⟩;have Z:c.toList=s8 T:=by
    have o:=sorted_unique_holds (Fx T) (Lz T) (range n).toArray c (by rw[h];exact N) (by rw[h];exact aE);rw[o];unfold s8;rw[K]
   refine⟨rfl,?_,?_⟩
   .obtain⟨m,os,rfl⟩:=f
    have O:=(z.alloc (.cells #[.slice g n a] 272)).alloc (.cells #[.pointer (some ⟨(prog).globals.size,272,none⟩),.pointer (some ⟨W1.heap.size,0,none⟩),.int .u64 151] (laysGt8_ren.t 36));rw[<-ab]at O;have Q:=((O.aheadN m).putRow (ys:=c.toList) (by
     have:c.toList.length=c.size:=Array.length_toList
     rw[this,N.1];simp)).growO os
    rw[Array.toArray_toList]at Q;have em:(qP (·.2) E e0).map kB=c.toList.map enc:=by
     unfold qP;rw[map_map,Z];rfl
    rw[em];exact Q
   .obtain⟨m,os,rfl⟩:=f
    exact((((((zR [g] W1).alloc _).alloc _).aheadN m).putRow (.inl (by simp)) 0 c).growO os))
 have Y:Calls prog 250 _ _ _:=S;clear S C J D u z r R ad K G;have⟨ap,aA⟩:=gy ab ak;clear ab hn H h I M ak;go_enter func231,ntmps231;go_wp2_with fail;rw[<-ap.o];refine Y.mono ?_;rintro e w' ⟨rfl,k3,U⟩;go_wp2
 go_end0
 rw[ap.o]at U;refine⟨rfl,?_,((zR [g] w).alloc _).tq U⟩;rw[<-aA.o];exact k3
theorem Dc(a b:El):∀l:List El,l.length%2=0->io (l++[a,b])=io l++[.pack a b]
 | [],_=>rfl
 | [_],h=>by simp at h
 | x::y::l,h=>by
  have:=Dc a b l (by simp at h;omega)
  simp only[cons_append,io,this]
theorem IY(l:List El)(q:Nat)(h:2*q+1<l.length):io (l.take (2*q+2))=io (l.take (2*q))++[.pack l[2*q] l[2*q+1]]:=by
 have a:l.take (2*q+2)=l.take (2*q)++[l[2*q],l[2*q+1]]:=by
  rw[jD l h,jD l (by omega),zH];rfl
 rw[a,Dc _ _ _ (by rw[zI];omega)]
theorem Jc(l:List El){q:Nat}(f:2*q<=l.length)(g:l.length<=2*q+1):io (l.take (2*q))=io l:=by
 by_cases h:l.length=2*q
 .rw[<-h,zN]
 .have j:l.length=2*q+1:=by omega
  have e:l=l.take (2*q)++[l[2*q]'(by omega)]:=by
   rw[<-jD l (by omega),zT (by omega)]
  have d:∀(m:List El) (a:El),m.length%2=0->io (m++[a])=io m:=by
   intro m a
   induction m using io.induct with
   | case1 x y m im=>
    intro c;simp only[cons_append,io];rw[im (by simp at c;omega)]
   | case2 m hm0=>
    intro c
    cases m with
    | nil=>rfl
    | cons x m=>
     cases m with
     | nil=>simp at c
     | cons y m=>exact absurd rfl (hm0 x y m)
  conv=>rhs;rw[e]
  rw[d _ _ (by rw[zI];omega)]
theorem AY:jx prog 272 273 (.pointer none) 1 8:=.mk' underlying272 (by kernel_rfl)
theorem ND(l:List PE):∀u∈l.map kB,u.oneCell'=true:=by
 intro u a;obtain⟨p,_,rfl⟩:=List.mem_map.1 a;rfl
theorem O5(P:Nat->Prop)(w:World)(hP:∀x,w.heap.size<=x->P x)(AC AR:Option Addr)(cC cR:Nat)(C R:List PE)(h2:2<=C.length)(hCl:C.length<=1024)(hRl:R.length<=4096)(N:gz kB w AC C)(O:gz kB w AR R)(L:kW P w C)(M:kW P w R)(S:∀p∈R,p.2.wt<=1125899906842624):Calls prog 232 #[.slice AC C.length cC,.slice AR R.length cR] w λe w'=>∃v g E',e=.returned v/\gv w' 273 v g (E'.map kB)/\E'.map (·.2)=qg (C.map (·.2)++io (R.map (·.2)))/\kW P w' E'/\gg [] w w'/\w.heap.size<=g:=by
 have⟨n,hn⟩:=zX R.length;have⟨c,hc⟩:=zX C.length;rw[<-hn]at hRl⊢;rw[<-hc]at h2 hCl⊢;have⟨HN,HC,aS,aP⟩:=gu hn hc S L;have⟨aR,aQ⟩:=gy hP M;clear hn hc S L M hP;have ar:gz (λu=>u) w AC (C.map kB):=⟨λh0=>by
  obtain⟨b,o,D,e2,e3⟩:=N.ex (by simpa using h0);exact⟨b,o,D,e2,λi a ha=>by
   rw[zW]at ha
   cases hC:C[i]? with
   | none=>rw[hC]at ha;cases ha
   | some p=>rw[hC]at ha;injection ha with ha;rw[<-ha];exact e3 i p hC⟩⟩
 go_enter func232,ntmps232
 go_wp2_with(at_builtin;refine ns rfl rfl AY rfl rfl (jj.nil w 273) (C.map kB) c rfl ?c1 ?c2 ?c3 ?c4 ?c5 ?_)
 case c1=>rw[zE];exact HC.o
 case c2=>exact ar
 case c3=>exact ND _
 case c4=>rw[zE,<-HC.o];simp;omega
 case c5=>rw[zE,<-HC.o];simp;omega
 intro v1 F1 w1 h1 h3;have am:=h1.cases;rcases am with⟨_,aJ,_⟩|⟨g1,av,rfl⟩
 .exfalso
  have:=congrArg length aJ
  rw[zE,<-HC.o]at this;simp at this;omega
 have aW:w.heap.size<=g1:=by
  rcases h3.new g1 (by simp)with h|h
  .simp at h
  .exact h
 have aT:gg [] w w1:=h3.Z;clear h1 h3 ar N;have⟨T,hT⟩:=zX (R.map (·.2));have aV:T.length=n:=by rw[hT,zE,HN.o]
 have⟨HT,az⟩:=gy hT aV;clear hT aV;go_wp2
 go_loopg [5,6] n (λk vo vi' wr=>∃(q:Nat) (Q:List PE) (d:Nat),vi'=.int .i64 ((2*q:Nat):Int)/\2*q<=n/\n<=2*q+k/\gv wr 273 vo d ((C++Q).map kB)/\gh (Q.map (·.2)=io (T.take (2*q)))/\Q.length=q/\kW (λx=>x≠d/\P x) wr Q/\w.heap.size<=d/\gg [] w wr)
 .exact⟨0,[],g1,rfl,by omega,by omega,by rw[append_nil];exact av,gd (by simp[io]),rfl,by intro p t;simp at t,aW,aT⟩
 clear av aT aW;obtain⟨q,Q,d,rfl,aL,bm,W,HQ,aC,I,aG,r⟩:=hrel;obtain⟨bd,rfl,al,aE,_,_⟩:=W.T;have X:(C++Q).length=c+q:=by rw[zC,<-HC.o,aC]
 rw[X]at al⊢;by_cases hend:n<=2*q+1
 .have t1:decide (((2*q:Nat):Int)+1<(n:Int))=false:=zA (by omega)
  have aZ:=FD wr _ d (C++Q) (by omega) (by omega) W (by
   intro p t;rcases zP.1 t with f|f
   .exact((aP.o p f).imp (Q:=λx=>x≠d) λx hx _=>by omega).Y r
   .exact(I p f).imp λx _ h=>h.1)
  rw[X]at aZ;have bh:gh (kW (λx=>x≠d/\P x) wr (C++Q)):=gd (by
   intro p t;rcases zP.1 t with f|f
   .exact((aP.o p f).imp (Q:=λx=>x≠d/\P x) λx hx h=>⟨by omega,h⟩).Y r
   .exact I p f)
  clear I;go_wp2_with fail;refine aZ.mono ?_;rintro e w2 ⟨rfl,k3,k4⟩;have y:=DW (λp:PE=>p.2) (C++Q) ((C++Q).headD default);have k0:=EK (λp:PE=>p.2) (C++Q) ((C++Q).headD default);have⟨E',aU⟩:=zX (qP (λp:PE=>p.2) (C++Q) ((C++Q).headD default));rw[<-aU]at k0 y k3;have⟨K0,K1⟩:=gy k0 y;clear k0 y aU;go_wp2;go_ret;refine⟨_,d,E',rfl,k3,?_,?_,r.trans k4 (λx hx=>by rw[zU.1 hx];exact .inr aG),aG⟩
  .have D:=K0.o
   rw[zM,HQ.o,Jc T (by rw[az.o];exact aL) (by rw[az.o];exact hend),HT.o]at D;exact D
  .intro p t
   have f:=bh.o p (K1.o.mem_iff.1 t);exact(f.Z k4 (λx hx=>by rw[zU.1 hx];simp)).imp λ_ _ h=>h.2
 .rcases gk with _|gk
  .omega
  .have t1:decide (((2*q:Nat):Int)+1<(n:Int))=true:=zB (by omega)
   have aD:2*q+1<R.length:=(by rw[<-HN.o];omega);have ak:=O.Y r;obtain⟨A,B,rfl,aX,aF⟩:=ak.ex (by omega);have p1:=aF (2*q) _ (zF (by omega));have p2:=aF (2*q+1) _ (zF aD);have m1:R[2*q]∈R:=zG _;have m2:R[2*q+1]∈R:=zG _;have Z:io (T.take (2*(q+1)))=io (T.take (2*q))++[.pack R[2*q].2 R[2*q+1].2]:=by
    have:=IY T q (by rw[az.o];omega)
    rw[show 2*(q+1)=2*q+2 by omega,this]
    congr 3<;>simp[HT.o]
   have a1:=aS.o _ m1;have a2:=aS.o _ m2;have E:=aQ.o _ m1;have G:=aQ.o _ m2;generalize R[2*q]=x1 at *;generalize R[2*q+1]=x2 at *;obtain⟨j,ad⟩:=x1;obtain⟨m,z⟩:=x2;simp only at a1 a2 E G Z;have c1:=(E.Y r).head.2.2;have c2:=(G.Y r).head.2.2;have a0:wr.cell? ⟨A,B+2*q,none⟩=some (.pointer j):=p1;have aN:wr.cell? ⟨A,B+(2*q+1),none⟩=some (.pointer m):=p2;have⟨i,hi⟩:=zX (2*q);rw[<-hi]at a0 aN t1 aL bm hend aD Z⊢;have⟨a9,HI,a3,a4⟩:=gu Z hi E G;have⟨a6,aO⟩:=gy I r;have br:(0:Int)<=(i:Int):=(by omega);have bs:(i:Int)<(n:Int):=(by omega);have⟨i1,aY⟩:=zX (i+1);have bu:(i1:Int)<(n:Int):=(by omega);have bv:(0:Int)<=(i1:Int):=(by omega);have bi:(i:Int)+1=(i1:Int):=(by omega);have bj:IntKind.i64.wrap (i1:Int)=(i1:Int):=IntWalk.i64_in _ (by omega);have bw:IntKind.i64.wrap ((i:Int)+1)=(i1:Int):=(by rw[bi];exact bj);rw[<-aY]at aN;clear aY;have au:IntKind.i64.wrap (((ad.wt:Nat):Int)+((z.wt:Nat):Int))=((ad.wt+z.wt:Nat):Int):=by
    have e:((ad.wt:Nat):Int)+((z.wt:Nat):Int)=((ad.wt+z.wt:Nat):Int):=(by simp);rw[e];exact IntWalk.i64_in _ (by omega)
   have hS:∀w',gg [d] wr w'->w'.cell? ⟨A,B+i,none⟩=some (.pointer j)/\w'.cell? ⟨A,B+i1,none⟩=some (.pointer m)/\w'.cell? j=some (.int .i64 ad.wt)/\w'.cell? m=some (.int .i64 z.wt):=by
    intro w' Y;obtain⟨bq,bA,e',bl,_⟩:=O.ex (by omega);injection e' with e';injection e' with D e2 _;subst D;have q1:=E.head.2.1;have q2:=G.head.2.1
    exact⟨(World.cell?_of_block (w:=wr) (Y.block A aX (by simp;omega))).trans a0,(World.cell?_of_block (w:=wr) (Y.block A aX (by simp;omega))).trans aN,
     (World.cell?_of_block (w:=wr) (Y.block j (Nat.lt_of_lt_of_le q1 r.size) (by simp;omega))).trans c1,(World.cell?_of_block (w:=wr) (Y.block m (Nat.lt_of_lt_of_le q2 r.size) (by simp;omega))).trans c2⟩
   have⟨y,aH⟩:=zX ad.wt;have⟨k2,aI⟩:=zX z.wt;rw[<-aH]at c1 a1 au hS;rw[<-aI]at c2 a2 au hS;have⟨a7,a8,bc,HS⟩:=gu aH aI aC hS;have aK:=W.R;have bk:=W.lt;have bx:((C++Q).map kB).length<=8192:=(by rw[zE,X];omega);clear aF p1 p2 m1 m2 Z E G I ak hi aC hS aH aI;have ba:gh (i+1<n):=gd (by omega);clear aL hend aD;have⟨wx,aM⟩:=zX ((((wr.alloc (.cells #[.pointer j,.pointer m] 273)).alloc (.cells #[.int .i64 ((y:Int)+(k2:Int)),(0:Int),.slice (some ⟨wr.heap.size,0,none⟩) 2 2] 275)).alloc (.cells #[.pointer (some ⟨wr.heap.size+1,0,none⟩)] 273)).drew);have V:gg [] wr wx:=(by rw[aM];exact(((((zR [] wr).alloc _).alloc _).alloc _).drew));have aq:=aK.Y V;rw[X]at aq;have bo:wx.cell? ⟨wr.heap.size+2,0,none⟩=some (.pointer (some ⟨wr.heap.size+1,0,none⟩)):=by
    rw[aM]
    have:=(gn.new ((wr.alloc (.cells #[.pointer j,.pointer m] 273)).alloc (.cells #[.int .i64 ((y:Int)+(k2:Int)),(0:Int),.slice (some ⟨wr.heap.size,0,none⟩) 2 2] 275)) 273 #[.pointer (some ⟨wr.heap.size+1,0,none⟩)]).X 0
    simpa using this
   have U:=gd aM;have a5:gh (gg [d] wr wx):=gd (V.mono (by simp));go_wp2
   go_region_held3 (λw'=>w'.cell? ⟨A,B+i,none⟩=some (.pointer j)/\w'.cell? ⟨A,B+i1,none⟩=some (.pointer m)/\w'.cell? j=some (.int .i64 y)/\w'.cell? m=some (.int .i64 k2)) (first|(go_keep;done)|exact HS.o _ ((zR [d] wr).alloc _)|exact HS.o _ (((zR [d] wr).alloc _).alloc _)|exact HS.o _ ((((zR [d] wr).alloc _).alloc _).alloc _)|exact HS.o _ (((((zR [d] wr).alloc _).alloc _).alloc _).drew)|exact HS.o _ (a5.o.tq (gE.Z (by assumption))))
    (first|(rw[<-U.o];refine rL (by rfl) (by rfl) AY (by rfl) (by rfl) aq (.pointer (some ⟨wr.heap.size+1,0,none⟩)) (by rfl) bo (by rfl) (by omega) (by omega) ?_;intro g2 be w5 bn H))
   go_wp2_with fail
   go_roundg gk
   .have bp:wx.heap.size=wr.heap.size+3:=by rw[U.o];simp
    have J:g2=d\/wr.heap.size+3<=g2:=by
     rcases H.new g2 (by simp)with f|f
     .exact .inl (by simpa using f)
     .exact .inr (by omega)
    have bf:gn wx wr.heap.size 273 #[.pointer j,.pointer m]:=by
     rw[U.o];exact(((gn.new wr _ _).alloc _).alloc _).drew
    have bg:gn wx (wr.heap.size+1) 275 #[.int .i64 ((y:Int)+(k2:Int)),(0:Int),.slice (some ⟨wr.heap.size,0,none⟩) 2 2]:=by
     rw[U.o]
     have:=gn.new (wr.alloc (.cells #[.pointer j,.pointer m] 273)) 275 #[.int .i64 ((y:Int)+(k2:Int)),(0:Int),.slice (some ⟨wr.heap.size,0,none⟩) 2 2]
     have e:(wr.alloc (.cells #[.pointer j,.pointer m] 273)).heap.size=wr.heap.size+1:=(by simp);rw[e]at this;exact(this.alloc _).drew
    have aA:=bf.Z H.Z (by simp;omega);have aB:=bg.Z H.Z (by simp;omega);have an:gg [] w w5:=(aO.o.tq V).trans H.Z (λx hx=>by rw[zU.1 hx];exact .inr aG);have bz:=aO.o.size;have ap:∀(e:El) (bb:Nat),mA P w e bb->mA (λx=>x≠g2/\P x) w5 e bb:=λe bb h=>(h.imp (Q:=λx=>x≠g2/\P x) λx hx h9=>⟨by rcases J with rfl|K<;>omega,h9⟩).Y an;refine⟨q+1,Q++[(wr.heap.size+1,.pack ad z)],g2,?_,?_,?_,?_,gd ?_,?_,?_,?_,an⟩
    .have e:((2*(q+1):Nat):Int)=(i:Int)+2:=by have:=HI.o;omega
     rw[e]
    .have:=HI.o;have:=ba.o;omega
    .have:=HI.o;omega
    .have e:(C++(Q++[(wr.heap.size+1,El.pack ad z)])).map kB=(C++Q).map kB++[.pointer (some ⟨wr.heap.size+1,0,none⟩)]:=by
      rw[<-zH,zM];rfl
     rw[e];have e2:((C++Q).map kB).length+1=C.length+Q.length+1:=(by simp);rw[<-e2];exact bn
    .rw[zM,HQ.o,a9.o,HI.o];rfl
    .rw[zC,bc.o];rfl
    .intro p t
     rcases zP.1 t with f|f
     .have K:=((a6.o p f).Y V).imp (Q:=λx=>x≠d/\x≠g2/\P x) λx hx h7=>⟨h7.1,by rcases J with rfl|h8;exact h7.1;omega,h7.2⟩
      exact(K.Z H.Z (λx hx=>by rw[zU.1 hx];simp)).imp λ_ _ h=>h.2
     .rw[zU.1 f]
      refine⟨wr.heap.size,j,m,?_,?_,?_,aA,ap _ _ a3.o,ap _ _ a4.o⟩
      .exact⟨by rcases J with rfl|K<;>omega,aR.o _ (by omega)⟩
      .exact⟨by rcases J with rfl|K<;>omega,aR.o _ (by omega)⟩
      .rw[<-a7.o,<-a8.o,Int.natCast_add]
       exact aB
    .rcases J with rfl|K<;>omega
   .omega
def lF(t:El)(l:List Nat):List Nat:=l.mapIdx λs x=>x+t.occ s
def El.symsIn(n:Nat):El->Prop
 | .coin s _=>s<n
 | .pack a b=>a.symsIn n/\b.symsIn n
theorem Dt(t:El)(l:List Nat):(lF t l).length=l.length:=by simp[lF]
theorem Kc(t:El)(l:List Nat)(h:s<l.length):(lF t l).getD s 0=l.getD s 0+t.occ s:=by
 simp[lF,zD,h]
theorem Kd(a b:El)(l:List Nat):lF b (lF a l)=lF (.pack a b) l:=by
 unfold lF;rw[mapIdx_mapIdx]
 congr 1
 funext s x
 show x+a.occ s+b.occ s=x+(a.occ s+b.occ s);omega
theorem Kb(s k:Nat)(l:List Nat)(h:s<l.length):lF (.coin s k) l=l.set s (l.getD s 0+1):=by
 apply ext_getElem?;intro i;unfold lF;rw[getElem?_mapIdx,getElem?_set];by_cases hi:s=i
 .subst hi
  rw[if_pos rfl,if_pos h,zD,zF h];simp[El.occ]
 .rw[if_neg hi]
  cases hl:l[i]? with
  | none=>rfl
  | some x=>
   simp only[Option.map_some,El.occ];rw[if_neg hi];rfl
theorem Nw(g a n:Nat):∀(t:El) (b:Nat) (l:List Nat) (w:World),l.length=n->t.symsIn n->(∀s,l.getD s 0+t.occ s<=4096)->mA (·≠g) w t b->gv w 3 (.slice g n a) g (l.map i64) -> Calls prog 233 #[.pointer b,.slice g n a] w λe w'=>e=.returned (.tuple #[])/\gv w' 3 (.slice g n a) g ((lF t l).map i64)/\gg [g] w w':=by
 intro t
 induction t with
 | coin s k=>
  intro b l w o r m A c;have T:s<n:=r;obtain⟨V,f⟩:=A;have v:=f.X 1;have z:=f.X 2;simp at v z;have p:(l.getD s 0:Nat)+1<=4096:=by
   have:=m s
   simpa[El.occ]using this
  have ad:=c.S (i:=s) (by rw[zE,o];exact T) (i64 (l.getD s 0+1));rw[<-map_set,<-Kb s k l (by omega)]at ad;obtain⟨am,U,_,_,G,I⟩:=c.T;have c1:=G s (l.getD s 0) (by rw[zD,zF (by omega)];rfl);have f1:=I s;have ao:w.cell? ⟨g,s,none⟩=some (.int .i64 ((l.getD s 0:Nat):Int)):=c1;have H:gv (w.setCell ⟨g,s,none⟩ (.int .i64 ((l.getD s 0+1:Nat):Int))) 3 (.slice g n a) g ((lF (.coin s k) l).map i64):=ad;have h0:(0:Int)<=(s:Int):=by omega
  have h1:(s:Int)<(n:Int):=by omega
  generalize lF (.coin s k) l=l' at *;generalize l.getD s 0=x at *;have e2:((x+1:Nat):Int)=(x:Int)+1:=by simp
  rw[e2]at H;clear ad G I m c1 U c o r f;go_enter func233,ntmps233;go_wp2;refine bodyPost_ret (results_none rfl _ _ _) rfl ?_;exact⟨rfl,H,(zR [g] w).setCell (.inl (by simp)) _⟩
 | pack x y ihx ihy=>
  intro b l w o r m A c;obtain⟨gp,v,z,V,J,f,q,p,Q⟩:=A;have c2:=f.X 2;simp at c2;have W:=q.X 0;have X:=q.X 1;simp at W X;obtain⟨O,P⟩:=r;have K:∀s,l.getD s 0+x.occ s<=4096:=λs=>by
   have:l.getD s 0+(x.occ s+y.occ s)<=4096:=m s
   omega
  have L:∀s,(lF x l).getD s 0+y.occ s<=4096:=λs=>by
   have h9:l.getD s 0+(x.occ s+y.occ s)<=4096:=m s;by_cases h:s<l.length
   .rw[Kc _ _ h];omega
   .rw[zD,getElem?_eq_none (by rw[Dt];omega)]
    show 0+_<=_;omega
  have R:=λw=>ihx v l w o O K;have C:=λw=>ihy z (lF x l) w ((Dt _ _).trans o) P L;have N:=Kd x y l;rw[N]at C;have⟨I1,I2,HG,HX⟩:=gu R C q p;have S:=gd Q;generalize lF x l=lx at *;generalize lF (.pack x y) l=ly at *;clear R C ihx ihy m K L O P N o f q p Q;go_enter func233,ntmps233;go_wp2
  go_loopg [26] 2 (λj iv wr=>∃i:Nat,iv=.int .i64 i/\i+j=2/\gg [g] w wr/\gh (i=0/\gv wr 3 (.slice g n a) g (l.map i64)\/i=1/\gv wr 3 (.slice g n a) g (lx.map i64)\/i=2/\gv wr 3 (.slice g n a) g (ly.map i64)))
  .exact⟨0,rfl,rfl,zR _ _,gd (.inl ⟨rfl,c⟩)⟩
  clear c;obtain⟨i,rfl,ap,d,u⟩:=hrel;have M:∀x∈[g],¬(x≠g):=by intro x p;simp at p;simp[p]
  have Y:=(HG.o.Z d (by simpa using λh=>J h)).X 0;have Z:=(HG.o.Z d (by simpa using λh=>J h)).X 1;simp at Y Z;rcases u.o with⟨rfl,c⟩|⟨rfl,c⟩|⟨rfl,c⟩
  .obtain rfl:gk=2:=by omega
   have B:=I1.o wr (HX.o.Z d M) c;clear u c;go_wp2_with fail;refine B.mono ?_;rintro e w2 ⟨rfl,D,E⟩;go_wp2
   go_roundg 1
   .exact⟨1,rfl,rfl,d.tq E,gd (.inr (.inl ⟨rfl,D⟩))⟩
   .omega
  .obtain rfl:gk=1:=by omega
   have B:=I2.o wr (S.o.Z d M) c;clear u c;go_wp2_with fail;refine B.mono ?_;rintro e w2 ⟨rfl,D,E⟩;go_wp2
   go_roundg 0
   .exact⟨2,rfl,rfl,d.tq E,gd (.inr (.inr ⟨rfl,D⟩))⟩
   .omega
  .obtain rfl:gk=0:=by omega
   go_wp2
   go_end0
   exact⟨rfl,c,d⟩
theorem LM:∀l:List El,(∀e∈l,e.symsIn n)->∀e∈io l,e.symsIn n:=by
 intro l
 induction l using io.induct with
 | case1 a b l il=>
  intro h e c;rw[io]at c;rcases zJ.1 c with rfl|c
  .exact⟨h a (by simp),h b (by simp)⟩
  .exact il (λe h1=>h e (by simp[h1])) e c
 | case2 l hl=>
  intro _ e c
  cases l with
  | nil=>simp[io]at c
  | cons a l=>
   cases l with
   | nil=>simp[io]at c
   | cons b l=>exact absurd rfl (hl a b l)
theorem Rows.syms{C:List El}(g:qN n C){j:Nat}{R:List El}(h:Rows C j R):∀e∈R,e.symsIn n:=by
 have d:∀e∈C,e.symsIn n:=λe a=>by
  obtain⟨s,w,rfl,f,_⟩:=g.coin e a;exact f
 induction h with
 | one hp hs=>exact λe a=>d e (hp.mem_iff.1 a)
 | next h hp hs ih=>
  intro e a;rcases zP.1 (hp.mem_iff.1 a)with c|c
  .exact d e c
  .exact LM _ ih e c
theorem Kv(n:Nat)(S:List El)(t:El):kG n (S++[t])=lF t (kG n S):=by
 apply ext_getElem
 .simp[kG,lF]
 .intro i a c
  simp[kG,lF,iB]
theorem J2(s i:Nat)(S:List El):iB s (S.take i)<=iB s S:=by
 have e:=yV s (S.take i) (S.drop i);rw[take_append_drop]at e;omega
theorem Ol(c:s<n)(d:n<=1024):m8 ((replicate n 0).set s 1):=by
 have a:∀m∈(replicate n 0).set s 1,m<=1:=λm hm=>by
  rcases mem_or_eq_of_mem_set hm with h|h
  .have:=eq_of_mem_replicate h;omega
  .omega
 refine⟨by simp;omega,by simp;omega,λm hm=>by have:=a m hm;omega,.inl ⟨?_,a⟩⟩;unfold mr;rw[countP_set (by simpa using c)];simp
theorem O8(c:s<n)(a:i<n):0<((replicate n 0).set s 1).getD i 0 ↔ i=s:=by
 rw[zD,getElem?_set];by_cases h:s=i
 .subst h
  rw[if_pos rfl,if_pos (by simpa using c)];simp
 .rw[if_neg h,getElem?_replicate,if_pos a]
  simp;exact λh2=>h h2.symm
structure xR (freq lens:List Nat):Prop where
 len:lens.length=freq.length
 full:m8 lens
 used:∀s,s<freq.length->(0<lens.getD s 0 ↔ 0<freq.getD s 0)
 le:∀n∈lens,n<=12
theorem Fu{freq:List Nat}(k:freq.length<=1024){f:Nat}(j:iZ freq freq.length=[.coin s f]):s<freq.length/\xR freq ((replicate freq.length 0).set s 1):=by
 have g:El.coin s f∈iZ freq freq.length:=by rw[j];simp
 obtain⟨r,c,o,d⟩:=tZ g;injection d with d h5;subst d;refine⟨c,by simp,Ol c k,λi hi=>?_,λm g=>?_⟩
 .rw[O8 c hi]
  have a:=ua freq i freq.length;rw[j]at a;have e:iu i [El.coin s f]=if s=i then 1 else 0:=by
   unfold iu;rw[countP_cons];simp[El.isCoin]
  rw[e]at a;constructor
  .intro q;rw[q];exact o
  .intro p
   rw[if_pos (show i<freq.length/\0<freq.getD i 0 from⟨hi,p⟩)]at a;by_cases h8:s=i
   .exact h8.symm
   .rw[if_neg h8]at a;omega
 .rcases mem_or_eq_of_mem_set g with h|h
  .have:=eq_of_mem_replicate h;omega
  .omega
theorem gv.zerosN(w:World)(n:Nat)(h:n<=1048576):gv (w.alloc (.cells (replicate n (Value.int .i64 0)).toArray 3)) 3 (.slice (some ⟨w.heap.size,0,none⟩) n n) w.heap.size ((replicate n 0).map i64):=by
 have:=gv.made w 3 (replicate n (Value.int .i64 0)) (by simp[maxLen];omega)
 rw[map_replicate]
 simpa[i64]using this
def yP(w:World)(freq:List Nat)(e:Ending)(w':World):Prop:=
 ∃v g,e=.returned (.tuple #[v,(0:Int)])/\gv w' 3 v g ((mI freq).map i64)/\xR freq (mI freq)/\gg [] w w'/\w.heap.size<=g
theorem Lw(w:World)(freq:List Nat)(A:Option Addr)(cap:Nat)(h1:1<=freq.length)(h2:freq.length<=256)(hf:∀f∈freq,f<=4096)(a:0<(iZ freq freq.length).length)(hc:gz i64 w A freq):Calls prog 179 #[.slice A freq.length cap,(12:Int)] w (yP w freq):=by
 have⟨n,hn⟩:=zX freq.length;rw[<-hn]at h1 h2 a⊢;have cS:=kg (P:=prog) iO rfl .i64 .i64 n (by omega) (by omega);have⟨HN,HF,bb⟩:=Q9 hn hf a;clear hn hf a;have t1:=Ra n 1 (by omega);have t2:=Ra 1024 n (by omega);go_enter func179,ntmps179;go_wp2_with fail
 go_loopg [6,7,8,31] n (λj v6 v7 v8 iv wr=>∃(i:Nat) (E:List PE) (F6:List Nat),iv=.int .i64 i/\i+j=n/\jj wr 273 v6 F6 (E.map kB)/\gh (E.map (·.2)=iZ freq i)/\E.length<=i/\kW (λx=>x∉F6) wr E/\(∀x∈F6,w.heap.size<=x)/\gg [] w wr)
 .exact⟨0,[],[],rfl,by omega,jj.nil _ _,gd rfl,by simp,by intro p v;simp at v,by simp,zR _ _⟩
 obtain⟨i,E,F6,rfl,cN,I,Z,bh,V,T,B⟩:=hrel;rcases gk with _|j
 .obtain rfl:i=n:=by omega
  have bX:E.length=(iZ freq i).length:=by rw[<-Z.o,zE]
  have a:=bb.o;rw[<-bX]at a;rcases I.cases with⟨_,bB,_⟩|⟨gc,y,rfl⟩
  .exfalso
   have:=congrArg length bB
   rw[zE]at this;simp at this;rw[this]at a;simp at a
  obtain⟨aL,rfl,ap,ay,al,_⟩:=y.T;have cy:w.heap.size<=gc:=T gc (by simp);have ao:kW (·≠gc) wr E:=V.imp λx _ h=>by simpa using h
  have a7:gh (E.map (·.2)=iZ freq i):=Z;have⟨c,bl⟩:=zX E.length;rw[<-bl]at ap a bh⊢;have⟨aF,aj,bc,aG⟩:=gu bl ao y al;have cD:=B.size;have bv:=y.lt;have t6:((c:Int)==0)=false:=by rw[beq_eq_false_iff_ne];omega
  have t7:=Ra 4096 c (by omega);clear bX bl I V ao y al T;by_cases hc1:c=1
  .have t8:((c:Int)==1)=true:=by rw[beq_iff_eq];omega
   have co:∃b s f,E=[(b,El.coin s f)]/\iZ freq i=[.coin s f]:=by
    have h3:=aF.o;obtain⟨⟨b,t⟩,hb⟩:=List.length_eq_one_iff.1 (h3.symm.trans hc1);have h4:=a7.o;rw[hb]at h4;have r:t∈iZ freq i:=(by rw[<-h4];simp);obtain⟨s,_,_,rfl⟩:=tZ r;exact⟨b,s,_,hb,h4.symm⟩
   obtain⟨b,s,f,rfl,br⟩:=co;have a4:=Fu (freq:=freq) (by rw[<-HN.o];omega) (by rw[<-HN.o];exact br);rw[<-HN.o]at a4;have a9:gh (iZ freq freq.length=[.coin s f]):=gd (by rw[<-HN.o];exact br);have cM:wr.cell? gc=some (.pointer (some ⟨b,0,none⟩)):=aG.o 0 _ rfl;have aA:=aj.o (b,.coin s f) (by simp);have cL:b<wr.heap.size:=aA.2.lt;have cu:wr.cell? ⟨b,1,none⟩=some (.int .i64 s):=by
    have:=aA.2.X 1
    simpa using this
   have L:=gv.zerosN wr i (by omega);have cf:=gd a4;have cF:=a4.1;have cU:(0:Int)<=(s:Int):=(by omega);have cE:(s:Int)<(i:Int):=(by omega);have a0:=L.S (i:=s) (by simpa using cF) (i64 1);rw[<-map_set]at a0;obtain⟨cn,cJ,_,_,cH,cI⟩:=L.T;clear cJ;subst hc1;clear a4 a0 L cH cI aA br;go_wp2_with fail
   go_ret2
   have e:(Array.replicate i (Value.int .i64 0)).setIfInBounds s (.int .i64 1)=(((replicate i 0).set s 1).map i64).toArray:=by
    rw[map_set,map_replicate];show((replicate i (Value.int .i64 0)).toArray).setIfInBounds s (.int .i64 1)=_;rw[setIfInBounds_toArray];rfl
   have am:=gv.made wr 3 (((replicate i 0).set s 1).map i64) (by simp[maxLen];omega);rw[<-e]at am;have bx:(((replicate i 0).set s 1).map i64).length=i:=(by simp);rw[bx]at am;have U:=DK a9.o;rw[<-HN.o]at U;unfold yP;rw[U];exact⟨_,wr.heap.size,rfl,am,cf.o.2,B.alloc _,cD⟩
  .have t8:((c:Int)==1)=false:=by rw[beq_eq_false_iff_ne];omega
   have bC:=λw2 (hc2:gg [] wr w2)=>FD w2 _ gc E (by rw[<-aF.o];omega) (by rw[<-aF.o];omega) (bc.o.Z hc2 (by simp)) (aj.o.Y hc2);rw[<-aF.o]at bC;have⟨gl,bw⟩:=zX wr.heap.size;have⟨w1,a6⟩:=zX (wr.alloc (.cells (Array.replicate i (Value.int .i64 0)) 3));have L:gv w1 3 (.slice gl i i) gl ((replicate i 0).map i64):=by
    rw[a6,bw];exact gv.zerosN wr i (by omega)
   have an:=H4 a6;have aX:=bC w1 an;have aP:kW (λx=>x≠gl/\x≠gc) w1 E:=λp v=>((aj.o p v).imp (Q:=λx=>x≠gl/\x≠gc) λx d h=>⟨by omega,h⟩).Y an;have⟨cj,cd,ba,ch⟩:=gu a6 bw aP L;clear bC aP L a6;have ar:gc≠gl:=(by omega);have aT:w.heap.size<=gl:=(by omega);have a8:=gd (B.tq an);clear bw an;go_wp2_with fail;rw[<-cj.o,<-cd.o];refine aX.mono ?_;rintro e w2 ⟨rfl,k3,k4⟩;have X:=DW (λp:PE=>p.2) E (E.headD default);have W:=EK (λp:PE=>p.2) E (E.headD default);have⟨E',bS⟩:=zX (qP (λp:PE=>p.2) E (E.headD default));rw[<-bS]at W X k3;rw[a7.o]at W;clear bS;have ax:E'.length=c:=(by rw[X.length_eq];exact aF.o.symm);have af:=ub freq;have⟨C,hC⟩:=zX (iZ freq i);rw[<-HN.o,<-hC]at af;have aN:(E'.map (·.2)).Perm C:=(by rw[hC,<-a7.o];exact X.map _);have bT:E'.map (·.2)=tu C 0:=(by rw[hC];exact W);have aO:kW (λx=>x≠gl) w2 E':=λp v=>((ba.o p (X.mem_iff.1 v)).Z k4 (λx d=>by rw[zU.1 d];simp)).imp λ_ _ h=>h.1;have bU:gz kB w2 (some ⟨gc,0,none⟩) E':=by
    have cK:=k3
    have:=cK.R
    exact jj.cells this
   have aB:=ch.o.Z k4 (by simpa using λh=>ar h.symm);have bn:gg [] w w2:=a8.o.trans k4 (λx d=>by rw[zU.1 d];exact .inr cy);have bR:C.length=c:=(by rw[<-aN.length_eq,zE,ax]);have a1:∀e∈C,e.wt<=4096:=λe he=>by
    rw[hC]at he;obtain⟨s,hs,_,rfl⟩:=tZ he;show freq.getD s 0<=4096;rw[zD]
    cases d:freq[s]? with
    | none=>exact zero_le _
    | some x=>exact HF.o x (mem_of_getElem? d)
   have⟨bI,HC,aH,av⟩:=gu af hC ax bR;have⟨ck,bN,bJ,aI⟩:=gu a1 bU aO aB.lt;have be:=gd aB;have ce:gh (E'.map (·.2)=qg C):=gd (by rw[hC];exact W);clear W X k3 k4 aX af hC aN ax bR a1 aO bU aB B hc bv;go_wp2_with fail
   go_loopg [10,80] 11 (λj v10 iv J=>∃(q:Nat) (R:List PE) (O:Option Addr) (M:Nat),v10=.slice O R.length M/\iv=.int .i64 q/\q+j=11/\gh (gz kB J O R)/\gh (kW (λx=>x≠gl) J R)/\gh (R.map (·.2)=tu C q)/\R.length<=M/\M<=9223372036854775807/\gh (ib O R [gl])/\gg [] w2 J)
   .exact⟨0,E',some ⟨gc,0,none⟩,aL,by rw[aH.o],rfl,rfl,bN,bJ,gd bT,by rw[aH.o];exact ap,ay,gd (λ_ ad e r=>by injection e with e;subst e;simp at r;exact ar r),zR _ _⟩
   clear bT;obtain⟨J,rfl⟩:=zX wr;obtain⟨q,R,O,M,rfl,rfl,cT,bH,bK,bd,cp,cq,ca,H⟩:=hrel;have bj:Rows C (q+1) (R.map (·.2)):=(by rw[bd.o];exact zo C q);have D:=Rows.length bI.o (by rw[av.o];omega) bj;have aw:=gd bj;clear bj;have cr:R.length<=2*c:=by
    rw[zE,av.o]at D;generalize (c-1) / 2^(q+1-1)=z at D;omega
   have⟨m,r⟩:=zX R.length;rw[<-r]at cp cr⊢;have⟨K,aJ⟩:=gy r D;clear r D;rcases gk with _|j
   .obtain rfl:q=11:=by omega
    have D:=aJ.o;have b0:=K.o;have ai:=Cx (freq:=freq) (by rw[<-HN.o];omega) (by rw[<-HN.o,<-HC.o,av.o];omega) (R:=R.map (·.2)) (by rw[<-HN.o,<-HC.o];exact aw.o);rw[<-HN.o,<-HC.o,av.o]at ai;have au:=Rows.syms bI.o aw.o;have cA:2*c-2<=m:=by
     rw[zE,av.o,<-b0]at D
     have:(c-1) / 2^(11+1-1)=0:=div_eq_of_lt (by omega)
     omega
    have⟨k,hk⟩:=zX (2*c-2);rw[<-hk]at ai cA;have cQ:(2:Int)*(c:Int)-2=(k:Int):=(by omega);have cO:(0:Int)<=(k:Int):=(by omega);have cP:(k:Int)<=(M:Int):=(by omega);have aZ:=be.o.Z H (by simp);have⟨bM,ci⟩:=gy ai au;have bV:=bH.o;obtain⟨gR,oR,rfl,cx,bW⟩:=bV.ex (by omega);have bu:gR≠gl:=λe=>ca.o (by omega) _ rfl (by simp[e]);have⟨cc,HK⟩:=gy bW hk;clear ai au D b0 bV bW hk;go_wp2_with fail
    go_loopg [93] k (λj iv wz=>∃(t:Nat),iv=.int .i64 t/\t+j=k/\gv wz 3 (.slice gl i i) gl ((kG i ((R.map (·.2)).take t)).map i64)/\gg [gl] J wz)
    .exact⟨0,rfl,by omega,by rw[take_zero,Lx];exact aZ,zR _ _⟩
    clear aZ;obtain⟨t,rfl,cV,y,a2⟩:=hrel;rcases gk with _|j
    .obtain rfl:t=k:=by omega
     have bs:gg [] w wr:=(bn.tq H).trans a2 (λx d=>by rw[zU.1 d];exact .inr aT);have aU:xR freq (kG i ((R.map (·.2)).take t)):=by
      obtain⟨f1,f2,f3⟩:=bM.o;refine⟨by rw[sH];exact HN.o,f1,λs hs=>f2 s (by rw[HN.o];exact hs),λn hn=>?_⟩;obtain⟨s,_,rfl⟩:=List.mem_map.1 hn;exact f3 s
     have cg:=gd aU;clear aU;go_wp2
     go_ret2
     have U:=C8 (freq:=freq) (by rw[<-HN.o,<-HC.o,av.o];omega);rw[<-HN.o,<-HC.o,<-bd.o,av.o,<-HK.o]at U;unfold yP;rw[U];exact⟨_,gl,rfl,y,cg.o,bs,aT⟩
    .have a5:t<R.length:=by rw[<-K.o];omega
     have bG:t+1<=k:=(by omega);have bY:=(bK.o R[t] (zG _)).Z a2 (λx d=>by rw[zU.1 d];simp);have b3:=(World.cell?_of_block (w:=J) (a2.block gR cx (by simpa using bu))).trans (cc.o t _ (zF a5));have b5:t<(R.map (·.2)).length:=(by rw[zE];exact a5);have bF:(R.map (·.2)).take (t+1)=(R.map (·.2)).take t++[R[t].2]:=by
      rw[jD _ b5];simp
     have bz:=Kv i ((R.map (·.2)).take t) R[t].2;rw[<-bF]at bz;have b4:=ci.o R[t].2 (mem_map_of_mem (zG a5));have aW:∀s,(kG i ((R.map (·.2)).take t)).getD s 0+R[t].2.occ s<=4096:=by
      intro s;have e1:iB s ((R.map (·.2)).take (t+1))=iB s ((R.map (·.2)).take t)+R[t].2.occ s:=by
       rw[bF,yV];simp[iB]
      have e2:iB s ((R.map (·.2)).take (t+1))<=12:=by
       have e3:(R.map (·.2)).take (t+1)=((R.map (·.2)).take k).take (t+1):=(by rw[take_take,Nat.min_eq_left bG]);rw[e3];exact Nat.le_trans (J2 _ _ _) (bM.o.2.2 s)
      by_cases hs:s<i
      .rw[C9 _ hs];omega
      .rw[zD,getElem?_eq_none (by rw[sH];omega)]
       show 0+_<=_;omega
     have bq:=Nw gl i i R[t].2 R[t].1 (kG i ((R.map (·.2)).take t)) wr (sH _ _) b4 aW bY y;rw[<-bz]at bq;have⟨pb,bE⟩:=zX (R[t].1);have cB:wr.cell? ⟨gR,oR+t,none⟩=some (.pointer pb):=(by rw[bE];exact b3);rw[<-bE]at bq;have cs:(0:Int)<=(t:Int):=(by omega);have ct:(t:Int)<(k:Int):=(by omega);clear aW b4 bz bF b5 b3 bY a5 bE y;go_wp2_with fail;refine bq.mono ?_;rintro e w4 ⟨rfl,N,Y⟩;go_wp2_with fail
     go_roundg j
     .exact⟨t+1,by go_num,by omega,N,a2.tq Y⟩
     .omega
   .have b6:=Rows.wt_le ck.o aw.o
    have aY:2^(q+1)<=4096:=Nat.le_trans (Nat.pow_le_pow_right (n:=2) (by decide) (show q+1<=12 by omega)) (by decide);have b2:=O5 (λx=>x≠gl) J (λx d=>by have:=H.size;have:=aI.o;omega) (some ⟨gc,0,none⟩) O aL M E' R (by rw[aH.o];omega) (by rw[aH.o];omega) (by rw[<-K.o];omega)
     (bN.o.Y H) bH.o (bJ.o.Y H) bK.o (λp v=>by
      have:=b6 p.2 (mem_map_of_mem v)
      have:=mul_le_mul_left 4096 aY
      omega)
    rw[aH.o,<-K.o]at b2;clear b6 aY;go_wp2_with fail;refine b2.mono ?_;rintro e w3 ⟨v3,g3,E3,rfl,N,Y,r4,r5,r6⟩;obtain⟨bg,rfl,cv,bp,_,_⟩:=N.T;have⟨N,Y,r4⟩:=Q9 N Y r4;go_wp2_with fail
    go_roundg j
    .refine⟨q+1,E3,some ⟨g3,0,none⟩,bg,rfl,by go_num,by omega,gd (jj.cells N.o.R),r4,gd ?_,cv,bp,gd (λ_ ad e r=>by
      injection e with e;subst e;simp at r
      have:=H.size
      have:=aI.o
      omega),H.tq r5⟩
     rw[Y.o,ce.o,bd.o];rfl
    .omega
 .have cz:i<n:=by omega
  have a3:i<freq.length:=by rw[<-HN.o];exact cz
  obtain⟨g,o,rfl,ah⟩:=(hc.Y B).at_ a3;have b9:=HF.o freq[i] (zG a3);have b7:freq[i]=freq.getD i 0:=by rw[zD,zF a3];rfl
  rw[b7]at ah b9;have G:=Cv freq i;have⟨f,bZ⟩:=zX (freq.getD i 0);rw[<-bZ]at ah b9 G;have bm:wr.cell? ⟨g,o+i,none⟩=some (.int .i64 f):=ah;have cs:(0:Int)<=(i:Int):=by omega
  have ct:(i:Int)<(n:Int):=by omega
  have t3:=Ra f 0 (by omega);have t4:=Ra 1099511627776 f (by omega);obtain⟨A6,cm,rfl,aR,bk,_⟩:=I.T;clear ah bZ b7 a3;by_cases hf0:0<f
  .rw[if_pos hf0]at G
   have bf:=gd G;clear G;have⟨aj,bL,bA,bi⟩:=gu V T I.lt bh;have⟨m,r⟩:=zX E.length;have K:=gd r;rw[<-r]at aR I bh⊢;clear V T r;have⟨wx,aE⟩:=zX ((wr.alloc (.cells #[.int .i64 f,i,.slice none 0 0] 275)).alloc (.cells #[.pointer (some ⟨wr.heap.size,0,none⟩)] 273));have az:gg [] wr wx:=(by rw[aE];exact(((zR [] wr).alloc _).alloc _));have bD:=I.Y az;have cG:wx.cell? ⟨wr.heap.size+1,0,none⟩=some (.pointer (some ⟨wr.heap.size,0,none⟩)):=by
    rw[aE]
    have:=(gn.new (wr.alloc (.cells #[.int .i64 f,i,.slice none 0 0] 275)) 273 #[.pointer (some ⟨wr.heap.size,0,none⟩)]).X 0
    simp
   have bP:gn wx wr.heap.size 275 #[.int .i64 f,i,.slice none 0 0]:=by
    rw[aE];exact(gn.new wr _ _).alloc _
   have aC:wx.heap.size=wr.heap.size+2:=(by rw[aE];simp);have b1:(E.map kB).length=m:=(by rw[zE];exact K.o.symm);have⟨HX,cb,aK,bO⟩:=gu aE bP aC b1;clear aE bP aC b1
   go_wp2_with(at_builtin;rw[<-HX.o];refine ka rfl rfl AY rfl rfl bD (.pointer (some ⟨wr.heap.size,0,none⟩)) rfl cG rfl ?c1 ?c2 ?_)
   case c1=>rw[bO.o];omega
   case c2=>rw[bO.o];omega
   intro g2 cl w5 cC S;go_wp2_with fail
   go_roundg j
   .have bo:gg [] w w5:=(B.tq az).trans S.Z (λx d=>.inr (bL.o x d))
    have cw:w.heap.size<=g2:=by
     rcases S.new g2 (by simp)with u|u
     .exact bL.o _ u
     .have:=B.size;have:=aK.o;omega
    have aV:∀x,x<wx.heap.size->x∉F6->x≠g2:=λx d hn e=>by
     rcases S.new g2 (by simp)with u|u
     .exact hn (e ▸ u)
     .omega
    have aC:=aK.o;have bQ:wr.heap.size∉F6:=λh=>by have:=bA.o _ h;omega
    refine⟨i+1,E++[(wr.heap.size,.coin i f)],[g2],by go_num,by omega,?_,gd ?_,?_,?_,?_,bo⟩
    .have e:(E++[(wr.heap.size,El.coin i f)]).map kB=E.map kB++[.pointer (some ⟨wr.heap.size,0,none⟩)]:=by rw[zM];rfl
     rw[e];exact cC.R
    .rw[zM,Z.o,bf.o];rfl
    .rw[zC,length_singleton];have:=bi.o;omega
    .intro p v
     rcases zP.1 v with u|u
     .have h6:=((aj.o p u).Y az).imp (Q:=λx=>x∉F6/\x≠g2) λx d h7=>⟨h7,aV x d h7⟩
      exact(h6.Z S.Z (λx d h=>h.1 d)).imp λx _ h=>by simpa using h.2
     .rw[zU.1 u]
      exact⟨by simpa using aV _ (by omega) bQ,cb.o.Z S.Z bQ⟩
    .intro x d
     rw[zU.1 d];exact cw
   .omega
  .obtain rfl:f=0:=by omega
   rw[if_neg hf0,append_nil]at G;have bf:=gd G;clear G;go_wp2_with fail
   go_roundg j
   .exact⟨i+1,E,F6,by go_num,by omega,I,gd (by rw[bf.o];exact Z.o),by omega,V,T,B⟩
   .omega
def jG(l:List Nat):Nat:=l.foldl max 0
theorem MF(l:List Nat)(x:Nat):jG (l++[x])=max (jG l) x:=by simp[jG]
theorem O1{m:Nat}(h:∀n∈l,n<=m):jG l<=m:=by
 have d:∀(l:List Nat) (a:Nat),a<=m->(∀n∈l,n<=m)->l.foldl max a<=m:=by
  intro l
  induction l with
  | nil=>intro a c _;exact c
  | cons x l ih=>
   intro a c h;exact ih _ (by have:=h x (by simp);omega) λn hn=>h n (by simp[hn])
 exact d l 0 (zero_le _) h
theorem uN{x:Nat}(h:x∈l):x<=jG l:=by
 have e:∀(l:List Nat) (a:Nat),a<=l.foldl max a/\∀x∈l,x<=l.foldl max a:=by
  intro l
  induction l with
  | nil=>intro a;exact⟨zQ _,by simp⟩
  | cons y l ih=>
   intro a;obtain⟨d,f⟩:=ih (max a y);refine⟨Nat.le_trans (Nat.le_max_left _ _) d,λx c=>?_⟩;rcases zJ.1 c with rfl|c
   .exact Nat.le_trans (Nat.le_max_right _ _) d
   .exact f x c
 exact(e l 0).2 x h
theorem LZ(l:List Nat)(x:Nat):mr (l++[x])=mr l+if 0<x then 1 else 0:=by
 unfold mr;rw[countP_append,countP_cons];simp
theorem Lr(l:List Nat)(x:Nat):lI (l++[x])=lI l+if x=0 then 0 else 2^(24-x):=by simp[lI]
theorem Ls(l:List Nat)(i:Nat):lI (l.take i)<=lI l:=by
 have e:lI l=lI (l.take i)+lI (l.drop i):=by
  conv=>lhs;rw[<-take_append_drop i l]
  unfold lI;rw[zM,sum_append]
 omega
theorem O2{lens:List Nat}(f:mr lens=1)(a:∀n∈lens,n<=1):jG lens=1:=by
 have g:=O1 a;have c:0<mr lens:=by omega
 obtain⟨x,e,d⟩:=List.countP_pos_iff.1 c;have h:=uN e;have j:0<x:=of_decide_eq_true d;omega
theorem uQ{A:Option Addr}(h:gz i64 w A l)(a:i<l.length):∃g o,A=some ⟨g,o,none⟩/\w.cell? ⟨g,o+i,none⟩=some (.int .i64 (l[i]:Nat)):=by
 obtain⟨g,o,e,c⟩:=h.at_ a;exact⟨g,o,e,c⟩
theorem Ff(lens:List Nat)(A:Option Addr)(r:Nat)(w:World)(k:m8 lens)(Q:gz i64 w A lens):Calls prog 234 #[.slice A lens.length r] w λe w'=>e=.returned (.bool true)/\w=w':=by
 have H:=Fp k;have M:=k.n1;have N:=k.n2;have B:(mr lens=1/\jG lens=1)\/(mr lens≠1/\lI lens=16777216):=by
  rcases k.full with⟨c,h⟩|⟨c,h⟩
  .exact .inl ⟨c,O2 c h⟩
  .exact .inr ⟨c,h⟩
 have D:=k.le;have⟨n,hn⟩:=zX lens.length;rw[<-hn]at M N⊢;have⟨HN,ai,au,HK⟩:=gu hn B D H;clear hn B D k H;have t1:=Ra n 1 (by omega);have t2:=Ra 1024 n (by omega);go_enter func234,ntmps234;go_wp2_with fail
 go_loopg [3,4,5,18] n (λj vu vl vs iv wr=>∃(i u m s:Nat),iv=.int .i64 i/\vu=.int .i64 u/\vl=.int .i64 m/\vs=.int .i64 s/\i+j=n/\gh (u=mr (lens.take i))/\gh (m=jG (lens.take i))/\gh (s=lI (lens.take i))/\u<=i/\m<=24/\s<=16777216/\w=wr)
 .exact⟨0,0,0,0,rfl,rfl,rfl,rfl,by omega,gd rfl,gd rfl,gd rfl,by omega,by omega,by omega,rfl⟩
 obtain⟨i,u,m,s,rfl,rfl,rfl,rfl,Y,q,v,z,hu,R,T,rfl⟩:=hrel;rcases gk with _|j
 .obtain rfl:i=n:=by omega
  have ad:lens.take i=lens:=by rw[HN.o,zN]
  rcases ai.o with⟨c,h⟩|⟨c,h⟩
  .have t:u=1:=by rw[q.o,ad];exact c
   have e2:m=1:=(by rw[v.o,ad];exact h);subst t;subst e2;clear c h ad;go_wp2;go_ret;exact⟨rfl,rfl⟩
  .have t:u≠1:=by rw[q.o,ad];exact c
   have e2:s=16777216:=(by rw[z.o,ad];exact h);have U:((u:Int)==1)=false:=(by rw[beq_eq_false_iff_ne];omega);subst e2;clear c h ad t;go_wp2;go_ret;exact⟨rfl,rfl⟩
 .have L:i<n:=by omega
  have p:i<lens.length:=by rw[<-HN.o];exact L
  obtain⟨g,o,rfl,I⟩:=uQ Q p;have K:=au.o lens[i] (zG p);have G:=jD lens p;have f:=LZ (lens.take i) lens[i];have d:=MF (lens.take i) lens[i];have a:=Lr (lens.take i) lens[i];have C:=Ls lens (i+1);rw[<-G]at f d a;rw[<-q.o]at f;rw[<-v.o]at d;rw[<-z.o]at a;have⟨x,hx⟩:=zX (lens[i]);rw[<-hx]at I K f d a;have W:(0:Int)<=(i:Int):=by omega
  have X:(i:Int)<(n:Int):=by omega
  have U:=Ra x 0 (by omega);have t4:=Ra 24 x (by omega);clear G hx p;by_cases hx0:0<x
  .have t5:=jo 0 x (by omega)
   rw[if_pos hx0]at f;rw[if_neg (by omega)]at a;have⟨m2,ah⟩:=zX (max m x);have aw:max (m:Int) (x:Int)=(m2:Int):=(by rw[ah];omega);have Z:(if (m:Int)<(x:Int)then(x:Int)else(m:Int))=(m2:Int):=(by rw[ah];split<;>omega);have⟨y,hy⟩:=zX (24-x);have aF:(24:Int)-(x:Int)=(y:Int):=(by omega);rw[<-hy]at a;rw[<-ah]at d;have S:(2:Nat)^y<=16777216:=Nat.le_trans (Nat.pow_le_pow_right (n:=2) (by decide) (show y<=24 by omega)) (by decide);have⟨P,hP⟩:=zX (2^y);have V:(2:Int)^y=(P:Int):=(by rw[hP];simp);rw[<-hP]at a S;have O:s+P<=16777216:=(by have:=HK.o;omega);have⟨al,ak,aj⟩:=Q9 f d a;have J:m2<=24:=(by omega);clear f d a C ah hP hy;go_wp2_with fail
   go_roundg j
   .exact⟨i+1,u+1,m2,s+P,by go_num,by go_num,rfl,by go_num,by omega,gd al.o.symm,gd ak.o.symm,gd aj.o.symm,by omega,J,O,rfl⟩
   .omega
  .obtain rfl:x=0:=by omega
   rw[if_neg hx0]at f;rw[if_pos rfl]at a;have E:max m 0=m:=(by omega);rw[E]at d;have⟨al,ak,aj⟩:=Q9 f d a;clear f d a C E;go_wp2_with fail
   go_roundg j
   .exact⟨i+1,u,m,s,by go_num,rfl,rfl,rfl,by omega,gd al.o.symm,gd ak.o.symm,gd aj.o.symm,by omega,R,T,rfl⟩
   .omega
theorem ED(lens:List Nat)(A:Option Addr)(p:Nat)(w:World)(Q:lens.length<=1024)(P:gz i64 w A lens):Calls prog 242 #[.slice A lens.length p] w λe w'=>∃v F,e=.returned v/\jj w' 3 v F ((hO lens).map i64)/\gg [] w w'/\∀x∈F,w.heap.size<=x:=by
 have⟨n,hn⟩:=zX lens.length;rw[<-hn]at Q⊢;have f:=gd hn;clear hn;go_enter func242,ntmps242;go_wp2_with fail
 go_loopg [3,4,5,6] 24 (λj vo vn v5 v6 wr=>∃(m:Nat) (F:List Nat),vn=.int .i64 (m+1:Nat)/\m+j=24/\jj wr 3 vo F ((i2 lens m).map i64)/\(∀x∈F,w.heap.size<=x)/\gg [] w wr)
 .exact⟨0,[],rfl,rfl,jj.nil _ _,by simp,zR _ _⟩
 obtain⟨m,F,rfl,W,a,hF,c⟩:=hrel;rcases gk with _|T
 .obtain rfl:m=24:=by omega
  go_wp2;obtain⟨G,O,rfl,_⟩:=a.T;go_ret;exact⟨_,rfl,F,a,c,hF⟩
 .have⟨q,hq⟩:=zX (m+1)
  rw[<-hq];have t1:=jB q 24 (by omega);have H:=gd hq;have aw:q<=24:=by omega
  have k:=sE lens m;rw[<-hq,<-f.o]at k;have t:=gd k;have N:=xw lens m;rw[<-f.o]at N;clear hq k;go_wp2_with fail
  go_loopg [3,5,6,13] n (λj vo v5 v6 iv wr=>∃(i:Nat) (F:List Nat),iv=.int .i64 i/\i+j=n/\jj wr 3 vo F ((i2 lens m++ja lens q i).map i64)/\(ja lens q i).length<=i/\(∀x∈F,w.heap.size<=x)/\gg [] w wr)
  .exact⟨0,F,rfl,by omega,by simpa[ja]using a,by simp[ja],hF,c⟩
  clear a hF c;obtain⟨i,F,rfl,V,a,U,hF,c⟩:=hrel;obtain⟨G,O,rfl,Z,au,_⟩:=a.T;rcases gk with _|j
  .obtain rfl:i=n:=by omega
   rw[<-t.o]at a;have L:(i2 lens m++ja lens q i).length=(i2 lens q).length:=(by rw[t.o]);rw[L];go_wp2_with fail
   go_roundg T
   .refine⟨q,F,by go_num,by have:=H.o;omega,a,hF,c⟩
   .omega
  .have M:i<n:=by omega
   have h:i<lens.length:=(by rw[<-f.o];exact M);obtain⟨g,o,rfl,I⟩:=uQ (P.Y c) h;have d:=JP lens q i;have z:gO lens i=lens[i]:=(by simp[gO,zD,h]);rw[z]at d;have⟨x,hx⟩:=zX (lens[i]);rw[<-hx]at I d;have ay:(0:Int)<=(i:Int):=(by omega);have az:(i:Int)<(n:Int):=(by omega);clear z hx h;by_cases hxq:x=q
   .subst hxq
    rw[if_pos rfl]at d;have ad:=gd d;have⟨r,hr⟩:=zX ((i2 lens m++ja lens x i).length);have X:r<=2048:=(by rw[hr,zC];omega);have C:((i2 lens m++ja lens x i).map i64).length=r:=(by rw[zE];exact hr.symm);rw[<-hr]at a⊢;have J:=a.alloc (.cells #[i] 3);have R:(wr.alloc (.cells #[i] 3)).cell? ⟨wr.heap.size,0,none⟩=some (.int .i64 i):=(by simp);have⟨al,HF⟩:=gy C hF;have K:gh (gg [] w (wr.alloc (.cells #[i] 3))):=gd (c.alloc _);clear d hr C hF
    go_wp2_with(at_builtin;refine ka rfl rfl iO rfl rfl J (.int .i64 i) rfl R rfl ?c1 ?c2 ?_)
    case c1=>rw[al.o];omega
    case c2=>rw[al.o];omega
    intro D Y w5 B u;go_wp2_with fail
    go_roundg j
    .refine⟨i+1,[D],by go_num,by omega,?_,?_,?_,K.o.trans u.Z (λx hx=>.inr (HF.o x hx))⟩
     .have e:(i2 lens m++ja lens x (i+1)).map i64=(i2 lens m++ja lens x i).map i64++[.int .i64 i]:=by
       rw[ad.o,<-zH,zM];rfl
      rw[e];simp only[zM,zH]at B⊢;exact B.R
     .rw[ad.o,zC,length_singleton];omega
     .intro y S
      rw[zU.1 S];rcases u.new D (by simp)with E|E
      .exact HF.o _ E
      .have:=c.size
       have e:(wr.alloc (.cells #[i] 3)).heap.size=wr.heap.size+1:=(by simp);omega
    .omega
   .have t2:((x:Int)==(q:Int))=false:=by rw[beq_eq_false_iff_ne];omega
    rw[if_neg hxq,append_nil]at d;have ad:=gd d;clear d;go_wp2_with fail
    go_roundg j
    .exact⟨i+1,F,by go_num,by omega,by rw[ad.o];exact a,by rw[ad.o];omega,hF,c⟩
    .omega
def sp(x:Nat):Value:=.int .u64 x
theorem OM:jx prog 251 92 (.int .u64 0) 1 8:=.mk' underlying251 (by kernel_rfl)
theorem EZ(lens:List Nat)(A:Option Addr)(f:Nat)(w:World)(C:m8 lens)(m:gz i64 w A lens):Calls prog 209 #[.slice A lens.length f] w λe w'=>∃v g,e=.returned (.tuple #[v,(0:Int)])/\gv w' 92 v g ((nS lens).map sp)/\gg [] w w'/\w.heap.size<=g:=by
 have M:=Ff lens A f w C m;have a5:=C.n1;have aS:=C.n2;have N:=λw m=>ED lens A f w aS m;have O:=xw lens 24;have⟨n,hn⟩:=zX lens.length;have bm:=kg (P:=prog) OM rfl .i64 .i64 n (by omega) (by omega);rw[<-hn]at a5 aS M N O⊢;have⟨HN,HF,aW⟩:=Q9 hn C N;clear hn C N;have R:=qu lens;rw[<-HN.o]at R;have aY:=gd R;clear R;go_enter func209,ntmps209;go_wp2_with fail;refine gB M ?_;have⟨w1,aw⟩:=zX (w.alloc (.cells (Array.replicate n (Value.int .u64 0)) 92));have⟨B,hB⟩:=zX w.heap.size;have Q:gv w1 92 (.slice B n n) B ((lD lens 0).map sp):=by
  have:=gv.made w 92 (replicate n (Value.int .u64 0)) (by simp[maxLen];omega)
  rw[aw,hB];have e:(lD lens 0).map sp=replicate n (Value.int .u64 0):=by
   unfold lD;rw[map_replicate,<-HN.o];rfl
  rw[e]
  simpa using this
 have T:=H4 aw;have aq:=aW.o w1 (m.Y T);have⟨aX,HB⟩:=gy aw hB;clear aw hB M;go_wp2_with fail;rw[<-aX.o,<-HB.o];refine aq.mono ?_;rintro e w2 ⟨vr,Fr,rfl,V,aL,aN⟩;obtain⟨Ar,cr,rfl,az,a2,a1⟩:=V.T;have ar:=Q.Z aL (by simp);have am:=T.tq aL;have⟨rl,af⟩:=zX ((hO lens).length);have a6:rl<=n:=by rw[af];exact O
 rw[<-af]at az⊢;have Z:=gd af;have aM:w.heap.size<=B:=by have:=HB.o;omega
 have ay:∀x∈[B],x∉Fr:=λx hx hm=>by
  rw[zU.1 hx]at hm
  have:=aN _ hm
  have h6:=Q.lt;omega
 have ax:ib Ar (hO lens) [B]:=V.apt (λx hx hm=>ay x hm hx);clear aq Q V T af aN O;go_wp2_with fail
 go_loopg [5,6,8,18] rl (λj vw vb v8 iv wr=>∃(k c q:Nat),iv=.int .i64 k/\vw=.int .u64 c/\vb=.int .i64 q/\k+j=rl/\gh ((k=0/\c=0/\q=0)\/(0<k/\c=kZ lens (k-1)/\q=gO lens ((hO lens).getD (k-1) 0)))/\gv wr 92 (.slice B n n) B ((lD lens k).map sp)/\gg [B] w2 wr)
 .exact⟨0,0,0,rfl,rfl,rfl,by omega,gd (.inl ⟨rfl,rfl,rfl⟩),ar,zR _ _⟩
 clear ar;obtain⟨k,c,q,rfl,rfl,rfl,bl,K,G,t⟩:=hrel;rcases gk with _|j
 .obtain rfl:k=rl:=by omega
  have e:nS lens=lD lens k:=by unfold nS;rw[Z.o]
  have aA:gg [] w wr:=am.trans t (λx hx=>by rw[zU.1 hx];exact .inr aM);have HE:=gd e;clear e;go_wp2
  go_ret2
  refine⟨_,B,rfl,?_,aA,aM⟩;rw[HE.o];exact G
 .have u:k<(hO lens).length:=by rw[<-Z.o];omega
  obtain⟨aQ,U,y⟩:=qw u;have an:=a1.N ax t;obtain⟨gr,a9,rfl,bk,aO⟩:=an.ex (by omega);have W:=aO k ((hO lens).getD k 0) (by rw[zD,zF u];rfl);have aR:gz i64 wr A lens:=(m.Y am).N (λ_ ad e hm=>by
   obtain⟨b9,o9,a,a0,_⟩:=m.ex (by have:=HN.o;omega);rw[e]at a;injection a with a;subst a;simp at hm;omega) t
  obtain⟨gl,ol,e7,bj,aP⟩:=aR.ex (by rw[<-HN.o];omega);have I:=aP ((hO lens).getD k 0) (gO lens ((hO lens).getD k 0)) (by unfold gO;rw[zD (l:=lens),zF y];rfl);obtain⟨aZ,a8,_,_,aT,aU⟩:=G.T;have aV:(lD lens k).length=n:=aY.o k;have X:=aT ((hO lens).getD k 0) ((lD lens k).getD ((hO lens).getD k 0) 0) (by rw[zD (l:=lD lens k),zF (by rw[qu];exact y)];rfl);have fw:=aU ((hO lens).getD k 0);have p:=G.S (i:=(hO lens).getD k 0) (by rw[zE,qu];exact y) (sp (kZ lens k));rw[<-map_set]at p;have S:lD lens (k+1)=(lD lens k).set ((hO lens).getD k 0) (kZ lens k):=rfl;rw[<-S]at p;have r:=ER HF.o u;rw[<-HN.o]at y;have o:∀(h:0<k),kZ lens k=(kZ lens (k-1)+1)*2^(gO lens ((hO lens).getD k 0)-gO lens ((hO lens).getD (k-1) 0))/\gO lens ((hO lens).getD (k-1) 0)<=gO lens ((hO lens).getD k 0)/\0<gO lens ((hO lens).getD (k-1) 0):=λh=>by
   have h5:=KU (lens:=lens) (k:=k-1) (by omega);have e:k-1+1=k:=(by omega);rw[e]at h5;exact⟨h5,uP (by omega) u,(qw (k:=k-1) (by omega)).1⟩
  have H:k=0->kZ lens k=0:=λh=>by rw[h,KV]
  have⟨s,hs⟩:=zX ((hO lens).getD k 0);rw[<-hs]at W I X fw p aQ U y r o S;have⟨L,hL⟩:=zX (gO lens s);rw[<-hL]at I aQ U r o;have⟨wn,aH⟩:=zX (kZ lens k);rw[<-aH]at p r o H;have ah:gh ((k+1=0/\wn=0/\L=0)\/(0<k+1/\wn=kZ lens (k+1-1)/\L=gO lens ((hO lens).getD (k+1-1) 0))):=gd (.inr ⟨by omega,by rw[Nat.add_sub_cancel];exact aH,by rw[Nat.add_sub_cancel,<-hs];exact hL⟩);have bb:wr.cell? ⟨gr,a9+k,none⟩=some (.int .i64 s):=W;have ba:wr.cell? ⟨gl,ol+s,none⟩=some (.int .i64 L):=I;have bc:wr.cell? ⟨B,s,none⟩=some (.int .u64 ((lD lens k).getD s 0:Nat)):=X;have aG:wn<16777216:=Nat.lt_of_lt_of_le r (Nat.le_trans (Nat.pow_le_pow_right (n:=2) (by decide) U) (by decide));have E:gv (wr.setCell ⟨B,s,none⟩ (.int .u64 wn)) 92 (.slice B n n) B ((lD lens (k+1)).map sp):=p;have E:=gd E;generalize (lD lens k).getD s 0=wo at *;have bd:(0:Int)<=(k:Int):=by omega
  have be:(k:Int)<(rl:Int):=by omega
  have bg:(0:Int)<=(s:Int):=by omega
  have bh:(s:Int)<(n:Int):=by omega
  have a4:gl≠B:=by
   obtain⟨b9,o9,a,a0,_⟩:=m.ex (by have:=HN.o;omega);rw[e7]at a;injection a with a;injection a with a _ _;omega
  subst e7;clear a8 aO aP aT aU p W I X hL aH hs S u r G an aR;by_cases hk0:k=0
  .rcases K.o with⟨a7,J,z⟩|⟨Y,_⟩
   .clear a7
    subst J;subst z;have aI:=H hk0;subst aI;clear o H hk0;go_wp2_with fail
    go_roundg j
    .exact⟨k+1,0,L,by go_num,rfl,rfl,by omega,gd (by rcases ah.o with⟨h,_⟩|h;omega;exact .inr h),E.o,t.setCell (.inl (by simp)) _⟩
    .omega
   .omega
  .rcases K.o with⟨Y,_⟩|⟨Y,J,z⟩
   .omega
   .obtain⟨D,k2,k3⟩:=o Y
    rw[<-J,<-z]at D;rw[<-z]at k2 k3;have⟨d,hd⟩:=zX (L-q);rw[<-hd]at D;have bi:(L:Int)-(q:Int)=(d:Int):=(by omega);have a3:d<=24:=(by omega);have ap:((c:Int)+1)*(2:Int)^d=(wn:Int):=(by rw[D];simp);have bn:IntKind.u64.wrap (((c:Int)+1)*(2:Int)^d)=(wn:Int):=(by rw[ap];exact IntWalk.u64_in _ (by omega));have bo:c+1<=16777216:=by
     have:c+1<=wn:=by rw[D];exact Nat.le_mul_of_pos_right _ (Nat.two_pow_pos _)
     omega
    clear D J z hd o H K k2 hk0;go_wp2_with fail
    go_roundg j
    .exact⟨k+1,wn,L,by go_num,rfl,rfl,by omega,ah,E.o,t.setCell (.inl (by simp)) _⟩
    .omega
end Go.Proofs.YtifdlkoepaepiaaGreatDoor
