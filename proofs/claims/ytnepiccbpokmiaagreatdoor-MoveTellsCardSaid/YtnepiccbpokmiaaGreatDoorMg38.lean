/- Lemmas. -/
import Derived.Test.YtnepiccbpokmiaaGreatDoorMg37
import Derived.Deep.RegionHeld3
set_option linter.all false
set_option maxHeartbeats 4000000
set_option maxRecDepth 100000
namespace Go.Proofs.YtnepiccbpokmiaaGreatDoor
open Tryz List Nat Go.RowKit
variable {l:List Nat}{i n s:Nat}
theorem BD(a b:El):∀l:List El,l.length%2=0->gT (l++[a,b])=gT l++[.pack a b]
 | [],_=>rfl
 | [_],h=>by simp at h
 | x::y::l,h=>by
  have:=BD a b l (by simp at h;omega)
  simp only[cons_append,gT,this]
theorem Ag(l:List El)(q:Nat)(h:2*q+1<l.length):gT (l.take (2*q+2))=gT (l.take (2*q))++[.pack l[2*q] l[2*q+1]]:=by
 have a:l.take (2*q+2)=l.take (2*q)++[l[2*q],l[2*q+1]]:=by
  rw[jd l h,jd l (by omega),zH];rfl
 rw[a,BD _ _ _ (by rw[zI];omega)]
theorem An(l:List El){q:Nat}(d:2*q<=l.length)(f:l.length<=2*q+1):gT (l.take (2*q))=gT l:=by
 by_cases h:l.length=2*q
 .rw[<-h,zN]
 .have g:l.length=2*q+1:=by omega
  have e:l=l.take (2*q)++[l[2*q]'(by omega)]:=by
   rw[<-jd l (by omega),zT (by omega)]
  have c:∀(m:List El) (a:El),m.length%2=0->gT (m++[a])=gT m:=by
   intro m a
   induction m using gT.induct with
   | case1 x y m im=>
    intro b;simp only[cons_append,gT];rw[im (by simp at b;omega)]
   | case2 m hm0=>
    intro b
    cases m with
    | nil=>rfl
    | cons x m=>
     cases m with
     | nil=>simp at b
     | cons y m=>exact absurd rfl (hm0 x y m)
  conv=>rhs;rw[e]
  rw[c _ _ (by rw[zI];omega)]
theorem yH:jA prog 249 250 (.pointer none) 1 8:=.mk' underlying249 (by kernel_rfl)
theorem Mi(l:List PE):∀u∈l.map kx,u.oneCell'=true:=by
 intro u a;obtain⟨p,_,rfl⟩:=List.mem_map.1 a;rfl
theorem NR(P:Nat->Prop)(w:World)(hP:∀x,w.heap.size<=x->P x)(AC AR:Option Addr)(cC cR:Nat)(C R:List PE)(h2:2<=C.length)(hCl:C.length<=1024)(hRl:R.length<=4096)(M:gu kx w AC C)(N:gu kx w AR R)(K:kU P w C)(L:kU P w R)(O:∀p∈R,p.2.wt<=1125899906842624):Calls prog 282 #[.slice AC C.length cC,.slice AR R.length cR] w λe j=>∃v g E',e=.returned v/\gv j 250 v g (E'.map kx)/\E'.map (·.2)=jn (C.map (·.2)++gT (R.map (·.2)))/\kU P j E'/\gf [] w j/\w.heap.size<=g:=by
 have⟨n,hn⟩:=zX R.length;have⟨c,hc⟩:=zX C.length;rw[<-hn]at hRl⊢;rw[<-hc]at h2 hCl⊢;have⟨HN,HC,aS,aP⟩:=gz hn hc O K;have⟨aR,aQ⟩:=gy hP L;clear hn hc O K L hP;have ar:gu (λu=>u) w AC (C.map kx):=⟨λh0=>by
  obtain⟨b,o,D,Z,e3⟩:=M.ex (by simpa using h0);exact⟨b,o,D,Z,λi a ha=>by
   rw[zW]at ha
   cases hC:C[i]? with
   | none=>rw[hC]at ha;cases ha
   | some p=>rw[hC]at ha;injection ha with ha;rw[<-ha];exact e3 i p hC⟩⟩
 go_enter func282,ntmps282
 go_wp2_with(at_builtin;refine na rfl rfl yH rfl rfl (gE.nil w 250) (C.map kx) c rfl ?c1 ?c2 ?c3 ?c4 ?c5 ?_)
 case c1=>rw[zE];exact HC.o
 case c2=>exact ar
 case c3=>exact Mi _
 case c4=>rw[zE,<-HC.o];simp;omega
 case c5=>rw[zE,<-HC.o];simp;omega
 intro v1 F1 w1 h1 h3;have am:=h1.cases;rcases am with⟨_,aJ,_⟩|⟨g1,av,rfl⟩
 .exfalso
  have:=congrArg length aJ
  rw[zE,<-HC.o]at this;simp at this;omega
 have aW:w.heap.size<=g1:=by
  rcases h3.new g1 (by simp)with h|h
  .simp at h
  .exact h
 have aT:gf [] w w1:=h3.Z;clear h1 h3 ar M;have⟨T,hT⟩:=zX (R.map (·.2));have aV:T.length=n:=by rw[hT,zE,HN.o]
 have⟨HT,az⟩:=gy hT aV;clear hT aV;go_wp2
 go_loopg [5,6] n (λk vo vi' wr=>∃(q:Nat) (Q:List PE) (d:Nat),vi'=.int .i64 ((2*q:Nat):Int)/\2*q<=n/\n<=2*q+k/\gv wr 250 vo d ((C++Q).map kx)/\gh (Q.map (·.2)=gT (T.take (2*q)))/\Q.length=q/\kU (λx=>x≠d/\P x) wr Q/\w.heap.size<=d/\gf [] w wr)
 .exact⟨0,[],g1,rfl,by omega,by omega,by rw[append_nil];exact av,gd (by simp[gT]),rfl,by intro p y;simp at y,aW,aT⟩
 clear av aT aW;obtain⟨q,Q,d,rfl,aL,bm,V,HQ,aC,H,aG,t⟩:=hrel;obtain⟨bd,rfl,al,aE,_,_⟩:=V.oq;have W:(C++Q).length=c+q:=by rw[zC,<-HC.o,aC]
 rw[W]at al⊢;by_cases hend:n<=2*q+1
 .have t1:decide (((2*q:Nat):Int)+1<(n:Int))=false:=zA (by omega)
  have aZ:=Er wr _ d (C++Q) (by omega) (by omega) V (by
   intro p y;rcases zP.1 y with f|f
   .exact((aP.o p f).imp (Q:=λx=>x≠d) λx hx _=>by omega).Y t
   .exact(H p f).imp λx _ h=>h.1)
  rw[W]at aZ;have bh:gh (kU (λx=>x≠d/\P x) wr (C++Q)):=gd (by
   intro p y;rcases zP.1 y with f|f
   .exact((aP.o p f).imp (Q:=λx=>x≠d/\P x) λx hx h=>⟨by omega,h⟩).Y t
   .exact H p f)
  clear H;go_wp2_with fail;refine aZ.mono ?_;rintro e w2 ⟨rfl,k3,k4⟩;have k1:=Cz (λp:PE=>p.2) (C++Q) ((C++Q).headD default);have k0:=Dw (λp:PE=>p.2) (C++Q) ((C++Q).headD default);have⟨E',aU⟩:=zX (pn (λp:PE=>p.2) (C++Q) ((C++Q).headD default));rw[<-aU]at k0 k1 k3;have⟨K0,K1⟩:=gy k0 k1;clear k0 k1 aU;go_wp2;go_ret;refine⟨_,d,E',rfl,k3,?_,?_,t.trans k4 (λx hx=>by rw[zU.1 hx];exact .inr aG),aG⟩
  .have D:=K0.o
   rw[zM,HQ.o,An T (by rw[az.o];exact aL) (by rw[az.o];exact hend),HT.o]at D;exact D
  .intro p y
   have f:=bh.o p (K1.o.mem_iff.1 y);exact(f.Z k4 (λx hx=>by rw[zU.1 hx];simp)).imp λ_ _ h=>h.2
 .rcases gk with _|gk
  .omega
  .have t1:decide (((2*q:Nat):Int)+1<(n:Int))=true:=zB (by omega)
   have aD:2*q+1<R.length:=(by rw[<-HN.o];omega);have ak:=N.Y t;obtain⟨A,B,rfl,aX,aF⟩:=ak.ex (by omega);have p1:=aF (2*q) _ (zF (by omega));have p2:=aF (2*q+1) _ (zF aD);have m1:R[2*q]∈R:=zG _;have m2:R[2*q+1]∈R:=zG _;have Y:gT (T.take (2*(q+1)))=gT (T.take (2*q))++[.pack R[2*q].2 R[2*q+1].2]:=by
    have:=Ag T q (by rw[az.o];omega)
    rw[show 2*(q+1)=2*q+2 by omega,this]
    congr 3<;>simp[HT.o]
   have a1:=aS.o _ m1;have a2:=aS.o _ m2;have E:=aQ.o _ m1;have F:=aQ.o _ m2;generalize R[2*q]=x1 at *;generalize R[2*q+1]=x2 at *;obtain⟨m,ad⟩:=x1;obtain⟨r,z⟩:=x2;simp only at a1 a2 E F Y;have c1:=(E.Y t).head.2.2;have c2:=(F.Y t).head.2.2;have a0:wr.cell? ⟨A,B+2*q,none⟩=some (.pointer m):=p1;have aN:wr.cell? ⟨A,B+(2*q+1),none⟩=some (.pointer r):=p2;have⟨i,hi⟩:=zX (2*q);rw[<-hi]at a0 aN t1 aL bm hend aD Y⊢;have⟨a9,HI,a3,a4⟩:=gz Y hi E F;have⟨a6,aO⟩:=gy H t;have br:(0:Int)<=(i:Int):=(by omega);have bs:(i:Int)<(n:Int):=(by omega);have⟨i1,aY⟩:=zX (i+1);have bu:(i1:Int)<(n:Int):=(by omega);have bv:(0:Int)<=(i1:Int):=(by omega);have bi:(i:Int)+1=(i1:Int):=(by omega);have bj:IntKind.i64.wrap (i1:Int)=(i1:Int):=IntWalk.i64_in _ (by omega);have bw:IntKind.i64.wrap ((i:Int)+1)=(i1:Int):=(by rw[bi];exact bj);rw[<-aY]at aN;clear aY;have au:IntKind.i64.wrap (((ad.wt:Nat):Int)+((z.wt:Nat):Int))=((ad.wt+z.wt:Nat):Int):=by
    have e:((ad.wt:Nat):Int)+((z.wt:Nat):Int)=((ad.wt+z.wt:Nat):Int):=(by simp);rw[e];exact IntWalk.i64_in _ (by omega)
   have hS:∀j,gf [d] wr j->j.cell? ⟨A,B+i,none⟩=some (.pointer m)/\j.cell? ⟨A,B+i1,none⟩=some (.pointer r)/\j.cell? m=some (.int .i64 ad.wt)/\j.cell? r=some (.int .i64 z.wt):=by
    intro j X;obtain⟨bq,bA,e',bl,_⟩:=N.ex (by omega);injection e' with e';injection e' with D Z _;subst D;have q1:=E.head.2.1;have q2:=F.head.2.1
    exact⟨(World.cell?_of_block (w:=wr) (X.block A aX (by simp;omega))).trans a0,(World.cell?_of_block (w:=wr) (X.block A aX (by simp;omega))).trans aN,
     (World.cell?_of_block (w:=wr) (X.block m (Nat.lt_of_lt_of_le q1 t.size) (by simp;omega))).trans c1,(World.cell?_of_block (w:=wr) (X.block r (Nat.lt_of_lt_of_le q2 t.size) (by simp;omega))).trans c2⟩
   have⟨k1,aH⟩:=zX ad.wt;have⟨k2,aI⟩:=zX z.wt;rw[<-aH]at c1 a1 au hS;rw[<-aI]at c2 a2 au hS;have⟨a7,a8,bc,HS⟩:=gz aH aI aC hS;have aK:=V.S;have bk:=V.lt;have bx:((C++Q).map kx).length<=8192:=(by rw[zE,W];omega);clear aF p1 p2 m1 m2 Y E F H ak hi aC hS aH aI;have ba:gh (i+1<n):=gd (by omega);clear aL hend aD;have⟨wx,aM⟩:=zX ((((wr.alloc (.cells #[.pointer m,.pointer r] 250)).alloc (.cells #[.int .i64 ((k1:Int)+(k2:Int)),(0:Int),.slice (some ⟨wr.heap.size,0,none⟩) 2 2] 252)).alloc (.cells #[.pointer (some ⟨wr.heap.size+1,0,none⟩)] 250)).drew);have U:gf [] wr wx:=(by rw[aM];exact(((((zR [] wr).alloc _).alloc _).alloc _).drew));have aq:=aK.Y U;rw[W]at aq;have bo:wx.cell? ⟨wr.heap.size+2,0,none⟩=some (.pointer (some ⟨wr.heap.size+1,0,none⟩)):=by
    rw[aM]
    have:=(gn.new ((wr.alloc (.cells #[.pointer m,.pointer r] 250)).alloc (.cells #[.int .i64 ((k1:Int)+(k2:Int)),(0:Int),.slice (some ⟨wr.heap.size,0,none⟩) 2 2] 252)) 250 #[.pointer (some ⟨wr.heap.size+1,0,none⟩)]).X 0
    simpa using this
   have S:=gd aM;have a5:gh (gf [d] wr wx):=gd (U.mono (by simp));go_wp2
   go_region_held3 (λj=>j.cell? ⟨A,B+i,none⟩=some (.pointer m)/\j.cell? ⟨A,B+i1,none⟩=some (.pointer r)/\j.cell? m=some (.int .i64 k1)/\j.cell? r=some (.int .i64 k2)) (first|(go_keep;done)|exact HS.o _ ((zR [d] wr).alloc _)|exact HS.o _ (((zR [d] wr).alloc _).alloc _)|exact HS.o _ ((((zR [d] wr).alloc _).alloc _).alloc _)|exact HS.o _ (((((zR [d] wr).alloc _).alloc _).alloc _).drew)|exact HS.o _ (a5.o.tq (gB.Z (by assumption))))
    (first|(rw[<-S.o];refine oT (by rfl) (by rfl) yH (by rfl) (by rfl) aq (.pointer (some ⟨wr.heap.size+1,0,none⟩)) (by rfl) bo (by rfl) (by omega) (by omega) ?_;intro g2 be w5 bn G))
   go_wp2_with fail
   go_roundg gk
   .have bp:wx.heap.size=wr.heap.size+3:=by rw[S.o];simp
    have I:g2=d\/wr.heap.size+3<=g2:=by
     rcases G.new g2 (by simp)with f|f
     .exact .inl (by simpa using f)
     .exact .inr (by omega)
    have bf:gn wx wr.heap.size 250 #[.pointer m,.pointer r]:=by
     rw[S.o];exact(((gn.new wr _ _).alloc _).alloc _).drew
    have bg:gn wx (wr.heap.size+1) 252 #[.int .i64 ((k1:Int)+(k2:Int)),(0:Int),.slice (some ⟨wr.heap.size,0,none⟩) 2 2]:=by
     rw[S.o]
     have:=gn.new (wr.alloc (.cells #[.pointer m,.pointer r] 250)) 252 #[.int .i64 ((k1:Int)+(k2:Int)),(0:Int),.slice (some ⟨wr.heap.size,0,none⟩) 2 2]
     have e:(wr.alloc (.cells #[.pointer m,.pointer r] 250)).heap.size=wr.heap.size+1:=(by simp);rw[e]at this;exact(this.alloc _).drew
    have aA:=bf.Z G.Z (by simp;omega);have aB:=bg.Z G.Z (by simp;omega);have an:gf [] w w5:=(aO.o.tq U).trans G.Z (λx hx=>by rw[zU.1 hx];exact .inr aG);have bz:=aO.o.size;have ap:∀(e:El) (bb:Nat),mf P w e bb->mf (λx=>x≠g2/\P x) w5 e bb:=λe bb h=>(h.imp (Q:=λx=>x≠g2/\P x) λx hx h9=>⟨by rcases I with rfl|J<;>omega,h9⟩).Y an;refine⟨q+1,Q++[(wr.heap.size+1,.pack ad z)],g2,?_,?_,?_,?_,gd ?_,?_,?_,?_,an⟩
    .have e:((2*(q+1):Nat):Int)=(i:Int)+2:=by have:=HI.o;omega
     rw[e]
    .have:=HI.o;have:=ba.o;omega
    .have:=HI.o;omega
    .have e:(C++(Q++[(wr.heap.size+1,El.pack ad z)])).map kx=(C++Q).map kx++[.pointer (some ⟨wr.heap.size+1,0,none⟩)]:=by
      rw[<-zH,zM];rfl
     rw[e];have Z:((C++Q).map kx).length+1=C.length+Q.length+1:=(by simp);rw[<-Z];exact bn
    .rw[zM,HQ.o,a9.o,HI.o];rfl
    .rw[zC,bc.o];rfl
    .intro p y
     rcases zP.1 y with f|f
     .have J:=((a6.o p f).Y U).imp (Q:=λx=>x≠d/\x≠g2/\P x) λx hx h7=>⟨h7.1,by rcases I with rfl|h8;exact h7.1;omega,h7.2⟩
      exact(J.Z G.Z (λx hx=>by rw[zU.1 hx];simp)).imp λ_ _ h=>h.2
     .rw[zU.1 f]
      refine⟨wr.heap.size,m,r,?_,?_,?_,aA,ap _ _ a3.o,ap _ _ a4.o⟩
      .exact⟨by rcases I with rfl|J<;>omega,aR.o _ (by omega)⟩
      .exact⟨by rcases I with rfl|J<;>omega,aR.o _ (by omega)⟩
      .rw[<-a7.o,<-a8.o,Int.natCast_add]
       exact aB
    .rcases I with rfl|J<;>omega
   .omega
def ld(t:El)(l:List Nat):List Nat:=l.mapIdx λs x=>x+t.occ s
def El.symsIn(n:Nat):El->Prop
 | .coin s _=>s<n
 | .pack a b=>a.symsIn n/\b.symsIn n
theorem BV(t:El)(l:List Nat):(ld t l).length=l.length:=by simp[ld]
theorem Hn(t:El)(l:List Nat)(h:s<l.length):(ld t l).getD s 0=l.getD s 0+t.occ s:=by
 simp[ld,zD,h]
theorem Ho(a b:El)(l:List Nat):ld b (ld a l)=ld (.pack a b) l:=by
 unfold ld;rw[mapIdx_mapIdx]
 congr 1
 funext s x
 show x+a.occ s+b.occ s=x+(a.occ s+b.occ s);omega
theorem Hm(s k:Nat)(l:List Nat)(h:s<l.length):ld (.coin s k) l=l.set s (l.getD s 0+1):=by
 apply ext_getElem?;intro i;unfold ld;rw[getElem?_mapIdx,getElem?_set];by_cases hi:s=i
 .subst hi
  rw[if_pos rfl,if_pos h,zD,zF h];simp[El.occ]
 .rw[if_neg hi]
  cases hl:l[i]? with
  | none=>rfl
  | some x=>
   simp only[Option.map_some,El.occ];rw[if_neg hi];rfl
theorem L7(g cap n:Nat):∀(t:El) (b:Nat) (l:List Nat) (w:World),l.length=n->t.symsIn n->(∀s,l.getD s 0+t.occ s<=4096)->mf (·≠g) w t b->gv w 3 (.slice g n cap) g (l.map i64) -> Calls prog 283 #[.pointer b,.slice g n cap] w λe w'=>e=.returned (.tuple #[])/\gv w' 3 (.slice g n cap) g ((ld t l).map i64)/\gf [g] w w':=by
 intro t
 induction t with
 | coin s k=>
  intro b l w m q f z a;have P:s<n:=q;obtain⟨S,d⟩:=z;have u:=d.X 1;have v:=d.X 2;simp at u v;have o:(l.getD s 0:Nat)+1<=4096:=by
   have:=f s
   simpa[El.occ]using this
  have ad:=a.T (i:=s) (by rw[zE,m];exact P) (i64 (l.getD s 0+1));rw[<-map_set,<-Hm s k l (by omega)]at ad;obtain⟨Y,Q,_,_,C,E⟩:=a.oq;have c1:=C s (l.getD s 0) (by rw[zD,zF (by omega)];rfl);have f1:=E s;have Z:w.cell? ⟨g,s,none⟩=some (.int .i64 ((l.getD s 0:Nat):Int)):=c1;have D:gv (w.setCell ⟨g,s,none⟩ (.int .i64 ((l.getD s 0+1:Nat):Int))) 3 (.slice g n cap) g ((ld (.coin s k) l).map i64):=ad;have h0:(0:Int)<=(s:Int):=by omega
  have h1:(s:Int)<(n:Int):=by omega
  generalize ld (.coin s k) l=l' at *;generalize l.getD s 0=x at *;have R:((x+1:Nat):Int)=(x:Int)+1:=by simp
  rw[R]at D;clear ad C E f c1 Q a m q d;go_enter func283,ntmps283;go_wp2;refine bodyPost_ret (results_none rfl _ _ _) rfl ?_;exact⟨rfl,D,(zR [g] w).setCell (.inl (by simp)) _⟩
 | pack x y ihx ihy=>
  intro b l w m q f z a;obtain⟨gp,u,v,S,F,d,p,o,M⟩:=z;have c2:=d.X 2;simp at c2;have T:=p.X 0;have U:=p.X 1;simp at T U;obtain⟨K,L⟩:=q;have G:∀s,l.getD s 0+x.occ s<=4096:=λs=>by
   have:l.getD s 0+(x.occ s+y.occ s)<=4096:=f s
   omega
  have H:∀s,(ld x l).getD s 0+y.occ s<=4096:=λs=>by
   have h9:l.getD s 0+(x.occ s+y.occ s)<=4096:=f s;by_cases h:s<l.length
   .rw[Hn _ _ h];omega
   .rw[zD,getElem?_eq_none (by rw[BV];omega)]
    show 0+_<=_;omega
  have N:=λw=>ihx u l w m K G;have B:=λw=>ihy v (ld x l) w ((BV _ _).trans m) L H;have J:=Ho x y l;rw[J]at B;have⟨I1,I2,HG,HX⟩:=gz N B p o;have O:=gd M;generalize ld x l=lx at *;generalize ld (.pack x y) l=ly at *;clear N B ihx ihy f G H K L J m d p o M;go_enter func283,ntmps283;go_wp2
  go_loopg [26] 2 (λj iv wr=>∃i:Nat,iv=.int .i64 i/\i+j=2/\gf [g] w wr/\gh (i=0/\gv wr 3 (.slice g n cap) g (l.map i64)\/i=1/\gv wr 3 (.slice g n cap) g (lx.map i64)\/i=2/\gv wr 3 (.slice g n cap) g (ly.map i64)))
  .exact⟨0,rfl,rfl,zR _ _,gd (.inl ⟨rfl,a⟩)⟩
  clear a;obtain⟨i,rfl,ap,c,r⟩:=hrel;have I:∀x∈[g],¬(x≠g):=by intro x o;simp at o;simp[o]
  have V:=(HG.o.Z c (by simpa using λh=>F h)).X 0;have W:=(HG.o.Z c (by simpa using λh=>F h)).X 1;simp at V W;rcases r.o with⟨rfl,a⟩|⟨rfl,a⟩|⟨rfl,a⟩
  .obtain rfl:gk=2:=by omega
   have A:=I1.o wr (HX.o.Z c I) a;clear r a;go_wp2_with fail;refine A.mono ?_;rintro e X ⟨rfl,k1,k2⟩;go_wp2
   go_roundg 1
   .exact⟨1,rfl,rfl,c.tq k2,gd (.inr (.inl ⟨rfl,k1⟩))⟩
   .omega
  .obtain rfl:gk=1:=by omega
   have A:=I2.o wr (O.o.Z c I) a;clear r a;go_wp2_with fail;refine A.mono ?_;rintro e X ⟨rfl,k1,k2⟩;go_wp2
   go_roundg 0
   .exact⟨2,rfl,rfl,c.tq k2,gd (.inr (.inr ⟨rfl,k1⟩))⟩
   .omega
  .obtain rfl:gk=0:=by omega
   go_wp2
   go_end0
   exact⟨rfl,a,c⟩
theorem Jo:∀l:List El,(∀e∈l,e.symsIn n)->∀e∈gT l,e.symsIn n:=by
 intro l
 induction l using gT.induct with
 | case1 a b l il=>
  intro h e c;rw[gT]at c;rcases zJ.1 c with rfl|c
  .exact⟨h a (by simp),h b (by simp)⟩
  .exact il (λe h1=>h e (by simp[h1])) e c
 | case2 l hl=>
  intro _ e c
  cases l with
  | nil=>simp[gT]at c
  | cons a l=>
   cases l with
   | nil=>simp[gT]at c
   | cons b l=>exact absurd rfl (hl a b l)
theorem Rows.syms{C:List El}(f:pk n C){j:Nat}{R:List El}(h:Rows C j R):∀e∈R,e.symsIn n:=by
 have c:∀e∈C,e.symsIn n:=λe a=>by
  obtain⟨s,w,rfl,d,_⟩:=f.coin e a;exact d
 induction h with
 | one hp hs=>exact λe a=>c e (hp.mem_iff.1 a)
 | next h hp hs ih=>
  intro e a;rcases zP.1 (hp.mem_iff.1 a)with b|b
  .exact c e b
  .exact Jo _ ih e b
theorem Ib(n:Nat)(S:List El)(t:El):i9 n (S++[t])=ld t (i9 n S):=by
 apply ext_getElem
 .simp[i9,ld]
 .intro i a b
  simp[i9,ld,it]
theorem AW(s i:Nat)(S:List El):it s (S.take i)<=it s S:=by
 have e:=sl s (S.take i) (S.drop i);rw[take_append_drop]at e;omega
theorem MM(b:s<n)(c:n<=1024):lL ((replicate n 0).set s 1):=by
 have a:∀m∈(replicate n 0).set s 1,m<=1:=λm hm=>by
  rcases mem_or_eq_of_mem_set hm with h|h
  .have:=eq_of_mem_replicate h;omega
  .omega
 refine⟨by simp;omega,by simp;omega,λm hm=>by have:=a m hm;omega,.inl ⟨?_,a⟩⟩;unfold kp;rw[countP_set (by simpa using b)];simp
theorem one_pos(a:s<n)(hi:i<n):0<((replicate n 0).set s 1).getD i 0 ↔ i=s:=by
 rw[zD,getElem?_set];by_cases h:s=i
 .subst h
  rw[if_pos rfl,if_pos (by simpa using a)];simp
 .rw[if_neg h,getElem?_replicate,if_pos hi]
  simp;exact λh2=>h h2.symm
structure ve (freq lens:List Nat):Prop where
 len:lens.length=freq.length
 full:lL lens
 used:∀s,s<freq.length->(0<lens.getD s 0 ↔ 0<freq.getD s 0)
 le:∀n∈lens,n<=12
theorem Ef{freq:List Nat}(j:freq.length<=1024){f:Nat}(g:iC freq freq.length=[.coin s f]):s<freq.length/\ve freq ((replicate freq.length 0).set s 1):=by
 have d:El.coin s f∈iC freq freq.length:=by rw[g];simp
 obtain⟨q,b,k,c⟩:=qh d;injection c with c h5;subst c;refine⟨b,by simp,MM b j,λi hi=>?_,λm d=>?_⟩
 .rw[one_pos b hi]
  have a:=sp freq i freq.length;rw[g]at a;have e:iq i [El.coin s f]=if s=i then 1 else 0:=by
   unfold iq;rw[countP_cons];simp[El.isCoin]
  rw[e]at a;constructor
  .intro p;rw[p];exact k
  .intro o
   rw[if_pos (show i<freq.length/\0<freq.getD i 0 from⟨hi,o⟩)]at a;by_cases h8:s=i
   .exact h8.symm
   .rw[if_neg h8]at a;omega
 .rcases mem_or_eq_of_mem_set d with h|h
  .have:=eq_of_mem_replicate h;omega
  .omega
theorem gv.zerosN(w:World)(n:Nat)(h:n<=1048576):gv (w.alloc (.cells (replicate n (Value.int .i64 0)).toArray 3)) 3 (.slice (some ⟨w.heap.size,0,none⟩) n n) w.heap.size ((replicate n 0).map i64):=by
 have:=gv.made w 3 (replicate n (Value.int .i64 0)) (by simp[maxLen];omega)
 rw[map_replicate]
 simpa[i64]using this
def qQ(w:World)(freq:List Nat)(e:Ending)(w':World):Prop:=
 ∃v g,e=.returned (.tuple #[v,(0:Int)])/\gv w' 3 v g ((kn freq).map i64)/\ve freq (kn freq)/\gf [] w w'/\w.heap.size<=g
theorem Ja(w:World)(freq:List Nat)(A:Option Addr)(cap:Nat)(h1:1<=freq.length)(h2:freq.length<=256)(hf:∀f∈freq,f<=4096)(a:0<(iC freq freq.length).length)(hc:gu i64 w A freq):Calls prog 210 #[.slice A freq.length cap,(12:Int)] w (qQ w freq):=by
 have⟨n,hn⟩:=zX freq.length;rw[<-hn]at h1 h2 a⊢;have cT:=lp (P:=prog) iJ rfl .i64 .i64 n (by omega) (by omega);have⟨HN,HF,bb⟩:=gS hn hf a;clear hn hf a;have t1:=gL n 1 (by omega);have t2:=gL 1024 n (by omega);go_enter func210,ntmps210;go_wp2_with fail
 go_loopg [6,7,8,31] n (λj v6 v7 v8 iv wr=>∃(i:Nat) (E:List PE) (F6:List Nat),iv=.int .i64 i/\i+j=n/\gE wr 250 v6 F6 (E.map kx)/\gh (E.map (·.2)=iC freq i)/\E.length<=i/\kU (λx=>x∉F6) wr E/\(∀x∈F6,w.heap.size<=x)/\gf [] w wr)
 .exact⟨0,[],[],rfl,by omega,gE.nil _ _,gd rfl,by simp,by intro p v;simp at v,by simp,zR _ _⟩
 obtain⟨i,E,F6,rfl,cO,H,X,bh,U,S,B⟩:=hrel;rcases gk with _|j
 .obtain rfl:i=n:=by omega
  have bY:E.length=(iC freq i).length:=by rw[<-X.o,zE]
  have a:=bb.o;rw[<-bY]at a;rcases H.cases with⟨_,bB,_⟩|⟨gc,y,rfl⟩
  .exfalso
   have:=congrArg length bB
   rw[zE]at this;simp at this;rw[this]at a;simp at a
  obtain⟨aL,rfl,ap,ay,al,_⟩:=y.oq;have cz:w.heap.size<=gc:=S gc (by simp);have ao:kU (·≠gc) wr E:=U.imp λx _ h=>by simpa using h
  have a7:gh (E.map (·.2)=iC freq i):=X;have⟨c,bl⟩:=zX E.length;rw[<-bl]at ap a bh⊢;have⟨aF,aj,bc,aG⟩:=gz bl ao y al;have cE:=B.size;have bv:=y.lt;have t6:((c:Int)==0)=false:=by rw[beq_eq_false_iff_ne];omega
  have t7:=gL 4096 c (by omega);clear bY bl H U ao y al S;by_cases hc1:c=1
  .have t8:((c:Int)==1)=true:=by rw[beq_iff_eq];omega
   have cp:∃b s f,E=[(b,El.coin s f)]/\iC freq i=[.coin s f]:=by
    have h3:=aF.o;obtain⟨⟨b,t⟩,hb⟩:=List.length_eq_one_iff.1 (h3.symm.trans hc1);have h4:=a7.o;rw[hb]at h4;have r:t∈iC freq i:=(by rw[<-h4];simp);obtain⟨s,_,_,rfl⟩:=qh r;exact⟨b,s,_,hb,h4.symm⟩
   obtain⟨b,s,f,rfl,br⟩:=cp;have a4:=Ef (freq:=freq) (by rw[<-HN.o];omega) (by rw[<-HN.o];exact br);rw[<-HN.o]at a4;have a9:gh (iC freq freq.length=[.coin s f]):=gd (by rw[<-HN.o];exact br);have cN:wr.cell? gc=some (.pointer (some ⟨b,0,none⟩)):=aG.o 0 _ rfl;have aA:=aj.o (b,.coin s f) (by simp);have cM:b<wr.heap.size:=aA.2.lt;have cv:wr.cell? ⟨b,1,none⟩=some (.int .i64 s):=by
    have:=aA.2.X 1
    simpa using this
   have K:=gv.zerosN wr i (by omega);have cg:=gd a4;have cG:=a4.1;have cV:(0:Int)<=(s:Int):=(by omega);have cF:(s:Int)<(i:Int):=(by omega);have a0:=K.T (i:=s) (by simpa using cG) (i64 1);rw[<-map_set]at a0;obtain⟨co,cK,_,_,cI,cJ⟩:=K.oq;clear cK;subst hc1;clear a4 a0 K cI cJ aA br;go_wp2_with fail
   go_ret2
   have e:(Array.replicate i (Value.int .i64 0)).setIfInBounds s (.int .i64 1)=(((replicate i 0).set s 1).map i64).toArray:=by
    rw[map_set,map_replicate];show((replicate i (Value.int .i64 0)).toArray).setIfInBounds s (.int .i64 1)=_;rw[setIfInBounds_toArray];rfl
   have am:=gv.made wr 3 (((replicate i 0).set s 1).map i64) (by simp[maxLen];omega);rw[<-e]at am;have bx:(((replicate i 0).set s 1).map i64).length=i:=(by simp);rw[bx]at am;have T:=Ck a9.o;rw[<-HN.o]at T;unfold qQ;rw[T];exact⟨_,wr.heap.size,rfl,am,cg.o.2,B.alloc _,cE⟩
  .have t8:((c:Int)==1)=false:=by rw[beq_eq_false_iff_ne];omega
   have bC:=λw2 (hc2:gf [] wr w2)=>Er w2 _ gc E (by rw[<-aF.o];omega) (by rw[<-aF.o];omega) (bc.o.Z hc2 (by simp)) (aj.o.Y hc2);rw[<-aF.o]at bC;have⟨gl,bw⟩:=zX wr.heap.size;have⟨w1,a6⟩:=zX (wr.alloc (.cells (Array.replicate i (Value.int .i64 0)) 3));have K:gv w1 3 (.slice gl i i) gl ((replicate i 0).map i64):=by
    rw[a6,bw];exact gv.zerosN wr i (by omega)
   have an:=jD a6;have aX:=bC w1 an;have aP:kU (λx=>x≠gl/\x≠gc) w1 E:=λp v=>((aj.o p v).imp (Q:=λx=>x≠gl/\x≠gc) λx d h=>⟨by omega,h⟩).Y an;have⟨ck,ce,ba,ci⟩:=gz a6 bw aP K;clear bC aP K a6;have ar:gc≠gl:=(by omega);have aT:w.heap.size<=gl:=(by omega);have a8:=gd (B.tq an);clear bw an;go_wp2_with fail;rw[<-ck.o,<-ce.o];refine aX.mono ?_;rintro e w2 ⟨rfl,k3,k4⟩;have k1:=Cz (λp:PE=>p.2) E (E.headD default);have V:=Dw (λp:PE=>p.2) E (E.headD default);have⟨E',bS⟩:=zX (pn (λp:PE=>p.2) E (E.headD default));rw[<-bS]at V k1 k3;rw[a7.o]at V;clear bS;have ax:E'.length=c:=(by rw[k1.length_eq];exact aF.o.symm);have af:=qW freq;have⟨C,hC⟩:=zX (iC freq i);rw[<-HN.o,<-hC]at af;have aN:(E'.map (·.2)).Perm C:=(by rw[hC,<-a7.o];exact k1.map _);have bT:E'.map (·.2)=lQ C 0:=(by rw[hC];exact V);have aO:kU (λx=>x≠gl) w2 E':=λp v=>((ba.o p (k1.mem_iff.1 v)).Z k4 (λx d=>by rw[zU.1 d];simp)).imp λ_ _ h=>h.1;have bV:gu kx w2 (some ⟨gc,0,none⟩) E':=by
    have cL:=k3
    have:=cL.S
    exact gE.cells this
   have aB:=ci.o.Z k4 (by simpa using λh=>ar h.symm);have bn:gf [] w w2:=a8.o.trans k4 (λx d=>by rw[zU.1 d];exact .inr cz);have bR:C.length=c:=(by rw[<-aN.length_eq,zE,ax]);have a1:∀e∈C,e.wt<=4096:=λe he=>by
    rw[hC]at he;obtain⟨s,hs,_,rfl⟩:=qh he;show freq.getD s 0<=4096;rw[zD]
    cases d:freq[s]? with
    | none=>exact zero_le _
    | some x=>exact HF.o x (mem_of_getElem? d)
   have⟨bI,HC,aH,av⟩:=gz af hC ax bR;have⟨cl,bN,bJ,aI⟩:=gz a1 bV aO aB.lt;have be:=gd aB;have cf:gh (E'.map (·.2)=jn C):=gd (by rw[hC];exact V);clear V k1 k3 k4 aX af hC aN ax bR a1 aO bV aB B hc bv;go_wp2_with fail
   go_loopg [10,80] 11 (λj v10 iv I=>∃(q:Nat) (R:List PE) (N:Option Addr) (L:Nat),v10=.slice N R.length L/\iv=.int .i64 q/\q+j=11/\gh (gu kx I N R)/\gh (kU (λx=>x≠gl) I R)/\gh (R.map (·.2)=lQ C q)/\R.length<=L/\L<=9223372036854775807/\gh (gM N R [gl])/\gf [] w2 I)
   .exact⟨0,E',some ⟨gc,0,none⟩,aL,by rw[aH.o],rfl,rfl,bN,bJ,gd bT,by rw[aH.o];exact ap,ay,gd (λ_ ad e r=>by injection e with e;subst e;simp at r;exact ar r),zR _ _⟩
   clear bT;obtain⟨I,rfl⟩:=zX wr;obtain⟨q,R,N,L,rfl,rfl,cU,bH,bK,bd,cq,cr,cb,G⟩:=hrel;have bj:Rows C (q+1) (R.map (·.2)):=(by rw[bd.o];exact xK C q);have D:=Rows.length bI.o (by rw[av.o];omega) bj;have aw:=gd bj;clear bj;have cs:R.length<=2*c:=by
    rw[zE,av.o]at D;generalize (c-1) / 2^(q+1-1)=z at D;omega
   have⟨m,r⟩:=zX R.length;rw[<-r]at cq cs⊢;have⟨J,aJ⟩:=gy r D;clear r D;rcases gk with _|j
   .obtain rfl:q=11:=by omega
    have D:=aJ.o;have b1:=J.o;have ai:=AS (freq:=freq) (by rw[<-HN.o];omega) (by rw[<-HN.o,<-HC.o,av.o];omega) (R:=R.map (·.2)) (by rw[<-HN.o,<-HC.o];exact aw.o);rw[<-HN.o,<-HC.o,av.o]at ai;have au:=Rows.syms bI.o aw.o;have cB:2*c-2<=m:=by
     rw[zE,av.o,<-b1]at D
     have:(c-1) / 2^(11+1-1)=0:=div_eq_of_lt (by omega)
     omega
    have⟨k,hk⟩:=zX (2*c-2);rw[<-hk]at ai cB;have cS:(2:Int)*(c:Int)-2=(k:Int):=(by omega);have cP:(0:Int)<=(k:Int):=(by omega);have cQ:(k:Int)<=(L:Int):=(by omega);have aZ:=be.o.Z G (by simp);have⟨bM,cj⟩:=gy ai au;have bW:=bH.o;obtain⟨gR,oR,rfl,cy,bX⟩:=bW.ex (by omega);have bu:gR≠gl:=λe=>cb.o (by omega) _ rfl (by simp[e]);have⟨cd,HK⟩:=gy bX hk;clear ai au D b1 bW bX hk;go_wp2_with fail
    go_loopg [93] k (λj iv wz=>∃(t:Nat),iv=.int .i64 t/\t+j=k/\gv wz 3 (.slice gl i i) gl ((i9 i ((R.map (·.2)).take t)).map i64)/\gf [gl] I wz)
    .exact⟨0,rfl,by omega,by rw[take_zero,Cl];exact aZ,zR _ _⟩
    clear aZ;obtain⟨t,rfl,cW,y,Y⟩:=hrel;rcases gk with _|j
    .obtain rfl:t=k:=by omega
     have bs:gf [] w wr:=(bn.tq G).trans Y (λx d=>by rw[zU.1 d];exact .inr aT);have aU:ve freq (i9 i ((R.map (·.2)).take t)):=by
      obtain⟨f1,f2,f3⟩:=bM.o;refine⟨by rw[nf];exact HN.o,f1,λs hs=>f2 s (by rw[HN.o];exact hs),λn hn=>?_⟩;obtain⟨s,_,rfl⟩:=List.mem_map.1 hn;exact f3 s
     have ch:=gd aU;clear aU;go_wp2
     go_ret2
     have T:=Bz (freq:=freq) (by rw[<-HN.o,<-HC.o,av.o];omega);rw[<-HN.o,<-HC.o,<-bd.o,av.o,<-HK.o]at T;unfold qQ;rw[T];exact⟨_,gl,rfl,y,ch.o,bs,aT⟩
    .have a5:t<R.length:=by rw[<-J.o];omega
     have bG:t+1<=k:=(by omega);have bZ:=(bK.o R[t] (zG _)).Z Y (λx d=>by rw[zU.1 d];simp);have b4:=(World.cell?_of_block (w:=I) (Y.block gR cy (by simpa using bu))).trans (cd.o t _ (zF a5));have b6:t<(R.map (·.2)).length:=(by rw[zE];exact a5);have bF:(R.map (·.2)).take (t+1)=(R.map (·.2)).take t++[R[t].2]:=by
      rw[jd _ b6];simp
     have bz:=Ib i ((R.map (·.2)).take t) R[t].2;rw[<-bF]at bz;have b5:=cj.o R[t].2 (mem_map_of_mem (zG a5));have aW:∀s,(i9 i ((R.map (·.2)).take t)).getD s 0+R[t].2.occ s<=4096:=by
      intro s;have e1:it s ((R.map (·.2)).take (t+1))=it s ((R.map (·.2)).take t)+R[t].2.occ s:=by
       rw[bF,sl];simp[it]
      have e2:it s ((R.map (·.2)).take (t+1))<=12:=by
       have e3:(R.map (·.2)).take (t+1)=((R.map (·.2)).take k).take (t+1):=(by rw[take_take,Nat.min_eq_left bG]);rw[e3];exact Nat.le_trans (AW _ _ _) (bM.o.2.2 s)
      by_cases hs:s<i
      .rw[sj _ hs];omega
      .rw[zD,getElem?_eq_none (by rw[nf];omega)]
       show 0+_<=_;omega
     have bq:=L7 gl i i R[t].2 R[t].1 (i9 i ((R.map (·.2)).take t)) wr (nf _ _) b5 aW bZ y;rw[<-bz]at bq;have⟨pb,bE⟩:=zX (R[t].1);have cC:wr.cell? ⟨gR,oR+t,none⟩=some (.pointer pb):=(by rw[bE];exact b4);rw[<-bE]at bq;have ct:(0:Int)<=(t:Int):=(by omega);have cu:(t:Int)<(k:Int):=(by omega);clear aW b5 bz bF b6 b4 bZ a5 bE y;go_wp2_with fail;refine bq.mono ?_;rintro e w4 ⟨rfl,M,W⟩;go_wp2_with fail
     go_roundg j
     .exact⟨t+1,by go_num,by omega,M,Y.tq W⟩
     .omega
   .have b7:=Rows.wt_le cl.o aw.o
    have aY:2^(q+1)<=4096:=Nat.le_trans (Nat.pow_le_pow_right (n:=2) (by decide) (show q+1<=12 by omega)) (by decide);have b3:=NR (λx=>x≠gl) I (λx d=>by have:=G.size;have:=aI.o;omega) (some ⟨gc,0,none⟩) N aL L E' R (by rw[aH.o];omega) (by rw[aH.o];omega) (by rw[<-J.o];omega)
     (bN.o.Y G) bH.o (bJ.o.Y G) bK.o (λp v=>by
      have:=b7 p.2 (mem_map_of_mem v)
      have:=mul_le_mul_left 4096 aY
      omega)
    rw[aH.o,<-J.o]at b3;clear b7 aY;go_wp2_with fail;refine b3.mono ?_;rintro e w3 ⟨v3,g3,E3,rfl,M,W,r4,r5,r6⟩;obtain⟨bg,rfl,cw,bp,_,_⟩:=M.oq;have⟨M,W,r4⟩:=gS M W r4;go_wp2_with fail
    go_roundg j
    .refine⟨q+1,E3,some ⟨g3,0,none⟩,bg,rfl,by go_num,by omega,gd (gE.cells M.o.S),r4,gd ?_,cw,bp,gd (λ_ ad e r=>by
      injection e with e;subst e;simp at r
      have:=G.size
      have:=aI.o
      omega),G.tq r5⟩
     rw[W.o,cf.o,bd.o];rfl
    .omega
 .have cA:i<n:=by omega
  have Z:i<freq.length:=by rw[<-HN.o];exact cA
  obtain⟨g,o,rfl,ah⟩:=(hc.Y B).at_ Z;have ca:=HF.o freq[i] (zG Z);have b9:freq[i]=freq.getD i 0:=by rw[zD,zF Z];rfl
  rw[b9]at ah ca;have F:=vO freq i;have⟨f,b0⟩:=zX (freq.getD i 0);rw[<-b0]at ah ca F;have bm:wr.cell? ⟨g,o+i,none⟩=some (.int .i64 f):=ah;have ct:(0:Int)<=(i:Int):=by omega
  have cu:(i:Int)<(n:Int):=by omega
  have t3:=gL f 0 (by omega);have t4:=gL 1099511627776 f (by omega);obtain⟨A6,cn,rfl,aR,bk,_⟩:=H.oq;clear ah b0 b9 Z;by_cases hf0:0<f
  .rw[if_pos hf0]at F
   have bf:=gd F;clear F;have⟨aj,bL,bA,bi⟩:=gz U S H.lt bh;have⟨m,r⟩:=zX E.length;have J:=gd r;rw[<-r]at aR H bh⊢;clear U S r;have⟨wx,aE⟩:=zX ((wr.alloc (.cells #[.int .i64 f,i,.slice none 0 0] 252)).alloc (.cells #[.pointer (some ⟨wr.heap.size,0,none⟩)] 250));have az:gf [] wr wx:=(by rw[aE];exact(((zR [] wr).alloc _).alloc _));have bD:=H.Y az;have cH:wx.cell? ⟨wr.heap.size+1,0,none⟩=some (.pointer (some ⟨wr.heap.size,0,none⟩)):=by
    rw[aE]
    have:=(gn.new (wr.alloc (.cells #[.int .i64 f,i,.slice none 0 0] 252)) 250 #[.pointer (some ⟨wr.heap.size,0,none⟩)]).X 0
    simp
   have bP:gn wx wr.heap.size 252 #[.int .i64 f,i,.slice none 0 0]:=by
    rw[aE];exact(gn.new wr _ _).alloc _
   have aC:wx.heap.size=wr.heap.size+2:=(by rw[aE];simp);have b2:(E.map kx).length=m:=(by rw[zE];exact J.o.symm);have⟨HX,cc,aK,bO⟩:=gz aE bP aC b2;clear aE bP aC b2
   go_wp2_with(at_builtin;rw[<-HX.o];refine jT rfl rfl yH rfl rfl bD (.pointer (some ⟨wr.heap.size,0,none⟩)) rfl cH rfl ?c1 ?c2 ?_)
   case c1=>rw[bO.o];omega
   case c2=>rw[bO.o];omega
   intro g2 cm w5 cD O;go_wp2_with fail
   go_roundg j
   .have bo:gf [] w w5:=(B.tq az).trans O.Z (λx d=>.inr (bL.o x d))
    have cx:w.heap.size<=g2:=by
     rcases O.new g2 (by simp)with u|u
     .exact bL.o _ u
     .have:=B.size;have:=aK.o;omega
    have aV:∀x,x<wx.heap.size->x∉F6->x≠g2:=λx d hn e=>by
     rcases O.new g2 (by simp)with u|u
     .exact hn (e ▸ u)
     .omega
    have aC:=aK.o;have bQ:wr.heap.size∉F6:=λh=>by have:=bA.o _ h;omega
    refine⟨i+1,E++[(wr.heap.size,.coin i f)],[g2],by go_num,by omega,?_,gd ?_,?_,?_,?_,bo⟩
    .have e:(E++[(wr.heap.size,El.coin i f)]).map kx=E.map kx++[.pointer (some ⟨wr.heap.size,0,none⟩)]:=by rw[zM];rfl
     rw[e];exact cD.S
    .rw[zM,X.o,bf.o];rfl
    .rw[zC,length_singleton];have:=bi.o;omega
    .intro p v
     rcases zP.1 v with u|u
     .have h6:=((aj.o p u).Y az).imp (Q:=λx=>x∉F6/\x≠g2) λx d h7=>⟨h7,aV x d h7⟩
      exact(h6.Z O.Z (λx d h=>h.1 d)).imp λx _ h=>by simpa using h.2
     .rw[zU.1 u]
      exact⟨by simpa using aV _ (by omega) bQ,cc.o.Z O.Z bQ⟩
    .intro x d
     rw[zU.1 d];exact cx
   .omega
  .obtain rfl:f=0:=by omega
   rw[if_neg hf0,append_nil]at F;have bf:=gd F;clear F;go_wp2_with fail
   go_roundg j
   .exact⟨i+1,E,F6,by go_num,by omega,H,gd (by rw[bf.o];exact X.o),by omega,U,S,B⟩
   .omega
def ju(l:List Nat):Nat:=l.foldl max 0
theorem KH(l:List Nat)(x:Nat):ju (l++[x])=max (ju l) x:=by simp[ju]
theorem yY{m:Nat}(h:∀n∈l,n<=m):ju l<=m:=by
 have c:∀(l:List Nat) (a:Nat),a<=m->(∀n∈l,n<=m)->l.foldl max a<=m:=by
  intro l
  induction l with
  | nil=>intro a b _;exact b
  | cons x l ih=>
   intro a b h;exact ih _ (by have:=h x (by simp);omega) λn hn=>h n (by simp[hn])
 exact c l 0 (zero_le _) h
theorem qy{x:Nat}(h:x∈l):x<=ju l:=by
 have d:∀(l:List Nat) (a:Nat),a<=l.foldl max a/\∀x∈l,x<=l.foldl max a:=by
  intro l
  induction l with
  | nil=>intro a;exact⟨zQ _,by simp⟩
  | cons y l ih=>
   intro a;obtain⟨c,e⟩:=ih (max a y);refine⟨Nat.le_trans (Nat.le_max_left _ _) c,λx b=>?_⟩;rcases zJ.1 b with rfl|b
   .exact Nat.le_trans (Nat.le_max_right _ _) c
   .exact e x b
 exact(d l 0).2 x h
theorem CE(l:List Nat)(x:Nat):kp (l++[x])=kp l+if 0<x then 1 else 0:=by
 unfold kp;rw[countP_append,countP_cons];simp
theorem Cg(l:List Nat)(x:Nat):kH (l++[x])=kH l+if x=0 then 0 else 2^(24-x):=by simp[kH]
theorem Ch(l:List Nat)(i:Nat):kH (l.take i)<=kH l:=by
 have e:kH l=kH (l.take i)+kH (l.drop i):=by
  conv=>lhs;rw[<-take_append_drop i l]
  unfold kH;rw[zM,sum_append]
 omega
theorem NO{lens:List Nat}(e:kp lens=1)(a:∀n∈lens,n<=1):ju lens=1:=by
 have f:=yY a;have b:0<kp lens:=by omega
 obtain⟨x,d,c⟩:=List.countP_pos_iff.1 b;have g:=qy d;have h:0<x:=of_decide_eq_true c;omega
theorem oF{w:World}{A:Option Addr}(h:gu i64 w A l)(hi:i<l.length):∃g o,A=some ⟨g,o,none⟩/\w.cell? ⟨g,o+i,none⟩=some (.int .i64 (l[i]:Nat)):=by
 obtain⟨g,o,e,c⟩:=h.at_ hi;exact⟨g,o,e,c⟩
theorem DY(lens:List Nat)(A:Option Addr)(cap:Nat)(w:World)(h:lL lens)(N:gu i64 w A lens):Calls prog 284 #[.slice A lens.length cap] w λe w'=>e=.returned (.bool true)/\w=w':=by
 have F:=yC h;have K:=h.n1;have L:=h.n2;have z:(kp lens=1/\ju lens=1)\/(kp lens≠1/\kH lens=16777216):=by
  rcases h.full with⟨b,f⟩|⟨b,f⟩
  .exact .inl ⟨b,NO b f⟩
  .exact .inr ⟨b,f⟩
 have C:=h.le;have⟨n,hn⟩:=zX lens.length;rw[<-hn]at K L⊢;have⟨HN,ai,au,HK⟩:=gz hn z C F;clear hn z C h F;have t1:=gL n 1 (by omega);have t2:=gL 1024 n (by omega);go_enter func284,ntmps284;go_wp2_with fail
 go_loopg [3,4,5,18] n (λj vu vl vs iv wr=>∃(i u m s:Nat),iv=.int .i64 i/\vu=.int .i64 u/\vl=.int .i64 m/\vs=.int .i64 s/\i+j=n/\gh (u=kp (lens.take i))/\gh (m=ju (lens.take i))/\gh (s=kH (lens.take i))/\u<=i/\m<=24/\s<=16777216/\w=wr)
 .exact⟨0,0,0,0,rfl,rfl,rfl,rfl,by omega,gd rfl,gd rfl,gd rfl,by omega,by omega,by omega,rfl⟩
 obtain⟨i,u,m,s,rfl,rfl,rfl,rfl,W,p,t,v,hu,O,R,rfl⟩:=hrel;rcases gk with _|j
 .obtain rfl:i=n:=by omega
  have ad:lens.take i=lens:=by rw[HN.o,zN]
  rcases ai.o with⟨b,f⟩|⟨b,f⟩
  .have q:u=1:=by rw[p.o,ad];exact b
   have r:m=1:=(by rw[t.o,ad];exact f);subst q;subst r;clear b f ad;go_wp2;go_ret;exact⟨rfl,rfl⟩
  .have q:u≠1:=by rw[p.o,ad];exact b
   have r:s=16777216:=(by rw[v.o,ad];exact f);have S:((u:Int)==1)=false:=(by rw[beq_eq_false_iff_ne];omega);subst r;clear b f ad q;go_wp2;go_ret;exact⟨rfl,rfl⟩
 .have J:i<n:=by omega
  have k:i<lens.length:=by rw[<-HN.o];exact J
  obtain⟨g,o,rfl,G⟩:=oF N k;have I:=au.o lens[i] (zG k);have E:=jd lens k;have d:=CE (lens.take i) lens[i];have c:=KH (lens.take i) lens[i];have a:=Cg (lens.take i) lens[i];have B:=Ch lens (i+1);rw[<-E]at d c a;rw[<-p.o]at d;rw[<-t.o]at c;rw[<-v.o]at a;have⟨x,hx⟩:=zX (lens[i]);rw[<-hx]at G I d c a;have U:(0:Int)<=(i:Int):=by omega
  have V:(i:Int)<(n:Int):=by omega
  have S:=gL x 0 (by omega);have t4:=gL 24 x (by omega);clear E hx k;by_cases hx0:0<x
  .have t5:=i6 0 x (by omega)
   rw[if_pos hx0]at d;rw[if_neg (by omega)]at a;have⟨m2,ah⟩:=zX (max m x);have Z:max (m:Int) (x:Int)=(m2:Int):=(by rw[ah];omega);have X:(if (m:Int)<(x:Int)then(x:Int)else(m:Int))=(m2:Int):=(by rw[ah];split<;>omega);have⟨y,hy⟩:=zX (24-x);have Y:(24:Int)-(x:Int)=(y:Int):=(by omega);rw[<-hy]at a;rw[<-ah]at c;have Q:(2:Nat)^y<=16777216:=Nat.le_trans (Nat.pow_le_pow_right (n:=2) (by decide) (show y<=24 by omega)) (by decide);have⟨P,hP⟩:=zX (2^y);have T:(2:Int)^y=(P:Int):=(by rw[hP];simp);rw[<-hP]at a Q;have M:s+P<=16777216:=(by have:=HK.o;omega);have⟨al,ak,aj⟩:=gS d c a;have H:m2<=24:=(by omega);clear d c a B ah hP hy;go_wp2_with fail
   go_roundg j
   .exact⟨i+1,u+1,m2,s+P,by go_num,by go_num,rfl,by go_num,by omega,gd al.o.symm,gd ak.o.symm,gd aj.o.symm,by omega,H,M,rfl⟩
   .omega
  .obtain rfl:x=0:=by omega
   rw[if_neg hx0]at d;rw[if_pos rfl]at a;have D:max m 0=m:=(by omega);rw[D]at c;have⟨al,ak,aj⟩:=gS d c a;clear d c a B D;go_wp2_with fail
   go_roundg j
   .exact⟨i+1,u,m,s,by go_num,rfl,rfl,rfl,by omega,gd al.o.symm,gd ak.o.symm,gd aj.o.symm,by omega,O,R,rfl⟩
   .omega
theorem Lt(lens:List Nat)(A:Option Addr)(cap:Nat)(w:World)(P:lens.length<=1024)(O:gu i64 w A lens):Calls prog 298 #[.slice A lens.length cap] w λe D=>∃v F,e=.returned v/\gE D 3 v F ((gO lens).map i64)/\gf [] w D/\∀x∈F,w.heap.size<=x:=by
 have⟨n,hn⟩:=zX lens.length;rw[<-hn]at P⊢;have d:=gd hn;clear hn;go_enter func298,ntmps298;go_wp2_with fail
 go_loopg [3,4,5,6] 24 (λj vo vn v5 v6 wr=>∃(m:Nat) (F:List Nat),vn=.int .i64 (m+1:Nat)/\m+j=24/\gE wr 3 vo F ((jP lens m).map i64)/\(∀x∈F,w.heap.size<=x)/\gf [] w wr)
 .exact⟨0,[],rfl,rfl,gE.nil _ _,by simp,zR _ _⟩
 obtain⟨m,F,rfl,V,a,hF,b⟩:=hrel;rcases gk with _|S
 .obtain rfl:m=24:=by omega
  go_wp2;obtain⟨E,N,rfl,_⟩:=a.oq;go_ret;exact⟨_,rfl,F,a,b,hF⟩
 .have⟨q,hq⟩:=zX (m+1)
  rw[<-hq];have t1:=iI q 24 (by omega);have G:=gd hq;have aw:q<=24:=by omega
  have h:=so lens m;rw[<-hq,<-d.o]at h;have k:=gd h;have M:=uL lens m;rw[<-d.o]at M;clear hq h;go_wp2_with fail
  go_loopg [3,5,6,13] n (λj vo v5 v6 iv wr=>∃(i:Nat) (F:List Nat),iv=.int .i64 i/\i+j=n/\gE wr 3 vo F ((jP lens m++kb lens q i).map i64)/\(kb lens q i).length<=i/\(∀x∈F,w.heap.size<=x)/\gf [] w wr)
  .exact⟨0,F,rfl,by omega,by simpa[kb]using a,by simp[kb],hF,b⟩
  clear a hF b;obtain⟨i,F,rfl,U,a,T,hF,b⟩:=hrel;obtain⟨E,N,rfl,Y,Z,_⟩:=a.oq;rcases gk with _|j
  .obtain rfl:i=n:=by omega
   rw[<-k.o]at a;have K:(jP lens m++kb lens q i).length=(jP lens q).length:=(by rw[k.o]);rw[K];go_wp2_with fail
   go_roundg S
   .refine⟨q,F,by go_num,by have:=G.o;omega,a,hF,b⟩
   .omega
  .have L:i<n:=by omega
   have f:i<lens.length:=(by rw[<-d.o];exact L);obtain⟨g,o,rfl,H⟩:=oF (O.Y b) f;have c:=AH lens q i;have t:gI lens i=lens[i]:=(by simp[gI,zD,f]);rw[t]at c;have⟨x,hx⟩:=zX (lens[i]);rw[<-hx]at H c;have ay:(0:Int)<=(i:Int):=(by omega);have az:(i:Int)<(n:Int):=(by omega);clear t hx f;by_cases hxq:x=q
   .subst hxq
    rw[if_pos rfl]at c;have ad:=gd c;have⟨r,hr⟩:=zX ((jP lens m++kb lens x i).length);have W:r<=2048:=(by rw[hr,zC];omega);have z:((jP lens m++kb lens x i).map i64).length=r:=(by rw[zE];exact hr.symm);rw[<-hr]at a⊢;have I:=a.alloc (.cells #[i] 3);have Q:(wr.alloc (.cells #[i] 3)).cell? ⟨wr.heap.size,0,none⟩=some (.int .i64 i):=(by simp);have⟨al,HF⟩:=gy z hF;have J:gh (gf [] w (wr.alloc (.cells #[i] 3))):=gd (b.alloc _);clear c hr z hF
    go_wp2_with(at_builtin;refine jT rfl rfl iJ rfl rfl I (.int .i64 i) rfl Q rfl ?c1 ?c2 ?_)
    case c1=>rw[al.o];omega
    case c2=>rw[al.o];omega
    intro B X w5 u p;go_wp2_with fail
    go_roundg j
    .refine⟨i+1,[B],by go_num,by omega,?_,?_,?_,J.o.trans p.Z (λx hx=>.inr (HF.o x hx))⟩
     .have e:(jP lens m++kb lens x (i+1)).map i64=(jP lens m++kb lens x i).map i64++[.int .i64 i]:=by
       rw[ad.o,<-zH,zM];rfl
      rw[e];simp only[zM,zH]at u⊢;exact u.S
     .rw[ad.o,zC,length_singleton];omega
     .intro y R
      rw[zU.1 R];rcases p.new B (by simp)with C|C
      .exact HF.o _ C
      .have:=b.size
       have e:(wr.alloc (.cells #[i] 3)).heap.size=wr.heap.size+1:=(by simp);omega
    .omega
   .have t2:((x:Int)==(q:Int))=false:=by rw[beq_eq_false_iff_ne];omega
    rw[if_neg hxq,append_nil]at c;have ad:=gd c;clear c;go_wp2_with fail
    go_roundg j
    .exact⟨i+1,F,by go_num,by omega,by rw[ad.o];exact a,by rw[ad.o];omega,hF,b⟩
    .omega
def mZ(x:Nat):Value:=.int .u64 x
theorem EP:jA prog 171 72 (.int .u64 0) 1 8:=.mk' underlying171 (by kernel_rfl)
theorem L6(lens:List Nat)(A:Option Addr)(cap:Nat)(w:World)(y:lL lens)(c:gu i64 w A lens):Calls prog 261 #[.slice A lens.length cap] w λe w'=>∃v g,e=.returned (.tuple #[v,(0:Int)])/\gv w' 72 v g ((nY lens).map mZ)/\gf [] w w'/\w.heap.size<=g:=by
 have H:=DY lens A cap w y c;have a5:=y.n1;have aS:=y.n2;have I:=λw c=>Lt lens A cap w aS c;have J:=uL lens 24;have⟨n,hn⟩:=zX lens.length;have bm:=lp (P:=prog) EP rfl .i64 .i64 n (by omega) (by omega);rw[<-hn]at a5 aS H I J⊢;have⟨HN,HF,aW⟩:=gS hn y I;clear hn y I;have M:=nc lens;rw[<-HN.o]at M;have aY:=gd M;clear M;go_enter func261,ntmps261;go_wp2_with fail;refine gx H ?_;have⟨w1,aw⟩:=zX (w.alloc (.cells (Array.replicate n (Value.int .u64 0)) 72));have⟨B,hB⟩:=zX w.heap.size;have K:gv w1 72 (.slice B n n) B ((i7 lens 0).map mZ):=by
  have:=gv.made w 72 (replicate n (Value.int .u64 0)) (by simp[maxLen];omega)
  rw[aw,hB];have e:(i7 lens 0).map mZ=replicate n (Value.int .u64 0):=by
   unfold i7;rw[map_replicate,<-HN.o];rfl
  rw[e]
  simpa using this
 have O:=jD aw;have aq:=aW.o w1 (c.Y O);have⟨aX,HB⟩:=gy aw hB;clear aw hB H;go_wp2_with fail;rw[<-aX.o,<-HB.o];refine aq.mono ?_;rintro e w2 ⟨vr,Fr,rfl,R,W,Y⟩;obtain⟨Ar,cr,rfl,az,a2,a1⟩:=R.oq;have ar:=K.Z W (by simp);have am:=O.tq W;have⟨rl,af⟩:=zX ((gO lens).length);have a6:rl<=n:=by rw[af];exact J
 rw[<-af]at az⊢;have V:=gd af;have X:w.heap.size<=B:=by have:=HB.o;omega
 have ay:∀x∈[B],x∉Fr:=λx hx hm=>by
  rw[zU.1 hx]at hm
  have:=Y _ hm
  have h6:=K.lt;omega
 have ax:gM Ar (gO lens) [B]:=R.apt (λx hx hm=>ay x hm hx);clear aq K R O af Y J;go_wp2_with fail
 go_loopg [5,6,8,18] rl (λj vw vb v8 iv wr=>∃(k b o:Nat),iv=.int .i64 k/\vw=.int .u64 b/\vb=.int .i64 o/\k+j=rl/\gh ((k=0/\b=0/\o=0)\/(0<k/\b=jQ lens (k-1)/\o=gI lens ((gO lens).getD (k-1) 0)))/\gv wr 72 (.slice B n n) B ((i7 lens k).map mZ)/\gf [B] w2 wr)
 .exact⟨0,0,0,rfl,rfl,rfl,by omega,gd (.inl ⟨rfl,rfl,rfl⟩),ar,zR _ _⟩
 clear ar;obtain⟨k,b,o,rfl,rfl,rfl,bl,G,C,q⟩:=hrel;rcases gk with _|j
 .obtain rfl:k=rl:=by omega
  have e:nY lens=i7 lens k:=by unfold nY;rw[V.o]
  have aA:gf [] w wr:=am.trans q (λx hx=>by rw[zU.1 hx];exact .inr X);have HE:=gd e;clear e;go_wp2
  go_ret2
  refine⟨_,B,rfl,?_,aA,X⟩;rw[HE.o];exact C
 .have r:k<(gO lens).length:=by rw[<-V.o];omega
  obtain⟨aQ,Q,t⟩:=oV r;have an:=a1.Q ax q;obtain⟨gr,a9,rfl,bk,Z⟩:=an.ex (by omega);have S:=Z k ((gO lens).getD k 0) (by rw[zD,zF r];rfl);have aR:gu i64 wr A lens:=(c.Y am).Q (λ_ ad e hm=>by
   obtain⟨b9,o9,a,a0,_⟩:=c.ex (by have:=HN.o;omega);rw[e]at a;injection a with a;subst a;simp at hm;omega) q
  obtain⟨gl,ol,e7,bj,aP⟩:=aR.ex (by rw[<-HN.o];omega);have E:=aP ((gO lens).getD k 0) (gI lens ((gO lens).getD k 0)) (by unfold gI;rw[zD (l:=lens),zF t];rfl);obtain⟨aZ,a8,_,_,aT,aU⟩:=C.oq;have aV:(i7 lens k).length=n:=aY.o k;have T:=aT ((gO lens).getD k 0) ((i7 lens k).getD ((gO lens).getD k 0) 0) (by rw[zD (l:=i7 lens k),zF (by rw[nc];exact t)];rfl);have fw:=aU ((gO lens).getD k 0);have m:=C.T (i:=(gO lens).getD k 0) (by rw[zE,nc];exact t) (mZ (jQ lens k));rw[<-map_set]at m;have N:i7 lens (k+1)=(i7 lens k).set ((gO lens).getD k 0) (jQ lens k):=rfl;rw[<-N]at m;have p:=uD HF.o r;rw[<-HN.o]at t;have f:∀(h:0<k),jQ lens k=(jQ lens (k-1)+1)*2^(gI lens ((gO lens).getD k 0)-gI lens ((gO lens).getD (k-1) 0))/\gI lens ((gO lens).getD (k-1) 0)<=gI lens ((gO lens).getD k 0)/\0<gI lens ((gO lens).getD (k-1) 0):=λh=>by
   have h5:=BT (lens:=lens) (k:=k-1) (by omega);have e:k-1+1=k:=(by omega);rw[e]at h5;exact⟨h5,uV (by omega) r,(oV (k:=k-1) (by omega)).1⟩
  have D:k=0->jQ lens k=0:=λh=>by rw[h,BU]
  have⟨s,hs⟩:=zX ((gO lens).getD k 0);rw[<-hs]at S E T fw m aQ Q t p f N;have⟨L,hL⟩:=zX (gI lens s);rw[<-hL]at E aQ Q p f;have⟨wn,aH⟩:=zX (jQ lens k);rw[<-aH]at m p f D;have ah:gh ((k+1=0/\wn=0/\L=0)\/(0<k+1/\wn=jQ lens (k+1-1)/\L=gI lens ((gO lens).getD (k+1-1) 0))):=gd (.inr ⟨by omega,by rw[Nat.add_sub_cancel];exact aH,by rw[Nat.add_sub_cancel,<-hs];exact hL⟩);have bb:wr.cell? ⟨gr,a9+k,none⟩=some (.int .i64 s):=S;have ba:wr.cell? ⟨gl,ol+s,none⟩=some (.int .i64 L):=E;have bc:wr.cell? ⟨B,s,none⟩=some (.int .u64 ((i7 lens k).getD s 0:Nat)):=T;have aG:wn<16777216:=Nat.lt_of_lt_of_le p (Nat.le_trans (Nat.pow_le_pow_right (n:=2) (by decide) Q) (by decide));have z:gv (wr.setCell ⟨B,s,none⟩ (.int .u64 wn)) 72 (.slice B n n) B ((i7 lens (k+1)).map mZ):=m;have z:=gd z;generalize (i7 lens k).getD s 0=wo at *;have bd:(0:Int)<=(k:Int):=by omega
  have be:(k:Int)<(rl:Int):=by omega
  have bg:(0:Int)<=(s:Int):=by omega
  have bh:(s:Int)<(n:Int):=by omega
  have a4:gl≠B:=by
   obtain⟨b9,o9,a,a0,_⟩:=c.ex (by have:=HN.o;omega);rw[e7]at a;injection a with a;injection a with a _ _;omega
  subst e7;clear a8 Z aP aT aU m S E T hL aH hs N r p C an aR;by_cases hk0:k=0
  .rcases G.o with⟨a7,F,u⟩|⟨U,_⟩
   .clear a7
    subst F;subst u;have aI:=D hk0;subst aI;clear f D hk0;go_wp2_with fail
    go_roundg j
    .exact⟨k+1,0,L,by go_num,rfl,rfl,by omega,gd (by rcases ah.o with⟨h,_⟩|h;omega;exact .inr h),z.o,q.setCell (.inl (by simp)) _⟩
    .omega
   .omega
  .rcases G.o with⟨U,_⟩|⟨U,F,u⟩
   .omega
   .obtain⟨k1,k2,k3⟩:=f U
    rw[<-F,<-u]at k1;rw[<-u]at k2 k3;have⟨d,hd⟩:=zX (L-o);rw[<-hd]at k1;have bi:(L:Int)-(o:Int)=(d:Int):=(by omega);have a3:d<=24:=(by omega);have ap:((b:Int)+1)*(2:Int)^d=(wn:Int):=(by rw[k1];simp);have bn:IntKind.u64.wrap (((b:Int)+1)*(2:Int)^d)=(wn:Int):=(by rw[ap];exact IntWalk.u64_in _ (by omega));have bo:b+1<=16777216:=by
     have:b+1<=wn:=by rw[k1];exact Nat.le_mul_of_pos_right _ (Nat.two_pow_pos _)
     omega
    clear k1 F u hd f D G k2 hk0;go_wp2_with fail
    go_roundg j
    .exact⟨k+1,wn,L,by go_num,rfl,rfl,by omega,ah,z.o,q.setCell (.inl (by simp)) _⟩
    .omega
theorem KV:gT []=[]:=by simp[gT]
theorem J3(n:Nat)(S:List El)(t:El):kI (t.syms.take t.syms.length) (i9 n S)=i9 n (S++[t]):=by rw[zN,Jb]
theorem J5{t:El}{k:Nat}(h:k<t.syms.length):kI (t.syms.take (k+1)) l=(kI (t.syms.take k) l).set t.syms[k] ((kI (t.syms.take k) l).getD t.syms[k] 0+1):=by
 have e:t.syms.take (k+1)=t.syms.take k++[t.syms[k]]:=by rw[take_succ_eq_append_getElem h]
 rw[e,J4]
theorem zh{n:Nat}:∀ {e:El},e.symsIn n->∀s∈e.syms,s<n
 | .coin t w,h,s,hs=>by rw[zU.1 hs];exact h
 | .pack a b,h,s,hs=>by
  rcases zP.1 hs with c|c
  .exact zh h.1 s c
  .exact zh h.2 s c
theorem Nr(S:List El)(t:El)(k:Nat)(a:s<n):(kI (t.syms.take k) (i9 n S)).getD s 0<=it s (S++[t]):=by
 rw[xO _ _ (by rw[nf];exact a),sj S a,sl];have b:(t.syms.take k).count s<=t.syms.count s:=(List.take_sublist k _).count_le s;rw[El.count_syms]at b;have e:it s [t]=t.occ s:=by simp[it]
 omega
theorem Dj(lens:List Nat)(A:Option Addr)(cap:Nat)(w:World)(d:lL lens)(L:gu i64 w A lens):Calls prog 168 #[.slice A lens.length cap] w λe w'=>e=.returned (.bool true)/\w=w':=by
 have F:=yC d;have J:=d.n1;have K:=d.n2;have z:=Mm d (CV d);have C:=d.le;have⟨n,hn⟩:=zX lens.length;rw[<-hn]at J K⊢;have⟨HN,ak,aq,HK⟩:=gz hn z C F;clear hn z C d F;have t1:=gL n 1 (by omega);have t2:=gL 1024 n (by omega);go_enter func168,ntmps168;go_wp2_with fail
 go_loopg [3,4,5,6,7] n (λj vs vu vo iv v7 wr=>∃(i u o s:Nat),iv=.int .i64 i/\vu=.int .i64 u/\vo=.int .i64 o/\vs=.int .i64 s/\i+j=n/\gh (u=kp (lens.take i))/\gh (o=qJ (lens.take i))/\gh (s=kH (lens.take i))/\u<=i/\o<=i/\s<=16777216/\w=wr)
 .exact⟨0,0,0,0,rfl,rfl,rfl,rfl,by omega,gd rfl,gd rfl,gd rfl,by omega,by omega,by omega,rfl⟩
 obtain⟨i,u,o,s,rfl,rfl,rfl,rfl,Z,q,t,v,hu,ho,N,rfl⟩:=hrel;rcases gk with _|j
 .obtain rfl:i=n:=by omega
  have ad:lens.take i=lens:=by rw[HN.o,zN]
  rcases ak.o with⟨h,k⟩|⟨h,k⟩
  .have p:u=1:=by rw[q.o,ad];exact h
   have r:o=1:=(by rw[t.o,ad];exact k);subst p;subst r;clear h k ad;go_wp2;go_ret;exact⟨rfl,rfl⟩
  .have p:1<u:=by rw[q.o,ad];exact h
   have r:s=16777216:=(by rw[v.o,ad];exact k);have O:((u:Int)==1)=false:=(by rw[beq_eq_false_iff_ne];omega);have Q:=i6 1 u (by omega);have R:decide (1<u)=true:=zB p;subst r;clear h k ad p;go_wp2;go_ret;exact⟨rfl,rfl⟩
 .have I:i<n:=by omega
  have m:i<lens.length:=by rw[<-HN.o];exact I
  obtain⟨g,o',rfl,G⟩:=oF L m;have H:=aq.o lens[i] (zG m);have E:=jd lens m;have c:=CE (lens.take i) lens[i];have a:=Jk (lens.take i) lens[i];have b:=Cg (lens.take i) lens[i];have B:=Ch lens (i+1);rw[<-E]at c a b;rw[<-q.o]at c;rw[<-t.o]at a;rw[<-v.o]at b;have⟨x,hx⟩:=zX (lens[i]);rw[<-hx]at G H c a b;have X:(0:Int)<=(i:Int):=by omega
  have Y:(i:Int)<(n:Int):=by omega
  have O:=gL x 0 (by omega);have Q:=gL 24 x (by omega);have V:decide (24<x)=false:=zA (by omega);clear E hx m;by_cases hx0:0<x
  .have R:=i6 0 x (by omega)
   rw[if_pos hx0]at c;rw[if_neg (by omega)]at b;have⟨y,hy⟩:=zX (24-x);have T:(24:Int)-(x:Int)=(y:Int):=(by omega);have U:IntKind.u64.wrap (y:Int)=(y:Int):=IntWalk.u64_in _ (by omega);rw[<-hy]at b;have M:(2:Nat)^y<=16777216:=Nat.le_trans (Nat.pow_le_pow_right (n:=2) (by decide) (show y<=24 by omega)) (by decide);have⟨P,hP⟩:=zX (2^y);have W:(2:Int)^y=(P:Int):=(by rw[hP];simp);rw[<-hP]at b M;have D:s+P<=16777216:=(by have:=HK.o;omega);have⟨ai,ah⟩:=gy c b;clear c b B hP hy;by_cases hx1:x=1
   .rw[if_pos hx1]at a
    have S:((x:Int)==1)=true:=(by rw[beq_iff_eq];omega);have f:=gd a;clear a hx1;go_wp2_with fail
    go_roundg j
    .exact⟨i+1,u+1,o+1,s+P,by go_num,by go_num,by go_num,by go_num,by omega,gd ai.o.symm,gd f.o.symm,gd ah.o.symm,by omega,by omega,D,rfl⟩
    .omega
   .rw[if_neg hx1]at a
    have S:((x:Int)==1)=false:=(by rw[beq_eq_false_iff_ne];omega);have f:=gd a;clear a;go_wp2_with fail
    go_roundg j
    .exact⟨i+1,u+1,o,s+P,by go_num,by go_num,rfl,by go_num,by omega,gd ai.o.symm,gd f.o.symm,gd ah.o.symm,by omega,by omega,D,rfl⟩
    .omega
  .obtain rfl:x=0:=by omega
   rw[if_neg hx0]at c;rw[if_neg (by omega)]at a;rw[if_pos rfl]at b;have⟨ai,f,ah⟩:=gS c a b;clear c a b B;go_wp2_with fail
   go_roundg j
   .exact⟨i+1,u,o,s,by go_num,rfl,rfl,rfl,by omega,gd ai.o.symm,gd f.o.symm,gd ah.o.symm,by omega,by omega,N,rfl⟩
   .omega
theorem JH(lens:List Nat)(A:Option Addr)(cap:Nat)(w:World)(P:lens.length<=1024)(O:gu i64 w A lens):Calls prog 236 #[.slice A lens.length cap] w λe D=>∃v F,e=.returned v/\gE D 3 v F ((gO lens).map i64)/\gf [] w D/\∀x∈F,w.heap.size<=x:=by
 have⟨n,hn⟩:=zX lens.length;rw[<-hn]at P⊢;have d:=gd hn;clear hn;go_enter func236,ntmps236;go_wp2_with fail
 go_loopg [3,4,5] 24 (λj vo vn v5 wr=>∃(m:Nat) (F:List Nat),vn=.int .i64 (m+1:Nat)/\m+j=24/\gE wr 3 vo F ((jP lens m).map i64)/\(∀x∈F,w.heap.size<=x)/\gf [] w wr)
 .exact⟨0,[],rfl,rfl,gE.nil _ _,by simp,zR _ _⟩
 obtain⟨m,F,rfl,V,a,hF,b⟩:=hrel;rcases gk with _|S
 .obtain rfl:m=24:=by omega
  go_wp2;obtain⟨E,N,rfl,_⟩:=a.oq;go_ret;exact⟨_,rfl,F,a,b,hF⟩
 .have⟨q,hq⟩:=zX (m+1)
  rw[<-hq];have t1:=iI q 24 (by omega);have G:=gd hq;have aw:q<=24:=by omega
  have h:=so lens m;rw[<-hq,<-d.o]at h;have k:=gd h;have M:=uL lens m;rw[<-d.o]at M;clear hq h;go_wp2_with fail
  go_loopg [3,5] n (λj vo iv wr=>∃(i:Nat) (F:List Nat),iv=.int .i64 i/\i+j=n/\gE wr 3 vo F ((jP lens m++kb lens q i).map i64)/\(kb lens q i).length<=i/\(∀x∈F,w.heap.size<=x)/\gf [] w wr)
  .exact⟨0,F,rfl,by omega,by simpa[kb]using a,by simp[kb],hF,b⟩
  clear a hF b;obtain⟨i,F,rfl,U,a,T,hF,b⟩:=hrel;obtain⟨E,N,rfl,Y,Z,_⟩:=a.oq;rcases gk with _|j
  .obtain rfl:i=n:=by omega
   rw[<-k.o]at a;have K:(jP lens m++kb lens q i).length=(jP lens q).length:=(by rw[k.o]);rw[K];go_wp2_with fail
   go_roundg S
   .refine⟨q,F,by go_num,by have:=G.o;omega,a,hF,b⟩
   .omega
  .have L:i<n:=by omega
   have f:i<lens.length:=(by rw[<-d.o];exact L);obtain⟨g,o,rfl,H⟩:=oF (O.Y b) f;have c:=AH lens q i;have t:gI lens i=lens[i]:=(by simp[gI,zD,f]);rw[t]at c;have⟨x,hx⟩:=zX (lens[i]);rw[<-hx]at H c;have ay:(0:Int)<=(i:Int):=(by omega);have az:(i:Int)<(n:Int):=(by omega);clear t hx f;by_cases hxq:x=q
   .subst hxq
    rw[if_pos rfl]at c;have ad:=gd c;have⟨r,hr⟩:=zX ((jP lens m++kb lens x i).length);have W:r<=2048:=(by rw[hr,zC];omega);have z:((jP lens m++kb lens x i).map i64).length=r:=(by rw[zE];exact hr.symm);rw[<-hr]at a⊢;have I:=a.alloc (.cells #[i] 3);have Q:(wr.alloc (.cells #[i] 3)).cell? ⟨wr.heap.size,0,none⟩=some (.int .i64 i):=(by simp);have⟨al,HF⟩:=gy z hF;have J:gh (gf [] w (wr.alloc (.cells #[i] 3))):=gd (b.alloc _);clear c hr z hF
    go_wp2_with(at_builtin;refine jT rfl rfl iJ rfl rfl I (.int .i64 i) rfl Q rfl ?c1 ?c2 ?_)
    case c1=>rw[al.o];omega
    case c2=>rw[al.o];omega
    intro B X w5 u p;go_wp2_with fail
    go_roundg j
    .refine⟨i+1,[B],by go_num,by omega,?_,?_,?_,J.o.trans p.Z (λx hx=>.inr (HF.o x hx))⟩
     .have e:(jP lens m++kb lens x (i+1)).map i64=(jP lens m++kb lens x i).map i64++[.int .i64 i]:=by
       rw[ad.o,<-zH,zM];rfl
      rw[e];simp only[zM,zH]at u⊢;exact u.S
     .rw[ad.o,zC,length_singleton];omega
     .intro y R
      rw[zU.1 R];rcases p.new B (by simp)with C|C
      .exact HF.o _ C
      .have:=b.size
       have e:(wr.alloc (.cells #[i] 3)).heap.size=wr.heap.size+1:=(by simp);omega
    .omega
   .have t2:((x:Int)==(q:Int))=false:=by rw[beq_eq_false_iff_ne];omega
    rw[if_neg hxq,append_nil]at c;have ad:=gd c;clear c;go_wp2_with fail
    go_roundg j
    .exact⟨i+1,F,by go_num,by omega,by rw[ad.o];exact a,by rw[ad.o];omega,hF,b⟩
    .omega
theorem K6(lens:List Nat)(A:Option Addr)(cap:Nat)(w:World)(h:lL lens)(c:gu i64 w A lens):Calls prog 169 #[.slice A lens.length cap] w λe w'=>∃v g,e=.returned (.tuple #[v,(0:Int)])/\gv w' 72 v g ((nY lens).map mZ)/\gf [] w w'/\w.heap.size<=g:=by
 have E:=Dj lens A cap w h c;have a7:=h.n1;have aQ:=h.n2;have H:=λw c=>JH lens A cap w aQ c;have I:=uL lens 24;have a9:=M7 h;have⟨n,hn⟩:=zX lens.length;have bo:=lp (P:=prog) EP rfl .i64 .i64 n (by omega) (by omega);rw[<-hn]at a7 aQ E H I⊢;have⟨HN,HF,aX⟩:=gS hn h H;clear hn h H;have aU:=nc lens;rw[<-HN.o]at aU;clear aU;go_enter func169,ntmps169;go_wp2_with fail;refine gx E ?_;have⟨w1,aq⟩:=zX (w.alloc (.cells (Array.replicate n (Value.int .u64 0)) 72));have⟨B,hB⟩:=zX w.heap.size;have J:gv w1 72 (.slice B n n) B ((i7 lens 0).map mZ):=by
  have:=gv.made w 72 (replicate n (Value.int .u64 0)) (by simp[maxLen];omega)
  rw[aq,hB];have e:(i7 lens 0).map mZ=replicate n (Value.int .u64 0):=by
   unfold i7;rw[map_replicate,<-HN.o];rfl
  rw[e]
  simpa using this
 have M:=jD aq;have al:=aX.o w1 (c.Y M);have⟨aY,HB⟩:=gy aq hB;clear aq hB E;go_wp2_with fail;rw[<-aY.o,<-HB.o];refine al.mono ?_;rintro e w2 ⟨vr,Fr,rfl,N,X,Z⟩;obtain⟨Ar,cr,rfl,aA,a2,a1⟩:=N.oq;have am:=J.Z X (by simp);have ai:=M.tq X;have⟨rl,ac⟩:=zX ((gO lens).length);have a8:rl<=n:=by rw[ac];exact I
 rw[<-ac]at aA a9⊢;have W:=gd ac;have Y:w.heap.size<=B:=by have:=HB.o;omega
 have ax:∀x∈[B],x∉Fr:=λx hx hm=>by
  rw[zU.1 hx]at hm
  have:=Z _ hm
  have h6:=J.lt;omega
 have aw:gM Ar (gO lens) [B]:=N.apt (λx hx hm=>ax x hm hx);clear al J N M ac Z I;go_wp2_with fail
 go_loopg [6] (rl-1) (λj iv wr=>∃k:Nat,iv=.int .i64 ((k+1:Nat):Int)/\k+1+j=rl/\gv wr 72 (.slice B n n) B ((i7 lens (k+1)).map mZ)/\gf [B] w2 wr)
 .exact⟨0,rfl,by omega,by rw[II,<-HN.o];simpa[i7,<-HN.o]using am,zR _ _⟩
 clear am;obtain⟨k,rfl,aO,p,z⟩:=hrel;have⟨m,hm⟩:=zX (k+1);rw[<-hm]at aO p⊢;rcases gk with _|j
 .obtain rfl:m=rl:=by omega
  have e:nY lens=i7 lens m:=by unfold nY;rw[W.o]
  have aB:gf [] w wr:=ai.trans z (λx hx=>by rw[zU.1 hx];exact .inr Y);have HE:=gd e;clear e;go_wp2
  go_ret2
  refine⟨_,B,rfl,?_,aB,Y⟩;rw[HE.o];exact p
 .have G:m<(gO lens).length:=by rw[<-W.o];omega
  have F:k+1<(gO lens).length:=by omega
  have bp:m<rl:=by omega
  obtain⟨b,q2,q3,o,V⟩:=JZ HF.o F;have ca:=JY F;have r:=(oV G).2.2;have u:=(oV (show k<(gO lens).length by omega)).2.2;have aj:=a1.Q aw z;obtain⟨gr,aW,rfl,bn,Q⟩:=aj.ex (by omega);have T:=Q m ((gO lens).getD m 0) (by rw[zD,zF G];rfl);have O:=Q k ((gO lens).getD k 0) (by rw[zD,zF (by omega)];rfl);have aP:gu i64 wr A lens:=(c.Y ai).Q (λ_ ad e hm=>by
   obtain⟨b9,o9,a,a0,_⟩:=c.ex (by have:=HN.o;omega);rw[e]at a;injection a with a;subst a;simp at hm;omega) z
  obtain⟨U,ol,e7,bm,R⟩:=aP.ex (by rw[<-HN.o];omega);have D:=R ((gO lens).getD m 0) (gI lens ((gO lens).getD m 0)) (by unfold gI;rw[zD (l:=lens),zF r];rfl);have y:=R ((gO lens).getD k 0) (gI lens ((gO lens).getD k 0)) (by unfold gI;rw[zD (l:=lens),zF u];rfl);obtain⟨aZ,bb,_,_,K,aT⟩:=p.oq;have t:=K ((gO lens).getD k 0) ((i7 lens m).getD ((gO lens).getD k 0) 0) (by rw[zD (l:=i7 lens m),zF (by rw[nc];exact u)];rfl);rw[hm,ca]at t;have fw:=aT ((gO lens).getD m 0);have S:=K ((gO lens).getD m 0) ((i7 lens m).getD ((gO lens).getD m 0) 0) (by rw[zD (l:=i7 lens m),zF (by rw[nc];exact r)];rfl);have f:=λq=>(p.drewN q).T (i:=(gO lens).getD m 0) (by rw[zE,nc];exact r) (mZ (jQ lens m));have C:i7 lens (m+1)=(i7 lens m).set ((gO lens).getD m 0) (jQ lens m):=rfl;have f:=λq=>(show gv ((wr.drewN q).setCell ⟨B,(gO lens).getD m 0,none⟩ (mZ (jQ lens m))) 72 (.slice B n n) B ((i7 lens (m+1)).map mZ)from by have:=f q;rw[<-map_set,<-C]at this;exact this);rw[<-hm]at b q2 o V;rw[<-HN.o]at r u;have⟨s,hs⟩:=zX ((gO lens).getD m 0);have⟨s',aR⟩:=zX ((gO lens).getD k 0);rw[<-hs]at T D fw S f C r b o V;rw[<-aR]at O y t u b o;have⟨L,hL⟩:=zX (gI lens s);have⟨L',aN⟩:=zX (gI lens s');rw[<-hL]at D b o V;rw[<-aN]at y b o;have⟨wd,aS⟩:=zX (jQ lens k);have⟨wn,aV⟩:=zX (jQ lens m);rw[<-aS]at t b q3;rw[<-aV]at f C b q2;have⟨d,hd⟩:=zX (L-L');rw[<-hd]at b;have bk:(L:Int)-(L':Int)=(d:Int):=by omega
  have a3:d<=24:=by omega
  have bl:IntKind.u64.wrap (d:Int)=(d:Int):=IntWalk.u64_in _ (by omega);have ak:((wd:Int)+1)*(2:Int)^d=(wn:Int):=by rw[<-b];simp
  have bq:IntKind.u64.wrap (((wd:Int)+1)*(2:Int)^d)=(wn:Int):=by rw[ak];exact IntWalk.u64_in _ (by omega)
  have a6:(m:Int)-1=(k:Int):=by omega
  have a4:U≠B:=by
   obtain⟨b9,o9,a,a0,_⟩:=c.ex (by have:=HN.o;omega);rw[e7]at a;injection a with a;injection a with a _ _;omega
  subst e7;have c1:wr.cell? ⟨gr,aW+m,none⟩=some (.int .i64 s):=T;have c2:wr.cell? ⟨gr,aW+k,none⟩=some (.int .i64 s'):=O;have c3:wr.cell? ⟨U,ol+s,none⟩=some (.int .i64 L):=D;have c4:wr.cell? ⟨U,ol+s',none⟩=some (.int .i64 L'):=y;have c5:wr.cell? ⟨B,s',none⟩=some (.int .u64 wd):=t;generalize (i7 lens m).getD s 0=wo at *;have c6:wr.cell? ⟨B,s,none⟩=some (.int .u64 wo):=S;have af:∀q,gv ((wr.drewN q).setCell ⟨B,s,none⟩ (.int .u64 wn)) 72 (.slice B n n) B ((i7 lens (m+1)).map mZ):=f;have au:=gd af;have bc:(0:Int)<=(m:Int):=by omega
  have bd:(m:Int)<(rl:Int):=by omega
  have be:(0:Int)<=(s:Int):=by omega
  have bf:(s:Int)<(n:Int):=by omega
  have bg:(0:Int)<=(s':Int):=by omega
  have bh:(s':Int)<(n:Int):=by omega
  have bi:(0:Int)<=(k:Int):=by omega
  have bj:(k:Int)<(rl:Int):=by omega
  have a5:m+j+1=rl:=by omega
  clear S bb Q R K aT f af T O D y t hL aN aS aV hs aR C G F p aj aP b o hd ca hm aO;go_wp2_with fail;refine jE 33 (by kernel_rfl) (by kernel_rfl) ?_;simp only[take_succ_cons,take_zero,drop_succ_cons,drop_zero]
  repeat(go_big_quiet_step (fail))
  refine wpQuiet_nil ?_;intro _ ba;obtain⟨nq,rfl⟩:=ba;go_wp2_with fail
  go_roundg j
  .exact⟨m,by go_num,by omega,au.o nq,(z.drewN nq).setCell (.inl (by simp)) _⟩
  .omega
end Go.Proofs.YtnepiccbpokmiaaGreatDoor
