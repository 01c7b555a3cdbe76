/- Lemmas. -/
import Derived.Test.YtifdlkoepaepiaaGreatDoorMg34
import Derived.Deep.RegionHeld3
set_option linter.all false
set_option maxHeartbeats 4000000
set_option maxRecDepth 100000
namespace Go.Proofs.YtifdlkoepaepiaaGreatDoor
open Tryz List Nat Go.RowKit
variable {l:List Nat}{i n s:Nat}
theorem Dc(a b:El):∀l:List El,l.length%2=0->io (l++[a,b])=io l++[.pack a b]
 | [],_=>rfl
 | [_],h=>by simp at h
 | x::y::l,h=>by
  have:=Dc a b l (by simp at h;omega)
  simp only[cons_append,io,this]
theorem IY(l:List El)(q:Nat)(h:2*q+1<l.length):io (l.take (2*q+2))=io (l.take (2*q))++[.pack l[2*q] l[2*q+1]]:=by
 have a:l.take (2*q+2)=l.take (2*q)++[l[2*q],l[2*q+1]]:=by
  rw[jD l h,jD l (by omega),zH];rfl
 rw[a,Dc _ _ _ (by rw[zI];omega)]
theorem Jc(l:List El){q:Nat}(d:2*q<=l.length)(f:l.length<=2*q+1):io (l.take (2*q))=io l:=by
 by_cases h:l.length=2*q
 .rw[<-h,zN]
 .have g:l.length=2*q+1:=by omega
  have e:l=l.take (2*q)++[l[2*q]'(by omega)]:=by
   rw[<-jD l (by omega),zT (by omega)]
  have c:∀(m:List El) (a:El),m.length%2=0->io (m++[a])=io m:=by
   intro m a
   induction m using io.induct with
   | case1 x y m im =>
    intro b;simp only[cons_append,io];rw[im (by simp at b;omega)]
   | case2 m hm0 =>
    intro b
    cases m with
    | nil=>rfl
    | cons x m =>
     cases m with
     | nil=>simp at b
     | cons y m=>exact absurd rfl (hm0 x y m)
  conv=>rhs;rw[e]
  rw[c _ _ (by rw[zI];omega)]
theorem AY:jx prog 272 273 (.pointer none) 1 8:=.mk' underlying272 (by kernel_rfl)
theorem ND(l:List PE):∀u∈l.map kB,u.oneCell'=true:=by
 intro u a;obtain⟨p,_,rfl⟩:=List.mem_map.1 a;rfl
theorem O5(P:Nat->Prop)(w:World)(hP:∀x,w.heap.size<=x->P x)(AC AR:Option Addr)(cC cR:Nat)(C R:List PE)(h2:2<=C.length)(hCl:C.length<=1024)(hRl:R.length<=4096)(N:gz kB w AC C)(O:gz kB w AR R)(L:kW P w C)(M:kW P w R)(S:∀p∈R,p.2.wt<=1125899906842624):Calls prog 232 #[.slice AC C.length cC,.slice AR R.length cR] w λe j=>∃v g E',e=.returned v/\gv j 273 v g (E'.map kB)/\E'.map (·.2)=qg (C.map (·.2)++io (R.map (·.2)))/\kW P j E'/\gg [] w j/\w.heap.size<=g:=by
 have⟨n,hn⟩:=zX R.length;have⟨c,hc⟩:=zX C.length;rw[<-hn]at hRl⊢;rw[<-hc]at h2 hCl⊢;have⟨HN,HC,aS,aP⟩:=gu hn hc S L;have⟨aR,aQ⟩:=gy hP M;clear hn hc S L M hP;have ar:gz (λu=>u) w AC (C.map kB):=⟨λh0=>by
  obtain⟨b,o,E,e2,e3⟩:=N.ex (by simpa using h0);exact⟨b,o,E,e2,λi a ha=>by
   rw[zW]at ha
   cases hC:C[i]? with
   | none=>rw[hC]at ha;cases ha
   | some p=>rw[hC]at ha;injection ha with ha;rw[<-ha];exact e3 i p hC⟩⟩
 go_enter func232,ntmps232
 go_wp2_with(at_builtin;refine ns rfl rfl AY rfl rfl (gK.nil w 273) (C.map kB) c rfl ?c1 ?c2 ?c3 ?c4 ?c5 ?_)
 case c1=>rw[zE];exact HC.o
 case c2=>exact ar
 case c3=>exact ND _
 case c4=>rw[zE,<-HC.o];simp;omega
 case c5=>rw[zE,<-HC.o];simp;omega
 intro v1 F1 w1 h1 h3;have am:=h1.cases;rcases am with⟨_,aJ,_⟩|⟨g1,av,rfl⟩
 .exfalso
  have:=congrArg length aJ
  rw[zE,<-HC.o]at this;simp at this;omega
 have aW:w.heap.size<=g1:=by
  rcases h3.new g1 (by simp)with h|h
  .simp at h
  .exact h
 have aT:gg [] w w1:=h3.Z;clear h1 h3 ar N;have⟨T,hT⟩:=zX (R.map (·.2));have aV:T.length=n:=by rw[hT,zE,HN.o]
 have⟨HT,az⟩:=gy hT aV;clear hT aV;go_wp2
 go_loopg [5,6] n (λk vo vi' wr=>∃(q:Nat) (Q:List PE) (d:Nat),vi'=.int .i64 ((2*q:Nat):Int)/\2*q<=n/\n<=2*q+k/\gv wr 273 vo d ((C++Q).map kB)/\gh (Q.map (·.2)=io (T.take (2*q)))/\Q.length=q/\kW (λx=>x≠d/\P x) wr Q/\w.heap.size<=d/\gg [] w wr)
 .exact⟨0,[],g1,rfl,by omega,by omega,by rw[append_nil];exact av,gd (by simp[io]),rfl,by intro p y;simp at y,aW,aT⟩
 clear av aT aW;obtain⟨q,Q,d,rfl,aL,bm,W,HQ,aC,I,aG,t⟩:=hrel;obtain⟨bd,rfl,al,aE,_,_⟩:=W.T;have X:(C++Q).length=c+q:=by rw[zC,<-HC.o,aC]
 rw[X]at al⊢;by_cases hend:n<=2*q+1
 .have t1:decide (((2*q:Nat):Int)+1<(n:Int))=false:=zA (by omega)
  have aZ:=FD wr _ d (C++Q) (by omega) (by omega) W (by
   intro p y;rcases zP.1 y with f|f
   .exact((aP.o p f).imp (Q:=λx=>x≠d) λx hx _=>by omega).Y t
   .exact(I p f).imp λx _ h=>h.1)
  rw[X]at aZ;have bh:gh (kW (λx=>x≠d/\P x) wr (C++Q)):=gd (by
   intro p y;rcases zP.1 y with f|f
   .exact((aP.o p f).imp (Q:=λx=>x≠d/\P x) λx hx h=>⟨by omega,h⟩).Y t
   .exact I p f)
  clear I;go_wp2_with fail;refine aZ.mono ?_;rintro e w2 ⟨rfl,k3,k4⟩;have z:=DW (λp:PE=>p.2) (C++Q) ((C++Q).headD default);have k0:=EK (λp:PE=>p.2) (C++Q) ((C++Q).headD default);have⟨E',aU⟩:=zX (qP (λp:PE=>p.2) (C++Q) ((C++Q).headD default));rw[<-aU]at k0 z k3;have⟨K0,K1⟩:=gy k0 z;clear k0 z aU;go_wp2;go_ret;refine⟨_,d,E',rfl,k3,?_,?_,t.trans k4 (λx hx=>by rw[zU.1 hx];exact .inr aG),aG⟩
  .have E:=K0.o
   rw[zM,HQ.o,Jc T (by rw[az.o];exact aL) (by rw[az.o];exact hend),HT.o]at E;exact E
  .intro p y
   have f:=bh.o p (K1.o.mem_iff.1 y);exact(f.Z k4 (λx hx=>by rw[zU.1 hx];simp)).imp λ_ _ h=>h.2
 .rcases gk with _|gk
  .omega
  .have t1:decide (((2*q:Nat):Int)+1<(n:Int))=true:=zB (by omega)
   have aD:2*q+1<R.length:=(by rw[<-HN.o];omega);have ak:=O.Y t;obtain⟨B,D,rfl,aX,aF⟩:=ak.ex (by omega);have p1:=aF (2*q) _ (zF (by omega));have p2:=aF (2*q+1) _ (zF aD);have m1:R[2*q]∈R:=zG _;have m2:R[2*q+1]∈R:=zG _;have Z:io (T.take (2*(q+1)))=io (T.take (2*q))++[.pack R[2*q].2 R[2*q+1].2]:=by
    have:=IY T q (by rw[az.o];omega)
    rw[show 2*(q+1)=2*q+2 by omega,this]
    congr 3<;>simp[HT.o]
   have a1:=aS.o _ m1;have a2:=aS.o _ m2;have F:=aQ.o _ m1;have G:=aQ.o _ m2;generalize R[2*q]=x1 at *;generalize R[2*q+1]=x2 at *;obtain⟨m,ad⟩:=x1;obtain⟨r,A⟩:=x2;simp only at a1 a2 F G Z;have c1:=(F.Y t).head.2.2;have c2:=(G.Y t).head.2.2;have a0:wr.cell? ⟨B,D+2*q,none⟩=some (.pointer m):=p1;have aN:wr.cell? ⟨B,D+(2*q+1),none⟩=some (.pointer r):=p2;have⟨i,hi⟩:=zX (2*q);rw[<-hi]at a0 aN t1 aL bm hend aD Z⊢;have⟨a9,HI,a3,a4⟩:=gu Z hi F G;have⟨a6,aO⟩:=gy I t;have br:(0:Int)<=(i:Int):=(by omega);have bs:(i:Int)<(n:Int):=(by omega);have⟨i1,aY⟩:=zX (i+1);have bu:(i1:Int)<(n:Int):=(by omega);have bv:(0:Int)<=(i1:Int):=(by omega);have bi:(i:Int)+1=(i1:Int):=(by omega);have bj:IntKind.i64.wrap (i1:Int)=(i1:Int):=IntWalk.i64_in _ (by omega);have bw:IntKind.i64.wrap ((i:Int)+1)=(i1:Int):=(by rw[bi];exact bj);rw[<-aY]at aN;clear aY;have au:IntKind.i64.wrap (((ad.wt:Nat):Int)+((A.wt:Nat):Int))=((ad.wt+A.wt:Nat):Int):=by
    have e:((ad.wt:Nat):Int)+((A.wt:Nat):Int)=((ad.wt+A.wt:Nat):Int):=(by simp);rw[e];exact IntWalk.i64_in _ (by omega)
   have hS:∀j,gg [d] wr j->j.cell? ⟨B,D+i,none⟩=some (.pointer m)/\j.cell? ⟨B,D+i1,none⟩=some (.pointer r)/\j.cell? m=some (.int .i64 ad.wt)/\j.cell? r=some (.int .i64 A.wt):=by
    intro j Y;obtain⟨bq,bA,e',bl,_⟩:=O.ex (by omega);injection e' with e';injection e' with E e2 _;subst E;have q1:=F.head.2.1;have q2:=G.head.2.1
    exact⟨(World.cell?_of_block (w:=wr) (Y.block B aX (by simp;omega))).trans a0,(World.cell?_of_block (w:=wr) (Y.block B aX (by simp;omega))).trans aN,
     (World.cell?_of_block (w:=wr) (Y.block m (Nat.lt_of_lt_of_le q1 t.size) (by simp;omega))).trans c1,(World.cell?_of_block (w:=wr) (Y.block r (Nat.lt_of_lt_of_le q2 t.size) (by simp;omega))).trans c2⟩
   have⟨z,aH⟩:=zX ad.wt;have⟨k2,aI⟩:=zX A.wt;rw[<-aH]at c1 a1 au hS;rw[<-aI]at c2 a2 au hS;have⟨a7,a8,bc,HS⟩:=gu aH aI aC hS;have aK:=W.R;have bk:=W.lt;have bx:((C++Q).map kB).length<=8192:=(by rw[zE,X];omega);clear aF p1 p2 m1 m2 Z F G I ak hi aC hS aH aI;have ba:gh (i+1<n):=gd (by omega);clear aL hend aD;have⟨wx,aM⟩:=zX ((((wr.alloc (.cells #[.pointer m,.pointer r] 273)).alloc (.cells #[.int .i64 ((z:Int)+(k2:Int)),(0:Int),.slice (some ⟨wr.heap.size,0,none⟩) 2 2] 275)).alloc (.cells #[.pointer (some ⟨wr.heap.size+1,0,none⟩)] 273)).drew);have V:gg [] wr wx:=(by rw[aM];exact(((((zR [] wr).alloc _).alloc _).alloc _).drew));have aq:=aK.Y V;rw[X]at aq;have bo:wx.cell? ⟨wr.heap.size+2,0,none⟩=some (.pointer (some ⟨wr.heap.size+1,0,none⟩)):=by
    rw[aM]
    have:=(gn.new ((wr.alloc (.cells #[.pointer m,.pointer r] 273)).alloc (.cells #[.int .i64 ((z:Int)+(k2:Int)),(0:Int),.slice (some ⟨wr.heap.size,0,none⟩) 2 2] 275)) 273 #[.pointer (some ⟨wr.heap.size+1,0,none⟩)]).X 0
    simpa using this
   have U:=gd aM;have a5:gh (gg [d] wr wx):=gd (V.mono (by simp));go_wp2
   go_region_held3 (λj=>j.cell? ⟨B,D+i,none⟩=some (.pointer m)/\j.cell? ⟨B,D+i1,none⟩=some (.pointer r)/\j.cell? m=some (.int .i64 z)/\j.cell? r=some (.int .i64 k2)) (first|(go_keep;done)|exact HS.o _ ((zR [d] wr).alloc _)|exact HS.o _ (((zR [d] wr).alloc _).alloc _)|exact HS.o _ ((((zR [d] wr).alloc _).alloc _).alloc _)|exact HS.o _ (((((zR [d] wr).alloc _).alloc _).alloc _).drew)|exact HS.o _ (a5.o.tq (gE.Z (by assumption))))
    (first|(rw[<-U.o];refine rL (by rfl) (by rfl) AY (by rfl) (by rfl) aq (.pointer (some ⟨wr.heap.size+1,0,none⟩)) (by rfl) bo (by rfl) (by omega) (by omega) ?_;intro g2 be w5 bn H))
   go_wp2_with fail
   go_roundg gk
   .have bp:wx.heap.size=wr.heap.size+3:=by rw[U.o];simp
    have J:g2=d\/wr.heap.size+3<=g2:=by
     rcases H.new g2 (by simp)with f|f
     .exact .inl (by simpa using f)
     .exact .inr (by omega)
    have bf:gn wx wr.heap.size 273 #[.pointer m,.pointer r]:=by
     rw[U.o];exact(((gn.new wr _ _).alloc _).alloc _).drew
    have bg:gn wx (wr.heap.size+1) 275 #[.int .i64 ((z:Int)+(k2:Int)),(0:Int),.slice (some ⟨wr.heap.size,0,none⟩) 2 2]:=by
     rw[U.o]
     have:=gn.new (wr.alloc (.cells #[.pointer m,.pointer r] 273)) 275 #[.int .i64 ((z:Int)+(k2:Int)),(0:Int),.slice (some ⟨wr.heap.size,0,none⟩) 2 2]
     have e:(wr.alloc (.cells #[.pointer m,.pointer r] 273)).heap.size=wr.heap.size+1:=(by simp);rw[e]at this;exact(this.alloc _).drew
    have aA:=bf.Z H.Z (by simp;omega);have aB:=bg.Z H.Z (by simp;omega);have an:gg [] w w5:=(aO.o.tq V).trans H.Z (λx hx=>by rw[zU.1 hx];exact .inr aG);have bz:=aO.o.size;have ap:∀(e:El) (bb:Nat),mA P w e bb->mA (λx=>x≠g2/\P x) w5 e bb:=λe bb h=>(h.imp (Q:=λx=>x≠g2/\P x) λx hx h9=>⟨by rcases J with rfl|K<;>omega,h9⟩).Y an;refine⟨q+1,Q++[(wr.heap.size+1,.pack ad A)],g2,?_,?_,?_,?_,gd ?_,?_,?_,?_,an⟩
    .have e:((2*(q+1):Nat):Int)=(i:Int)+2:=by have:=HI.o;omega
     rw[e]
    .have:=HI.o;have:=ba.o;omega
    .have:=HI.o;omega
    .have e:(C++(Q++[(wr.heap.size+1,El.pack ad A)])).map kB=(C++Q).map kB++[.pointer (some ⟨wr.heap.size+1,0,none⟩)]:=by
      rw[<-zH,zM];rfl
     rw[e];have e2:((C++Q).map kB).length+1=C.length+Q.length+1:=(by simp);rw[<-e2];exact bn
    .rw[zM,HQ.o,a9.o,HI.o];rfl
    .rw[zC,bc.o];rfl
    .intro p y
     rcases zP.1 y with f|f
     .have K:=((a6.o p f).Y V).imp (Q:=λx=>x≠d/\x≠g2/\P x) λx hx h7=>⟨h7.1,by rcases J with rfl|h8;exact h7.1;omega,h7.2⟩
      exact(K.Z H.Z (λx hx=>by rw[zU.1 hx];simp)).imp λ_ _ h=>h.2
     .rw[zU.1 f]
      refine⟨wr.heap.size,m,r,?_,?_,?_,aA,ap _ _ a3.o,ap _ _ a4.o⟩
      .exact⟨by rcases J with rfl|K<;>omega,aR.o _ (by omega)⟩
      .exact⟨by rcases J with rfl|K<;>omega,aR.o _ (by omega)⟩
      .rw[<-a7.o,<-a8.o,Int.natCast_add]
       exact aB
    .rcases J with rfl|K<;>omega
   .omega
def lF (t:El) (l:List Nat):List Nat:=l.mapIdx λs x=>x+t.occ s
def El.symsIn (n:Nat):El->Prop
 | .coin s _=>s<n
 | .pack a b=>a.symsIn n/\b.symsIn n
theorem Dt(t:El)(l:List Nat):(lF t l).length=l.length:=by simp[lF]
theorem Kc(t:El)(l:List Nat)(h:s<l.length):(lF t l).getD s 0=l.getD s 0+t.occ s:=by
 simp[lF,zD,h]
theorem Kd(a b:El)(l:List Nat):lF b (lF a l)=lF (.pack a b) l:=by
 unfold lF;rw[mapIdx_mapIdx]
 congr 1
 funext s x
 show x+a.occ s+b.occ s=x+(a.occ s+b.occ s);omega
theorem Kb(s k:Nat)(l:List Nat)(h:s<l.length):lF (.coin s k) l=l.set s (l.getD s 0+1):=by
 apply ext_getElem?;intro i;unfold lF;rw[getElem?_mapIdx,getElem?_set];by_cases hi:s=i
 .subst hi
  rw[if_pos rfl,if_pos h,zD,zF h];simp[El.occ]
 .rw[if_neg hi]
  cases hl:l[i]? with
  | none=>rfl
  | some x =>
   simp only[Option.map_some,El.occ];rw[if_neg hi];rfl
theorem Nw(g a n:Nat):∀(t:El) (b:Nat) (l:List Nat) (w:World),l.length=n->t.symsIn n->(∀s,l.getD s 0+t.occ s<=4096)->mA (·≠g) w t b->gv w 3 (.slice g n a) g (l.map i64) -> Calls prog 233 #[.pointer b,.slice g n a] w λe w'=>e=.returned (.tuple #[])/\gv w' 3 (.slice g n a) g ((lF t l).map i64)/\gg [g] w w':=by
 intro t
 induction t with
 | coin s k =>
  intro b l w o r m A c;have S:s<n:=r;obtain⟨U,f⟩:=A;have v:=f.X 1;have z:=f.X 2;simp at v z;have p:(l.getD s 0:Nat)+1<=4096:=by
   have:=m s
   simpa[El.occ]using this
  have ad:=c.S (i:=s) (by rw[zE,o];exact S) (i64 (l.getD s 0+1));rw[<-map_set,<-Kb s k l (by omega)]at ad;obtain⟨am,T,_,_,F,H⟩:=c.T;have c1:=F s (l.getD s 0) (by rw[zD,zF (by omega)];rfl);have f1:=H s;have ao:w.cell? ⟨g,s,none⟩=some (.int .i64 ((l.getD s 0:Nat):Int)):=c1;have G:gv (w.setCell ⟨g,s,none⟩ (.int .i64 ((l.getD s 0+1:Nat):Int))) 3 (.slice g n a) g ((lF (.coin s k) l).map i64):=ad;have h0:(0:Int)<=(s:Int):=by omega
  have h1:(s:Int)<(n:Int):=by omega
  generalize lF (.coin s k) l=l' at *;generalize l.getD s 0=x at *;have e2:((x+1:Nat):Int)=(x:Int)+1:=by simp
  rw[e2]at G;clear ad F H m c1 T c o r f;go_enter func233,ntmps233;go_wp2;refine bodyPost_ret (results_none rfl _ _ _) rfl ?_;exact⟨rfl,G,(zR [g] w).setCell (.inl (by simp)) _⟩
 | pack x y ihx ihy =>
  intro b l w o r m A c;obtain⟨gp,v,z,U,I,f,q,p,P⟩:=A;have c2:=f.X 2;simp at c2;have V:=q.X 0;have W:=q.X 1;simp at V W;obtain⟨N,O⟩:=r;have J:∀s,l.getD s 0+x.occ s<=4096:=λs=>by
   have:l.getD s 0+(x.occ s+y.occ s)<=4096:=m s
   omega
  have K:∀s,(lF x l).getD s 0+y.occ s<=4096:=λs=>by
   have h9:l.getD s 0+(x.occ s+y.occ s)<=4096:=m s;by_cases h:s<l.length
   .rw[Kc _ _ h];omega
   .rw[zD,getElem?_eq_none (by rw[Dt];omega)]
    show 0+_<=_;omega
  have Q:=λw=>ihx v l w o N J;have C:=λw=>ihy z (lF x l) w ((Dt _ _).trans o) O K;have M:=Kd x y l;rw[M]at C;have⟨I1,I2,HG,HX⟩:=gu Q C q p;have R:=gd P;generalize lF x l=lx at *;generalize lF (.pack x y) l=ly at *;clear Q C ihx ihy m J K N O M o f q p P;go_enter func233,ntmps233;go_wp2
  go_loopg [26] 2 (λj iv wr=>∃i:Nat,iv=.int .i64 i/\i+j=2/\gg [g] w wr/\gh (i=0/\gv wr 3 (.slice g n a) g (l.map i64)\/i=1/\gv wr 3 (.slice g n a) g (lx.map i64)\/i=2/\gv wr 3 (.slice g n a) g (ly.map i64)))
  .exact⟨0,rfl,rfl,zR _ _,gd (.inl ⟨rfl,c⟩)⟩
  clear c;obtain⟨i,rfl,ap,d,u⟩:=hrel;have L:∀x∈[g],¬(x≠g):=by intro x p;simp at p;simp[p]
  have X:=(HG.o.Z d (by simpa using λh=>I h)).X 0;have Y:=(HG.o.Z d (by simpa using λh=>I h)).X 1;simp at X Y;rcases u.o with⟨rfl,c⟩|⟨rfl,c⟩|⟨rfl,c⟩
  .obtain rfl:gk=2:=by omega
   have B:=I1.o wr (HX.o.Z d L) c;clear u c;go_wp2_with fail;refine B.mono ?_;rintro e Z ⟨rfl,D,E⟩;go_wp2
   go_roundg 1
   .exact⟨1,rfl,rfl,d.tq E,gd (.inr (.inl ⟨rfl,D⟩))⟩
   .omega
  .obtain rfl:gk=1:=by omega
   have B:=I2.o wr (R.o.Z d L) c;clear u c;go_wp2_with fail;refine B.mono ?_;rintro e Z ⟨rfl,D,E⟩;go_wp2
   go_roundg 0
   .exact⟨2,rfl,rfl,d.tq E,gd (.inr (.inr ⟨rfl,D⟩))⟩
   .omega
  .obtain rfl:gk=0:=by omega
   go_wp2
   go_end0
   exact⟨rfl,c,d⟩
theorem LM:∀l:List El,(∀e∈l,e.symsIn n)->∀e∈io l,e.symsIn n:=by
 intro l
 induction l using io.induct with
 | case1 a b l il =>
  intro h e c;rw[io]at c;rcases zJ.1 c with rfl|c
  .exact⟨h a (by simp),h b (by simp)⟩
  .exact il (λe h1=>h e (by simp[h1])) e c
 | case2 l hl =>
  intro _ e c
  cases l with
  | nil=>simp[io]at c
  | cons a l =>
   cases l with
   | nil=>simp[io]at c
   | cons b l=>exact absurd rfl (hl a b l)
theorem Rows.syms{C:List El}(f:qN n C){j:Nat}{R:List El}(h:Rows C j R):∀e∈R,e.symsIn n:=by
 have c:∀e∈C,e.symsIn n:=λe a=>by
  obtain⟨s,w,rfl,d,_⟩:=f.coin e a;exact d
 induction h with
 | one hp hs=>exact λe a=>c e (hp.mem_iff.1 a)
 | next h hp hs ih =>
  intro e a;rcases zP.1 (hp.mem_iff.1 a)with b|b
  .exact c e b
  .exact LM _ ih e b
theorem Kv(n:Nat)(S:List El)(t:El):kG n (S++[t])=lF t (kG n S):=by
 apply ext_getElem
 .simp[kG,lF]
 .intro i a b
  simp[kG,lF,iB]
theorem J2(s i:Nat)(S:List El):iB s (S.take i)<=iB s S:=by
 have e:=yV s (S.take i) (S.drop i);rw[take_append_drop]at e;omega
theorem Ol(b:s<n)(c:n<=1024):m8 ((replicate n 0).set s 1):=by
 have a:∀m∈(replicate n 0).set s 1,m<=1:=λm hm=>by
  rcases mem_or_eq_of_mem_set hm with h|h
  .have:=eq_of_mem_replicate h;omega
  .omega
 refine⟨by simp;omega,by simp;omega,λm hm=>by have:=a m hm;omega,.inl ⟨?_,a⟩⟩;unfold mr;rw[countP_set (by simpa using b)];simp
theorem O8(b:s<n)(a:i<n):0<((replicate n 0).set s 1).getD i 0 ↔ i=s:=by
 rw[zD,getElem?_set];by_cases h:s=i
 .subst h
  rw[if_pos rfl,if_pos (by simpa using b)];simp
 .rw[if_neg h,getElem?_replicate,if_pos a]
  simp;exact λh2=>h h2.symm
structure xR (freq lens:List Nat):Prop where
 len:lens.length=freq.length
 full:m8 lens
 used:∀s,s<freq.length->(0<lens.getD s 0 ↔ 0<freq.getD s 0)
 le:∀n∈lens,n<=12
theorem Fu{freq:List Nat}(j:freq.length<=1024){f:Nat}(g:iZ freq freq.length=[.coin s f]):s<freq.length/\xR freq ((replicate freq.length 0).set s 1):=by
 have d:El.coin s f∈iZ freq freq.length:=by rw[g];simp
 obtain⟨q,b,k,c⟩:=tZ d;injection c with c h5;subst c;refine⟨b,by simp,Ol b j,λi hi => ?_,λm d => ?_⟩
 .rw[O8 b hi]
  have a:=ua freq i freq.length;rw[g]at a;have e:iu i [El.coin s f]=if s=i then 1 else 0:=by
   unfold iu;rw[countP_cons];simp[El.isCoin]
  rw[e]at a;constructor
  .intro p;rw[p];exact k
  .intro o
   rw[if_pos (show i<freq.length/\0<freq.getD i 0 from⟨hi,o⟩)]at a;by_cases h8:s=i
   .exact h8.symm
   .rw[if_neg h8]at a;omega
 .rcases mem_or_eq_of_mem_set d with h|h
  .have:=eq_of_mem_replicate h;omega
  .omega
theorem gv.zerosN(w:World)(n:Nat)(h:n<=1048576):gv (w.alloc (.cells (replicate n (Value.int .i64 0)).toArray 3)) 3 (.slice (some ⟨w.heap.size,0,none⟩) n n) w.heap.size ((replicate n 0).map i64):=by
 have:=gv.made w 3 (replicate n (Value.int .i64 0)) (by simp[maxLen];omega)
 rw[map_replicate]
 simpa[i64]using this
def yP (w:World) (freq:List Nat) (e:Ending) (w':World):Prop :=
 ∃v g,e=.returned (.tuple #[v,(0:Int)])/\gv w' 3 v g ((mI freq).map i64)/\xR freq (mI freq)/\gg [] w w'/\w.heap.size<=g
theorem Lw(w:World)(freq:List Nat)(A:Option Addr)(cap:Nat)(h1:1<=freq.length)(h2:freq.length<=256)(hf:∀f∈freq,f<=4096)(a:0<(iZ freq freq.length).length)(hc:gz i64 w A freq):Calls prog 179 #[.slice A freq.length cap,(12:Int)] w (yP w freq):=by
 have⟨n,hn⟩:=zX freq.length;rw[<-hn]at h1 h2 a⊢;have cS:=kg (P:=prog) iO rfl .i64 .i64 n (by omega) (by omega);have⟨HN,HF,bb⟩:=gX hn hf a;clear hn hf a;have t1:=gY n 1 (by omega);have t2:=gY 1024 n (by omega);go_enter func179,ntmps179;go_wp2_with fail
 go_loopg [6,7,8,31] n (λj v6 v7 v8 iv wr=>∃(i:Nat) (E:List PE) (F6:List Nat),iv=.int .i64 i/\i+j=n/\gK wr 273 v6 F6 (E.map kB)/\gh (E.map (·.2)=iZ freq i)/\E.length<=i/\kW (λx=>x∉F6) wr E/\(∀x∈F6,w.heap.size<=x)/\gg [] w wr)
 .exact⟨0,[],[],rfl,by omega,gK.nil _ _,gd rfl,by simp,by intro p v;simp at v,by simp,zR _ _⟩
 obtain⟨i,E,F6,rfl,cN,H,Y,bh,U,S,B⟩:=hrel;rcases gk with _|j
 .obtain rfl:i=n:=by omega
  have bX:E.length=(iZ freq i).length:=by rw[<-Y.o,zE]
  have a:=bb.o;rw[<-bX]at a;rcases H.cases with⟨_,bB,_⟩|⟨gc,y,rfl⟩
  .exfalso
   have:=congrArg length bB
   rw[zE]at this;simp at this;rw[this]at a;simp at a
  obtain⟨aL,rfl,ap,ay,al,_⟩:=y.T;have cy:w.heap.size<=gc:=S gc (by simp);have ao:kW (·≠gc) wr E:=U.imp λx _ h=>by simpa using h
  have a7:gh (E.map (·.2)=iZ freq i):=Y;have⟨c,bl⟩:=zX E.length;rw[<-bl]at ap a bh⊢;have⟨aF,aj,bc,aG⟩:=gu bl ao y al;have cD:=B.size;have bv:=y.lt;have t6:((c:Int)==0)=false:=by rw[beq_eq_false_iff_ne];omega
  have t7:=gY 4096 c (by omega);clear bX bl H U ao y al S;by_cases hc1:c=1
  .have t8:((c:Int)==1)=true:=by rw[beq_iff_eq];omega
   have co:∃b s f,E=[(b,El.coin s f)]/\iZ freq i=[.coin s f]:=by
    have h3:=aF.o;obtain⟨⟨b,t⟩,hb⟩:=List.length_eq_one_iff.1 (h3.symm.trans hc1);have h4:=a7.o;rw[hb]at h4;have r:t∈iZ freq i:=(by rw[<-h4];simp);obtain⟨s,_,_,rfl⟩:=tZ r;exact⟨b,s,_,hb,h4.symm⟩
   obtain⟨b,s,f,rfl,br⟩:=co;have a4:=Fu (freq:=freq) (by rw[<-HN.o];omega) (by rw[<-HN.o];exact br);rw[<-HN.o]at a4;have a9:gh (iZ freq freq.length=[.coin s f]):=gd (by rw[<-HN.o];exact br);have cM:wr.cell? gc=some (.pointer (some ⟨b,0,none⟩)):=aG.o 0 _ rfl;have aA:=aj.o (b,.coin s f) (by simp);have cL:b<wr.heap.size:=aA.2.lt;have cu:wr.cell? ⟨b,1,none⟩=some (.int .i64 s):=by
    have:=aA.2.X 1
    simpa using this
   have K:=gv.zerosN wr i (by omega);have cf:=gd a4;have cF:=a4.1;have cU:(0:Int)<=(s:Int):=(by omega);have cE:(s:Int)<(i:Int):=(by omega);have a0:=K.S (i:=s) (by simpa using cF) (i64 1);rw[<-map_set]at a0;obtain⟨cn,cJ,_,_,cH,cI⟩:=K.T;clear cJ;subst hc1;clear a4 a0 K cH cI aA br;go_wp2_with fail
   go_ret2
   have e:(Array.replicate i (Value.int .i64 0)).setIfInBounds s (.int .i64 1)=(((replicate i 0).set s 1).map i64).toArray:=by
    rw[map_set,map_replicate];show((replicate i (Value.int .i64 0)).toArray).setIfInBounds s (.int .i64 1)=_;rw[setIfInBounds_toArray];rfl
   have am:=gv.made wr 3 (((replicate i 0).set s 1).map i64) (by simp[maxLen];omega);rw[<-e]at am;have bx:(((replicate i 0).set s 1).map i64).length=i:=(by simp);rw[bx]at am;have T:=DK a9.o;rw[<-HN.o]at T;unfold yP;rw[T];exact⟨_,wr.heap.size,rfl,am,cf.o.2,B.alloc _,cD⟩
  .have t8:((c:Int)==1)=false:=by rw[beq_eq_false_iff_ne];omega
   have bC:=λw2 (hc2:gg [] wr w2)=>FD w2 _ gc E (by rw[<-aF.o];omega) (by rw[<-aF.o];omega) (bc.o.Z hc2 (by simp)) (aj.o.Y hc2);rw[<-aF.o]at bC;have⟨gl,bw⟩:=zX wr.heap.size;have⟨w1,a6⟩:=zX (wr.alloc (.cells (Array.replicate i (Value.int .i64 0)) 3));have K:gv w1 3 (.slice gl i i) gl ((replicate i 0).map i64):=by
    rw[a6,bw];exact gv.zerosN wr i (by omega)
   have an:gg [] wr w1:=(by rw[a6];exact(zR [] wr).alloc _);have aX:=bC w1 an;have aP:kW (λx=>x≠gl/\x≠gc) w1 E:=λp v=>((aj.o p v).imp (Q:=λx=>x≠gl/\x≠gc) λx d h=>⟨by omega,h⟩).Y an;have⟨cj,cd,ba,ch⟩:=gu a6 bw aP K;clear bC aP K a6;have ar:gc≠gl:=(by omega);have aT:w.heap.size<=gl:=(by omega);have a8:=gd (B.tq an);clear bw an;go_wp2_with fail;rw[<-cj.o,<-cd.o];refine aX.mono ?_;rintro e w2 ⟨rfl,k3,k4⟩;have W:=DW (λp:PE=>p.2) E (E.headD default);have V:=EK (λp:PE=>p.2) E (E.headD default);have⟨E',bS⟩:=zX (qP (λp:PE=>p.2) E (E.headD default));rw[<-bS]at V W k3;rw[a7.o]at V;clear bS;have ax:E'.length=c:=(by rw[W.length_eq];exact aF.o.symm);have af:=ub freq;have⟨C,hC⟩:=zX (iZ freq i);rw[<-HN.o,<-hC]at af;have aN:(E'.map (·.2)).Perm C:=(by rw[hC,<-a7.o];exact W.map _);have bT:E'.map (·.2)=tu C 0:=(by rw[hC];exact V);have aO:kW (λx=>x≠gl) w2 E':=λp v=>((ba.o p (W.mem_iff.1 v)).Z k4 (λx d=>by rw[zU.1 d];simp)).imp λ_ _ h=>h.1;have bU:gz kB w2 (some ⟨gc,0,none⟩) E':=by
    have cK:=k3
    have:=cK.R
    exact gK.cells this
   have aB:=ch.o.Z k4 (by simpa using λh=>ar h.symm);have bn:gg [] w w2:=a8.o.trans k4 (λx d=>by rw[zU.1 d];exact .inr cy);have bR:C.length=c:=(by rw[<-aN.length_eq,zE,ax]);have a1:∀e∈C,e.wt<=4096:=λe he=>by
    rw[hC]at he;obtain⟨s,hs,_,rfl⟩:=tZ he;show freq.getD s 0<=4096;rw[zD]
    cases d:freq[s]? with
    | none=>exact zero_le _
    | some x=>exact HF.o x (mem_of_getElem? d)
   have⟨bI,HC,aH,av⟩:=gu af hC ax bR;have⟨ck,bN,bJ,aI⟩:=gu a1 bU aO aB.lt;have be:=gd aB;have ce:gh (E'.map (·.2)=qg C):=gd (by rw[hC];exact V);clear V W k3 k4 aX af hC aN ax bR a1 aO bU aB B hc bv;go_wp2_with fail
   go_loopg [10,80] 11 (λj v10 iv I=>∃(q:Nat) (R:List PE) (N:Option Addr) (L:Nat),v10=.slice N R.length L/\iv=.int .i64 q/\q+j=11/\gh (gz kB I N R)/\gh (kW (λx=>x≠gl) I R)/\gh (R.map (·.2)=tu C q)/\R.length<=L/\L<=9223372036854775807/\gh (ib N R [gl])/\gg [] w2 I)
   .exact⟨0,E',some ⟨gc,0,none⟩,aL,by rw[aH.o],rfl,rfl,bN,bJ,gd bT,by rw[aH.o];exact ap,ay,gd (λ_ ad e r=>by injection e with e;subst e;simp at r;exact ar r),zR _ _⟩
   clear bT;obtain⟨I,rfl⟩:=zX wr;obtain⟨q,R,N,L,rfl,rfl,cT,bH,bK,bd,cp,cq,ca,G⟩:=hrel;have bj:Rows C (q+1) (R.map (·.2)):=(by rw[bd.o];exact zo C q);have D:=Rows.length bI.o (by rw[av.o];omega) bj;have aw:=gd bj;clear bj;have cr:R.length<=2*c:=by
    rw[zE,av.o]at D;generalize (c-1) / 2^(q+1-1)=z at D;omega
   have⟨m,r⟩:=zX R.length;rw[<-r]at cp cr⊢;have⟨J,aJ⟩:=gy r D;clear r D;rcases gk with _|j
   .obtain rfl:q=11:=by omega
    have D:=aJ.o;have b0:=J.o;have ai:=Cx (freq:=freq) (by rw[<-HN.o];omega) (by rw[<-HN.o,<-HC.o,av.o];omega) (R:=R.map (·.2)) (by rw[<-HN.o,<-HC.o];exact aw.o);rw[<-HN.o,<-HC.o,av.o]at ai;have au:=Rows.syms bI.o aw.o;have cA:2*c-2<=m:=by
     rw[zE,av.o,<-b0]at D
     have:(c-1) / 2^(11+1-1)=0:=div_eq_of_lt (by omega)
     omega
    have⟨k,hk⟩:=zX (2*c-2);rw[<-hk]at ai cA;have cQ:(2:Int)*(c:Int)-2=(k:Int):=(by omega);have cO:(0:Int)<=(k:Int):=(by omega);have cP:(k:Int)<=(L:Int):=(by omega);have aZ:=be.o.Z G (by simp);have⟨bM,ci⟩:=gy ai au;have bV:=bH.o;obtain⟨gR,oR,rfl,cx,bW⟩:=bV.ex (by omega);have bu:gR≠gl:=λe=>ca.o (by omega) _ rfl (by simp[e]);have⟨cc,HK⟩:=gy bW hk;clear ai au D b0 bV bW hk;go_wp2_with fail
    go_loopg [93] k (λj iv wz=>∃(t:Nat),iv=.int .i64 t/\t+j=k/\gv wz 3 (.slice gl i i) gl ((kG i ((R.map (·.2)).take t)).map i64)/\gg [gl] I wz)
    .exact⟨0,rfl,by omega,by rw[take_zero,Lx];exact aZ,zR _ _⟩
    clear aZ;obtain⟨t,rfl,cV,y,Z⟩:=hrel;rcases gk with _|j
    .obtain rfl:t=k:=by omega
     have bs:gg [] w wr:=(bn.tq G).trans Z (λx d=>by rw[zU.1 d];exact .inr aT);have aU:xR freq (kG i ((R.map (·.2)).take t)):=by
      obtain⟨f1,f2,f3⟩:=bM.o;refine⟨by rw[sH];exact HN.o,f1,λs hs=>f2 s (by rw[HN.o];exact hs),λn hn => ?_⟩;obtain⟨s,_,rfl⟩:=List.mem_map.1 hn;exact f3 s
     have cg:=gd aU;clear aU;go_wp2
     go_ret2
     have T:=C8 (freq:=freq) (by rw[<-HN.o,<-HC.o,av.o];omega);rw[<-HN.o,<-HC.o,<-bd.o,av.o,<-HK.o]at T;unfold yP;rw[T];exact⟨_,gl,rfl,y,cg.o,bs,aT⟩
    .have a5:t<R.length:=by rw[<-J.o];omega
     have bG:t+1<=k:=(by omega);have bY:=(bK.o R[t] (zG _)).Z Z (λx d=>by rw[zU.1 d];simp);have b3:=(World.cell?_of_block (w:=I) (Z.block gR cx (by simpa using bu))).trans (cc.o t _ (zF a5));have b5:t<(R.map (·.2)).length:=(by rw[zE];exact a5);have bF:(R.map (·.2)).take (t+1)=(R.map (·.2)).take t++[R[t].2]:=by
      rw[jD _ b5];simp
     have bz:=Kv i ((R.map (·.2)).take t) R[t].2;rw[<-bF]at bz;have b4:=ci.o R[t].2 (mem_map_of_mem (zG a5));have aW:∀s,(kG i ((R.map (·.2)).take t)).getD s 0+R[t].2.occ s<=4096:=by
      intro s;have e1:iB s ((R.map (·.2)).take (t+1))=iB s ((R.map (·.2)).take t)+R[t].2.occ s:=by
       rw[bF,yV];simp[iB]
      have e2:iB s ((R.map (·.2)).take (t+1))<=12:=by
       have e3:(R.map (·.2)).take (t+1)=((R.map (·.2)).take k).take (t+1):=(by rw[take_take,Nat.min_eq_left bG]);rw[e3];exact Nat.le_trans (J2 _ _ _) (bM.o.2.2 s)
      by_cases hs:s<i
      .rw[C9 _ hs];omega
      .rw[zD,getElem?_eq_none (by rw[sH];omega)]
       show 0+_<=_;omega
     have bq:=Nw gl i i R[t].2 R[t].1 (kG i ((R.map (·.2)).take t)) wr (sH _ _) b4 aW bY y;rw[<-bz]at bq;have⟨pb,bE⟩:=zX (R[t].1);have cB:wr.cell? ⟨gR,oR+t,none⟩=some (.pointer pb):=(by rw[bE];exact b3);rw[<-bE]at bq;have cs:(0:Int)<=(t:Int):=(by omega);have ct:(t:Int)<(k:Int):=(by omega);clear aW b4 bz bF b5 b3 bY a5 bE y;go_wp2_with fail;refine bq.mono ?_;rintro e w4 ⟨rfl,M,X⟩;go_wp2_with fail
     go_roundg j
     .exact⟨t+1,by go_num,by omega,M,Z.tq X⟩
     .omega
   .have b6:=Rows.wt_le ck.o aw.o
    have aY:2^(q+1)<=4096:=Nat.le_trans (Nat.pow_le_pow_right (n:=2) (by decide) (show q+1<=12 by omega)) (by decide);have b2:=O5 (λx=>x≠gl) I (λx d=>by have:=G.size;have:=aI.o;omega) (some ⟨gc,0,none⟩) N aL L E' R (by rw[aH.o];omega) (by rw[aH.o];omega) (by rw[<-J.o];omega)
     (bN.o.Y G) bH.o (bJ.o.Y G) bK.o (λp v=>by
      have:=b6 p.2 (mem_map_of_mem v)
      have:=mul_le_mul_left 4096 aY
      omega)
    rw[aH.o,<-J.o]at b2;clear b6 aY;go_wp2_with fail;refine b2.mono ?_;rintro e w3 ⟨v3,g3,E3,rfl,M,X,r4,r5,r6⟩;obtain⟨bg,rfl,cv,bp,_,_⟩:=M.T;have⟨M,X,r4⟩:=gX M X r4;go_wp2_with fail
    go_roundg j
    .refine⟨q+1,E3,some ⟨g3,0,none⟩,bg,rfl,by go_num,by omega,gd (gK.cells M.o.R),r4,gd ?_,cv,bp,gd (λ_ ad e r=>by
      injection e with e;subst e;simp at r
      have:=G.size
      have:=aI.o
      omega),G.tq r5⟩
     rw[X.o,ce.o,bd.o];rfl
    .omega
 .have cz:i<n:=by omega
  have a3:i<freq.length:=by rw[<-HN.o];exact cz
  obtain⟨g,o,rfl,ah⟩:=(hc.Y B).at_ a3;have b9:=HF.o freq[i] (zG a3);have b7:freq[i]=freq.getD i 0:=by rw[zD,zF a3];rfl
  rw[b7]at ah b9;have F:=Cv freq i;have⟨f,bZ⟩:=zX (freq.getD i 0);rw[<-bZ]at ah b9 F;have bm:wr.cell? ⟨g,o+i,none⟩=some (.int .i64 f):=ah;have cs:(0:Int)<=(i:Int):=by omega
  have ct:(i:Int)<(n:Int):=by omega
  have t3:=gY f 0 (by omega);have t4:=gY 1099511627776 f (by omega);obtain⟨A6,cm,rfl,aR,bk,_⟩:=H.T;clear ah bZ b7 a3;by_cases hf0:0<f
  .rw[if_pos hf0]at F
   have bf:=gd F;clear F;have⟨aj,bL,bA,bi⟩:=gu U S H.lt bh;have⟨m,r⟩:=zX E.length;have J:=gd r;rw[<-r]at aR H bh⊢;clear U S r;have⟨wx,aE⟩:=zX ((wr.alloc (.cells #[.int .i64 f,i,.slice none 0 0] 275)).alloc (.cells #[.pointer (some ⟨wr.heap.size,0,none⟩)] 273));have az:gg [] wr wx:=(by rw[aE];exact(((zR [] wr).alloc _).alloc _));have bD:=H.Y az;have cG:wx.cell? ⟨wr.heap.size+1,0,none⟩=some (.pointer (some ⟨wr.heap.size,0,none⟩)):=by
    rw[aE]
    have:=(gn.new (wr.alloc (.cells #[.int .i64 f,i,.slice none 0 0] 275)) 273 #[.pointer (some ⟨wr.heap.size,0,none⟩)]).X 0
    simp
   have bP:gn wx wr.heap.size 275 #[.int .i64 f,i,.slice none 0 0]:=by
    rw[aE];exact(gn.new wr _ _).alloc _
   have aC:wx.heap.size=wr.heap.size+2:=(by rw[aE];simp);have b1:(E.map kB).length=m:=(by rw[zE];exact J.o.symm);have⟨HX,cb,aK,bO⟩:=gu aE bP aC b1;clear aE bP aC b1
   go_wp2_with(at_builtin;rw[<-HX.o];refine ka rfl rfl AY rfl rfl bD (.pointer (some ⟨wr.heap.size,0,none⟩)) rfl cG rfl ?c1 ?c2 ?_)
   case c1=>rw[bO.o];omega
   case c2=>rw[bO.o];omega
   intro g2 cl w5 cC O;go_wp2_with fail
   go_roundg j
   .have bo:gg [] w w5:=(B.tq az).trans O.Z (λx d => .inr (bL.o x d))
    have cw:w.heap.size<=g2:=by
     rcases O.new g2 (by simp)with u|u
     .exact bL.o _ u
     .have:=B.size;have:=aK.o;omega
    have aV:∀x,x<wx.heap.size->x∉F6->x≠g2:=λx d hn e=>by
     rcases O.new g2 (by simp)with u|u
     .exact hn (e ▸ u)
     .omega
    have aC:=aK.o;have bQ:wr.heap.size∉F6:=λh=>by have:=bA.o _ h;omega
    refine⟨i+1,E++[(wr.heap.size,.coin i f)],[g2],by go_num,by omega,?_,gd ?_,?_,?_,?_,bo⟩
    .have e:(E++[(wr.heap.size,El.coin i f)]).map kB=E.map kB++[.pointer (some ⟨wr.heap.size,0,none⟩)]:=by rw[zM];rfl
     rw[e];exact cC.R
    .rw[zM,Y.o,bf.o];rfl
    .rw[zC,length_singleton];have:=bi.o;omega
    .intro p v
     rcases zP.1 v with u|u
     .have h6:=((aj.o p u).Y az).imp (Q:=λx=>x∉F6/\x≠g2) λx d h7=>⟨h7,aV x d h7⟩
      exact(h6.Z O.Z (λx d h=>h.1 d)).imp λx _ h=>by simpa using h.2
     .rw[zU.1 u]
      exact⟨by simpa using aV _ (by omega) bQ,cb.o.Z O.Z bQ⟩
    .intro x d
     rw[zU.1 d];exact cw
   .omega
  .obtain rfl:f=0:=by omega
   rw[if_neg hf0,append_nil]at F;have bf:=gd F;clear F;go_wp2_with fail
   go_roundg j
   .exact⟨i+1,E,F6,by go_num,by omega,H,gd (by rw[bf.o];exact Y.o),by omega,U,S,B⟩
   .omega
def jG (l:List Nat):Nat:=l.foldl max 0
theorem MF(l:List Nat)(x:Nat):jG (l++[x])=max (jG l) x:=by simp[jG]
theorem O1{m:Nat}(h:∀n∈l,n<=m):jG l<=m:=by
 have c:∀(l:List Nat) (a:Nat),a<=m->(∀n∈l,n<=m)->l.foldl max a<=m:=by
  intro l
  induction l with
  | nil=>intro a b _;exact b
  | cons x l ih =>
   intro a b h;exact ih _ (by have:=h x (by simp);omega) λn hn=>h n (by simp[hn])
 exact c l 0 (zero_le _) h
theorem uN{x:Nat}(h:x∈l):x<=jG l:=by
 have d:∀(l:List Nat) (a:Nat),a<=l.foldl max a/\∀x∈l,x<=l.foldl max a:=by
  intro l
  induction l with
  | nil=>intro a;exact⟨zQ _,by simp⟩
  | cons y l ih =>
   intro a;obtain⟨c,e⟩:=ih (max a y);refine⟨Nat.le_trans (Nat.le_max_left _ _) c,λx b => ?_⟩;rcases zJ.1 b with rfl|b
   .exact Nat.le_trans (Nat.le_max_right _ _) c
   .exact e x b
 exact(d l 0).2 x h
theorem LZ(l:List Nat)(x:Nat):mr (l++[x])=mr l+if 0<x then 1 else 0:=by
 unfold mr;rw[countP_append,countP_cons];simp
theorem Lr(l:List Nat)(x:Nat):lI (l++[x])=lI l+if x=0 then 0 else 2^(24-x):=by simp[lI]
theorem Ls(l:List Nat)(i:Nat):lI (l.take i)<=lI l:=by
 have e:lI l=lI (l.take i)+lI (l.drop i):=by
  conv=>lhs;rw[<-take_append_drop i l]
  unfold lI;rw[zM,sum_append]
 omega
theorem O2{lens:List Nat}(e:mr lens=1)(a:∀n∈lens,n<=1):jG lens=1:=by
 have f:=O1 a;have b:0<mr lens:=by omega
 obtain⟨x,d,c⟩:=List.countP_pos_iff.1 b;have g:=uN d;have h:0<x:=of_decide_eq_true c;omega
theorem uQ{w:World}{A:Option Addr}(h:gz i64 w A l)(a:i<l.length):∃g o,A=some ⟨g,o,none⟩/\w.cell? ⟨g,o+i,none⟩=some (.int .i64 (l[i]:Nat)):=by
 obtain⟨g,o,e,c⟩:=h.at_ a;exact⟨g,o,e,c⟩
theorem Ff(lens:List Nat)(A:Option Addr)(q:Nat)(w:World)(h:m8 lens)(N:gz i64 w A lens):Calls prog 234 #[.slice A lens.length q] w λe w'=>e=.returned (.bool true)/\w=w':=by
 have F:=Fp h;have K:=h.n1;have L:=h.n2;have z:(mr lens=1/\jG lens=1)\/(mr lens≠1/\lI lens=16777216):=by
  rcases h.full with⟨b,f⟩|⟨b,f⟩
  .exact .inl ⟨b,O2 b f⟩
  .exact .inr ⟨b,f⟩
 have C:=h.le;have⟨n,hn⟩:=zX lens.length;rw[<-hn]at K L⊢;have⟨HN,ai,au,HK⟩:=gu hn z C F;clear hn z C h F;have t1:=gY n 1 (by omega);have t2:=gY 1024 n (by omega);go_enter func234,ntmps234;go_wp2_with fail
 go_loopg [3,4,5,18] n (λj vu vl vs iv wr=>∃(i u m s:Nat),iv=.int .i64 i/\vu=.int .i64 u/\vl=.int .i64 m/\vs=.int .i64 s/\i+j=n/\gh (u=mr (lens.take i))/\gh (m=jG (lens.take i))/\gh (s=lI (lens.take i))/\u<=i/\m<=24/\s<=16777216/\w=wr)
 .exact⟨0,0,0,0,rfl,rfl,rfl,rfl,by omega,gd rfl,gd rfl,gd rfl,by omega,by omega,by omega,rfl⟩
 obtain⟨i,u,m,s,rfl,rfl,rfl,rfl,W,p,t,v,hu,O,R,rfl⟩:=hrel;rcases gk with _|j
 .obtain rfl:i=n:=by omega
  have ad:lens.take i=lens:=by rw[HN.o,zN]
  rcases ai.o with⟨b,f⟩|⟨b,f⟩
  .have r:u=1:=by rw[p.o,ad];exact b
   have e2:m=1:=(by rw[t.o,ad];exact f);subst r;subst e2;clear b f ad;go_wp2;go_ret;exact⟨rfl,rfl⟩
  .have r:u≠1:=by rw[p.o,ad];exact b
   have e2:s=16777216:=(by rw[v.o,ad];exact f);have S:((u:Int)==1)=false:=(by rw[beq_eq_false_iff_ne];omega);subst e2;clear b f ad r;go_wp2;go_ret;exact⟨rfl,rfl⟩
 .have J:i<n:=by omega
  have k:i<lens.length:=by rw[<-HN.o];exact J
  obtain⟨g,o,rfl,G⟩:=uQ N k;have I:=au.o lens[i] (zG k);have E:=jD lens k;have d:=LZ (lens.take i) lens[i];have c:=MF (lens.take i) lens[i];have a:=Lr (lens.take i) lens[i];have B:=Ls lens (i+1);rw[<-E]at d c a;rw[<-p.o]at d;rw[<-t.o]at c;rw[<-v.o]at a;have⟨x,hx⟩:=zX (lens[i]);rw[<-hx]at G I d c a;have U:(0:Int)<=(i:Int):=by omega
  have V:(i:Int)<(n:Int):=by omega
  have S:=gY x 0 (by omega);have t4:=gY 24 x (by omega);clear E hx k;by_cases hx0:0<x
  .have t5:=jo 0 x (by omega)
   rw[if_pos hx0]at d;rw[if_neg (by omega)]at a;have⟨m2,ah⟩:=zX (max m x);have Z:max (m:Int) (x:Int)=(m2:Int):=(by rw[ah];omega);have X:(if (m:Int)<(x:Int)then(x:Int)else(m:Int))=(m2:Int):=(by rw[ah];split<;>omega);have⟨y,hy⟩:=zX (24-x);have Y:(24:Int)-(x:Int)=(y:Int):=(by omega);rw[<-hy]at a;rw[<-ah]at c;have Q:(2:Nat)^y<=16777216:=Nat.le_trans (Nat.pow_le_pow_right (n:=2) (by decide) (show y<=24 by omega)) (by decide);have⟨P,hP⟩:=zX (2^y);have T:(2:Int)^y=(P:Int):=(by rw[hP];simp);rw[<-hP]at a Q;have M:s+P<=16777216:=(by have:=HK.o;omega);have⟨al,ak,aj⟩:=gX d c a;have H:m2<=24:=(by omega);clear d c a B ah hP hy;go_wp2_with fail
   go_roundg j
   .exact⟨i+1,u+1,m2,s+P,by go_num,by go_num,rfl,by go_num,by omega,gd al.o.symm,gd ak.o.symm,gd aj.o.symm,by omega,H,M,rfl⟩
   .omega
  .obtain rfl:x=0:=by omega
   rw[if_neg hx0]at d;rw[if_pos rfl]at a;have D:max m 0=m:=(by omega);rw[D]at c;have⟨al,ak,aj⟩:=gX d c a;clear d c a B D;go_wp2_with fail
   go_roundg j
   .exact⟨i+1,u,m,s,by go_num,rfl,rfl,rfl,by omega,gd al.o.symm,gd ak.o.symm,gd aj.o.symm,by omega,O,R,rfl⟩
   .omega
theorem ED(lens:List Nat)(A:Option Addr)(k:Nat)(w:World)(Q:lens.length<=1024)(P:gz i64 w A lens):Calls prog 242 #[.slice A lens.length k] w λe E=>∃v F,e=.returned v/\gK E 3 v F ((hO lens).map i64)/\gg [] w E/\∀x∈F,w.heap.size<=x:=by
 have⟨n,hn⟩:=zX lens.length;rw[<-hn]at Q⊢;have d:=gd hn;clear hn;go_enter func242,ntmps242;go_wp2_with fail
 go_loopg [3,4,5,6] 24 (λj vo vn v5 v6 wr=>∃(m:Nat) (F:List Nat),vn=.int .i64 (m+1:Nat)/\m+j=24/\gK wr 3 vo F ((i2 lens m).map i64)/\(∀x∈F,w.heap.size<=x)/\gg [] w wr)
 .exact⟨0,[],rfl,rfl,gK.nil _ _,by simp,zR _ _⟩
 obtain⟨m,F,rfl,W,a,hF,b⟩:=hrel;rcases gk with _|T
 .obtain rfl:m=24:=by omega
  go_wp2;obtain⟨G,O,rfl,_⟩:=a.T;go_ret;exact⟨_,rfl,F,a,b,hF⟩
 .have⟨q,hq⟩:=zX (m+1)
  rw[<-hq];have t1:=jB q 24 (by omega);have H:=gd hq;have aw:q<=24:=by omega
  have h:=sE lens m;rw[<-hq,<-d.o]at h;have p:=gd h;have N:=xw lens m;rw[<-d.o]at N;clear hq h;go_wp2_with fail
  go_loopg [3,5,6,13] n (λj vo v5 v6 iv wr=>∃(i:Nat) (F:List Nat),iv=.int .i64 i/\i+j=n/\gK wr 3 vo F ((i2 lens m++ja lens q i).map i64)/\(ja lens q i).length<=i/\(∀x∈F,w.heap.size<=x)/\gg [] w wr)
  .exact⟨0,F,rfl,by omega,by simpa[ja]using a,by simp[ja],hF,b⟩
  clear a hF b;obtain⟨i,F,rfl,V,a,U,hF,b⟩:=hrel;obtain⟨G,O,rfl,Z,au,_⟩:=a.T;rcases gk with _|j
  .obtain rfl:i=n:=by omega
   rw[<-p.o]at a;have L:(i2 lens m++ja lens q i).length=(i2 lens q).length:=(by rw[p.o]);rw[L];go_wp2_with fail
   go_roundg T
   .refine⟨q,F,by go_num,by have:=H.o;omega,a,hF,b⟩
   .omega
  .have M:i<n:=by omega
   have f:i<lens.length:=(by rw[<-d.o];exact M);obtain⟨g,o,rfl,I⟩:=uQ (P.Y b) f;have c:=JP lens q i;have u:gO lens i=lens[i]:=(by simp[gO,zD,f]);rw[u]at c;have⟨x,hx⟩:=zX (lens[i]);rw[<-hx]at I c;have ay:(0:Int)<=(i:Int):=(by omega);have az:(i:Int)<(n:Int):=(by omega);clear u hx f;by_cases hxq:x=q
   .subst hxq
    rw[if_pos rfl]at c;have ad:=gd c;have⟨r,hr⟩:=zX ((i2 lens m++ja lens x i).length);have X:r<=2048:=(by rw[hr,zC];omega);have B:((i2 lens m++ja lens x i).map i64).length=r:=(by rw[zE];exact hr.symm);rw[<-hr]at a⊢;have J:=a.alloc (.cells #[i] 3);have R:(wr.alloc (.cells #[i] 3)).cell? ⟨wr.heap.size,0,none⟩=some (.int .i64 i):=(by simp);have⟨al,HF⟩:=gy B hF;have K:gh (gg [] w (wr.alloc (.cells #[i] 3))):=gd (b.alloc _);clear c hr B hF
    go_wp2_with(at_builtin;refine ka rfl rfl iO rfl rfl J (.int .i64 i) rfl R rfl ?c1 ?c2 ?_)
    case c1=>rw[al.o];omega
    case c2=>rw[al.o];omega
    intro C Y w5 z t;go_wp2_with fail
    go_roundg j
    .refine⟨i+1,[C],by go_num,by omega,?_,?_,?_,K.o.trans t.Z (λx hx => .inr (HF.o x hx))⟩
     .have e:(i2 lens m++ja lens x (i+1)).map i64=(i2 lens m++ja lens x i).map i64++[.int .i64 i]:=by
       rw[ad.o,<-zH,zM];rfl
      rw[e];simp only[zM,zH]at z⊢;exact z.R
     .rw[ad.o,zC,length_singleton];omega
     .intro y S
      rw[zU.1 S];rcases t.new C (by simp)with D|D
      .exact HF.o _ D
      .have:=b.size
       have e:(wr.alloc (.cells #[i] 3)).heap.size=wr.heap.size+1:=(by simp);omega
    .omega
   .have t2:((x:Int)==(q:Int))=false:=by rw[beq_eq_false_iff_ne];omega
    rw[if_neg hxq,append_nil]at c;have ad:=gd c;clear c;go_wp2_with fail
    go_roundg j
    .exact⟨i+1,F,by go_num,by omega,by rw[ad.o];exact a,by rw[ad.o];omega,hF,b⟩
    .omega
def sp (x:Nat):Value:=.int .u64 x
theorem OM:jx prog 251 92 (.int .u64 0) 1 8:=.mk' underlying251 (by kernel_rfl)
theorem EZ(lens:List Nat)(A:Option Addr)(c:Nat)(w:World)(z:m8 lens)(f:gz i64 w A lens):Calls prog 209 #[.slice A lens.length c] w λe w'=>∃v g,e=.returned (.tuple #[v,(0:Int)])/\gv w' 92 v g ((nS lens).map sp)/\gg [] w w'/\w.heap.size<=g:=by
 have J:=Ff lens A c w z f;have a5:=z.n1;have aS:=z.n2;have K:=λw f=>ED lens A c w aS f;have M:=xw lens 24;have⟨n,hn⟩:=zX lens.length;have bm:=kg (P:=prog) OM rfl .i64 .i64 n (by omega) (by omega);rw[<-hn]at a5 aS J K M⊢;have⟨HN,HF,aW⟩:=gX hn z K;clear hn z K;have O:=qu lens;rw[<-HN.o]at O;have aY:=gd O;clear O;go_enter func209,ntmps209;go_wp2_with fail;refine gB J ?_;have⟨w1,aw⟩:=zX (w.alloc (.cells (Array.replicate n (Value.int .u64 0)) 92));have⟨B,hB⟩:=zX w.heap.size;have N:gv w1 92 (.slice B n n) B ((lD lens 0).map sp):=by
  have:=gv.made w 92 (replicate n (Value.int .u64 0)) (by simp[maxLen];omega)
  rw[aw,hB];have e:(lD lens 0).map sp=replicate n (Value.int .u64 0):=by
   unfold lD;rw[map_replicate,<-HN.o];rfl
  rw[e]
  simpa using this
 have R:gg [] w w1:=by rw[aw];exact(zR [] w).alloc _
 have aq:=aW.o w1 (f.Y R);have⟨aX,HB⟩:=gy aw hB;clear aw hB J;go_wp2_with fail;rw[<-aX.o,<-HB.o];refine aq.mono ?_;rintro e w2 ⟨vr,Fr,rfl,T,Y,aN⟩;obtain⟨Ar,cr,rfl,az,a2,a1⟩:=T.T;have ar:=N.Z Y (by simp);have am:=R.tq Y;have⟨rl,af⟩:=zX ((hO lens).length);have a6:rl<=n:=by rw[af];exact M
 rw[<-af]at az⊢;have X:=gd af;have Z:w.heap.size<=B:=by have:=HB.o;omega
 have ay:∀x∈[B],x∉Fr:=λx hx hm=>by
  rw[zU.1 hx]at hm
  have:=aN _ hm
  have h6:=N.lt;omega
 have ax:ib Ar (hO lens) [B]:=T.apt (λx hx hm=>ay x hm hx);clear aq N T R af aN M;go_wp2_with fail
 go_loopg [5,6,8,18] rl (λj vw vb v8 iv wr=>∃(k b p:Nat),iv=.int .i64 k/\vw=.int .u64 b/\vb=.int .i64 p/\k+j=rl/\gh ((k=0/\b=0/\p=0)\/(0<k/\b=kZ lens (k-1)/\p=gO lens ((hO lens).getD (k-1) 0)))/\gv wr 92 (.slice B n n) B ((lD lens k).map sp)/\gg [B] w2 wr)
 .exact⟨0,0,0,rfl,rfl,rfl,by omega,gd (.inl ⟨rfl,rfl,rfl⟩),ar,zR _ _⟩
 clear ar;obtain⟨k,b,p,rfl,rfl,rfl,bl,I,E,r⟩:=hrel;rcases gk with _|j
 .obtain rfl:k=rl:=by omega
  have e:nS lens=lD lens k:=by unfold nS;rw[X.o]
  have aA:gg [] w wr:=am.trans r (λx hx=>by rw[zU.1 hx];exact .inr Z);have HE:=gd e;clear e;go_wp2
  go_ret2
  refine⟨_,B,rfl,?_,aA,Z⟩;rw[HE.o];exact E
 .have t:k<(hO lens).length:=by rw[<-X.o];omega
  obtain⟨aQ,S,u⟩:=qw t;have an:=a1.N ax r;obtain⟨gr,a9,rfl,bk,aO⟩:=an.ex (by omega);have U:=aO k ((hO lens).getD k 0) (by rw[zD,zF t];rfl);have aR:gz i64 wr A lens:=(f.Y am).N (λ_ ad e hm=>by
   obtain⟨b9,o9,a,a0,_⟩:=f.ex (by have:=HN.o;omega);rw[e]at a;injection a with a;subst a;simp at hm;omega) r
  obtain⟨gl,ol,e7,bj,aP⟩:=aR.ex (by rw[<-HN.o];omega);have G:=aP ((hO lens).getD k 0) (gO lens ((hO lens).getD k 0)) (by unfold gO;rw[zD (l:=lens),zF u];rfl);obtain⟨aZ,a8,_,_,aT,aU⟩:=E.T;have aV:(lD lens k).length=n:=aY.o k;have V:=aT ((hO lens).getD k 0) ((lD lens k).getD ((hO lens).getD k 0) 0) (by rw[zD (l:=lD lens k),zF (by rw[qu];exact u)];rfl);have fw:=aU ((hO lens).getD k 0);have o:=E.S (i:=(hO lens).getD k 0) (by rw[zE,qu];exact u) (sp (kZ lens k));rw[<-map_set]at o;have Q:lD lens (k+1)=(lD lens k).set ((hO lens).getD k 0) (kZ lens k):=rfl;rw[<-Q]at o;have q:=ER HF.o t;rw[<-HN.o]at u;have m:∀(h:0<k),kZ lens k=(kZ lens (k-1)+1)*2^(gO lens ((hO lens).getD k 0)-gO lens ((hO lens).getD (k-1) 0))/\gO lens ((hO lens).getD (k-1) 0)<=gO lens ((hO lens).getD k 0)/\0<gO lens ((hO lens).getD (k-1) 0):=λh=>by
   have h5:=KU (lens:=lens) (k:=k-1) (by omega);have e:k-1+1=k:=(by omega);rw[e]at h5;exact⟨h5,uP (by omega) t,(qw (k:=k-1) (by omega)).1⟩
  have F:k=0->kZ lens k=0:=λh=>by rw[h,KV]
  have⟨s,hs⟩:=zX ((hO lens).getD k 0);rw[<-hs]at U G V fw o aQ S u q m Q;have⟨L,hL⟩:=zX (gO lens s);rw[<-hL]at G aQ S q m;have⟨wn,aH⟩:=zX (kZ lens k);rw[<-aH]at o q m F;have ah:gh ((k+1=0/\wn=0/\L=0)\/(0<k+1/\wn=kZ lens (k+1-1)/\L=gO lens ((hO lens).getD (k+1-1) 0))):=gd (.inr ⟨by omega,by rw[Nat.add_sub_cancel];exact aH,by rw[Nat.add_sub_cancel,<-hs];exact hL⟩);have bb:wr.cell? ⟨gr,a9+k,none⟩=some (.int .i64 s):=U;have ba:wr.cell? ⟨gl,ol+s,none⟩=some (.int .i64 L):=G;have bc:wr.cell? ⟨B,s,none⟩=some (.int .u64 ((lD lens k).getD s 0:Nat)):=V;have aG:wn<16777216:=Nat.lt_of_lt_of_le q (Nat.le_trans (Nat.pow_le_pow_right (n:=2) (by decide) S) (by decide));have D:gv (wr.setCell ⟨B,s,none⟩ (.int .u64 wn)) 92 (.slice B n n) B ((lD lens (k+1)).map sp):=o;have D:=gd D;generalize (lD lens k).getD s 0=wo at *;have bd:(0:Int)<=(k:Int):=by omega
  have be:(k:Int)<(rl:Int):=by omega
  have bg:(0:Int)<=(s:Int):=by omega
  have bh:(s:Int)<(n:Int):=by omega
  have a4:gl≠B:=by
   obtain⟨b9,o9,a,a0,_⟩:=f.ex (by have:=HN.o;omega);rw[e7]at a;injection a with a;injection a with a _ _;omega
  subst e7;clear a8 aO aP aT aU o U G V hL aH hs Q t q E an aR;by_cases hk0:k=0
  .rcases I.o with⟨a7,H,y⟩|⟨W,_⟩
   .clear a7
    subst H;subst y;have aI:=F hk0;subst aI;clear m F hk0;go_wp2_with fail
    go_roundg j
    .exact⟨k+1,0,L,by go_num,rfl,rfl,by omega,gd (by rcases ah.o with⟨h,_⟩|h;omega;exact .inr h),D.o,r.setCell (.inl (by simp)) _⟩
    .omega
   .omega
  .rcases I.o with⟨W,_⟩|⟨W,H,y⟩
   .omega
   .obtain⟨C,k2,k3⟩:=m W
    rw[<-H,<-y]at C;rw[<-y]at k2 k3;have⟨d,hd⟩:=zX (L-p);rw[<-hd]at C;have bi:(L:Int)-(p:Int)=(d:Int):=(by omega);have a3:d<=24:=(by omega);have ap:((b:Int)+1)*(2:Int)^d=(wn:Int):=(by rw[C];simp);have bn:IntKind.u64.wrap (((b:Int)+1)*(2:Int)^d)=(wn:Int):=(by rw[ap];exact IntWalk.u64_in _ (by omega));have bo:b+1<=16777216:=by
     have:b+1<=wn:=by rw[C];exact Nat.le_mul_of_pos_right _ (Nat.two_pow_pos _)
     omega
    clear C H y hd m F I k2 hk0;go_wp2_with fail
    go_roundg j
    .exact⟨k+1,wn,L,by go_num,rfl,rfl,by omega,ah,D.o,r.setCell (.inl (by simp)) _⟩
    .omega
end Go.Proofs.YtifdlkoepaepiaaGreatDoor
