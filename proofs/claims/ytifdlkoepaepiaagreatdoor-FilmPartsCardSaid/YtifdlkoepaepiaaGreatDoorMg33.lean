/- Lemmas. -/
import Derived.Test.YtifdlkoepaepiaaGreatDoorMg20
import Derived.Test.YtifdlkoepaepiaaGreatDoorMg31
set_option linter.all false
set_option maxHeartbeats 2000000
set_option maxRecDepth 100000
namespace Go.Proofs.YtifdlkoepaepiaaGreatDoor
open Tryz List Nat Go.RowKit
variable {l:List Int}{G:List Nat}{g k o x:Nat}{c:Nat->Nat}{B:Nat->Option Addr}{t:TypeId}{a b v:Value}{w w':World}
def oM (P:List (List Int)) (i k:Nat):List Int:=(range 4).map λj=>if j<k then(P.getD j []).getD i 0 else 0
theorem Aw{P:List (List Int)}(i:Nat):oM P i P.length=oS P i:=by
 unfold oM oS;apply map_congr_left;intro j _;split
 .rfl
 .rename_i h
  rw[zD (l:=P),getElem?_eq_none (by omega)];rfl
theorem AX(P:List (List Int))(i:Nat)(d:k<4):(oM P i k).set k ((P.getD k []).getD i 0)=oM P i (k+1):=by
 rcases(by omega:k=0\/k=1\/k=2\/k=3)with rfl|rfl|rfl|rfl<;>rfl
theorem AW(P:List (List Int))(i k:Nat):(oM P i k).length=4:=by simp[oM]
theorem gn.set_vi(h:gn w g t (l.map vi).toArray)(k:Nat)(v:Int):gn (w.setCell ⟨g,k,none⟩ (.int .i64 v)) g t ((l.set k v).map vi).toArray:=by
 have d:=h.S k (.int .i64 v);have e:(l.map vi).toArray.setIfInBounds k (.int .i64 v)=((l.set k v).map vi).toArray:=by
  apply Array.ext';simp[map_set,vi]
 rwa [e]at d
theorem gn.vi_cell(h:gn w g t (l.map vi).toArray)(d:k<l.length):w.cell? ⟨g,k,none⟩=some (.int .i64 (l.getD k 0)):=by
 rw[h.X k,zD,zF d];simp[vi,d]
theorem xl(h:l.length=4):∃a b c e,l=[a,b,c,e]:=by
 match l,h with
 | [a,b,c,e],_=>exact⟨a,b,c,e,rfl⟩
structure iF (w:World) (x:Nat) (a b c v:Value):Prop where
 blk:gn w x 46 #[a,b,c,v]
theorem iF.cells{c:Value}(h:iF w x a b c v):w.cell? x=some a/\w.cell? ⟨x,1,none⟩=some b/\w.cell? ⟨x,2,none⟩=some c/\w.cell? ⟨x,3,none⟩=some v:=⟨h.blk.X 0,h.blk.X 1,h.blk.X 2,h.blk.X 3⟩
theorem iF.Z{c:Value}{F:List Nat}(h:iF w x a b c v)(d:gg F w w')(e:x∉F):iF w' x a b c v:=⟨h.blk.Z d e⟩
theorem iF.Y{c:Value}(h:iF w x a b c v)(d:gg [] w w'):iF w' x a b c v:=⟨h.blk.Z d (by simp)⟩
theorem FB{p q:gA}(h:p.Ok)(r:q.Ok)(f:iY p q):kp p q (p.W*p.H) 0=q:=by
 obtain⟨W,H,d,P⟩:=q;have e:=MI (P:=p.P) (Q:=P) (N:=p.W*p.H) f.n.symm (λj hj=>h.len _ (jQ hj)) (λj hj=>by
  have:=r.len _ (jQ (P:=P) (j:=j) (by rw[<-show p.P.length=P.length from f.n];exact hj))
  rw[<-show p.W=W from f.W,<-show p.H=H from f.H]at this;exact this)
 unfold kp;rw[e];have i:p.W=W:=f.W;have m:p.H=H:=f.H;have n:p.d=d:=f.d;rw[i,m,n]
theorem qF{F:Func}{Q:Ending->World->Prop}{a:Act}{Y:World}{C:Nat}{z0 z1 z2 z3 d e f i:Value}(j:iF Y C z0 z1 z2 z3)(h:∀X,iF X C d e f i->gg [C] Y X->bodyPost prog F Q .ret a X):bodyPost prog F Q .ret a ((((Y.setCell C d).setCell ⟨C,1,none⟩ e).setCell ⟨C,2,none⟩ f).setCell ⟨C,3,none⟩ i):=
 nR j.blk λX h1 h2=>h X ⟨h1⟩ h2
def lA (w:World) (p:gA) (e:Ending) (w':World):Prop :=
 ∃(gP capP:Nat) (xs:List Value) (gs:List Nat),e=.returned (.tuple #[gW p gP 0 capP,(0:Int)])/\iL w' p gP capP xs gs/\gg [] w w'/\∀x∈gP::gs,w.heap.size<=x
def x5:Value:=.agg #[(0:Int),(0:Int),(0:Int),.slice none 0 0]
theorem Ra{p:gA}(d:Nat)(h:ip w p g o B c G)(k:Nat)(I:k<=4)(u:kC p.P.length k=false)(f:FuncId)(H:f=75\/f=92):Calls prog f #[gW p g o d,k] w λe w'=>e=.returned (.tuple #[x5,(1:Int)])/\gg [] w w':=by
 have n:=h.ok;have m:∀w',gg [] w w'->_:=λw' (hc':gg [] w w')=>oJ d (h.Y hc');have s:=λw'=>uL p.P.length k w' n.n0 n.n1 I;rw[u]at s;unfold gW at m⊢;have⟨w1,aa⟩:=zX (((w.alloc (.cells #[p.W,p.H,p.d,.slice (some ⟨g,o,none⟩) p.P.length d] 46)).alloc (.cells #[(0:Int),(0:Int),(0:Int),.slice none 0 0] 46)));have ad:iF w1 w.heap.size (.int .i64 p.W) (.int .i64 p.H) (.int .i64 p.d) (.slice (some ⟨g,o,none⟩) p.P.length d):=⟨by rw[aa];exact(gn.new w _ _).alloc _⟩;have r:iF w1 (w.heap.size+1) (.int .i64 0) (.int .i64 0) (.int .i64 0) (.slice none 0 0):=⟨by rw[aa];exact gn.new2 w _ _ _⟩;have q:gg [] w w1:=by rw[aa];exact((zR [] w).alloc _).alloc _
 have⟨an,ag,ak,al⟩:=gu aa q ad r;have D:=gd m;obtain⟨y,z,A,C⟩:=ad.cells;clear aa q ad r m n h u;rcases H with rfl|rfl
 focus
  go_enter func75,ntmps75
 rotate_left
 focus
  go_enter func92,ntmps92
 all_goals
  go_wp2_with fail;rw[<-an.o];refine(D.o w1 ag.o).mono ?_;rintro e R ⟨rfl,j⟩;obtain⟨y,z,A,C⟩:=(ak.o.Y j).cells;have i:=al.o.Y j;obtain⟨z0,z1,z2,z3⟩:=i.cells;have N:=i.blk.U 0;have O:=i.blk.U 1;have P:=i.blk.U 2;have Q:=i.blk.U 3;have⟨ac,HZ⟩:=gy (ag.o.tq j) i;clear j i;go_wp2_with fail;refine(s _).mono ?_;rintro e S ⟨rfl,rfl⟩;go_wp2_with fail;refine qF HZ.o ?_;intro X E F;obtain⟨J,K,L,M⟩:=E.cells;refine bodyPost_ret (v:=.tuple #[x5,(1:Int)]) (by simp[results,results75,results92,go_sem,J,K,L,M,x5]) rfl ?_;exact⟨rfl,ac.o.trans F (λx hx => .inr (by simp at hx;omega))⟩
theorem Q9{p:gA}(A:Nat)(h:ip w p g o B c G)(k:Nat)(k4:k<=4)(m:kC p.P.length k=true)(f pf:FuncId)(hf:f=75/\pf=104\/f=92/\pf=109){q:gA}(hqk:q.Ok)(y:iY p q)(L:∀i wz,i<p.W*p.H->∃a b c e D F H I,oS p.P i=[a,b,c,e]/\Calls prog pf #[.agg #[.int .i64 a,.int .i64 b,.int .i64 c,.int .i64 e],k,p.d] wz (λen w'=>en=.returned (.agg #[.int .i64 D,.int .i64 F,.int .i64 H,.int .i64 I])/\gg [] wz w')/\∀j,j<p.P.length->(q.P.getD j []).getD i 0=[D,F,H,I].getD j 0):Calls prog f #[gW p g o A,k] w (lA w q):=by
 unfold lA;have J:=h.ok;have aV:∀w',gg [] w w'->_:=λw' (hc':gg [] w w')=>oJ A (h.Y hc');have aU:∀w',gg [] w w'->_:=λw' (hc':gg [] w w')=>BB A (h.Y hc');have aX:=λw'=>uL p.P.length k w' J.n0 J.n1 k4;rw[m]at aX;have⟨n,hn⟩:=zX p.P.length;have⟨N,hN⟩:=zX (p.W*p.H);have cp:n<=4:=by rw[hn];exact J.n1
 have ci:N<=4096:=by rw[hN];exact J.area
 have bw:∀wz,gg [] w wz->∀j,j<n->∃b q,wz.cell? ⟨g,o+j,none⟩=some (.slice (some ⟨b,q,none⟩) N (c j))/\b∈G/\∀i,i<N->wz.cell? ⟨b,q+i,none⟩=some (.int .i64 ((p.P.getD j []).getD i 0)):=by
  intro wz hc j hj;rw[hn]at hj;obtain⟨b,q,e,hb,cc⟩:=(h.Y hc).at_ hj;have aE:=(h.Y hc).X j hj;rw[e,<-hN]at aE;exact⟨b,q,aE,hb,λi S=>cc i (by rw[<-hN];exact S)⟩
 have bE:=h.gG;have bH:=h.lt;rw[<-hN]at L;have bJ:gW q=λr o' cap' => .agg #[p.W,p.H,p.d,.slice (some ⟨r,o',none⟩) n cap']:=by
  funext r o' cap'
  unfold gW;rw[y.W,y.H,y.d,hn,y.n]
 rw[bJ];unfold gW at aV aU⊢;rw[<-hn]at aV aU aX L⊢;have⟨w1,aJ⟩:=zX (((w.alloc (.cells #[p.W,p.H,p.d,.slice (some ⟨g,o,none⟩) n A] 46)).alloc (.cells #[(0:Int),(0:Int),(0:Int),.slice none 0 0] 46)));have⟨X2,aC⟩:=zX w.heap.size;have⟨X4,V⟩:=zX (X2+1);have bg:iF w1 X2 (.int .i64 p.W) (.int .i64 p.H) (.int .i64 p.d) (.slice (some ⟨g,o,none⟩) n A):=⟨by rw[aJ,aC];exact(gn.new w _ _).alloc _⟩;have bh:iF w1 X4 (.int .i64 0) (.int .i64 0) (.int .i64 0) (.slice none 0 0):=⟨by rw[aJ,V,aC];exact gn.new2 w _ _ _⟩;have bv:gg [] w w1:=by rw[aJ];exact((zR [] w).alloc _).alloc _
 have Y:gh (X2=w.heap.size/\X4=X2+1/\X4<w1.heap.size):=gd ⟨aC,V,bh.blk.lt⟩;have ck:(p.W:Int)*(p.H:Int)=(N:Int):=by rw[hN];simp
 have cj:=J.w1;have ch:=J.h1;have cm:=J.d1;have z:gh (n=p.P.length/\N=p.W*p.H):=gd ⟨hn,hN⟩;have⟨bY,ak,a5,bM⟩:=gu aJ bv bg bh;have⟨bR,bQ,bL,bW⟩:=gu aV aU bw L;have⟨bb,HQ,az,ba⟩:=gu J hqk y bH;have⟨bq,b9,ca⟩:=gX bE aC V;obtain⟨M,O,P,Q⟩:=bg.cells;clear aJ bv bg bh aV J h m aC V aU bw L hn hN hqk y bJ bH bE;rcases hf with⟨rfl,rfl⟩|⟨rfl,rfl⟩
 focus
  go_enter func75,ntmps75
 rotate_left
 focus
  go_enter func92,ntmps92
 all_goals
  go_wp2_with fail;rw[<-bY.o,<-b9.o,<-ca.o];refine(bR.o w1 ak.o).mono ?_;rintro e w2 ⟨rfl,bd⟩;obtain⟨M,O,P,Q⟩:=(a5.o.Y bd).cells;have aq:=gd bd;clear bd;go_wp2_with fail;refine(aX _).mono ?_;rintro e w3 ⟨rfl,rfl⟩;clear aX;go_wp2_with fail;refine(bQ.o w2 (ak.o.tq aq.o)).mono ?_;rintro e w3 ⟨r,T,xs,gs,rfl,aj,br,aG⟩;have⟨w4,aK⟩:=zX (w3.alloc (.cells #[p.W,p.H,p.d,.slice (some ⟨r,0,none⟩) n T] 46));have⟨X6,aR⟩:=zX w3.heap.size;have be:gg [] w3 w4:=by rw[aK];exact(zR [] w3).alloc _
  have bj:iF w4 X6 (.int .i64 p.W) (.int .i64 p.H) (.int .i64 p.d) (.slice (some ⟨r,0,none⟩) n T):=⟨by rw[aK,aR];exact gn.new w3 _ _⟩;have av:gg [] w1 w4:=(aq.o.tq br).tq be;have bG:∀x∈r::gs,w1.heap.size<=x/\x<X6:=λx hx=>⟨by have:=aG x hx;have:=aq.o.size;omega,by
   rw[aR];rcases zJ.1 hx with rfl|u
   .exact aj.ltP
   .exact aj.pl.lt x u⟩
  have an:=aj.Y be;obtain⟨M,O,P,Q⟩:=(a5.o.Y av).cells;rw[aK]at M O P Q;have aD:=bj.blk.lt;have⟨bZ,b6,aa,ar⟩:=gu aK aR av bG;have⟨bc,bN,ad⟩:=gX an bj aD;clear aK aR be bj av bG an br aG aj aD;go_wp2_with fail;rw[<-bZ.o,<-b6.o]
  go_loopg [7,8,9,10,11,12,32] N (λj v7 v8 v9 v10 v11 v12 v32 wr=>∃i:Nat,v32=.int .i64 i/\i+j=N/\gh (iL wr (kp p q i 0) r T xs gs)/\gh (gg gs w4 wr))
  .exact⟨0,rfl,by omega,gd (by unfold kp;rw[Da];exact bc.o),gd (zR _ _)⟩
  obtain⟨i,rfl,cn,HO,U⟩:=hrel;have aH:∀x,x<w1.heap.size\/X6<=x->x∉r::gs:=λx hx m=>by have:=ar.o x m;omega
  have ah:=gd aH;have bA:=λ(E:List Nat) wz (hz:gg E wr wz) (hE:∀x,x<w1.heap.size\/x=X6->x∉E)=>And.intro
   ((((a5.o.Y aa.o).Z U.o (λm=>ah.o X2 (.inl (by have:=Y.o;omega)) (by simp[m]))).Z hz (hE X2 (.inl (by have:=Y.o;omega)))))
   (And.intro ((((bM.o.Y aa.o).Z U.o (λm=>ah.o X4 (.inl (by have:=Y.o;omega)) (by simp[m]))).Z hz (hE X4 (.inl (by have:=Y.o;omega)))))
   ((bN.o.Z U.o (λm=>ah.o X6 (.inr (zQ _)) (by simp[m]))).Z hz (hE X6 (.inr rfl))))
  have aA:=gd bA;clear bA aH;rcases gk with _|j
  .obtain rfl:i=N:=by omega
   have t1:decide ((i:Int)<(i:Int))=false:=(by simp);obtain⟨u,s,K⟩:=aA.o [] wr (zR _ _) (by simp);obtain⟨M,O,P,Q⟩:=u.cells;obtain⟨b0,b1,b2,b3⟩:=K.cells;obtain⟨z0,z1,z2,z3⟩:=s.cells;have f0:=s.blk.U 0;have f1:=s.blk.U 1;have f2:=s.blk.U 2;have f3:=s.blk.U 3;have HZ:=gd s;clear u s K;go_wp2_with fail;refine qF HZ.o ?_;intro X hX hY;obtain⟨x0,x1,x2,x3⟩:=hX.cells;refine bodyPost_ret (v:=.tuple #[.agg #[.int .i64 p.W,.int .i64 p.H,.int .i64 p.d,.slice (some ⟨r,0,none⟩) n T],(0:Int)]) (by simp[results,results75,results92,go_sem,x0,x1,x2,x3]) rfl ?_;have ho:=HO.o;have e:=z.o.2;rw[e,FB bb.o HQ.o az.o]at ho;have V:X4∉r::gs:=ah.o X4 (.inl (by have:=Y.o;omega));refine⟨r,T,xs,gs,rfl,ho.Z hY (by simp;exact λe=>V (by simp[e])) (λx hx m=>by simp at m;subst m;exact V (by simp[hx])),?_,λx hx=>by have:=ar.o x hx;have:=ak.o.size;omega⟩;refine((ak.o.tq aa.o).trans U.o (λx hx => .inr ?_)).trans hY (λx hx => .inr ?_)
   .have:=ar.o x (by simp[hx]);have:=ak.o.size;omega
   .simp at hx
    have:=Y.o
    omega
  .have S:i<N:=by omega
   have t1:=jo i N (by omega);obtain⟨W,rfl⟩:=zX wr;have⟨wr0,ae⟩:=zX (W.alloc (.cells #[(0:Int),(0:Int),(0:Int),(0:Int)] 73));have⟨X8,aS⟩:=zX W.heap.size;have aQ:gg [] W wr0:=(by rw[ae];exact(zR [] W).alloc _);have bx:gn wr0 X8 73 ((oM p.P i 0).map vi).toArray:=(by rw[ae,aS];exact gn.new W _ _);have aL:w4.heap.size<=X8:=(by rw[aS];exact U.o.size);obtain⟨u,s,K⟩:=aA.o [] wr0 aQ (by simp);obtain⟨M,O,P,Q⟩:=u.cells;have ao:=HO.o.Y aQ;rw[ae]at M O P Q;have⟨b5,b7,bo,bO⟩:=gu ae aS aQ bx;have⟨ab,bV⟩:=gy aL ao;clear ae aS aQ bx u s K aL ao;have bu:∀wz,gg [X8] wr0 wz->∀j,j<n->∃b q,wz.cell? ⟨g,o+j,none⟩=some (.slice (some ⟨b,q,none⟩) N (c j))/\wz.cell? ⟨b,q+i,none⟩=some (.int .i64 ((p.P.getD j []).getD i 0)):=by
    intro wz hz j hj;have bC:gg (X8::gs) w wz:=(((ak.o.tq aa.o).mono (F':=X8::gs) (by simp)).trans (U.o.mono (F':=X8::gs) (by simp +contextual)) (λx hx => .inl hx)).trans ((bo.o.mono (F':=X8::gs) (by simp)).trans (hz.mono (F':=X8::gs) (by simp +contextual)) (λx hx => .inl hx)) (λx hx => .inl hx);obtain⟨b,q,Z,hb,e2⟩:=bL.o w (zR _ _) j hj;have aF:∀x∈G,x∉X8::gs:=λx hx m=>by
     have:=ba.o x hx
     rcases zJ.1 m with rfl|m
     .have:=ab.o;have:=ak.o.size;have:=aa.o.size;omega
     .have:=ar.o x (by simp[m]);have:=ak.o.size;omega
    exact⟨b,q,(World.cell?_of_block (w:=w) (bC.block g (ba.o g bq.o) (aF g bq.o))).trans Z,(World.cell?_of_block (w:=w) (bC.block b (ba.o b hb) (aF b hb))).trans (e2 i S)⟩
   have a4:=gd bu;clear bu;go_wp2_with fail;rw[<-b5.o,<-b7.o]
   go_loopg [9,10,38] n (λj2 v9 v10 v38 wz=>∃k2:Nat,v38=.int .i64 k2/\k2+j2=n/\gh (gn wz X8 73 ((oM p.P i k2).map vi).toArray)/\gh (gg [X8] wr0 wz))
   .exact⟨0,rfl,by omega,bO,gd (zR _ _)⟩
   obtain⟨k2,rfl,co,aO,a9⟩:=hrel;rcases gk with _|j2
   .obtain rfl:k2=n:=by omega
    have t2:decide ((k2:Int)<(k2:Int))=false:=(by simp);have aN:∀x,x<w1.heap.size\/x=X6->x∉[X8]:=λx hx m=>by simp at m;have:=ab.o;have:=ad.o;have:=aa.o.size;omega
    have aw:gg [X8] W wr:=(bo.o.mono (by simp)).trans a9.o (λx hx => .inl hx);obtain⟨u,s,K⟩:=aA.o [X8] wr aw aN;obtain⟨M,O,P,Q⟩:=u.cells;have R:=aO.o;rw[z.o.1,Aw]at R;obtain⟨a,b,c',e',D,F,H,I,bI,am,hy⟩:=bW.o i wr S;rw[bI]at R;have k0:=R.X 0;have k1:=R.X 1;have aZ:=R.X 2;have d:=R.X 3;simp[vi]at k0 k1 aZ d;have⟨aB,HY,a6,a7⟩:=gu am hy R aw;clear aN aw u s K R bI am hy;go_wp2_with fail;refine aB.o.mono ?_;rintro e w9 ⟨rfl,bf⟩;have C:=a6.o.Z bf (by simp);have k0:=C.X 0;have k1:=C.X 1;have aZ:=C.X 2;have d:=C.X 3;have f0:=C.U 0;have f1:=C.U 1;have f2:=C.U 2;have f3:=C.U 3;simp[vi]at k0 k1 aZ d;have⟨wB,aM⟩:=zX (((((w9.setCell X8 (.int .i64 D)).setCell ⟨X8,1,none⟩ (.int .i64 F)).setCell ⟨X8,2,none⟩ (.int .i64 H)).setCell ⟨X8,3,none⟩ (.int .i64 I)));have bz:gn wB X8 73 (([D,F,H,I]:List Int).map vi).toArray:=by
     rw[aM]
     have:=(((C.S 0 (.int .i64 D)).S 1 (.int .i64 F)).S 2 (.int .i64 H)).S 3 (.int .i64 I)
     simpa[vi]using this
    have aT:gg [X8] W wB:=by
     have:=((((zR [X8] w9).setCell (p:=⟨X8,0,none⟩) (.inl (by simp)) (.int .i64 D)).setCell (p:=⟨X8,1,none⟩) (.inl (by simp)) (.int .i64 F)).setCell (p:=⟨X8,2,none⟩) (.inl (by simp)) (.int .i64 H)).setCell (p:=⟨X8,3,none⟩) (.inl (by simp)) (.int .i64 I)
     rw[aM];exact(a7.o.tq (bf.mono (by simp))).tq this
    have aN:∀x,x<w1.heap.size\/x=X6->x∉[X8]:=λx hx m=>by simp at m;have:=ab.o;have:=ad.o;have:=aa.o.size;omega
    have ax:∀x∈r::gs,x∉[X8]:=λx hx m=>by simp at m;have:=ar.o x hx;have:=ab.o;have:=ad.o;omega
    obtain⟨u,s,K⟩:=aA.o [X8] wB aT aN;obtain⟨b0,b1,b2,b3⟩:=K.cells;have aI:=HO.o.Z aT (ax r (by simp)) (λx hx=>ax x (by simp[hx]));have⟨b4,bP,bp,bU⟩:=gu aM bz aT aI;rw[aM]at b0 b1 b2 b3;clear C aM bz aT aI u s K aN ax M O P Q bf;go_wp2_with fail;rw[<-b4.o];clear b0 b1 b2 b3 k0 k1 aZ d f0 f1 f2 f3
    go_loopg [11,12,58] k2 (λj2 v11 v12 v58 wz=>∃d:Nat,v58=.int .i64 d/\d+j2=k2/\gh (iL wz (kp p q i d) r T xs gs)/\gh (gg gs wB wz))
    .exact⟨0,rfl,by omega,bU,gd (zR _ _)⟩
    obtain⟨d,rfl,cg,aP,ag⟩:=hrel;have h8:X8∉gs:=λm=>by have:=ar.o X8 (by simp[m]);have:=ab.o;have:=ad.o;omega
    have bi:=bP.o.Z ag.o h8;rcases gk with _|j3
    .obtain rfl:d=k2:=by omega
     have t3:decide ((d:Int)<(d:Int))=false:=(by simp);clear bi h8;go_wp2_with fail
     go_roundg j
     .refine⟨i+1,by go_num,by omega,gd ?_,gd ?_⟩
      .have:=aP.o
       unfold kp at this⊢;rw[z.o.1,Ey]at this;exact this
      .refine(U.o.trans bp.o (λx hx => .inr (by simp at hx;have:=ab.o;omega))).trans ag.o (λx hx => .inl hx)
     .omega
    .have cf:d<k2:=by omega
     have t3:=jo d k2 (by omega);have aW:d<(kp p q i d).P.length:=(by show _<(mq _ _ _ _).length;rw[oU,<-z.o.1];exact cf);obtain⟨g3,c3,Z,e2,e3,e4⟩:=aP.o.plane aW;have bn:(kp p q i d).W*(kp p q i d).H=N:=z.o.2.symm;rw[bn]at Z e3 e4;have ay:((kp p q i d).P.getD d []).length=N:=(by rw[<-bn];exact(aP.o.ok).len _ (jQ aW));obtain⟨_,_,_,_,aE,bD⟩:=e3.T;have cd:=bD i;have bB:wr.cell? ⟨g3,i,none⟩=some (.int .i64 (((kp p q i d).P.getD d []).getD i 0)):=by
      refine aE i _ ?_;rw[zD (l:=(kp p q i d).P.getD d []),zF (by rw[ay];exact S)];rfl
     have cb:=bi.vi_cell (k:=d) (by simp;omega);obtain⟨u,s,bs⟩:=aA.o (X8::gs) wr ((bp.o.mono (by simp)).trans (ag.o.mono (by simp +contextual)) (λx hx => .inl hx)) (λx hx m=>by
      rcases zJ.1 m with e|m
      .have:=ab.o;have:=ad.o;have:=aa.o.size;omega
      .have:=ar.o x (by simp[m]);omega)
     obtain⟨b0,b1,b2,b3⟩:=bs.cells;have bm:iL (wr.setCell ⟨g3,i,none⟩ (.int .i64 ([D,F,H,I].getD d 0))) (kp p q i (d+1)) r T xs gs:=by
      refine aP.o.sample Z e2 aW e3 (by rw[ay];exact S) (Gv bb.o HQ.o az.o _ _) ?_;rw[<-HY.o d (by have:=z.o.1;omega)];exact(DL (by have:=z.o.1;omega) (by rw[bb.o.len _ (jQ (by have:=z.o.1;omega)),<-z.o.2];exact S) (by rw[HQ.o.len _ (jQ (by have:=z.o.1;have:=az.o.n;omega)),<-az.o.W,<-az.o.H,<-z.o.2];exact S)).symm
     have bF:g3∈gs:=mem_of_getElem? e2;have bl:gg gs wB (wr.setCell ⟨g3,i,none⟩ (.int .i64 ([D,F,H,I].getD d 0))):=ag.o.setCell (.inl bF) _;have⟨yv,bK⟩:=zX ([D,F,H,I].getD d 0);rw[<-bK]at cb bm bl;have⟨bT,bS⟩:=gy bm bl;clear bm bl bK u s bs bi h8 Z e2 e3 bD aE bn ay bF aW;go_wp2_with fail
     go_roundg j3
     .exact⟨d+1,by go_num,by omega,bT,bS⟩
     .omega
   .have ce:k2<n:=by omega
    have t2:=jo k2 n (by omega);obtain⟨b,q',Z,e2⟩:=a4.o wr a9.o k2 ce;have hf:=aO.o.U k2;have cl:=aO.o.vi_cell (k:=k2) (by rw[AW];omega);have aY:=aO.o.set_vi k2 ((p.P.getD k2 []).getD i 0);rw[AX p.P i (by omega)]at aY;have bk:gg [X8] wr0 (wr.setCell ⟨X8,k2,none⟩ (.int .i64 ((p.P.getD k2 []).getD i 0))):=a9.o.setCell (.inl (by simp)) _;have⟨v,hv⟩:=zX ((p.P.getD k2 []).getD i 0);rw[<-hv]at e2 aY bk;have⟨bX,a8⟩:=gy aY bk;clear aY bk hv;go_wp2_with fail
    go_roundg j2
    .exact⟨k2+1,by go_num,by omega,bX,a8⟩
    .omega
theorem Mu{p:gA}(d:Nat)(h:ip w p g o B c G)(k:Nat)(i:k<=4)(f:kC p.P.length k=false):Calls prog 75 #[gW p g o d,k] w λe w'=>e=.returned (.tuple #[x5,(1:Int)])/\gg [] w w':=Ra d h k i f _ (.inl rfl)
theorem Fl{p:gA}(d:Nat)(h:ip w p g o B c G)(k:Nat)(m:k<=4)(n:kC p.P.length k=true):Calls prog 75 #[gW p g o d,k] w (lA w (jg k p)):=
 Q9 d h k m n _ _ (.inl ⟨rfl,rfl⟩) (sS h.ok k) ⟨rfl,rfl,rfl,(pH _ _ _).symm⟩ λi wz hi=>by
  obtain⟨q,r,s,u,f⟩:=xl (Mp k p.d ((p.P.getD 0 []).getD i 0) ((p.P.getD 1 []).getD i 0) ((p.P.getD 2 []).getD i 0) ((p.P.getD 3 []).getD i 0));have e:=Lk k p.d _ _ _ _ wz h.ok.d0 h.ok.d1 m (l7 h.ok i 0) (l7 h.ok i 1) (l7 h.ok i 2) (l7 h.ok i 3);rw[f]at e;refine⟨_,_,_,_,q,r,s,u,BI _ _,e,λj hj => ?_⟩;rw[<-f];exact xp hj hi
theorem NT{p:gA}(d:Nat)(h:ip w p g o B c G)(k:Nat)(m:k<=4)(n:kC p.P.length k=true):Calls prog 92 #[gW p g o d,k] w (lA w (rt k p)):=
 Q9 d h k m n _ _ (.inr ⟨rfl,rfl⟩) (EX h.ok k) ⟨rfl,rfl,rfl,(pH _ _ _).symm⟩ λi wz hi=>by
  obtain⟨q,r,s,u,f⟩:=xl (L3 k p.d ((p.P.getD 0 []).getD i 0) ((p.P.getD 1 []).getD i 0) ((p.P.getD 2 []).getD i 0) ((p.P.getD 3 []).getD i 0));have e:=K4 k p.d _ _ _ _ wz h.ok.d0 h.ok.d1 m (l7 h.ok i 0) (l7 h.ok i 1) (l7 h.ok i 2) (l7 h.ok i 3);rw[f]at e;refine⟨_,_,_,_,q,r,s,u,BI _ _,e,λj hj => ?_⟩;rw[<-f];exact xp hj hi
theorem NV{p:gA}(s:Nat)(h:ip w p g o B c G):Calls prog 103 #[gW p g o s] w λe w'=>e=.returned (.int .i64 (oH p))/\gg [] w w':=by
 have d:=h.ok;have D:∀w',gg [] w w'->_:=λw' (hc':gg [] w w')=>oJ s (h.Y hc');have⟨n,hn⟩:=zX p.P.length;have⟨N,hN⟩:=zX (p.W*p.H);have aZ:n<=4:=by rw[hn];exact d.n1
 have aR:N<=4096:=by rw[hN];exact d.area
 have ay:∀r,gg [] w r->∀j,j<n->∃b q,r.cell? ⟨g,o+j,none⟩=some (.slice (some ⟨b,q,none⟩) N (c j))/\∀i,i<N->r.cell? ⟨b,q+i,none⟩=some (.int .i64 ((p.P.getD j []).getD i 0)):=by
  intro r hc j W;rw[hn]at W;obtain⟨b,q,e,hb,aO⟩:=(h.Y hc).at_ W;have C:=(h.Y hc).X j W;rw[e,<-hN]at C;exact⟨b,q,C,λi V=>aO i (by rw[<-hN];exact V)⟩
 have aB:∀v r,_:=λv r=>oB v p.d r d.d0 d.d1;have Z:∀v,_:=λv=>qJ v d.d0 d.d1;have aE:=λk=>Bo d k;have aC:=λl k=>Bn l p.W d.d0 d.d1 k;have aD:∀j i,jj p.d ((p.P.getD j []).getD i 0):=λj i=>l7 d i j;obtain⟨a4,a5⟩:=jX d.d0 d.d1;unfold gW at D⊢;rw[<-hn]at D⊢;have C:oH p=qT p n:=by rw[hn];rfl
 rw[C];have⟨w1,ah⟩:=zX (w.alloc (.cells #[p.W,p.H,p.d,.slice (some ⟨g,o,none⟩) n s] 46));have⟨X,hX⟩:=zX w.heap.size;have K:iF w1 X (.int .i64 p.W) (.int .i64 p.H) (.int .i64 p.d) (.slice (some ⟨g,o,none⟩) n s):=⟨by rw[ah,hX];exact gn.new w _ _⟩;have ax:gg [] w w1:=by rw[ah];exact(zR [] w).alloc _
 have aU:=d.w0;have aV:=d.w1;have HN:gh (n=p.P.length/\N=p.W*p.H):=gd ⟨hn,hN⟩;have⟨aK,aL,aq,aG⟩:=gu ah hX ax K;have⟨aH,aF,av,au⟩:=gu D ay aB Z;have⟨aJ,aI,aw⟩:=gX aE aC aD;obtain⟨a0,a1,a2,a3⟩:=K.cells;clear ah ax K D d h hX ay hn hN aB Z aE aC C aD;go_enter func103,ntmps103;go_wp2_with fail;rw[<-aK.o,<-aL.o];refine(aH.o w1 aq.o).mono ?_;rintro e Y ⟨rfl,J⟩;obtain⟨a0,a1,a2,a3⟩:=(aG.o.Y J).cells;have ad:=gd (aq.o.tq J);clear J;go_wp2_with fail
 go_loopg [3,5,6,7,8,9,16,20,21,22] n (λj v3 v5 v6 v7 v8 v9 v16 v20 v21 v22 wr=>∃k:Nat,v16=.int .i64 k/\k+j=n/\v3=.int .i64 (qT p k:Int)/\Y=wr)
 .exact⟨0,rfl,by omega,rfl,rfl⟩
 obtain⟨k,rfl,aY,rfl,rfl⟩:=hrel;rcases gk with _|j
 .obtain rfl:k=n:=by omega
  have t1:decide ((k:Int)<(k:Int))=false:=by simp
  go_wp2_with fail;go_ret;exact⟨rfl,ad.o⟩
 .have hk:k<n:=by omega
  obtain⟨b,q,e1,e2⟩:=aF.o Y ad.o k hk;have ar:=gd e2;have az:=aJ.o k;have⟨T,hT⟩:=zX (qT p k);rw[<-hT]at az⊢;have HT:=gd hT;have aT:T<=600000000:=by omega
  clear e2 az hT;go_wp2_with fail
  go_loopg [3,6,7,8,9,22] N (λE v3 v6 v7 v8 v9 v22 wr=>∃i:Nat,v22=.int .i64 i/\i+E=N/\v3=.int .i64 ((T+qS (p.P.getD k []) p.W p.d i:Nat):Int)/\Y=wr)
  .exact⟨0,rfl,by omega,rfl,rfl⟩
  obtain⟨i,rfl,aX,rfl,rfl⟩:=hrel;rcases gk with _|E
  .obtain rfl:i=N:=by omega
   have t2:decide ((i:Int)<(i:Int))=false:=(by simp);go_wp2_with fail
   go_roundg j
   .exact⟨k+1,by go_num,by omega,by rw[Es,<-HT.o,<-HN.o.2],rfl⟩
   .omega
  .have V:i<N:=by omega
   have e2:=ar.o i V;have⟨l,hl⟩:=zX (p.P.getD k []);have m:=Er l p.W p.d i;have L:=aI.o l i;have⟨v,hv⟩:=zX (l.getD i 0);have P:=aw.o k i;rw[<-hl]at e2 P⊢;rw[<-hv]at e2 m P;obtain⟨a6,a7⟩:=P;have⟨x,hx⟩:=zX (i%p.W);have aM:(i:Int)%(p.W:Int)=(x:Int):=(by rw[hx];simp);have aQ:(i:Int).tmod (p.W:Int)=(x:Int):=(by rw[Int.tmod_eq_emod_of_nonneg (by omega)];exact aM);have⟨S,hS⟩:=zX (qS l p.W p.d i);rw[<-hS,<-hx]at m;rw[<-hS]at L⊢;have aS:S<=200000000:=(by omega);have I:=gd hl;by_cases h0:x=0
   .have t3:decide (0<x)=false:=zA (by omega)
    rw[if_pos h0]at m;have z:=λr=>av.o (v-0) r;obtain⟨Q,R⟩:=au.o (v-0);have⟨f,af⟩:=zX (ii (v-0) p.d);rw[<-af]at m z Q R;rw[show v-0=v by omega]at z;have M:(if f < -f then -f else f)=(f.natAbs:Int):=(by split<;>omega);have F:(if -f<f then f else -f)=(f.natAbs:Int):=(by split<;>omega);have⟨A,hA⟩:=zX f.natAbs;rw[<-hA]at m M F;have aN:A<=32768:=(by omega);have H:=gd m;clear m L af hS hx hl hv h0 hA
    go_wp2_with(go_at_call 79;refine gB (z _) ?_)
    go_roundg E
    .exact⟨i+1,by go_num,by omega,by rw[<-I.o,H.o,<-Nat.add_assoc,Int.natCast_add (T+S) A];go_num,rfl⟩
    .omega
   .have t3:decide (0<x)=true:=zB (by omega)
    rw[if_neg h0]at m;have aW:0<i:=by
     rcases eq_zero_or_pos i with U|U
     .exfalso;rw[U,zero_mod]at hx;exact h0 hx
     .exact U
    obtain⟨y,aP⟩:∃y,i=y+1:=⟨i-1,by omega⟩;have e3:=ar.o y (by omega);rw[show q+y=q+(i-1)by omega]at e3;have O:=aw.o k y;rw[show i-1=y by omega]at m;have⟨u,hu⟩:=zX (l.getD y 0);rw[<-I.o]at e3 O;rw[<-hu]at e3 m O;obtain⟨a8,a9⟩:=O;have z:=λr=>av.o (v-u) r;obtain⟨Q,R⟩:=au.o (v-u);have⟨f,af⟩:=zX (ii (v-u) p.d);rw[<-af]at m z Q R;have M:(if f < -f then -f else f)=(f.natAbs:Int):=(by split<;>omega);have F:(if -f<f then f else -f)=(f.natAbs:Int):=(by split<;>omega);have⟨A,hA⟩:=zX f.natAbs;rw[<-hA]at m M F;have aN:A<=32768:=(by omega);have H:=gd m;clear m L af hS hx hl hv h0 hA hu aP
    go_wp2_with(go_at_call 79;refine gB (z _) ?_)
    go_roundg E
    .exact⟨i+1,by go_num,by omega,by rw[<-I.o,H.o,<-Nat.add_assoc,Int.natCast_add (T+S) A];go_num,rfl⟩
    .omega
theorem NU{p:gA}(q:Nat)(h:ip w p g o B c G):Calls prog 74 #[gW p g o q] w λe w'=>e=.returned (.int .i64 (kJ p 4))/\gg [] w w':=by
 have N:=h.ok;have J:∀w' k,gg [] w w'->k<=4->kC p.P.length k=true->_:=λw' k (hc':gg [] w w') k4 r=>Fl q (h.Y hc') k k4 r;have Q:∀w' k,gg [] w w'->k<=4->kC p.P.length k=false->_:=λw' k (hc':gg [] w w') k4 r=>Mu q (h.Y hc') k k4 r;have S:=xg N 0;have aH:=λk=>Bo (sS N k) (jg k p).P.length;have R:∀k,(jg k p).P.length=p.P.length:=λk=>pH _ _ _;have aT:=N.n1;have aF:∀k,oH (jg k p)<=536870912:=λk=>by
  have L:=aH k;have h2:=R k;unfold oH;rw[h2]at L⊢;omega
 unfold lA at J;unfold gW x5 at *;have T:∀k f d,(.agg #[.int .i64 ((jg k p).W:Int),.int .i64 ((jg k p).H:Int),.int .i64 ((jg k p).d:Int),.slice (some ⟨f,0,none⟩) (jg k p).P.length d]:Value)=.agg #[p.W,p.H,p.d,.slice (some ⟨f,0,none⟩) p.P.length d]:=λk f d=>by rw[R];rfl
 have P:∀ {wz:World} {k f d:Nat} {y:List Value} {s:List Nat},iL wz (jg k p) f d y s->Calls prog 103 #[.agg #[.int .i64 p.W,.int .i64 p.H,.int .i64 p.d,.slice (some ⟨f,0,none⟩) p.P.length d]] wz λe w'=>e=.returned (.int .i64 (oH (jg k p)))/\gg [] wz w':=fun {wz k f d y s} z=>by
  have L:=NV d z.at_;unfold gW at L;rw[T]at L;exact L
 simp only[T]at J;have⟨n,hn⟩:=zX p.P.length;simp only[<-hn]at J Q P S⊢;have⟨w1,ak⟩:=zX (w.alloc (.cells #[p.W,p.H,p.d,.slice (some ⟨g,o,none⟩) n q] 46));have⟨X,hX⟩:=zX w.heap.size;have O:iF w1 X (.int .i64 p.W) (.int .i64 p.H) (.int .i64 p.d) (.slice (some ⟨g,o,none⟩) n q):=⟨by rw[ak,hX];exact gn.new w _ _⟩;have Y:gg [] w w1:=by rw[ak];exact(zR [] w).alloc _
 have Z:∀m,kJ p (m+1)=if kC n (m+1)=true/\oH (jg (m+1) p)<oH (jg (kJ p m) p)then m+1 else kJ p m:=λm=>by rw[hn];rfl
 have⟨aO,aP,am,aI⟩:=gu ak hX Y O;have⟨aL,aK⟩:=gy J Q;have W:=gd (λwz k f d y s (h:iL wz (jg k p) f d y s)=>P h);have⟨aN,aB,ag,aJ⟩:=gu S aF Z (xq p);obtain⟨a0,a1,a2,a3⟩:=O.cells;clear ak Y O N h hX hn J Q P S aH R aF T Z;go_enter func74,ntmps74;go_wp2_with fail;rw[<-aO.o,<-aP.o]
 go_loopg [3,4,5,6,7,8,9,10] 5 (λj v3 v4 v5 v6 v7 v8 v9 v10 wr=>∃k:Nat,v10=.int .i64 k/\k+j=5/\((k=0/\v3=.int .i64 0/\v4=.int .i64 0/\v5=.bool false)\/∃m,k=m+1/\v3=.int .i64 (kJ p m:Int)/\v4=.int .i64 (oH (jg (kJ p m) p):Int)/\v5=.bool true)/\gh (gg [] w1 wr))
 .exact⟨0,rfl,rfl,.inl ⟨rfl,rfl,rfl,rfl⟩,gd (zR _ _)⟩
 obtain⟨k,rfl,aS,U,C⟩:=hrel;rcases gk with _|j
 .obtain rfl:k=5:=by omega
  rcases U with⟨K,_⟩|⟨m,r,rfl,rfl,rfl⟩
  .omega
  .obtain rfl:m=4:=by omega
   go_wp2_with fail;go_ret;exact⟨rfl,am.o.tq C.o⟩
 .have t1:=jo k 5 (by omega)
  obtain⟨a0,a1,a2,a3⟩:=(aI.o.Y C.o).cells;have aG:k<=4:=by omega
  cases hmk:kC n k with
  | false =>
   have H:=aK.o wr k (am.o.tq C.o) aG hmk;rcases U with⟨K,_⟩|⟨m,r,rfl,rfl,rfl⟩
   .subst K;have:=aN.o;simp only[kJ]at this;rw[this]at hmk;cases hmk
   .have i:=gd r
    clear r;go_wp2_with fail;refine H.mono ?_;rintro e u ⟨rfl,D⟩;go_wp2_with fail
    go_roundg j
    .refine⟨k+1,by go_num,by omega,.inr ⟨m+1,by rw[<-i.o],?_,?_,rfl⟩,gd ((C.o.tq D).alloc _)⟩
     .rw[ag.o,<-i.o,hmk,if_neg (by simp)]
     .rw[ag.o,<-i.o,hmk,if_neg (by simp)]
    .omega
  | true =>
   have H:=aL.o wr k (am.o.tq C.o) aG hmk;have hA:=aB.o k;have⟨A,ap⟩:=zX (oH (jg k p));rw[<-ap]at hA;have E:=gd ap;clear ap;rcases U with⟨K,rfl,rfl,rfl⟩|⟨m,r,rfl,rfl,rfl⟩
   .have i:=gd K
    clear K;go_wp2_with fail;refine H.mono ?_;rintro e u ⟨f,d,y,s,rfl,z,D,-⟩;have⟨w3,ae⟩:=zX (u.alloc (.cells #[p.W,p.H,p.d,.slice (some ⟨f,0,none⟩) n d] 46));have ad:gg [] u w3:=(by rw[ae];exact(zR [] u).alloc _);have F:=W.o w3 k f d y s (z.Y ad);rw[<-E.o]at F;have⟨ao,an⟩:=gy ae ((C.o.tq D).tq ad);clear H z D ad ae;go_wp2_with fail;rw[<-ao.o];refine F.mono ?_;rintro e w4 ⟨rfl,M⟩;go_wp2_with fail
    go_roundg j
    .exact⟨k+1,by go_num,by omega,.inr ⟨0,by rw[i.o],by rw[i.o];rfl,by rw[E.o,i.o];rfl,rfl⟩,gd (an.o.tq M)⟩
    .omega
   .have aQ:=aB.o (kJ p m)
    have⟨Bm,aq⟩:=zX (oH (jg (kJ p m) p));have⟨Km,ai⟩:=zX (kJ p m);rw[<-aq]at aQ⊢;rw[<-ai];have aR:=aJ.o m;rw[<-ai]at aR;have⟨al,aM,i⟩:=gX aq ai r;clear aq ai r;go_wp2_with fail;refine H.mono ?_;rintro e u ⟨f,d,y,s,rfl,z,D,-⟩;have⟨w3,ae⟩:=zX (u.alloc (.cells #[p.W,p.H,p.d,.slice (some ⟨f,0,none⟩) n d] 46));have ad:gg [] u w3:=(by rw[ae];exact(zR [] u).alloc _);have F:=W.o w3 k f d y s (z.Y ad);rw[<-E.o]at F;have⟨ao,an⟩:=gy ae ((C.o.tq D).tq ad);clear H z D ad ae;go_wp2_with fail;rw[<-ao.o];refine F.mono ?_;rintro e w4 ⟨rfl,M⟩;have V:=gd (an.o.tq M);clear F M;by_cases hlt:A<Bm
    .have t2:decide (A<Bm)=true:=zB hlt
     have e:kJ p (m+1)=k:=by
      have e:=ag.o m;rw[e,<-i.o,hmk,<-E.o,<-al.o,if_pos ⟨rfl,hlt⟩]
     have I:=gd e;clear e hlt;go_wp2_with fail
     go_roundg j
     .exact⟨k+1,by go_num,by omega,.inr ⟨m+1,by rw[<-i.o],by rw[I.o],by rw[I.o,E.o],rfl⟩,V⟩
     .omega
    .have t2:decide (A<Bm)=false:=zA hlt
     have e:kJ p (m+1)=kJ p m:=by
      have e:=ag.o m;rw[e,<-i.o,hmk,<-E.o,<-al.o,if_neg (λh=>hlt h.2)]
     have I:=gd e;clear e hlt;go_wp2_with fail
     go_roundg j
     .exact⟨k+1,by go_num,by omega,.inr ⟨m+1,by rw[<-i.o],by rw[I.o,aM.o],by rw[I.o,al.o],rfl⟩,V⟩
     .omega
end Go.Proofs.YtifdlkoepaepiaaGreatDoor
