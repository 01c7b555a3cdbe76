/- Lemmas. -/
import Derived.Test.YtifdlkoepaepiaaGreatDoorMh17
import Derived.Test.YtifdlkoepaepiaaGreatDoorMh28
set_option linter.all false
set_option maxHeartbeats 2000000
set_option maxRecDepth 100000
namespace Go.Proofs.YtifdlkoepaepiaaGreatDoor
open Tryz List Nat Go.RowKit
variable {l:List Int}{G:List Nat}{g k o x:Nat}{c:Nat->Nat}{B:Nat->Option Addr}{t:TypeId}{a b v:Value}{w w':World}
def oM(P:List (List Int))(i k:Nat):List Int:=(range 4).map λj=>if j<k then(P.getD j []).getD i 0 else 0
theorem Aw{P:List (List Int)}(i:Nat):oM P i P.length=oS P i:=by
 unfold oM oS;apply map_congr_left;intro j _;split
 .rfl
 .rename_i h
  rw[zD (l:=P),getElem?_eq_none (by omega)];rfl
theorem AX(P:List (List Int))(i:Nat)(d:k<4):(oM P i k).set k ((P.getD k []).getD i 0)=oM P i (k+1):=by
 rcases(by omega:k=0\/k=1\/k=2\/k=3)with rfl|rfl|rfl|rfl<;>rfl
theorem AW(P:List (List Int))(i k:Nat):(oM P i k).length=4:=by simp[oM]
theorem gn.set_vi(h:gn w g t (l.map vi).toArray)(k:Nat)(v:Int):gn (w.setCell ⟨g,k,none⟩ (.int .i64 v)) g t ((l.set k v).map vi).toArray:=by
 have d:=h.S k (.int .i64 v);have e:(l.map vi).toArray.setIfInBounds k (.int .i64 v)=((l.set k v).map vi).toArray:=by
  apply Array.ext';simp[map_set,vi]
 rwa [e]at d
theorem gn.vi_cell(h:gn w g t (l.map vi).toArray)(d:k<l.length):w.cell? ⟨g,k,none⟩=some (.int .i64 (l.getD k 0)):=by
 rw[h.X k,zD,zF d];simp[vi,d]
theorem xl(h:l.length=4):∃a b c e,l=[a,b,c,e]:=by
 match l,h with
 | [a,b,c,e],_=>exact⟨a,b,c,e,rfl⟩
structure iF (w:World) (x:Nat) (a b c v:Value):Prop where
 blk:gn w x 46 #[a,b,c,v]
theorem iF.cells{c:Value}(h:iF w x a b c v):w.cell? x=some a/\w.cell? ⟨x,1,none⟩=some b/\w.cell? ⟨x,2,none⟩=some c/\w.cell? ⟨x,3,none⟩=some v:=⟨h.blk.X 0,h.blk.X 1,h.blk.X 2,h.blk.X 3⟩
theorem iF.Z{c:Value}{F:List Nat}(h:iF w x a b c v)(d:gg F w w')(e:x∉F):iF w' x a b c v:=⟨h.blk.Z d e⟩
theorem iF.Y{c:Value}(h:iF w x a b c v)(d:gg [] w w'):iF w' x a b c v:=⟨h.blk.Z d (by simp)⟩
theorem FB{p q:qc}(h:p.Ok)(r:q.Ok)(f:iY p q):kp p q (p.W*p.H) 0=q:=by
 obtain⟨W,H,d,P⟩:=q;have e:=MI (P:=p.P) (Q:=P) (N:=p.W*p.H) f.n.symm (λj hj=>h.len _ (jQ hj)) (λj hj=>by
  have:=r.len _ (jQ (P:=P) (j:=j) (by rw[<-show p.P.length=P.length from f.n];exact hj))
  rw[<-show p.W=W from f.W,<-show p.H=H from f.H]at this;exact this)
 unfold kp;rw[e];have i:p.W=W:=f.W;have m:p.H=H:=f.H;have n:p.d=d:=f.d;rw[i,m,n]
theorem qF{F:Func}{Q:Ending->World->Prop}{a:Act}{Y:World}{C:Nat}{m n p q d e f i:Value}(j:iF Y C m n p q)(h:∀X,iF X C d e f i->gg [C] Y X->bodyPost prog F Q .ret a X):bodyPost prog F Q .ret a ((((Y.setCell C d).setCell ⟨C,1,none⟩ e).setCell ⟨C,2,none⟩ f).setCell ⟨C,3,none⟩ i):=
 nR j.blk λX h1 h2=>h X ⟨h1⟩ h2
def lA(w:World)(p:qc)(e:Ending)(w':World):Prop:=
 ∃(gP capP:Nat) (xs:List Value) (gs:List Nat),e=.returned (.tuple #[gW p gP 0 capP,(0:Int)])/\iL w' p gP capP xs gs/\gg [] w w'/\∀x∈gP::gs,w.heap.size<=x
def x5:Value:=.agg #[(0:Int),(0:Int),(0:Int),.slice none 0 0]
theorem RI{p:qc}(d:Nat)(h:ip w p g o B c G)(k:Nat)(I:k<=4)(u:kC p.P.length k=false)(f:FuncId)(H:f=75\/f=92):Calls prog f #[gW p g o d,k] w λe w'=>e=.returned (.tuple #[x5,(1:Int)])/\gg [] w w':=by
 have n:=h.ok;have m:∀w',gg [] w w'->_:=λw' (hc':gg [] w w')=>oJ d (h.Y hc');have s:=λw'=>uL p.P.length k w' n.n0 n.n1 I;rw[u]at s;unfold gW at m⊢;have⟨w1,aa⟩:=zX (((w.alloc (.cells #[p.W,p.H,p.d,.slice (some ⟨g,o,none⟩) p.P.length d] 46)).alloc (.cells #[(0:Int),(0:Int),(0:Int),.slice none 0 0] 46)));have ad:iF w1 w.heap.size (.int .i64 p.W) (.int .i64 p.H) (.int .i64 p.d) (.slice (some ⟨g,o,none⟩) p.P.length d):=⟨by rw[aa];exact(gn.new w _ _).alloc _⟩;have r:iF w1 (w.heap.size+1) (.int .i64 0) (.int .i64 0) (.int .i64 0) (.slice none 0 0):=⟨by rw[aa];exact gn.new2 w _ _ _⟩;have q:gg [] w w1:=by rw[aa];exact((zR [] w).alloc _).alloc _
 have⟨an,ag,ak,al⟩:=gu aa q ad r;have D:=gd m;obtain⟨y,z,A,C⟩:=ad.cells;clear aa q ad r m n h u;rcases H with rfl|rfl
 focus
  go_enter func75,ntmps75
 rotate_left
 focus
  go_enter func92,ntmps92
 all_goals
  go_wp2_with fail;rw[<-an.o];refine(D.o w1 ag.o).mono ?_;rintro e N ⟨rfl,i⟩;obtain⟨y,z,A,C⟩:=(ak.o.Y i).cells;have j:=al.o.Y i;obtain⟨P,Q,R,S⟩:=j.cells;have⟨f0,f1,f2,f3⟩:=RJ j.blk 0 1 2 3;have⟨ac,HZ⟩:=gy (ag.o.tq i) j;clear i j;go_wp2_with fail;refine(s _).mono ?_;rintro e O ⟨rfl,rfl⟩;go_wp2_with fail;refine qF HZ.o ?_;intro X E F;obtain⟨J,K,L,M⟩:=E.cells;refine bodyPost_ret (v:=.tuple #[x5,(1:Int)]) (by simp[results,results75,results92,go_sem,J,K,L,M,x5]) rfl ?_;exact⟨rfl,ac.o.trans F (λx hx=>.inr (by simp at hx;omega))⟩
theorem RH{p:qc}(A:Nat)(h:ip w p g o B c G)(k:Nat)(k4:k<=4)(m:kC p.P.length k=true)(f pf:FuncId)(hf:f=75/\pf=104\/f=92/\pf=109){q:qc}(hqk:q.Ok)(u:iY p q)(J:∀i wz,i<p.W*p.H->∃a b c e C D F H,oS p.P i=[a,b,c,e]/\Calls prog pf #[.agg #[.int .i64 a,.int .i64 b,.int .i64 c,.int .i64 e],k,p.d] wz (λen w'=>en=.returned (.agg #[.int .i64 C,.int .i64 D,.int .i64 F,.int .i64 H])/\gg [] wz w')/\∀j,j<p.P.length->(q.P.getD j []).getD i 0=[C,D,F,H].getD j 0):Calls prog f #[gW p g o A,k] w (lA w q):=by
 unfold lA;have V:=h.ok;have aV:∀w',gg [] w w'->_:=λw' (hc':gg [] w w')=>oJ A (h.Y hc');have aU:∀w',gg [] w w'->_:=λw' (hc':gg [] w w')=>BB A (h.Y hc');have aX:=λw'=>uL p.P.length k w' V.n0 V.n1 k4;rw[m]at aX;have⟨n,hn⟩:=zX p.P.length;have⟨N,hN⟩:=zX (p.W*p.H);have cl:n<=4:=by rw[hn];exact V.n1
 have cg:N<=4096:=by rw[hN];exact V.area
 have bw:∀wz,gg [] w wz->∀j,j<n->∃b q,wz.cell? ⟨g,o+j,none⟩=some (.slice (some ⟨b,q,none⟩) N (c j))/\b∈G/\∀i,i<N->wz.cell? ⟨b,q+i,none⟩=some (.int .i64 ((p.P.getD j []).getD i 0)):=by
  intro wz hc j hj;rw[hn]at hj;obtain⟨b,q,e,hb,cb⟩:=(h.Y hc).at_ hj;have Y:=(h.Y hc).X j hj;rw[e,<-hN]at Y;exact⟨b,q,Y,hb,λi P=>cb i (by rw[<-hN];exact P)⟩
 have bE:=h.gG;have bH:=h.lt;rw[<-hN]at J;have bJ:gW q=λr o' cap'=>.agg #[p.W,p.H,p.d,.slice (some ⟨r,o',none⟩) n cap']:=by
  funext r o' cap'
  unfold gW;rw[u.W,u.H,u.d,hn,u.n]
 rw[bJ];unfold gW at aV aU⊢;rw[<-hn]at aV aU aX J⊢;have⟨w1,aJ⟩:=zX (((w.alloc (.cells #[p.W,p.H,p.d,.slice (some ⟨g,o,none⟩) n A] 46)).alloc (.cells #[(0:Int),(0:Int),(0:Int),.slice none 0 0] 46)));have⟨X2,aB⟩:=zX w.heap.size;have⟨X4,T⟩:=zX (X2+1);have bg:iF w1 X2 (.int .i64 p.W) (.int .i64 p.H) (.int .i64 p.d) (.slice (some ⟨g,o,none⟩) n A):=⟨by rw[aJ,aB];exact(gn.new w _ _).alloc _⟩;have bh:iF w1 X4 (.int .i64 0) (.int .i64 0) (.int .i64 0) (.slice none 0 0):=⟨by rw[aJ,T,aB];exact gn.new2 w _ _ _⟩;have bv:gg [] w w1:=by rw[aJ];exact((zR [] w).alloc _).alloc _
 have U:gh (X2=w.heap.size/\X4=X2+1/\X4<w1.heap.size):=gd ⟨aB,T,bh.blk.lt⟩;have ch:(p.W:Int)*(p.H:Int)=(N:Int):=by rw[hN];simp
 have z:gh (n=p.P.length/\N=p.W*p.H):=gd ⟨hn,hN⟩;have⟨bX,aj,a5,bM⟩:=gu aJ bv bg bh;have⟨bR,bQ,bL,bV⟩:=gu aV aU bw J;have⟨bb,HQ,ay,ba⟩:=gu V hqk u bH;have⟨bq,b7,b9⟩:=Q9 bE aB T;obtain⟨K,L,M,O⟩:=bg.cells;clear aJ bv bg bh aV V h m aB T aU bw J hn hN hqk u bJ bH bE;rcases hf with⟨rfl,rfl⟩|⟨rfl,rfl⟩
 focus
  go_enter func75,ntmps75
 rotate_left
 focus
  go_enter func92,ntmps92
 all_goals
  go_wp2_with fail;rw[<-bX.o,<-b7.o,<-b9.o];refine(bR.o w1 aj.o).mono ?_;rintro e w2 ⟨rfl,bd⟩;obtain⟨K,L,M,O⟩:=(a5.o.Y bd).cells;have ao:=gd bd;clear bd;go_wp2_with fail;refine(aX _).mono ?_;rintro e w3 ⟨rfl,rfl⟩;clear aX;go_wp2_with fail;refine(bQ.o w2 (aj.o.tq ao.o)).mono ?_;rintro e w3 ⟨r,R,xs,gs,rfl,ai,br,aF⟩;have⟨w4,aK⟩:=zX (w3.alloc (.cells #[p.W,p.H,p.d,.slice (some ⟨r,0,none⟩) n R] 46));have⟨X6,aR⟩:=zX w3.heap.size;have be:=H4 aK;have bj:iF w4 X6 (.int .i64 p.W) (.int .i64 p.H) (.int .i64 p.d) (.slice (some ⟨r,0,none⟩) n R):=⟨RD aK aR⟩;have ar:gg [] w1 w4:=(ao.o.tq br).tq be;have bG:∀x∈r::gs,w1.heap.size<=x/\x<X6:=λx hx=>⟨by have:=aF x hx;have:=ao.o.size;omega,by
   rw[aR];rcases zJ.1 hx with rfl|s
   .exact ai.ltP
   .exact ai.pl.lt x s⟩
  have am:=ai.Y be;obtain⟨K,L,M,O⟩:=(a5.o.Y ar).cells;rw[aK]at K L M O;have aC:=bj.blk.lt;have⟨bY,b5,aa,ap⟩:=gu aK aR ar bG;have⟨bc,bN,ad⟩:=Q9 am bj aC;clear aK aR be bj ar bG am br aF ai aC;go_wp2_with fail;rw[<-bY.o,<-b5.o]
  go_loopg [7,8,9,10,11,12,32] N (λj v7 v8 v9 v10 v11 v12 v32 wr=>∃i:Nat,v32=.int .i64 i/\i+j=N/\gh (iL wr (kp p q i 0) r R xs gs)/\gh (gg gs w4 wr))
  .exact⟨0,rfl,by omega,gd (by unfold kp;rw[Da];exact bc.o),gd (zR _ _)⟩
  obtain⟨i,rfl,cj,HO,S⟩:=hrel;have aG:∀x,x<w1.heap.size\/X6<=x->x∉r::gs:=λx hx m=>by have:=ap.o x m;omega
  have ah:=gd aG;have bA:=λ(E:List Nat) wz (hz:gg E wr wz) (hE:∀x,x<w1.heap.size\/x=X6->x∉E)=>And.intro
   ((((a5.o.Y aa.o).Z S.o (λm=>ah.o X2 (.inl (by have:=U.o;omega)) (by simp[m]))).Z hz (hE X2 (.inl (by have:=U.o;omega)))))
   (And.intro ((((bM.o.Y aa.o).Z S.o (λm=>ah.o X4 (.inl (by have:=U.o;omega)) (by simp[m]))).Z hz (hE X4 (.inl (by have:=U.o;omega)))))
   ((bN.o.Z S.o (λm=>ah.o X6 (.inr (zQ _)) (by simp[m]))).Z hz (hE X6 (.inr rfl))))
  have az:=gd bA;clear bA aG;rcases gk with _|j
  .obtain rfl:i=N:=by omega
   have t1:decide ((i:Int)<(i:Int))=false:=(by simp);obtain⟨s,y,I⟩:=az.o [] wr (zR _ _) (by simp);obtain⟨K,L,M,O⟩:=s.cells;obtain⟨b0,b1,b2,b3⟩:=I.cells;obtain⟨z0,z1,z2,z3⟩:=y.cells;have⟨f0,f1,f2,f3⟩:=RJ y.blk 0 1 2 3;have HZ:=gd y;clear s y I;go_wp2_with fail;refine qF HZ.o ?_;intro X hX hY;obtain⟨x0,x1,x2,x3⟩:=hX.cells;refine bodyPost_ret (v:=.tuple #[.agg #[.int .i64 p.W,.int .i64 p.H,.int .i64 p.d,.slice (some ⟨r,0,none⟩) n R],(0:Int)]) (by simp[results,results75,results92,go_sem,x0,x1,x2,x3]) rfl ?_;have ho:=HO.o;have e:=z.o.2;rw[e,FB bb.o HQ.o ay.o]at ho;have T:X4∉r::gs:=ah.o X4 (.inl (by have:=U.o;omega));refine⟨r,R,xs,gs,rfl,ho.Z hY (by simp;exact λe=>T (by simp[e])) (λx hx m=>by simp at m;subst m;exact T (by simp[hx])),?_,λx hx=>by have:=ap.o x hx;have:=aj.o.size;omega⟩;refine((aj.o.tq aa.o).trans S.o (λx hx=>.inr ?_)).trans hY (λx hx=>.inr ?_)
   .have:=ap.o x (by simp[hx]);have:=aj.o.size;omega
   .simp at hx
    have:=U.o
    omega
  .have P:i<N:=by omega
   have t1:=jo i N (by omega);obtain⟨wo,rfl⟩:=zX wr;have⟨wr0,ae⟩:=zX (wo.alloc (.cells #[(0:Int),(0:Int),(0:Int),(0:Int)] 73));have⟨X8,aS⟩:=zX wo.heap.size;have aQ:=H4 ae;have bx:gn wr0 X8 73 ((oM p.P i 0).map vi).toArray:=RD ae aS;have aL:w4.heap.size<=X8:=(by rw[aS];exact S.o.size);obtain⟨s,y,I⟩:=az.o [] wr0 aQ (by simp);obtain⟨K,L,M,O⟩:=s.cells;have aI:=HO.o.Y aQ;rw[ae]at K L M O;have⟨b4,b6,bo,bO⟩:=gu ae aS aQ bx;have Q:=gd aL;clear ae aS aQ bx s y I aL aI;have bu:∀wz,gg [X8] wr0 wz->∀j,j<n->∃b q,wz.cell? ⟨g,o+j,none⟩=some (.slice (some ⟨b,q,none⟩) N (c j))/\wz.cell? ⟨b,q+i,none⟩=some (.int .i64 ((p.P.getD j []).getD i 0)):=by
    intro wz hz j hj;have bC:gg (X8::gs) w wz:=(((aj.o.tq aa.o).mono (F':=X8::gs) (by simp)).trans (S.o.mono (F':=X8::gs) (by simp +contextual)) (λx hx=>.inl hx)).trans ((bo.o.mono (F':=X8::gs) (by simp)).trans (hz.mono (F':=X8::gs) (by simp +contextual)) (λx hx=>.inl hx)) (λx hx=>.inl hx);obtain⟨b,q,W,hb,e2⟩:=bL.o w (zR _ _) j hj;have aE:∀x∈G,x∉X8::gs:=λx hx m=>by
     have:=ba.o x hx
     rcases zJ.1 m with rfl|m
     .have:=Q.o;have:=aj.o.size;have:=aa.o.size;omega
     .have:=ap.o x (by simp[m]);have:=aj.o.size;omega
    exact⟨b,q,(World.cell?_of_block (w:=w) (bC.block g (ba.o g bq.o) (aE g bq.o))).trans W,(World.cell?_of_block (w:=w) (bC.block b (ba.o b hb) (aE b hb))).trans (e2 i P)⟩
   have a4:=gd bu;clear bu;go_wp2_with fail;rw[<-b4.o,<-b6.o]
   go_loopg [9,10,38] n (λj2 v9 v10 v38 wz=>∃k2:Nat,v38=.int .i64 k2/\k2+j2=n/\gh (gn wz X8 73 ((oM p.P i k2).map vi).toArray)/\gh (gg [X8] wr0 wz))
   .exact⟨0,rfl,by omega,bO,gd (zR _ _)⟩
   obtain⟨k2,rfl,ck,aO,a9⟩:=hrel;rcases gk with _|j2
   .obtain rfl:k2=n:=by omega
    have t2:decide ((k2:Int)<(k2:Int))=false:=(by simp);have Z:∀x,x<w1.heap.size\/x=X6->x∉[X8]:=λx hx m=>by simp at m;have:=Q.o;have:=ad.o;have:=aa.o.size;omega
    have au:gg [X8] wo wr:=(bo.o.mono (by simp)).trans a9.o (λx hx=>.inl hx);obtain⟨s,y,I⟩:=az.o [X8] wr au Z;obtain⟨K,L,M,O⟩:=s.cells;have ak:=aO.o;rw[z.o.1,Aw]at ak;obtain⟨a,b,c',e',C,D,F,H,bI,al,hy⟩:=bV.o i wr P;rw[bI]at ak;have⟨k0,k1,aZ,d⟩:=my ak;simp[vi]at k0 k1 aZ d;have⟨aA,HY,a6,a7⟩:=gu al hy ak au;clear Z au s y I ak bI al hy;go_wp2_with fail;refine aA.o.mono ?_;rintro e w9 ⟨rfl,bf⟩;have af:=a6.o.Z bf (by simp);have⟨k0,k1,aZ,d⟩:=my af;have⟨f0,f1,f2,f3⟩:=RJ af 0 1 2 3;simp[vi]at k0 k1 aZ d;have⟨wB,aM⟩:=zX (((((w9.setCell X8 (.int .i64 C)).setCell ⟨X8,1,none⟩ (.int .i64 D)).setCell ⟨X8,2,none⟩ (.int .i64 F)).setCell ⟨X8,3,none⟩ (.int .i64 H)));have bz:gn wB X8 73 (([C,D,F,H]:List Int).map vi).toArray:=by
     rw[aM]
     have:=(((af.S 0 (.int .i64 C)).S 1 (.int .i64 D)).S 2 (.int .i64 F)).S 3 (.int .i64 H)
     simpa[vi]using this
    have aT:gg [X8] wo wB:=by
     have:=((((zR [X8] w9).zs 0 (.int .i64 C)).zs 1 (.int .i64 D)).zs 2 (.int .i64 F)).zs 3 (.int .i64 H)
     rw[aM];exact(a7.o.tq (bf.mono (by simp))).tq this
    have Z:∀x,x<w1.heap.size\/x=X6->x∉[X8]:=λx hx m=>by simp at m;have:=Q.o;have:=ad.o;have:=aa.o.size;omega
    have av:∀x∈r::gs,x∉[X8]:=λx hx m=>by simp at m;have:=ap.o x hx;have:=Q.o;have:=ad.o;omega
    obtain⟨s,y,I⟩:=az.o [X8] wB aT Z;obtain⟨b0,b1,b2,b3⟩:=I.cells;have aH:=HO.o.Z aT (av r (by simp)) (λx hx=>av x (by simp[hx]));have⟨bZ,bP,bp,bU⟩:=gu aM bz aT aH;rw[aM]at b0 b1 b2 b3;clear af aM bz aT aH s y I Z av K L M O bf;go_wp2_with fail;rw[<-bZ.o];clear b0 b1 b2 b3 k0 k1 aZ d f0 f1 f2 f3
    go_loopg [11,12,58] k2 (λj2 v11 v12 v58 wz=>∃d:Nat,v58=.int .i64 d/\d+j2=k2/\gh (iL wz (kp p q i d) r R xs gs)/\gh (gg gs wB wz))
    .exact⟨0,rfl,by omega,bU,gd (zR _ _)⟩
    obtain⟨d,rfl,cf,aP,ag⟩:=hrel;have h8:X8∉gs:=λm=>by have:=ap.o X8 (by simp[m]);have:=Q.o;have:=ad.o;omega
    have bi:=bP.o.Z ag.o h8;rcases gk with _|j3
    .obtain rfl:d=k2:=by omega
     have t3:decide ((d:Int)<(d:Int))=false:=(by simp);clear bi h8;go_wp2_with fail
     go_roundg j
     .refine⟨i+1,by go_num,by omega,gd ?_,gd ?_⟩
      .have:=aP.o
       unfold kp at this⊢;rw[z.o.1,Ey]at this;exact this
      .refine(S.o.trans bp.o (λx hx=>.inr (by simp at hx;have:=Q.o;omega))).trans ag.o (λx hx=>.inl hx)
     .omega
    .have ce:d<k2:=by omega
     have aW:d<(kp p q i d).P.length:=(by show _<(mq _ _ _ _).length;rw[oU,<-z.o.1];exact ce);obtain⟨g3,c3,W,e2,e3,e4⟩:=aP.o.plane aW;have bn:(kp p q i d).W*(kp p q i d).H=N:=z.o.2.symm;rw[bn]at W e3 e4;have aw:((kp p q i d).P.getD d []).length=N:=(by rw[<-bn];exact(aP.o.ok).len _ (jQ aW));obtain⟨_,_,_,_,Y,bD⟩:=e3.T;have cc:=bD i;have bB:wr.cell? ⟨g3,i,none⟩=some (.int .i64 (((kp p q i d).P.getD d []).getD i 0)):=by
      refine Y i _ ?_;rw[zD (l:=(kp p q i d).P.getD d []),zF (by rw[aw];exact P)];rfl
     have ca:=bi.vi_cell (k:=d) (by simp;omega);obtain⟨s,y,bs⟩:=az.o (X8::gs) wr ((bp.o.mono (by simp)).trans (ag.o.mono (by simp +contextual)) (λx hx=>.inl hx)) (λx hx m=>by
      rcases zJ.1 m with e|m
      .have:=Q.o;have:=ad.o;have:=aa.o.size;omega
      .have:=ap.o x (by simp[m]);omega)
     obtain⟨b0,b1,b2,b3⟩:=bs.cells;have bm:iL (wr.setCell ⟨g3,i,none⟩ (.int .i64 ([C,D,F,H].getD d 0))) (kp p q i (d+1)) r R xs gs:=by
      refine aP.o.sample W e2 aW e3 (by rw[aw];exact P) (Gv bb.o HQ.o ay.o _ _) ?_;rw[<-HY.o d (by have:=z.o.1;omega)];exact(DL (by have:=z.o.1;omega) (by rw[bb.o.len _ (jQ (by have:=z.o.1;omega)),<-z.o.2];exact P) (by rw[HQ.o.len _ (jQ (by have:=z.o.1;have:=ay.o.n;omega)),<-ay.o.W,<-ay.o.H,<-z.o.2];exact P)).symm
     have bF:g3∈gs:=mem_of_getElem? e2;have bl:gg gs wB (wr.setCell ⟨g3,i,none⟩ (.int .i64 ([C,D,F,H].getD d 0))):=ag.o.setCell (.inl bF) _;have⟨yv,bK⟩:=zX ([C,D,F,H].getD d 0);rw[<-bK]at ca bm bl;have⟨bT,bS⟩:=gy bm bl;clear bm bl bK s y bs bi h8 W e2 e3 bD Y bn aw bF aW;go_wp2_with fail
     go_roundg j3
     .exact⟨d+1,by go_num,by omega,bT,bS⟩
     .omega
   .have cd:k2<n:=by omega
    have t2:=jo k2 n (by omega);obtain⟨b,q',W,e2⟩:=a4.o wr a9.o k2 cd;have hf:=aO.o.U k2;have ci:=aO.o.vi_cell (k:=k2) (by rw[AW];omega);have aY:=aO.o.set_vi k2 ((p.P.getD k2 []).getD i 0);rw[AX p.P i (by omega)]at aY;have bk:gg [X8] wr0 (wr.setCell ⟨X8,k2,none⟩ (.int .i64 ((p.P.getD k2 []).getD i 0))):=a9.o.setCell (.inl (by simp)) _;have⟨v,hv⟩:=zX ((p.P.getD k2 []).getD i 0);rw[<-hv]at e2 aY bk;have⟨bW,a8⟩:=gy aY bk;clear aY bk hv;go_wp2_with fail
    go_roundg j2
    .exact⟨k2+1,by go_num,by omega,bW,a8⟩
    .omega
theorem Mu{p:qc}(d:Nat)(h:ip w p g o B c G)(k:Nat)(i:k<=4)(f:kC p.P.length k=false):Calls prog 75 #[gW p g o d,k] w λe w'=>e=.returned (.tuple #[x5,(1:Int)])/\gg [] w w':=RI d h k i f _ (.inl rfl)
theorem Fl{p:qc}(d:Nat)(h:ip w p g o B c G)(k:Nat)(m:k<=4)(n:kC p.P.length k=true):Calls prog 75 #[gW p g o d,k] w (lA w (jg k p)):=
 RH d h k m n _ _ (.inl ⟨rfl,rfl⟩) (sS h.ok k) ⟨rfl,rfl,rfl,(pH _ _ _).symm⟩ λi wz hi=>by
  obtain⟨q,r,s,u,f⟩:=xl (Mp k p.d ((p.P.getD 0 []).getD i 0) ((p.P.getD 1 []).getD i 0) ((p.P.getD 2 []).getD i 0) ((p.P.getD 3 []).getD i 0));have e:=Lk k p.d _ _ _ _ wz h.ok.d0 h.ok.d1 m (l7 h.ok i 0) (l7 h.ok i 1) (l7 h.ok i 2) (l7 h.ok i 3);rw[f]at e;refine⟨_,_,_,_,q,r,s,u,BI _ _,e,λj hj=>?_⟩;rw[<-f];exact xp hj hi
theorem NT{p:qc}(d:Nat)(h:ip w p g o B c G)(k:Nat)(m:k<=4)(n:kC p.P.length k=true):Calls prog 92 #[gW p g o d,k] w (lA w (rt k p)):=
 RH d h k m n _ _ (.inr ⟨rfl,rfl⟩) (EX h.ok k) ⟨rfl,rfl,rfl,(pH _ _ _).symm⟩ λi wz hi=>by
  obtain⟨q,r,s,u,f⟩:=xl (L3 k p.d ((p.P.getD 0 []).getD i 0) ((p.P.getD 1 []).getD i 0) ((p.P.getD 2 []).getD i 0) ((p.P.getD 3 []).getD i 0));have e:=K4 k p.d _ _ _ _ wz h.ok.d0 h.ok.d1 m (l7 h.ok i 0) (l7 h.ok i 1) (l7 h.ok i 2) (l7 h.ok i 3);rw[f]at e;refine⟨_,_,_,_,q,r,s,u,BI _ _,e,λj hj=>?_⟩;rw[<-f];exact xp hj hi
theorem NV{p:qc}(s:Nat)(h:ip w p g o B c G):Calls prog 103 #[gW p g o s] w λe w'=>e=.returned (.int .i64 (oH p))/\gg [] w w':=by
 have d:=h.ok;have D:∀w',gg [] w w'->_:=λw' (hc':gg [] w w')=>oJ s (h.Y hc');have⟨n,hn⟩:=zX p.P.length;have⟨N,hN⟩:=zX (p.W*p.H);have aZ:n<=4:=by rw[hn];exact d.n1
 have aR:N<=4096:=by rw[hN];exact d.area
 have ay:∀r,gg [] w r->∀j,j<n->∃b q,r.cell? ⟨g,o+j,none⟩=some (.slice (some ⟨b,q,none⟩) N (c j))/\∀i,i<N->r.cell? ⟨b,q+i,none⟩=some (.int .i64 ((p.P.getD j []).getD i 0)):=by
  intro r hc j W;rw[hn]at W;obtain⟨b,q,e,hb,aO⟩:=(h.Y hc).at_ W;have C:=(h.Y hc).X j W;rw[e,<-hN]at C;exact⟨b,q,C,λi V=>aO i (by rw[<-hN];exact V)⟩
 have aB:∀v r,_:=λv r=>oB v p.d r d.d0 d.d1;have Z:∀v,_:=λv=>qJ v d.d0 d.d1;have aE:=λk=>Bo d k;have aC:=λl k=>Bn l p.W d.d0 d.d1 k;have aD:∀j i,Rb p.d ((p.P.getD j []).getD i 0):=λj i=>l7 d i j;obtain⟨a4,a5⟩:=jX d.d0 d.d1;unfold gW at D⊢;rw[<-hn]at D⊢;have C:oH p=qT p n:=by rw[hn];rfl
 rw[C];have⟨w1,ah⟩:=zX (w.alloc (.cells #[p.W,p.H,p.d,.slice (some ⟨g,o,none⟩) n s] 46));have⟨X,hX⟩:=zX w.heap.size;have K:iF w1 X (.int .i64 p.W) (.int .i64 p.H) (.int .i64 p.d) (.slice (some ⟨g,o,none⟩) n s):=⟨RD ah hX⟩;have ax:=H4 ah;have aU:=d.w0;have aV:=d.w1;have HN:gh (n=p.P.length/\N=p.W*p.H):=gd ⟨hn,hN⟩;have⟨aK,aL,aq,aG⟩:=gu ah hX ax K;have⟨aH,aF,av,au⟩:=gu D ay aB Z;have⟨aJ,aI,aw⟩:=Q9 aE aC aD;obtain⟨a0,a1,a2,a3⟩:=K.cells;clear ah ax K D d h hX ay hn hN aB Z aE aC C aD;go_enter func103,ntmps103;go_wp2_with fail;rw[<-aK.o,<-aL.o];refine(aH.o w1 aq.o).mono ?_;rintro e Y ⟨rfl,J⟩;obtain⟨a0,a1,a2,a3⟩:=(aG.o.Y J).cells;have ad:=gd (aq.o.tq J);clear J;go_wp2_with fail
 go_loopg [3,5,6,7,8,9,16,20,21,22] n (λj v3 v5 v6 v7 v8 v9 v16 v20 v21 v22 wr=>∃k:Nat,v16=.int .i64 k/\k+j=n/\v3=.int .i64 (qT p k:Int)/\Y=wr)
 .exact⟨0,rfl,by omega,rfl,rfl⟩
 obtain⟨k,rfl,aY,rfl,rfl⟩:=hrel;rcases gk with _|j
 .obtain rfl:k=n:=by omega
  have t1:decide ((k:Int)<(k:Int))=false:=by simp
  go_wp2_with fail;go_ret;exact⟨rfl,ad.o⟩
 .have hk:k<n:=by omega
  obtain⟨b,q,e1,e2⟩:=aF.o Y ad.o k hk;have ar:=gd e2;have az:=aJ.o k;have⟨T,hT⟩:=zX (qT p k);rw[<-hT]at az⊢;have HT:=gd hT;have aT:T<=600000000:=by omega
  clear e2 az hT;go_wp2_with fail
  go_loopg [3,6,7,8,9,22] N (λE v3 v6 v7 v8 v9 v22 wr=>∃i:Nat,v22=.int .i64 i/\i+E=N/\v3=.int .i64 ((T+qS (p.P.getD k []) p.W p.d i:Nat):Int)/\Y=wr)
  .exact⟨0,rfl,by omega,rfl,rfl⟩
  obtain⟨i,rfl,aX,rfl,rfl⟩:=hrel;rcases gk with _|E
  .obtain rfl:i=N:=by omega
   have t2:decide ((i:Int)<(i:Int))=false:=(by simp);go_wp2_with fail
   go_roundg j
   .exact⟨k+1,by go_num,by omega,by rw[Es,<-HT.o,<-HN.o.2],rfl⟩
   .omega
  .have V:i<N:=by omega
   have e2:=ar.o i V;have⟨l,hl⟩:=zX (p.P.getD k []);have m:=Er l p.W p.d i;have L:=aI.o l i;have⟨v,hv⟩:=zX (l.getD i 0);have P:=aw.o k i;rw[<-hl]at e2 P⊢;rw[<-hv]at e2 m P;obtain⟨a6,a7⟩:=P;have⟨x,hx⟩:=zX (i%p.W);have aM:(i:Int)%(p.W:Int)=(x:Int):=(by rw[hx];simp);have aQ:(i:Int).tmod (p.W:Int)=(x:Int):=(by rw[Int.tmod_eq_emod_of_nonneg (by omega)];exact aM);have⟨S,hS⟩:=zX (qS l p.W p.d i);rw[<-hS,<-hx]at m;rw[<-hS]at L⊢;have aS:S<=200000000:=(by omega);have I:=gd hl;by_cases h0:x=0
   .have t3:decide (0<x)=false:=zA (by omega)
    rw[if_pos h0]at m;have z:=λr=>av.o (v-0) r;obtain⟨Q,R⟩:=au.o (v-0);have⟨f,af⟩:=zX (ii (v-0) p.d);rw[<-af]at m z Q R;rw[show v-0=v by omega]at z;have M:(if f < -f then -f else f)=(f.natAbs:Int):=(by split<;>omega);have F:(if -f<f then f else -f)=(f.natAbs:Int):=(by split<;>omega);have⟨A,hA⟩:=zX f.natAbs;rw[<-hA]at m M F;have aN:A<=32768:=(by omega);have H:=gd m;clear m L af hS hx hl hv h0 hA
    go_wp2_with(go_at_call 79;refine gB (z _) ?_)
    go_roundg E
    .exact⟨i+1,by go_num,by omega,by rw[<-I.o,H.o,<-Nat.add_assoc,Int.natCast_add (T+S) A];go_num,rfl⟩
    .omega
   .have t3:decide (0<x)=true:=zB (by omega)
    rw[if_neg h0]at m;have aW:0<i:=by
     rcases eq_zero_or_pos i with U|U
     .exfalso;rw[U,zero_mod]at hx;exact h0 hx
     .exact U
    obtain⟨y,aP⟩:∃y,i=y+1:=⟨i-1,by omega⟩;have e3:=ar.o y (by omega);rw[show q+y=q+(i-1)by omega]at e3;have O:=aw.o k y;rw[show i-1=y by omega]at m;have⟨u,hu⟩:=zX (l.getD y 0);rw[<-I.o]at e3 O;rw[<-hu]at e3 m O;obtain⟨a8,a9⟩:=O;have z:=λr=>av.o (v-u) r;obtain⟨Q,R⟩:=au.o (v-u);have⟨f,af⟩:=zX (ii (v-u) p.d);rw[<-af]at m z Q R;have M:(if f < -f then -f else f)=(f.natAbs:Int):=(by split<;>omega);have F:(if -f<f then f else -f)=(f.natAbs:Int):=(by split<;>omega);have⟨A,hA⟩:=zX f.natAbs;rw[<-hA]at m M F;have aN:A<=32768:=(by omega);have H:=gd m;clear m L af hS hx hl hv h0 hA hu aP
    go_wp2_with(go_at_call 79;refine gB (z _) ?_)
    go_roundg E
    .exact⟨i+1,by go_num,by omega,by rw[<-I.o,H.o,<-Nat.add_assoc,Int.natCast_add (T+S) A];go_num,rfl⟩
    .omega
theorem NU{p:qc}(q:Nat)(h:ip w p g o B c G):Calls prog 74 #[gW p g o q] w λe w'=>e=.returned (.int .i64 (kJ p 4))/\gg [] w w':=by
 have M:=h.ok;have I:∀w' k,gg [] w w'->k<=4->kC p.P.length k=true->_:=λw' k (hc':gg [] w w') k4 r=>Fl q (h.Y hc') k k4 r;have Q:∀w' k,gg [] w w'->k<=4->kC p.P.length k=false->_:=λw' k (hc':gg [] w w') k4 r=>Mu q (h.Y hc') k k4 r;have S:=xg M 0;have aH:=λk=>Bo (sS M k) (jg k p).P.length;have R:∀k,(jg k p).P.length=p.P.length:=λk=>pH _ _ _;have aT:=M.n1;have aF:∀k,oH (jg k p)<=536870912:=λk=>by
  have K:=aH k;have h2:=R k;unfold oH;rw[h2]at K⊢;omega
 unfold lA at I;unfold gW x5 at *;have T:∀k f d,(.agg #[.int .i64 ((jg k p).W:Int),.int .i64 ((jg k p).H:Int),.int .i64 ((jg k p).d:Int),.slice (some ⟨f,0,none⟩) (jg k p).P.length d]:Value)=.agg #[p.W,p.H,p.d,.slice (some ⟨f,0,none⟩) p.P.length d]:=λk f d=>by rw[R];rfl
 have P:∀ {wz:World} {k f d:Nat} {u:List Value} {s:List Nat},iL wz (jg k p) f d u s->Calls prog 103 #[.agg #[.int .i64 p.W,.int .i64 p.H,.int .i64 p.d,.slice (some ⟨f,0,none⟩) p.P.length d]] wz λe w'=>e=.returned (.int .i64 (oH (jg k p)))/\gg [] wz w':=fun {wz k f d u s} y=>by
  have K:=NV d y.at_;unfold gW at K;rw[T]at K;exact K
 simp only[T]at I;have⟨n,hn⟩:=zX p.P.length;simp only[<-hn]at I Q P S⊢;have⟨w1,ak⟩:=zX (w.alloc (.cells #[p.W,p.H,p.d,.slice (some ⟨g,o,none⟩) n q] 46));have⟨X,hX⟩:=zX w.heap.size;have O:iF w1 X (.int .i64 p.W) (.int .i64 p.H) (.int .i64 p.d) (.slice (some ⟨g,o,none⟩) n q):=⟨RD ak hX⟩;have Y:=H4 ak;have Z:∀m,kJ p (m+1)=if kC n (m+1)=true/\oH (jg (m+1) p)<oH (jg (kJ p m) p)then m+1 else kJ p m:=λm=>by rw[hn];rfl
 have⟨aO,aP,am,aI⟩:=gu ak hX Y O;have⟨aL,aK⟩:=gy I Q;have W:=gd (λwz k f d u s (h:iL wz (jg k p) f d u s)=>P h);have⟨aN,aB,ag,aJ⟩:=gu S aF Z (xq p);obtain⟨a0,a1,a2,a3⟩:=O.cells;clear ak Y O M h hX hn I Q P S aH R aF T Z;go_enter func74,ntmps74;go_wp2_with fail;rw[<-aO.o,<-aP.o]
 go_loopg [3,4,5,6,7,8,9,10] 5 (λj v3 v4 v5 v6 v7 v8 v9 v10 wr=>∃k:Nat,v10=.int .i64 k/\k+j=5/\((k=0/\v3=.int .i64 0/\v4=.int .i64 0/\v5=.bool false)\/∃m,k=m+1/\v3=.int .i64 (kJ p m:Int)/\v4=.int .i64 (oH (jg (kJ p m) p):Int)/\v5=.bool true)/\gh (gg [] w1 wr))
 .exact⟨0,rfl,rfl,.inl ⟨rfl,rfl,rfl,rfl⟩,gd (zR _ _)⟩
 obtain⟨k,rfl,aS,U,z⟩:=hrel;rcases gk with _|j
 .obtain rfl:k=5:=by omega
  rcases U with⟨J,_⟩|⟨m,r,rfl,rfl,rfl⟩
  .omega
  .obtain rfl:m=4:=by omega
   go_wp2_with fail;go_ret;exact⟨rfl,am.o.tq z.o⟩
 .have t1:=jo k 5 (by omega)
  obtain⟨a0,a1,a2,a3⟩:=(aI.o.Y z.o).cells;have aG:k<=4:=by omega
  cases hmk:kC n k with
  | false=>
   have F:=aK.o wr k (am.o.tq z.o) aG hmk;rcases U with⟨J,_⟩|⟨m,r,rfl,rfl,rfl⟩
   .subst J;have:=aN.o;simp only[kJ]at this;rw[this]at hmk;cases hmk
   .have i:=gd r
    clear r;go_wp2_with fail;refine F.mono ?_;rintro e N ⟨rfl,C⟩;go_wp2_with fail
    go_roundg j
    .refine⟨k+1,by go_num,by omega,.inr ⟨m+1,by rw[<-i.o],?_,?_,rfl⟩,gd ((z.o.tq C).alloc _)⟩
     .rw[ag.o,<-i.o,hmk,if_neg (by simp)]
     .rw[ag.o,<-i.o,hmk,if_neg (by simp)]
    .omega
  | true=>
   have F:=aL.o wr k (am.o.tq z.o) aG hmk;have hA:=aB.o k;have⟨A,ap⟩:=zX (oH (jg k p));rw[<-ap]at hA;have D:=gd ap;clear ap;rcases U with⟨J,rfl,rfl,rfl⟩|⟨m,r,rfl,rfl,rfl⟩
   .have i:=gd J
    clear J;go_wp2_with fail;refine F.mono ?_;rintro e N ⟨f,d,u,s,rfl,y,C,-⟩;have⟨w3,ae⟩:=zX (N.alloc (.cells #[p.W,p.H,p.d,.slice (some ⟨f,0,none⟩) n d] 46));have ad:=H4 ae;have E:=W.o w3 k f d u s (y.Y ad);rw[<-D.o]at E;have⟨ao,an⟩:=gy ae ((z.o.tq C).tq ad);clear F y C ad ae;go_wp2_with fail;rw[<-ao.o];refine E.mono ?_;rintro e w4 ⟨rfl,L⟩;go_wp2_with fail
    go_roundg j
    .exact⟨k+1,by go_num,by omega,.inr ⟨0,by rw[i.o],by rw[i.o];rfl,by rw[D.o,i.o];rfl,rfl⟩,gd (an.o.tq L)⟩
    .omega
   .have aQ:=aB.o (kJ p m)
    have⟨Bm,aq⟩:=zX (oH (jg (kJ p m) p));have⟨Km,ai⟩:=zX (kJ p m);rw[<-aq]at aQ⊢;rw[<-ai];have aR:=aJ.o m;rw[<-ai]at aR;have⟨al,aM,i⟩:=Q9 aq ai r;clear aq ai r;go_wp2_with fail;refine F.mono ?_;rintro e N ⟨f,d,u,s,rfl,y,C,-⟩;have⟨w3,ae⟩:=zX (N.alloc (.cells #[p.W,p.H,p.d,.slice (some ⟨f,0,none⟩) n d] 46));have ad:=H4 ae;have E:=W.o w3 k f d u s (y.Y ad);rw[<-D.o]at E;have⟨ao,an⟩:=gy ae ((z.o.tq C).tq ad);clear F y C ad ae;go_wp2_with fail;rw[<-ao.o];refine E.mono ?_;rintro e w4 ⟨rfl,L⟩;have V:=gd (an.o.tq L);clear E L;by_cases hlt:A<Bm
    .have t2:decide (A<Bm)=true:=zB hlt
     have e:kJ p (m+1)=k:=by
      have e:=ag.o m;rw[e,<-i.o,hmk,<-D.o,<-al.o,if_pos ⟨rfl,hlt⟩]
     have H:=gd e;clear e hlt;go_wp2_with fail
     go_roundg j
     .exact⟨k+1,by go_num,by omega,.inr ⟨m+1,by rw[<-i.o],by rw[H.o],by rw[H.o,D.o],rfl⟩,V⟩
     .omega
    .have t2:decide (A<Bm)=false:=zA hlt
     have e:kJ p (m+1)=kJ p m:=by
      have e:=ag.o m;rw[e,<-i.o,hmk,<-D.o,<-al.o,if_neg (λh=>hlt h.2)]
     have H:=gd e;clear e hlt;go_wp2_with fail
     go_roundg j
     .exact⟨k+1,by go_num,by omega,.inr ⟨m+1,by rw[<-i.o],by rw[H.o,aM.o],by rw[H.o,al.o],rfl⟩,V⟩
     .omega
end Go.Proofs.YtifdlkoepaepiaaGreatDoor
