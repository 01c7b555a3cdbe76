/- Lemmas. -/
import Derived.Test.YtnepiccbpokmiaaGreatDoorMg34
import Derived.Test.YtnepiccbpokmiaaGreatDoorMg42
set_option linter.all false
set_option maxHeartbeats 4000000
set_option maxRecDepth 100000
namespace Go.Proofs.YtnepiccbpokmiaaGreatDoor
open Tryz List Nat Go.RowKit
def Ff:List Int:=[3,1,3,4,2,3]
theorem Js(k:Nat)(h:k<6):∃n:Nat,Ff[k]?=some (n:Int)/\1<=n/\n<=4:=by
 rcases(by omega:k=0\/k=1\/k=2\/k=3\/k=4\/k=5)with rfl|rfl|rfl|rfl|rfl|rfl
 .exact⟨3,rfl,by omega,by omega⟩
 .exact⟨1,rfl,by omega,by omega⟩
 .exact⟨3,rfl,by omega,by omega⟩
 .exact⟨4,rfl,by omega,by omega⟩
 .exact⟨2,rfl,by omega,by omega⟩
 .exact⟨3,rfl,by omega,by omega⟩
def FU(W H d:Nat)(P:List (List Int)):Prop:=∀l∈P,l.length=W*H/\gU d l
def Bg(w:World)(b cap:Nat)(A:Option Addr)(L:List Int)(side:Nat)(e:Ending)(w':World):Prop:=
 ∃(p:gH) (gP capP:Nat) (xs:List Value) (gs:List Nat) (at':Nat),e=.returned (gN p gP 0 capP)/\p.W<=side/\p.H<=side/\iL w' p gP capP xs gs/\jo w' b A cap L at'/\gf [b] w w'/\∀x∈gP::gs,w.heap.size<=x
theorem OE(w:World)(b cap at_ a:Nat)(A:Option Addr)(L:List Int)(h:jo w b A cap L at_)(G:1<=a)(hs1:a<=64):Calls prog 12 #[.pointer b,a] w (Bg w b cap A L a):=by
 unfold Bg;have⟨wZ,aT⟩:=zX (w.alloc (.cells #[(0:Int),(0:Int),(0:Int),.slice none 0 0] 25));have bb:=jD aT;have⟨rb,aS⟩:=zX w.heap.size;have b4:b<rb:=by rw[aS];exact h.blk.lt
 have an:=qd aT aS;have B:=mC wZ b cap at_ a A L (h.fresh bb) G (by omega);have ac:=h.cells;have⟨aa,bR,au,bO⟩:=gz ac aT aS an;have bM:=gd bb;have bc:=an.lt;clear aT aS an bb h ac bc;go_enter func12,ntmps12;go_wp2_with fail;rw[<-bR.o,<-au.o];refine B.mono ?_;rintro e w1 ⟨W0,a1,rfl,bZ,h1,U⟩;have bq:=mC w1 b cap a1 a A L h1 G (by omega);have⟨W,hW⟩:=zX (W0+1);have eW:(1:Int)+(W0:Int)=(W:Int):=by omega
 have bh:=gd (show 1<=W/\W<=a by omega);have ax:W<=64:=by omega
 clear B h1 hW;go_wp2_with fail;refine bq.mono ?_;rintro e T ⟨H0,a2,rfl,bY,h2,V⟩;have br:=Mc T b cap a2 A L h2;have⟨H,hH⟩:=zX (H0+1);have eH:(1:Int)+(H0:Int)=(H:Int):=by omega
 have bg:=gd (show 1<=H/\H<=a by omega);have aw:H<=64:=by omega
 clear bq h2 hH;go_wp2_with fail;refine br.mono ?_;rintro e wA ⟨d,a3,rfl,bj,bk,R,X⟩;have aA:gf [b] w wA:=(((bM.o.mono (by simp)).tq U).tq V).tq X;have aB:gf [b] wZ wA:=(U.tq V).tq X;have O:gn wA rb 25 #[(0:Int),(0:Int),(0:Int),.slice none 0 0]:=bO.o.Z aB (by simp;omega);have aI:w.heap.size<wA.heap.size:=by have:=O.lt;have:=au.o;omega
 have⟨cb,ap⟩:=zX wA.heap.size;have⟨w4,aL⟩:=zX ((wA.alloc (.cells #[W,H,d,.slice none 0 0] 25)).alloc (.cells #[(3:Int),(1:Int),(3:Int),(4:Int),(2:Int),(3:Int)] 3));have ba:=rT aL;have aG:lS [b] wA W H d cb w4 (.slice none 0 0) [] [] [] []:=by
  refine⟨by rw[aL,ap];exact(gn.new wA _ _).alloc _,gE.nil _ _,ke.nil _,by simp,by simp,by simp,?_,?_,ba.mono (by simp)⟩
  .intro x c;simp at c;omega
  .intro x c;simp at c;have:=R.blk.lt;omega
 have aC:gn w4 (cb+1) 3 #[(3:Int),(1:Int),(3:Int),(4:Int),(2:Int),(3:Int)]:=by rw[aL,ap];exact gn.new2 wA _ _ _
 have bs:=mC w4 b cap a3 6 A L (R.fresh ba) (by omega) (by omega);have bT:b<cb:=by rw[ap];exact R.blk.lt
 have⟨bQ,aM,a4,aV⟩:=gz aL ap aG aC;have⟨aU,a0,av⟩:=gS aA O aI;have bx:rb<cb:=by rw[ap];exact O.lt
 clear br R U V X aA aB O aI ap aL ba aG aC;go_wp2_with fail;rw[<-bQ.o,<-aM.o];refine bs.mono ?_;rintro e w5 ⟨k,a5,rfl,hk,h5,t⟩;obtain⟨n,hn,bp,B⟩:=Js k hk;have bn:=aV.o.Z t (by simp;omega);have aj:w5.cell? ⟨cb+1,k,none⟩=some (.int .i64 n):=by
  rw[bn.X k];have e:(#[Value.int .i64 3,(1:Int),(3:Int),(4:Int),(2:Int),(3:Int)]:Array Value)=(Ff.map vi).toArray:=rfl;rw[e,getElem?_toArray,zW,hn];rfl
 have b9:(0:Int)<=(k:Int):=by omega
 have ca:(k:Int)<6:=by omega
 have aH:=a4.o.turn t;have⟨a6,H5,HN⟩:=gS aH h5 (And.intro bp B);have bW:n<=4:=B;clear bs hn bn aH h5 t bp B;go_wp2_with fail
 go_loopg [6] n (λj v6 wr=>∃(i:Nat) (vP:Value) (F:List Nat) (m:List Value) (P:List (List Int)) (Q:List Nat) (J:Nat),v6=.int .i64 j/\i+j=n/\gh (P.length=i)/\gh (lS [b] wA W H d cb wr vP F m P Q)/\gh (jo wr b A cap L J)/\gh (FU W H d P))
 .exact⟨0,_,[],[],[],[],a5,rfl,by omega,gd rfl,a6,H5,gd (by intro l y;simp at y)⟩
 obtain⟨i,vP,F,m,P,Q,J,rfl,b5,I,s,HT,Y⟩:=hrel;rcases gk with _|j
 .obtain rfl:i=n:=by omega
  have t1:decide ((0:Int)<((0:Nat):Int))=false:=by simp
  have r:=s.o;have C:m.length=i:=by rw[r.pl.lx,I.o]
  rcases r.own.cases with⟨_,he,_⟩|⟨q,ao,hF⟩
  .exfalso
   rw[he]at C;simp at C
   have:=HN.o
   omega
  have hr:=ao;obtain⟨z,rfl,-,-,-,-⟩:=ao.open_;rw[C]at hr r;have⟨b0,b1,b2,b3⟩:=jM r.blk;simp at b0 b1 b2 b3;have Z:=a0.o.Z r.Z (by simp;omega);have⟨z0,z1,z2,z3⟩:=rU Z 0 1 2 3;have⟨k0,k1,k2,k3⟩:=jM Z;simp at k0 k1 k2 k3;clear ao aj;go_wp2_with fail;have⟨w9,bf⟩:=zX ((((wr.setCell rb (.int .i64 W)).setCell ⟨rb,1,none⟩ (.int .i64 H)).setCell ⟨rb,2,none⟩ (.int .i64 d)).setCell ⟨rb,3,none⟩ (.slice q i z));have aR:gn w9 rb 25 #[W,H,d,.slice q i z]:=by
   rw[bf]
   have:=(((Z.T 0 (.int .i64 W)).T 1 (.int .i64 H)).T 2 (.int .i64 d)).T 3 (.slice q i z)
   simpa using this
  have K:gf [rb] wr w9:=by
   rw[bf];exact((((zR [rb] wr).zs 0 _).zs 1 _).zs 2 _).zs 3 _
  have⟨g0,g1,u,g3⟩:=jM aR;simp at g0 g1 u g3;rw[<-bf];refine bodyPost_ret (v:=.agg #[W,H,d,.slice q i z]) (by simp[results,results12,go_sem,g0,g1,u,g3]) rfl ?_;have am:∀x∈q::Q,cb<=x:=by
   intro x c
   have:=aM.o
   rcases zJ.1 c with rfl|c
   .have:=r.new x (by simp[hF]);omega
   .have:=r.new x (by simp[c]);omega
  have cc:=HN.o;have D:=I.o;have bz:=bh.o;have bm:=bg.o;refine⟨⟨W,H,d,P⟩,q,z,m,Q,J,by rw[<-D];rfl,bz.2,bm.2,⟨⟨bz.1,ax,bm.1,aw,bj,bk,?_,?_,λl y=>(Y.o l y).1,λl y=>(Y.o l y).2⟩,?_,r.pl.Z K ?_⟩,?_,?_,?_⟩
  .show 1<=P.length
   omega
  .show P.length<=4
   omega
  .show gv w9 22 (.slice q P.length z) q m
   rw[D];refine hr.Z K ?_;intro E
   have:=am q (by simp)
   simp at E;omega
  .intro x c E
   have:=am x (by simp[c])
   simp at E;omega
  .exact HT.o.Y K (by simp;omega) (gM.fresh aa.o (by intro x c;simp at c;have:=au.o;omega))
  .refine(aU.o.tq r.Z).trans K ?_
   intro x c;simp at c
   have:=au.o
   exact .inr (by omega)
  .intro x c
   have:=am x c
   have:=au.o
   omega
 .have t1:decide ((0:Int)<((j+1:Nat):Int))=true:=zB (by omega)
  have ej:(((j+1:Nat):Int))-1=(j:Int):=by omega
  obtain⟨S,bo⟩:∃S:Int,S=((j+1:Nat):Int):=⟨_,rfl⟩;rw[<-bo]at t1 ej⊢;have bV:0<=S/\S<=4:=by omega
  obtain⟨b6,b7⟩:=bV;have az:=s.o.blk;have⟨y0,y1,y2,y3⟩:=jM az;simp at y0 y1 y2 y3;have C:gh (m.length=i):=gd (by rw[s.o.pl.lx,I.o]);have D:=λat2 T (ht:jo T b A cap L at2)=>Eu T b cap at2 W H d A L ht bh.o.1 ax bg.o.1 aw bj bk;have aZ:=gd D;clear D bo aj az;go_wp2_with fail
  go_region_law (first|(refine oT (by rfl) (by rfl) uW (by rfl) (by rfl) (ak.alloc (.cells #[.slice p g.length c5] 22)) (.slice p g.length c5) (by rfl) (by simp[go_sem]) (by rfl) (by rw[C.o];omega) (by rw[C.o];omega) ?_;intro u N w6 bv M;have o:=(f.alloc (.cells #[.slice p g.length c5] 22)).Z M.Z s.o.cF;have y6:=o.X 3;have z6:=o.V 3;have bG:=o.X 0;have bH:=o.X 1;have bI:=o.X 2;have bD:=(o.T 3 (.slice u (m.length+1) N)).X 0;have bE:=(o.T 3 (.slice u (m.length+1) N)).X 1;have bF:=(o.T 3 (.slice u (m.length+1) N)).X 2;simp at y6 bG bH bI bD bE bF)|(go_simp;go_at_call 27;refine(aZ.o J _ (HT.o.fresh ((zR [] wr).drew))).mono ?_;rintro e bX ⟨v5,p,g,bS,rfl,ad,aD,be,aJ,t,bl⟩;have aW:=gd aD;clear aD;have bw:=ad;obtain⟨c5,rfl,-⟩:=ad.oq;have bd:=(s.o.Y ((zR [] wr).drew)).turn t;have ak:=bd.own;have f:=bd.blk;have y5:=f.X 3;have bJ:=f.X 0;have bK:=f.X 1;have bL:=f.X 2;have n5:=(f.alloc (.cells #[.slice p g.length c5] 22)).X 3;have bA:=(f.alloc (.cells #[.slice p g.length c5] 22)).X 0;have bB:=(f.alloc (.cells #[.slice p g.length c5] 22)).X 1;have bC:=(f.alloc (.cells #[.slice p g.length c5] 22)).X 2;simp at y5 bJ bK bL n5 bA bB bC))
  all_goals
   have bu:=lS.next s.o (((((zR [b] wr).drew).tq t).alloc (.cells #[.slice p g.length c5] 22))) (bw.alloc _) bl bv M;have ay:gM A L F:=gM.fresh aa.o (λx c=>by have:=s.o.new x (by simp[c]);have:=av.o;omega);have bi:b∉F:=λE=>by have:=s.o.new b (by simp[E]);have:=aM.o;omega
   have aK:=((aJ.fresh ((zR [] bX).alloc (.cells #[.slice p g.length c5] 22))).Y M.Z bi ay).Y ((zR [cb] w6).zs 3 (.slice u (m.length+1) N)) (by simp;omega) (gM.fresh aa.o (by intro x c;simp at c;have:=aM.o;have:=av.o;omega));have aE:FU W H d (P++[g]):=λl y=>by
    rcases zP.1 y with h|h
    .exact Y.o l h
    .simp at h
     subst h;exact⟨aW.o,be⟩
   have⟨bN,bP,aY⟩:=gS bu aK aE;clear bu bv M o y6 z6 y5 n5 f ak bd ad t aJ aK aE ay bi bw bl bJ bK bL bA bB bC bG bH bI bD bE bF;go_wp2_with fail
   go_roundg j
   .exact⟨i+1,_,_,_,_,_,bS,rfl,by omega,gd (by rw[zC,I.o];rfl),bN,bP,aY⟩
   .omega
end Go.Proofs.YtnepiccbpokmiaaGreatDoor
