/- Lemmas. -/
import Derived.Test.YtifdlkoepaepiaaGreatDoorMh28
import Derived.Test.YtifdlkoepaepiaaGreatDoorMh33
set_option linter.all false
set_option maxHeartbeats 4000000
set_option maxRecDepth 100000
namespace Go.Proofs.YtifdlkoepaepiaaGreatDoor
open Tryz List Nat Go.RowKit
def GB:List Int:=[3,1,3,4,2,3]
theorem LQ(k:Nat)(h:k<6):∃n:Nat,GB[k]?=some (n:Int)/\1<=n/\n<=4:=by
 rcases(by omega:k=0\/k=1\/k=2\/k=3\/k=4\/k=5)with rfl|rfl|rfl|rfl|rfl|rfl
 .exact⟨3,rfl,by omega,by omega⟩
 .exact⟨1,rfl,by omega,by omega⟩
 .exact⟨3,rfl,by omega,by omega⟩
 .exact⟨4,rfl,by omega,by omega⟩
 .exact⟨2,rfl,by omega,by omega⟩
 .exact⟨3,rfl,by omega,by omega⟩
def Hr(W H d:Nat)(P:List (List Int)):Prop:=∀l∈P,l.length=W*H/\ie d l
def zx(w:World)(b cap:Nat)(A:Option Addr)(L:List Int)(side:Nat)(e:Ending)(w':World):Prop:=
 ∃(p:qc) (gP capP:Nat) (xs:List Value) (gs:List Nat) (at':Nat),e=.returned (gW p gP 0 capP)/\p.W<=side/\p.H<=side/\iL w' p gP capP xs gs/\jv w' b A cap L at'/\gg [b] w w'/\∀x∈gP::gs,w.heap.size<=x
theorem PI(w:World)(b c at_ a:Nat)(A:Option Addr)(L:List Int)(h:jv w b A c L at_)(I:1<=a)(hs1:a<=64):Calls prog 16 #[.pointer b,a] w (zx w b c A L a):=by
 unfold zx;have⟨wZ,aT⟩:=zX (w.alloc (.cells #[(0:Int),(0:Int),(0:Int),.slice none 0 0] 46));have bb:=H4 aT;have⟨rb,aS⟩:=zX w.heap.size;have bZ:b<rb:=by rw[aS];exact h.blk.lt
 have an:=RD aT aS;have C:=mN wZ b c at_ a A L (h.fresh bb) I (by omega);have ac:=h.cells;have⟨aa,bR,au,bO⟩:=gu ac aT aS an;have bM:=gd bb;have bc:=an.lt;clear aT aS an bb h ac bc;go_enter func16,ntmps16;go_wp2_with fail;rw[<-bR.o,<-au.o];refine C.mono ?_;rintro e w1 ⟨W0,a1,rfl,bY,h1,V⟩;have bq:=mN w1 b c a1 a A L h1 I (by omega);have⟨W,hW⟩:=zX (W0+1);have eW:(1:Int)+(W0:Int)=(W:Int):=by omega
 have bh:=gd (show 1<=W/\W<=a by omega);have ax:W<=64:=by omega
 clear C h1 hW;go_wp2_with fail;refine bq.mono ?_;rintro e U ⟨H0,a2,rfl,bX,h2,X⟩;have br:=Ny U b c a2 A L h2;have⟨H,hH⟩:=zX (H0+1);have eH:(1:Int)+(H0:Int)=(H:Int):=by omega
 have bg:=gd (show 1<=H/\H<=a by omega);have aw:H<=64:=by omega
 clear bq h2 hH;go_wp2_with fail;refine br.mono ?_;rintro e wA ⟨d,a3,rfl,bj,bk,S,Y⟩;have aA:gg [b] w wA:=(((bM.o.mono (by simp)).tq V).tq X).tq Y;have aB:gg [b] wZ wA:=(V.tq X).tq Y;have Q:gn wA rb 46 #[(0:Int),(0:Int),(0:Int),.slice none 0 0]:=bO.o.Z aB (by simp;omega);have aI:w.heap.size<wA.heap.size:=by have:=Q.lt;have:=au.o;omega
 have⟨cb,ap⟩:=zX wA.heap.size;have⟨w4,aL⟩:=zX ((wA.alloc (.cells #[W,H,d,.slice none 0 0] 46)).alloc (.cells #[(3:Int),(1:Int),(3:Int),(4:Int),(2:Int),(3:Int)] 3));have ba:=RF aL;have aG:ll [b] wA W H d cb w4 (.slice none 0 0) [] [] [] []:=by
  refine⟨by rw[aL,ap];exact(gn.new wA _ _).alloc _,jj.nil _ _,jm.nil _,by simp,by simp,by simp,?_,?_,ba.mono (by simp)⟩
  .intro x f;simp at f;omega
  .intro x f;simp at f;have:=S.blk.lt;omega
 have aC:gn w4 (cb+1) 3 #[(3:Int),(1:Int),(3:Int),(4:Int),(2:Int),(3:Int)]:=by rw[aL,ap];exact gn.new2 wA _ _ _
 have bs:=mN w4 b c a3 6 A L (S.fresh ba) (by omega) (by omega);have bT:b<cb:=by rw[ap];exact S.blk.lt
 have⟨bQ,aM,a4,aV⟩:=gu aL ap aG aC;have⟨aU,a0,av⟩:=Q9 aA Q aI;have bx:rb<cb:=by rw[ap];exact Q.lt
 clear br S V X Y aA aB Q aI ap aL ba aG aC;go_wp2_with fail;rw[<-bQ.o,<-aM.o];refine bs.mono ?_;rintro e w5 ⟨k,a5,rfl,hk,h5,u⟩;obtain⟨n,hn,bp,C⟩:=LQ k hk;have bn:=aV.o.Z u (by simp;omega);have aj:w5.cell? ⟨cb+1,k,none⟩=some (.int .i64 n):=by
  rw[bn.X k];have e:(#[Value.int .i64 3,(1:Int),(3:Int),(4:Int),(2:Int),(3:Int)]:Array Value)=(GB.map vi).toArray:=rfl;rw[e,getElem?_toArray,zW,hn];rfl
 have b7:(0:Int)<=(k:Int):=by omega
 have b9:(k:Int)<6:=by omega
 have aH:=a4.o.turn u;have⟨a6,H5,HN⟩:=Q9 aH h5 (And.intro bp C);have bV:n<=4:=C;clear bs hn bn aH h5 u bp C;go_wp2_with fail
 go_loopg [6] n (λj v6 wr=>∃(i:Nat) (vP:Value) (F:List Nat) (o:List Value) (P:List (List Int)) (R:List Nat) (K:Nat),v6=.int .i64 j/\i+j=n/\gh (P.length=i)/\gh (ll [b] wA W H d cb wr vP F o P R)/\gh (jv wr b A c L K)/\gh (Hr W H d P))
 .exact⟨0,_,[],[],[],[],a5,rfl,by omega,gd rfl,a6,H5,gd (by intro l z;simp at z)⟩
 obtain⟨i,vP,F,o,P,R,K,rfl,b4,J,t,HT,Z⟩:=hrel;rcases gk with _|j
 .obtain rfl:i=n:=by omega
  have t1:decide ((0:Int)<((0:Nat):Int))=false:=by simp
  have s:=t.o;have D:o.length=i:=by rw[s.pl.lx,J.o]
  rcases s.own.cases with⟨_,he,_⟩|⟨r,ao,hF⟩
  .exfalso
   rw[he]at D;simp at D
   have:=HN.o
   omega
  have hr:=ao;obtain⟨B,rfl,-,-,-,-⟩:=ao.open_;rw[D]at hr s;have⟨b0,b1,b2,b3⟩:=my s.blk;simp at b0 b1 b2 b3;have ah:=a0.o.Z s.Z (by simp;omega);have⟨z0,z1,z2,z3⟩:=RJ ah 0 1 2 3;have⟨k0,k1,k2,k3⟩:=my ah;simp at k0 k1 k2 k3;clear ao aj;go_wp2_with fail;have⟨w9,bf⟩:=zX ((((wr.setCell rb (.int .i64 W)).setCell ⟨rb,1,none⟩ (.int .i64 H)).setCell ⟨rb,2,none⟩ (.int .i64 d)).setCell ⟨rb,3,none⟩ (.slice r i B));have aR:gn w9 rb 46 #[W,H,d,.slice r i B]:=by
   rw[bf]
   have:=(((ah.S 0 (.int .i64 W)).S 1 (.int .i64 H)).S 2 (.int .i64 d)).S 3 (.slice r i B)
   simpa using this
  have M:gg [rb] wr w9:=by
   rw[bf];exact((((zR [rb] wr).zs 0 _).zs 1 _).zs 2 _).zs 3 _
  have⟨g0,g1,y,g3⟩:=my aR;simp at g0 g1 y g3;rw[<-bf];refine bodyPost_ret (v:=.agg #[W,H,d,.slice r i B]) (by simp[results,results16,go_sem,g0,g1,y,g3]) rfl ?_;have am:∀x∈r::R,cb<=x:=by
   intro x f
   have:=aM.o
   rcases zJ.1 f with rfl|f
   .have:=s.new x (by simp[hF]);omega
   .have:=s.new x (by simp[f]);omega
  have ca:=HN.o;have E:=J.o;have bz:=bh.o;have bm:=bg.o;refine⟨⟨W,H,d,P⟩,r,B,o,R,K,by rw[<-E];rfl,bz.2,bm.2,⟨⟨bz.1,ax,bm.1,aw,bj,bk,?_,?_,λl z=>(Z.o l z).1,λl z=>(Z.o l z).2⟩,?_,s.pl.Z M ?_⟩,?_,?_,?_⟩
  .show 1<=P.length
   omega
  .show P.length<=4
   omega
  .show gv w9 22 (.slice r P.length B) r o
   rw[E];refine hr.Z M ?_;intro G
   have:=am r (by simp)
   simp at G;omega
  .intro x f G
   have:=am x (by simp[f])
   simp at G;omega
  .exact HT.o.Y M (by simp;omega) (ib.fresh aa.o (by intro x f;simp at f;have:=au.o;omega))
  .refine(aU.o.tq s.Z).trans M ?_
   intro x f;simp at f
   have:=au.o
   exact .inr (by omega)
  .intro x f
   have:=am x f
   have:=au.o
   omega
 .have t1:decide ((0:Int)<((j+1:Nat):Int))=true:=zB (by omega)
  have ej:(((j+1:Nat):Int))-1=(j:Int):=by omega
  obtain⟨T,bo⟩:∃T:Int,T=((j+1:Nat):Int):=⟨_,rfl⟩;rw[<-bo]at t1 ej⊢;have bU:0<=T/\T<=4:=by omega
  obtain⟨b5,b6⟩:=bU;have az:=t.o.blk;have⟨y0,y1,y2,y3⟩:=my az;simp at y0 y1 y2 y3;have D:gh (o.length=i):=gd (by rw[t.o.pl.lx,J.o]);have E:=λat2 U (ht:jv U b A c L at2)=>GU U b c at2 W H d A L ht bh.o.1 ax bg.o.1 aw bj bk;have aZ:=gd E;clear E bo aj az;go_wp2_with fail
  go_region_law (first|(refine rL (by rfl) (by rfl) rj (by rfl) (by rfl) (ak.alloc (.cells #[.slice q m.length c5] 22)) (.slice q m.length c5) (by rfl) (by simp[go_sem]) (by rfl) (by rw[D.o];omega) (by rw[D.o];omega) ?_;intro y O w6 bv N;have p:=(g.alloc (.cells #[.slice q m.length c5] 22)).Z N.Z t.o.cF;have y6:=p.X 3;have z6:=p.U 3;have bG:=p.X 0;have bH:=p.X 1;have bI:=p.X 2;have bD:=(p.S 3 (.slice y (o.length+1) O)).X 0;have bE:=(p.S 3 (.slice y (o.length+1) O)).X 1;have bF:=(p.S 3 (.slice y (o.length+1) O)).X 2;simp at y6 bG bH bI bD bE bF)|(go_simp;go_at_call 27;refine(aZ.o K _ (HT.o.fresh ((zR [] wr).drew))).mono ?_;rintro e bW ⟨v5,q,m,bS,rfl,ad,aD,be,aJ,u,bl⟩;have aW:=gd aD;clear aD;have bw:=ad;obtain⟨c5,rfl,-⟩:=ad.T;have bd:=(t.o.Y ((zR [] wr).drew)).turn u;have ak:=bd.own;have g:=bd.blk;have y5:=g.X 3;have bJ:=g.X 0;have bK:=g.X 1;have bL:=g.X 2;have n5:=(g.alloc (.cells #[.slice q m.length c5] 22)).X 3;have bA:=(g.alloc (.cells #[.slice q m.length c5] 22)).X 0;have bB:=(g.alloc (.cells #[.slice q m.length c5] 22)).X 1;have bC:=(g.alloc (.cells #[.slice q m.length c5] 22)).X 2;simp at y5 bJ bK bL n5 bA bB bC))
  all_goals
   have bu:=ll.next t.o (((((zR [b] wr).drew).tq u).alloc (.cells #[.slice q m.length c5] 22))) (bw.alloc _) bl bv N;have ay:ib A L F:=ib.fresh aa.o (λx f=>by have:=t.o.new x (by simp[f]);have:=av.o;omega);have bi:b∉F:=λG=>by have:=t.o.new b (by simp[G]);have:=aM.o;omega
   have aK:=((aJ.fresh ((zR [] bW).alloc (.cells #[.slice q m.length c5] 22))).Y N.Z bi ay).Y ((zR [cb] w6).zs 3 (.slice y (o.length+1) O)) (by simp;omega) (ib.fresh aa.o (by intro x f;simp at f;have:=aM.o;have:=av.o;omega));have aE:Hr W H d (P++[m]):=λl z=>by
    rcases zP.1 z with h|h
    .exact Z.o l h
    .simp at h
     subst h;exact⟨aW.o,be⟩
   have⟨bN,bP,aY⟩:=Q9 bu aK aE;clear bu bv N p y6 z6 y5 n5 g ak bd ad u aJ aK aE ay bi bw bl bJ bK bL bA bB bC bG bH bI bD bE bF;go_wp2_with fail
   go_roundg j
   .exact⟨i+1,_,_,_,_,_,bS,rfl,by omega,gd (by rw[zC,J.o];rfl),bN,bP,aY⟩
   .omega
end Go.Proofs.YtifdlkoepaepiaaGreatDoor
