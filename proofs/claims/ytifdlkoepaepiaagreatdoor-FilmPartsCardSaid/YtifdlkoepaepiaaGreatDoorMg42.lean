/- Lemmas. -/
import Derived.Test.YtifdlkoepaepiaaGreatDoorMg31
import Derived.Test.YtifdlkoepaepiaaGreatDoorMg38
set_option linter.all false
set_option maxHeartbeats 4000000
set_option maxRecDepth 100000
namespace Go.Proofs.YtifdlkoepaepiaaGreatDoor
open Tryz List Nat Go.RowKit
def GB:List Int:=[3,1,3,4,2,3]
theorem LQ(k:Nat)(h:k<6):∃n:Nat,GB[k]?=some (n:Int)/\1<=n/\n<=4:=by
 rcases(by omega:k=0\/k=1\/k=2\/k=3\/k=4\/k=5)with rfl|rfl|rfl|rfl|rfl|rfl
 .exact⟨3,rfl,by omega,by omega⟩
 .exact⟨1,rfl,by omega,by omega⟩
 .exact⟨3,rfl,by omega,by omega⟩
 .exact⟨4,rfl,by omega,by omega⟩
 .exact⟨2,rfl,by omega,by omega⟩
 .exact⟨3,rfl,by omega,by omega⟩
def Hr (W H d:Nat) (P:List (List Int)):Prop:=∀l∈P,l.length=W*H/\ie d l
def zx (w:World) (b cap:Nat) (A:Option Addr) (L:List Int) (side:Nat) (e:Ending) (w':World):Prop :=
 ∃(p:gA) (gP capP:Nat) (xs:List Value) (gs:List Nat) (at':Nat),e=.returned (gW p gP 0 capP)/\p.W<=side/\p.H<=side/\iL w' p gP capP xs gs/\jv w' b A cap L at'/\gg [b] w w'/\∀x∈gP::gs,w.heap.size<=x
theorem PI(w:World)(b c at_ a:Nat)(A:Option Addr)(L:List Int)(h:jv w b A c L at_)(M:1<=a)(hs1:a<=64):Calls prog 16 #[.pointer b,a] w (zx w b c A L a):=by
 unfold zx;have⟨wZ,aT⟩:=zX (w.alloc (.cells #[(0:Int),(0:Int),(0:Int),.slice none 0 0] 46));have bb:gg [] w wZ:=by rw[aT];exact(zR [] w).alloc _
 have⟨rb,aS⟩:=zX w.heap.size;have bZ:b<rb:=by rw[aS];exact h.blk.lt
 have an:gn wZ rb 46 #[(0:Int),(0:Int),(0:Int),.slice none 0 0]:=by rw[aT,aS];exact gn.new w _ _
 have E:=mN wZ b c at_ a A L (h.fresh bb) M (by omega);have ac:=h.cells;have⟨aa,bR,au,bO⟩:=gu ac aT aS an;have bM:=gd bb;have bc:=an.lt;clear aT aS an bb h ac bc;go_enter func16,ntmps16;go_wp2_with fail;rw[<-bR.o,<-au.o];refine E.mono ?_;rintro e w1 ⟨W0,a1,rfl,bY,h1,a7⟩;have bq:=mN w1 b c a1 a A L h1 M (by omega);have⟨W,hW⟩:=zX (W0+1);have eW:(1:Int)+(W0:Int)=(W:Int):=by omega
 have bh:=gd (show 1<=W/\W<=a by omega);have ax:W<=64:=by omega
 clear E h1 hW;go_wp2_with fail;refine bq.mono ?_;rintro e Z ⟨H0,a2,rfl,bX,h2,a8⟩;have br:=Ny Z b c a2 A L h2;have⟨H,hH⟩:=zX (H0+1);have eH:(1:Int)+(H0:Int)=(H:Int):=by omega
 have bg:=gd (show 1<=H/\H<=a by omega);have aw:H<=64:=by omega
 clear bq h2 hH;go_wp2_with fail;refine br.mono ?_;rintro e wA ⟨d,a3,rfl,bj,bk,X,a9⟩;have aA:gg [b] w wA:=(((bM.o.mono (by simp)).tq a7).tq a8).tq a9;have aB:gg [b] wZ wA:=(a7.tq a8).tq a9;have U:gn wA rb 46 #[(0:Int),(0:Int),(0:Int),.slice none 0 0]:=bO.o.Z aB (by simp;omega);have aI:w.heap.size<wA.heap.size:=by have:=U.lt;have:=au.o;omega
 have⟨cb,ap⟩:=zX wA.heap.size;have⟨w4,aL⟩:=zX ((wA.alloc (.cells #[W,H,d,.slice none 0 0] 46)).alloc (.cells #[(3:Int),(1:Int),(3:Int),(4:Int),(2:Int),(3:Int)] 3));have ba:gg [] wA w4:=by rw[aL];exact((zR [] wA).alloc _).alloc _
 have aG:ll [b] wA W H d cb w4 (.slice none 0 0) [] [] [] []:=by
  refine⟨by rw[aL,ap];exact(gn.new wA _ _).alloc _,gK.nil _ _,jm.nil _,by simp,by simp,by simp,?_,?_,ba.mono (by simp)⟩
  .intro x f;simp at f;omega
  .intro x f;simp at f;have:=X.blk.lt;omega
 have aC:gn w4 (cb+1) 3 #[(3:Int),(1:Int),(3:Int),(4:Int),(2:Int),(3:Int)]:=by rw[aL,ap];exact gn.new2 wA _ _ _
 have bs:=mN w4 b c a3 6 A L (X.fresh ba) (by omega) (by omega);have bT:b<cb:=by rw[ap];exact X.blk.lt
 have⟨bQ,aM,a4,aV⟩:=gu aL ap aG aC;have⟨aU,a0,av⟩:=gX aA U aI;have bx:rb<cb:=by rw[ap];exact U.lt
 clear br X a7 a8 a9 aA aB U aI ap aL ba aG aC;go_wp2_with fail;rw[<-bQ.o,<-aM.o];refine bs.mono ?_;rintro e w5 ⟨k,a5,rfl,hk,h5,z⟩;obtain⟨n,hn,bp,E⟩:=LQ k hk;have bn:=aV.o.Z z (by simp;omega);have aj:w5.cell? ⟨cb+1,k,none⟩=some (.int .i64 n):=by
  rw[bn.X k];have e:(#[Value.int .i64 3,(1:Int),(3:Int),(4:Int),(2:Int),(3:Int)]:Array Value)=(GB.map vi).toArray:=rfl;rw[e,getElem?_toArray,zW,hn];rfl
 have b7:(0:Int)<=(k:Int):=by omega
 have b9:(k:Int)<6:=by omega
 have aH:=a4.o.turn z;have⟨a6,H5,HN⟩:=gX aH h5 (And.intro bp E);have bV:n<=4:=E;clear bs hn bn aH h5 z bp E;go_wp2_with fail
 go_loopg [6] n (λj v6 wr=>∃(i:Nat) (vP:Value) (F:List Nat) (q:List Value) (P:List (List Int)) (V:List Nat) (O:Nat),v6=.int .i64 j/\i+j=n/\gh (P.length=i)/\gh (ll [b] wA W H d cb wr vP F q P V)/\gh (jv wr b A c L O)/\gh (Hr W H d P))
 .exact⟨0,_,[],[],[],[],a5,rfl,by omega,gd rfl,a6,H5,gd (by intro l C;simp at C)⟩
 obtain⟨i,vP,F,q,P,V,O,rfl,b4,N,y,HT,aX⟩:=hrel;rcases gk with _|j
 .obtain rfl:i=n:=by omega
  have t1:decide ((0:Int)<((0:Nat):Int))=false:=by simp
  have g:=y.o;have G:q.length=i:=by rw[g.pl.lx,N.o]
  rcases g.own.cases with⟨_,he,_⟩|⟨u,ao,hF⟩
  .exfalso
   rw[he]at G;simp at G
   have:=HN.o
   omega
  have hr:=ao;obtain⟨D,rfl,-,-,-,-⟩:=ao.open_;rw[G]at hr g;have b0:=g.blk.X 0;have b1:=g.blk.X 1;have b2:=g.blk.X 2;have b3:=g.blk.X 3;simp at b0 b1 b2 b3;have s:=a0.o.Z g.Z (by simp;omega);have z0:=s.U 0;have z1:=s.U 1;have z2:=s.U 2;have z3:=s.U 3;have k0:=s.X 0;have k1:=s.X 1;have k2:=s.X 2;have k3:=s.X 3;simp at k0 k1 k2 k3;clear ao aj;go_wp2_with fail;have⟨w9,bf⟩:=zX ((((wr.setCell rb (.int .i64 W)).setCell ⟨rb,1,none⟩ (.int .i64 H)).setCell ⟨rb,2,none⟩ (.int .i64 d)).setCell ⟨rb,3,none⟩ (.slice u i D));have S:gn w9 rb 46 #[W,H,d,.slice u i D]:=by
   rw[bf]
   have:=(((s.S 0 (.int .i64 W)).S 1 (.int .i64 H)).S 2 (.int .i64 d)).S 3 (.slice u i D)
   simpa using this
  have Q:gg [rb] wr w9:=by
   rw[bf];exact((((zR [rb] wr).setCell (p:=⟨rb,0,none⟩) (.inl (by simp)) _).setCell (p:=⟨rb,1,none⟩) (.inl (by simp)) _).setCell (p:=⟨rb,2,none⟩) (.inl (by simp)) _).setCell (p:=⟨rb,3,none⟩) (.inl (by simp)) _
  have g0:=S.X 0;have g1:=S.X 1;have B:=S.X 2;have g3:=S.X 3;simp at g0 g1 B g3;rw[<-bf];refine bodyPost_ret (v:=.agg #[W,H,d,.slice u i D]) (by simp[results,results16,go_sem,g0,g1,B,g3]) rfl ?_;have am:∀x∈u::V,cb<=x:=by
   intro x f
   have:=aM.o
   rcases zJ.1 f with rfl|f
   .have:=g.new x (by simp[hF]);omega
   .have:=g.new x (by simp[f]);omega
  have ca:=HN.o;have I:=N.o;have bz:=bh.o;have bm:=bg.o;refine⟨⟨W,H,d,P⟩,u,D,q,V,O,by rw[<-I];rfl,bz.2,bm.2,⟨⟨bz.1,ax,bm.1,aw,bj,bk,?_,?_,λl C=>(aX.o l C).1,λl C=>(aX.o l C).2⟩,?_,g.pl.Z Q ?_⟩,?_,?_,?_⟩
  .show 1<=P.length
   omega
  .show P.length<=4
   omega
  .show gv w9 22 (.slice u P.length D) u q
   rw[I];refine hr.Z Q ?_;intro K
   have:=am u (by simp)
   simp at K;omega
  .intro x f K
   have:=am x (by simp[f])
   simp at K;omega
  .exact HT.o.Y Q (by simp;omega) (ib.fresh aa.o (by intro x f;simp at f;have:=au.o;omega))
  .refine(aU.o.tq g.Z).trans Q ?_
   intro x f;simp at f
   have:=au.o
   exact .inr (by omega)
  .intro x f
   have:=am x f
   have:=au.o
   omega
 .have t1:decide ((0:Int)<((j+1:Nat):Int))=true:=zB (by omega)
  have ej:(((j+1:Nat):Int))-1=(j:Int):=by omega
  obtain⟨Y,bo⟩:∃Y:Int,Y=((j+1:Nat):Int):=⟨_,rfl⟩;rw[<-bo]at t1 ej⊢;have bU:0<=Y/\Y<=4:=by omega
  obtain⟨b5,b6⟩:=bU;have J:=y.o.blk;have y0:=J.X 0;have y1:=J.X 1;have y2:=J.X 2;have y3:=J.X 3;simp at y0 y1 y2 y3;have G:gh (q.length=i):=gd (by rw[y.o.pl.lx,N.o]);have I:=λat2 Z (ht:jv Z b A c L at2)=>GU Z b c at2 W H d A L ht bh.o.1 ax bg.o.1 aw bj bk;have aZ:=gd I;clear I bo aj J;go_wp2_with fail
  go_region_law (first|(refine rL (by rfl) (by rfl) rj (by rfl) (by rfl) (ak.alloc (.cells #[.slice t o.length c5] 22)) (.slice t o.length c5) (by rfl) (by simp[go_sem]) (by rfl) (by rw[G.o];omega) (by rw[G.o];omega) ?_;intro B T w6 bv R;have r:=(m.alloc (.cells #[.slice t o.length c5] 22)).Z R.Z y.o.cF;have y6:=r.X 3;have z6:=r.U 3;have bG:=r.X 0;have bH:=r.X 1;have bI:=r.X 2;have bD:=(r.S 3 (.slice B (q.length+1) T)).X 0;have bE:=(r.S 3 (.slice B (q.length+1) T)).X 1;have bF:=(r.S 3 (.slice B (q.length+1) T)).X 2;simp at y6 bG bH bI bD bE bF)|(go_simp;go_at_call 27;refine(aZ.o O _ (HT.o.fresh ((zR [] wr).drew))).mono ?_;rintro e bW ⟨v5,t,o,bS,rfl,ad,aD,be,aJ,z,bl⟩;have aW:=gd aD;clear aD;have bw:=ad;obtain⟨c5,rfl,-⟩:=ad.T;have bd:=(y.o.Y ((zR [] wr).drew)).turn z;have ak:=bd.own;have m:=bd.blk;have y5:=m.X 3;have bJ:=m.X 0;have bK:=m.X 1;have bL:=m.X 2;have n5:=(m.alloc (.cells #[.slice t o.length c5] 22)).X 3;have bA:=(m.alloc (.cells #[.slice t o.length c5] 22)).X 0;have bB:=(m.alloc (.cells #[.slice t o.length c5] 22)).X 1;have bC:=(m.alloc (.cells #[.slice t o.length c5] 22)).X 2;simp at y5 bJ bK bL n5 bA bB bC))
  all_goals
   have bu:=ll.next y.o (((((zR [b] wr).drew).tq z).alloc (.cells #[.slice t o.length c5] 22))) (bw.alloc _) bl bv R;have ay:ib A L F:=ib.fresh aa.o (λx f=>by have:=y.o.new x (by simp[f]);have:=av.o;omega);have bi:b∉F:=λK=>by have:=y.o.new b (by simp[K]);have:=aM.o;omega
   have aK:=((aJ.fresh ((zR [] bW).alloc (.cells #[.slice t o.length c5] 22))).Y R.Z bi ay).Y ((zR [cb] w6).setCell (p:=⟨cb,3,none⟩) (.inl (by simp)) (.slice B (q.length+1) T)) (by simp;omega) (ib.fresh aa.o (by intro x f;simp at f;have:=aM.o;have:=av.o;omega));have aE:Hr W H d (P++[o]):=λl C=>by
    rcases zP.1 C with h|h
    .exact aX.o l h
    .simp at h
     subst h;exact⟨aW.o,be⟩
   have⟨bN,bP,aY⟩:=gX bu aK aE;clear bu bv R r y6 z6 y5 n5 m ak bd ad z aJ aK aE ay bi bw bl bJ bK bL bA bB bC bG bH bI bD bE bF;go_wp2_with fail
   go_roundg j
   .exact⟨i+1,_,_,_,_,_,bS,rfl,by omega,gd (by rw[zC,N.o];rfl),bN,bP,aY⟩
   .omega
end Go.Proofs.YtifdlkoepaepiaaGreatDoor
