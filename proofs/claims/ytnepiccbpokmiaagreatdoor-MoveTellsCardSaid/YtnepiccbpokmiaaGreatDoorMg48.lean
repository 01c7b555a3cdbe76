/- Lemmas. -/
import Derived.Test.YtnepiccbpokmiaaGreatDoorMg07
import Derived.Test.YtnepiccbpokmiaaGreatDoorMg47
set_option linter.all false
set_option maxHeartbeats 4000000
set_option maxRecDepth 100000
namespace Go.Proofs.YtnepiccbpokmiaaGreatDoor
open Tryz List Nat Go.RowKit
def Aa(nb gP cP n i gi N ci k d bx:Nat)(v:Int)(w':World):Prop:=w'.cell? ⟨nb,3,none⟩=some (.slice gP n cP)/\w'.cell? ⟨bx,2,none⟩=some (.int .i64 d)/\w'.cell? ⟨gP,i,none⟩=some (.slice gi N ci)/\w'.cell? ⟨gi,k,none⟩=some (.int .i64 v)
def vF(w:World)(p:gH)(b cap:Nat)(A:Option Addr)(L:List Int)(e:Ending)(w':World):Prop:=
 ∃(q:gH) (gP capP:Nat) (xs:List Value) (gs:List Nat) (at':Nat),e=.returned (gN q gP 0 capP)/\iL w' q gP capP xs gs/\jv p q/\jo w' b A cap L at'/\gf [b] w w'/\∀x∈gP::gs,w.heap.size<=x
theorem LL{w:World}{p:gH}{g o:Nat}{B:Nat->Option Addr}{c:Nat->Nat}{G:List Nat}(cap:Nat)(h:gW w p g o B c G)(b a at_:Nat)(A:Option Addr)(L:List Int)(ht:jo w b A a L at_)(hbG:b∉G):Calls prog 13 #[.pointer b,gN p g o cap] w (vF w p b a A L):=by
 have D:=h.ok;unfold vF;have aW:∀y,gf [] w y->_:=λy hc=>Kg cap (h.Y hc);have cq:=D.w0;have aV:=D.w1;have cm:=D.h0;have aA:=D.h1;have aX:=D.d0;have aY:=D.d1;have co:=D.n1;have⟨N,hN⟩:=zX (p.W*p.H);have eN:(p.W:Int)*(p.H:Int)=(N:Int):=by rw[hN];simp
 have cn:1<=N:=by rw[hN];exact D.pos
 have cT:N<=4096:=by rw[hN];exact D.area
 have cU:N<=64*p.W:=by rw[hN,zY];exact mul_le_mul_right p.W aA
 have bE:∀y,gf [b] w y->∀i,i<p.P.length->∃bi qi,y.cell? ⟨g,o+i,none⟩=some (.slice (some ⟨bi,qi,none⟩) N (c i))/\∀k,k<N->∃v:Int,y.cell? ⟨bi,qi+k,none⟩=some (.int .i64 v)/\0<=v/\v<2^p.d:=by
  intro y hc i hi;have h9:=h.Z hc (by intro x s hm;simp at hm;subst hm;exact hbG s);obtain⟨bi,qi,e,hb,Q⟩:=h9.at_ hi;have bA:=h9.X i hi;rw[e,<-hN]at bA;exact⟨bi,qi,bA,λk hkk=>⟨_,Q k (by rw[<-hN];exact hkk),nB (D.smp _ (mM hi)) k⟩⟩
 have aD:∀X Y:Nat,X<p.W->Y<p.H->Y*p.W+X<N:=λX Y s hy=>by
  have h3:=mul_le_mul_right p.W (show Y+1<=p.H by omega);rw[succ_mul,zY p.H,<-hN]at h3;omega
 have bN:=λv w=>uE v p.d w aX aY;have cr:=ht.blk.lt;have bK:∀F:List Nat,(∀x∈F,w.heap.size<=x)->gM A L F:=λF hF=>gM.fresh ht.cells hF;unfold gN at aW⊢;have⟨wZ,aw⟩:=zX ((w.alloc (.cells #[p.W,p.H,p.d,.slice (some ⟨g,o,none⟩) p.P.length cap] 25)).alloc (.cells #[(0:Int),(0:Int),(0:Int),.slice none 0 0] 25));have aK:=rT aw;have ag:gn wZ w.heap.size 25 #[p.W,p.H,p.d,.slice (some ⟨g,o,none⟩) p.P.length cap]:=by rw[aw];exact(gn.new w _ _).alloc _
 have aG:gn wZ (w.heap.size+1) 25 #[(0:Int),(0:Int),(0:Int),.slice none 0 0]:=by rw[aw];exact gn.new2 w _ _ _
 have bJ:wZ.heap.size=w.heap.size+1+1:=by rw[aw,iO,iO]
 have bL:=ht.fresh aK;have⟨k0,k1,k2,k3⟩:=jM ag;simp at k0 k1 k2 k3;rw[aw]at k0 k1 k2 k3;have⟨cj,bV,bS,b6⟩:=gz aw aK ag aG;have⟨cd,cf,b4,aQ⟩:=gz bJ bL bE aD;have⟨ch,ce,ay,bT⟩:=gz bN bK hN (aW wZ aK);clear aw aK ag aG bJ bL bE aD bN bK D aW h ht hN hbG;go_enter func13,ntmps13;go_wp2_with fail;rw[<-cj.o];refine bT.o.mono ?_;rintro e w1 ⟨f,r,m,l,rfl,ap,aR,bC⟩;have⟨nb,bc⟩:=zX w1.heap.size;have⟨w2,aP⟩:=zX (w1.alloc (.cells #[p.W,p.H,p.d,.slice f p.P.length r] 25));have aS:=jD aP;have bg:kq w p g o cap b a A L w.heap.size nb (w.heap.size+1) f r w2 p m l at_:=by
  have c2:=aR.tq aS;have hs:=cd.o;have de:=aR.size;refine⟨ap.Y aS,⟨rfl,rfl,rfl,rfl⟩,cf.o.fresh c2,(bV.o.tq c2).mono (by simp),bS.o.Z c2 (by simp),by rw[aP,bc];exact gn.new w1 _ _,b6.o.Z c2 (by simp),λx s=>?_,⟨zQ _,by omega,by omega⟩,cr,ce.o⟩;have h1:=bC x s;have h2:x<w1.heap.size:=by
   rcases zJ.1 s with rfl|h1
   .exact ap.ltP
   .exact ap.pl.lt x h1
  exact⟨by omega,by omega,by omega,by omega⟩
 have⟨cc,cg,b0⟩:=gS bg aP bc;have ba:=mC w2 b a at_ 6 A L bg.tp (by omega) (by omega);clear ap aR bC bc aP aS bg k0 k1 k2 k3;go_wp2_with fail;rw[<-cg.o,<-b0.o];refine ba.mono ?_;rintro e w3 ⟨E,a3,rfl,cB,bm,bp⟩;have b7:=gd (cc.o.tape bp bm);have aM:=mC w3 b a a3 7 A L bm (by omega) (by omega);clear ba bm bp;go_wp2_with fail;refine aM.mono ?_;rintro e w4 ⟨n4,a4,rfl,cw,bn,bq⟩;have b9:=gd (b7.o.tape bq bn);have aM:=mC w4 b a a4 7 A L bn (by omega) (by omega);obtain⟨dx,ct⟩:∃dx:Int,(n4:Int)-3=dx:=⟨_,rfl⟩;have cI : -3<=dx:=by omega
 have cJ:dx<=3:=by omega
 clear bn bq;go_wp2_with fail;refine aM.mono ?_;rintro e w5 ⟨n5,a5,rfl,cx,bP,br⟩;have ca:=gd (b9.o.tape br bP);obtain⟨dy,cu⟩:∃dy:Int,(n5:Int)-3=dy:=⟨_,rfl⟩;have cK : -3<=dy:=by omega
 have cL:dy<=3:=by omega
 clear aM bP br;go_wp2_with fail;clear ct cu cw cx
 go_loopg [9,10,11,12,13,14] p.P.length (λj v9 v10 v11 v12 v13 v14 wr=>∃(i:Nat) (q:gH) (m:List Value) (l:List Nat) (at':Nat),v9=.int .i64 i/\i+j=p.P.length/\gh (kq w p g o cap b a A L w.heap.size nb (w.heap.size+1) f r wr q m l at'))
 .exact⟨0,p,m,l,a5,rfl,by omega,ca⟩
 obtain⟨i,q,m,l,W,rfl,c9,d⟩:=hrel;have⟨n0,n1,n2,n3⟩:=jM d.o.nbB;simp at n0 n1 n2 n3;rcases gk with _|j
 .have hi:i=p.P.length:=by omega
  have t1:decide (i<p.P.length)=false:=zA (by omega);have⟨r0,r1,r2,r3⟩:=jM d.o.rbB;simp at r0 r1 r2 r3;have⟨z0,z1,z2,z3⟩:=rU d.o.rbB 0 1 2 3;have dc:nb≠w.heap.size+1:=λe=>by
   have h1:=d.o.nbB.X 0;have h2:=d.o.rbB.X 0;rw[e,h2]at h1;simp at h1;omega
  clear hi;go_wp2_with fail;have⟨rb,cz⟩:=zX (w.heap.size+1);have bH:=d.o.rbB;rw[<-cz]at bH⊢;have⟨wE,bh⟩:=zX ((((wr.setCell rb (.int .i64 p.W)).setCell ⟨rb,1,none⟩ (.int .i64 p.H)).setCell ⟨rb,2,none⟩ (.int .i64 p.d)).setCell ⟨rb,3,none⟩ (.slice f p.P.length r));have aL:gn wE rb 25 #[p.W,p.H,p.d,.slice f p.P.length r]:=by
   rw[bh]
   have:=(((bH.T 0 (.int .i64 p.W)).T 1 (.int .i64 p.H)).T 2 (.int .i64 p.d)).T 3 (.slice f p.P.length r)
   simpa using this
  have aT:gf [rb] wr wE:=by
   rw[bh];exact((((zR [rb] wr).zs 0 _).zs 1 _).zs 2 _).zs 3 _
  have⟨g0,g1,g2,g3⟩:=jM aL;simp at g0 g1 g2 g3;rw[<-bh];refine bodyPost_ret (v:=.agg #[p.W,p.H,p.d,.slice f p.P.length r]) (by simp[results,results13,go_sem,g0,g1,g2,g3]) rfl ?_;have au:=d.o.R;refine⟨q,f,r,m,l,W,?_,d.o.own.Z aT ?_ ?_,d.o.al,d.o.tp.Y aT ?_ (d.o.tpA _ ?_),d.o.Z.trans aT ?_,λx s=>(au x s).1⟩
  .rw[d.o.al.W,d.o.al.H,d.o.al.d,d.o.al.n]
  .have:=(au f (by simp)).2.2.2
   simp;omega
  .intro x s
   have:=(au x (by simp[s])).2.2.2
   simp;omega
  .simp
   omega
  .intro x s
   simp at s;omega
  .intro x s
   simp at s;right;omega
 .have hi:i<p.P.length:=by omega
  have t1:decide (i<p.P.length)=true:=zB hi;by_cases hw5:E=5
  .have t2:((E:Int)==5)=true:=by rw[beq_iff_eq];omega
   obtain⟨t,Z,O,P,S,ae,-,-⟩:=d.o.at_ (N:=N) hi ay.o;have I:=d.o.bxB.X 0;have J:=d.o.bxB.X 1;have C:=d.o.bxB.X 2;simp at I J C;have ac:∀wz,gf [b] wr wz->wz.cell? ⟨f,i,none⟩=some (.slice t N Z)/\wz.frozen? ⟨f,i,none⟩=false:=λwz hz=>by
    have ho:=d.o.old;have hP:=(d.o.R f (by simp)).1;have hr:=d.o.own.row.Z hz (by simp;omega);obtain⟨_,_,_,_,_,T⟩:=hr.open_;exact⟨(World.cell?_of_block (w:=wr) (hz.block f d.o.own.ltP (by simp;omega))).trans S,T i⟩
   have aj:∀wz,gf [b,f] wr wz->wz.cell? ⟨nb,3,none⟩=some (.slice f p.P.length r)/\wz.cell? ⟨w.heap.size,0,none⟩=some (.int .i64 p.W)/\wz.cell? ⟨w.heap.size,1,none⟩=some (.int .i64 p.H)/\wz.cell? ⟨w.heap.size,2,none⟩=some (.int .i64 p.d):=λwz hz=>by
    have ho:=d.o.old;obtain⟨b1,b2,b3⟩:=d.o.big;obtain⟨f1,f2,f3,f4⟩:=d.o.R f (by simp);have hb:=d.o.nbB.Z hz (by simp;omega);have s:=d.o.bxB.Z hz (by simp;omega);exact⟨hb.X 3,s.X 0,s.X 1,s.X 2⟩
   have ai:=gd aj;have bF:=λwz (hz:gf [] wr wz)=>Eu wz b a W p.W p.H p.d A L (d.o.tp.fresh hz) cq aV cm aA aX aY;have⟨ad,b5,K⟩:=gS ac bF hi;clear ac aj bF O P hw5;go_wp2_with fail
   go_region_held3 (λy=>y.cell? ⟨nb,3,none⟩=some (.slice f p.P.length r)/\y.cell? ⟨w.heap.size,0,none⟩=some (.int .i64 p.W)/\y.cell? ⟨w.heap.size,1,none⟩=some (.int .i64 p.H)/\y.cell? ⟨w.heap.size,2,none⟩=some (.int .i64 p.d))
    (first|(go_keep;done)|exact ai.o _ (((zR [b,f] wr).drew).tq (M.mono (by simp)))|exact ai.o _ ((((zR [b,f] wr).drew).tq (M.mono (by simp))).setCell (.inl (by simp)) _)|trivial)
    (first|(go_at_call 27;refine(b5.o _ ((zR [] wr).drew)).mono ?_;rintro e w6 ⟨v6,g6,l6,a6,rfl,af,a1,bI,aJ,M,bB⟩;obtain⟨c6,rfl,-,-,-,-⟩:=af.oq;rw[a1]at af;have c0:=(ad.o _ (((zR [b] wr).drew).tq M)).1;have c5:=(ad.o _ (((zR [b] wr).drew).tq M)).2))
   have aE:gh (∃H,kq w p g o cap b a A L w.heap.size nb (w.heap.size+1) f r (w6.setCell ⟨f,i,none⟩ (.slice g6 (p.W*p.H) c6)) H (m.set i (.slice g6 (p.W*p.H) c6)) (l.set i g6) a6):=gd ((d.o.Y ((zR [] wr).drew)).plane (by rw[<-d.o.al.n];exact K.o) M aJ af bB (by rw[a1,d.o.al.W,d.o.al.H]) (by rw[<-d.o.al.d];exact bI));clear af a1 bI aJ M bB n0 n1 n2 n3 I J C S ae;go_wp2_with fail
   go_roundg j
   .obtain⟨H,aF⟩:=aE.o
    exact⟨i+1,H,_,_,a6,by go_num,by omega,gd aF⟩
   .omega
  .have t2:((E:Int)==5)=false:=by rw[beq_eq_false_iff_ne];omega
   have K:=gd hi;clear hi hw5;go_wp2_with fail;obtain⟨di,rfl⟩:=zX wr
   go_loopg [10,11,12] N (λj v10 v11 v12 wr=>∃(k:Nat) (q:gH) (m:List Value) (l:List Nat),v10=.int .i64 k/\k+j=N/\gh (kq w p g o cap b a A L w.heap.size nb (w.heap.size+1) f r wr q m l W))
   .exact⟨0,q,m,l,rfl,by omega,d⟩
   clear n0 n1 n2 n3;obtain⟨k,q,m,l,rfl,db,HK⟩:=hrel;have n3:=HK.o.nbB.X 3;have⟨I,J,C,x3⟩:=jM HK.o.bxB;simp at n3 I J C x3;have aC:(decide (k<N)=false\/(decide (k<N)=true/\decide ((0:Int)<(E:Int))=false/\decide (0<E)=false))\/(decide (k<N)=true/\decide ((0:Int)<(E:Int))=true/\decide (0<E)=true/\∃j2,gk=j2+1):=by
    by_cases Q:k<N
    .by_cases hw0:E=0
     .exact .inl (.inr ⟨zB Q,zA (by omega),zA (by omega)⟩)
     .exact .inr ⟨zB Q,zB (by omega),zB (by omega),gk-1,by omega⟩
    .exact .inl (.inl (zA Q))
   rcases aC with(t3|⟨t3,t4,cH⟩)|⟨t3,t4,cH,j2,rfl⟩;rotate_left 2
   .have Q:k<N:=by omega
    have⟨xm,bO⟩:=zX (k%p.W);have⟨ym,bl⟩:=zX (k / p.W);have aH:xm<64:=(by have:=mod_lt k (show p.W>0 by omega);omega);have aI:ym<64:=(by rw[bl];exact Nat.div_lt_of_lt_mul (by rw[zY];omega));have bu:(k:Int)%(p.W:Int)=(xm:Int):=(by rw[bO];simp);have bv:(k:Int) / (p.W:Int)=(ym:Int):=(by rw[bl];simp);have ck:(k:Int).tmod (p.W:Int)=(xm:Int):=(by rw[Int.tmod_eq_emod_of_nonneg (by omega)];exact bu);have cl:(k:Int).tdiv (p.W:Int)=(ym:Int):=(by rw[Int.tdiv_eq_ediv_of_nonneg (by omega)];exact bv);obtain⟨X,hX⟩:∃X:Int,(xm:Int)+dx=X:=⟨_,rfl⟩;obtain⟨Y,hY⟩:∃Y:Int,(ym:Int)+dy=Y:=⟨_,rfl⟩;have cW : -10<=X:=(by omega);have cX:X<=100:=(by omega);have cY : -10<=Y:=(by omega);have cZ:Y<=100:=(by omega);clear bO bl;go_wp2
    go_quiet (fail)
    clear hX hY bu bv ck cl aH aI;have cv:(decide ((0:Int)<=X)=false\/(decide ((0:Int)<=X)=true/\decide (X<(p.W:Int))=false)\/(decide ((0:Int)<=X)=true/\decide (X<(p.W:Int))=true/\decide ((0:Int)<=Y)=false)\/(decide ((0:Int)<=X)=true/\decide (X<(p.W:Int))=true/\decide ((0:Int)<=Y)=true/\decide (Y<(p.H:Int))=false))\/(0<=X/\X<(p.W:Int)/\0<=Y/\Y<(p.H:Int)):=by
     by_cases c1:0<=X
     .by_cases c2:X<(p.W:Int)
      .by_cases c3:0<=Y
       .by_cases c4:Y<(p.H:Int)
        .exact .inr ⟨c1,c2,c3,c4⟩
        .exact .inl (.inr (.inr (.inr ⟨zB c1,zB c2,zB c3,zA c4⟩)))
       .exact .inl (.inr (.inr (.inl ⟨zB c1,zB c2,zA c3⟩)))
      .exact .inl (.inr (.inl ⟨zB c1,zA c2⟩))
     .exact .inl (.inl (zA c1))
    have⟨wy,bk⟩:=zX (wr.drewN nq);have u:gh (kq w p g o cap b a A L w.heap.size nb (w.heap.size+1) f r wy q m l W):=gd (by rw[bk];exact HK.o.Y ((zR [] wr).drewN nq));rw[<-bk];clear bk n3 I J C x3;have n3:=u.o.nbB.X 3;have I:=u.o.bxB.X 0;have J:=u.o.bxB.X 1;have x3:=u.o.bxB.X 3;simp at n3 I J x3;rcases cv with(t6|⟨t6,t7⟩|⟨t6,t7,t8⟩|⟨t6,t7,t8,t9⟩)|⟨c1,c2,c3,c4⟩;rotate_left 4
    .obtain⟨U,rfl⟩:∃U:Nat,X=(U:Int):=⟨X.toNat,by omega⟩
     obtain⟨V,rfl⟩:∃V:Nat,Y=(V:Int):=⟨Y.toNat,by omega⟩;have t7:decide (U<p.W)=true:=zB (by omega);have t9:decide (V<p.H)=true:=zB (by omega);have⟨P0,aU⟩:=zX (V*p.W);have eP:(V:Int)*(p.W:Int)=(P0:Int):=(by rw[aU];simp);have hf:=aQ.o U V (by omega) (by omega);rw[<-aU]at hf;have⟨at2,bx⟩:=zX (P0+U);have eQ:(P0:Int)+(U:Int)=(at2:Int):=(by omega);rw[<-bx]at hf;obtain⟨bi,qi,dd,bG⟩:=b4.o wy u.o.Z i K.o;obtain⟨v,hv,aN,aO⟩:=bG at2 hf;obtain⟨t,Z,O,P,S,ae,am,T⟩:=u.o.at_ (N:=N) K.o ay.o;obtain⟨v9,dg,-,-⟩:=am k Q;have aZ:=T k;have c8:=K.o;have cV:P0<=4096:=(by omega);have aE:gh (∀nq,∃H,kq w p g o cap b a A L w.heap.size nb (w.heap.size+1) f r ((wy.drewN nq).setCell ⟨t,k,none⟩ (.int .i64 v)) H m l W):=gd (λnq=>(u.o.Y ((zR [] wy).drewN nq)).store (by rw[<-u.o.al.n];exact K.o) O (by rw[<-u.o.al.W,<-u.o.al.H,<-ay.o];exact Q) aN (by rw[<-u.o.al.d];exact aO));clear aU bx bG am T O P aN aO c1 c2 c3 c4;go_wp2_with fail;refine jE 20 (by kernel_rfl) (by kernel_rfl) ?_;simp only[take_succ_cons,take_zero,drop_succ_cons,drop_zero]
     repeat(go_big_quiet_step (fail))
     refine wpQuiet_nil ?_;intro _ cA;obtain⟨cG,rfl⟩:=cA;go_wp2_with fail
     go_roundg j2
     .obtain⟨H,aF⟩:=aE.o cG
      exact⟨k+1,H,m,l,by go_num,by omega,gd aF⟩
     .omega
    all_goals
     go_wp2_with fail
     go_roundg j2
     .exact⟨k+1,q,m,l,by go_num,by omega,u⟩
     .omega
   all_goals
    have bd:=mC wr b a W (E+1) A L HK.o.tp (by omega) (by omega);have⟨bo,bM⟩:=zX (E+1);have cN:(E:Int)+1=(bo:Int):=(by omega);rw[<-bM]at bd;clear bM;go_wp2_with fail;refine bd.mono ?_;rintro e w6 ⟨nn,a6,rfl,ba,aJ,M⟩;have cb:=gd (HK.o.tape M aJ);clear bd aJ M n3 I J C x3;go_wp2_with fail;obtain⟨dj,rfl⟩:=zX wr
    go_loopg [13,14] nn (λj v13 v14 wr=>∃(q:gH) (m:List Value) (l:List Nat) (at':Nat),v13=.int .i64 j/\j<=nn/\gh (kq w p g o cap b a A L w.heap.size nb (w.heap.size+1) f r wr q m l at'))
    .exact⟨_,_,_,_,rfl,zQ _,cb⟩
    obtain⟨q,m,l,a7,rfl,da,R⟩:=hrel;have n3:=R.o.nbB.X 3;have I:=R.o.bxB.X 0;have J:=R.o.bxB.X 1;have C:=R.o.bxB.X 2;simp at n3 I J C;rcases gk with _|j3
    .have t5:decide ((0:Int)<((0:Nat):Int))=false:=by decide
     go_wp2_with fail
     go_roundg j
     .exact⟨i+1,q,m,l,a7,by go_num,by omega,R⟩
     .omega
    .have⟨m3,a2⟩:=zX (j3+1)
     rw[<-a2];have dh:decide (0<m3)=true:=zB (by omega);have cM:(m3:Int)-1=(j3:Int):=(by omega);have bD:=mC wr b a a7 N A L R.o.tp cn (by omega);have bY:=gd a2;clear a2;go_wp2_with fail;refine bD.mono ?_;rintro e z ⟨k,a8,rfl,a0,bQ,bs⟩;have n:=gd (R.o.tape bs bQ);obtain⟨t,Z,O,P,S,ae,am,T⟩:=n.o.at_ (N:=N) K.o ay.o;obtain⟨v,hv,aN,aO⟩:=am k a0;have aZ:=T k;obtain⟨be,bf⟩:=jl aX aY;have df:v<65536:=(by omega);have n3:=n.o.nbB.X 3;have C:=n.o.bxB.X 2;simp at n3 C;have ac:∀wz,gf [b,t] z wz->wz.cell? ⟨nb,3,none⟩=some (.slice f p.P.length r)/\wz.cell? ⟨w.heap.size,2,none⟩=some (.int .i64 p.d)/\wz.cell? ⟨f,i,none⟩=some (.slice t N Z):=λwz hz=>by
      have ho:=n.o.old;obtain⟨b1,b2,b3⟩:=n.o.big;obtain⟨f1,f2,f3,f4⟩:=n.o.R t (by simp[P]);have hP:=(n.o.R f (by simp)).1;have cy:=n.o.own.neP (by rw[<-n.o.al.n];exact K.o) O;have hb:=n.o.nbB.Z hz (by simp;omega);have s:=n.o.bxB.Z hz (by simp;omega);exact⟨hb.X 3,s.X 2,(World.cell?_of_block (w:=z) (hz.block f n.o.own.ltP (by simp;exact⟨by omega,cy⟩))).trans S⟩
     have aj:∀wz,gf [b] z wz->wz.cell? ⟨t,k,none⟩=some (.int .i64 v)/\wz.frozen? ⟨t,k,none⟩=false:=λwz hz=>by
      have h9:=n.o.own.pl.lt t P;have hP:=(n.o.R t (by simp[P])).1;have bz:=hz.block t h9 (by simp;omega);exact⟨(World.cell?_of_block (w:=z) bz).trans hv,(World.frozen?_of_block (w:=z) bz).trans aZ⟩
     have bb:=λwz (hz:gf [] z wz)=>mC wz b a a8 9 A L (n.o.tp.fresh hz) (by omega) (by omega);have cC:∀n9:Nat,n9<9->IntKind.i64.wrap (v+1+(n9:Int))=v+1+(n9:Int):=λn9 h=>IntWalk.i64_in _ (by omega);have bj:IntKind.i64.wrap (v+1)=v+1:=IntWalk.i64_in _ (by omega);have⟨ad,ai,bZ,bW⟩:=gz ac aj bb O;have bX:=gd a0;have cO:(0:Int)<=(i:Int):=(by omega);have cQ:(i:Int)<(p.P.length:Int):=(by have:=K.o;omega);have cR:(0:Int)<=(k:Int):=(by omega);have cS:(k:Int)<(N:Int):=(by omega);clear ac aj bb O P T am a0 bQ bs bD I J aN aO be bf;go_wp2_with fail;have cp:Aa nb f r p.P.length i t N Z k p.d w.heap.size v z.drew:=⟨n3,C,S,hv⟩;refine Ah 21 (by kernel_rfl) (by decide +kernel) cp ?_
     iterate 16 (refine hU (v:=?_) (by decide +kernel) rfl (λ_ _ _ h=>h) (by rfl) (by assumption) ?_ ?_;rotate_left;(focus (rintro _ ⟨_,_,_,_⟩;go_simp;try with_reducible rfl));try simp only[Act.put,getElem_toArray,List.getElem_cons_succ,List.getElem_cons_zero,setIfInBounds_toArray,set_cons_zero,set_cons_succ,Nat.reduceAdd])
     intro hs;clear hs;refine hT (i:=18) (v:=?_) (by decide +kernel) rfl (λ_ _ _ h=>h) (by rfl) (by assumption) ?_ ?_;rotate_left
     ·(rintro _ ⟨_,_,_,_⟩;go_simp;try with_reducible rfl)
     refine hT (i:=19) (v:=?_) (by decide +kernel) rfl (λ_ _ _ h=>h) (by rfl) (by assumption) ?_ ?_;rotate_left
     ·(rintro _ ⟨_,_,_,_⟩;go_simp;try with_reducible rfl)
     refine zq (i:=16) rfl (by decide) (by decide +kernel) ?_;intro K' aB;go_simp
     go_at_call 21
     refine(bZ.o _ ((zR [] z).drew)).mono ?_;rintro e w9 ⟨n9,a9,rfl,bb,bR,az⟩;have cs:=(ai.o _ (((zR [b] z).drew).tq az)).1;have c7:=(ai.o _ (((zR [b] z).drew).tq az)).2;obtain⟨cD,cE,cF⟩:=ad.o _ (((zR [b,t] z).drew).tq (az.mono (by simp)));have bw:Aa nb f r p.P.length i t N Z k p.d w.heap.size v w9:=⟨cD,cE,cF,cs⟩;refine Shut.out aB _ _ bw ?_;clear aB K'
     try simp only[Act.put,setIfInBounds_toArray,set_cons_zero,set_cons_succ]
     refine hT (i:=17) (v:=?_) (by decide +kernel) rfl (λ_ _ _ h=>h) (by rfl) (by assumption) ?_ ?_;rotate_left
     ·(rintro _ ⟨_,_,_,_⟩;go_simp;try with_reducible rfl)
     refine zq (i:=20) rfl (by decide) (by decide +kernel) ?_;intro K' aB;go_simp
     go_at_call 29
     refine gx (ch.o _ _) ?_;refine Shut.out aB _ _ bw ?_;clear aB K'
     try simp only[Act.put,setIfInBounds_toArray,set_cons_zero,set_cons_succ]
     refine E6 (by decide +kernel) ?_;simp only[drop_succ_cons,drop_zero,toList_toArray];have aE:gh (∃H,kq w p g o cap b a A L w.heap.size nb (w.heap.size+1) f r (w9.setCell ⟨t,k,none⟩ (.int .i64 (iw (v+1+(n9:Int)) p.d))) H m l a9):=gd (((n.o.Y ((zR [] z).drew)).tape az bR).store (by rw[<-n.o.al.n];exact K.o) bW.o (by rw[<-n.o.al.W,<-n.o.al.H,<-ay.o];exact bX.o) (tg _ _) (by rw[<-n.o.al.d];exact rt _ _));clear az bR hv aZ n3 C S ae cC bj;go_wp2_with fail
     go_roundg j3
     .obtain⟨H,aF⟩:=aE.o
      have:=bY.o
      exact⟨H,m,l,a9,by go_num,by omega,gd aF⟩
     .omega
def ES(w:World)(A:Option Addr)(cap:Nat)(L:List Int)(side:Nat)(e:Ending)(w':World):Prop:=
 ∃(p q:gH) (gP cP gQ cQ b at':Nat) (xs xq:List Value) (gs gq:List Nat),e=.returned (.tuple #[gN p gP 0 cP,gN q gQ 0 cQ,.pointer b])/\iL w' p gP cP xs gs/\iL w' q gQ cQ xq gq/\jv p q/\p.W<=side/\p.H<=side /\
  jo w' b A cap L at'/\gf [] w w'/\w.heap.size<=b/\(∀x∈gP::gs,b<x)/\∀x∈gQ::gq,b<x
theorem OO(w:World)(A:Option Addr)(cap:Nat)(L:List Int)(c:Nat)(M:gu vi w A L)(z:∀x∈L,mX x)(k:L.length<=9223372036854775807)(N:1<=c)(n:c<=64):Calls prog 5 #[.slice A L.length cap,c] w (ES w A cap L c):=by
 unfold ES;have⟨wA,ak⟩:=zX ((w.alloc (.cells #[(0:Int),(0:Int),(0:Int),.slice none 0 0] 25)).alloc (.cells #[(0:Int),(0:Int),(0:Int),.slice none 0 0] 25));have I:=rT ak;have Y:gn wA w.heap.size 25 #[(0:Int),(0:Int),(0:Int),.slice none 0 0]:=by rw[ak];exact(gn.new w _ _).alloc _
 have Z:gn wA (w.heap.size+1) 25 #[(0:Int),(0:Int),(0:Int),.slice none 0 0]:=by rw[ak];exact gn.new2 w _ _ _
 have J:wA.heap.size=w.heap.size+1+1:=by rw[ak,iO,iO]
 have ar:=Nk wA A cap L (M.Y I) z k;have⟨bb,a1,a7,aL⟩:=gz ak I Y Z;have R:=gd J;have U:∀F:List Nat,(∀x∈F,w.heap.size<=x)->gM A L F:=λF hF=>gM.fresh M hF;have aY:=gd U;clear ak I Y Z J M z k U;go_enter func5,ntmps5;go_wp2_with fail;rw[<-bb.o];refine ar.mono ?_;rintro e w1 ⟨b,rfl,K,T,hb⟩;have X:=OE w1 b cap 0 c A L K N n;have P:=gd T;have t:gh (wA.heap.size<=b/\b<w1.heap.size):=gd ⟨hb,K.blk.lt⟩;clear ar K T hb;go_wp2_with fail;refine X.mono ?_;rintro e O ⟨p,d,i,xs,gs,S,rfl,be,bd,ad,au,H,h⟩;have V:=ad.at_;have W:b∉d::gs:=λhm=>by have:=h b hm;have:=t.o;omega
 have E:=λwz (hz:gf [] O wz) (tp:jo wz b A cap L S)=>LL i (V.Y hz) b cap S A L tp W;unfold vF at E;unfold gN at E⊢;have⟨nb,ay⟩:=zX O.heap.size;have⟨w3,aA⟩:=zX (O.alloc (.cells #[p.W,p.H,p.d,.slice d p.P.length i] 25));have u:=jD aA;have o:=qd aA ay;have C:gf [b] wA w3:=((P.o.mono (by simp)).tq H).tq (u.mono (by simp));have aG:=aL.o.lt;have n:=P.o.size;have bj:=H.size;have aq:∀wz,gf [b] w3 wz->gn wz w.heap.size 25 #[(0:Int),(0:Int),(0:Int),.slice none 0 0]/\gn wz (w.heap.size+1) 25 #[(0:Int),(0:Int),(0:Int),.slice none 0 0]:=λwz hz=>by
  have h1:=t.o;exact⟨(a7.o.Z C (by simp;omega)).Z hz (by simp;omega),(aL.o.Z C (by simp;omega)).Z hz (by simp;omega)⟩
 have hk:∀(F:List Nat) wz,gf F w3 wz->nb∉F->wz.cell? nb=some (.int .i64 p.W)/\wz.cell? ⟨nb,1,none⟩=some (.int .i64 p.H)/\wz.cell? ⟨nb,2,none⟩=some (.int .i64 p.d)/\wz.cell? ⟨nb,3,none⟩=some (.slice d p.P.length i):=λF wz hz hF=>⟨(o.Z hz hF).X 0,(o.Z hz hF).X 1,(o.Z hz hF).X 2,(o.Z hz hF).X 3⟩;have bf:nb≠b:=by have:=t.o;omega
 have a9:=gd (E w3.drew (u.drew) ((au.fresh u).fresh (zR [] w3).drew));have aD:=gd (ad.Y u);have a3:gh (∀x∈d::gs,b<x/\w.heap.size+1<x/\x<nb):=gd (λx a=>by
  have h1:=h x a;have h2:=t.o;have h3:=R.o;refine⟨by omega,by omega,?_⟩;rw[ay];rcases zJ.1 a with rfl|G
  .exact ad.ltP
  .exact ad.pl.lt x G)
 have⟨am,HK,aC,ba⟩:=gz aq hk C aA;have a4:=gd ay;have bc:gh (nb<w3.heap.size):=gd o.lt;clear E ad V au H h W ay aA u o C aG n bj aq hk X;go_wp2_with fail;rw[<-ba.o,<-a4.o];obtain⟨n0,n1,n2,n3⟩:=HK.o [] w3 (zR _ _) (by simp)
 go_region_law (first|(go_simp;go_at_call 13;refine a9.o.mono ?_;rintro e B ⟨q,m,r,xq,gq,a6,rfl,ah,ap,aW,y,l⟩;have f:=(am.o _ (((zR [b] w3).drew).tq y)).1;have g:=(am.o _ (((zR [b] w3).drew).tq y)).2;have z0:=f.V 0;have z1:=f.V 1;have z2:=f.V 2;have z3:=f.V 3;have y0:=g.V 0;have y1:=g.V 1;have y2:=g.V 2;have y3:=g.V 3;have r0:=f.X 0;have r1:=f.X 1;have r2:=f.X 2;have r3:=f.X 3;have q0:=g.X 0;have q1:=g.X 1;have q2:=g.X 2;have q3:=g.X 3;obtain⟨m0,m1,m2,m3⟩:=HK.o [b] B (((zR [b] w3).drew).tq y) (by simpa using bf);simp at r0 r1 r2 r3 q0 q1 q2 q3))
 all_goals
  have⟨aZ,a0,a5,aX⟩:=gz f g ah ap;have a8:=gd aW;have Q:=gd (((zR [b] w3).drew).tq y);have a2:=gd l;clear f g ah ap aW y l z0 z1 z2 z3 y0 y1 y2 y3 r0 r1 r2 r3 q0 q1 q2 q3 m0 m1 m2 m3 n0 n1 n2 n3;go_wp2_with fail;have⟨ra,aV⟩:=zX w.heap.size;have⟨rb,bi⟩:=zX (w.heap.size+1);have G:=aZ.o;have h5:=a0.o;rw[<-aV]at G;rw[<-bi]at h5;rw[<-aV,show ra+1=rb by omega];have⟨wE,aB⟩:=zX ((((((((B.setCell ra (.int .i64 p.W)).setCell ⟨ra,1,none⟩ (.int .i64 p.H)).setCell ⟨ra,2,none⟩ (.int .i64 p.d)).setCell ⟨ra,3,none⟩ (.slice d p.P.length i)).setCell rb (.int .i64 q.W)).setCell ⟨rb,1,none⟩ (.int .i64 q.H)).setCell ⟨rb,2,none⟩ (.int .i64 q.d)).setCell ⟨rb,3,none⟩ (.slice m q.P.length r));have j:ra≠rb:=by omega
  have aw:gn wE ra 25 #[p.W,p.H,p.d,.slice d p.P.length i]:=by
   rw[aB]
   have:=((((((((G.T 0 (.int .i64 p.W)).T 1 (.int .i64 p.H)).T 2 (.int .i64 p.d)).T 3 (.slice d p.P.length i)).R (p:=⟨rb,0,none⟩) j (.int .i64 q.W)).R (p:=⟨rb,1,none⟩) j (.int .i64 q.H)).R (p:=⟨rb,2,none⟩) j (.int .i64 q.d)).R (p:=⟨rb,3,none⟩) j (.slice m q.P.length r))
   simpa using this
  have ax:gn wE rb 25 #[q.W,q.H,q.d,.slice m q.P.length r]:=by
   rw[aB]
   have:=((((((((h5.R (p:=⟨ra,0,none⟩) j.symm (.int .i64 p.W)).R (p:=⟨ra,1,none⟩) j.symm (.int .i64 p.H)).R (p:=⟨ra,2,none⟩) j.symm (.int .i64 p.d)).R (p:=⟨ra,3,none⟩) j.symm (.slice d p.P.length i)).T 0 (.int .i64 q.W)).T 1 (.int .i64 q.H)).T 2 (.int .i64 q.d)).T 3 (.slice m q.P.length r))
   simpa using this
  have D:gf [ra,rb] B wE:=by
   rw[aB];exact((((((((zR [ra,rb] B).setCell (p:=⟨ra,0,none⟩) (.inl (by simp)) _).setCell (p:=⟨ra,1,none⟩) (.inl (by simp)) _).setCell (p:=⟨ra,2,none⟩) (.inl (by simp)) _).setCell (p:=⟨ra,3,none⟩) (.inl (by simp)) _).setCell (p:=⟨rb,0,none⟩) (.inl (by simp)) _).setCell (p:=⟨rb,1,none⟩) (.inl (by simp)) _).setCell (p:=⟨rb,2,none⟩) (.inl (by simp)) _).setCell (p:=⟨rb,3,none⟩) (.inl (by simp)) _
  have⟨g0,g1,g2,g3⟩:=jM aw;have⟨l0,l1,l2,l3⟩:=jM ax;simp at g0 g1 g2 g3 l0 l1 l2 l3;rw[<-aB];refine bodyPost_ret (v:=.tuple #[.agg #[.int .i64 p.W,.int .i64 p.H,.int .i64 p.d,.slice d p.P.length i],.agg #[.int .i64 q.W,.int .i64 q.H,.int .i64 q.d,.slice m q.P.length r],.pointer b]) (by simp[results,results5,go_sem,g0,g1,g2,g3,l0,l1,l2,l3]) rfl ?_;have bk:=t.o;have J:=R.o;have bm:=bc.o;have h:=a3.o;have bl:=h d (by simp);have bg:w3.drew.heap.size=w3.heap.size:=rfl;have l:=a2.o;rw[bg]at l;have s:∀x,w.heap.size+1<x->x∉[ra,rb]:=λx a=>by simp;omega
  have bh:iL B p d i xs gs:=aD.o.Z Q.o (by have:=(h d (by simp)).1;simp;omega) (λx a=>by have:=(h x (by simp[a])).1;simp;omega);refine⟨p,q,d,i,m,r,b,a6,xs,xq,gs,gq,rfl,bh.Z D (s _ (h d (by simp)).2.1) (λx a=>s _ (h x (by simp[a])).2.1),a5.o.Z D (s _ (by have:=l m (by simp);omega)) (λx a=>s _ (by have:=l x (by simp[a]);omega)),aX.o,be,bd,?_,?_,by omega,λx a=>(h x a).1,λx a=>?_⟩
  .refine a8.o.Y D (s _ (by omega)) (aY.o _ ?_)
   intro x a;simp at a;omega
  .refine((a1.o.tq ?_)).trans D ?_
   .exact(zR [] wA).trans (aC.o.tq Q.o) (λx a=>by simp at a;right;omega)
   .intro x a
    simp at a;right;omega
  .have:=l x a
   omega
end Go.Proofs.YtnepiccbpokmiaaGreatDoor
