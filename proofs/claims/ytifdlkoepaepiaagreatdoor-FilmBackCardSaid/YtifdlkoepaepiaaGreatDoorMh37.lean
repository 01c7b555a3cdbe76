/- Lemmas. -/
import Derived.Test.YtifdlkoepaepiaaGreatDoorMh33
import Derived.Test.YtifdlkoepaepiaaGreatDoorMh04
import Derived.Test.YtifdlkoepaepiaaGreatDoorMh28
set_option linter.all false
set_option maxHeartbeats 4000000
set_option maxRecDepth 100000
namespace Go.Proofs.YtifdlkoepaepiaaGreatDoor
open Tryz List Nat Go.RowKit
def Ca(nb gP cP n i gi N ci k d bx:Nat)(v:Int)(w':World):Prop:=w'.cell? ⟨nb,3,none⟩=some (.slice gP n cP)/\w'.cell? ⟨bx,2,none⟩=some (.int .i64 d)/\w'.cell? ⟨gP,i,none⟩=some (.slice gi N ci)/\w'.cell? ⟨gi,k,none⟩=some (.int .i64 v)
def x9(w:World)(p:qc)(b cap:Nat)(A:Option Addr)(L:List Int)(e:Ending)(w':World):Prop:=
 ∃(q:qc) (gP capP:Nat) (xs:List Value) (gs:List Nat) (at':Nat),e=.returned (gW q gP 0 capP)/\iL w' q gP capP xs gs/\iY p q/\jv w' b A cap L at'/\gg [b] w w'/\∀x∈gP::gs,w.heap.size<=x
theorem Qc{w:World}{p:qc}{g o:Nat}{B:Nat->Option Addr}{c:Nat->Nat}{G:List Nat}(l:Nat)(h:ip w p g o B c G)(b a at_:Nat)(A:Option Addr)(L:List Int)(ht:jv w b A a L at_)(hbG:b∉G):Calls prog 18 #[.pointer b,gW p g o l] w (x9 w p b a A L):=by
 have E:=h.ok;unfold x9;have aW:∀z,gg [] w z->_:=λz hc=>Qa l (h.Y hc);have cq:=E.w0;have aV:=E.w1;have cm:=E.h0;have aA:=E.h1;have aX:=E.d0;have aY:=E.d1;have co:=E.n1;have⟨N,hN⟩:=zX (p.W*p.H);have eN:(p.W:Int)*(p.H:Int)=(N:Int):=by rw[hN];simp
 have cn:1<=N:=by rw[hN];exact E.pos
 have cT:N<=4096:=by rw[hN];exact E.area
 have cU:N<=64*p.W:=by rw[hN,zY];exact mul_le_mul_right p.W aA
 have bF:∀z,gg [b] w z->∀i,i<p.P.length->∃bi qi,z.cell? ⟨g,o+i,none⟩=some (.slice (some ⟨bi,qi,none⟩) N (c i))/\∀k,k<N->∃v:Int,z.cell? ⟨bi,qi+k,none⟩=some (.int .i64 v)/\0<=v/\v<2^p.d:=by
  intro z hc i I;have h9:=h.Z hc (by intro x t hm;simp at hm;subst hm;exact hbG t);obtain⟨bi,qi,e,hb,S⟩:=h9.at_ I;have bB:=h9.X i I;rw[e,<-hN]at bB;exact⟨bi,qi,bB,λk hkk=>⟨_,S k (by rw[<-hN];exact hkk),mK (E.smp _ (oO I)) k⟩⟩
 have aD:∀X Y:Nat,X<p.W->Y<p.H->Y*p.W+X<N:=λX Y t hy=>by
  have h3:=mul_le_mul_right p.W (show Y+1<=p.H by omega);rw[succ_mul,zY p.H,<-hN]at h3;omega
 have bO:=λv w=>Qe v p.d w aX aY;have cr:=ht.blk.lt;have bL:∀F:List Nat,(∀x∈F,w.heap.size<=x)->ib A L F:=λF hF=>ib.fresh ht.cells hF;unfold gW at aW⊢;have⟨wZ,aw⟩:=zX ((w.alloc (.cells #[p.W,p.H,p.d,.slice (some ⟨g,o,none⟩) p.P.length l] 46)).alloc (.cells #[(0:Int),(0:Int),(0:Int),.slice none 0 0] 46));have aK:=RF aw;have ag:gn wZ w.heap.size 46 #[p.W,p.H,p.d,.slice (some ⟨g,o,none⟩) p.P.length l]:=by rw[aw];exact(gn.new w _ _).alloc _
 have aG:gn wZ (w.heap.size+1) 46 #[(0:Int),(0:Int),(0:Int),.slice none 0 0]:=by rw[aw];exact gn.new2 w _ _ _
 have bK:wZ.heap.size=w.heap.size+1+1:=by rw[aw,jt,jt]
 have bM:=ht.fresh aK;have⟨k0,k1,k2,k3⟩:=my ag;simp at k0 k1 k2 k3;rw[aw]at k0 k1 k2 k3;have⟨cj,bV,bT,b6⟩:=gu aw aK ag aG;have⟨cd,cf,b4,aQ⟩:=gu bK bM bF aD;have⟨ch,ce,ay,bU⟩:=gu bO bL hN (aW wZ aK);clear aw aK ag aG bK bM bF aD bO bL E aW h ht hN hbG;go_enter func18,ntmps18;go_wp2_with fail;rw[<-cj.o];refine bU.o.mono ?_;rintro e w1 ⟨f,s,n,m,rfl,ap,aR,bD⟩;have⟨nb,bc⟩:=zX w1.heap.size;have⟨w2,aP⟩:=zX (w1.alloc (.cells #[p.W,p.H,p.d,.slice f p.P.length s] 46));have aS:=H4 aP;have bg:ku w p g o l b a A L w.heap.size nb (w.heap.size+1) f s w2 p n m at_:=by
  have c2:=aR.tq aS;have hs:=cd.o;have de:=aR.size;refine⟨ap.Y aS,⟨rfl,rfl,rfl,rfl⟩,cf.o.fresh c2,(bV.o.tq c2).mono (by simp),bT.o.Z c2 (by simp),by rw[aP,bc];exact gn.new w1 _ _,b6.o.Z c2 (by simp),λx t=>?_,⟨zQ _,by omega,by omega⟩,cr,ce.o⟩;have h1:=bD x t;have h2:x<w1.heap.size:=by
   rcases zJ.1 t with rfl|h1
   .exact ap.ltP
   .exact ap.pl.lt x h1
  exact⟨by omega,by omega,by omega,by omega⟩
 have⟨cc,cg,b0⟩:=Q9 bg aP bc;have ba:=mN w2 b a at_ 6 A L bg.tp (by omega) (by omega);clear ap aR bD bc aP aS bg k0 k1 k2 k3;go_wp2_with fail;rw[<-cg.o,<-b0.o];refine ba.mono ?_;rintro e w3 ⟨H,a3,rfl,cB,bm,bq⟩;have b7:=gd (cc.o.tape bq bm);have aM:=mN w3 b a a3 7 A L bm (by omega) (by omega);clear ba bm bq;go_wp2_with fail;refine aM.mono ?_;rintro e w4 ⟨n4,a4,rfl,cw,bn,br⟩;have b9:=gd (b7.o.tape br bn);have aM:=mN w4 b a a4 7 A L bn (by omega) (by omega);obtain⟨dx,ct⟩:∃dx:Int,(n4:Int)-3=dx:=⟨_,rfl⟩;have cI : -3<=dx:=by omega
 have cJ:dx<=3:=by omega
 clear bn br;go_wp2_with fail;refine aM.mono ?_;rintro e w5 ⟨n5,a5,rfl,cx,bQ,bs⟩;have ca:=gd (b9.o.tape bs bQ);obtain⟨dy,cu⟩:∃dy:Int,(n5:Int)-3=dy:=⟨_,rfl⟩;have cK : -3<=dy:=by omega
 have cL:dy<=3:=by omega
 clear aM bQ bs;go_wp2_with fail;clear ct cu cw cx
 go_loopg [9,10,11,12,13,14] p.P.length (λj v9 v10 v11 v12 v13 v14 wr=>∃(i:Nat) (q:qc) (n:List Value) (m:List Nat) (at':Nat),v9=.int .i64 i/\i+j=p.P.length/\gh (ku w p g o l b a A L w.heap.size nb (w.heap.size+1) f s wr q n m at'))
 .exact⟨0,p,n,m,a5,rfl,by omega,ca⟩
 obtain⟨i,q,n,m,ax,rfl,c9,d⟩:=hrel;have⟨n0,n1,n2,n3⟩:=my d.o.nbB;simp at n0 n1 n2 n3;rcases gk with _|j
 .have I:i=p.P.length:=by omega
  have t1:decide (i<p.P.length)=false:=zA (by omega);have⟨r0,r1,r2,r3⟩:=my d.o.rbB;simp at r0 r1 r2 r3;have⟨z0,z1,z2,z3⟩:=RJ d.o.rbB 0 1 2 3;have dc:nb≠w.heap.size+1:=λe=>by
   have h1:=d.o.nbB.X 0;have h2:=d.o.rbB.X 0;rw[e,h2]at h1;simp at h1;omega
  clear I;go_wp2_with fail;have⟨rb,cz⟩:=zX (w.heap.size+1);have bI:=d.o.rbB;rw[<-cz]at bI⊢;have⟨wE,bh⟩:=zX ((((wr.setCell rb (.int .i64 p.W)).setCell ⟨rb,1,none⟩ (.int .i64 p.H)).setCell ⟨rb,2,none⟩ (.int .i64 p.d)).setCell ⟨rb,3,none⟩ (.slice f p.P.length s));have aL:gn wE rb 46 #[p.W,p.H,p.d,.slice f p.P.length s]:=by
   rw[bh]
   have:=(((bI.S 0 (.int .i64 p.W)).S 1 (.int .i64 p.H)).S 2 (.int .i64 p.d)).S 3 (.slice f p.P.length s)
   simpa using this
  have aT:gg [rb] wr wE:=by
   rw[bh];exact((((zR [rb] wr).zs 0 _).zs 1 _).zs 2 _).zs 3 _
  have⟨g0,g1,g2,g3⟩:=my aL;simp at g0 g1 g2 g3;rw[<-bh];refine bodyPost_ret (v:=.agg #[p.W,p.H,p.d,.slice f p.P.length s]) (by simp[results,results18,go_sem,g0,g1,g2,g3]) rfl ?_;have au:=d.o.Q;refine⟨q,f,s,n,m,ax,?_,d.o.own.Z aT ?_ ?_,d.o.al,d.o.tp.Y aT ?_ (d.o.tpA _ ?_),d.o.Z.trans aT ?_,λx t=>(au x t).1⟩
  .rw[d.o.al.W,d.o.al.H,d.o.al.d,d.o.al.n]
  .have:=(au f (by simp)).2.2.2
   simp;omega
  .intro x t
   have:=(au x (by simp[t])).2.2.2
   simp;omega
  .simp
   omega
  .intro x t
   simp at t;omega
  .intro x t
   simp at t;right;omega
 .have I:i<p.P.length:=by omega
  have t1:decide (i<p.P.length)=true:=zB I;by_cases hw5:H=5
  .have t2:((H:Int)==5)=true:=by rw[beq_iff_eq];omega
   obtain⟨u,ci,Q,R,U,ae,-,-⟩:=d.o.at_ (N:=N) I ay.o;have K:=d.o.bxB.X 0;have M:=d.o.bxB.X 1;have D:=d.o.bxB.X 2;simp at K M D;have ac:∀wz,gg [b] wr wz->wz.cell? ⟨f,i,none⟩=some (.slice u N ci)/\wz.frozen? ⟨f,i,none⟩=false:=λwz hz=>by
    have ho:=d.o.old;have hP:=(d.o.Q f (by simp)).1;have hr:=d.o.own.row.Z hz (by simp;omega);obtain⟨_,_,_,_,_,V⟩:=hr.open_;exact⟨(World.cell?_of_block (w:=wr) (hz.block f d.o.own.ltP (by simp;omega))).trans U,V i⟩
   have aj:∀wz,gg [b,f] wr wz->wz.cell? ⟨nb,3,none⟩=some (.slice f p.P.length s)/\wz.cell? ⟨w.heap.size,0,none⟩=some (.int .i64 p.W)/\wz.cell? ⟨w.heap.size,1,none⟩=some (.int .i64 p.H)/\wz.cell? ⟨w.heap.size,2,none⟩=some (.int .i64 p.d):=λwz hz=>by
    have ho:=d.o.old;obtain⟨b1,b2,b3⟩:=d.o.big;obtain⟨f1,f2,f3,f4⟩:=d.o.Q f (by simp);have hb:=d.o.nbB.Z hz (by simp;omega);have t:=d.o.bxB.Z hz (by simp;omega);exact⟨hb.X 3,t.X 0,t.X 1,t.X 2⟩
   have ai:=gd aj;have bG:=λwz (hz:gg [] wr wz)=>GU wz b a ax p.W p.H p.d A L (d.o.tp.fresh hz) cq aV cm aA aX aY;have⟨ad,b5,O⟩:=Q9 ac bG I;clear ac aj bG Q R hw5;go_wp2_with fail
   go_region_held3 (λz=>z.cell? ⟨nb,3,none⟩=some (.slice f p.P.length s)/\z.cell? ⟨w.heap.size,0,none⟩=some (.int .i64 p.W)/\z.cell? ⟨w.heap.size,1,none⟩=some (.int .i64 p.H)/\z.cell? ⟨w.heap.size,2,none⟩=some (.int .i64 p.d))
    (first|(go_keep;done)|exact ai.o _ (((zR [b,f] wr).drew).tq (P.mono (by simp)))|exact ai.o _ ((((zR [b,f] wr).drew).tq (P.mono (by simp))).setCell (.inl (by simp)) _)|trivial)
    (first|(go_at_call 27;refine(b5.o _ ((zR [] wr).drew)).mono ?_;rintro e w6 ⟨v6,g6,l6,a6,rfl,af,a1,bJ,aJ,P,bC⟩;obtain⟨c6,rfl,-,-,-,-⟩:=af.T;rw[a1]at af;have c0:=(ad.o _ (((zR [b] wr).drew).tq P)).1;have c5:=(ad.o _ (((zR [b] wr).drew).tq P)).2))
   have aE:gh (∃J,ku w p g o l b a A L w.heap.size nb (w.heap.size+1) f s (w6.setCell ⟨f,i,none⟩ (.slice g6 (p.W*p.H) c6)) J (n.set i (.slice g6 (p.W*p.H) c6)) (m.set i g6) a6):=gd ((d.o.Y ((zR [] wr).drew)).plane (by rw[<-d.o.al.n];exact O.o) P aJ af bC (by rw[a1,d.o.al.W,d.o.al.H]) (by rw[<-d.o.al.d];exact bJ));clear af a1 bJ aJ P bC n0 n1 n2 n3 K M D U ae;go_wp2_with fail
   go_roundg j
   .obtain⟨J,aF⟩:=aE.o
    exact⟨i+1,J,_,_,a6,by go_num,by omega,gd aF⟩
   .omega
  .have t2:((H:Int)==5)=false:=by rw[beq_eq_false_iff_ne];omega
   have O:=gd I;clear I hw5;go_wp2_with fail;obtain⟨di,rfl⟩:=zX wr
   go_loopg [10,11,12] N (λj v10 v11 v12 wr=>∃(k:Nat) (q:qc) (n:List Value) (m:List Nat),v10=.int .i64 k/\k+j=N/\gh (ku w p g o l b a A L w.heap.size nb (w.heap.size+1) f s wr q n m ax))
   .exact⟨0,q,n,m,rfl,by omega,d⟩
   clear n0 n1 n2 n3;obtain⟨k,q,n,m,rfl,db,HK⟩:=hrel;have n3:=HK.o.nbB.X 3;have⟨K,M,D,x3⟩:=my HK.o.bxB;simp at n3 K M D x3;have aC:(decide (k<N)=false\/(decide (k<N)=true/\decide ((0:Int)<(H:Int))=false/\decide (0<H)=false))\/(decide (k<N)=true/\decide ((0:Int)<(H:Int))=true/\decide (0<H)=true/\∃j2,gk=j2+1):=by
    by_cases S:k<N
    .by_cases hw0:H=0
     .exact .inl (.inr ⟨zB S,zA (by omega),zA (by omega)⟩)
     .exact .inr ⟨zB S,zB (by omega),zB (by omega),gk-1,by omega⟩
    .exact .inl (.inl (zA S))
   rcases aC with(t3|⟨t3,t4,cH⟩)|⟨t3,t4,cH,j2,rfl⟩;rotate_left 2
   .have S:k<N:=by omega
    have⟨xm,bP⟩:=zX (k%p.W);have⟨ym,bl⟩:=zX (k / p.W);have aH:xm<64:=(by have:=mod_lt k (show p.W>0 by omega);omega);have aI:ym<64:=(by rw[bl];exact Nat.div_lt_of_lt_mul (by rw[zY];omega));have bv:(k:Int)%(p.W:Int)=(xm:Int):=(by rw[bP];simp);have bw:(k:Int) / (p.W:Int)=(ym:Int):=(by rw[bl];simp);have ck:(k:Int).tmod (p.W:Int)=(xm:Int):=(by rw[Int.tmod_eq_emod_of_nonneg (by omega)];exact bv);have cl:(k:Int).tdiv (p.W:Int)=(ym:Int):=(by rw[Int.tdiv_eq_ediv_of_nonneg (by omega)];exact bw);obtain⟨X,hX⟩:∃X:Int,(xm:Int)+dx=X:=⟨_,rfl⟩;obtain⟨Y,hY⟩:∃Y:Int,(ym:Int)+dy=Y:=⟨_,rfl⟩;have cW : -10<=X:=(by omega);have cX:X<=100:=(by omega);have cY : -10<=Y:=(by omega);have cZ:Y<=100:=(by omega);clear bP bl;go_wp2
    go_quiet (fail)
    clear hX hY bv bw ck cl aH aI;have cv:(decide ((0:Int)<=X)=false\/(decide ((0:Int)<=X)=true/\decide (X<(p.W:Int))=false)\/(decide ((0:Int)<=X)=true/\decide (X<(p.W:Int))=true/\decide ((0:Int)<=Y)=false)\/(decide ((0:Int)<=X)=true/\decide (X<(p.W:Int))=true/\decide ((0:Int)<=Y)=true/\decide (Y<(p.H:Int))=false))\/(0<=X/\X<(p.W:Int)/\0<=Y/\Y<(p.H:Int)):=by
     by_cases c1:0<=X
     .by_cases c2:X<(p.W:Int)
      .by_cases c3:0<=Y
       .by_cases c4:Y<(p.H:Int)
        .exact .inr ⟨c1,c2,c3,c4⟩
        .exact .inl (.inr (.inr (.inr ⟨zB c1,zB c2,zB c3,zA c4⟩)))
       .exact .inl (.inr (.inr (.inl ⟨zB c1,zB c2,zA c3⟩)))
      .exact .inl (.inr (.inl ⟨zB c1,zA c2⟩))
     .exact .inl (.inl (zA c1))
    have⟨wy,bk⟩:=zX (wr.drewN nq);have y:gh (ku w p g o l b a A L w.heap.size nb (w.heap.size+1) f s wy q n m ax):=gd (by rw[bk];exact HK.o.Y ((zR [] wr).drewN nq));rw[<-bk];clear bk n3 K M D x3;have n3:=y.o.nbB.X 3;have K:=y.o.bxB.X 0;have M:=y.o.bxB.X 1;have x3:=y.o.bxB.X 3;simp at n3 K M x3;rcases cv with(t6|⟨t6,t7⟩|⟨t6,t7,t8⟩|⟨t6,t7,t8,t9⟩)|⟨c1,c2,c3,c4⟩;rotate_left 4
    .obtain⟨W,rfl⟩:∃W:Nat,X=(W:Int):=⟨X.toNat,by omega⟩
     obtain⟨Z,rfl⟩:∃Z:Nat,Y=(Z:Int):=⟨Y.toNat,by omega⟩;have t7:decide (W<p.W)=true:=zB (by omega);have t9:decide (Z<p.H)=true:=zB (by omega);have⟨P0,aU⟩:=zX (Z*p.W);have eP:(Z:Int)*(p.W:Int)=(P0:Int):=(by rw[aU];simp);have hf:=aQ.o W Z (by omega) (by omega);rw[<-aU]at hf;have⟨bp,bz⟩:=zX (P0+W);have eQ:(P0:Int)+(W:Int)=(bp:Int):=(by omega);rw[<-bz]at hf;obtain⟨bi,qi,dd,bH⟩:=b4.o wy y.o.Z i O.o;obtain⟨v,hv,aN,aO⟩:=bH bp hf;obtain⟨u,ci,Q,R,U,ae,am,V⟩:=y.o.at_ (N:=N) O.o ay.o;obtain⟨v9,dg,-,-⟩:=am k S;have aZ:=V k;have c8:=O.o;have cV:P0<=4096:=(by omega);have aE:gh (∀nq,∃J,ku w p g o l b a A L w.heap.size nb (w.heap.size+1) f s ((wy.drewN nq).setCell ⟨u,k,none⟩ (.int .i64 v)) J n m ax):=gd (λnq=>(y.o.Y ((zR [] wy).drewN nq)).store (by rw[<-y.o.al.n];exact O.o) Q (by rw[<-y.o.al.W,<-y.o.al.H,<-ay.o];exact S) aN (by rw[<-y.o.al.d];exact aO));clear aU bz bH am V Q R aN aO c1 c2 c3 c4;go_wp2_with fail;refine i9 20 (by kernel_rfl) (by kernel_rfl) ?_;simp only[take_succ_cons,take_zero,drop_succ_cons,drop_zero]
     repeat(go_big_quiet_step (fail))
     refine wpQuiet_nil ?_;intro _ cA;obtain⟨cG,rfl⟩:=cA;go_wp2_with fail
     go_roundg j2
     .obtain⟨J,aF⟩:=aE.o cG
      exact⟨k+1,J,n,m,by go_num,by omega,gd aF⟩
     .omega
    all_goals
     go_wp2_with fail
     go_roundg j2
     .exact⟨k+1,q,n,m,by go_num,by omega,y⟩
     .omega
   all_goals
    have bd:=mN wr b a ax (H+1) A L HK.o.tp (by omega) (by omega);have⟨bo,bN⟩:=zX (H+1);have cN:(H:Int)+1=(bo:Int):=(by omega);rw[<-bN]at bd;clear bN;go_wp2_with fail;refine bd.mono ?_;rintro e w6 ⟨nn,a6,rfl,ba,aJ,P⟩;have cb:=gd (HK.o.tape P aJ);clear bd aJ P n3 K M D x3;go_wp2_with fail;obtain⟨dj,rfl⟩:=zX wr
    go_loopg [13,14] nn (λj v13 v14 wr=>∃(q:qc) (n:List Value) (m:List Nat) (at':Nat),v13=.int .i64 j/\j<=nn/\gh (ku w p g o l b a A L w.heap.size nb (w.heap.size+1) f s wr q n m at'))
    .exact⟨_,_,_,_,rfl,zQ _,cb⟩
    obtain⟨q,n,m,a7,rfl,da,T⟩:=hrel;have n3:=T.o.nbB.X 3;have K:=T.o.bxB.X 0;have M:=T.o.bxB.X 1;have D:=T.o.bxB.X 2;simp at n3 K M D;rcases gk with _|j3
    .have t5:decide ((0:Int)<((0:Nat):Int))=false:=by decide
     go_wp2_with fail
     go_roundg j
     .exact⟨i+1,q,n,m,a7,by go_num,by omega,T⟩
     .omega
    .have⟨m3,a2⟩:=zX (j3+1)
     rw[<-a2];have dh:decide (0<m3)=true:=zB (by omega);have cM:(m3:Int)-1=(j3:Int):=(by omega);have bE:=mN wr b a a7 N A L T.o.tp cn (by omega);have bY:=gd a2;clear a2;go_wp2_with fail;refine bE.mono ?_;rintro e C ⟨k,a8,rfl,a0,bR,bu⟩;have r:=gd (T.o.tape bu bR);obtain⟨u,ci,Q,R,U,ae,am,V⟩:=r.o.at_ (N:=N) O.o ay.o;obtain⟨v,hv,aN,aO⟩:=am k a0;have aZ:=V k;obtain⟨be,bf⟩:=jX aX aY;have df:v<65536:=(by omega);have n3:=r.o.nbB.X 3;have D:=r.o.bxB.X 2;simp at n3 D;have ac:∀wz,gg [b,u] C wz->wz.cell? ⟨nb,3,none⟩=some (.slice f p.P.length s)/\wz.cell? ⟨w.heap.size,2,none⟩=some (.int .i64 p.d)/\wz.cell? ⟨f,i,none⟩=some (.slice u N ci):=λwz hz=>by
      have ho:=r.o.old;obtain⟨b1,b2,b3⟩:=r.o.big;obtain⟨f1,f2,f3,f4⟩:=r.o.Q u (by simp[R]);have hP:=(r.o.Q f (by simp)).1;have cy:=r.o.own.neP (by rw[<-r.o.al.n];exact O.o) Q;have hb:=r.o.nbB.Z hz (by simp;omega);have t:=r.o.bxB.Z hz (by simp;omega);exact⟨hb.X 3,t.X 2,(World.cell?_of_block (w:=C) (hz.block f r.o.own.ltP (by simp;exact⟨by omega,cy⟩))).trans U⟩
     have aj:∀wz,gg [b] C wz->wz.cell? ⟨u,k,none⟩=some (.int .i64 v)/\wz.frozen? ⟨u,k,none⟩=false:=λwz hz=>by
      have h9:=r.o.own.pl.lt u R;have hP:=(r.o.Q u (by simp[R])).1;have bA:=hz.block u h9 (by simp;omega);exact⟨(World.cell?_of_block (w:=C) bA).trans hv,(World.frozen?_of_block (w:=C) bA).trans aZ⟩
     have bb:=λwz (hz:gg [] C wz)=>mN wz b a a8 9 A L (r.o.tp.fresh hz) (by omega) (by omega);have cC:∀n9:Nat,n9<9->IntKind.i64.wrap (v+1+(n9:Int))=v+1+(n9:Int):=λn9 h=>IntWalk.i64_in _ (by omega);have bj:IntKind.i64.wrap (v+1)=v+1:=IntWalk.i64_in _ (by omega);have⟨ad,ai,bZ,bW⟩:=gu ac aj bb Q;have bX:=gd a0;have cO:(0:Int)<=(i:Int):=(by omega);have cQ:(i:Int)<(p.P.length:Int):=(by have:=O.o;omega);have cR:(0:Int)<=(k:Int):=(by omega);have cS:(k:Int)<(N:Int):=(by omega);clear ac aj bb Q R V am a0 bR bu bE K M aN aO be bf;go_wp2_with fail;have cp:Ca nb f s p.P.length i u N ci k p.d w.heap.size v C.drew:=⟨n3,D,U,hv⟩;refine IP 21 (by kernel_rfl) (by decide +kernel) cp ?_
     iterate 16 (refine hU (v:=?_) (by decide +kernel) rfl (λ_ _ _ h=>h) (by rfl) (by assumption) ?_ ?_;rotate_left;(focus (rintro _ ⟨_,_,_,_⟩;go_simp;try with_reducible rfl));try simp only[Act.put,getElem_toArray,List.getElem_cons_succ,List.getElem_cons_zero,setIfInBounds_toArray,set_cons_zero,set_cons_succ,Nat.reduceAdd])
     intro hs;clear hs;refine hT (i:=18) (v:=?_) (by decide +kernel) rfl (λ_ _ _ h=>h) (by rfl) (by assumption) ?_ ?_;rotate_left
     ·(rintro _ ⟨_,_,_,_⟩;go_simp;try with_reducible rfl)
     refine hT (i:=19) (v:=?_) (by decide +kernel) rfl (λ_ _ _ h=>h) (by rfl) (by assumption) ?_ ?_;rotate_left
     ·(rintro _ ⟨_,_,_,_⟩;go_simp;try with_reducible rfl)
     refine BO (i:=16) rfl (by decide) (by decide +kernel) ?_;intro K' aB;go_simp
     go_at_call 17
     refine(bZ.o _ ((zR [] C).drew)).mono ?_;rintro e w9 ⟨n9,a9,rfl,bb,bS,az⟩;have cs:=(ai.o _ (((zR [b] C).drew).tq az)).1;have c7:=(ai.o _ (((zR [b] C).drew).tq az)).2;obtain⟨cD,cE,cF⟩:=ad.o _ (((zR [b,u] C).drew).tq (az.mono (by simp)));have bx:Ca nb f s p.P.length i u N ci k p.d w.heap.size v w9:=⟨cD,cE,cF,cs⟩;refine Shut.out aB _ _ bx ?_;clear aB K'
     try simp only[Act.put,setIfInBounds_toArray,set_cons_zero,set_cons_succ]
     refine hT (i:=17) (v:=?_) (by decide +kernel) rfl (λ_ _ _ h=>h) (by rfl) (by assumption) ?_ ?_;rotate_left
     ·(rintro _ ⟨_,_,_,_⟩;go_simp;try with_reducible rfl)
     refine BO (i:=20) rfl (by decide) (by decide +kernel) ?_;intro K' aB;go_simp
     go_at_call 29
     refine gB (ch.o _ _) ?_;refine Shut.out aB _ _ bx ?_;clear aB K'
     try simp only[Act.put,setIfInBounds_toArray,set_cons_zero,set_cons_succ]
     refine Hu (by decide +kernel) ?_;simp only[drop_succ_cons,drop_zero,toList_toArray];have aE:gh (∃J,ku w p g o l b a A L w.heap.size nb (w.heap.size+1) f s (w9.setCell ⟨u,k,none⟩ (.int .i64 (gU (v+1+(n9:Int)) p.d))) J n m a9):=gd (((r.o.Y ((zR [] C).drew)).tape az bS).store (by rw[<-r.o.al.n];exact O.o) bW.o (by rw[<-r.o.al.W,<-r.o.al.H,<-ay.o];exact bX.o) (jK _ _) (by rw[<-r.o.al.d];exact jJ _ _));clear az bS hv aZ n3 D U ae cC bj;go_wp2_with fail
     go_roundg j3
     .obtain⟨J,aF⟩:=aE.o
      have:=bY.o
      exact⟨J,n,m,a9,by go_num,by omega,gd aF⟩
     .omega
end Go.Proofs.YtifdlkoepaepiaaGreatDoor
