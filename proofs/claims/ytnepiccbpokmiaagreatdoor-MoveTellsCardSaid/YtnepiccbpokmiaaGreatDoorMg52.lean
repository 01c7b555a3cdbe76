/- Lemmas. -/
import Derived.Test.YtnepiccbpokmiaaGreatDoorMg51
import Derived.Test.YtnepiccbpokmiaaGreatDoorMg48
set_option linter.all false
set_option maxHeartbeats 4000000
set_option maxRecDepth 100000
namespace Go.Proofs.YtnepiccbpokmiaaGreatDoor
open Tryz List Nat Go.RowKit
def rJ(ms:List (Int × Int)):Prop:=∀i,(-9223372036854775808<=(ms.getD i (0,0)).1/\(ms.getD i (0,0)).1<=9223372036854775807)/\-9223372036854775808<=(ms.getD i (0,0)).2/\(ms.getD i (0,0)).2<=9223372036854775807
theorem rJ.of{ms:List (Int × Int)}(h:∀i,i<ms.length->oo (ms.getD i (0,0))):rJ ms:=λi=>by
 rcases zZ i ms.length with hi|hi
 .have:=h i hi
  unfold oo at this;omega
 .rw[zD,getElem?_eq_none hi]
  decide
theorem KQ(w:World)(A:Option Addr)(cap:Nat)(L:List Int)(D:gu vi w A L)(hin:∀x∈L,mX x)(J:L.length<=9223372036854775807){r s:iH}{V W:Option Addr}{B1 B2:Nat->Option Addr}{k1 k2:Nat->Nat}{G1 G2:List Nat}(g f:Nat)(h1:jH w r V B1 k1 G1)(h2:jH w s W B2 k2 G2)(O:Option Addr)(j:Nat)(ms:List (Int × Int))(hM:gu (λv=>v) w O (ms.flatMap lu))(F:rJ ms)(x y:Int)(hp:jJ w):Calls prog 3 #[.slice A L.length cap,ip r V g,ip s W f,.slice O ms.length j,.int .i64 x,y] w λe w'=>e=.returned (.bool true)/\gf [] w w':=by
 have aN:=λwz (a:gf [] w wz)=>C4 g (h1.Y a);have aO:=λwz (a:gf [] w wz)=>C4 f (h2.Y a);have bd:=λwz (a:gf [] w wz)=>OO wz A cap L 20 (D.Y a) hin J (by omega) (by omega);have⟨H1,H2,HM,bf⟩:=gz h1 h2 hM F;have HP:=gd hp;have⟨mN,a8⟩:=zX ms.length;rw[<-a8];have bB:=gd a8;have⟨lN,a7⟩:=zX L.length;rw[<-a7];simp only[<-a7]at bd;have⟨n1,ba⟩:=zX r.P.length;have⟨n2,bb⟩:=zX s.P.length;have⟨bD,bE⟩:=gy ba bb;unfold ip at aN aO⊢;rw[<-ba]at aN⊢;rw[<-bb]at aO⊢;have⟨w1,ay⟩:=zX ((w.alloc (.cells #[r.W,r.H,r.d,.slice V n1 g] 25)).alloc (.cells #[s.W,s.H,s.d,.slice W n2 f] 25));have I:gh (gf [] w w1):=gd (by rw[ay];exact((zR [] w).alloc _).alloc _);have R:gn w1 w.heap.size 25 #[r.W,r.H,r.d,.slice V n1 g]:=by rw[ay];exact(gn.new w _ _).alloc _
 have T:gn w1 (w.heap.size+1) 25 #[s.W,s.H,s.d,.slice W n2 f]:=by rw[ay];exact gn.new2 w _ _ _
 have bR:gh (w1.heap.size=w.heap.size+1+1):=gd (by rw[ay,iO,iO]);have aE:=λwz (D:gf [] w1 wz)=>And.intro (And.intro ((R.Z D (by simp)).X 0) (And.intro ((R.Z D (by simp)).X 1) (And.intro ((R.Z D (by simp)).X 2) ((R.Z D (by simp)).X 3)))) (And.intro ((T.Z D (by simp)).X 0) (And.intro ((T.Z D (by simp)).X 1) (And.intro ((T.Z D (by simp)).X 2) ((T.Z D (by simp)).X 3))));have⟨bQ,bO,bP,bM⟩:=gz ay aN aO bd;have⟨bv,bw,aR⟩:=gS R T aE;clear ay aN aO bd R T aE h1 h2 hM F hp a8 a7 ba bb D hin J;go_enter func3,ntmps3;go_wp2_with fail;rw[<-bQ.o];refine(bO.o w1 I.o).mono ?_;rintro e wA ⟨v1,rfl,a5⟩;have aV:=gd a5;obtain⟨⟨k,l,m,n⟩,⟨o,t,u,z⟩⟩:=aR.o wA a5;clear a5
 cases v1 with
 | true=>
  go_wp2;go_ret;exact⟨rfl,I.o.tq aV.o⟩
 | false=>
  go_wp2_with fail;refine(bP.o wA (I.o.tq aV.o)).mono ?_;rintro e wB ⟨v2,rfl,bh⟩;have az:=gd (aV.o.tq bh);clear bh k l m n o t u z
  cases v2 with
  | true=>
   go_wp2;go_ret;exact⟨rfl,I.o.tq az.o⟩
  | false=>
   by_cases hmany:100<mN
   .have t1:decide (100<mN)=true:=zB hmany
    have b9:=i6 100 mN (by omega);clear hmany;go_wp2;go_ret;exact⟨rfl,I.o.tq az.o⟩
   .have t1:decide (100<mN)=false:=zA hmany
    have b9:=gL 100 mN (by omega);clear hmany;go_wp2_with fail;refine(bM.o wB (I.o.tq az.o)).mono ?_;rintro e U ⟨p,q,gP,E,gQ,N,b,bg,xs,xq,gs,gq,rfl,av,aL,bX,-,-,bc,bi,bZ,bl,bm⟩;have aC:b∉gP::gs:=λhm=>by have:=bl b hm;omega
    have aD:b∉gQ::gq:=λhm=>by have:=bm b hm;omega
    have a6:∀G:List Nat,b∉G->∀x∈G,x∉[b]:=λG hG x hx hm=>by simp at hm;subst hm;exact hG hx
    have aF:=av.ok;have be:w1.heap.size<=b:=(by have:=az.o.size;omega);have⟨ra,aG⟩:=zX U.heap.size;have⟨u0,aH⟩:=zX (((U.alloc (.cells #[p.W,p.H,p.d,.slice gP p.P.length E] 25)).alloc (.cells #[q.W,q.H,q.d,.slice gQ q.P.length N] 25)));have X:gf [] U u0:=(by rw[aH];exact((zR [] U).alloc _).alloc _);have bj:gn u0 ra 25 #[p.W,p.H,p.d,.slice gP p.P.length E]:=(by rw[aH,aG];exact(gn.new U _ _).alloc _);have bk:gn u0 (ra+1) 25 #[q.W,q.H,q.d,.slice gQ q.P.length N]:=(by rw[aH,aG];exact gn.new2 U _ _ _);have bY:b<ra:=(by rw[aG];exact bc.blk.lt);have aM:gf [] w1 u0:=(az.o.tq bi).tq X;have b6:=bR.o;have ar:∀wz,gf [b] u0 wz->(wz.cell? ⟨w.heap.size,0,none⟩=some (.int .i64 r.W)/\wz.cell? ⟨w.heap.size,1,none⟩=some (.int .i64 r.H)/\wz.cell? ⟨w.heap.size,2,none⟩=some (.int .i64 r.d)/\wz.cell? ⟨w.heap.size,3,none⟩=some (.slice V n1 g))/\(wz.cell? ⟨w.heap.size+1,0,none⟩=some (.int .i64 s.W)/\wz.cell? ⟨w.heap.size+1,1,none⟩=some (.int .i64 s.H)/\wz.cell? ⟨w.heap.size+1,2,none⟩=some (.int .i64 s.d)/\wz.cell? ⟨w.heap.size+1,3,none⟩=some (.slice W n2 f))/\(wz.cell? ra=some (.int .i64 p.W)/\wz.cell? ⟨ra,1,none⟩=some (.int .i64 p.H)/\wz.cell? ⟨ra,2,none⟩=some (.int .i64 p.d)/\wz.cell? ⟨ra,3,none⟩=some (.slice gP p.P.length E))/\(wz.cell? ⟨ra+1,0,none⟩=some (.int .i64 q.W)/\wz.cell? ⟨ra+1,1,none⟩=some (.int .i64 q.H)/\wz.cell? ⟨ra+1,2,none⟩=some (.int .i64 q.d)/\wz.cell? ⟨ra+1,3,none⟩=some (.slice gQ q.P.length N)):=λwz a=>by
     have g1:=(bv.o.Z aM (by simp)).Z a (by simp;omega);have g2:=(bw.o.Z aM (by simp)).Z a (by simp;omega);have g3:=bj.Z a (by simp;omega);have g4:=bk.Z a (by simp;omega);exact⟨⟨(g1).X 0,(g1).X 1,(g1).X 2,(g1).X 3⟩,⟨(g2).X 0,(g2).X 1,(g2).X 2,(g2).X 3⟩,⟨(g3).X 0,(g3).X 1,(g3).X 2,(g3).X 3⟩,⟨(g4).X 0,(g4).X 1,(g4).X 2,(g4).X 3⟩⟩
    have M:∀wz,gf [b] u0 wz->gf [] w wz:=λwz a=>(I.o.tq aM).trans a (λx hx=>.inr (by simp at hx;have:=I.o.size;omega));have ag:=λwz (a:gf [b] u0 wz)=>H1.o.Y (M wz a);have ad:=λwz (a:gf [b] u0 wz)=>H2.o.Y (M wz a);have K:=λwz (a:gf [b] u0 wz)=>((av.at_.Y X).Z a (a6 _ aC)).raw;have Y:=λwz (a:gf [b] u0 wz)=>((aL.at_.Y X).Z a (a6 _ aD)).raw;have H:=λwz (a:gf [b] u0 wz)=>HP.o.Y (M wz a);have am:=λwz (a:gf [b] u0 wz)=>xy E (K wz a) N (Y wz a) (H wz a);have an:=λwz (a:gf [b] u0 wz)=>xy g (ag wz a) f (ad wz a) (H wz a);have P:=λwz (a:gf [b] u0 wz)=>xy E (K wz a) f (ad wz a) (H wz a);have a9:=λwz (tp:jo wz b A cap L bg)=>KP aF gP 0 E b cap bg A L tp;have al:=λwz (a:gf [b] u0 wz) O j ms hM F=>yT E (K wz a) N (Y wz a) (H wz a) O j ms hM F;have Z:=λwz (a:gf [b] u0 wz)=>yT E (K wz a) N (Y wz a) (H wz a) O j ms (HM.o.Y (M wz a)) bf.o;have ak:=λwz (a:gf [b] u0 wz)=>yT g (ag wz a) f (ad wz a) (H wz a) O j ms (HM.o.Y (M wz a)) bf.o;have ao:=λwz (a:gf [b] u0 wz) x y=>xn E (K wz a) N (Y wz a) x y;have Q:=λwz (a:gf [b] u0 wz) x y=>xn E (K wz a) f (ad wz a) x y;have ap:=λwz (a:gf [b] u0 wz) x y=>xn g (ag wz a) f (ad wz a) x y;have bo:=λwz (a:gf [b] u0 wz)=>KM wz (H wz a);simp only[uM]at am P al Z ao Q;simp only[<-bB.o]at Z ak;unfold ip at an P ak Q ap;simp only[<-bD.o,<-bE.o]at an P ak Q ap;unfold gN at am P al Z ao Q a9⊢;have⟨aa,bz,aW,aX⟩:=gz ar M am an;have⟨aY,bC,aS,aT⟩:=gz P a9 al Z;have⟨aU,aA,aZ,a4⟩:=gz ak ao Q ap;have⟨bA,bL,bN,bF⟩:=gz bo (bc.fresh X) aH aG;clear bc bi bZ bl bm aC aD a6 aF be aG aH X bj bk bY aM ar M ag ad K Y H am an P a9 al Z ak ao Q ap bo av aL bX b6;obtain⟨⟨k,l,m,n⟩,⟨o,t,u,z⟩,⟨B,c1,c2,c3⟩,⟨C,d1,d2,d3⟩⟩:=aa.o u0 (zR _ _);go_wp2_with fail;rw[<-bN.o,<-bF.o];go_wp2_with fail;clear k l m n o t u z B c1 c2 c3 C d1 d2 d3;have⟨x2,bq⟩:=zX (bits .and .i64 x 2);have ca:=bq.symm;have⟨cc,aI⟩:=zX (IntKind.i64.wrap (x2*8));have bT:=aI.symm;clear bq aI;have⟨y2,br⟩:=zX (bits .and .i64 y 2);have cb:=br.symm;have⟨cd,aJ⟩:=zX (IntKind.i64.wrap (y2*8));have bV:=aJ.symm;clear br aJ;have D0:gf [b] u0 u0.drew:=(zR [b] u0).drew;have bK:=gd (bL.o.fresh ((zR [] u0).drew));refine Ah (S:=λw'=>gf [b] u0 w') 64 (by kernel_rfl) (by decide +kernel) D0 ?_
    iterate 2 (refine hU (v:=?_) (by decide +kernel) rfl (λ_ _ _ h=>h) (by simp only[Region.wanted];first|kernel_rfl|rfl) (by assumption) ?_ ?_;rotate_left;(focus (intro wz a;obtain⟨⟨k,l,m,n⟩,⟨o,t,u,z⟩,⟨B,c1,c2,c3⟩,⟨C,d1,d2,d3⟩⟩:=aa.o wz a;go_simp;try with_reducible rfl));try simp only[Act.put,getElem_toArray,List.getElem_cons_succ,List.getElem_cons_zero,setIfInBounds_toArray,set_cons_zero,set_cons_succ,Nat.reduceAdd])
    refine nX rfl (by decide) (by decide +kernel) ?_;intro i d;go_simp
    go_at_call 6
    refine(aW.o _ D0).mono ?_;rintro e w1' ⟨rfl,c⟩;have D1:gf [b] u0 w1':=D0.trans c (by simp);have bH:=gd (bK.o.fresh c);clear c;refine Shut.out d _ _ D1 ?_;clear d i
    try simp only[Act.put,getElem_toArray,List.getElem_cons_succ,List.getElem_cons_zero,setIfInBounds_toArray,set_cons_zero,set_cons_succ,Nat.reduceAdd]
    iterate 3 (refine hU (v:=?_) (by decide +kernel) rfl (λ_ _ _ h=>h) (by simp only[Region.wanted];first|kernel_rfl|rfl) (by assumption) ?_ ?_;rotate_left;(focus (intro wz a;obtain⟨⟨k,l,m,n⟩,⟨o,t,u,z⟩,⟨B,c1,c2,c3⟩,⟨C,d1,d2,d3⟩⟩:=aa.o wz a;go_simp;try with_reducible rfl));try simp only[Act.put,getElem_toArray,List.getElem_cons_succ,List.getElem_cons_zero,setIfInBounds_toArray,set_cons_zero,set_cons_succ,Nat.reduceAdd])
    refine nX rfl (by decide) (by decide +kernel) ?_;intro i d;go_simp
    go_at_call 6
    refine(aX.o _ D1).mono ?_;rintro e w2' ⟨rfl,c⟩;have D2:gf [b] u0 w2':=D1.trans c (by simp);have bI:=gd (bH.o.fresh c);clear c;refine Shut.out d _ _ D2 ?_;clear d i
    try simp only[Act.put,getElem_toArray,List.getElem_cons_succ,List.getElem_cons_zero,setIfInBounds_toArray,set_cons_zero,set_cons_succ,Nat.reduceAdd]
    iterate 4 (refine hU (v:=?_) (by decide +kernel) rfl (λ_ _ _ h=>h) (by simp only[Region.wanted];first|kernel_rfl|rfl) (by assumption) ?_ ?_;rotate_left;(focus (intro wz a;obtain⟨⟨k,l,m,n⟩,⟨o,t,u,z⟩,⟨B,c1,c2,c3⟩,⟨C,d1,d2,d3⟩⟩:=aa.o wz a;go_simp;try with_reducible rfl));try simp only[Act.put,getElem_toArray,List.getElem_cons_succ,List.getElem_cons_zero,setIfInBounds_toArray,set_cons_zero,set_cons_succ,Nat.reduceAdd])
    refine nX rfl (by decide) (by decide +kernel) ?_;intro i d;go_simp
    go_at_call 6
    refine(aY.o _ D2).mono ?_;rintro e w3' ⟨rfl,c⟩;have D3:gf [b] u0 w3':=D2.trans c (by simp);have bJ:=gd (bI.o.fresh c);clear c;refine Shut.out d _ _ D3 ?_;clear d i
    try simp only[Act.put,getElem_toArray,List.getElem_cons_succ,List.getElem_cons_zero,setIfInBounds_toArray,set_cons_zero,set_cons_succ,Nat.reduceAdd]
    iterate 6 (refine hU (v:=?_) (by decide +kernel) rfl (λ_ _ _ h=>h) (by simp only[Region.wanted];first|kernel_rfl|rfl) (by assumption) ?_ ?_;rotate_left;(focus (intro wz a;obtain⟨⟨k,l,m,n⟩,⟨o,t,u,z⟩,⟨B,c1,c2,c3⟩,⟨C,d1,d2,d3⟩⟩:=aa.o wz a;go_simp;try with_reducible rfl));try simp only[Act.put,getElem_toArray,List.getElem_cons_succ,List.getElem_cons_zero,setIfInBounds_toArray,set_cons_zero,set_cons_succ,Nat.reduceAdd])
    refine nX rfl (by decide) (by decide +kernel) ?_;intro i d;go_simp
    go_at_call 8
    refine(bC.o _ bJ.o).mono ?_;rintro e w4' ⟨vM,FM,b7,rfl,aK,-,bp,-,c,bW⟩;obtain⟨bs,bS,rfl,b4,b5,bn,-⟩:=aK.open_;have⟨bx,bG⟩:=gy bn (rJ.of bp);have D4:gf [b] u0 w4':=D3.tq c;clear aK bp bW b4 b5 bn c;refine Shut.out d _ _ D4 ?_;clear d i
    try simp only[Act.put,getElem_toArray,List.getElem_cons_succ,List.getElem_cons_zero,setIfInBounds_toArray,set_cons_zero,set_cons_succ,Nat.reduceAdd]
    refine nX rfl (by decide) (by decide +kernel) ?_;intro i d;go_simp
    go_at_call 7
    refine(aS.o _ D4 bs bS b7 bx.o bG.o).mono ?_;rintro e w5' ⟨rfl,c⟩;have D5:gf [b] u0 w5':=D4.trans c (by simp);clear c;refine Shut.out d _ _ D5 ?_;clear d i
    try simp only[Act.put,getElem_toArray,List.getElem_cons_succ,List.getElem_cons_zero,setIfInBounds_toArray,set_cons_zero,set_cons_succ,Nat.reduceAdd]
    iterate 5 (refine hU (v:=?_) (by decide +kernel) rfl (λ_ _ _ h=>h) (by simp only[Region.wanted];first|kernel_rfl|rfl) (by assumption) ?_ ?_;rotate_left;(focus (intro wz a;obtain⟨⟨k,l,m,n⟩,⟨o,t,u,z⟩,⟨B,c1,c2,c3⟩,⟨C,d1,d2,d3⟩⟩:=aa.o wz a;go_simp;try with_reducible rfl));try simp only[Act.put,getElem_toArray,List.getElem_cons_succ,List.getElem_cons_zero,setIfInBounds_toArray,set_cons_zero,set_cons_succ,Nat.reduceAdd])
    refine nX rfl (by decide) (by decide +kernel) ?_;intro i d;go_simp
    go_at_call 7
    refine(aT.o _ D5).mono ?_;rintro e w6' ⟨rfl,c⟩;have D6:gf [b] u0 w6':=D5.trans c (by simp);clear c;refine Shut.out d _ _ D6 ?_;clear d i
    try simp only[Act.put,getElem_toArray,List.getElem_cons_succ,List.getElem_cons_zero,setIfInBounds_toArray,set_cons_zero,set_cons_succ,Nat.reduceAdd]
    iterate 5 (refine hU (v:=?_) (by decide +kernel) rfl (λ_ _ _ h=>h) (by simp only[Region.wanted];first|kernel_rfl|rfl) (by assumption) ?_ ?_;rotate_left;(focus (intro wz a;obtain⟨⟨k,l,m,n⟩,⟨o,t,u,z⟩,⟨B,c1,c2,c3⟩,⟨C,d1,d2,d3⟩⟩:=aa.o wz a;go_simp;try with_reducible rfl));try simp only[Act.put,getElem_toArray,List.getElem_cons_succ,List.getElem_cons_zero,setIfInBounds_toArray,set_cons_zero,set_cons_succ,Nat.reduceAdd])
    refine nX rfl (by decide) (by decide +kernel) ?_;intro i d;go_simp
    go_at_call 7
    refine(aU.o _ D6).mono ?_;rintro e w7' ⟨rfl,c⟩;have D7:gf [b] u0 w7':=D6.trans c (by simp);clear c;refine Shut.out d _ _ D7 ?_;clear d i
    try simp only[Act.put,getElem_toArray,List.getElem_cons_succ,List.getElem_cons_zero,setIfInBounds_toArray,set_cons_zero,set_cons_succ,Nat.reduceAdd]
    iterate 10 (refine hU (v:=?_) (by decide +kernel) rfl (λ_ _ _ h=>h) (by simp only[Region.wanted];first|kernel_rfl|rfl) (by assumption) ?_ ?_;rotate_left;(focus (intro wz a;obtain⟨⟨k,l,m,n⟩,⟨o,t,u,z⟩,⟨B,c1,c2,c3⟩,⟨C,d1,d2,d3⟩⟩:=aa.o wz a;go_simp;try with_reducible rfl));try simp only[Act.put,getElem_toArray,List.getElem_cons_succ,List.getElem_cons_zero,setIfInBounds_toArray,set_cons_zero,set_cons_succ,Nat.reduceAdd])
    refine nX rfl (by decide) (by decide +kernel) ?_;intro i d;go_simp
    go_at_call 9
    refine(aA.o _ D7 _ _).mono ?_;rintro e w8' ⟨rfl,c⟩;have D8:gf [b] u0 w8':=D7.trans c (by simp);clear c;refine Shut.out d _ _ D8 ?_;clear d i
    try simp only[Act.put,getElem_toArray,List.getElem_cons_succ,List.getElem_cons_zero,setIfInBounds_toArray,set_cons_zero,set_cons_succ,Nat.reduceAdd]
    iterate 6 (refine hU (v:=?_) (by decide +kernel) rfl (λ_ _ _ h=>h) (by simp only[Region.wanted];first|kernel_rfl|rfl) (by assumption) ?_ ?_;rotate_left;(focus (intro wz a;obtain⟨⟨k,l,m,n⟩,⟨o,t,u,z⟩,⟨B,c1,c2,c3⟩,⟨C,d1,d2,d3⟩⟩:=aa.o wz a;go_simp;try with_reducible rfl));try simp only[Act.put,getElem_toArray,List.getElem_cons_succ,List.getElem_cons_zero,setIfInBounds_toArray,set_cons_zero,set_cons_succ,Nat.reduceAdd])
    refine nX rfl (by decide) (by decide +kernel) ?_;intro i d;go_simp
    go_at_call 9
    refine(aA.o _ D8 _ _).mono ?_;rintro e w9' ⟨rfl,c⟩;have D9:gf [b] u0 w9':=D8.trans c (by simp);clear c;refine Shut.out d _ _ D9 ?_;clear d i
    try simp only[Act.put,getElem_toArray,List.getElem_cons_succ,List.getElem_cons_zero,setIfInBounds_toArray,set_cons_zero,set_cons_succ,Nat.reduceAdd]
    iterate 4 (refine hU (v:=?_) (by decide +kernel) rfl (λ_ _ _ h=>h) (by simp only[Region.wanted];first|kernel_rfl|rfl) (by assumption) ?_ ?_;rotate_left;(focus (intro wz a;obtain⟨⟨k,l,m,n⟩,⟨o,t,u,z⟩,⟨B,c1,c2,c3⟩,⟨C,d1,d2,d3⟩⟩:=aa.o wz a;go_simp;try with_reducible rfl));try simp only[Act.put,getElem_toArray,List.getElem_cons_succ,List.getElem_cons_zero,setIfInBounds_toArray,set_cons_zero,set_cons_succ,Nat.reduceAdd])
    refine nX rfl (by decide) (by decide +kernel) ?_;intro i d;go_simp
    go_at_call 9
    refine(aZ.o _ D9 _ _).mono ?_;rintro e w10' ⟨rfl,c⟩;have aP:gf [b] u0 w10':=D9.trans c (by simp);clear c;refine Shut.out d _ _ aP ?_;clear d i
    try simp only[Act.put,getElem_toArray,List.getElem_cons_succ,List.getElem_cons_zero,setIfInBounds_toArray,set_cons_zero,set_cons_succ,Nat.reduceAdd]
    iterate 6 (refine hU (v:=?_) (by decide +kernel) rfl (λ_ _ _ h=>h) (by simp only[Region.wanted];first|kernel_rfl|rfl) (by assumption) ?_ ?_;rotate_left;(focus (intro wz a;obtain⟨⟨k,l,m,n⟩,⟨o,t,u,z⟩,⟨B,c1,c2,c3⟩,⟨C,d1,d2,d3⟩⟩:=aa.o wz a;go_simp;try with_reducible rfl));try simp only[Act.put,getElem_toArray,List.getElem_cons_succ,List.getElem_cons_zero,setIfInBounds_toArray,set_cons_zero,set_cons_succ,Nat.reduceAdd])
    refine nX rfl (by decide) (by decide +kernel) ?_;intro i d;go_simp
    go_at_call 9
    refine(a4.o _ aP _ _).mono ?_;rintro e w11' ⟨rfl,c⟩;have aQ:gf [b] u0 w11':=aP.trans c (by simp);clear c;refine Shut.out d _ _ aQ ?_;clear d i
    try simp only[Act.put,getElem_toArray,List.getElem_cons_succ,List.getElem_cons_zero,setIfInBounds_toArray,set_cons_zero,set_cons_succ,Nat.reduceAdd]
    iterate 2 (refine hU (v:=?_) (by decide +kernel) rfl (λ_ _ _ h=>h) (by simp only[Region.wanted];first|kernel_rfl|rfl) (by assumption) ?_ ?_;rotate_left;(focus (intro wz a;obtain⟨⟨k,l,m,n⟩,⟨o,t,u,z⟩,⟨B,c1,c2,c3⟩,⟨C,d1,d2,d3⟩⟩:=aa.o wz a;go_simp;try with_reducible rfl));try simp only[Act.put,getElem_toArray,List.getElem_cons_succ,List.getElem_cons_zero,setIfInBounds_toArray,set_cons_zero,set_cons_succ,Nat.reduceAdd])
    refine NC (by decide +kernel) ?_;simp only[drop_succ_cons,drop_zero,toList_toArray];go_wp2_with fail;refine(bA.o _ aQ).mono ?_;rintro e w12' ⟨rfl,c⟩;have bu:gf [b] u0 w12':=aQ.trans c (by simp);clear c;go_wp2;go_ret;exact⟨rfl,bz.o _ bu⟩
end Go.Proofs.YtnepiccbpokmiaaGreatDoor
