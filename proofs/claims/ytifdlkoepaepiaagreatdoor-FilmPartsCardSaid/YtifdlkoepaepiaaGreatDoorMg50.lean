/- Lemmas. -/
import Derived.Test.YtifdlkoepaepiaaGreatDoorMg49
set_option linter.all false
set_option maxHeartbeats 2000000
set_option maxRecDepth 100000
namespace Go.Proofs.YtifdlkoepaepiaaGreatDoor
open Tryz List Nat Go.RowKit
variable {cap:Nat}{A:Option Addr}{w:World}
theorem Jn{bs:List Nat}(h:∀b∈bs,b<2):ig (re bs) 0 bs:=by
 have a:=ux h;have e:kV bs=[]++bs++replicate ((8-bs.length%8)%8) 0:=by
  unfold kV;rw[nil_append]
 unfold re;rw[e]at a⊢;exact zw a
theorem Di{p:gA}(r:p.Ok){T rest:List Nat}{k:Nat}(hf2:k=0\/k=1)(K:T=pa p.W p.H p.d p.P.length++(gx k 1++rest))(hTl:19<=T.length/\T.length<=4096000000)(c:∀b∈T,b<2)(M:∀bo a b F,ig bo (0+18+1) rest->gM a b F bo (0+18+1)->iK a->0∉F->Calls prog (if k=1 then 61 else 62) #[.pointer (some ⟨b,0,none⟩),p.W,p.H,p.d,p.P.length] a (sL a b F bo T.length p))(O:iK w)(hc:gz b8 w A (jE T))(f:(jE T).length<=cap)(hcm:cap<=9223372036854775807):Calls prog 35 #[.slice A (jE T).length cap] w (lA w p):=by
 unfold lA;have⟨bo,al⟩:=zX (re T);have bf:jE T=bo++jP (mu bo):=by rw[al];rfl
 have a6:bo.length=(T.length+7) / 8:=by rw[al];exact zt T
 have aL:∀d∈bo,d<256:=by rw[al];exact xd (ux c)
 have Z:ig bo 0 T:=by rw[al];exact Jn c
 have aq:ig bo T.length (gx 0 ((8-T.length%8)%8)):=by rw[al];exact Ge c
 have ad:8*bo.length-T.length=(8-T.length%8)%8:=by rw[al];exact Gd T
 rw[K]at Z;have bp:=Z.left;have Y:=Z.right;rw[sO]at Y;have bq:=Y.left;have a4:=Y.right;rw[gH]at a4;have j:=λa b F u h2 h3=>M bo a b F a4 u h2 h3;unfold sL at j;have B:=λa b F (h:gM a b F bo 0)=>KX h r.w0 r.w1 r.h0 r.h1 r.d0 r.d1 r.n0 r.n1 bp;have G:=λa b F (h:gM a b F bo (0+18))=>iU a b F bo (0+18) 1 k h (by omega) (by omega) bq;have⟨L,hL⟩:=zX ((8-T.length%8)%8);have b3:L<=7:=by omega
 rw[<-hL]at aq ad;have D:=λa b F (h:gM a b F bo T.length)=>iU a b F bo T.length L 0 h (by omega) (Nat.pow_pos (by decide)) aq;have C:=λa b F (h:gM a b F bo T.length)=>BF a b F bo T.length h;rw[ad]at C;have⟨tl,af⟩:=zX (jP (mu bo));have aN:tl.length=4:=by rw[af];rfl
 have bD:∀d∈tl,d<256:=by rw[af];exact EU _
 have a9:=xH aL;have bB:nh tl=mu bo:=by rw[af];exact KW a9
 rw[<-af]at bf;rw[bf]at hc f⊢;have⟨m,hm⟩:=zX bo.length;have b4:m<=1000000000:=by omega
 have⟨N,hN⟩:=zX ((bo++tl).length);have b1:N=m+4:=by rw[hN,zC,aN,hm]
 rw[<-hN]at f⊢;have a8:gz b8 w A bo:=by
  have u:=hc.take bo.length;rw[take_left]at u;exact u
 have eN:(N:Int)-4=(m:Int):=by omega
 have b2:=λa=>D0 (P:=prog) underlying41 A N cap m (by omega) f a (xC a);obtain⟨A',be,-,aA⟩:=uh (P:=prog) underlying41 xC A N cap m (by omega) f;have bu:N-m=4:=by omega
 rw[bu]at be;have bC:gz b8 w A' tl:=by
  have u:=aA Nat b8 w _ (by rw[hN]) hc;rw[hm,drop_left]at u;exact u
 have bb:=λa J (h':gg [] w a)=>MR a A' J tl (bC.Y h') (by omega) (by omega);rw[aN]at bb;have t:=λa b g J h'=>MP a b g J tl h' aN bD;have aM:=λa (h':gg [] w a)=>vS a A cap bo (a8.Y h') aL (by omega);have bd:=λa (h':gg [] w a)=>GI a A cap bo (a8.Y h') aL (by omega) (by omega) hcm;rw[<-hm]at aM bd;rw[bB]at t;have⟨S,hS⟩:=zX (mu bo);rw[<-hS]at aM a9 t;have u1:IntKind.u64.wrap (S:Int)=(S:Int):=IntWalk.u64_in _ (by omega);have t0:=gY N 4 (by omega);have⟨w1,aO⟩:=zX (w.alloc (.cells #[(0:Int),(0:Int),(0:Int),.slice none 0 0] 46));have⟨R,hR⟩:=zX w.heap.size;have a7:iF w1 R (.int .i64 0) (.int .i64 0) (.int .i64 0) (.slice none 0 0):=⟨by rw[aO,hR];exact gn.new w _ _⟩;have br:gg [] w w1:=by rw[aO];exact(zR [] w).alloc _
 have bU:gh (R<w1.heap.size):=gd a7.blk.lt;have bG:gW p=λi o' cap' => .agg #[p.W,p.H,p.d,.slice (some ⟨i,o',none⟩) p.P.length cap']:=rfl;rw[bG]at j⊢;have⟨n,hn⟩:=zX p.P.length;rw[<-hn]at j B⊢;have⟨bS,bI,bW,bV⟩:=gu bb t aM bd;have⟨bN,aX,bP,bO⟩:=gu B G j D;have⟨bQ,bX,bh,bL⟩:=gu C aO hR a7;have⟨ah,HP⟩:=gy br O;clear hN hm a8 hc aA bu bC aL bD bb t aM bd a9 bB hS aO hR a7 br aN b1 B G j D C O hn bG hTl K al bf a6 Z aq ad bp Y bq a4 hL af c r M;rcases hf2 with rfl|rfl
 all_goals
  go_enter func35,ntmps35;go_wp2_with fail;rw[<-bX.o,<-bh.o];refine(bS.o w1 _ ah.o).mono ?_;rintro e w2 ⟨b,g,J,rfl,bE,bi,hb⟩;have t:=bI.o w2 b g J bE;have⟨aS,bJ⟩:=gy bi hb;clear bE bi hb;go_wp2_with fail;refine t.mono ?_;rintro e w3 ⟨rfl,bj⟩;have az:gg [] w1 w3:=aS.o.trans bj (λx hx => .inr (by simp at hx;have:=bJ.o;omega));have ag:=gd az;clear t bj az;go_wp2_with fail;refine(bW.o w3 (ah.o.tq ag.o)).mono ?_;rintro e w4 ⟨rfl,rfl⟩;go_wp2_with fail;refine(bV.o w3 (ah.o.tq ag.o)).mono ?_;rintro e w5 ⟨l,F,rfl,ao,bk,bs⟩;clear u1 t0 eN;have I:gh (∀x∈F,w1.heap.size<=x):=gd (λx hx=>Nat.le_trans ag.o.size (bs x hx));have⟨aT,ay⟩:=gy (ag.o.tq bk) ao.mem;have B:=bN.o w5 l F ao;clear ao bk bs;go_wp2_with fail;refine B.mono ?_;rintro e w6 ⟨rfl,aE,bl⟩;have G:=aX.o w6 l F aE;have aU:gh (gg [] w1 w6):=gd (aT.o.trans bl (λx hx => .inr (by simp at hx;subst hx;exact I.o _ ay.o)));clear B aE bl;go_wp2_with fail;refine G.mono ?_;rintro e o ⟨rfl,H,bm⟩;have aw:gh (gg [] w1 o):=gd (aU.o.trans bm (λx hx => .inr (by simp at hx;subst hx;exact I.o _ ay.o)));have aB:=iS o l F bo _ H;have⟨wA,aP⟩:=zX (o.alloc (.cells #[(0:Int),(0:Int),(0:Int),.slice none 0 0] 46));have⟨X,hX⟩:=zX o.heap.size;have a2:gg [] o wA:=by rw[aP];exact(zR [] o).alloc _
  have a5:iF wA X (.int .i64 0) (.int .i64 0) (.int .i64 0) (.slice none 0 0):=⟨by rw[aP,hX];exact gn.new o _ _⟩;have⟨bH,aZ,ai,bY⟩:=gu a5 (H.Z a2 (by simp)) (aw.o.tq a2) aP;have b0:=gd hX;have z:gh (o.heap.size<=X/\X<wA.heap.size):=gd ⟨by omega,a5.blk.lt⟩;have aR:gh (l<o.heap.size):=gd (H.lt l ay.o);have bT:gh (∀x∈F,x<o.heap.size):=gd H.lt;clear G H bm aP hX a2 a5
  go_wp2_with(go_at_call 60;refine gB aB ?_)
  rw[<-bY.o,<-b0.o];have bF:iK wA:=(HP.o.Y ah.o).Y ai.o;have bn:0∉F:=λhm=>by have:=I.o 0 hm;have:=HP.o.lt;have:=ah.o.size;omega
  have j:=bP.o wA l F aZ.o bF bn;clear aB bF bn
  first|rw[if_pos rfl]at j|rw[if_pos trivial]at j|rw[if_neg not_false]at j|rw[if_neg (by decide)]at j
  refine j.mono ?_;rintro e w8 ⟨i,E,xs,gs,rfl,aD,aF,a1,an⟩;have bz:X∉[l]:=by have:=aR.o;have:=z.o;simp;omega
  have s:=bH.o.Z a1 bz;obtain⟨z0,z1,z2,z3⟩:=s.cells;have f0:=s.blk.U 0;have f1:=s.blk.U 1;have f2:=s.blk.U 2;have f3:=s.blk.U 3;have⟨wS,aQ⟩:=zX ((((w8.setCell X (.int .i64 p.W)).setCell ⟨X,1,none⟩ (.int .i64 p.H)).setCell ⟨X,2,none⟩ (.int .i64 p.d)).setCell ⟨X,3,none⟩ (.slice (some ⟨i,0,none⟩) n E));have bA:iF wS X (.int .i64 p.W) (.int .i64 p.H) (.int .i64 p.d) (.slice (some ⟨i,0,none⟩) n E):=by
   rw[aQ]
   have:=(((s.blk.S 0 (.int .i64 p.W)).S 1 (.int .i64 p.H)).S 2 (.int .i64 p.d)).S 3 (.slice (some ⟨i,0,none⟩) n E)
   exact⟨by simpa using this⟩
  have W:gg [X] w8 wS:=by
   rw[aQ];exact((((zR [X] w8).setCell (p:=⟨X,0,none⟩) (.inl (by simp)) _).setCell (p:=⟨X,1,none⟩) (.inl (by simp)) _).setCell (p:=⟨X,2,none⟩) (.inl (by simp)) _).setCell (p:=⟨X,3,none⟩) (.inl (by simp)) _
  have bx:∀x∈F,x∉[X]:=λx hx hm=>by have:=bT.o x hx;have:=z.o;simp at hm;omega
  have ba:∀x∈i::gs,x∉[X]:=λx hx hm=>by have:=an x hx;have:=z.o;simp at hm;omega
  have ap:=aF.Z W bx;have aY:=gd (aD.Z W (ba i (by simp)) (λx hx=>ba x (by simp[hx])));have C:=bQ.o wS l F ap;have⟨bK,a0⟩:=gy bA ap;have bM:gh (gg [] w1 wS):=gd ((ai.o.trans a1 (λx hx => .inr (by simp at hx;subst hx;exact I.o _ ay.o))).trans W (λx hx => .inr (by simp at hx;have:=z.o;have:=aw.o.size;omega)));have Q:gh (∀x∈i::gs,w1.heap.size<=x/\x≠l):=gd (λx hx=>by have:=an x hx;have:=ai.o.size;have:=aR.o;have:=z.o;omega);have bZ:=gd aQ;clear j aD aF a1 an bz s aQ bA W bx ba ap;go_wp2_with fail;rw[<-bZ.o];refine C.mono ?_;rintro e a ⟨rfl,q,rfl⟩;have⟨wT,bg⟩:=zX (wS.drewN q);have a3:gg [] wS wT:=by rw[bg];exact(zR [] wS).drewN q
  rw[<-bg];have D:=bO.o wT l F (a0.o.Z a3 (by simp));have aW:=gd a3;have t8:=mF 8 L (by omega);clear C z0 z1 z2 z3 f0 f1 f2 f3 bg a3;go_wp2_with fail;refine D.mono ?_;rintro e w9 ⟨rfl,bc,U⟩;have am:gg [] w1 w9:=(bM.o.tq aW.o).trans U (λx hx => .inr (by simp at hx;subst hx;exact I.o _ ay.o));have bw:=(bK.o.Y aW.o).Z U (by have:=aR.o;have:=z.o;simp;omega);obtain⟨x0,x1,x2,x3⟩:=bw.cells;have y:=bL.o.Y am;obtain⟨z0,z1,z2,z3⟩:=y.cells;have f0:=y.blk.U 0;have f1:=y.blk.U 1;have f2:=y.blk.U 2;have f3:=y.blk.U 3;have⟨HZ,aV⟩:=gy y am;have bR:=gd ((aY.o.Y aW.o).Z U (by simpa using(Q.o i (by simp)).2) (λx hx=>by simpa using(Q.o x (by simp[hx])).2));clear D bc U am bw y;go_wp2_with fail;refine qF HZ.o ?_;intro V hV hY;obtain⟨y0,y1,y2,y3⟩:=hV.cells;refine bodyPost_ret (v:=.tuple #[.agg #[.int .i64 p.W,.int .i64 p.H,.int .i64 p.d,.slice (some ⟨i,0,none⟩) n E],(0:Int)]) (by simp[results,results35,go_sem,y0,y1,y2,y3]) rfl ?_;have bv:∀x∈i::gs,x∉[R]:=λx hx hm=>by have:=(Q.o x hx).1;have:=bU.o;simp at hm;omega
  exact⟨i,E,xs,gs,rfl,bR.o.Z hY (bv i (by simp)) (λx hx=>bv x (by simp[hx])),(ah.o.tq aV.o).trans hY (λx hx => .inr (by simp at hx;have:=bh.o;omega)),λx hx=>by have:=(Q.o x hx).1;have:=ah.o.size;omega⟩
theorem I0{way:Option Nat}(c:l9 way){k:Nat}{p:gA}(h:p.Ok)(s:k<=4)(f:kC p.P.length k=true)(a:qE way k p=true)(d:∀b∈nN way k p,b<2)(j:iK w)(o:gz b8 w A (jE (nN way k p)))(e:(jE (nN way k p)).length<=cap)(i:cap<=9223372036854775807):Calls prog 35 #[.slice A (jE (nN way k p)).length cap] w (lA w p):=by
 have r:=sS h k;have g:(jg k p).P.length=p.P.length:=pH _ _ _;have n:=L4 h f;have m:mT way (jg k p) (jg k p).P.length=true:=by rw[g];exact a
 have ad:nN way k p=pa p.W p.H p.d p.P.length++(gx 0 1++(gx k 3++jR way (jg k p) (jg k p).P.length)):=by rw[g];rfl
 have q:=yS c h a;refine Di h (.inl rfl) ad ⟨by omega,q.2⟩ d (λbo w' b F hA h1 h2 h3 => ?_) j o e i
 have:=Kt c h1 r s (by rw[g];exact f) m h2 h3 hA
 have l:0+18+1+3+(jR way (jg k p) (jg k p).P.length).length=(nN way k p).length:=by
  rw[ad];simp only[zC,sO,gH];omega
 rw[l,n,g]at this;exact this
end Go.Proofs.YtifdlkoepaepiaaGreatDoor
