/- Lemmas. -/
import Derived.Test.YtifdlkoepaepiaaGreatDoorMg47
import Derived.Test.YtifdlkoepaepiaaGreatDoorMg33
set_option linter.all false
set_option maxHeartbeats 1000000
set_option maxRecDepth 100000
namespace Go.Proofs.YtifdlkoepaepiaaGreatDoor
open Tryz List Nat Go.RowKit
variable {ds:List Nat}{k pos:Nat}{w:World}
theorem GG(b:Nat)(w:World):Calls prog 89 #[.pointer b,(0:Int)] w λe w'=>e=.returned (.int .i64 0)/\w=w':=by
 go_enter func89,ntmps89;go_wp2;go_ret;exact⟨rfl,rfl⟩
theorem CB(way:Option Nat)(q:gA):∀k n i,i+k=n->∃rest,jR way q n=jR way q i++rest
 | 0,n,i,h=>⟨[],by rw[append_nil,show i=n by omega]⟩
 | k+1,n,i,h=>by
  obtain⟨r,a⟩:=CB way q k n (i+1) (by omega);exact⟨_,by rw[a,tS,zH]⟩
theorem Jd{way:Option Nat}{q:gA}{n:Nat}(a:ig ds pos (jR way q n))(c:k<n):ig ds (pos+(jR way q k).length) (lw way (q.P.getD k []) q.W q.H q.d):=by
 obtain⟨r,b⟩:=CB way q (n-(k+1)) n (k+1) (by omega);rw[b,tS,zH]at a;exact a.right.left
def sL (w:World) (b:Nat) (F ds:List Nat) (pos:Nat) (p:gA) (e:Ending) (w':World):Prop :=
 ∃(gP capP:Nat) (xs:List Value) (gs:List Nat),e=.returned (.tuple #[gW p gP 0 capP,(0:Int)])/\iL w' p gP capP xs gs/\gM w' b F ds pos/\gg [b] w w'/\∀x∈gP::gs,w.heap.size<=x
theorem Kt{way:Option Nat}(A:l9 way){b:Nat}{F:List Nat}(O:gM w b F ds pos){q:gA}(c:q.Ok)(k4:k<=4)(d:kC q.P.length k=true)(z:mT way q q.P.length=true)(hp:iK w)(H:0∉F)(ha:ig ds pos (gx k 3++jR way q q.P.length)):Calls prog 62 #[.pointer b,q.W,q.H,q.d,q.P.length] w (sL w b F ds (pos+3+(jR way q q.P.length).length) (rt k q)):=by
 unfold sL;have bP:=O.lt b O.mem;have bi:b≠0:=λe=>H (by rw[<-e];exact O.mem);have bl:=λw1 (h:gM w1 b F ds pos)=>iU w1 b F ds pos 3 k h (by omega) (by omega) ha.left;have U:=λw'=>uL q.P.length k w' c.n0 c.n1 k4;rw[d]at U;have aR:=ha.right;rw[gH]at aR;have t:∀i,i<q.P.length->∀w',gM w' b F ds (pos+3+(jR way q i).length)->iK w'->Calls prog 90 #[.pointer b,q.W,q.H,q.d] w' (tT w' b F ds (pos+3+(jR way q (i+1)).length) (q.P.getD i [])):=λi m w' hr' hp'=>by
  have:=C2 A hr' (c.len _ (jQ m)) (c.smp _ (jQ m)) c.w0 c.w1 c.h0 c.h1 c.d0 c.d1 hp' H (CA z m) (Jd aR m)
  rw[Nat.add_assoc,<-zC,<-tS]at this;exact this
 have T:∀i,i<q.P.length->(q.P.getD i []).length=q.W*q.H:=λi m=>c.len _ (jQ m);have⟨N,hN⟩:=zX (q.W*q.H);have g:=fun {w':World} {u C:Nat} {s:List Value} {gs:List Nat} (h:iL w' q u C s gs)=>NT C h.at_ k k4 d;have J:iY q (rt k q):=⟨rfl,rfl,rfl,(pH _ _ _).symm⟩;have⟨r,M⟩:=zX (rt k q);rw[<-M]at g J⊢;have bq:gW r=λu o' cap' => .agg #[q.W,q.H,q.d,.slice (some ⟨u,o',none⟩) q.P.length cap']:=by
  funext u o' cap'
  unfold gW;rw[J.W,J.H,J.d,J.n]
 unfold lA at g;rw[bq]at g⊢;have⟨n,hn⟩:=zX q.P.length;have bU:n<=4:=by rw[hn];exact c.n1
 have bT:1<=n:=by rw[hn];exact c.n0
 unfold gW at g;rw[<-hn]at U t g T⊢;rw[<-hN]at T;have bR:IntKind.i64.wrap (k:Int)=(k:Int):=IntWalk.i64_in _ (by omega);have⟨w1,aJ⟩:=zX (w.alloc (.cells #[(0:Int),(0:Int),(0:Int),.slice none 0 0] 46));have⟨R,hR⟩:=zX w.heap.size;have aS:iF w1 R (.int .i64 0) (.int .i64 0) (.int .i64 0) (.slice none 0 0):=⟨by rw[aJ,hR];exact gn.new w _ _⟩;have bg:gg [] w w1:=by rw[aJ];exact(zR [] w).alloc _
 have Q:gh (w.heap.size<=R/\R<w1.heap.size/\b<R):=gd ⟨by omega,aS.blk.lt,by omega⟩;have P:gh (n=q.P.length):=gd hn;have⟨HQ,bA,bE,bC⟩:=gu c bl U t;have⟨bD,bv,bL,bJ⟩:=gu T (λ(w':World) (u C:Nat) (s:List Value) (gs:List Nat) h=>@g w' u C s gs h) aJ hR;have⟨bs,aA,ba,HP⟩:=gu aS bg O hp;have a7:=gd bi;clear bP bi bl U t T hN g J M bq hn aJ hR aS bg O hp ha aR d z A c H;go_enter func62,ntmps62;go_wp2_with fail;rw[<-bL.o,<-bJ.o];refine(bA.o w1 (ba.o.Z aA.o (by simp))).mono ?_;rintro e y ⟨rfl,a5,bf⟩;have av:=iS y b F ds _ a5;have⟨aC,au⟩:=gy a5 bf;clear a5 bf
 go_wp2_with(go_at_call 60;refine gB av ?_)
 refine(bE.o y).mono ?_;rintro e w3 ⟨rfl,rfl⟩;clear av;have⟨wA,ay⟩:=zX (y.alloc (.cells #[q.W,q.H,q.d,.slice none 0 0] 46));have⟨cb,aU⟩:=zX y.heap.size;have br:ll [b] y q.W q.H q.d cb wA (.slice none 0 0) [] [] (q.P.take 0) []:=by
  refine⟨by rw[ay,aU];exact gn.new y _ _,gK.nil _ _,jm.nil _,by simp,by simp,by simp,?_,?_,by rw[ay];exact(zR [b] y).alloc _⟩
  .intro x a
   simp at a;omega
  .intro x a
   simp at a;subst a;exact aC.o.lt _ aC.o.mem
 have bK:=gd br;have bI:gh (gM wA b F ds (pos+3+(jR way q 0).length)):=gd (by
  have e:jR way q 0=[]:=rfl;rw[e,ay];exact aC.o.Z ((zR [] y).alloc _) (by simp))
 have⟨bM,bz⟩:=gy ay aU;clear br ay aU;go_wp2_with fail;rw[<-bM.o,<-bz.o]
 go_loopg [15,16,38] n (λj v15 v16 v38 wr=>∃(i:Nat) (vP:Value) (E:List Nat) (s:List Value) (gs:List Nat),v38=.int .i64 i/\i+j=n/\gh (ll [b] y q.W q.H q.d cb wr vP E s (q.P.take i) gs)/\gh (gM wr b F ds (pos+3+(jR way q i).length)))
 .exact⟨0,_,[],[],[],rfl,by omega,bK,bI⟩
 obtain⟨i,vP,E,s,gs,rfl,bS,B,bb⟩:=hrel;rcases gk with _|j
 .obtain rfl:i=n:=by omega
  have t1:decide ((i:Int)<(i:Int))=false:=by simp
  have bn:q.P.take i=q.P:=zT (by rw[<-P.o];exact zQ _);have f:=B.o;rw[bn]at f;have K:s.length=i:=by rw[f.pl.lx,<-P.o]
  rcases f.own.cases with⟨_,he,_⟩|⟨u,ao,hE⟩
  .exfalso
   rw[he]at K;simp at K;omega
  have a6:=ao;obtain⟨C,rfl,aV,aW,-,-⟩:=ao.open_;rw[K]at a6 f;have aw:iL wr q u C s gs:=⟨HQ.o,by rw[<-P.o];exact a6,f.pl⟩;obtain⟨b0,b1,b2,b3⟩:=(show iF wr cb _ _ _ _ from⟨f.blk⟩).cells;have am:gh (gg [b] w1 wr):=gd (au.o.tq f.Z);have g:=bv.o wr u C s gs aw;clear f ao aV aW bn a6 aw;go_wp2_with fail;refine g.mono ?_;rintro e o ⟨G,Z,ys,f,rfl,ai,D,ah⟩;clear b0 b1 b2 b3 g;have⟨wX,az⟩:=zX (o.alloc (.cells #[q.W,q.H,q.d,.slice G i Z] 46));have⟨X,hX⟩:=zX o.heap.size;have S:gg [] o wX:=by rw[az];exact(zR [] o).alloc _
  have bj:iF wX X (.int .i64 q.W) (.int .i64 q.H) (.int .i64 q.d) (.slice G i Z):=⟨by rw[az,hX];exact gn.new o _ _⟩;have ad:iF wX R (.int .i64 0) (.int .i64 0) (.int .i64 0) (.slice none 0 0):=((bs.o.Z am.o (by have:=Q.o;simp;omega)).Y D).Y S;obtain⟨a0,a1,a2,a3⟩:=bj.cells;have⟨bw,bd,be,aN⟩:=gu ad az hX (ai.Y S);have a8:=gd (D.tq S);have a9:gh (∀x∈G::f,w1.heap.size<=x):=gd (λx a=>Nat.le_trans am.o.size (ah x a));rw[az,hX]at a0 a1 a2 a3;clear az hX S bj ad ai D ah;go_wp2_with fail;rw[<-bd.o,<-be.o];rw[<-bd.o,<-be.o]at a0 a1 a2 a3;have M:=GG b;refine i9 4 (by kernel_rfl) (by kernel_rfl) ?_;simp only[take_succ_cons,take_zero,drop_succ_cons,drop_zero]
  repeat(go_big_quiet_step ((go_at_call 89;exact Calls.quiet_of_same ((M _).mono (λ_ _ h=>⟨h.1,h.2.symm⟩)))))
  refine wpQuiet_nil ?_;intro _ bQ;obtain⟨nq,rfl⟩:=bQ;have ad:=bw.o.Y ((zR [] wX).drewN nq);obtain⟨z0,z1,z2,z3⟩:=ad.cells;have f0:=ad.blk.U 0;have f1:=ad.blk.U 1;have f2:=ad.blk.U 2;have f3:=ad.blk.U 3;have aL:=gd ad;clear ad M a0 a1 a2 a3;go_wp2_with fail;refine qF aL.o ?_;intro V hV hY;obtain⟨x0,x1,x2,x3⟩:=hV.cells;refine bodyPost_ret (v:=.tuple #[.agg #[.int .i64 q.W,.int .i64 q.H,.int .i64 q.d,.slice G i Z],(0:Int)]) (by simp[results,results62,go_sem,x0,x1,x2,x3]) rfl ?_;have aQ:gg [R] wX V:=((zR [R] wX).drewN nq).tq hY;have bh:∀x∈G::f,x≠R:=λx a e=>by have:=a9.o x a;have:=Q.o;omega
  refine⟨G,Z,ys,f,rfl,aN.o.Z aQ (by simpa using bh G (by simp)) (λx a=>by simpa using bh x (by simp[a])),?_,?_,λx a=>by have:=a9.o x a;have:=aA.o.size;omega⟩
  .refine((bb.o.Z a8.o (by simp))).Z aQ (λx a d => ?_)
   simp at d;subst d
   have:=ba.o.lt _ a
   have:=Q.o
   omega
  .refine(((aA.o.mono (F':=[b]) (by simp)).tq am.o).tq (a8.o.mono (by simp))).trans aQ (λx a => .inr ?_)
   simp at a
   have:=Q.o
   omega
 .have m:i<n:=by omega
  have t:=bC.o i m wr bb.o (((HP.o.Y aA.o).Z au.o (by simpa using λe=>a7.o e.symm)).Z B.o.Z (by simpa using λe=>a7.o e.symm));have a4:i<q.P.length:=by rw[<-P.o];exact m
  have Y:q.P.take (i+1)=q.P.take i++[q.P.getD i []]:=by
   rw[take_succ_eq_append_getElem a4,zD,zF a4];rfl
  have K:s.length=i:=by rw[B.o.pl.lx,zI];omega
  have⟨bc,bO⟩:=gy Y K;have⟨l,hl⟩:=zX (q.P.getD i []);have aX:=bD.o i m;rw[<-hl]at Y t aX;have bc:=gd Y;unfold tT at t;rw[aX]at t;have aM:=gd t;clear t a4 Y K hl aX;go_wp2_with fail;refine aM.o.mono ?_;rintro e o ⟨g5,rfl,aj,bo,D,bm⟩;have W:=B.o.turn D;have⟨wB,aK⟩:=zX (o.alloc (.cells #[.slice g5 N N] 22));have I:gg [] o wB:=by rw[aK];exact(zR [] o).alloc _
  have bk:=gn.new o 22 #[.slice g5 N N];have ac:=W.own.Y I;have al:=aj.Z I (by simp);have bu:=gd (W.blk.Z I (by simp));have y5:=W.blk.X 3;simp at y5;rw[aK]at ac;have⟨bN,aO⟩:=gy aK al;have bx:=gd (D.tq (I.mono (F':=[b]) (by simp)));have⟨bG,bB⟩:=gy (bo.Z I (by simp)) bm;have aY:=bO.o;clear aK I aj al D bm bo W
  go_wp2_with(at_builtin;refine ka rfl rfl rj rfl rfl ac (.slice g5 N N) rfl ?c1 rfl ?c3 ?c4 ?_)
  case c1=>exact bk.X 0
  case c3=>rw[aY];omega
  case c4=>rw[aY];omega
  intro g6 aP w6 ak L;rw[<-bN.o]at L;have aT:=bu.o.Z L.Z B.o.cF;have y6:=aT.X 3;have z6:=aT.U 3;simp at y6;have aZ:=ll.next B.o bx.o aO.o bB.o ak L;rw[<-bc.o]at aZ;have bF:=gd aZ;have bp:gM (w6.setCell ⟨cb,3,none⟩ (.slice g6 (i+1) aP)) b F ds (pos+3+(jR way q (i+1)).length):=by
   have hF:∀x∈cb::(E++gs),x∉F:=λx a d=>by have:=B.o.new x a;have:=aC.o.lt x d;omega
   exact(bG.o.Z L.Z (λx a d=>hF x (by simp[d]) a)).Z ((zR [cb] w6).setCell (p:=⟨cb,3,none⟩) (.inl (by simp)) _) (λx a d=>hF cb (by simp) (by simp at d;exact d ▸ a))
  have bH:=gd bp;clear aZ ak L aT ac bk y5 bp;clear aY;go_wp2_with fail
  go_roundg j
  .exact⟨i+1,_,_,_,_,by go_num,by omega,bF,bH⟩
  .omega
def nz (kind:Option Nat) (p:gA):Nat:=match kind with
 | none=>kJ p 4
 | some k=>k
def xQ (kind:Option Nat) (p:gA):Prop:=∀k,kind=some k->k<=4/\kC p.P.length k=true
theorem N2{kind:Option Nat}{p:gA}(a:p.Ok)(h:xQ kind p):nz kind p<=4/\kC p.P.length (nz kind p)=true:=by
 cases kind with
 | none=>exact⟨xq p 4,xg a 4⟩
 | some k=>exact h k rfl
def xe (way:Option Nat) (kind:Nat) (w:World) (b:Nat) (F bs:List Nat) (p:gA) (e:Ending) (w':World):Prop :=
 if qE way kind p=true then e=.returned (.int .i64 0)/\∃F',hJ w' b F' (bs++(gx 0 1++(gx kind 3++jR way (jg kind p) p.P.length)))/\gE F F' w w' else e=.returned (.int .i64 6)/\∃F',gE F F' w w'
theorem KG{way:Option Nat}(t:l9 way){kind:Option Nat}{p:gA}{g o:Nat}{B:Nat->Option Addr}{c:Nat->Nat}{G:List Nat}(s:Nat)(h:ip w p g o B c G)(hk:xQ kind p)(b:Nat)(F bs:List Nat)(hw:hJ w b F bs)(hG:∀x∈G,x∉F)(hp:iK w)(V:0∉F)(hbs:bs.length<1000000):Calls prog 44 #[.pointer (some ⟨b,0,none⟩),gW p g o s,.int .i64 (lM kind),.int .i64 (lM way)] w (xe way (nz kind p) w b F bs p):=by
 have C:=h.ok;obtain⟨bq,br⟩:=N2 C hk;have ac:∀w',gg [] w w'->_:=λw' (hc':gg [] w w')=>NU s (h.Y hc');have y:∀w',gg [] w w'->_:=λw' (hc':gg [] w w')=>Fl s (h.Y hc') (nz kind p) bq br;have⟨K,hK⟩:=zX (nz kind p);rw[<-hK]at bq y⊢;have⟨q,hq⟩:=zX (jg K p);have⟨n,hn⟩:=zX p.P.length;have v:q.Ok:=by rw[hq];exact sS C K
 have a5:q.P.length=n:=by rw[hq,hn];exact pH _ _ _
 have u:q.W=p.W/\q.H=p.H/\q.d=p.d:=by rw[hq];exact⟨rfl,rfl,rfl⟩
 have bw:=λk=>yK t v k;have bQ:n<=4:=by rw[hn];exact C.n1
 unfold lA at y;rw[<-hq]at y;unfold gW at ac y⊢;rw[a5,u.1,u.2.1,u.2.2]at y;rw[<-hn]at ac y⊢;have af:gh (qE way K p=mT way q n/\jR way (jg K p) p.P.length=jR way q n):=gd (by unfold qE;rw[<-hq,<-hn];exact⟨rfl,rfl⟩);have⟨w1,aE⟩:=zX (w.alloc (.cells #[p.W,p.H,p.d,.slice (some ⟨g,o,none⟩) n s] 46));have⟨X,hX⟩:=zX w.heap.size;have aV:iF w1 X (.int .i64 p.W) (.int .i64 p.H) (.int .i64 p.d) (.slice (some ⟨g,o,none⟩) n s):=⟨by rw[aE,hX];exact gn.new w _ _⟩;have bg:gg [] w w1:=by rw[aE];exact(zR [] w).alloc _
 have bj:X∉F:=λhm'=>by have:=hw.lt X hm';omega
 have⟨ki,aY⟩:=zX (lM kind);rw[<-aY];have T:∀ {r:World} {l:List Int} {A:Option Addr} (I:Nat),l.length=q.W*q.H->ie q.d l->gz vi r A l->l.length<=I->∀(F' Q:List Nat),hJ r b F' Q->ib A l F'->iK r->0∉F'->Q.length<17179869184->Calls prog 72 #[.pointer (some ⟨b,0,none⟩),.slice A l.length I,p.W,p.H,p.d,.int .i64 (lM way)] r (rP way r b F' Q l q.W q.H q.d):=by
  intro r l A I E e2 e3 e4 F' Q e5 e6 e7 e8 e9
  have:=Df t I E e2 e3 e4 v.w0 v.w1 v.h0 v.h1 v.d0 v.d1 b F' Q e5 e6 e7 e8 e9
  rw[u.1,u.2.1,u.2.2]at this;rw[u.1,u.2.1,u.2.2];exact this
 have⟨bd,HX,a8,ao⟩:=gu aE hX aV bg;have⟨HB,HF,ba,HK⟩:=gu ac y aY hK;have⟨bc,aP,HW,HP⟩:=gu v a5 hw hp;have⟨a7,bM,bH,bb⟩:=gu V bj bw (λr l A I a b c d e f g i j k m=>@T r l A I a b c d e f g i j k m);have bO:∃wi,wi=lM way:=⟨_,rfl⟩;obtain⟨wi,bB⟩:=bO;rw[<-bB]at bb⊢;obtain⟨L,M,N,O⟩:=aV.cells;clear aE hX aV bg ac y aY hK hq v a5 u hw hp V bj bw T bB C h hk br hG hn t;rcases kind with _|k;have E:ki=-1:=ba.o;subst E;have bi:K=kJ p 4:=HK.o;have hb:=HB.o w1 ao.o;rw[<-bi]at hb;clear bi;go_enter func44,ntmps44;go_wp2_with fail;rw[<-bd.o,<-HX.o];refine hb.mono ?_;rintro e r ⟨rfl,aS⟩;clear L M N O hb;obtain⟨L,M,N,O⟩:=(a8.o.Y aS).cells;have J:=gd aS;clear aS;go_wp2_with fail;rotate_left;have E:ki=(k:Int):=ba.o;have e2:k=K:=HK.o.symm;subst E;subst e2;have t0:=gY k 0 (by omega);go_enter func44,ntmps44;go_wp2_with fail;rw[<-bd.o,<-HX.o];have⟨r,a6⟩:=zX w1;have J:gh (gg [] w1 r):=gd (by rw[a6];exact zR _ _);rw[<-a6]at L M N O⊢;clear a6 t0;have⟨K,bN⟩:=zX k;subst bN
 all_goals
  clear L M N O;refine(HF.o r (ao.o.tq J.o)).mono ?_;rintro e Y ⟨U,aq,xs,gs,rfl,ai,aC,aw⟩;have⟨w4,aF⟩:=zX (Y.alloc (.cells #[p.W,p.H,p.d,.slice U n aq] 46));have⟨X9,aD⟩:=zX Y.heap.size;have R:gg [] Y w4:=by rw[aF];exact(zR [] Y).alloc _
  have aW:iF w4 X9 (.int .i64 p.W) (.int .i64 p.H) (.int .i64 p.d) (.slice U n aq):=⟨by rw[aF,aD];exact gn.new Y _ _⟩;have aT:gg [] w w4:=((ao.o.tq J.o).tq aC).tq R;have bp:∀x∈U::gs,w.heap.size<=x/\x<w4.heap.size:=λx hx=>⟨by have:=aw x hx;have:=(ao.o.tq J.o).size;omega,by
   have:=R.size
   rcases zJ.1 hx with rfl|W
   .have:=ai.ltP;omega
   .have:=ai.pl.lt x W;omega⟩
  have au:w.heap.size<=X9/\X9<w4.heap.size:=⟨by rw[aD];have:=((ao.o.tq J.o).tq aC).size;omega,aW.blk.lt⟩;have aA:=HW.o.Y aT;have bu:=iG w4 b F bs 0 1 aA (by decide) (by decide) (by omega);have⟨bI,aB,bC,bL⟩:=gu aF aT aW au;have⟨aJ,aN⟩:=gy bp (ai.Y R);have aH:gh (gg [] w1 w4):=gd ((J.o.tq aC).tq R);have⟨aK,aR⟩:=gy HW.o.lt aD;clear aF aD R aW aT bp au aA ai aC aw;go_wp2_with fail;rw[<-bI.o,<-aR.o];refine bu.mono ?_;rintro e w5 ⟨rfl,F5,bx,bm⟩;have u1:IntKind.u64.wrap (K:Int)=(K:Int):=IntWalk.u64_in _ (by omega);have bv:=iG w5 b F5 _ K 3 bx (by decide) (by omega) (by rw[zC,gH];omega);have bE:=gd bm;clear bu bx bm;go_wp2_with fail;refine bv.mono ?_;rintro e w6 ⟨rfl,F6,bz,bn⟩;have a9:=gd (bE.o.trans bn);have bJ:gh (hJ w6 b F6 (bs++(gx 0 1++(gx K 3++jR way q 0)))):=gd (by
   have e0:jR way q 0=[]:=rfl;rw[e0]
   simpa only[zH,append_nil]using bz)
  have ax:∀Fk wr,gE F Fk w4 wr->∀x,w.heap.size<=x->x<w4.heap.size->x∉Fk:=λFk wr hg x W h2 hm=>by
   rcases hg.new x hm with h3|h3
   .have:=aK.o x h3;omega
   .omega
  have aM:=gd ax;obtain⟨b0,b1,b2,b3⟩:=(bC.o.Z a9.o.Z (λhm=>by have:=aK.o _ hm;have:=bL.o;omega)).cells;clear bv bz bn ax;go_wp2_with fail;clear b0 b1 b2 b3
  go_loopg [12,13,36] n (λj v12 v13 v36 wr=>∃(i:Nat) (Fk:List Nat),v36=.int .i64 i/\i+j=n/\gh (hJ wr b Fk (bs++(gx 0 1++(gx K 3++jR way q i))))/\gh (gE F Fk w4 wr)/\gh (mT way q i=true))
  .exact⟨0,F6,rfl,by omega,bJ,a9,gd rfl⟩
  obtain⟨i,Fk,rfl,bP,be,z,aL⟩:=hrel;rcases gk with _|j
  .obtain rfl:i=n:=by omega
   have t1:decide ((i:Int)<(i:Int))=false:=(by simp);go_wp2_with fail;go_ret;unfold xe;rw[af.o.1,af.o.2,if_pos aL.o];exact⟨rfl,Fk,be.o,gE.pre aB.o z.o⟩
  .have hi:i<n:=by omega
   have a4:∀x∈U::gs,x∉F:=λx hx hm=>by have:=aJ.o x hx;have:=aK.o x hm;omega
   have C:=aN.o.Z z.o.Z (a4 U (by simp)) (λx hx=>a4 x (by simp[hx]));obtain⟨H,ci,E,e2,e3,e4⟩:=C.plane (show i<q.P.length by rw[aP.o];exact hi);have⟨D,hD⟩:=zX (q.P.getD i []);rw[<-hD]at e3;have aU:D.length=q.W*q.H:=(by rw[hD];exact bc.o.len _ (jQ (by rw[aP.o];exact hi)));have bh:ie q.d D:=(by rw[hD];exact bc.o.smp _ (jQ (by rw[aP.o];exact hi)));rw[<-aU]at e3 e4;have bl:gz vi wr (some ⟨H,0,none⟩) D:=e3.R.cells;have ah:D.length<=ci:=by
    obtain⟨c7,aX,ah,_⟩:=e3.T;injection aX with _ _ aX;rw[aX];exact ah
   have bo:H∉Fk:=aM.o Fk wr z.o H (aJ.o H (by simp[mem_of_getElem? e2])).1 (aJ.o H (by simp[mem_of_getElem? e2])).2;have bk:ib (some (⟨H,0,none⟩:Addr)) D Fk:=λ_ ad e hm=>by injection e with e;subst e;exact bo hm
   have az:=(HP.o.Y aB.o).Z z.o.Z a7.o;have bf:0∉Fk:=z.o.o (by have:=HP.o.lt;have:=aB.o.size;omega) a7.o;have T:=bb.o wr D (some ⟨H,0,none⟩) ci aU bh bl ah Fk _ be.o bk az bf (by
    have:=bH.o i aL.o
    simp only[zC,gH];omega)
   have am:=tS way q i;have aZ:=Ce way q i;rw[<-hD]at am aZ;obtain⟨L,M,N,O⟩:=(((a8.o.Y aH.o).Z z.o.Z bM.o)).cells;have⟨aO,bD,aQ,bG⟩:=gu T hD am aZ;clear T am aZ hD aU bh bl ah bk az bf bo C a4 E e2 e3;go_wp2_with fail;refine aO.o.mono ?_;rintro e w7 P;unfold rP at P
   cases hpo:nO way D q.W q.H q.d with
   | true =>
    rw[if_pos hpo]at P;obtain⟨rfl,Z,bA,S⟩:=P;have aI:=gd (z.o.trans S);have bK:gh (hJ w7 b Z (bs++(gx 0 1++(gx K 3++jR way q (i+1))))):=gd (by rw[aQ.o];simpa only[zH]using bA);have bF:gh (mT way q (i+1)=true):=gd (by rw[bG.o,aL.o,hpo];rfl);clear bA S hpo;go_wp2_with fail
    go_roundg j
    .exact⟨i+1,Z,by go_num,by omega,bK,aI,bF⟩
    .omega
   | false =>
    rw[if_neg (by rw[hpo];simp)]at P;obtain⟨rfl,Z,S⟩:=P;have aI:=gd (z.o.trans S);have aG:gh (¬mT way q n=true):=gd (λh=>by
     have W:=CA h hi;rw[<-bD.o,hpo]at W;cases W)
    clear S hpo;go_wp2_with fail;go_ret;unfold xe;rw[af.o.1,if_neg aG.o];exact⟨rfl,Z,gE.pre aB.o aI.o⟩
end Go.Proofs.YtifdlkoepaepiaaGreatDoor
