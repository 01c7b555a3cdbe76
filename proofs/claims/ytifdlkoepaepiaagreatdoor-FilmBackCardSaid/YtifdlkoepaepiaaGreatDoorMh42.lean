/- Lemmas. -/
import Derived.Test.YtifdlkoepaepiaaGreatDoorMh39
import Derived.Test.YtifdlkoepaepiaaGreatDoorMh30
set_option linter.all false
set_option maxHeartbeats 2000000
set_option maxRecDepth 100000
namespace Go.Proofs.YtifdlkoepaepiaaGreatDoor
open Tryz List Nat Go.RowKit
variable {ds:List Nat}{cap k pos:Nat}{A:Option Addr}{w:World}
theorem GG(b:Nat)(w:World):Calls prog 89 #[.pointer b,(0:Int)] w λe w'=>e=.returned (.int .i64 0)/\w=w':=by
 go_enter func89,ntmps89;go_wp2;go_ret;exact⟨rfl,rfl⟩
theorem CB(way:Option Nat)(q:qc):∀k n i,i+k=n->∃rest,jR way q n=jR way q i++rest
 | 0,n,i,h=>⟨[],by rw[append_nil,show i=n by omega]⟩
 | k+1,n,i,h=>by
  obtain⟨r,a⟩:=CB way q k n (i+1) (by omega);exact⟨_,by rw[a,tS,zH]⟩
theorem Jd{way:Option Nat}{q:qc}{n:Nat}(a:ig ds pos (jR way q n))(c:k<n):ig ds (pos+(jR way q k).length) (lw way (q.P.getD k []) q.W q.H q.d):=by
 obtain⟨r,b⟩:=CB way q (n-(k+1)) n (k+1) (by omega);rw[b,tS,zH]at a;exact a.right.left
def sL(w:World)(b:Nat)(F ds:List Nat)(pos:Nat)(p:qc)(e:Ending)(w':World):Prop:=
 ∃(gP capP:Nat) (xs:List Value) (gs:List Nat),e=.returned (.tuple #[gW p gP 0 capP,(0:Int)])/\iL w' p gP capP xs gs/\gM w' b F ds pos/\gg [b] w w'/\∀x∈gP::gs,w.heap.size<=x
theorem Kt{way:Option Nat}(y:l9 way){b:Nat}{F:List Nat}(M:gM w b F ds pos){q:qc}(c:q.Ok)(k4:k<=4)(d:kC q.P.length k=true)(u:mT way q q.P.length=true)(hp:iK w)(G:0∉F)(ha:ig ds pos (gx k 3++jR way q q.P.length)):Calls prog 62 #[.pointer b,q.W,q.H,q.d,q.P.length] w (sL w b F ds (pos+3+(jR way q q.P.length).length) (rt k q)):=by
 unfold sL;have bP:=M.lt b M.mem;have bi:b≠0:=λe=>G (by rw[<-e];exact M.mem);have bl:=λw1 (h:gM w1 b F ds pos)=>iU w1 b F ds pos 3 k h (by omega) (by omega) ha.left;have U:=λw'=>uL q.P.length k w' c.n0 c.n1 k4;rw[d]at U;have aR:=ha.right;rw[gH]at aR;have p:∀i,i<q.P.length->∀w',gM w' b F ds (pos+3+(jR way q i).length)->iK w'->Calls prog 90 #[.pointer b,q.W,q.H,q.d] w' (tT w' b F ds (pos+3+(jR way q (i+1)).length) (q.P.getD i [])):=λi m w' hr' hp'=>by
  have:=C2 y hr' (c.len _ (jQ m)) (c.smp _ (jQ m)) c.w0 c.w1 c.h0 c.h1 c.d0 c.d1 hp' G (CA u m) (Jd aR m)
  rw[Nat.add_assoc,<-zC,<-tS]at this;exact this
 have T:∀i,i<q.P.length->(q.P.getD i []).length=q.W*q.H:=λi m=>c.len _ (jQ m);have⟨N,hN⟩:=zX (q.W*q.H);have g:=fun {w':World} {s B:Nat} {o:List Value} {gs:List Nat} (h:iL w' q s B o gs)=>NT B h.at_ k k4 d;have I:iY q (rt k q):=⟨rfl,rfl,rfl,(pH _ _ _).symm⟩;have⟨r,L⟩:=zX (rt k q);rw[<-L]at g I⊢;have bq:gW r=λs o' cap'=>.agg #[q.W,q.H,q.d,.slice (some ⟨s,o',none⟩) q.P.length cap']:=by
  funext s o' cap'
  unfold gW;rw[I.W,I.H,I.d,I.n]
 unfold lA at g;rw[bq]at g⊢;have⟨n,hn⟩:=zX q.P.length;have bU:n<=4:=by rw[hn];exact c.n1
 have bT:1<=n:=by rw[hn];exact c.n0
 unfold gW at g;rw[<-hn]at U p g T⊢;rw[<-hN]at T;have bR:IntKind.i64.wrap (k:Int)=(k:Int):=IntWalk.i64_in _ (by omega);have⟨w1,aJ⟩:=zX (w.alloc (.cells #[(0:Int),(0:Int),(0:Int),.slice none 0 0] 46));have⟨R,hR⟩:=zX w.heap.size;have aS:iF w1 R (.int .i64 0) (.int .i64 0) (.int .i64 0) (.slice none 0 0):=⟨RD aJ hR⟩;have bg:=H4 aJ;have Q:gh (w.heap.size<=R/\R<w1.heap.size/\b<R):=gd ⟨by omega,aS.blk.lt,by omega⟩;have P:gh (n=q.P.length):=gd hn;have⟨HQ,bA,bE,bC⟩:=gu c bl U p;have⟨bD,bv,bL,bJ⟩:=gu T (λ(w':World) (s B:Nat) (o:List Value) (gs:List Nat) h=>@g w' s B o gs h) aJ hR;have⟨bs,aA,ba,HP⟩:=gu aS bg M hp;have a7:=gd bi;clear bP bi bl U p T hN g I L bq hn aJ hR aS bg M hp ha aR d u y c G;go_enter func62,ntmps62;go_wp2_with fail;rw[<-bL.o,<-bJ.o];refine(bA.o w1 (ba.o.Z aA.o (by simp))).mono ?_;rintro e t ⟨rfl,a5,bf⟩;have av:=iS t b F ds _ a5;have⟨aC,au⟩:=gy a5 bf;clear a5 bf
 go_wp2_with(go_at_call 60;refine gB av ?_)
 refine(bE.o t).mono ?_;rintro e w3 ⟨rfl,rfl⟩;clear av;have⟨wA,ay⟩:=zX (t.alloc (.cells #[q.W,q.H,q.d,.slice none 0 0] 46));have⟨cb,aU⟩:=zX t.heap.size;have br:ll [b] t q.W q.H q.d cb wA (.slice none 0 0) [] [] (q.P.take 0) []:=by
  refine⟨by rw[ay,aU];exact gn.new t _ _,jj.nil _ _,jm.nil _,by simp,by simp,by simp,?_,?_,by rw[ay];exact(zR [b] t).alloc _⟩
  .intro x a
   simp at a;omega
  .intro x a
   simp at a;subst a;exact aC.o.lt _ aC.o.mem
 have bK:=gd br;have bI:gh (gM wA b F ds (pos+3+(jR way q 0).length)):=gd (by
  have e:jR way q 0=[]:=rfl;rw[e,ay];exact aC.o.Z ((zR [] t).alloc _) (by simp))
 have⟨bM,bz⟩:=gy ay aU;clear br ay aU;go_wp2_with fail;rw[<-bM.o,<-bz.o]
 go_loopg [15,16,38] n (λj v15 v16 v38 wr=>∃(i:Nat) (vP:Value) (E:List Nat) (o:List Value) (gs:List Nat),v38=.int .i64 i/\i+j=n/\gh (ll [b] t q.W q.H q.d cb wr vP E o (q.P.take i) gs)/\gh (gM wr b F ds (pos+3+(jR way q i).length)))
 .exact⟨0,_,[],[],[],rfl,by omega,bK,bI⟩
 obtain⟨i,vP,E,o,gs,rfl,bS,z,bb⟩:=hrel;rcases gk with _|j
 .obtain rfl:i=n:=by omega
  have t1:decide ((i:Int)<(i:Int))=false:=by simp
  have bn:q.P.take i=q.P:=zT (by rw[<-P.o];exact zQ _);have f:=z.o;rw[bn]at f;have J:o.length=i:=by rw[f.pl.lx,<-P.o]
  rcases f.own.cases with⟨_,he,_⟩|⟨s,ao,hE⟩
  .exfalso
   rw[he]at J;simp at J;omega
  have a6:=ao;obtain⟨B,rfl,aV,aW,-,-⟩:=ao.open_;rw[J]at a6 f;have aw:iL wr q s B o gs:=⟨HQ.o,by rw[<-P.o];exact a6,f.pl⟩;obtain⟨b0,b1,b2,b3⟩:=(show iF wr cb _ _ _ _ from⟨f.blk⟩).cells;have am:gh (gg [b] w1 wr):=gd (au.o.tq f.Z);have g:=bv.o wr s B o gs aw;clear f ao aV aW bn a6 aw;go_wp2_with fail;refine g.mono ?_;rintro e O ⟨D,Z,ys,f,rfl,ai,C,ah⟩;clear b0 b1 b2 b3 g;have⟨wX,az⟩:=zX (O.alloc (.cells #[q.W,q.H,q.d,.slice D i Z] 46));have⟨X,hX⟩:=zX O.heap.size;have S:=H4 az;have bj:iF wX X (.int .i64 q.W) (.int .i64 q.H) (.int .i64 q.d) (.slice D i Z):=⟨RD az hX⟩;have ad:iF wX R (.int .i64 0) (.int .i64 0) (.int .i64 0) (.slice none 0 0):=((bs.o.Z am.o (by have:=Q.o;simp;omega)).Y C).Y S;obtain⟨a0,a1,a2,a3⟩:=bj.cells;have⟨bw,bd,be,aN⟩:=gu ad az hX (ai.Y S);have a8:=gd (C.tq S);have a9:gh (∀x∈D::f,w1.heap.size<=x):=gd (λx a=>Nat.le_trans am.o.size (ah x a));rw[az,hX]at a0 a1 a2 a3;clear az hX S bj ad ai C ah;go_wp2_with fail;rw[<-bd.o,<-be.o];rw[<-bd.o,<-be.o]at a0 a1 a2 a3;have L:=GG b;refine i9 4 (by kernel_rfl) (by kernel_rfl) ?_;simp only[take_succ_cons,take_zero,drop_succ_cons,drop_zero]
  repeat(go_big_quiet_step ((go_at_call 89;exact Calls.quiet_of_same ((L _).mono (λ_ _ h=>⟨h.1,h.2.symm⟩)))))
  refine wpQuiet_nil ?_;intro _ bQ;obtain⟨nq,rfl⟩:=bQ;have ad:=bw.o.Y ((zR [] wX).drewN nq);obtain⟨z0,z1,z2,z3⟩:=ad.cells;have⟨f0,f1,f2,f3⟩:=RJ ad.blk 0 1 2 3;have aL:=gd ad;clear ad L a0 a1 a2 a3;go_wp2_with fail;refine qF aL.o ?_;intro V hV hY;obtain⟨x0,x1,x2,x3⟩:=hV.cells;refine bodyPost_ret (v:=.tuple #[.agg #[.int .i64 q.W,.int .i64 q.H,.int .i64 q.d,.slice D i Z],(0:Int)]) (by simp[results,results62,go_sem,x0,x1,x2,x3]) rfl ?_;have aQ:gg [R] wX V:=((zR [R] wX).drewN nq).tq hY;have bh:∀x∈D::f,x≠R:=λx a e=>by have:=a9.o x a;have:=Q.o;omega
  refine⟨D,Z,ys,f,rfl,aN.o.Z aQ (by simpa using bh D (by simp)) (λx a=>by simpa using bh x (by simp[a])),?_,?_,λx a=>by have:=a9.o x a;have:=aA.o.size;omega⟩
  .refine((bb.o.Z a8.o (by simp))).Z aQ (λx a d=>?_)
   simp at d;subst d
   have:=ba.o.lt _ a
   have:=Q.o
   omega
  .refine(((aA.o.mono (F':=[b]) (by simp)).tq am.o).tq (a8.o.mono (by simp))).trans aQ (λx a=>.inr ?_)
   simp at a
   have:=Q.o
   omega
 .have m:i<n:=by omega
  have p:=bC.o i m wr bb.o (((HP.o.Y aA.o).Z au.o (by simpa using λe=>a7.o e.symm)).Z z.o.Z (by simpa using λe=>a7.o e.symm));have a4:i<q.P.length:=by rw[<-P.o];exact m
  have Y:q.P.take (i+1)=q.P.take i++[q.P.getD i []]:=by
   rw[take_succ_eq_append_getElem a4,zD,zF a4];rfl
  have J:o.length=i:=by rw[z.o.pl.lx,zI];omega
  have⟨bc,bO⟩:=gy Y J;have⟨l,hl⟩:=zX (q.P.getD i []);have aX:=bD.o i m;rw[<-hl]at Y p aX;have bc:=gd Y;unfold tT at p;rw[aX]at p;have aM:=gd p;clear p a4 Y J hl aX;go_wp2_with fail;refine aM.o.mono ?_;rintro e O ⟨g5,rfl,aj,bo,C,bm⟩;have W:=z.o.turn C;have⟨wB,aK⟩:=zX (O.alloc (.cells #[.slice g5 N N] 22));have H:=H4 aK;have bk:=gn.new O 22 #[.slice g5 N N];have ac:=W.own.Y H;have al:=aj.Z H (by simp);have bu:=gd (W.blk.Z H (by simp));have y5:=W.blk.X 3;simp at y5;rw[aK]at ac;have⟨bN,aO⟩:=gy aK al;have bx:=gd (C.tq (H.mono (F':=[b]) (by simp)));have⟨bG,bB⟩:=gy (bo.Z H (by simp)) bm;have aY:=bO.o;clear aK H aj al C bm bo W
  go_wp2_with(at_builtin;refine ka rfl rfl rj rfl rfl ac (.slice g5 N N) rfl ?c1 rfl ?c3 ?c4 ?_)
  case c1=>exact bk.X 0
  case c3=>rw[aY];omega
  case c4=>rw[aY];omega
  intro g6 aP w6 ak K;rw[<-bN.o]at K;have aT:=bu.o.Z K.Z z.o.cF;have y6:=aT.X 3;have z6:=aT.U 3;simp at y6;have aZ:=ll.next z.o bx.o aO.o bB.o ak K;rw[<-bc.o]at aZ;have bF:=gd aZ;have bp:gM (w6.setCell ⟨cb,3,none⟩ (.slice g6 (i+1) aP)) b F ds (pos+3+(jR way q (i+1)).length):=by
   have hF:∀x∈cb::(E++gs),x∉F:=λx a d=>by have:=z.o.new x a;have:=aC.o.lt x d;omega
   exact(bG.o.Z K.Z (λx a d=>hF x (by simp[d]) a)).Z ((zR [cb] w6).zs 3 _) (λx a d=>hF cb (by simp) (by simp at d;exact d ▸ a))
  have bH:=gd bp;clear aZ ak K aT ac bk y5 bp;clear aY;go_wp2_with fail
  go_roundg j
  .exact⟨i+1,_,_,_,_,by go_num,by omega,bF,bH⟩
  .omega
theorem Jn{bs:List Nat}(h:∀b∈bs,b<2):ig (re bs) 0 bs:=by
 have a:=ux h;have e:kV bs=[]++bs++replicate ((8-bs.length%8)%8) 0:=by
  unfold kV;rw[nil_append]
 unfold re;rw[e]at a⊢;exact zw a
def nz(kind:Option Nat)(p:qc):Nat:=match kind with
 | none=>kJ p 4
 | some k=>k
def xQ(kind:Option Nat)(p:qc):Prop:=∀k,kind=some k->k<=4/\kC p.P.length k=true
theorem N2{kind:Option Nat}{p:qc}(a:p.Ok)(h:xQ kind p):nz kind p<=4/\kC p.P.length (nz kind p)=true:=by
 cases kind with
 | none=>exact⟨xq p 4,xg a 4⟩
 | some k=>exact h k rfl
def xe(way:Option Nat)(kind:Nat)(w:World)(b:Nat)(F bs:List Nat)(p:qc)(e:Ending)(w':World):Prop:=
 if qE way kind p=true then e=.returned (.int .i64 0)/\∃F',hJ w' b F' (bs++(gx 0 1++(gx kind 3++jR way (jg kind p) p.P.length)))/\gE F F' w w' else e=.returned (.int .i64 6)/\∃F',gE F F' w w'
theorem KG{way:Option Nat}(s:l9 way){kind:Option Nat}{p:qc}{g o:Nat}{B:Nat->Option Addr}{c:Nat->Nat}{G:List Nat}(cap:Nat)(h:ip w p g o B c G)(hk:xQ kind p)(b:Nat)(F bs:List Nat)(hw:hJ w b F bs)(hG:∀x∈G,x∉F)(hp:iK w)(U:0∉F)(hbs:bs.length<1000000):Calls prog 44 #[.pointer (some ⟨b,0,none⟩),gW p g o cap,.int .i64 (lM kind),.int .i64 (lM way)] w (xe way (nz kind p) w b F bs p):=by
 have z:=h.ok;obtain⟨bq,br⟩:=N2 z hk;have Z:∀w',gg [] w w'->_:=λw' (hc':gg [] w w')=>NU cap (h.Y hc');have v:∀w',gg [] w w'->_:=λw' (hc':gg [] w w')=>Fl cap (h.Y hc') (nz kind p) bq br;have⟨K,hK⟩:=zX (nz kind p);rw[<-hK]at bq v⊢;have⟨q,hq⟩:=zX (jg K p);have⟨n,hn⟩:=zX p.P.length;have u:q.Ok:=by rw[hq];exact sS z K
 have a5:q.P.length=n:=by rw[hq,hn];exact pH _ _ _
 have t:q.W=p.W/\q.H=p.H/\q.d=p.d:=by rw[hq];exact⟨rfl,rfl,rfl⟩
 have bw:=λk=>yK s u k;have bQ:n<=4:=by rw[hn];exact z.n1
 unfold lA at v;rw[<-hq]at v;unfold gW at Z v⊢;rw[a5,t.1,t.2.1,t.2.2]at v;rw[<-hn]at Z v⊢;have af:gh (qE way K p=mT way q n/\jR way (jg K p) p.P.length=jR way q n):=gd (by unfold qE;rw[<-hq,<-hn];exact⟨rfl,rfl⟩);have⟨w1,aE⟩:=zX (w.alloc (.cells #[p.W,p.H,p.d,.slice (some ⟨g,o,none⟩) n cap] 46));have⟨X,hX⟩:=zX w.heap.size;have aV:iF w1 X (.int .i64 p.W) (.int .i64 p.H) (.int .i64 p.d) (.slice (some ⟨g,o,none⟩) n cap):=⟨RD aE hX⟩;have bg:=H4 aE;have bj:X∉F:=λhm'=>by have:=hw.lt X hm';omega
 have⟨ki,aY⟩:=zX (lM kind);rw[<-aY];have S:∀ {r:World} {l:List Int} {A:Option Addr} (H:Nat),l.length=q.W*q.H->ie q.d l->gz vi r A l->l.length<=H->∀(F' P:List Nat),hJ r b F' P->ib A l F'->iK r->0∉F'->P.length<17179869184->Calls prog 72 #[.pointer (some ⟨b,0,none⟩),.slice A l.length H,p.W,p.H,p.d,.int .i64 (lM way)] r (rP way r b F' P l q.W q.H q.d):=by
  intro r l A H C e2 e3 e4 F' P e5 e6 e7 e8 e9
  have:=Df s H C e2 e3 e4 u.w0 u.w1 u.h0 u.h1 u.d0 u.d1 b F' P e5 e6 e7 e8 e9
  rw[t.1,t.2.1,t.2.2]at this;rw[t.1,t.2.1,t.2.2];exact this
 have⟨bd,HX,a8,ao⟩:=gu aE hX aV bg;have⟨HB,HF,ba,HK⟩:=gu Z v aY hK;have⟨bc,aP,HW,HP⟩:=gu u a5 hw hp;have⟨a7,bM,bH,bb⟩:=gu U bj bw (λr l A H a b c d e f g i j k m=>@S r l A H a b c d e f g i j k m);have bO:∃wi,wi=lM way:=⟨_,rfl⟩;obtain⟨wi,bB⟩:=bO;rw[<-bB]at bb⊢;obtain⟨J,L,M,N⟩:=aV.cells;clear aE hX aV bg Z v aY hK hq u a5 t hw hp U bj bw S bB z h hk br hG hn s;rcases kind with _|k;have C:ki=-1:=ba.o;subst C;have bi:K=kJ p 4:=HK.o;have hb:=HB.o w1 ao.o;rw[<-bi]at hb;clear bi;go_enter func44,ntmps44;go_wp2_with fail;rw[<-bd.o,<-HX.o];refine hb.mono ?_;rintro e r ⟨rfl,aS⟩;clear J L M N hb;obtain⟨J,L,M,N⟩:=(a8.o.Y aS).cells;have I:=gd aS;clear aS;go_wp2_with fail;rotate_left;have C:ki=(k:Int):=ba.o;have e2:k=K:=HK.o.symm;subst C;subst e2;have t0:=Ra k 0 (by omega);go_enter func44,ntmps44;go_wp2_with fail;rw[<-bd.o,<-HX.o];have⟨r,a6⟩:=zX w1;have I:gh (gg [] w1 r):=gd (by rw[a6];exact zR _ _);rw[<-a6]at J L M N⊢;clear a6 t0;have⟨K,bN⟩:=zX k;subst bN
 all_goals
  clear J L M N;refine(HF.o r (ao.o.tq I.o)).mono ?_;rintro e w3 ⟨T,aq,xs,gs,rfl,ai,Y,aw⟩;have⟨w4,aF⟩:=zX (w3.alloc (.cells #[p.W,p.H,p.d,.slice T n aq] 46));have⟨X9,aD⟩:=zX w3.heap.size;have Q:=H4 aF;have aW:iF w4 X9 (.int .i64 p.W) (.int .i64 p.H) (.int .i64 p.d) (.slice T n aq):=⟨RD aF aD⟩;have aT:gg [] w w4:=((ao.o.tq I.o).tq Y).tq Q;have bp:∀x∈T::gs,w.heap.size<=x/\x<w4.heap.size:=λx hx=>⟨by have:=aw x hx;have:=(ao.o.tq I.o).size;omega,by
   have:=Q.size
   rcases zJ.1 hx with rfl|V
   .have:=ai.ltP;omega
   .have:=ai.pl.lt x V;omega⟩
  have au:w.heap.size<=X9/\X9<w4.heap.size:=⟨by rw[aD];have:=((ao.o.tq I.o).tq Y).size;omega,aW.blk.lt⟩;have aA:=HW.o.Y aT;have bu:=iG w4 b F bs 0 1 aA (by decide) (by decide) (by omega);have⟨bI,aB,bC,bL⟩:=gu aF aT aW au;have⟨aJ,aN⟩:=gy bp (ai.Y Q);have aH:gh (gg [] w1 w4):=gd ((I.o.tq Y).tq Q);have⟨aK,aR⟩:=gy HW.o.lt aD;clear aF aD Q aW aT bp au aA ai Y aw;go_wp2_with fail;rw[<-bI.o,<-aR.o];refine bu.mono ?_;rintro e w5 ⟨rfl,F5,bx,bm⟩;have u1:IntKind.u64.wrap (K:Int)=(K:Int):=IntWalk.u64_in _ (by omega);have bv:=iG w5 b F5 _ K 3 bx (by decide) (by omega) (by rw[zC,gH];omega);have bE:=gd bm;clear bu bx bm;go_wp2_with fail;refine bv.mono ?_;rintro e w6 ⟨rfl,F6,bz,bn⟩;have a9:=gd (bE.o.trans bn);have bJ:gh (hJ w6 b F6 (bs++(gx 0 1++(gx K 3++jR way q 0)))):=gd (by
   have e0:jR way q 0=[]:=rfl;rw[e0]
   simpa only[zH,append_nil]using bz)
  have ax:∀Fk wr,gE F Fk w4 wr->∀x,w.heap.size<=x->x<w4.heap.size->x∉Fk:=λFk wr hg x V h2 hm=>by
   rcases hg.new x hm with h3|h3
   .have:=aK.o x h3;omega
   .omega
  have aM:=gd ax;obtain⟨b0,b1,b2,b3⟩:=(bC.o.Z a9.o.Z (λhm=>by have:=aK.o _ hm;have:=bL.o;omega)).cells;clear bv bz bn ax;go_wp2_with fail;clear b0 b1 b2 b3
  go_loopg [12,13,36] n (λj v12 v13 v36 wr=>∃(i:Nat) (Fk:List Nat),v36=.int .i64 i/\i+j=n/\gh (hJ wr b Fk (bs++(gx 0 1++(gx K 3++jR way q i))))/\gh (gE F Fk w4 wr)/\gh (mT way q i=true))
  .exact⟨0,F6,rfl,by omega,bJ,a9,gd rfl⟩
  obtain⟨i,Fk,rfl,bP,be,y,aL⟩:=hrel;rcases gk with _|j
  .obtain rfl:i=n:=by omega
   have t1:decide ((i:Int)<(i:Int))=false:=(by simp);go_wp2_with fail;go_ret;unfold xe;rw[af.o.1,af.o.2,if_pos aL.o];exact⟨rfl,Fk,be.o,gE.pre aB.o y.o⟩
  .have hi:i<n:=by omega
   have a4:∀x∈T::gs,x∉F:=λx hx hm=>by have:=aJ.o x hx;have:=aK.o x hm;omega
   have z:=aN.o.Z y.o.Z (a4 T (by simp)) (λx hx=>a4 x (by simp[hx]));obtain⟨E,ci,C,e2,e3,e4⟩:=z.plane (show i<q.P.length by rw[aP.o];exact hi);have⟨D,hD⟩:=zX (q.P.getD i []);rw[<-hD]at e3;have aU:D.length=q.W*q.H:=(by rw[hD];exact bc.o.len _ (jQ (by rw[aP.o];exact hi)));have bh:ie q.d D:=(by rw[hD];exact bc.o.smp _ (jQ (by rw[aP.o];exact hi)));rw[<-aU]at e3 e4;have bl:gz vi wr (some ⟨E,0,none⟩) D:=e3.R.cells;have ah:D.length<=ci:=by
    obtain⟨c7,aX,ah,_⟩:=e3.T;injection aX with _ _ aX;rw[aX];exact ah
   have bo:E∉Fk:=aM.o Fk wr y.o E (aJ.o E (by simp[mem_of_getElem? e2])).1 (aJ.o E (by simp[mem_of_getElem? e2])).2;have bk:ib (some (⟨E,0,none⟩:Addr)) D Fk:=λ_ ad e hm=>by injection e with e;subst e;exact bo hm
   have az:=(HP.o.Y aB.o).Z y.o.Z a7.o;have bf:0∉Fk:=y.o.o (by have:=HP.o.lt;have:=aB.o.size;omega) a7.o;have S:=bb.o wr D (some ⟨E,0,none⟩) ci aU bh bl ah Fk _ be.o bk az bf (by
    have:=bH.o i aL.o
    simp only[zC,gH];omega)
   have am:=tS way q i;have aZ:=Ce way q i;rw[<-hD]at am aZ;obtain⟨J,L,M,N⟩:=(((a8.o.Y aH.o).Z y.o.Z bM.o)).cells;have⟨aO,bD,aQ,bG⟩:=gu S hD am aZ;clear S am aZ hD aU bh bl ah bk az bf bo z a4 C e2 e3;go_wp2_with fail;refine aO.o.mono ?_;rintro e w7 O;unfold rP at O
   cases hpo:nO way D q.W q.H q.d with
   | true=>
    rw[if_pos hpo]at O;obtain⟨rfl,W,bA,R⟩:=O;have aI:=gd (y.o.trans R);have bK:gh (hJ w7 b W (bs++(gx 0 1++(gx K 3++jR way q (i+1))))):=gd (by rw[aQ.o];simpa only[zH]using bA);have bF:gh (mT way q (i+1)=true):=gd (by rw[bG.o,aL.o,hpo];rfl);clear bA R hpo;go_wp2_with fail
    go_roundg j
    .exact⟨i+1,W,by go_num,by omega,bK,aI,bF⟩
    .omega
   | false=>
    rw[if_neg (by rw[hpo];simp)]at O;obtain⟨rfl,W,R⟩:=O;have aI:=gd (y.o.trans R);have aG:gh (¬mT way q n=true):=gd (λh=>by
     have V:=CA h hi;rw[<-bD.o,hpo]at V;cases V)
    clear R hpo;go_wp2_with fail;go_ret;unfold xe;rw[af.o.1,if_neg aG.o];exact⟨rfl,W,gE.pre aB.o aI.o⟩
theorem Di{p:qc}(r:p.Ok){T rest:List Nat}{l:Nat}(hf2:l=0\/l=1)(J:T=pa p.W p.H p.d p.P.length++(gx l 1++rest))(hTl:19<=T.length/\T.length<=4096000000)(c:∀b∈T,b<2)(K:∀bo a b F,ig bo (0+18+1) rest->gM a b F bo (0+18+1)->iK a->0∉F->Calls prog (if l=1 then 61 else 62) #[.pointer (some ⟨b,0,none⟩),p.W,p.H,p.d,p.P.length] a (sL a b F bo T.length p))(M:iK w)(hc:gz b8 w A (jE T))(f:(jE T).length<=cap)(hcm:cap<=9223372036854775807):Calls prog 35 #[.slice A (jE T).length cap] w (lA w p):=by
 unfold lA;have⟨bo,al⟩:=zX (re T);have bf:jE T=bo++jP (mu bo):=by rw[al];rfl
 have a6:bo.length=(T.length+7) / 8:=by rw[al];exact zt T
 have Z:∀d∈bo,d<256:=by rw[al];exact xd (ux c)
 have Y:ig bo 0 T:=by rw[al];exact Jn c
 have aq:ig bo T.length (gx 0 ((8-T.length%8)%8)):=by rw[al];exact Ge c
 have ad:8*bo.length-T.length=(8-T.length%8)%8:=by rw[al];exact Gd T
 rw[J]at Y;have bp:=Y.left;have W:=Y.right;rw[sO]at W;have bq:=W.left;have a4:=W.right;rw[gH]at a4;have j:=λa b F t h2 h3=>K bo a b F a4 t h2 h3;unfold sL at j;have z:=λa b F (h:gM a b F bo 0)=>KX h r.w0 r.w1 r.h0 r.h1 r.d0 r.d1 r.n0 r.n1 bp;have E:=λa b F (h:gM a b F bo (0+18))=>iU a b F bo (0+18) 1 l h (by omega) (by omega) bq;have⟨L,hL⟩:=zX ((8-T.length%8)%8);have b3:L<=7:=by omega
 rw[<-hL]at aq ad;have C:=λa b F (h:gM a b F bo T.length)=>iU a b F bo T.length L 0 h (by omega) (Nat.pow_pos (by decide)) aq;have B:=λa b F (h:gM a b F bo T.length)=>BF a b F bo T.length h;rw[ad]at B;have⟨tl,af⟩:=zX (jP (mu bo));have aN:tl.length=4:=by rw[af];rfl
 have bD:∀d∈tl,d<256:=by rw[af];exact EU _
 have a9:=xH Z;have bB:nh tl=mu bo:=by rw[af];exact KW a9
 rw[<-af]at bf;rw[bf]at hc f⊢;have⟨m,hm⟩:=zX bo.length;have b4:m<=1000000000:=by omega
 have⟨N,hN⟩:=zX ((bo++tl).length);have b1:N=m+4:=by rw[hN,zC,aN,hm]
 rw[<-hN]at f⊢;have a8:gz b8 w A bo:=by
  have t:=hc.take bo.length;rw[take_left]at t;exact t
 have eN:(N:Int)-4=(m:Int):=by omega
 have b2:=λa=>Rm (P:=prog) underlying41 A N cap m (by omega) f a (xC a);obtain⟨A',be,-,aA⟩:=uh (P:=prog) underlying41 xC A N cap m (by omega) f;have bu:N-m=4:=by omega
 rw[bu]at be;have bC:gz b8 w A' tl:=by
  have t:=aA Nat b8 w _ (by rw[hN]) hc;rw[hm,drop_left]at t;exact t
 have bb:=λa I (h':gg [] w a)=>MR a A' I tl (bC.Y h') (by omega) (by omega);rw[aN]at bb;have s:=λa b g I h'=>MP a b g I tl h' aN bD;have aM:=λa (h':gg [] w a)=>vS a A cap bo (a8.Y h') Z (by omega);have bd:=λa (h':gg [] w a)=>GI a A cap bo (a8.Y h') Z (by omega) (by omega) hcm;rw[<-hm]at aM bd;rw[bB]at s;have⟨S,hS⟩:=zX (mu bo);rw[<-hS]at aM a9 s;have u1:IntKind.u64.wrap (S:Int)=(S:Int):=IntWalk.u64_in _ (by omega);have t0:=Ra N 4 (by omega);have⟨w1,aO⟩:=zX (w.alloc (.cells #[(0:Int),(0:Int),(0:Int),.slice none 0 0] 46));have⟨R,hR⟩:=zX w.heap.size;have a7:iF w1 R (.int .i64 0) (.int .i64 0) (.int .i64 0) (.slice none 0 0):=⟨RD aO hR⟩;have br:=H4 aO;have bU:gh (R<w1.heap.size):=gd a7.blk.lt;have bG:gW p=λi o' cap'=>.agg #[p.W,p.H,p.d,.slice (some ⟨i,o',none⟩) p.P.length cap']:=rfl;rw[bG]at j⊢;have⟨n,hn⟩:=zX p.P.length;rw[<-hn]at j z⊢;have⟨bS,bI,bW,bV⟩:=gu bb s aM bd;have⟨bN,aX,bP,bO⟩:=gu z E j C;have⟨bQ,bX,bh,bL⟩:=gu B aO hR a7;have⟨ah,HP⟩:=gy br M;clear hN hm a8 hc aA bu bC Z bD bb s aM bd a9 bB hS aO hR a7 br aN b1 z E j C B M hn bG hTl J al bf a6 Y aq ad bp W bq a4 hL af c r K;rcases hf2 with rfl|rfl
 all_goals
  go_enter func35,ntmps35;go_wp2_with fail;rw[<-bX.o,<-bh.o];refine(bS.o w1 _ ah.o).mono ?_;rintro e w2 ⟨b,g,I,rfl,bE,bi,hb⟩;have s:=bI.o w2 b g I bE;have⟨aS,bJ⟩:=gy bi hb;clear bE bi hb;go_wp2_with fail;refine s.mono ?_;rintro e w3 ⟨rfl,bj⟩;have az:gg [] w1 w3:=aS.o.trans bj (λx hx=>.inr (by simp at hx;have:=bJ.o;omega));have ag:=gd az;clear s bj az;go_wp2_with fail;refine(bW.o w3 (ah.o.tq ag.o)).mono ?_;rintro e w4 ⟨rfl,rfl⟩;go_wp2_with fail;refine(bV.o w3 (ah.o.tq ag.o)).mono ?_;rintro e w5 ⟨o,F,rfl,ao,bk,bs⟩;clear u1 t0 eN;have H:gh (∀x∈F,w1.heap.size<=x):=gd (λx hx=>Nat.le_trans ag.o.size (bs x hx));have⟨aT,ay⟩:=gy (ag.o.tq bk) ao.mem;have z:=bN.o w5 o F ao;clear ao bk bs;go_wp2_with fail;refine z.mono ?_;rintro e w6 ⟨rfl,aE,bl⟩;have E:=aX.o w6 o F aE;have aU:gh (gg [] w1 w6):=gd (aT.o.trans bl (λx hx=>.inr (by simp at hx;subst hx;exact H.o _ ay.o)));clear z aE bl;go_wp2_with fail;refine E.mono ?_;rintro e u ⟨rfl,G,bm⟩;have aw:gh (gg [] w1 u):=gd (aU.o.trans bm (λx hx=>.inr (by simp at hx;subst hx;exact H.o _ ay.o)));have aB:=iS u o F bo _ G;have⟨wA,aP⟩:=zX (u.alloc (.cells #[(0:Int),(0:Int),(0:Int),.slice none 0 0] 46));have⟨X,hX⟩:=zX u.heap.size;have a2:=H4 aP;have a5:iF wA X (.int .i64 0) (.int .i64 0) (.int .i64 0) (.slice none 0 0):=⟨RD aP hX⟩;have⟨bH,aZ,ai,bY⟩:=gu a5 (G.Z a2 (by simp)) (aw.o.tq a2) aP;have b0:=gd hX;have y:gh (u.heap.size<=X/\X<wA.heap.size):=gd ⟨by omega,a5.blk.lt⟩;have aR:gh (o<u.heap.size):=gd (G.lt o ay.o);have bT:gh (∀x∈F,x<u.heap.size):=gd G.lt;clear E G bm aP hX a2 a5
  go_wp2_with(go_at_call 60;refine gB aB ?_)
  rw[<-bY.o,<-b0.o];have bF:iK wA:=(HP.o.Y ah.o).Y ai.o;have bn:0∉F:=λhm=>by have:=H.o 0 hm;have:=HP.o.lt;have:=ah.o.size;omega
  have j:=bP.o wA o F aZ.o bF bn;clear aB bF bn
  first|rw[if_pos rfl]at j|rw[if_pos trivial]at j|rw[if_neg not_false]at j|rw[if_neg (by decide)]at j
  refine j.mono ?_;rintro e w8 ⟨i,D,xs,gs,rfl,aD,aF,a1,an⟩;have bz:X∉[o]:=by have:=aR.o;have:=y.o;simp;omega
  have aj:=bH.o.Z a1 bz;obtain⟨z0,z1,z2,z3⟩:=aj.cells;have⟨f0,f1,f2,f3⟩:=RJ aj.blk 0 1 2 3;have⟨wS,aQ⟩:=zX ((((w8.setCell X (.int .i64 p.W)).setCell ⟨X,1,none⟩ (.int .i64 p.H)).setCell ⟨X,2,none⟩ (.int .i64 p.d)).setCell ⟨X,3,none⟩ (.slice (some ⟨i,0,none⟩) n D));have bA:iF wS X (.int .i64 p.W) (.int .i64 p.H) (.int .i64 p.d) (.slice (some ⟨i,0,none⟩) n D):=by
   rw[aQ]
   have:=(((aj.blk.S 0 (.int .i64 p.W)).S 1 (.int .i64 p.H)).S 2 (.int .i64 p.d)).S 3 (.slice (some ⟨i,0,none⟩) n D)
   exact⟨by simpa using this⟩
  have U:gg [X] w8 wS:=by
   rw[aQ];exact((((zR [X] w8).zs 0 _).zs 1 _).zs 2 _).zs 3 _
  have bx:∀x∈F,x∉[X]:=λx hx hm=>by have:=bT.o x hx;have:=y.o;simp at hm;omega
  have ba:∀x∈i::gs,x∉[X]:=λx hx hm=>by have:=an x hx;have:=y.o;simp at hm;omega
  have ap:=aF.Z U bx;have aY:=gd (aD.Z U (ba i (by simp)) (λx hx=>ba x (by simp[hx])));have B:=bQ.o wS o F ap;have⟨bK,a0⟩:=gy bA ap;have bM:gh (gg [] w1 wS):=gd ((ai.o.trans a1 (λx hx=>.inr (by simp at hx;subst hx;exact H.o _ ay.o))).trans U (λx hx=>.inr (by simp at hx;have:=y.o;have:=aw.o.size;omega)));have O:gh (∀x∈i::gs,w1.heap.size<=x/\x≠o):=gd (λx hx=>by have:=an x hx;have:=ai.o.size;have:=aR.o;have:=y.o;omega);have bZ:=gd aQ;clear j aD aF a1 an bz aj aQ bA U bx ba ap;go_wp2_with fail;rw[<-bZ.o];refine B.mono ?_;rintro e a ⟨rfl,q,rfl⟩;have⟨wT,bg⟩:=zX (wS.drewN q);have a3:gg [] wS wT:=by rw[bg];exact(zR [] wS).drewN q
  rw[<-bg];have C:=bO.o wT o F (a0.o.Z a3 (by simp));have aW:=gd a3;have t8:=mF 8 L (by omega);clear B z0 z1 z2 z3 f0 f1 f2 f3 bg a3;go_wp2_with fail;refine C.mono ?_;rintro e w9 ⟨rfl,bc,Q⟩;have am:gg [] w1 w9:=(bM.o.tq aW.o).trans Q (λx hx=>.inr (by simp at hx;subst hx;exact H.o _ ay.o));have bw:=(bK.o.Y aW.o).Z Q (by have:=aR.o;have:=y.o;simp;omega);obtain⟨x0,x1,x2,x3⟩:=bw.cells;have hz:=bL.o.Y am;obtain⟨z0,z1,z2,z3⟩:=hz.cells;have⟨f0,f1,f2,f3⟩:=RJ hz.blk 0 1 2 3;have⟨HZ,aV⟩:=gy hz am;have bR:=gd ((aY.o.Y aW.o).Z Q (by simpa using(O.o i (by simp)).2) (λx hx=>by simpa using(O.o x (by simp[hx])).2));clear C bc Q am bw hz;go_wp2_with fail;refine qF HZ.o ?_;intro V hV hY;obtain⟨y0,y1,y2,y3⟩:=hV.cells;refine bodyPost_ret (v:=.tuple #[.agg #[.int .i64 p.W,.int .i64 p.H,.int .i64 p.d,.slice (some ⟨i,0,none⟩) n D],(0:Int)]) (by simp[results,results35,go_sem,y0,y1,y2,y3]) rfl ?_;have bv:∀x∈i::gs,x∉[R]:=λx hx hm=>by have:=(O.o x hx).1;have:=bU.o;simp at hm;omega
  exact⟨i,D,xs,gs,rfl,bR.o.Z hY (bv i (by simp)) (λx hx=>bv x (by simp[hx])),(ah.o.tq aV.o).trans hY (λx hx=>.inr (by simp at hx;have:=bh.o;omega)),λx hx=>by have:=(O.o x hx).1;have:=ah.o.size;omega⟩
theorem I0{way:Option Nat}(c:l9 way){p:qc}(h:p.Ok)(s:k<=4)(f:kC p.P.length k=true)(a:qE way k p=true)(d:∀b∈nN way k p,b<2)(j:iK w)(o:gz b8 w A (jE (nN way k p)))(e:(jE (nN way k p)).length<=cap)(i:cap<=9223372036854775807):Calls prog 35 #[.slice A (jE (nN way k p)).length cap] w (lA w p):=by
 have r:=sS h k;have g:(jg k p).P.length=p.P.length:=pH _ _ _;have n:=L4 h f;have m:mT way (jg k p) (jg k p).P.length=true:=by rw[g];exact a
 have ad:nN way k p=pa p.W p.H p.d p.P.length++(gx 0 1++(gx k 3++jR way (jg k p) (jg k p).P.length)):=by rw[g];rfl
 have q:=yS c h a;refine Di h (.inl rfl) ad ⟨by omega,q.2⟩ d (λbo w' b F hA h1 h2 h3=>?_) j o e i
 have:=Kt c h1 r s (by rw[g];exact f) m h2 h3 hA
 have l:0+18+1+3+(jR way (jg k p) (jg k p).P.length).length=(nN way k p).length:=by
  rw[ad];simp only[zC,sO,gH];omega
 rw[l,n,g]at this;exact this
end Go.Proofs.YtifdlkoepaepiaaGreatDoor
