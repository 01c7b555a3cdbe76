/- Lemmas. -/
import Derived.Test.YtifdlkoepaepiaaGreatDoorMg46
import Derived.Test.YtifdlkoepaepiaaGreatDoorMg49
set_option linter.all false
set_option maxHeartbeats 1000000
set_option maxRecDepth 100000
namespace Go.Proofs.YtifdlkoepaepiaaGreatDoor
open _root_.Go.Proofs.Tryz List Nat Go.RowKit
open Go.RowKit Go.Maps
variable {C:List (List Int)}{F G ds:List Nat}{b d g i n o pos:Nat}{c:Nat->Nat}{B:Nat->Option Addr}{w:World}
theorem vU{c:List Int}(a:i<c.length):iq (c.take (i+1)) d=iq (c.take i) d++gx (c.getD i 0).toNat d:=by
 have e:c.getD i 0=c[i]:=by rw[zD,zF a];rfl
 rw[take_succ_eq_append_getElem a,e];unfold iq;rw[flatMap_append];simp
def vT (w:World) (b:Nat) (F bs ts:List Nat) (e:Ending) (w':World):Prop:=e=.returned (.int .i64 0)/\∃F',hJ w' b F' (bs++ts)/\gE F F' w w'
theorem MU(s:Nat)(h:l8 w n d C g o B c G)(b:Nat)(F bs:List Nat)(Z:hJ w b F bs)(W:∀x∈G,x∉F)(hbs:bs.length<17179869184):Calls prog 71 #[.pointer (some ⟨b,0,none⟩),mC n d C.length g o s] w (vT w b F bs (lP n d C)):=by
 have r:=h.ok;have S:∀w',gg [] w w'->_:=λw' (hc':gg [] w w')=>xK s (h.Y hc');have bu:=r.n0;have bi:=r.n1;have bn:=r.d0;have M:=r.d1;have ad:=λk (p:k<=C.length)=>yQ (d:=d) r.len k p;have U:∀k i,k<C.length->i<n->∃v:Nat,(C.getD k []).getD i 0=(v:Int)/\v<2^d:=λk i p t=>by
  obtain⟨s0,s1⟩:=mK (r.smp _ (jQ p)) i;refine⟨((C.getD k []).getD i 0).toNat,(Int.toNat_of_nonneg s0).symm,?_⟩;have e2:((2^d:Nat):Int)=(2:Int)^d:=by simp
  omega
 have J:∀k,k<C.length->∃b q,∀wz,gg F w wz->wz.cell? ⟨g,o+k,none⟩=some (.slice (some ⟨b,q,none⟩) n (c k))/\∀i,i<n->wz.cell? ⟨b,q+i,none⟩=some (.int .i64 ((C.getD k []).getD i 0)):=λk p=>by
  obtain⟨H,q,e,hb,aE⟩:=h.at_ p;refine⟨H,q,λwz hz => ?_⟩;have aR:=(h.Z hz W).X k p;rw[e]at aR;exact⟨aR,λi t=>(World.cell?_of_block (w:=w) (hz.block H (h.lt H hb) (W H hb))).trans (aE i t)⟩
 have R:∀k,k<C.length->(C.getD k []).length=n:=λk p=>h.len p;have⟨m,hm⟩:=zX C.length;have bq:1<=m:=by rw[hm];exact r.c0
 have br:m<=256:=by rw[hm];exact r.c1
 have ac:lP n d C=gx (d-1) 4++(gx (n-1) 2++(gx (m-1) 8++lR d C m)):=by rw[hm];rfl
 unfold vT mC at *;rw[ac];rw[<-hm]at S ad U J R⊢;obtain⟨a,bg⟩:∃a,d=a+1:=⟨d-1,by omega⟩;obtain⟨l,aO⟩:∃l,n=l+1:=⟨n-1,by omega⟩;obtain⟨f,aM⟩:∃f,m=f+1:=⟨m-1,by omega⟩;have e1:(d:Int)-1=(a:Int):=by omega
 have e2:(n:Int)-1=(l:Int):=by omega
 have e3:(m:Int)-1=(f:Int):=by omega
 have u1:IntKind.u64.wrap (a:Int)=(a:Int):=IntWalk.u64_in _ (by omega);have u2:IntKind.u64.wrap (l:Int)=(l:Int):=IntWalk.u64_in _ (by omega);have u3:IntKind.u64.wrap (f:Int)=(f:Int):=IntWalk.u64_in _ (by omega);rw[show d-1=a by omega,show n-1=l by omega,show m-1=f by omega];have⟨w1,ao⟩:=zX (w.alloc (.cells #[d,n,.slice (some ⟨g,o,none⟩) m s] 117));have⟨X,hX⟩:=zX w.heap.size;have K:lK w1 X (.int .i64 d) (.int .i64 n) (.slice (some ⟨g,o,none⟩) m s):=⟨by rw[ao,hX];exact gn.new w _ _⟩;have aL:gg [] w w1:=by rw[ao];exact(zR [] w).alloc _
 have aP:X∉F:=λhm'=>by have:=Z.lt X hm';omega
 have⟨bd,HX,ak,ap⟩:=gu ao hX K aL;have⟨ax,au,az,a8⟩:=gu S ad U J;have⟨aw,HW,an⟩:=gX R Z aP;have bh:a<16:=by omega
 have bm:l<4:=by omega
 have aN:f<256:=by omega
 have⟨bl,bk,bc⟩:=gX aO aM hm;obtain⟨z,A,D⟩:=K.cells;clear ao hX K aL S ad U J R Z aP r h W ac hm bg aO aM;go_enter func71,ntmps71;go_wp2_with fail;rw[<-bd.o,<-HX.o];refine(ax.o w1 ap.o).mono ?_;rintro e w2 ⟨rfl,E⟩;obtain⟨z,A,D⟩:=(ak.o.Y E).cells;have aX:=iG w2 b F bs a 4 ((HW.o.Y ap.o).Y E) (by decide) (by omega) (by omega);have⟨aq,aa⟩:=gy (ap.o.tq E) E;clear E;go_wp2_with fail;refine aX.mono ?_;rintro e w3 ⟨rfl,F3,a4,N⟩;have aY:=iG w3 b F3 _ l 2 a4 (by decide) (by omega) (by rw[zC,gH];omega);obtain⟨z,A,D⟩:=((ak.o.Y aa.o).Z N.Z an.o).cells;clear aX;go_wp2_with fail;refine aY.mono ?_;rintro e w4 ⟨rfl,F4,a5,aT⟩;have aZ:=iG w4 b F4 _ f 8 a5 (by decide) (by omega) (by rw[zC,zC,gH,gH];omega);have P:=N.trans aT;obtain⟨z,A,D⟩:=((ak.o.Y aa.o).Z P.Z an.o).cells;clear aY;go_wp2_with fail;refine aZ.mono ?_;rintro e w5 ⟨rfl,F5,a6,aU⟩;have Q:=P.trans aU;obtain⟨z,A,D⟩:=((ak.o.Y aa.o).Z Q.Z an.o).cells;have be:gh (hJ w5 b F5 (bs++(gx a 4++(gx l 2++(gx f 8++lR d C 0))))):=gd (by
  have e0:lR d C 0=[]:=rfl;rw[e0]
  simpa only[zH,append_nil]using a6)
 have ba:=gd Q;clear aZ a4 a5 a6 N aT aU P Q;go_wp2_with fail
 go_loopg [6,8,34,38,39,40] m (λj v6 v8 v34 v38 v39 v40 wr=>∃(k:Nat) (y:List Nat),v34=.int .i64 k/\k+j=m/\gh (hJ wr b y (bs++(gx a 4++(gx l 2++(gx f 8++lR d C k)))))/\gh (gE F y w2 wr))
 .exact⟨0,F5,rfl,by omega,be,ba⟩
 obtain⟨k,y,rfl,bp,aK,V⟩:=hrel;rcases gk with _|j
 .obtain rfl:k=m:=by omega
  have t1:decide ((k:Int)<(k:Int))=false:=by simp
  go_wp2_with fail;go_ret;exact⟨rfl,y,aK.o,gE.pre aq.o V.o⟩
 .have p:k<m:=by omega
  obtain⟨H,q,L⟩:=a8.o k p;have f1:=(L wr ((aq.o.mono (by simp)).trans V.o.Z (λx hx => .inl hx))).1;have a9:=gd L;clear L;have⟨wo,bj⟩:=zX wr;subst bj;have⟨cc,aD⟩:=zX (C.getD k []);have ad:=aw.o k p;rw[<-aD]at ad;have⟨aI,ar⟩:=gy aD ad;clear aD ad;go_wp2_with fail
  go_loopg [8,40] n (λj2 v8 v40 wr=>∃(i:Nat) (u:List Nat),v40=.int .i64 i/\i+j2=n/\gh (hJ wr b u (bs++(gx a 4++(gx l 2++(gx f 8++(lR d C k++iq (cc.take i) d))))))/\gh (gE F u w2 wr))
  .exact⟨0,y,rfl,by omega,gd (by simpa[iq]using aK.o),V⟩
  obtain⟨i,u,rfl,bo,aJ,I⟩:=hrel;rcases gk with _|j2
  .obtain rfl:i=n:=by omega
   have t2:decide ((i:Int)<(i:Int))=false:=(by simp);go_wp2_with fail
   go_roundg j
   .refine⟨k+1,u,by go_num,by omega,gd ?_,I⟩
    rw[tU (by rw[<-bc.o];exact p),<-aI.o]
    have:=aJ.o
    rw[zT (by rw[ar.o];exact zQ _)]at this;exact this
   .omega
  .have t:i<n:=by omega
   have aS:gg F w wr:=(aq.o.mono (by simp)).trans I.o.Z (λx hx => .inl hx);have f2:=(a9.o wr aS).2 i t;obtain⟨v,Y,O⟩:=az.o k i p t;rw[Y]at f2;have a3:v<65536:=Nat.lt_of_lt_of_le O (by have:=Nat.pow_le_pow_right (n:=2) (by decide) M;exact this);have u4:IntKind.u64.wrap (v:Int)=(v:Int):=IntWalk.u64_in _ (by omega);obtain⟨z,A,D⟩:=((ak.o.Y aa.o).Z I.o.Z an.o).cells;have aQ:=au.o k (by omega);have T:=iG wr b u _ v d aJ.o (by omega) O (by
    simp only[zC,gH,xf,aQ];have h1:d*n<=16*4:=zL M bi;have h2:d*n*k<=16*4*256:=zL h1 (by omega);have h3:d*(cc.take i).length<=16*4:=zL M (by rw[zI];have:=ar.o;omega);omega)
   have aW:bs++(gx a 4++(gx l 2++(gx f 8++(lR d C k++iq (cc.take i) d))))++gx v d=bs++(gx a 4++(gx l 2++(gx f 8++(lR d C k++iq (cc.take (i+1)) d)))):=by
    rw[vU (by rw[ar.o];exact t),aI.o,Y];simp only[zH,Int.toNat_natCast]
   rw[aW]at T;have ay:=gd T;clear T aW Y aQ aS O;go_wp2_with fail;refine ay.o.mono ?_;rintro e w7 ⟨rfl,F7,a7,aV⟩;have⟨bf,bb⟩:=gy a7 (I.o.trans aV);clear a7 aV;go_wp2_with fail
   go_roundg j2
   .exact⟨i+1,F7,by go_num,by omega,bf,bb⟩
   .omega
def li (pos d:Nat) (C:List (List Int)) (i j:Nat):Nat:=pos+(lR d C i).length+(iq ((C.getD i []).take j) d).length
theorem MV{j:Nat}(a:j<(C.getD i []).length):li pos d C i (j+1)=li pos d C i j+d:=by
 unfold li;rw[vU a,zC,gH];omega
theorem Ot(a:i<C.length)(e:(C.getD i []).length=n):li pos d C i n=li pos d C (i+1) 0:=by
 unfold li;rw[tU a,zC,zT (by omega),take_zero];show _=_+0;omega
theorem LN(e:ig ds pos (lR d C C.length)):∀(k i j:Nat),i+k+1=C.length->j<(C.getD i []).length->ig ds (li pos d C i j) (gx ((C.getD i []).getD j 0).toNat d):=by
 have p:∀(l:List Int) (k j:Nat),j+k=l.length->∃r,iq l d=iq (l.take j) d++r:=λl k=>by
  induction k with
  | zero=>intro j f;exact⟨[],by rw[append_nil,zT (by omega)]⟩
  | succ k ih =>
   intro j f;obtain⟨r,a⟩:=ih (j+1) (by omega);exact⟨_,by rw[a,vU (by omega),zH]⟩
 have m:∀k i,i+k=C.length->∃r,lR d C C.length=lR d C i++r:=λk=>by
  induction k with
  | zero=>intro i h;exact⟨[],by rw[append_nil,show i=C.length by omega]⟩
  | succ k ih =>
   intro i h;obtain⟨r,a⟩:=ih (i+1) (by omega);exact⟨_,by rw[a,tU (by omega),zH]⟩
 intro k i j h f;obtain⟨r,a⟩:=m k (i+1) (by omega);obtain⟨t,q⟩:=p (C.getD i []) ((C.getD i []).length-(j+1)) (j+1) (by omega);rw[a,tU (by omega),q,vU f]at e;simp only[zH]at e;have s:=e.right.right.left;unfold li;exact s
def y9 (w:World) (b:Nat) (F ds:List Nat) (pos n d:Nat) (C:List (List Int)) (e:Ending) (w':World):Prop :=
 ∃(gL:Nat) (xs:List Value) (gs:List Nat),e=.returned (.tuple #[mC n d C.length gL 0 C.length,(0:Int)])/\pW w' n d C gL C.length xs gs/\gM w' b F ds pos/\gg [b] w w'/\∀x∈gL::gs,w.heap.size<=x
theorem MT(a:uS n d C)(hr:gM w b F ds pos)(ha:ig ds pos (lP n d C)):Calls prog 88 #[.pointer b] w (y9 w b F ds (pos+(lP n d C).length) n d C):=by
 unfold y9 mC;have cn:=hr.lt b hr.mem;have cs:=a.d0;have cl:=a.d1;have cw:=a.n0;have cx:=a.n1;have ci:=a.c0;have cj:=a.c1;have U:=λi (f:i<C.length)=>a.len _ (jQ f);have bB:=λi (f:i<C.length)=>a.smp _ (jQ f);obtain⟨z,ce⟩:∃z,d=z+1:=⟨d-1,by omega⟩;obtain⟨H,cf⟩:∃H,n=H+1:=⟨n-1,by omega⟩;obtain⟨D,bu⟩:∃D,C.length=D+1:=⟨C.length-1,by omega⟩;have a8:lP n d C=gx z 4++(gx H 2++(gx D 8++lR d C C.length)):=by
  unfold lP;rw[show d-1=z by omega,show n-1=H by omega,show C.length-1=D by omega]
 have ax:pos+(lP n d C).length=li (pos+4+2+8) d C C.length 0:=by
  rw[a8];unfold li;simp only[zC,gH,take_zero];show _=_+0;omega
 rw[ax];rw[a8]at ha;have bw:=ha.left;have aL:=ha.right;rw[gH]at aL;have bx:=aL.left;have af:=aL.right;rw[gH]at af;have bz:=af.left;have aM:=af.right;rw[gH]at aM;have bD:=λw1 (h:gM w1 b F ds pos)=>iU w1 b F ds pos 4 z h (by omega) (by omega) bw;have W:=λw1 (h:gM w1 b F ds (pos+4))=>iU w1 b F ds _ 2 H h (by omega) (by omega) bx;have O:=λw1 (h:gM w1 b F ds (pos+4+2))=>iU w1 b F ds _ 8 D h (by omega) (by omega) bz;have⟨P0,a4⟩:=zX (pos+4+2+8);rw[<-a4]at aM⊢;have aE:∀i j,i<C.length->∃v:Nat,(C.getD i []).getD j 0=(v:Int)/\v<2^d:=λk i r=>by
  obtain⟨s0,s1⟩:=mK (bB k r) i;refine⟨((C.getD k []).getD i 0).toNat,(Int.toNat_of_nonneg s0).symm,?_⟩;have e2:((2^d:Nat):Int)=(2:Int)^d:=by simp
  omega
 have K:∀i j,i<C.length->j<n->∃v:Nat,(C.getD i []).getD j 0=(v:Int)/\v<65536/\∀w1,gM w1 b F ds (li P0 d C i j)->Calls prog 59 #[.pointer b,d] w1 λe w'=>e=.returned (.int .u64 v)/\gM w' b F ds (li P0 d C i (j+1))/\gg [b] w1 w':=λi j f hj=>by
  obtain⟨v,Y,bO⟩:=aE i j f;have bG:j<(C.getD i []).length:=by rw[U i f];exact hj
  refine⟨v,Y,Nat.lt_of_lt_of_le bO (Nat.pow_le_pow_right (n:=2) (by decide) cl),λw1 h => ?_⟩;have y:=LN aM (C.length-(i+1)) i j (by omega) bG;rw[Y,Int.toNat_natCast]at y;have q:=iU w1 b F ds _ d v h (by omega) bO y;rw[MV bG];exact q
 have ad:∀i,i<C.length->li P0 d C i n=li P0 d C (i+1) 0:=λi f=>Ot f (U i f);have bI:li P0 d C 0 0=P0:=by
  unfold li lR;simp[iq]
 have⟨m,hm⟩:=zX C.length;rw[<-hm]at ci cj U bu K ad⊢;have cv:=kg (P:=prog) rj rfl .i64 .i64 m (by omega) (by omega);have co:=kg (P:=prog) iO rfl .i64 .i64 n (by omega) (by omega);have cg:IntKind.i64.wrap (z:Int)=(z:Int):=IntWalk.i64_in _ (by omega);have ch:IntKind.i64.wrap (H:Int)=(H:Int):=IntWalk.i64_in _ (by omega);have cq:IntKind.i64.wrap (D:Int)=(D:Int):=IntWalk.i64_in _ (by omega);have e1:(z:Int)+1=(d:Int):=by omega
 have e2:(H:Int)+1=(n:Int):=by omega
 have e3:(D:Int)+1=(m:Int):=by omega
 have⟨w1,aP⟩:=zX (w.alloc (.cells #[(0:Int),(0:Int),.slice none 0 0] 117));have⟨R,hR⟩:=zX w.heap.size;have aN:lK w1 R (.int .i64 0) (.int .i64 0) (.slice none 0 0):=⟨by rw[aP,hR];exact gn.new w _ _⟩;have bs:gg [] w w1:=by rw[aP];exact(zR [] w).alloc _
 have Z:gh (w.heap.size<=R/\R<w1.heap.size/\b<R):=gd ⟨by omega,aN.blk.lt,by omega⟩;have⟨b0,bZ,ar,aU⟩:=gu bI a4 ad K;have⟨ae,ao,bk,bS⟩:=gu U hm a bD;have⟨bT,bU,b6,b3⟩:=gu W O aP hR;have⟨bP,aR,bl⟩:=gX aN bs hr;clear cn U bB a8 ax ha bw aL bx af bz aM bD W O a4 aE K ad bI hm a aP hR aN bs hr ce cf bu;go_enter func88,ntmps88;go_wp2_with fail;rw[<-b6.o,<-b3.o];refine(bS.o w1 (bl.o.Z aR.o (by simp))).mono ?_;rintro e w2 ⟨rfl,bJ,bo⟩;have aS:=gd bo;have W:=bT.o w2 bJ;clear bJ bo;go_wp2_with fail;refine W.mono ?_;rintro e w3 ⟨rfl,bK,bp⟩;have aT:=gd (aS.o.trans bp (λx hx => .inl hx));have O:=bU.o w3 bK;clear W bK bp;go_wp2_with fail;refine O.mono ?_;rintro e s ⟨rfl,M,bq⟩;have an:=gd (aT.o.trans bq (λx hx => .inl hx));rw[<-bZ.o,<-b0.o]at M;have⟨wA,aQ⟩:=zX (s.alloc (.cells (Array.replicate m (Value.slice none 0 0)) 22));have⟨gC,a6⟩:=zX s.heap.size;have S:j1 s [b] m gC wA [] [] []:=by
  have:=j1.start (w0:=s) (E:=[b]) (n:=m) (by omega) (λx hx=>by simp at hx;subst hx;exact M.lt _ M.mem)
  rw[toArray_replicate]at this;rw[a6,aQ];exact this
 have b5:=gd S;have b2:gh (gM wA b F ds (li P0 d C 0 0)):=gd (by rw[aQ];exact M.Z ((zR [] s).alloc _) (by simp));have⟨b7,bW,bg⟩:=gX aQ a6 M.lt;clear O M bq aQ a6 S cg ch e1 e2;go_wp2_with fail;rw[<-b7.o,<-bW.o]
 go_loopg [7,8,26] m (λj v7 v8 v26 wr=>∃(i:Nat) (t:List Value) (gs:List Nat),v26=.int .i64 i/\i+j=m/\gh (j1 s [b] m gC wr (C.take i) t gs)/\gh (gM wr b F ds (li P0 d C i 0)))
 .exact⟨0,[],[],rfl,by omega,b5,b2⟩
 obtain⟨i,t,gs,rfl,ct,A,aX⟩:=hrel;rcases gk with _|j
 .obtain rfl:i=m:=by omega
  have t1:decide ((i:Int)<(i:Int))=false:=by simp
  have ay:=iS wr b F ds _ aX.o;have N:=A.o;rw[zT (by rw[<-ao.o];exact zQ _)]at N;have aj:=N.row;rw[<-ao.o,Nat.sub_self,replicate_zero,append_nil]at aj;have ai:pW wr n d C gC i t gs:=⟨bk.o,by rw[<-ao.o];exact aj,N.pl⟩;have ag:=λwz (hz:gg [] wr wz)=>xK i (ai.at_.Y hz);unfold mC at ag;rw[<-ao.o]at ag;have⟨aV,aq⟩:=gy ag ai;have be:gh (gg [b] w1 wr):=gd (an.o.trans N.Z (λx hx => .inl hx));have ap:gh (∀x∈gC::gs,w1.heap.size<=x):=gd (λx hx=>by have:=N.new x hx;have:=an.o.size;omega);have⟨wX,aH⟩:=zX (wr.alloc (.cells #[d,n,.slice gC i i] 117));have⟨X,hX⟩:=zX wr.heap.size;have br:gg [] wr wX:=by rw[aH];exact(zR [] wr).alloc _
  have a5:lK wX X (.int .i64 d) (.int .i64 n) (.slice gC i i):=⟨by rw[aH,hX];exact gn.new wr _ _⟩;obtain⟨a0,a1,a2⟩:=a5.cells;have⟨bR,bf,cb,cd⟩:=gu a5 br aH hX;rw[aH,hX]at a0 a1 a2;clear N aj ai ag aH hX br a5
  go_wp2_with(go_at_call 60;refine gB ay ?_)
  rw[<-cb.o,<-cd.o];refine(aV.o wX bf.o).mono ?_;rintro e w5 ⟨rfl,aZ⟩;clear ay a0 a1 a2;have bd:=gd (bf.o.tq aZ);obtain⟨a0,a1,a2⟩:=(bR.o.Y aZ).cells;have L:lK w5 R (.int .i64 0) (.int .i64 0) (.slice none 0 0):=((bP.o.Z be.o (by have:=Z.o;simp;omega)).Y bd.o);obtain⟨z0,z1,z2⟩:=L.cells;have f0:=L.blk.U 0;have f1:=L.blk.U 1;have f2:=L.blk.U 2;have bQ:=gd L;clear L aZ;go_wp2_with fail;refine Bt bQ.o ?_;intro V hV hY;obtain⟨x0,x1,x2⟩:=hV.cells;refine bodyPost_ret (v:=.tuple #[.agg #[.int .i64 d,.int .i64 n,.slice gC i i],(0:Int)]) (by simp[results,results88,go_sem,x0,x1,x2]) rfl ?_;have aK:gg [R] wr V:=(bd.o.mono (F':=[R]) (by simp)).trans hY (λx hx => .inl hx);have bv:∀x∈gC::gs,x≠R:=λx hx e=>by have:=ap.o x hx;have:=Z.o;omega
  refine⟨gC,t,gs,rfl,⟨bk.o,aq.o.row.Z aK (by simpa using bv gC (by simp)),aq.o.pl.Z aK (λx hx=>by simpa using bv x (by simp[hx]))⟩,?_,?_,λx hx=>by have:=ap.o x hx;have:=aR.o.size;omega⟩
  .refine aX.o.Z aK (λx hx hm => ?_)
   simp at hm;subst hm
   have:=bl.o.lt _ hx
   have:=Z.o
   omega
  .refine((aR.o.mono (F':=[b]) (by simp)).tq be.o).trans aK (λx hx => .inr ?_)
   simp at hx
   have:=Z.o
   omega
 .have f:i<m:=by omega
  have bF:i<C.length:=by rw[<-ao.o];exact f
  have u:(C.take i).length=i:=by rw[zI];omega
  obtain⟨_,-,-,-,bA,bC⟩:=A.o.row.open_;have bb:t.length=i:=by rw[A.o.pl.lx,u]
  have y1:wr.cell? ⟨gC,i,none⟩=some (.slice none 0 0):=by
   rw[bA i (by rw[zC,zV,bb,u];omega),zS (by omega),getElem?_replicate,if_pos (by omega)]
  have bE:=A.o.row.lt;have f1:=bC i;have⟨wB,am⟩:=zX (wr.alloc (.cells (Array.replicate n (Value.int .i64 0)) 3));have⟨g5,aO⟩:=zX wr.heap.size;have T:gg [] wr wB:=by rw[am];exact(zR [] wr).alloc _
  have bN:gv wB 3 (.slice g5 n n) g5 ((ia [] n).map vi):=by
   have:=gv.zeros wr n (by omega)
   rw[toArray_replicate]at this;rw[am,aO];exact this
  have Q:=A.o.next (by rw[u];exact f) T (by omega) bN;rw[u]at Q;have y2:wB.cell? ⟨gC,i,none⟩=some (.slice none 0 0):=(World.cell?_of_block (w:=wr) (T.block gC bE (by simp))).trans y1;have f2:wB.frozen? ⟨gC,i,none⟩=false:=by
   obtain⟨_,_,_,_,_,aJ⟩:=(A.o.row.Z T (by simp)).open_;exact aJ i
  have⟨wD,aG⟩:=zX (wB.setCell ⟨gC,i,none⟩ (.slice g5 n n));rw[<-aG]at Q;have bc:(t++[Value.slice g5 n n])[i]?=some (.slice g5 n n):=by rw[<-bb];simp
  have aB:gs.length=i:=by rw[A.o.pl.lg,u]
  have a7:(gs++[g5])[i]?=some g5:=by rw[<-aB];simp
  have ac:∀wz l,j1 s [b] m gC wz (C.take i++[l]) (t++[Value.slice g5 n n]) (gs++[g5])->wz.cell? ⟨gC,i,none⟩=some (.slice g5 n n)/\gv wz 3 (.slice g5 n n) g5 (l.map vi):=λwz l h=>by
   obtain⟨g,c,I,y,q,J,_⟩:=h.last (by rw[u];exact f);rw[u]at I q J;rw[bc]at q;rw[a7]at J;injection J with J;subst J;injection q with q;rw[<-q]at I y;exact⟨I,y⟩
  obtain⟨y4,-⟩:=ac wD _ Q;have⟨cc,bh,ab⟩:=gX bc a7 ac;have bM:gM wD b F ds (li P0 d C i 0):=(aX.o.Z T (by simp)).Z (show gg [gC] wB wD from by rw[aG];exact(zR [gC] wB).setCell (p:=⟨gC,i,none⟩) (.inl (by simp)) _) (λx hx hm=>by
   simp at hm;subst hm;have I:=bg.o _ hx;have y:=A.o.new _ (mem_cons_self);omega)
  have bi:gh (0+i=i/\i<C.length):=gd ⟨by omega,bF⟩;have⟨b9,bV,ca⟩:=gX am aO aG;have bj:gh (j1 s [b] m gC wD (C.take i++[ia ((C.getD i []).take 0) n]) (t++[Value.slice g5 n n]) (gs++[g5])):=gd (by rw[take_zero];exact Q);have⟨aW,bn⟩:=gy bM u;rw[am]at y2 f2;rw[aG,am,aO]at y4;clear bA bC bb bE T bN Q am aO aG bc aB a7 ac bM u bF;have⟨wo,cp⟩:=zX wr;subst cp;go_wp2_with fail;rw[<-bV.o,<-b9.o,<-ca.o];clear y1 y2 y4 f1 f2
  go_loopg [8,39] n (λj2 v8 v39 wr2=>∃k:Nat,v39=.int .i64 k/\k+j2=n/\gh (j1 s [b] m gC wr2 (C.take i++[ia ((C.getD i []).take k) n]) (t++[Value.slice g5 n n]) (gs++[g5]))/\gh (gM wr2 b F ds (li P0 d C i k)))
  .exact⟨0,rfl,by omega,bj,aW⟩
  obtain⟨k,rfl,cu,HK,bm⟩:=hrel;rcases gk with _|j2
  .obtain rfl:k=n:=by omega
   have t2:decide ((k:Int)<(k:Int))=false:=(by simp);have r:=HK.o;have e5:C.take i++[ia ((C.getD i []).take k) k]=C.take (i+1):=by
    rw[zT (l:=C.getD i []) (by rw[ae.o i f];exact zQ _),q7 (ae.o i f),take_succ_eq_append_getElem bi.o.2,zD,zF bi.o.2];rfl
   rw[e5]at r;have a9:=bm.o;rw[ar.o i f]at a9;have⟨bY,aY⟩:=gy r a9;clear r e5 a9;go_wp2_with fail
   go_roundg j
   .exact⟨i+1,_,_,by go_num,by omega,bY,aY⟩
   .omega
  .have r:k<n:=by omega
   obtain⟨y5,aD⟩:=ab.o wr _ HK.o;obtain⟨v,Y,cy,K⟩:=aU.o i k f r;have cz:IntKind.i64.wrap (v:Int)=(v:Int):=IntWalk.i64_in _ (by omega);have bH:((C.getD i []).take k).length=k:=(by rw[zI,ae.o i f];omega);have S:∀wz,gg [b] wr wz->j1 s [b] m gC (wz.setCell ⟨g5,k,none⟩ (.int .i64 v)) (C.take i++[ia ((C.getD i []).take (k+1)) n]) (t++[Value.slice g5 n n]) (gs++[g5])/\(∃x,wz.cell? ⟨g5,k,none⟩=some (.int .i64 x))/\wz.frozen? ⟨g5,k,none⟩=false/\wz.cell? ⟨gC,i,none⟩=some (.slice g5 n n):=λwz hz=>by
    have I:=HK.o.turn hz;obtain⟨y,q⟩:=ab.o wz _ I;have J:=I.fill (by rw[bn.o];exact cc.o) (by rw[bn.o];exact bh.o) q (j:=k) (by rw[nM (by omega)];exact r) (v:Int);have e6:(ia ((C.getD i []).take k) n).set k (v:Int)=ia ((C.getD i []).take (k+1)) n:=by
     have h5:=sX (done:=(C.getD i []).take k) (n:=n) (by omega) (v:Int);rw[bH]at h5;have h7:k<(C.getD i []).length:=(by rw[ae.o i f];exact r);rw[h5,take_succ_eq_append_getElem h7,<-Y,zD (l:=C.getD i []),zF h7];rfl
    rw[e6]at J;obtain⟨_,_,_,_,h8,h9⟩:=q.open_;refine⟨J,?_,h9 k,y⟩;have aJ:k<(ia ((C.getD i []).take k) n).length:=(by rw[nM (by omega)];exact r);refine⟨(ia ((C.getD i []).take k) n)[k],?_⟩;rw[h8 k (by rw[zE];exact aJ),zW,zF aJ];rfl
   have⟨au,bX⟩:=gy S K;have cr:(0:Int)<=(i:Int):=(by omega);have aN:(i:Int)<(m:Int):=(by omega);clear Y K bH aD S;go_wp2_with fail
   go_region_held3 (λw'=>w'.cell? ⟨gC,i,none⟩=some (.slice g5 n n))
    (first|(go_keep;done)|exact(au.o _ (((zR [b] wr).drew).tq a3)).2.2.2|exact(ab.o _ _ ba).1|trivial)
    (first|(go_at_call 59;refine(bX.o _ (bm.o.Y ((zR [] wr).drew))).mono ?_;rintro e w6 ⟨rfl,bL,a3⟩;obtain⟨ba,⟨x6,ck⟩,cm,-⟩:=au.o _ (((zR [b] wr).drew).trans a3 (λx hx => .inl hx))))
   have b4:=gd ba;have b1:gh (gM (w6.setCell ⟨g5,k,none⟩ (.int .i64 v)) b F ds (li P0 d C i (k+1))):=gd (bL.Z ((zR [g5] w6).setCell (p:=⟨g5,k,none⟩) (.inl (by simp)) _) (λx hx hm=>by
    simp at hm;subst hm;have I:=bg.o _ hx;have y:=bj.o.new _ (mem_cons_of_mem _ (mem_of_getElem? bh.o));omega))
   clear ba bL a3 ck cm y5;go_wp2_with fail
   go_roundg j2
   .exact⟨k+1,by go_num,by omega,b4,b1⟩
   .omega
theorem Mr{way:Option Nat}(s:l9 way)(K:gM w b F ds pos){p:gA}(z:p.Ok)(I:(ic p).length<=256)(r:qK way p=true)(hp:iK w)(y:0∉F)(ha:ig ds pos (lP p.P.length p.d (ic p)++lw way (jc p) p.W p.H (kA (ic p).length))):Calls prog 61 #[.pointer b,p.W,p.H,p.d,p.P.length] w (sL w b F ds (pos+(lP p.P.length p.d (ic p)).length+(lw way (jc p) p.W p.H (kA (ic p).length)).length) p):=by
 unfold sL;have bm:=K.lt b K.mem;have aT:b≠0:=λe=>y (by rw[<-e];exact K.mem);have aH:=uO z I;have H:=λw1 (h:gM w1 b F ds pos)=>MT aH h ha.left;have⟨P1,aO⟩:=zX (pos+(lP p.P.length p.d (ic p)).length);have aE:=ha.right;rw[<-aO]at aE H⊢;have t:=λw'=>FF (ic p).length w' aH.c0 I;have f:=λw' (h:gM w' b F ds P1) (hp':iK w')=>C2 s h (ud p) (Eu I) z.w0 z.w1 z.h0 z.h1 (rS I).1 (rS I).2.1 hp' y r aE;have⟨P2,aP⟩:=zX (P1+(lw way (jc p) p.W p.H (kA (ic p).length)).length);rw[<-aP]at f⊢;have ad:=λw' q U J (ho:pW w' p.P.length p.d (ic p) q (ic p).length U J) A cap (hl:gz vi w' A (jc p))=>Op z (ic p).length ho.at_ (A:=A) cap hl;unfold y9 mC at H;unfold tT at f;unfold lA mC at ad;have aX:gW p=λgP o' cap' => .agg #[p.W,p.H,p.d,.slice (some ⟨gP,o',none⟩) p.P.length cap']:=rfl;rw[aX]at ad⊢;have⟨n,hn⟩:=zX p.P.length;have⟨m,hm⟩:=zX ((ic p).length);have⟨N,hN⟩:=zX ((jc p).length);rw[<-hm]at H t f ad;rw[<-hN]at f ad;rw[<-hn]at H ad⊢;have⟨PB,aQ⟩:=zX (kA m);rw[<-aQ]at t f;have⟨w1,av⟩:=zX (w.alloc (.cells #[(0:Int),(0:Int),(0:Int),.slice none 0 0] 46));have⟨R,hR⟩:=zX w.heap.size;have aF:iF w1 R (.int .i64 0) (.int .i64 0) (.int .i64 0) (.slice none 0 0):=⟨by rw[av,hR];exact gn.new w _ _⟩;have aN:gg [] w w1:=by rw[av];exact(zR [] w).alloc _
 have D:gh (w.heap.size<=R/\R<w1.heap.size/\b<R):=gd ⟨by omega,aF.blk.lt,by omega⟩;have⟨bd,ba,bc,be⟩:=gu H t f ad;have⟨bh,bg,a7,ap⟩:=gu av hR aF aN;have⟨aK,HP,a6⟩:=gX K hp aT;clear bm aT aH H aO aE t f aP ad aX hn hm hN aQ av hR aF aN K hp ha r I s z y;go_enter func61,ntmps61;go_wp2_with fail;rw[<-bh.o,<-bg.o];refine(bd.o w1 (aK.o.Z ap.o (by simp))).mono ?_;rintro e L ⟨q,U,J,rfl,O,aY,Q,af⟩;have⟨wA,an⟩:=zX (L.alloc (.cells #[p.d,n,.slice q m m] 117));have⟨X,hX⟩:=zX L.heap.size;have E:gg [] L wA:=by rw[an];exact(zR [] L).alloc _
 have aG:lK wA X (.int .i64 p.d) (.int .i64 n) (.slice q m m):=⟨by rw[an,hX];exact gn.new L _ _⟩;have t:=λw'=>ba.o w';have a4:=aY.Z E (by simp);have aS:X∉[b]:=by have:=Q.size;have:=D.o;simp;omega
 have bb:gh (gg [b] w1 wA):=gd (Q.tq (E.mono (by simp)));have az:gh (∀wz,gg [b] wA wz->pW wz n p.d (ic p) q m U J):=gd (λwz hz=>by
  have aW:∀x∈q::J,x∉[b]:=λx hx hm=>by have:=af x hx;have:=D.o;simp at hm;omega
  exact⟨O.ok,(O.row.Z E (by simp)).Z hz (aW q (by simp)),(O.pl.Y E).Z hz (λx hx=>aW x (by simp[hx]))⟩)
 have f:=bc.o wA a4 (((HP.o.Y ap.o).Z Q (by simpa using λe=>a6.o e.symm)).Y E);have ay:=gd f;obtain⟨j,k,l⟩:=aG.cells;have⟨a8,bj,bi,bk⟩:=gu aG aS an hX;rw[an,hX]at j k l;clear O aY Q af an hX E aG a4 aS f
 go_wp2_with(go_at_call 73;refine gB (t _) ?_)
 rw[<-bi.o,<-bk.o];refine ay.o.mono ?_;rintro e w3 ⟨g3,rfl,ai,aZ,S,bl⟩;clear t j k l;obtain⟨j,k,l⟩:=(a8.o.Z S bj.o).cells;have aV:gz vi w3 (some ⟨g3,0,none⟩) (jc p):=ai.R.cells;have ad:=be.o w3 q U J (az.o w3 S) (some ⟨g3,0,none⟩) N aV;have⟨aB,ax,bf⟩:=gX ad (bb.o.trans S (λx hx => .inl hx)) aZ;clear ai aZ S bl aV ad;go_wp2_with fail;refine aB.o.mono ?_;rintro e M ⟨u,P,ys,hs,rfl,ah,Y,ag⟩;clear j k l;have⟨wX,ao⟩:=zX (M.alloc (.cells #[p.W,p.H,p.d,.slice u n P] 46));have⟨Z,hZ⟩:=zX M.heap.size;have T:gg [] M wX:=by rw[ao];exact(zR [] M).alloc _
 have aU:iF wX Z (.int .i64 p.W) (.int .i64 p.H) (.int .i64 p.d) (.slice u n P):=⟨by rw[ao,hZ];exact gn.new M _ _⟩;have a:iF wX R (.int .i64 0) (.int .i64 0) (.int .i64 0) (.slice none 0 0):=((a7.o.Z ax.o (by have:=D.o;simp;omega)).Y Y).Y T;obtain⟨j,k,l,W⟩:=aU.cells;have⟨a9,aL,aM,aA⟩:=gu a ao hZ (ah.Y T);have aI:=gd (Y.tq T);have aJ:gh (∀x∈u::hs,w1.heap.size<=x):=gd (λx hx=>Nat.le_trans ax.o.size (ag x hx));rw[ao,hZ]at j k l W;clear ao hZ T aU a ah Y ag;go_wp2_with fail;rw[<-aL.o,<-aM.o];rw[<-aL.o,<-aM.o]at j k l W;have a5:=GG b;refine i9 4 (by kernel_rfl) (by kernel_rfl) ?_;simp only[take_succ_cons,take_zero,drop_succ_cons,drop_zero]
 repeat(go_big_quiet_step ((go_at_call 89;exact Calls.quiet_of_same ((a5 _).mono (λ_ _ h=>⟨h.1,h.2.symm⟩)))))
 refine wpQuiet_nil ?_;intro _ bn;obtain⟨nq,rfl⟩:=bn;have a:=a9.o.Y ((zR [] wX).drewN nq);obtain⟨z0,z1,z2,z3⟩:=a.cells;have f0:=a.blk.U 0;have f1:=a.blk.U 1;have f2:=a.blk.U 2;have f3:=a.blk.U 3;have aw:=gd a;clear a a5 j k l W;go_wp2_with fail;refine qF aw.o ?_;intro V hV hY;obtain⟨x0,x1,x2,x3⟩:=hV.cells;refine bodyPost_ret (v:=.tuple #[.agg #[.int .i64 p.W,.int .i64 p.H,.int .i64 p.d,.slice u n P],(0:Int)]) (by simp[results,results61,go_sem,x0,x1,x2,x3]) rfl ?_;have aD:gg [R] wX V:=((zR [R] wX).drewN nq).tq hY;have aR:∀x∈u::hs,x≠R:=λx hx e=>by have:=aJ.o x hx;have:=D.o;omega
 refine⟨u,P,ys,hs,rfl,aA.o.Z aD (by simpa using aR u (by simp)) (λx hx=>by simpa using aR x (by simp[hx])),?_,?_,λx hx=>by have:=aJ.o x hx;have:=ap.o.size;omega⟩
 .refine((bf.o.Z aI.o (by simp))).Z aD (λx hx hm => ?_)
  simp at hm;subst hm
  have:=aK.o.lt _ hx
  have:=D.o
  omega
 .refine(((ap.o.mono (F':=[b]) (by simp)).tq ax.o).tq (aI.o.mono (by simp))).trans aD (λx hx => .inr ?_)
  simp at hx
  have:=D.o
  omega
def xE (way:Option Nat) (colours:Nat) (w:World) (b:Nat) (F bs:List Nat) (p:gA) (e:Ending) (w':World):Prop :=
 if (ic p).length<=colours then
  (if qK way p=true then e=.returned (.int .i64 0)/\∃F',hJ w' b F' (bs++(gx 1 1++(lP p.P.length p.d (ic p)++lw way (jc p) p.W p.H (kA (ic p).length))))/\gE F F' w w'
   else e=.returned (.int .i64 6)/\∃F',gE F F' w w')
 else e=.returned (.int .i64 7)/\∃F',gE F F' w w'
theorem M2{way:Option Nat}(z:l9 way){colours:Nat}{p:gA}(q:Nat)(h:ip w p g o B c G)(c0:1<=colours)(c1:colours<=256)(b:Nat)(F bs:List Nat)(hw:hJ w b F bs)(hG:∀x∈G,x∉F)(hp:iK w)(V:0∉F)(hbs:bs.length<1000000):Calls prog 43 #[.pointer b,gW p g o q,colours,.int .i64 (lM way)] w (xE way colours w b F bs p):=by
 have v:=h.ok;have R:∀w',gg [] w w'->_:=λw' (hc':gg [] w w')=>PJ q (h.Y hc') colours c0 c1;have u:∀w' (a:Nat) (f:Nat) s r,gg [] w w'->pW w' p.P.length p.d (ic p) a f s r->_:=λw' a f s r (hc':gg [] w w') k=>MY q (h.Y hc') f k.at_;unfold BA at R;have⟨n,hn⟩:=zX p.P.length;have⟨m,hm⟩:=zX ((ic p).length);have⟨N,hN⟩:=zX (p.W*p.H);have y:=uO v;have am:=λ(h9:(ic p).length<=256)=>Cy (uO v h9);have aw:=λ(h9:(ic p).length<=256)=>Eu (p:=p) h9;have bJ:1<=m:=by
  rw[hm]
  have:iJ p 0∈ic p:=(qB p _).2 ⟨0,v.pos,rfl⟩
  exact length_pos_of_mem this
 have P:=ud p;unfold mC gW at *;rw[<-hm]at R u am aw;rw[<-hN]at u P;rw[<-hn]at R u am⊢;have⟨w1,aR⟩:=zX (w.alloc (.cells #[p.W,p.H,p.d,.slice (some ⟨g,o,none⟩) n q] 46));have⟨X,hX⟩:=zX w.heap.size;have a9:iF w1 X (.int .i64 p.W) (.int .i64 p.H) (.int .i64 p.d) (.slice (some ⟨g,o,none⟩) n q):=⟨by rw[aR,hX];exact gn.new w _ _⟩;have bi:gg [] w w1:=by rw[aR];exact(zR [] w).alloc _
 have bj:X∉F:=λhm'=>by have:=hw.lt X hm';omega
 have⟨wi,bb⟩:=zX (lM way);have S:∀(j:World) (A:Option Addr) (ak:Nat) (F' l:List Nat),m<=256->gz vi j A (jc p)->N<=ak->hJ j b F' l->ib A (jc p) F'->iK j->0∉F'->l.length<17179869184->Calls prog 72 #[.pointer b,.slice A N ak,p.W,p.H,.int .i64 (kA m),wi] j (rP way j b F' l (jc p) p.W p.H (kA m)):=by
  intro j A ak F' l ba e3 e4 e5 e6 e7 e8 e9
  have:=Df z ak (W:=p.W) (H:=p.H) (by rw[P,hN]) (aw ba) e3 (by rw[P];exact e4) v.w0 v.w1 v.h0 v.h1 (rS ba).1 (rS ba).2.1 b F' l e5 e6 e7 e8 e9
  rw[P,<-bb]at this;exact this
 have ag:gh (∀e w',(if m<=colours then(if nO way (jc p) p.W p.H (kA m)=true then e=.returned (.int .i64 0)/\∃F',hJ w' b F' (bs++(gx 1 1++(lP n p.d (ic p)++lw way (jc p) p.W p.H (kA m))))/\gE F F' w w'
   else e=.returned (.int .i64 6)/\∃F',gE F F' w w')else e=.returned (.int .i64 7)/\∃F',gE F F' w w')->xE way colours w b F bs p e w'):=gd (λe w' h=>by unfold xE qK;rw[<-hm,<-hn];exact h)
 rw[<-bb];have⟨bB,HX,bd,an⟩:=gu aR hX a9 bi;have⟨bx,bw,bz,HW⟩:=gu R u S hw;have⟨HP,bc,bF,a4⟩:=gu hp V bj am;have bg:=gd hw.lt;have L:∀(j:World) (a f:Nat) (s:List Value) (r F' l:List Nat),pW j n p.d (ic p) a f s r->hJ j b F' l->(∀x∈a::r,x∉F')->l.length<17179869184->Calls prog 71 #[.pointer b,.agg #[.int .i64 p.d,.int .i64 n,.slice a m f]] j (vT j b F' l (lP n p.d (ic p))):=by
  intro j a f s r F' l e1 e2 e3 e4
  have:=MU f e1.at_ b F' l e2 e3 e4
  unfold mC at this;rw[<-hm]at this;exact this
 have bA:=gd L;obtain⟨Z,a1,a2,a3⟩:=a9.cells;clear aR hX a9 bi R u S hw hp V bj am P L v h aw y hn hm hN bb hG z;go_enter func43,ntmps43;go_wp2_with fail;rw[<-bB.o,<-HX.o];refine(bx.o w1 an.o).mono ?_;rintro e Y ⟨M,aG⟩;rcases aG with⟨bn,a,f,s,r,rfl,k,aJ⟩|⟨bm,rfl⟩
 .have⟨w3,aA⟩:=zX (Y.alloc (.cells #[p.d,n,.slice a m f] 117))
  have⟨X9,aE⟩:=zX Y.heap.size;have E:gg [] Y w3:=by rw[aA];exact(zR [] Y).alloc _
  have aP:lK w3 X9 (.int .i64 p.d) (.int .i64 n) (.slice a m f):=⟨by rw[aA,aE];exact gn.new Y _ _⟩;have al:gg [] w1 w3:=M.tq E;obtain⟨Z,a1,a2,a3⟩:=(bd.o.Y al).cells;obtain⟨k0,k1,k2⟩:=aP.cells;have u:=bw.o w3 a f s r (an.o.tq al) (by
   have:=an.o
   exact⟨k.ok,k.row.Z E (by simp),k.pl.Y E⟩)
  have⟨aZ,bf⟩:=gy (show pW w3 n p.d (ic p) a f s r from⟨k.ok,k.row.Z E (by simp),k.pl.Y E⟩) bn;have ai:m<=256:=by omega
  have aj:gh (∀x∈a::r,w.heap.size<=x/\x<w3.heap.size):=gd (λx hx=>⟨by have:=aJ x hx;have:=an.o.size;omega,by
   have:=E.size
   rcases zJ.1 hx with rfl|h1
   .have:=k.row.lt;omega
   .have:=k.pl.lt x h1;omega⟩)
  have⟨be,aS⟩:=gy aP al;have aC:gh (w.heap.size<=X9/\X9<w3.heap.size):=gd ⟨by rw[aE];have:=M.size;have:=an.o.size;omega,aP.blk.lt⟩;have⟨bC,bE,aX⟩:=gX aA aE u;rw[aA,aE]at k0 k1 k2;rw[aA]at Z a1 a2 a3;clear M k aJ aA aE E aP al u bn;go_wp2_with fail;rw[<-bC.o,<-bE.o];refine aX.o.mono ?_;rintro e w4 ⟨J,rfl,ay,a7,bH⟩;have a8:gg [] w w4:=(an.o.tq aS.o).tq a7;have aO:=HW.o.Y a8;have bo:=iG w4 b F bs 1 1 aO (by decide) (by decide) (by omega);have⟨aT,af,a6⟩:=gX a8 a7 ay;have aW:gh (w.heap.size<=J/\J<w4.heap.size):=gd ⟨by have:=(an.o.tq aS.o).size;omega,ay.lt⟩;clear ay a7 bH a8 aO Z a1 a2 a3 k0 k1 k2;go_wp2_with fail;refine bo.mono ?_;rintro e w5 ⟨rfl,F5,bp,O⟩;have ax:∀Fk wr,gE F Fk w4 wr->∀x,w.heap.size<=x->x<w4.heap.size->x∉Fk:=λFk wr hg x h1 h2 hm=>by
   rcases hg.new x hm with h3|h3
   .have:=bg.o x h3;omega
   .omega
  have Q:∀x,w.heap.size<=x->x∉F:=λx h1 hm=>by have:=bg.o x hm;omega
  have⟨aY,aB⟩:=gy ax Q;have L:=bA.o w5 a f s r F5 _ (by
    have U:=aZ.o;have hc:=(gg.mono (F':=F) af.o (by simp)).trans O.Z (λx hx => .inl hx);exact⟨U.ok,U.row.Z hc (Q _ (aj.o a (by simp)).1),U.pl.Z hc (λx hx=>Q x (aj.o x (by simp[hx])).1)⟩) bp
   (λx hx=>ax F5 w5 O x (aj.o x hx).1 (by have:=(aj.o x hx).2;have:=af.o.size;omega)) (by rw[zC,gH];omega)
  unfold vT at L;obtain⟨k0,k1,k2⟩:=((be.o.Y af.o).Z O.Z (Q X9 aC.o.1)).cells;have bu:=gd O;clear bo bp O ax Q;go_wp2_with fail;refine L.mono ?_;rintro e K ⟨rfl,F6,bq,bl⟩;have t:=bu.o.trans bl;have bk:gz vi K (some ⟨J,0,none⟩) (jc p):=by
   have U:=a6.o.Z t.Z (by simpa using aB.o J aW.o.1);exact U.R.cells
  have aF:ib (some (⟨J,0,none⟩:Addr)) (jc p) F6:=λ_ ad e hm=>by injection e with e;subst e;exact aY.o F6 K t J aW.o.1 aW.o.2 hm
  have aN:=(HP.o.Y aT.o).Z t.Z bc.o;have bh:0∉F6:=t.o (by have:=HP.o.lt;have:=aT.o.size;omega) bc.o;have bI:=a4.o ai;have S:=λnq=>bz.o (K.drewN nq) (some ⟨J,0,none⟩) N F6 _ ai (bk.drewN nq) (zQ _) (bq.Y ((zR [] K).drewN nq)) aF (aN.Y ((zR [] K).drewN nq)) bh (by
   simp only[zC,gH];omega)
  obtain⟨k0,k1,k2⟩:=((be.o.Y af.o).Z t.Z (aB.o X9 aC.o.1)).cells;obtain⟨Z,a1,a2,a3⟩:=(((bd.o.Y aS.o).Y af.o).Z t.Z bF.o).cells;have⟨a5,aU⟩:=gy S t;have bG:=λw=>FF m w bJ ai;clear L bq bl t bk aF aN bh bI S;go_wp2_with fail;refine i9 11 (by kernel_rfl) (by kernel_rfl) ?_;simp only[take_succ_cons,take_zero,drop_succ_cons,drop_zero]
  repeat(go_big_quiet_step ((go_at_call 73;exact Calls.quiet_of_same ((bG _).mono (λ_ _ h=>⟨h.1,h.2.symm⟩)))))
  refine wpQuiet_nil ?_;intro _ bK;obtain⟨nq,rfl⟩:=bK;go_wp2_with fail;refine(a5.o nq).mono ?_;rintro e w7 T;unfold rP at T;have aQ:=λD (I:gE F6 D (K.drewN nq) w7)=>gE.pre aT.o (aU.o.trans (gE.pre ((zR [] K).drewN nq) I))
  cases y:nO way (jc p) p.W p.H (kA m)with
  | true =>
   rw[if_pos y]at T;obtain⟨rfl,D,br,I⟩:=T;have⟨aV,bD,ar⟩:=gX (aQ D I) br y;clear I br aQ y;go_wp2_with fail;go_ret;refine ag.o _ _ ?_;rw[if_pos bf.o,if_pos ar.o];exact⟨rfl,D,by simpa only[zH]using bD.o,aV.o⟩
  | false =>
   rw[if_neg (by rw[y];simp)]at T;obtain⟨rfl,D,I⟩:=T;have⟨aV,ar⟩:=gy (aQ D I) y;clear I aQ y;go_wp2_with fail;go_ret;refine ag.o _ _ ?_;rw[if_pos bf.o,if_neg (by rw[ar.o];simp)];exact⟨rfl,D,aV.o⟩
 .have⟨bv,HE⟩:=gy bm (an.o.tq M)
  clear bm M;unfold x8;go_wp2_with fail;go_ret;refine ag.o _ _ ?_;rw[if_neg (by have:=bv.o;omega)];exact⟨rfl,F,gE.pre (HE.o.tq ((zR [] _).alloc _)) (gE.refl _ _)⟩
end Go.Proofs.YtifdlkoepaepiaaGreatDoor
