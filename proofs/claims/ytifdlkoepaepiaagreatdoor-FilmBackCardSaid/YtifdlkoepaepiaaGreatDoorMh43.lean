/- Lemmas. -/
import Derived.Test.YtifdlkoepaepiaaGreatDoorMh40
import Derived.Test.YtifdlkoepaepiaaGreatDoorMh42
import Derived.Test.YtifdlkoepaepiaaGreatDoorMh41
set_option linter.all false
set_option maxHeartbeats 4000000
set_option maxRecDepth 100000
namespace Go.Proofs.YtifdlkoepaepiaaGreatDoor
open _root_.Go.Proofs.Tryz List Nat Go.RowKit
open Go.RowKit Go.Maps
variable {C:List (List Int)}{F ds:List Nat}{b b1 b2 b3 cap colours d i j k pos:Nat}{c:Nat->Nat}{B:Nat->Option Addr}
theorem vU{c:List Int}(a:i<c.length):iq (c.take (i+1)) d=iq (c.take i) d++gx (c.getD i 0).toNat d:=by
 have e:c.getD i 0=c[i]:=by rw[zD,zF a];rfl
 rw[take_succ_eq_append_getElem a,e];unfold iq;rw[flatMap_append];simp
def vT(w:World)(b:Nat)(F bs ts:List Nat)(e:Ending)(w':World):Prop:=e=.returned (.int .i64 0)/\∃F',hJ w' b F' (bs++ts)/\gE F F' w w'
theorem MU{w:World}{n:Nat}{g o:Nat}{G:List Nat}(cap:Nat)(h:l8 w n d C g o B c G)(b:Nat)(F bs:List Nat)(hw:hJ w b F bs)(Z:∀x∈G,x∉F)(hbs:bs.length<17179869184):Calls prog 71 #[.pointer (some ⟨b,0,none⟩),mC n d C.length g o cap] w (vT w b F bs (lP n d C)):=by
 have r:=h.ok;have U:∀w',gg [] w w'->_:=λw' (hc':gg [] w w')=>xK cap (h.Y hc');have bu:=r.n0;have bi:=r.n1;have bn:=r.d0;have N:=r.d1;have ad:=λk (p:k<=C.length)=>yQ (d:=d) r.len k p;have W:∀k i,k<C.length->i<n->∃v:Nat,(C.getD k []).getD i 0=(v:Int)/\v<2^d:=λk i p s=>by
  obtain⟨s0,s1⟩:=mK (r.smp _ (jQ p)) i;refine⟨((C.getD k []).getD i 0).toNat,(Int.toNat_of_nonneg s0).symm,?_⟩;have e2:((2^d:Nat):Int)=(2:Int)^d:=by simp
  omega
 have K:∀k,k<C.length->∃b q,∀wz,gg F w wz->wz.cell? ⟨g,o+k,none⟩=some (.slice (some ⟨b,q,none⟩) n (c k))/\∀i,i<n->wz.cell? ⟨b,q+i,none⟩=some (.int .i64 ((C.getD k []).getD i 0)):=λk p=>by
  obtain⟨I,q,e,hb,aE⟩:=h.at_ p;refine⟨I,q,λwz hz=>?_⟩;have aR:=(h.Z hz Z).X k p;rw[e]at aR;exact⟨aR,λi s=>(World.cell?_of_block (w:=w) (hz.block I (h.lt I hb) (Z I hb))).trans (aE i s)⟩
 have T:∀k,k<C.length->(C.getD k []).length=n:=λk p=>h.len p;have⟨m,hm⟩:=zX C.length;have bq:1<=m:=by rw[hm];exact r.c0
 have br:m<=256:=by rw[hm];exact r.c1
 have ac:lP n d C=gx (d-1) 4++(gx (n-1) 2++(gx (m-1) 8++lR d C m)):=by rw[hm];rfl
 unfold vT mC at *;rw[ac];rw[<-hm]at U ad W K T⊢;obtain⟨a,bg⟩:∃a,d=a+1:=⟨d-1,by omega⟩;obtain⟨l,aO⟩:∃l,n=l+1:=⟨n-1,by omega⟩;obtain⟨f,aM⟩:∃f,m=f+1:=⟨m-1,by omega⟩;have e1:(d:Int)-1=(a:Int):=by omega
 have e2:(n:Int)-1=(l:Int):=by omega
 have e3:(m:Int)-1=(f:Int):=by omega
 have u1:IntKind.u64.wrap (a:Int)=(a:Int):=IntWalk.u64_in _ (by omega);have u2:IntKind.u64.wrap (l:Int)=(l:Int):=IntWalk.u64_in _ (by omega);have u3:IntKind.u64.wrap (f:Int)=(f:Int):=IntWalk.u64_in _ (by omega);rw[show d-1=a by omega,show n-1=l by omega,show m-1=f by omega];have⟨w1,ao⟩:=zX (w.alloc (.cells #[d,n,.slice (some ⟨g,o,none⟩) m cap] 117));have⟨X,hX⟩:=zX w.heap.size;have L:lK w1 X (.int .i64 d) (.int .i64 n) (.slice (some ⟨g,o,none⟩) m cap):=⟨RD ao hX⟩;have aL:=H4 ao;have aP:X∉F:=λhm'=>by have:=hw.lt X hm';omega
 have⟨bd,HX,ak,ap⟩:=gu ao hX L aL;have⟨ax,au,az,a8⟩:=gu U ad W K;have⟨aw,HW,an⟩:=Q9 T hw aP;have bh:a<16:=by omega
 have bm:l<4:=by omega
 have aN:f<256:=by omega
 have⟨bl,bk,bc⟩:=Q9 aO aM hm;obtain⟨z,D,E⟩:=L.cells;clear ao hX L aL U ad W K T hw aP r h Z ac hm bg aO aM;go_enter func71,ntmps71;go_wp2_with fail;rw[<-bd.o,<-HX.o];refine(ax.o w1 ap.o).mono ?_;rintro e w2 ⟨rfl,H⟩;obtain⟨z,D,E⟩:=(ak.o.Y H).cells;have aX:=iG w2 b F bs a 4 ((HW.o.Y ap.o).Y H) (by decide) (by omega) (by omega);have⟨aq,aa⟩:=gy (ap.o.tq H) H;clear H;go_wp2_with fail;refine aX.mono ?_;rintro e w3 ⟨rfl,F3,a4,O⟩;have aY:=iG w3 b F3 _ l 2 a4 (by decide) (by omega) (by rw[zC,gH];omega);obtain⟨z,D,E⟩:=((ak.o.Y aa.o).Z O.Z an.o).cells;clear aX;go_wp2_with fail;refine aY.mono ?_;rintro e w4 ⟨rfl,F4,a5,aT⟩;have aZ:=iG w4 b F4 _ f 8 a5 (by decide) (by omega) (by rw[zC,zC,gH,gH];omega);have R:=O.trans aT;obtain⟨z,D,E⟩:=((ak.o.Y aa.o).Z R.Z an.o).cells;clear aY;go_wp2_with fail;refine aZ.mono ?_;rintro e w5 ⟨rfl,F5,a6,aU⟩;have S:=R.trans aU;obtain⟨z,D,E⟩:=((ak.o.Y aa.o).Z S.Z an.o).cells;have be:gh (hJ w5 b F5 (bs++(gx a 4++(gx l 2++(gx f 8++lR d C 0))))):=gd (by
  have e0:lR d C 0=[]:=rfl;rw[e0]
  simpa only[zH,append_nil]using a6)
 have ba:=gd S;clear aZ a4 a5 a6 O aT aU R S;go_wp2_with fail
 go_loopg [6,8,34,38,39,40] m (λj v6 v8 v34 v38 v39 v40 wr=>∃(k:Nat) (y:List Nat),v34=.int .i64 k/\k+j=m/\gh (hJ wr b y (bs++(gx a 4++(gx l 2++(gx f 8++lR d C k)))))/\gh (gE F y w2 wr))
 .exact⟨0,F5,rfl,by omega,be,ba⟩
 obtain⟨k,y,rfl,bp,aK,Y⟩:=hrel;rcases gk with _|j
 .obtain rfl:k=m:=by omega
  have t1:decide ((k:Int)<(k:Int))=false:=by simp
  go_wp2_with fail;go_ret;exact⟨rfl,y,aK.o,gE.pre aq.o Y.o⟩
 .have p:k<m:=by omega
  obtain⟨I,q,M⟩:=a8.o k p;have f1:=(M wr ((aq.o.mono (by simp)).trans Y.o.Z (λx hx=>.inl hx))).1;have a9:=gd M;clear M;have⟨wo,bj⟩:=zX wr;subst bj;have⟨cc,aD⟩:=zX (C.getD k []);have ad:=aw.o k p;rw[<-aD]at ad;have⟨aI,ar⟩:=gy aD ad;clear aD ad;go_wp2_with fail
  go_loopg [8,40] n (λj2 v8 v40 wr=>∃(i:Nat) (u:List Nat),v40=.int .i64 i/\i+j2=n/\gh (hJ wr b u (bs++(gx a 4++(gx l 2++(gx f 8++(lR d C k++iq (cc.take i) d))))))/\gh (gE F u w2 wr))
  .exact⟨0,y,rfl,by omega,gd (by simpa[iq]using aK.o),Y⟩
  obtain⟨i,u,rfl,bo,aJ,J⟩:=hrel;rcases gk with _|j2
  .obtain rfl:i=n:=by omega
   have t2:decide ((i:Int)<(i:Int))=false:=(by simp);go_wp2_with fail
   go_roundg j
   .refine⟨k+1,u,by go_num,by omega,gd ?_,J⟩
    rw[tU (by rw[<-bc.o];exact p),<-aI.o]
    have:=aJ.o
    rw[zT (by rw[ar.o];exact zQ _)]at this;exact this
   .omega
  .have s:i<n:=by omega
   have aS:gg F w wr:=(aq.o.mono (by simp)).trans J.o.Z (λx hx=>.inl hx);have f2:=(a9.o wr aS).2 i s;obtain⟨v,hv,Q⟩:=az.o k i p s;rw[hv]at f2;have a3:v<65536:=Nat.lt_of_lt_of_le Q (by have:=Nat.pow_le_pow_right (n:=2) (by decide) N;exact this);have u4:IntKind.u64.wrap (v:Int)=(v:Int):=IntWalk.u64_in _ (by omega);obtain⟨z,D,E⟩:=((ak.o.Y aa.o).Z J.o.Z an.o).cells;have aQ:=au.o k (by omega);have V:=iG wr b u _ v d aJ.o (by omega) Q (by
    simp only[zC,gH,xf,aQ];have h1:d*n<=16*4:=zL N bi;have h2:d*n*k<=16*4*256:=zL h1 (by omega);have h3:d*(cc.take i).length<=16*4:=zL N (by rw[zI];have:=ar.o;omega);omega)
   have aW:bs++(gx a 4++(gx l 2++(gx f 8++(lR d C k++iq (cc.take i) d))))++gx v d=bs++(gx a 4++(gx l 2++(gx f 8++(lR d C k++iq (cc.take (i+1)) d)))):=by
    rw[vU (by rw[ar.o];exact s),aI.o,hv];simp only[zH,Int.toNat_natCast]
   rw[aW]at V;have ay:=gd V;clear V aW hv aQ aS Q;go_wp2_with fail;refine ay.o.mono ?_;rintro e w7 ⟨rfl,F7,a7,aV⟩;have⟨bf,bb⟩:=gy a7 (J.o.trans aV);clear a7 aV;go_wp2_with fail
   go_roundg j2
   .exact⟨i+1,F7,by go_num,by omega,bf,bb⟩
   .omega
def li(pos d:Nat)(C:List (List Int))(i j:Nat):Nat:=pos+(lR d C i).length+(iq ((C.getD i []).take j) d).length
theorem MV(a:j<(C.getD i []).length):li pos d C i (j+1)=li pos d C i j+d:=by
 unfold li;rw[vU a,zC,gH];omega
theorem Ot{n:Nat}(a:i<C.length)(f:(C.getD i []).length=n):li pos d C i n=li pos d C (i+1) 0:=by
 unfold li;rw[tU a,zC,zT (by omega),take_zero];show _=_+0;omega
theorem LN(f:ig ds pos (lR d C C.length)):∀(k i j:Nat),i+k+1=C.length->j<(C.getD i []).length->ig ds (li pos d C i j) (gx ((C.getD i []).getD j 0).toNat d):=by
 have q:∀(l:List Int) (k j:Nat),j+k=l.length->∃r,iq l d=iq (l.take j) d++r:=λl k=>by
  induction k with
  | zero=>intro j h;exact⟨[],by rw[append_nil,zT (by omega)]⟩
  | succ k ih=>
   intro j h;obtain⟨r,a⟩:=ih (j+1) (by omega);exact⟨_,by rw[a,vU (by omega),zH]⟩
 have p:∀k i,i+k=C.length->∃r,lR d C C.length=lR d C i++r:=λk=>by
  induction k with
  | zero=>intro i m;exact⟨[],by rw[append_nil,show i=C.length by omega]⟩
  | succ k ih=>
   intro i m;obtain⟨r,a⟩:=ih (i+1) (by omega);exact⟨_,by rw[a,tU (by omega),zH]⟩
 intro k i j m h;obtain⟨r,a⟩:=p k (i+1) (by omega);obtain⟨v,s⟩:=q (C.getD i []) ((C.getD i []).length-(j+1)) (j+1) (by omega);rw[a,tU (by omega),s,vU h]at f;simp only[zH]at f;have u:=f.right.right.left;unfold li;exact u
def y9(w:World)(b:Nat)(F ds:List Nat)(pos n d:Nat)(C:List (List Int))(e:Ending)(w':World):Prop:=
 ∃(gL:Nat) (xs:List Value) (gs:List Nat),e=.returned (.tuple #[mC n d C.length gL 0 C.length,(0:Int)])/\pW w' n d C gL C.length xs gs/\gM w' b F ds pos/\gg [b] w w'/\∀x∈gL::gs,w.heap.size<=x
theorem MT{w:World}{n:Nat}(a:uS n d C)(hr:gM w b F ds pos)(ha:ig ds pos (lP n d C)):Calls prog 88 #[.pointer b] w (y9 w b F ds (pos+(lP n d C).length) n d C):=by
 unfold y9 mC;have cn:=hr.lt b hr.mem;have cs:=a.d0;have cl:=a.d1;have cw:=a.n0;have cx:=a.n1;have ci:=a.c0;have cj:=a.c1;have U:=λi (f:i<C.length)=>a.len _ (jQ f);have bB:=λi (f:i<C.length)=>a.smp _ (jQ f);obtain⟨z,ce⟩:∃z,d=z+1:=⟨d-1,by omega⟩;obtain⟨I,cf⟩:∃I,n=I+1:=⟨n-1,by omega⟩;obtain⟨H,bu⟩:∃H,C.length=H+1:=⟨C.length-1,by omega⟩;have a8:lP n d C=gx z 4++(gx I 2++(gx H 8++lR d C C.length)):=by
  unfold lP;rw[show d-1=z by omega,show n-1=I by omega,show C.length-1=H by omega]
 have ax:pos+(lP n d C).length=li (pos+4+2+8) d C C.length 0:=by
  rw[a8];unfold li;simp only[zC,gH,take_zero];show _=_+0;omega
 rw[ax];rw[a8]at ha;have bw:=ha.left;have aL:=ha.right;rw[gH]at aL;have bx:=aL.left;have af:=aL.right;rw[gH]at af;have bz:=af.left;have aM:=af.right;rw[gH]at aM;have bD:=λw1 (h:gM w1 b F ds pos)=>iU w1 b F ds pos 4 z h (by omega) (by omega) bw;have W:=λw1 (h:gM w1 b F ds (pos+4))=>iU w1 b F ds _ 2 I h (by omega) (by omega) bx;have O:=λw1 (h:gM w1 b F ds (pos+4+2))=>iU w1 b F ds _ 8 H h (by omega) (by omega) bz;have⟨P0,a4⟩:=zX (pos+4+2+8);rw[<-a4]at aM⊢;have aE:∀i j,i<C.length->∃v:Nat,(C.getD i []).getD j 0=(v:Int)/\v<2^d:=λk i q=>by
  obtain⟨s0,s1⟩:=mK (bB k q) i;refine⟨((C.getD k []).getD i 0).toNat,(Int.toNat_of_nonneg s0).symm,?_⟩;have e2:((2^d:Nat):Int)=(2:Int)^d:=by simp
  omega
 have L:∀i j,i<C.length->j<n->∃v:Nat,(C.getD i []).getD j 0=(v:Int)/\v<65536/\∀w1,gM w1 b F ds (li P0 d C i j)->Calls prog 59 #[.pointer b,d] w1 λe w'=>e=.returned (.int .u64 v)/\gM w' b F ds (li P0 d C i (j+1))/\gg [b] w1 w':=λi j f hj=>by
  obtain⟨v,Y,bO⟩:=aE i j f;have bG:j<(C.getD i []).length:=by rw[U i f];exact hj
  refine⟨v,Y,Nat.lt_of_lt_of_le bO (Nat.pow_le_pow_right (n:=2) (by decide) cl),λw1 h=>?_⟩;have y:=LN aM (C.length-(i+1)) i j (by omega) bG;rw[Y,Int.toNat_natCast]at y;have p:=iU w1 b F ds _ d v h (by omega) bO y;rw[MV bG];exact p
 have ad:∀i,i<C.length->li P0 d C i n=li P0 d C (i+1) 0:=λi f=>Ot f (U i f);have bI:li P0 d C 0 0=P0:=by
  unfold li lR;simp[iq]
 have⟨m,hm⟩:=zX C.length;rw[<-hm]at ci cj U bu L ad⊢;have cv:=kg (P:=prog) rj rfl .i64 .i64 m (by omega) (by omega);have co:=kg (P:=prog) iO rfl .i64 .i64 n (by omega) (by omega);have cg:IntKind.i64.wrap (z:Int)=(z:Int):=IntWalk.i64_in _ (by omega);have ch:IntKind.i64.wrap (I:Int)=(I:Int):=IntWalk.i64_in _ (by omega);have cq:IntKind.i64.wrap (H:Int)=(H:Int):=IntWalk.i64_in _ (by omega);have e1:(z:Int)+1=(d:Int):=by omega
 have e2:(I:Int)+1=(n:Int):=by omega
 have e3:(H:Int)+1=(m:Int):=by omega
 have⟨w1,aP⟩:=zX (w.alloc (.cells #[(0:Int),(0:Int),.slice none 0 0] 117));have⟨R,hR⟩:=zX w.heap.size;have aN:lK w1 R (.int .i64 0) (.int .i64 0) (.slice none 0 0):=⟨RD aP hR⟩;have bs:=H4 aP;have Z:gh (w.heap.size<=R/\R<w1.heap.size/\b<R):=gd ⟨by omega,aN.blk.lt,by omega⟩;have⟨b0,bZ,ar,aU⟩:=gu bI a4 ad L;have⟨ae,ao,bk,bS⟩:=gu U hm a bD;have⟨bT,bU,b6,b3⟩:=gu W O aP hR;have⟨bP,aR,bl⟩:=Q9 aN bs hr;clear cn U bB a8 ax ha bw aL bx af bz aM bD W O a4 aE L ad bI hm a aP hR aN bs hr ce cf bu;go_enter func88,ntmps88;go_wp2_with fail;rw[<-b6.o,<-b3.o];refine(bS.o w1 (bl.o.Z aR.o (by simp))).mono ?_;rintro e w2 ⟨rfl,bJ,bo⟩;have aS:=gd bo;have W:=bT.o w2 bJ;clear bJ bo;go_wp2_with fail;refine W.mono ?_;rintro e w3 ⟨rfl,bK,bp⟩;have aT:=gd (aS.o.trans bp (λx hx=>.inl hx));have O:=bU.o w3 bK;clear W bK bp;go_wp2_with fail;refine O.mono ?_;rintro e r ⟨rfl,M,bq⟩;have an:=gd (aT.o.trans bq (λx hx=>.inl hx));rw[<-bZ.o,<-b0.o]at M;have⟨wA,aQ⟩:=zX (r.alloc (.cells (Array.replicate m (Value.slice none 0 0)) 22));have⟨gC,a6⟩:=zX r.heap.size;have S:j1 r [b] m gC wA [] [] []:=by
  have:=j1.start (w0:=r) (E:=[b]) (n:=m) (by omega) (λx hx=>by simp at hx;subst hx;exact M.lt _ M.mem)
  rw[toArray_replicate]at this;rw[a6,aQ];exact this
 have b5:=gd S;have b2:gh (gM wA b F ds (li P0 d C 0 0)):=gd (by rw[aQ];exact M.Z ((zR [] r).alloc _) (by simp));have⟨b7,bW,bg⟩:=Q9 aQ a6 M.lt;clear O M bq aQ a6 S cg ch e1 e2;go_wp2_with fail;rw[<-b7.o,<-bW.o]
 go_loopg [7,8,26] m (λj v7 v8 v26 wr=>∃(i:Nat) (s:List Value) (gs:List Nat),v26=.int .i64 i/\i+j=m/\gh (j1 r [b] m gC wr (C.take i) s gs)/\gh (gM wr b F ds (li P0 d C i 0)))
 .exact⟨0,[],[],rfl,by omega,b5,b2⟩
 obtain⟨i,s,gs,rfl,ct,D,aX⟩:=hrel;rcases gk with _|j
 .obtain rfl:i=m:=by omega
  have t1:decide ((i:Int)<(i:Int))=false:=by simp
  have ay:=iS wr b F ds _ aX.o;have N:=D.o;rw[zT (by rw[<-ao.o];exact zQ _)]at N;have aj:=N.row;rw[<-ao.o,Nat.sub_self,replicate_zero,append_nil]at aj;have ai:pW wr n d C gC i s gs:=⟨bk.o,by rw[<-ao.o];exact aj,N.pl⟩;have ag:=λwz (hz:gg [] wr wz)=>xK i (ai.at_.Y hz);unfold mC at ag;rw[<-ao.o]at ag;have⟨aV,aq⟩:=gy ag ai;have be:gh (gg [b] w1 wr):=gd (an.o.trans N.Z (λx hx=>.inl hx));have ap:gh (∀x∈gC::gs,w1.heap.size<=x):=gd (λx hx=>by have:=N.new x hx;have:=an.o.size;omega);have⟨wX,aH⟩:=zX (wr.alloc (.cells #[d,n,.slice gC i i] 117));have⟨X,hX⟩:=zX wr.heap.size;have br:=H4 aH;have a5:lK wX X (.int .i64 d) (.int .i64 n) (.slice gC i i):=⟨RD aH hX⟩;obtain⟨a0,a1,a2⟩:=a5.cells;have⟨bR,bf,cb,cd⟩:=gu a5 br aH hX;rw[aH,hX]at a0 a1 a2;clear N aj ai ag aH hX br a5
  go_wp2_with(go_at_call 60;refine gB ay ?_)
  rw[<-cb.o,<-cd.o];refine(aV.o wX bf.o).mono ?_;rintro e w5 ⟨rfl,aZ⟩;clear ay a0 a1 a2;have bd:=gd (bf.o.tq aZ);obtain⟨a0,a1,a2⟩:=(bR.o.Y aZ).cells;have ak:lK w5 R (.int .i64 0) (.int .i64 0) (.slice none 0 0):=((bP.o.Z be.o (by have:=Z.o;simp;omega)).Y bd.o);obtain⟨z0,z1,z2⟩:=ak.cells;have⟨f0,f1,f2⟩:=RK ak.blk 0 1 2;have bQ:=gd ak;clear ak aZ;go_wp2_with fail;refine Bt bQ.o ?_;intro V hV hY;obtain⟨x0,x1,x2⟩:=hV.cells;refine bodyPost_ret (v:=.tuple #[.agg #[.int .i64 d,.int .i64 n,.slice gC i i],(0:Int)]) (by simp[results,results88,go_sem,x0,x1,x2]) rfl ?_;have aK:gg [R] wr V:=(bd.o.mono (F':=[R]) (by simp)).trans hY (λx hx=>.inl hx);have bv:∀x∈gC::gs,x≠R:=λx hx e=>by have:=ap.o x hx;have:=Z.o;omega
  refine⟨gC,s,gs,rfl,⟨bk.o,aq.o.row.Z aK (by simpa using bv gC (by simp)),aq.o.pl.Z aK (λx hx=>by simpa using bv x (by simp[hx]))⟩,?_,?_,λx hx=>by have:=ap.o x hx;have:=aR.o.size;omega⟩
  .refine aX.o.Z aK (λx hx hm=>?_)
   simp at hm;subst hm
   have:=bl.o.lt _ hx
   have:=Z.o
   omega
  .refine((aR.o.mono (F':=[b]) (by simp)).tq be.o).trans aK (λx hx=>.inr ?_)
   simp at hx
   have:=Z.o
   omega
 .have f:i<m:=by omega
  have bF:i<C.length:=by rw[<-ao.o];exact f
  have u:(C.take i).length=i:=by rw[zI];omega
  obtain⟨_,-,-,-,bA,bC⟩:=D.o.row.open_;have bb:s.length=i:=by rw[D.o.pl.lx,u]
  have y1:wr.cell? ⟨gC,i,none⟩=some (.slice none 0 0):=by
   rw[bA i (by rw[zC,zV,bb,u];omega),zS (by omega),getElem?_replicate,if_pos (by omega)]
  have bE:=D.o.row.lt;have f1:=bC i;have⟨wB,am⟩:=zX (wr.alloc (.cells (Array.replicate n (Value.int .i64 0)) 3));have⟨g5,aO⟩:=zX wr.heap.size;have T:=H4 am;have bN:gv wB 3 (.slice g5 n n) g5 ((ia [] n).map vi):=by
   have:=gv.zeros wr n (by omega)
   rw[toArray_replicate]at this;rw[am,aO];exact this
  have Q:=D.o.next (by rw[u];exact f) T (by omega) bN;rw[u]at Q;have y2:wB.cell? ⟨gC,i,none⟩=some (.slice none 0 0):=(World.cell?_of_block (w:=wr) (T.block gC bE (by simp))).trans y1;have f2:wB.frozen? ⟨gC,i,none⟩=false:=by
   obtain⟨_,_,_,_,_,aJ⟩:=(D.o.row.Z T (by simp)).open_;exact aJ i
  have⟨wD,aG⟩:=zX (wB.setCell ⟨gC,i,none⟩ (.slice g5 n n));rw[<-aG]at Q;have bc:(s++[Value.slice g5 n n])[i]?=some (.slice g5 n n):=by rw[<-bb];simp
  have aB:gs.length=i:=by rw[D.o.pl.lg,u]
  have a7:(gs++[g5])[i]?=some g5:=by rw[<-aB];simp
  have ac:∀wz l,j1 r [b] m gC wz (C.take i++[l]) (s++[Value.slice g5 n n]) (gs++[g5])->wz.cell? ⟨gC,i,none⟩=some (.slice g5 n n)/\gv wz 3 (.slice g5 n n) g5 (l.map vi):=λwz l h=>by
   obtain⟨g,c,J,y,p,K,_⟩:=h.last (by rw[u];exact f);rw[u]at J p K;rw[bc]at p;rw[a7]at K;injection K with K;subst K;injection p with p;rw[<-p]at J y;exact⟨J,y⟩
  obtain⟨y4,-⟩:=ac wD _ Q;have⟨cc,bh,ab⟩:=Q9 bc a7 ac;have bM:gM wD b F ds (li P0 d C i 0):=(aX.o.Z T (by simp)).Z (show gg [gC] wB wD from by rw[aG];exact(zR [gC] wB).zs i _) (λx hx hm=>by
   simp at hm;subst hm;have J:=bg.o _ hx;have y:=D.o.new _ (mem_cons_self);omega)
  have bi:gh (0+i=i/\i<C.length):=gd ⟨by omega,bF⟩;have⟨b9,bV,ca⟩:=Q9 am aO aG;have bj:gh (j1 r [b] m gC wD (C.take i++[ia ((C.getD i []).take 0) n]) (s++[Value.slice g5 n n]) (gs++[g5])):=gd (by rw[take_zero];exact Q);have⟨aW,bn⟩:=gy bM u;rw[am]at y2 f2;rw[aG,am,aO]at y4;clear bA bC bb bE T bN Q am aO aG bc aB a7 ac bM u bF;have⟨wo,cp⟩:=zX wr;subst cp;go_wp2_with fail;rw[<-bV.o,<-b9.o,<-ca.o];clear y1 y2 y4 f1 f2
  go_loopg [8,39] n (λj2 v8 v39 wr2=>∃k:Nat,v39=.int .i64 k/\k+j2=n/\gh (j1 r [b] m gC wr2 (C.take i++[ia ((C.getD i []).take k) n]) (s++[Value.slice g5 n n]) (gs++[g5]))/\gh (gM wr2 b F ds (li P0 d C i k)))
  .exact⟨0,rfl,by omega,bj,aW⟩
  obtain⟨k,rfl,cu,HK,bm⟩:=hrel;rcases gk with _|j2
  .obtain rfl:k=n:=by omega
   have t2:decide ((k:Int)<(k:Int))=false:=(by simp);have q:=HK.o;have e5:C.take i++[ia ((C.getD i []).take k) k]=C.take (i+1):=by
    rw[zT (l:=C.getD i []) (by rw[ae.o i f];exact zQ _),q7 (ae.o i f),take_succ_eq_append_getElem bi.o.2,zD,zF bi.o.2];rfl
   rw[e5]at q;have a9:=bm.o;rw[ar.o i f]at a9;have⟨bY,aY⟩:=gy q a9;clear q e5 a9;go_wp2_with fail
   go_roundg j
   .exact⟨i+1,_,_,by go_num,by omega,bY,aY⟩
   .omega
  .have q:k<n:=by omega
   obtain⟨y5,aD⟩:=ab.o wr _ HK.o;obtain⟨v,Y,cy,L⟩:=aU.o i k f q;have cz:IntKind.i64.wrap (v:Int)=(v:Int):=IntWalk.i64_in _ (by omega);have bH:((C.getD i []).take k).length=k:=(by rw[zI,ae.o i f];omega);have S:∀wz,gg [b] wr wz->j1 r [b] m gC (wz.setCell ⟨g5,k,none⟩ (.int .i64 v)) (C.take i++[ia ((C.getD i []).take (k+1)) n]) (s++[Value.slice g5 n n]) (gs++[g5])/\(∃x,wz.cell? ⟨g5,k,none⟩=some (.int .i64 x))/\wz.frozen? ⟨g5,k,none⟩=false/\wz.cell? ⟨gC,i,none⟩=some (.slice g5 n n):=λwz hz=>by
    have J:=HK.o.turn hz;obtain⟨y,p⟩:=ab.o wz _ J;have K:=J.fill (by rw[bn.o];exact cc.o) (by rw[bn.o];exact bh.o) p (j:=k) (by rw[nM (by omega)];exact q) (v:Int);have e6:(ia ((C.getD i []).take k) n).set k (v:Int)=ia ((C.getD i []).take (k+1)) n:=by
     have h5:=sX (done:=(C.getD i []).take k) (n:=n) (by omega) (v:Int);rw[bH]at h5;have h7:k<(C.getD i []).length:=(by rw[ae.o i f];exact q);rw[h5,take_succ_eq_append_getElem h7,<-Y,zD (l:=C.getD i []),zF h7];rfl
    rw[e6]at K;obtain⟨_,_,_,_,h8,h9⟩:=p.open_;refine⟨K,?_,h9 k,y⟩;have aJ:k<(ia ((C.getD i []).take k) n).length:=(by rw[nM (by omega)];exact q);refine⟨(ia ((C.getD i []).take k) n)[k],?_⟩;rw[h8 k (by rw[zE];exact aJ),zW,zF aJ];rfl
   have⟨au,bX⟩:=gy S L;have cr:(0:Int)<=(i:Int):=(by omega);have aN:(i:Int)<(m:Int):=(by omega);clear Y L bH aD S;go_wp2_with fail
   go_region_held3 (λw'=>w'.cell? ⟨gC,i,none⟩=some (.slice g5 n n))
    (first|(go_keep;done)|exact(au.o _ (((zR [b] wr).drew).tq a3)).2.2.2|exact(ab.o _ _ ba).1|trivial)
    (first|(go_at_call 59;refine(bX.o _ (bm.o.Y ((zR [] wr).drew))).mono ?_;rintro e w6 ⟨rfl,bL,a3⟩;obtain⟨ba,⟨x6,ck⟩,cm,-⟩:=au.o _ (((zR [b] wr).drew).trans a3 (λx hx=>.inl hx))))
   have b4:=gd ba;have b1:gh (gM (w6.setCell ⟨g5,k,none⟩ (.int .i64 v)) b F ds (li P0 d C i (k+1))):=gd (bL.Z ((zR [g5] w6).zs k _) (λx hx hm=>by
    simp at hm;subst hm;have J:=bg.o _ hx;have y:=bj.o.new _ (mem_cons_of_mem _ (mem_of_getElem? bh.o));omega))
   clear ba bL a3 ck cm y5;go_wp2_with fail
   go_roundg j2
   .exact⟨k+1,by go_num,by omega,b4,b1⟩
   .omega
theorem Mr{way:Option Nat}(u:l9 way){w:World}(O:gM w b F ds pos){p:qc}(H:p.Ok)(L:(ic p).length<=256)(s:qK way p=true)(hp:iK w)(E:0∉F)(ha:ig ds pos (lP p.P.length p.d (ic p)++lw way (jc p) p.W p.H (kA (ic p).length))):Calls prog 61 #[.pointer b,p.W,p.H,p.d,p.P.length] w (sL w b F ds (pos+(lP p.P.length p.d (ic p)).length+(lw way (jc p) p.W p.H (kA (ic p).length)).length) p):=by
 unfold sL;have bm:=O.lt b O.mem;have aT:b≠0:=λe=>E (by rw[<-e];exact O.mem);have aH:=uO H L;have K:=λw1 (h:gM w1 b F ds pos)=>MT aH h ha.left;have⟨P1,aO⟩:=zX (pos+(lP p.P.length p.d (ic p)).length);have aE:=ha.right;rw[<-aO]at aE K⊢;have z:=λw'=>FF (ic p).length w' aH.c0 L;have a:=λw' (h:gM w' b F ds P1) (hp':iK w')=>C2 u h (ud p) (Eu L) H.w0 H.w1 H.h0 H.h1 (rS L).1 (rS L).2.1 hp' E s aE;have⟨P2,aP⟩:=zX (P1+(lw way (jc p) p.W p.H (kA (ic p).length)).length);rw[<-aP]at a⊢;have ad:=λw' r Y M (ho:pW w' p.P.length p.d (ic p) r (ic p).length Y M) A cap (hl:gz vi w' A (jc p))=>Op H (ic p).length ho.at_ (A:=A) cap hl;unfold y9 mC at K;unfold tT at a;unfold lA mC at ad;have aX:gW p=λgP o' cap'=>.agg #[p.W,p.H,p.d,.slice (some ⟨gP,o',none⟩) p.P.length cap']:=rfl;rw[aX]at ad⊢;have⟨n,hn⟩:=zX p.P.length;have⟨m,hm⟩:=zX ((ic p).length);have⟨N,hN⟩:=zX ((jc p).length);rw[<-hm]at K z a ad;rw[<-hN]at a ad;rw[<-hn]at K ad⊢;have⟨PB,aQ⟩:=zX (kA m);rw[<-aQ]at z a;have⟨w1,av⟩:=zX (w.alloc (.cells #[(0:Int),(0:Int),(0:Int),.slice none 0 0] 46));have⟨R,hR⟩:=zX w.heap.size;have aF:iF w1 R (.int .i64 0) (.int .i64 0) (.int .i64 0) (.slice none 0 0):=⟨RD av hR⟩;have aN:=H4 av;have I:gh (w.heap.size<=R/\R<w1.heap.size/\b<R):=gd ⟨by omega,aF.blk.lt,by omega⟩;have⟨bd,ba,bc,be⟩:=gu K z a ad;have⟨bh,bg,a7,ap⟩:=gu av hR aF aN;have⟨aK,HP,a6⟩:=Q9 O hp aT;clear bm aT aH K aO aE z a aP ad aX hn hm hN aQ av hR aF aN O hp ha s L u H E;go_enter func61,ntmps61;go_wp2_with fail;rw[<-bh.o,<-bg.o];refine(bd.o w1 (aK.o.Z ap.o (by simp))).mono ?_;rintro e w2 ⟨r,Y,M,rfl,Q,aY,T,af⟩;have⟨wA,an⟩:=zX (w2.alloc (.cells #[p.d,n,.slice r m m] 117));have⟨X,hX⟩:=zX w2.heap.size;have J:=H4 an;have aG:lK wA X (.int .i64 p.d) (.int .i64 n) (.slice r m m):=⟨RD an hX⟩;have z:=λw'=>ba.o w';have a4:=aY.Z J (by simp);have aS:X∉[b]:=by have:=T.size;have:=I.o;simp;omega
 have bb:gh (gg [b] w1 wA):=gd (T.tq (J.mono (by simp)));have az:gh (∀wz,gg [b] wA wz->pW wz n p.d (ic p) r m Y M):=gd (λwz hz=>by
  have aW:∀x∈r::M,x∉[b]:=λx hx hm=>by have:=af x hx;have:=I.o;simp at hm;omega
  exact⟨Q.ok,(Q.row.Z J (by simp)).Z hz (aW r (by simp)),(Q.pl.Y J).Z hz (λx hx=>aW x (by simp[hx]))⟩)
 have a:=bc.o wA a4 (((HP.o.Y ap.o).Z T (by simpa using λe=>a6.o e.symm)).Y J);have ay:=gd a;obtain⟨f,l,q⟩:=aG.cells;have⟨a8,bj,bi,bk⟩:=gu aG aS an hX;rw[an,hX]at f l q;clear Q aY T af an hX J aG a4 aS a
 go_wp2_with(go_at_call 73;refine gB (z _) ?_)
 rw[<-bi.o,<-bk.o];refine ay.o.mono ?_;rintro e w3 ⟨g3,rfl,ai,aZ,U,bl⟩;clear z f l q;obtain⟨f,l,q⟩:=(a8.o.Z U bj.o).cells;have aV:gz vi w3 (some ⟨g3,0,none⟩) (jc p):=ai.R.cells;have ad:=be.o w3 r Y M (az.o w3 U) (some ⟨g3,0,none⟩) N aV;have⟨aB,ax,bf⟩:=Q9 ad (bb.o.trans U (λx hx=>.inl hx)) aZ;clear ai aZ U bl aV ad;go_wp2_with fail;refine aB.o.mono ?_;rintro e w5 ⟨D,S,ys,hs,rfl,ah,aC,ag⟩;clear f l q;have⟨wX,ao⟩:=zX (w5.alloc (.cells #[p.W,p.H,p.d,.slice D n S] 46));have⟨Z,hZ⟩:=zX w5.heap.size;have W:=H4 ao;have aU:iF wX Z (.int .i64 p.W) (.int .i64 p.H) (.int .i64 p.d) (.slice D n S):=⟨RD ao hZ⟩;have y:iF wX R (.int .i64 0) (.int .i64 0) (.int .i64 0) (.slice none 0 0):=((a7.o.Z ax.o (by have:=I.o;simp;omega)).Y aC).Y W;obtain⟨f,l,q,a3⟩:=aU.cells;have⟨a9,aL,aM,aA⟩:=gu y ao hZ (ah.Y W);have aI:=gd (aC.tq W);have aJ:gh (∀x∈D::hs,w1.heap.size<=x):=gd (λx hx=>Nat.le_trans ax.o.size (ag x hx));rw[ao,hZ]at f l q a3;clear ao hZ W aU y ah aC ag;go_wp2_with fail;rw[<-aL.o,<-aM.o];rw[<-aL.o,<-aM.o]at f l q a3;have a5:=GG b;refine i9 4 (by kernel_rfl) (by kernel_rfl) ?_;simp only[take_succ_cons,take_zero,drop_succ_cons,drop_zero]
 repeat(go_big_quiet_step ((go_at_call 89;exact Calls.quiet_of_same ((a5 _).mono (λ_ _ h=>⟨h.1,h.2.symm⟩)))))
 refine wpQuiet_nil ?_;intro _ bn;obtain⟨nq,rfl⟩:=bn;have y:=a9.o.Y ((zR [] wX).drewN nq);obtain⟨z0,z1,z2,z3⟩:=y.cells;have⟨f0,f1,f2,f3⟩:=RJ y.blk 0 1 2 3;have aw:=gd y;clear y a5 f l q a3;go_wp2_with fail;refine qF aw.o ?_;intro V hV hY;obtain⟨x0,x1,x2,x3⟩:=hV.cells;refine bodyPost_ret (v:=.tuple #[.agg #[.int .i64 p.W,.int .i64 p.H,.int .i64 p.d,.slice D n S],(0:Int)]) (by simp[results,results61,go_sem,x0,x1,x2,x3]) rfl ?_;have aD:gg [R] wX V:=((zR [R] wX).drewN nq).tq hY;have aR:∀x∈D::hs,x≠R:=λx hx e=>by have:=aJ.o x hx;have:=I.o;omega
 refine⟨D,S,ys,hs,rfl,aA.o.Z aD (by simpa using aR D (by simp)) (λx hx=>by simpa using aR x (by simp[hx])),?_,?_,λx hx=>by have:=aJ.o x hx;have:=ap.o.size;omega⟩
 .refine((bf.o.Z aI.o (by simp))).Z aD (λx hx hm=>?_)
  simp at hm;subst hm
  have:=aK.o.lt _ hx
  have:=I.o
  omega
 .refine(((ap.o.mono (F':=[b]) (by simp)).tq ax.o).tq (aI.o.mono (by simp))).trans aD (λx hx=>.inr ?_)
  simp at hx
  have:=I.o
  omega
theorem KK{way:Option Nat}(f:l9 way){p:qc}(r:p.Ok)(l:(ic p).length<=256)(a:qK way p=true)(h:∀b∈ky way p,b<2){w:World}(s:iK w){A:Option Addr}(x:gz b8 w A (jE (ky way p)))(m:(jE (ky way p)).length<=cap)(q:cap<=9223372036854775807):Calls prog 35 #[.slice A (jE (ky way p)).length cap] w (lA w p):=by
 have u:ky way p=pa p.W p.H p.d p.P.length++(gx 1 1++(lP p.P.length p.d (ic p)++lw way (jc p) p.W p.H (kA (ic p).length))):=rfl;refine Di r (.inr rfl) u (yT f r l a) h (λbo w' b F hA h1 h2 h3=>?_) s x m q
 have:=Mr f h1 r l a h2 h3 hA
 have v:0+18+1+(lP p.P.length p.d (ic p)).length+(lw way (jc p) p.W p.H (kA (ic p).length)).length=(ky way p).length:=by
  rw[u];simp only[zC,sO,gH];omega
 rw[v]at this;exact this
def xE(way:Option Nat)(colours:Nat)(w:World)(b:Nat)(F bs:List Nat)(p:qc)(e:Ending)(w':World):Prop:=
 if (ic p).length<=colours then
  (if qK way p=true then e=.returned (.int .i64 0)/\∃F',hJ w' b F' (bs++(gx 1 1++(lP p.P.length p.d (ic p)++lw way (jc p) p.W p.H (kA (ic p).length))))/\gE F F' w w'
   else e=.returned (.int .i64 6)/\∃F',gE F F' w w')
 else e=.returned (.int .i64 7)/\∃F',gE F F' w w'
theorem M2{way:Option Nat}(E:l9 way){w:World}{p:qc}{g o:Nat}{G:List Nat}(cap:Nat)(h:ip w p g o B c G)(c0:1<=colours)(c1:colours<=256)(b:Nat)(F bs:List Nat)(hw:hJ w b F bs)(hG:∀x∈G,x∉F)(hp:iK w)(h0F:0∉F)(hbs:bs.length<1000000):Calls prog 43 #[.pointer b,gW p g o cap,colours,.int .i64 (lM way)] w (xE way colours w b F bs p):=by
 have z:=h.ok;have U:∀w',gg [] w w'->_:=λw' (hc':gg [] w w')=>PJ cap (h.Y hc') colours c0 c1;have y:∀w' (a:Nat) (f:Nat) u s,gg [] w w'->pW w' p.P.length p.d (ic p) a f u s->_:=λw' a f u s (hc':gg [] w w') q=>MY cap (h.Y hc') f q.at_;unfold BA at U;have⟨n,hn⟩:=zX p.P.length;have⟨m,hm⟩:=zX ((ic p).length);have⟨N,hN⟩:=zX (p.W*p.H);have D:=uO z;have am:=λ(h9:(ic p).length<=256)=>Cy (uO z h9);have aw:=λ(h9:(ic p).length<=256)=>Eu (p:=p) h9;have bJ:1<=m:=by
  rw[hm]
  have:iJ p 0∈ic p:=(qB p _).2 ⟨0,z.pos,rfl⟩
  exact length_pos_of_mem this
 have S:=ud p;unfold mC gW at *;rw[<-hm]at U y am aw;rw[<-hN]at y S;rw[<-hn]at U y am⊢;have⟨w1,aR⟩:=zX (w.alloc (.cells #[p.W,p.H,p.d,.slice (some ⟨g,o,none⟩) n cap] 46));have⟨X,hX⟩:=zX w.heap.size;have a9:iF w1 X (.int .i64 p.W) (.int .i64 p.H) (.int .i64 p.d) (.slice (some ⟨g,o,none⟩) n cap):=⟨RD aR hX⟩;have bi:=H4 aR;have bj:X∉F:=λhm'=>by have:=hw.lt X hm';omega
 have⟨wi,bb⟩:=zX (lM way);have V:∀(l:World) (A:Option Addr) (ak:Nat) (F' r:List Nat),m<=256->gz vi l A (jc p)->N<=ak->hJ l b F' r->ib A (jc p) F'->iK l->0∉F'->r.length<17179869184->Calls prog 72 #[.pointer b,.slice A N ak,p.W,p.H,.int .i64 (kA m),wi] l (rP way l b F' r (jc p) p.W p.H (kA m)):=by
  intro l A ak F' r ba e3 e4 e5 e6 e7 e8 e9
  have:=Df E ak (W:=p.W) (H:=p.H) (by rw[S,hN]) (aw ba) e3 (by rw[S];exact e4) z.w0 z.w1 z.h0 z.h1 (rS ba).1 (rS ba).2.1 b F' r e5 e6 e7 e8 e9
  rw[S,<-bb]at this;exact this
 have ag:gh (∀e w',(if m<=colours then(if nO way (jc p) p.W p.H (kA m)=true then e=.returned (.int .i64 0)/\∃F',hJ w' b F' (bs++(gx 1 1++(lP n p.d (ic p)++lw way (jc p) p.W p.H (kA m))))/\gE F F' w w'
   else e=.returned (.int .i64 6)/\∃F',gE F F' w w')else e=.returned (.int .i64 7)/\∃F',gE F F' w w')->xE way colours w b F bs p e w'):=gd (λe w' h=>by unfold xE qK;rw[<-hm,<-hn];exact h)
 rw[<-bb];have⟨bB,HX,bd,an⟩:=gu aR hX a9 bi;have⟨bx,bw,bz,HW⟩:=gu U y V hw;have⟨HP,bc,bF,a4⟩:=gu hp h0F bj am;have bg:=gd hw.lt;have O:∀(l:World) (a f:Nat) (u:List Value) (s F' r:List Nat),pW l n p.d (ic p) a f u s->hJ l b F' r->(∀x∈a::s,x∉F')->r.length<17179869184->Calls prog 71 #[.pointer b,.agg #[.int .i64 p.d,.int .i64 n,.slice a m f]] l (vT l b F' r (lP n p.d (ic p))):=by
  intro l a f u s F' r e1 e2 e3 e4
  have:=MU f e1.at_ b F' r e2 e3 e4
  unfold mC at this;rw[<-hm]at this;exact this
 have bA:=gd O;obtain⟨a0,a1,a2,a3⟩:=a9.cells;clear aR hX a9 bi U y V hw hp h0F bj am S O z h aw D hn hm hN bb hG E;go_enter func43,ntmps43;go_wp2_with fail;rw[<-bB.o,<-HX.o];refine(bx.o w1 an.o).mono ?_;rintro e w2 ⟨Q,aG⟩;rcases aG with⟨bn,a,f,u,s,rfl,q,aJ⟩|⟨bm,rfl⟩
 .have⟨w3,aA⟩:=zX (w2.alloc (.cells #[p.d,n,.slice a m f] 117))
  have⟨X9,aE⟩:=zX w2.heap.size;have J:=H4 aA;have aP:lK w3 X9 (.int .i64 p.d) (.int .i64 n) (.slice a m f):=⟨RD aA aE⟩;have al:gg [] w1 w3:=Q.tq J;obtain⟨a0,a1,a2,a3⟩:=(bd.o.Y al).cells;obtain⟨k0,k1,k2⟩:=aP.cells;have y:=bw.o w3 a f u s (an.o.tq al) (by
   have:=an.o
   exact⟨q.ok,q.row.Z J (by simp),q.pl.Y J⟩)
  have⟨aZ,bf⟩:=gy (show pW w3 n p.d (ic p) a f u s from⟨q.ok,q.row.Z J (by simp),q.pl.Y J⟩) bn;have ai:m<=256:=by omega
  have aj:gh (∀x∈a::s,w.heap.size<=x/\x<w3.heap.size):=gd (λx hx=>⟨by have:=aJ x hx;have:=an.o.size;omega,by
   have:=J.size
   rcases zJ.1 hx with rfl|h1
   .have:=q.row.lt;omega
   .have:=q.pl.lt x h1;omega⟩)
  have⟨be,aS⟩:=gy aP al;have aC:gh (w.heap.size<=X9/\X9<w3.heap.size):=gd ⟨by rw[aE];have:=Q.size;have:=an.o.size;omega,aP.blk.lt⟩;have⟨bC,bE,aX⟩:=Q9 aA aE y;rw[aA,aE]at k0 k1 k2;rw[aA]at a0 a1 a2 a3;clear Q q aJ aA aE J aP al y bn;go_wp2_with fail;rw[<-bC.o,<-bE.o];refine aX.o.mono ?_;rintro e w4 ⟨L,rfl,ay,a7,bH⟩;have a8:gg [] w w4:=(an.o.tq aS.o).tq a7;have aO:=HW.o.Y a8;have bo:=iG w4 b F bs 1 1 aO (by decide) (by decide) (by omega);have⟨aT,af,a6⟩:=Q9 a8 a7 ay;have aW:gh (w.heap.size<=L/\L<w4.heap.size):=gd ⟨by have:=(an.o.tq aS.o).size;omega,ay.lt⟩;clear ay a7 bH a8 aO a0 a1 a2 a3 k0 k1 k2;go_wp2_with fail;refine bo.mono ?_;rintro e w5 ⟨rfl,F5,bp,R⟩;have ax:∀Fk wr,gE F Fk w4 wr->∀x,w.heap.size<=x->x<w4.heap.size->x∉Fk:=λFk wr hg x h1 h2 hm=>by
   rcases hg.new x hm with h3|h3
   .have:=bg.o x h3;omega
   .omega
  have T:∀x,w.heap.size<=x->x∉F:=λx h1 hm=>by have:=bg.o x hm;omega
  have⟨aY,aB⟩:=gy ax T;have O:=bA.o w5 a f u s F5 _ (by
    have Z:=aZ.o;have hc:=(gg.mono (F':=F) af.o (by simp)).trans R.Z (λx hx=>.inl hx);exact⟨Z.ok,Z.row.Z hc (T _ (aj.o a (by simp)).1),Z.pl.Z hc (λx hx=>T x (aj.o x (by simp[hx])).1)⟩) bp
   (λx hx=>ax F5 w5 R x (aj.o x hx).1 (by have:=(aj.o x hx).2;have:=af.o.size;omega)) (by rw[zC,gH];omega)
  unfold vT at O;obtain⟨k0,k1,k2⟩:=((be.o.Y af.o).Z R.Z (T X9 aC.o.1)).cells;have bu:=gd R;clear bo bp R ax T;go_wp2_with fail;refine O.mono ?_;rintro e M ⟨rfl,F6,bq,bl⟩;have v:=bu.o.trans bl;have bk:gz vi M (some ⟨L,0,none⟩) (jc p):=by
   have Z:=a6.o.Z v.Z (by simpa using aB.o L aW.o.1);exact Z.R.cells
  have aF:ib (some (⟨L,0,none⟩:Addr)) (jc p) F6:=λ_ ad e hm=>by injection e with e;subst e;exact aY.o F6 M v L aW.o.1 aW.o.2 hm
  have aN:=(HP.o.Y aT.o).Z v.Z bc.o;have bh:0∉F6:=v.o (by have:=HP.o.lt;have:=aT.o.size;omega) bc.o;have bI:=a4.o ai;have V:=λnq=>bz.o (M.drewN nq) (some ⟨L,0,none⟩) N F6 _ ai (bk.drewN nq) (zQ _) (bq.Y ((zR [] M).drewN nq)) aF (aN.Y ((zR [] M).drewN nq)) bh (by
   simp only[zC,gH];omega)
  obtain⟨k0,k1,k2⟩:=((be.o.Y af.o).Z v.Z (aB.o X9 aC.o.1)).cells;obtain⟨a0,a1,a2,a3⟩:=(((bd.o.Y aS.o).Y af.o).Z v.Z bF.o).cells;have⟨a5,aU⟩:=gy V v;have bG:=λw=>FF m w bJ ai;clear O bq bl v bk aF aN bh bI V;go_wp2_with fail;refine i9 11 (by kernel_rfl) (by kernel_rfl) ?_;simp only[take_succ_cons,take_zero,drop_succ_cons,drop_zero]
  repeat(go_big_quiet_step ((go_at_call 73;exact Calls.quiet_of_same ((bG _).mono (λ_ _ h=>⟨h.1,h.2.symm⟩)))))
  refine wpQuiet_nil ?_;intro _ bK;obtain⟨nq,rfl⟩:=bK;go_wp2_with fail;refine(a5.o nq).mono ?_;rintro e w7 Y;unfold rP at Y;have aQ:=λI (K:gE F6 I (M.drewN nq) w7)=>gE.pre aT.o (aU.o.trans (gE.pre ((zR [] M).drewN nq) K))
  cases D:nO way (jc p) p.W p.H (kA m)with
  | true=>
   rw[if_pos D]at Y;obtain⟨rfl,I,br,K⟩:=Y;have⟨aV,bD,ar⟩:=Q9 (aQ I K) br D;clear K br aQ D;go_wp2_with fail;go_ret;refine ag.o _ _ ?_;rw[if_pos bf.o,if_pos ar.o];exact⟨rfl,I,by simpa only[zH]using bD.o,aV.o⟩
  | false=>
   rw[if_neg (by rw[D];simp)]at Y;obtain⟨rfl,I,K⟩:=Y;have⟨aV,ar⟩:=gy (aQ I K) D;clear K aQ D;go_wp2_with fail;go_ret;refine ag.o _ _ ?_;rw[if_pos bf.o,if_neg (by rw[ar.o];simp)];exact⟨rfl,I,aV.o⟩
 .have⟨bv,HE⟩:=gy bm (an.o.tq Q)
  clear bm Q;unfold x8;go_wp2_with fail;go_ret;refine ag.o _ _ ?_;rw[if_neg (by have:=bv.o;omega)];exact⟨rfl,F,gE.pre (HE.o.tq ((zR [] _).alloc _)) (gE.refl _ _)⟩
inductive Hl where
 | ok (bs:List Nat)
 | bad (k:Int)
def r7(kind:Option Nat)(p:qc):Bool:=match kind with
 | none=>true
 | some k=>kC p.P.length k
def nl(way kind:Option Nat)(colours:Nat)(p:qc):Hl:=
 if colours=0 then(if r7 kind p=true then(if qE way (nz kind p) p=true then .ok (nN way (nz kind p) p)else .bad 6)else .bad 1)
 else if (ic p).length<=colours then(if qK way p=true then .ok (ky way p)else .bad 6)else .bad 7
def o3(w:World)(r:Hl)(e:Ending)(w':World):Prop:=match r with
 | .ok bs=>∃v G,e=.returned (.tuple #[v,(0:Int)])/\jj w' 5 v G ((jE bs).map b8)/\gg [] w w'/\(∀x∈G,w.heap.size<=x)/\(∀b∈bs,b<2)
 | .bad k=>e=.returned (.tuple #[.slice none 0 0,k])/\gg [] w w'
theorem FT{way : Option Nat}(a : l9 way){kind : Option Nat}(hkind : l9 kind)(J : ∀k, kind = some k -> k <= 4)(c1 : colours <= 256){w: World}{p : qc}{g o: Nat}{B : Nat -> Option Addr}{c : Nat -> Nat}{G: List Nat}(cap : Nat)(h : ip w p g o B c G)(hp : iK w):Calls prog 31 #[gW p g o cap,.int .i64 (lM kind),colours,.int .i64 (lM way)] w (o3 w (nl way kind colours p)):=by
  have z:=h.ok;have bM:∀w',gg [] w w'->_:=λw' (hc':gg [] w w')=>oJ cap (h.Y hc');have bO:=λk (k4:k<=4) w'=>uL p.P.length k w' z.n0 z.n1 k4;have R:∀w' b F bs,gg [] w w'->1<=colours->hJ w' b F bs->(∀x∈F,w.heap.size<=x)->bs.length<1000000->_:=λw' b F bs (hc':gg [] w w') c0 hw (hF:∀x∈F,w.heap.size<=x) hb=>M2 a cap (h.Y hc') c0 c1 b F bs hw (λx hx hm=>by have:=h.lt x hx;have:=hF x hm;omega) (hp.Y hc') (λhm=>by have:=hF 0 hm;have:=hp.lt;omega) hb;have V:∀w' b F bs,gg [] w w'->xQ kind p->hJ w' b F bs->(∀x∈F,w.heap.size<=x)->bs.length<1000000->_:=λw' b F bs (hc':gg [] w w') hk hw (hF:∀x∈F,w.heap.size<=x) hb=>KG a cap (h.Y hc') hk b F bs hw (λx hx hm=>by have:=h.lt x hx;have:=hF x hm;omega) (hp.Y hc') (λhm=>by have:=hF 0 hm;have:=hp.lt;omega) hb;have b0:=λ(hm:qE way (nz kind p) p=true)=>yS a z hm;have b1:=λh9 (hm:qK way p=true)=>yT a z h9 hm;have⟨HL,aj⟩:=zX (pa p.W p.H p.d p.P.length);have aA:HL.length=18:=by rw[aj];exact sO _ _ _ _
  have aP:nN way (nz kind p) p=HL++(gx 0 1++(gx (nz kind p) 3++jR way (jg (nz kind p) p) p.P.length)):=by rw[aj];rfl
  have aQ:ky way p=HL++(gx 1 1++(lP p.P.length p.d (ic p)++lw way (jc p) p.W p.H (kA (ic p).length))):=by rw[aj];rfl
  have b2:r7 kind p=true->xQ kind p:=λhb k hk=>⟨J k hk,by subst hk;exact hb⟩;have b9:∀k,kind=some k->r7 kind p=kC p.P.length k:=λk hk=>by subst hk;rfl
  have bg:kind=none->r7 kind p=true:=λhk=>by subst hk;rfl
  have bd:∀e w' r,nl way kind colours p=r->o3 w r e w'->o3 w (nl way kind colours p) e w':=λe w' r h1 h2=>by rw[h1];exact h2
  have cj : -1<=lM way/\lM way<=7:=by
    cases way with
    | none=>exact⟨by decide,by decide⟩
    | some k=>have := a k rfl;show -1<=(k:Int)/\(k:Int)<=7;omega
  have aw:(kind=none/\lM kind=-1)\/∃k,kind=some k/\k<=4/\lM kind=(k:Int):=by
    cases kind with
    | none=>exact .inl ⟨rfl,rfl⟩
    | some k=>exact .inr ⟨k,rfl,J k rfl,rfl⟩
  have bN : -1<=lM kind/\lM kind<=4:=by
    rcases aw with⟨_,e⟩|⟨k,_,h1,e⟩<;>rw[e]<;>omega
  unfold xe xE at *;unfold gW at *;have⟨n,hn⟩:=zX p.P.length;have cW:1<=n:=by rw[hn];exact z.n0
  have cX:n<=4:=by rw[hn];exact z.n1
  rw[<-hn]at bM bO R V aj aP aQ⊢;have cG:=z.w0;have cI:=z.w1;have cC:=z.h0;have cE:=z.h1;have cJ:=z.d0;have cK:=z.d1;have⟨wi,bi⟩:=zX (lM way);have⟨ki,bf⟩:=zX (lM kind);have⟨ci,aK⟩:=zX ((colours:Int));rw[<-bi]at cj R V⊢;rw[<-bf]at aw bN V⊢;rw[<-aK]at R⊢;obtain⟨H,cH⟩:∃H,p.W=H+1:=⟨p.W-1,by omega⟩;obtain⟨L,cD⟩:∃L,p.H=L+1:=⟨p.H-1,by omega⟩;obtain⟨K,cB⟩:∃K,p.d=K+1:=⟨p.d-1,by omega⟩;obtain⟨M,cF⟩:∃M,n=M+1:=⟨n-1,by omega⟩;have e1:(p.W:Int)-1=(H:Int):=by omega
  have e2:(p.H:Int)-1=(L:Int):=by omega
  have e3:(p.d:Int)-1=(K:Int):=by omega
  have e4:(n:Int)-1=(M:Int):=by omega
  have u1:IntKind.u64.wrap (H:Int)=(H:Int):=IntWalk.u64_in _ (by omega);have u2:IntKind.u64.wrap (L:Int)=(L:Int):=IntWalk.u64_in _ (by omega);have u3:IntKind.u64.wrap (K:Int)=(K:Int):=IntWalk.u64_in _ (by omega);have u4:IntKind.u64.wrap (M:Int)=(M:Int):=IntWalk.u64_in _ (by omega);have aB:HL=gx H 6++(gx L 6++(gx K 4++gx M 2)):=by
    rw[aj,pa,show p.W-1=H by omega,show p.H-1=L by omega,show p.d-1=K by omega,show n-1=M by omega]
  have t1:decide (ki < -1)=false:=zA (by omega);have t2:decide (4<ki)=false:=zA (by omega);have t3:decide (ci<0)=false:=zA (by omega);have t4:decide (256<ci)=false:=zA (by omega);have t5:decide (wi < -1)=false:=zA (by omega);have t6:decide (7<wi)=false:=zA (by omega);have cT:H<64:=by omega
  have cR:L<64:=by omega
  have cQ:K<16:=by omega
  have cS:M<4:=by omega
  have⟨w1,bq⟩:=zX (w.alloc (.cells #[p.W,p.H,p.d,.slice (some ⟨g,o,none⟩) n cap] 46));have⟨X,hX⟩:=zX w.heap.size;have bn:iF w1 X (.int .i64 p.W) (.int .i64 p.H) (.int .i64 p.d) (.slice (some ⟨g,o,none⟩) n cap):=⟨RD bq hX⟩;have bZ:=H4 bq;have⟨bl,HX⟩:=gy bq hX;have bF:gh (X<w1.heap.size):=gd bn.blk.lt;have⟨aI,am,bk,cu⟩:=gu bn bZ bM bO;have⟨cq,cv,co,cp⟩:=gu R V b0 b1;have⟨bR,bw,bx,cs⟩:=gu aA aP aQ b2;have⟨bT,cr,an,cN⟩:=gu b9 bg bd bN;have⟨aV,bv,bW,aZ⟩:=gu aK aB hn c1;obtain⟨f,l,m,q⟩:=bn.cells;clear bq hX bn bZ bM bO R V b0 b1 aA aP aQ b2 b9 bg bd bN aK aB aj h z hkind J a cj hn bi bf cH cD cB cF cG cI cC cE cJ cK hp c1;have bb:(ci=0/\kind=none/\ki=-1)\/(ci=0/\∃k,kind=some k/\k<=4/\ki=(k:Int))\/1<=colours:=by
    have:=aV.o
    rcases eq_zero_or_pos colours with h0|h0
    · rcases aw with⟨e,e'⟩|⟨k,e,e',cx⟩
      · exact .inl ⟨by omega,e,e'⟩
      · exact .inr (.inl ⟨by omega,k,e,e',cx⟩)
    · exact .inr (.inr h0)
  clear aw;rcases bb with⟨rfl,bg,rfl⟩|⟨rfl,k,ca,J,rfl⟩|b4;rotate_left;have bo:∀v,kC n k=v->_:=λv hv w'=>by have:=cu.o k J w';rw[hv]at this;exact this
  have bU:=gd ca;clear ca;cases hmv:kC n k
  · have bc:=bo _ hmv
    have bz:=gd hmv;clear bo hmv;go_enter func31,ntmps31;go_wp2_with fail;rw[<-bl.o,<-HX.o];refine(bk.o w1 am.o).mono ?_;rintro e E ⟨rfl,u⟩;obtain⟨f,l,m,q⟩:=(aI.o.Y u).cells;have s:=gd u;clear u;go_wp2_with fail;refine(bc _).mono ?_;rintro e w3 ⟨rfl,rfl⟩;clear bc;go_wp2_with fail;refine bodyPost_ret (v:=.tuple #[.slice none 0 0,(1:Int)]) (by simp[results,results31,go_sem]) rfl ?_;refine an.o _ _ (.bad 1) ?_ ⟨rfl,am.o.tq s.o⟩;unfold nl;rw[if_pos (by have:=aV.o;omega),if_neg (by rw[bT.o k bU.o,<-bW.o,bz.o];simp)]
  have bc:=bo _ hmv;have bz:=gd hmv;clear bo hmv;go_enter func31,ntmps31;go_wp2_with fail;rw[<-bl.o,<-HX.o];refine(bk.o w1 am.o).mono ?_;rintro e E ⟨rfl,u⟩;obtain⟨f,l,m,q⟩:=(aI.o.Y u).cells;have s:=gd u;clear u;go_wp2_with fail;refine(bc _).mono ?_;rintro e w3 ⟨rfl,rfl⟩;clear bc;have au:gh (r7 kind p=true):=gd (by rw[bT.o k bU.o,<-bW.o];exact bz.o);have aU:gh (colours=0):=gd (by have:=aV.o;omega);clear f l m q;have⟨w4,ae⟩:=zX (E.alloc (.cells #[.slice none 0 0,(0:Int)] 90));have⟨b,hb⟩:=zX E.heap.size;have W:hJ w4 b [b] []:=by rw[ae,hb];exact hJ.new E
  have I:=H4 ae;have Q:X∉[b]:=by
    simp only[zU]
    have:=bF.o
    have:=s.o.size
    omega
  have O:gh (w.heap.size<=b):=gd (by rw[hb];exact(am.o.tq s.o).size);have Y:gh (gg [] w w4):=gd ((am.o.tq s.o).tq I);have N:gh (∀Fz wz,gE [b] Fz w4 wz->iF wz X (.int .i64 p.W) (.int .i64 p.H) (.int .i64 p.d) (.slice (some ⟨g,o,none⟩) n cap)):=gd (λFz wz hz=>((aI.o.Y s.o).Y I).Z hz.Z Q);have Z:gh (∀Fz wz,gE [b] Fz w4 wz->gg [] w wz):=gd (λFz wz hz=>Y.o.trans hz.Z (λx hx=>.inr (by simp at hx;have:=O.o;omega)));have bj:gh (∀Fz wz,gE [b] Fz w4 wz->∀x∈Fz,w.heap.size<=x):=gd (λFz wz hz x hx=>by
    rcases hz.new x hx with h|h
    · simp at h;have:=O.o;omega
    · have:=Y.o.size;omega)
  obtain⟨f,l,m,q⟩:=(N.o [b] w4 (gE.refl _ _)).cells;have bp:=iG w4 b [b] [] H 6 W (by decide) (by omega) (by simp);have⟨a6,al⟩:=gy ae hb;rw[ae]at f l m q;clear ae hb W I Q;go_wp2_with fail;rw[<-a6.o,<-al.o];rotate_left;have cU:(ci==0)=false:=by have:=aV.o;simp;omega
  have cV:decide (0<ci)=true:=zB (by have:=aV.o;omega);have aU:=gd b4;clear b4;go_enter func31,ntmps31;go_wp2_with fail;rw[<-bl.o,<-HX.o];refine(bk.o w1 am.o).mono ?_;rintro e E ⟨rfl,u⟩;obtain⟨f,l,m,q⟩:=(aI.o.Y u).cells;have s:=gd u;clear u;clear f l m q;have⟨w4,ae⟩:=zX (E.alloc (.cells #[.slice none 0 0,(0:Int)] 90));have⟨b,hb⟩:=zX E.heap.size;have W:hJ w4 b [b] []:=by rw[ae,hb];exact hJ.new E
  have I:=H4 ae;have Q:X∉[b]:=by
    simp only[zU]
    have:=bF.o
    have:=s.o.size
    omega
  have O:gh (w.heap.size<=b):=gd (by rw[hb];exact(am.o.tq s.o).size);have Y:gh (gg [] w w4):=gd ((am.o.tq s.o).tq I);have N:gh (∀Fz wz,gE [b] Fz w4 wz->iF wz X (.int .i64 p.W) (.int .i64 p.H) (.int .i64 p.d) (.slice (some ⟨g,o,none⟩) n cap)):=gd (λFz wz hz=>((aI.o.Y s.o).Y I).Z hz.Z Q);have Z:gh (∀Fz wz,gE [b] Fz w4 wz->gg [] w wz):=gd (λFz wz hz=>Y.o.trans hz.Z (λx hx=>.inr (by simp at hx;have:=O.o;omega)));have bj:gh (∀Fz wz,gE [b] Fz w4 wz->∀x∈Fz,w.heap.size<=x):=gd (λFz wz hz x hx=>by
    rcases hz.new x hx with h|h
    · simp at h;have:=O.o;omega
    · have:=Y.o.size;omega)
  obtain⟨f,l,m,q⟩:=(N.o [b] w4 (gE.refl _ _)).cells;have bp:=iG w4 b [b] [] H 6 W (by decide) (by omega) (by simp);have⟨a6,al⟩:=gy ae hb;rw[ae]at f l m q;clear ae hb W I Q;go_wp2_with fail;rw[<-a6.o,<-al.o];rotate_left;have au:gh (r7 kind p=true):=gd (cr.o bg);have aU:gh (colours=0):=gd (by have:=aV.o;omega);clear bg;go_enter func31,ntmps31;go_wp2_with fail;rw[<-bl.o,<-HX.o];refine(bk.o w1 am.o).mono ?_;rintro e E ⟨rfl,u⟩;obtain⟨f,l,m,q⟩:=(aI.o.Y u).cells;have s:=gd u;clear u;clear f l m q;have⟨w4,ae⟩:=zX (E.alloc (.cells #[.slice none 0 0,(0:Int)] 90));have⟨b,hb⟩:=zX E.heap.size;have W:hJ w4 b [b] []:=by rw[ae,hb];exact hJ.new E
  have I:=H4 ae;have Q:X∉[b]:=by
    simp only[zU]
    have:=bF.o
    have:=s.o.size
    omega
  have O:gh (w.heap.size<=b):=gd (by rw[hb];exact(am.o.tq s.o).size);have Y:gh (gg [] w w4):=gd ((am.o.tq s.o).tq I);have N:gh (∀Fz wz,gE [b] Fz w4 wz->iF wz X (.int .i64 p.W) (.int .i64 p.H) (.int .i64 p.d) (.slice (some ⟨g,o,none⟩) n cap)):=gd (λFz wz hz=>((aI.o.Y s.o).Y I).Z hz.Z Q);have Z:gh (∀Fz wz,gE [b] Fz w4 wz->gg [] w wz):=gd (λFz wz hz=>Y.o.trans hz.Z (λx hx=>.inr (by simp at hx;have:=O.o;omega)));have bj:gh (∀Fz wz,gE [b] Fz w4 wz->∀x∈Fz,w.heap.size<=x):=gd (λFz wz hz x hx=>by
    rcases hz.new x hx with h|h
    · simp at h;have:=O.o;omega
    · have:=Y.o.size;omega)
  obtain⟨f,l,m,q⟩:=(N.o [b] w4 (gE.refl _ _)).cells;have bp:=iG w4 b [b] [] H 6 W (by decide) (by omega) (by simp);have⟨a6,al⟩:=gy ae hb;rw[ae]at f l m q;clear ae hb W I Q;go_wp2_with fail;rw[<-a6.o,<-al.o]
  all_goals
    refine bp.mono ?_;rintro e w5 ⟨rfl,F5,ce,bL⟩;obtain⟨f,l,m,q⟩:=(N.o F5 w5 bL).cells;have cb:=iG w5 b F5 _ L 6 ce (by decide) (by omega) (by simp[gH]);clear bp;go_wp2_with fail;refine cb.mono ?_;rintro e w6 ⟨rfl,F6,cf,b5⟩;have aM:=bL.trans b5;obtain⟨f,l,m,q⟩:=(N.o F6 w6 aM).cells;have cc:=iG w6 b F6 _ K 4 cf (by decide) (by omega) (by simp[gH]);clear cb;go_wp2_with fail;refine cc.mono ?_;rintro e w7 ⟨rfl,F7,cg,b6⟩;have aN:=aM.trans b6;obtain⟨f,l,m,q⟩:=(N.o F7 w7 aN).cells;have cd:=iG w7 b F7 _ M 2 cg (by decide) (by omega) (by simp[gH]);clear cc;go_wp2_with fail;refine cd.mono ?_;rintro e w8 ⟨rfl,F8,ch,b7⟩;have aO:=aN.trans b7;have bh:hJ w8 b F8 HL:=by
      rw[bv.o]
      simpa only[zH,nil_append]using ch
    have⟨bD,ar⟩:=gy bh aO;obtain⟨f,l,m,q⟩:=(N.o F8 w8 aO).cells;clear cd ce bL cf b5 aM cg b6 aN ch b7 aO bh
  iterate 2
    (have V:=cv.o w8 b F8 HL (Z.o _ _ ar.o) (cs.o au.o) bD.o (bj.o _ _ ar.o) (by rw[bR.o];decide)
     go_wp2_with fail;refine V.mono ?_;rintro e w9 D;clear f l m q V;cases hm:qE way (nz kind p) p
     · rw[if_neg (by rw[hm];simp)]at D
       obtain⟨rfl,F9,y⟩:=D;have⟨az,HM⟩:=gy (ar.o.trans y) hm;clear y hm;go_wp2_with fail;refine bodyPost_ret (v:=.tuple #[.slice none 0 0,(6:Int)]) (by simp[results,results31,go_sem]) rfl ?_;refine an.o _ _ (.bad 6) ?_ ⟨rfl,Z.o _ _ az.o⟩;unfold nl;rw[if_pos aU.o,if_pos au.o,if_neg (by rw[HM.o];simp)]
     rw[if_pos hm]at D;obtain⟨rfl,F9,aT,y⟩:=D;have az:=gd (ar.o.trans y);have⟨T,hT⟩:=zX (nN way (nz kind p) p);have ag:=co.o hm;rw[<-hT]at ag;rw[<-bw.o,<-hT]at aT;have bE:=gd aT;have av:gh (19<=T.length/\T.length<=4096000000):=gd ⟨by omega,ag.2⟩;have a5:gh (nl way kind colours p=.ok T):=gd (by
       unfold nl;rw[if_pos aU.o,if_pos au.o,if_pos hm,hT])
     clear ag hT aT y hm;rotate_left)
  have R:=cq.o w8 b F8 HL (Z.o _ _ ar.o) aU.o bD.o (bj.o _ _ ar.o) (by rw[bR.o];decide);go_wp2_with fail;refine R.mono ?_;rintro e w9 D;clear f l m q R;have aW:¬colours=0:=by have:=aU.o;omega
  rcases zZ colours (ic p).length with U|U
  · rw[if_neg (by omega)]at D
    obtain⟨rfl,F9,y⟩:=D;have⟨az,HM,bA⟩:=Q9 (ar.o.trans y) U aW;clear y U aW;go_wp2_with fail;refine bodyPost_ret (v:=.tuple #[.slice none 0 0,(7:Int)]) (by simp[results,results31,go_sem]) rfl ?_;refine an.o _ _ (.bad 7) ?_ ⟨rfl,Z.o _ _ az.o⟩;unfold nl;rw[if_neg bA.o,if_neg (by have:=HM.o;omega)]
  rw[if_pos U]at D;cases hm:qK way p
  · rw[if_neg (by rw[hm];simp)]at D
    obtain⟨rfl,F9,y⟩:=D;have⟨az,HM,ct,bA⟩:=gu (ar.o.trans y) hm U aW;clear y hm U aW;go_wp2_with fail;refine bodyPost_ret (v:=.tuple #[.slice none 0 0,(6:Int)]) (by simp[results,results31,go_sem]) rfl ?_;refine an.o _ _ (.bad 6) ?_ ⟨rfl,Z.o _ _ az.o⟩;unfold nl;rw[if_neg bA.o,if_pos ct.o,if_neg (by rw[HM.o];simp)]
  rw[if_pos hm]at D;obtain⟨rfl,F9,aT,y⟩:=D;have az:=gd (ar.o.trans y);have⟨T,hT⟩:=zX (ky way p);have ag:=cp.o (by have:=aZ.o;omega) hm;rw[<-hT]at ag;rw[<-bx.o,<-hT]at aT;have bE:=gd aT;have av:gh (19<=T.length/\T.length<=4096000000):=gd ag;have a5:gh (nl way kind colours p=.ok T):=gd (by
    unfold nl;rw[if_neg aW,if_pos U,if_pos hm,hT])
  clear ag hT aT y hm U aW
  all_goals
    have b3:=GP w9 b F9 T bE.o (by have:=av.o;omega);have br:=gd bE.o.bit;clear bD;go_wp2_with fail;refine b3.mono ?_;rintro e cL ⟨rfl,cl,aS,be⟩;have aD:=az.o.trans be;have bI:=xD cL b cl (kV T) aS (by rw[rW];have:=av.o;omega);have a9:=aS.bit;have⟨ac,ad⟩:=zX (iD (kV T));have bH:ac.length<=1000000000:=(by rw[ad,ox,rW];have:=av.o;omega);have aL:∀d∈ac,d<256:=(by rw[ad];exact xd a9);have bX:gh (jE T=ac++jP (mu ac)):=gd (by rw[ad];rfl);rw[<-ad]at bI;have aX:=gd (Z.o _ _ aD);clear b3 aS be aD a9 ad;go_wp2_with fail;refine bI.mono ?_;rintro e cM ⟨cZ,cn,rfl,ai,a7,a8⟩;obtain⟨ck,cw,rfl,cz,cA,ba⟩:=ai.T;have bm:=vS cM ck cw ac ba aL (by omega);have bJ:=xH aL;have bG:=λw'=>BM (mu ac) bJ w';have⟨S,hS⟩:=zX (mu ac);rw[<-hS]at bm bG bJ bX;have⟨nb,bP⟩:=zX ac.length;rw[<-bP]at bm ai bH⊢;have cY:IntKind.u64.wrap (S:Int)=(S:Int):=IntWalk.u64_in _ (by omega);have⟨bV,bS,bB,a4⟩:=gu bP bH ai (λx hx=>Nat.le_trans aX.o.size (a8 x hx):∀x∈cn,w.heap.size<=x);have bu:=gd (aX.o.tq a7);clear bI ai a7 a8 cz cA ba aL bJ hS bP bH;go_wp2_with fail;refine bm.mono ?_;rintro e c6 ⟨rfl,rfl⟩;clear bm;go_wp2_with fail;refine(bG _).mono ?_;rintro e c7 ⟨cP,cO,rfl,ap,aJ,bK⟩;have aR:=bB.o.Y aJ;have⟨bC,aY⟩:=gy ap (bu.o.tq aJ);have bQ:(jP S).length=4:=rfl;clear ap aJ bK bG
    go_wp2_with(at_builtin;refine ns rfl rfl nT rfl rfl aR ((jP S).map b8) 4 rfl ?c1 ?c2 ?c3 ?c4 ?c5 ?_)
    case c1=>rfl
    case c2=>exact gv.cellsB bC.o
    case c3=>exact pj _
    case c4=>rw[zE,zE,bQ];have:=bS.o;have:=bV.o;omega
    case c5=>rw[zE,zE,bQ];have:=bS.o;have:=bV.o;omega
    intro v8 cm c8 cy bY;clear bQ;go_wp2;refine bodyPost_ret (v:=.tuple #[v8,(0:Int)]) (by simp[results,results31,go_sem]) rfl ?_;refine an.o _ _ (.ok T) a5.o ⟨v8,cm,rfl,by rw[bX.o,zM];exact cy,?_,λx hx=>?_,br.o⟩
    · exact aY.o.trans bY.Z (λx hx=>.inr (a4.o x hx))
    · rcases bY.new x hx with h|h
      · exact a4.o x h
      · have:=aY.o.size;omega
def oe(p:qc):List Nat:=nN none (kJ p 4) p
def lU(p:qc):List Nat:=if (ic p).length<=256/\(jE (ky none p)).length<(jE (oe p)).length then ky none p else oe p
theorem Pp(p:qc):nl none none 0 p=.ok (oe p):=by
 unfold nl oe;have a:r7 none p=true:=rfl;have f:qE none (nz none p) p=true:=yt _ _;rw[if_pos rfl,if_pos a,if_pos f];rfl
theorem Pq(p:qc):nl none none 256 p=if (ic p).length<=256 then .ok (ky none p)else .bad 7:=by
 unfold nl;have a:qK none p=true:=tR _ _ _ _ _;rw[if_neg (by decide)];by_cases h:(ic p).length<=256
 .rw[if_pos h,if_pos h,if_pos a]
 .rw[if_neg h,if_neg h]
theorem KY{p:qc}(h:p.Ok):22<=(oe p).length/\(oe p).length<=4096000000:=yS (way:=none) (λ_ e=>by cases e) h (yt _ _)
theorem KZ{p:qc}(h:p.Ok)(a:(ic p).length<=256):19<=(ky none p).length/\(ky none p).length<=4096000000:=yT (way:=none) (λ_ e=>by cases e) h a (tR _ _ _ _ _)
theorem Gb{w:World}{p:qc}{g o:Nat}{G:List Nat}(cap:Nat)(h:ip w p g o B c G)(R:iK w):Calls prog 20 #[gW p g o cap] w (o3 w (.ok (lU p))):=by
 have O:=h.ok;have u:l9 none:=λ_ e=>by cases e
 have f:∀w',gg [] w w'->_:=λw' (hc':gg [] w w')=>FT (way:=none) u (kind:=none) u (λ_ e=>by cases e) (colours:=0) (by decide) cap (h.Y hc') (R.Y hc');have l:∀w',gg [] w w'->_:=λw' (hc':gg [] w w')=>FT (way:=none) u (kind:=none) u (λ_ e=>by cases e) (colours:=256) (by decide) cap (h.Y hc') (R.Y hc');rw[Pp]at f;rw[Pq]at l;have e0:lM none=-1:=rfl;rw[e0]at f l;have s:lU p=if (ic p).length<=256/\(jE (ky none p)).length<(jE (oe p)).length then ky none p else oe p:=rfl;have Z:=(KY O).2;have N:=λhc=>(KZ O hc).2;have Q:=yZ (oe p);have K:=yZ (ky none p);rw[zt]at Q K;have⟨a,ha⟩:=zX (oe p);have⟨d,hd⟩:=zX (ky none p);have⟨m,hm⟩:=zX ((ic p).length);rw[<-ha]at f s Z Q;rw[<-hd]at l s N K;rw[<-hm]at l s N;have⟨la,aw⟩:=zX ((jE a).length);have⟨ld,ax⟩:=zX ((jE d).length);rw[<-aw,<-ax]at s;unfold o3 at f;unfold gW at *;have⟨n,hn⟩:=zX p.P.length;rw[<-hn]at f l⊢;have⟨w1,an⟩:=zX (w.alloc (.cells #[p.W,p.H,p.d,.slice (some ⟨g,o,none⟩) n cap] 46));have⟨X,hX⟩:=zX w.heap.size;have M:iF w1 X (.int .i64 p.W) (.int .i64 p.H) (.int .i64 p.d) (.slice (some ⟨g,o,none⟩) n cap):=⟨RD an hX⟩;have V:=H4 an;have⟨aM,HX,aH,ap⟩:=gu an hX M V;have⟨aN,aO,aq,aJ⟩:=gu f l s aw;have aK:=gd ax;obtain⟨E,H,I,J⟩:=M.cells;clear an hX M V f l s aw ax O h R ha hd hm hn Z N Q K u e0;go_enter func20,ntmps20;go_wp2_with fail;rw[<-aM.o,<-HX.o];refine(aN.o w1 ap.o).mono ?_;rintro e w2 ⟨v2,z,rfl,ad,L,W,af⟩;obtain⟨S,c2,rfl,-,-,-⟩:=ad.T;rw[<-aJ.o]at ad⊢;obtain⟨E,H,I,J⟩:=(aH.o.Y L).cells;have⟨aC,al⟩:=gy ad (ap.o.tq L);have U:gh (∀x∈z,w.heap.size<=x):=gd (λx hx=>Nat.le_trans ap.o.size (W x hx));have ak:=gd af;clear ad L W af;go_wp2_with fail;refine(aO.o w2 al.o).mono ?_;intro e w3 r;by_cases hm:m<=256
 .rw[if_pos hm]at r
  unfold o3 at r;obtain⟨v3,T,rfl,y,q,Y,ag⟩:=r;obtain⟨A3,c3,rfl,-,-,-⟩:=y.T;rw[<-aK.o]at y⊢;have⟨aL,am,ah⟩:=Q9 y (al.o.tq q) q;have aI:gh (∀x∈T,w.heap.size<=x):=gd (λx hx=>Nat.le_trans al.o.size (Y x hx));have⟨ao,HM⟩:=gy ag hm;clear y q Y ag hm E H I J;by_cases hl:ld<la
  .have t1:=jo ld la (by omega)
   have t2:decide (ld<la)=true:=zB hl;have D:=gd hl;clear hl;go_wp2_with fail;refine bodyPost_ret (v:=.tuple #[.slice A3 ld c3,(0:Int)]) (by simp[results,results20,go_sem]) rfl ?_;rw[aq.o,if_pos ⟨HM.o,D.o⟩];exact⟨_,T,rfl,aL.o,am.o,aI.o,ao.o⟩
  .have t1:=Ra ld la (by omega)
   have t2:decide (ld<la)=false:=zA hl;have D:=gd hl;clear hl;go_wp2_with fail;refine bodyPost_ret (v:=.tuple #[.slice S la c2,(0:Int)]) (by simp[results,results20,go_sem]) rfl ?_;rw[aq.o,if_neg (λhh=>D.o hh.2)];exact⟨_,z,rfl,aC.o.Y ah.o,am.o,U.o,ak.o⟩
 .rw[if_neg hm]at r
  unfold o3 at r;obtain⟨rfl,q⟩:=r;have⟨am,ah,HM⟩:=Q9 (al.o.tq q) q hm;clear q hm E H I J;go_wp2_with fail;refine bodyPost_ret (v:=.tuple #[.slice S la c2,(0:Int)]) (by simp[results,results20,go_sem]) rfl ?_;rw[aq.o,if_neg (λhh=>HM.o hh.1)];exact⟨_,z,rfl,aC.o.Y ah.o,am.o,U.o,ak.o⟩
theorem KJ{p:qc}(r:p.Ok)(a:∀b∈lU p,b<2){w:World}(m:iK w){A:Option Addr}(q:gz b8 w A (jE (lU p)))(f:(jE (lU p)).length<=cap)(l:cap<=9223372036854775807):Calls prog 35 #[.slice A (jE (lU p)).length cap] w (lA w p):=by
 by_cases h:(ic p).length<=256/\(jE (ky none p)).length<(jE (oe p)).length
 .have e:lU p=ky none p:=if_pos h
  rw[e]at a q f⊢;exact KK (way:=none) (λ_ e=>by cases e) r h.1 (tR _ _ _ _ _) a m q f l
 .have e:lU p=oe p:=if_neg h
  rw[e]at a q f⊢;exact I0 (way:=none) (λ_ e=>by cases e) r (xq p 4) (xg r 4) (yt _ _) a m q f l
def nH(prev s:qc)(c:iW):Prop:=
 (c.k=true->c.ds=jE (lU s)/\∀b∈lU s,b<2) /\
 (c.k=false->∃ms:List (Int × Int),c.ds=mD prev s ms/\ms.length=(iM s.W s.H 8).length/\(∀i,i<ms.length->lO prev.W prev.H (gJ (iM s.W s.H 8) i) (ms.getD i (0,0)))/\tG prev s ms)
theorem yr{w:World}{x:Nat}{a b c:Value}(h:gn w x 43 #[a,b,c]):w.cell? x=some a/\w.cell? ⟨x,1,none⟩=some b/\w.cell? ⟨x,2,none⟩=some c:=⟨h.X 0,h.X 1,h.X 2⟩
theorem QW{w:World}{prev s:qc}{c:iW}(p:s.Ok)(r:nH prev s c){A:Option Addr}(h:gz b8 w A c.ds)(a:c.ds.length<=cap)(q:cap<=9223372036854775807)(X:iK w)(M N O:Int)(z3:Value)(l:c.k=false->∃(g o cp:Nat) (B:Nat->Option Addr) (cc:Nat->Nat) (G:List Nat),(M=(prev.W:Int)/\N=(prev.H:Int)/\O=(prev.d:Int)/\z3=.slice (some ⟨g,o,none⟩) prev.P.length cp)/\ip w prev g o B cc G/\iY prev s):Calls prog 23 #[.agg #[.int .i64 M,.int .i64 N,.int .i64 O,z3],.agg #[.bool c.k,.int .i64 c.t,.slice A c.ds.length cap]] w (lA w s):=by
 obtain⟨L,tt,ds⟩:=c;have⟨n,hn⟩:=zX ds.length;have T:L=true->∀wz,gg [] w wz->Calls prog 35 #[.slice A n cap] wz (lA wz s):=λhk wz f=>by
  obtain⟨I,U⟩:=r.1 hk;simp only at I h a;subst I;rw[hn];exact KJ p U (X.Y f) (h.Y f) a q
 have S:L=false->∀wz,gg [] w wz->Calls prog 36 #[.agg #[.int .i64 M,.int .i64 N,.int .i64 O,z3],.slice A n cap] wz (lA wz s):=λhk wz f=>by
  obtain⟨ms,I,U,h3,h4⟩:=r.2 hk;obtain⟨g,o,cp,B,cc,G,⟨e0,e1,e2,e3⟩,av,au⟩:=l hk;simp only at I h a;subst I;rw[hn,e0,e1,e2,e3];exact QH cp (av.Y f) p au (X.Y f) A cap ms U h3 h4 (h.Y f) a q
 unfold lA gW at T S⊢;simp only at h a⊢;rw[<-hn];have⟨w3,ae⟩:=zX (((w.alloc (.cells #[M,N,O,z3] 46)).alloc (.cells #[.bool L,tt,.slice A n cap] 43)).alloc (.cells #[(0:Int),(0:Int),(0:Int),.slice none 0 0] 46));have⟨R,hR⟩:=zX (w.heap.size+1+1);have Q:iF w3 R (.int .i64 0) (.int .i64 0) (.int .i64 0) (.slice none 0 0):=⟨by rw[ae,hR];exact gn.new3 w _ _ _ _⟩;have ao:gn w3 (w.heap.size+1) 43 #[.bool L,tt,.slice A n cap]:=by rw[ae];exact(gn.new2 w _ _ _).alloc _
 have ap:iF w3 w.heap.size (.int .i64 M) (.int .i64 N) (.int .i64 O) z3:=⟨by rw[ae];exact((gn.new w _ _).alloc _).alloc _⟩;have hC:gg [] w w3:=by rw[ae];exact(((zR [] w).alloc _).alloc _).alloc _
 obtain⟨u,y,z⟩:=yr ao;obtain⟨Z,y1,y2,y3⟩:=ap.cells;have⟨ar,aq,an,ag⟩:=gu T S ae hR;have⟨al,HC,am⟩:=Q9 Q hC Q.blk.lt;rw[ae]at u y z Z y1 y2 y3;clear T S ae hR Q ao ap hC l r hn h a q X p;cases L
 .go_enter func23,ntmps23
  go_wp2_with fail;rw[<-an.o,<-ag.o];refine(aq.o (by trivial) w3 HC.o).mono ?_;rintro e w4 ⟨m,D,ys,p,rfl,K,ad,E⟩;have f:=al.o.Y ad;obtain⟨aw,ax,ay,az⟩:=f.cells;have⟨f0,f1,f2,f3⟩:=RJ f.blk 0 1 2 3;have⟨HZ,HO,ah,aa⟩:=gu f K ad E;clear K ad E f u y z Z y1 y2 y3;go_wp2_with fail;refine qF HZ.o ?_;intro V W J;obtain⟨u,y,z,Y⟩:=W.cells;refine bodyPost_ret (v:=.tuple #[.agg #[.int .i64 s.W,.int .i64 s.H,.int .i64 s.d,.slice m s.P.length D],(0:Int)]) (by simp[results,results23,go_sem,u,y,z,Y]) rfl ?_;have H:∀x∈m::p,x∉[R]:=λx hx hm=>by have:=aa.o x hx;have:=am.o;simp at hm;omega
  exact⟨m,D,ys,p,rfl,HO.o.Z J (H m (by simp)) (λx hx=>H x (by simp[hx])),(HC.o.tq ah.o).trans J (λx hx=>.inr (by simp at hx;have:=ag.o;omega)),λx hx=>Nat.le_trans HC.o.size (aa.o x hx)⟩
 .go_enter func23,ntmps23
  go_wp2_with fail;rw[<-an.o,<-ag.o];refine(ar.o (by trivial) w3 HC.o).mono ?_;rintro e w4 ⟨m,D,ys,p,rfl,K,ad,E⟩;have f:=al.o.Y ad;obtain⟨aw,ax,ay,az⟩:=f.cells;have⟨f0,f1,f2,f3⟩:=RJ f.blk 0 1 2 3;have⟨HZ,HO,ah,aa⟩:=gu f K ad E;clear K ad E f u y z Z y1 y2 y3;go_wp2_with fail;refine qF HZ.o ?_;intro V W J;obtain⟨u,y,z,Y⟩:=W.cells;refine bodyPost_ret (v:=.tuple #[.agg #[.int .i64 s.W,.int .i64 s.H,.int .i64 s.d,.slice m s.P.length D],(0:Int)]) (by simp[results,results23,go_sem,u,y,z,Y]) rfl ?_;have H:∀x∈m::p,x∉[R]:=λx hx hm=>by have:=aa.o x hx;have:=am.o;simp at hm;omega
  exact⟨m,D,ys,p,rfl,HO.o.Z J (H m (by simp)) (λx hx=>H x (by simp[hx])),(HC.o.tq ah.o).trans J (λx hx=>.inr (by simp at hx;have:=ag.o;omega)),λx hx=>Nat.le_trans HC.o.size (aa.o x hx)⟩
def vb(b:Bool):Value:=.bool b
theorem Iu:jx prog 30 43 (.agg #[.bool false,(0:Int),.slice none 0 0]) 3 40:=.mk' underlying30 (by kernel_rfl)
def Rd:List Value:=[.bool false,.int .i64 0,.slice none 0 0]
def vv(c:iW)(A:Option Addr)(cap:Nat):List Value:=[.bool c.k,.int .i64 c.t,.slice A c.ds.length cap]
def vA(l:List iI)(ks:List Bool)(cs:List iW):Prop:=cs.length=l.length/\∀i,i<l.length->(iN cs i).k=ks.getD i false/\(iN cs i).t=(gV l i).t/\nH (gV l (i-1)).p (gV l i).p (iN cs i)
structure mg (w0:World) (n gC:Nat) (w:World) (cs:List iW) (vs:List (List Value)) (G:List Nat):Prop where
 vec:nG w gC 43 3 (vs++replicate (n-cs.length) Rd)
 lv:vs.length=cs.length
 cel:∀j,j<cs.length->∃A cap,vs[j]?=some (vv (iN cs j) A cap)/\gz b8 w A (iN cs j).ds/\(iN cs j).ds.length<=cap/\cap<=9223372036854775807/\∀ad,A=some ad->ad.block∈G
 gN:w0.heap.size<=gC
 new:∀x∈G,w0.heap.size<=x
 gG:gC∉G
 lt:∀x∈G,x<w.heap.size
 Z:gg [] w0 w
section
variable {w0 w wa:World} {n gC:Nat} {cs:List iW} {vs:List (List Value)} {G:List Nat}
theorem BT{cs:List iW}{c:iW}(h:j<cs.length):iN (cs++[c]) j=iN cs j:=by
 unfold iN;rw[zD,zD,getElem?_append_left h]
theorem BS(cs:List iW)(c:iW):iN (cs++[c]) cs.length=c:=by
 unfold iN;rw[zD,zS (zQ _),Nat.sub_self];rfl
theorem mg.Y(h:mg w0 n gC w cs vs G)(a:gg [] w wa):mg w0 n gC wa cs vs G where
 vec:=h.vec.Z a (by simp)
 lv:=h.lv
 cel:=λj hj=>by
  obtain⟨A,cap,f,l,m⟩:=h.cel j hj
  exact⟨A,cap,f,l.Y a,m⟩
 gN:=h.gN
 new:=h.new
 gG:=h.gG
 lt:=λx hx=>Nat.lt_of_lt_of_le (h.lt x hx) a.size
 Z:=h.Z.tq a
theorem mg.next(h:mg w0 n gC w cs vs G)(E:cs.length<n)(c:iW){A:Option Addr}(D:gz b8 w A c.ds)(y:c.ds.length<=cap)(z:cap<=9223372036854775807)(m:∀ad,A=some ad->ad.block∈F)(hF:∀x∈F,w0.heap.size<=x/\x<w.heap.size/\x≠gC):mg w0 n gC (((w.setCell ⟨gC,cs.length*3,none⟩ (.bool c.k)).setCell ⟨gC,cs.length*3+1,none⟩ (.int .i64 c.t)).setCell ⟨gC,cs.length*3+2,none⟩ (.slice A c.ds.length cap)) (cs++[c]) (vs++[vv c A cap]) (G++F):=by
 have f:gg [gC] w (((w.setCell ⟨gC,cs.length*3,none⟩ (.bool c.k)).setCell ⟨gC,cs.length*3+1,none⟩ (.int .i64 c.t)).setCell ⟨gC,cs.length*3+2,none⟩ (.slice A c.ds.length cap)) :=
  (((zR [gC] w).zs (cs.length*3) _).zs (cs.length*3+1) _).zs (cs.length*3+2) _
 refine⟨?_,by simp[h.lv],λj hj=>?_,h.gN,λx hx=>?_,λhx=>?_,λx hx=>?_,h.Z.trans f (λx hx=>.inr (by simp at hx;subst hx;exact h.gN))⟩
 .have a:=h.vec.set3 cs.length (.bool c.k) (.int .i64 c.t) (.slice A c.ds.length cap)
  have e:(vs++replicate (n-cs.length) Rd).set cs.length [.bool c.k,.int .i64 c.t,.slice A c.ds.length cap]=(vs++[vv c A cap])++replicate (n-(cs++[c]).length) Rd:=by
   rw[set_append_right _ _ (by rw[h.lv];exact zQ _),h.lv,Nat.sub_self,zC,length_singleton,show n-cs.length=(n-(cs.length+1))+1 by omega,replicate_succ];simp[vv]
  rw[e]at a;exact a
 .rw[zC,length_singleton]at hj
  by_cases hjl:j<cs.length
  .obtain⟨p,q,r,s,u,v,l⟩:=h.cel j hjl
   rw[BT hjl];exact⟨p,q,by rw[getElem?_append_left (by rw[h.lv];exact hjl)];exact r,s.Z f (λad e hm=>by simp at hm;exact h.gG (by rw[<-hm];exact l ad e)),u,v,λad e=>mem_append_left _ (l ad e)⟩
  .obtain rfl:j=cs.length:=by omega
   rw[BS];exact⟨A,cap,by rw[zS (by rw[h.lv];exact zQ _),h.lv,Nat.sub_self];rfl,D.Z f (λad e hm=>by simp at hm;exact(hF _ (m ad e)).2.2 hm),y,z,λad e=>List.mem_append_right _ (m ad e)⟩
 .rcases zP.1 hx with a|a
  .exact h.new x a
  .exact(hF x a).1
 .rcases zP.1 hx with a|a
  .exact h.gG a
  .exact(hF _ a).2.2 rfl
 .have:=f.size
  rcases zP.1 hx with a|a
  .have:=h.lt x a;omega
  .have:=(hF x a).2.1;omega
theorem mg.done(h:mg w0 n gC w cs vs G):lZ w (some ⟨gC,0,none⟩) cs (gC::G) where
 ex:=λh0=>⟨gC,0,rfl,by simp,λi hi=>by
  obtain⟨A,cap,a,l,m,p,q⟩:=h.cel i hi
  have f:(vs++replicate (n-cs.length) Rd)[i]?=some (vv (iN cs i) A cap):=by rw[getElem?_append_left (by rw[h.lv];exact hi)];exact a
  rw[Nat.zero_add]
  exact⟨A,cap,h.vec.X (j:=0) f rfl,h.vec.X (j:=1) f rfl,h.vec.X (j:=2) f rfl,l,m,p,λad e=>mem_cons_of_mem _ (q ad e)⟩⟩
 lt:=λx hx=>by
  rcases zJ.1 hx with rfl|a
  .exact h.vec.blk.lt
  .exact h.lt x a
theorem mg.zero(h:mg w0 n gC w cs vs G)(f:cs.length<n):(w.cell? ⟨gC,cs.length*3,none⟩=some (.bool false)/\w.cell? ⟨gC,cs.length*3+1,none⟩=some (.int .i64 0)/\w.cell? ⟨gC,cs.length*3+2,none⟩=some (.slice none 0 0))/\∀j,w.frozen? ⟨gC,j,none⟩=false:=by
 have a:(vs++replicate (n-cs.length) Rd)[cs.length]?=some Rd:=by
  rw[zS (by rw[h.lv];exact zQ _),h.lv,Nat.sub_self,getElem?_replicate,if_pos (by omega)]
 exact⟨⟨h.vec.X (j:=0) a rfl,h.vec.X (j:=1) a rfl,h.vec.X (j:=2) a rfl⟩,h.vec.blk.U⟩
theorem mg.start(w0:World)(n:Nat):mg w0 n w0.heap.size (w0.alloc (.cells ((replicate n Rd).flatten).toArray 43)) [] [] [] where
 vec:=⟨by simpa using gn.new w0 43 ((replicate n Rd).flatten).toArray,λx hx=>by simp at hx;rw[hx.2];rfl⟩
 lv:=rfl
 cel:=λj hj=>by simp at hj
 gN:=zQ _
 new:=by simp
 gG:=by simp
 lt:=by simp
 Z:=(zR [] w0).alloc _
end
theorem Ia:jx prog 25 48 (.agg #[(0:Int),(0:Int),(0:Int),(0:Int),.slice none 0 0]) 5 56:=.mk' underlying25 (by kernel_rfl)
def pq:List Value:=[.int .i64 0,.int .i64 0,.int .i64 0,.int .i64 0,.slice none 0 0]
def og(s:iI)(gp op cp:Nat):List Value:=[.int .i64 s.t,.int .i64 s.p.W,.int .i64 s.p.H,.int .i64 s.p.d,.slice (some ⟨gp,op,none⟩) s.p.P.length cp]
structure lN (w0:World) (n gS:Nat) (w:World) (ss:List iI) (vs:List (List Value)) (G:List Nat):Prop where
 vec:nG w gS 48 5 (vs++replicate (n-ss.length) pq)
 lv:vs.length=ss.length
 pic:∀j,j<ss.length->∃(gp op cp:Nat) (B:Nat->Option Addr) (c:Nat->Nat) (Gp:List Nat),vs[j]?=some (og (gV ss j) gp op cp)/\ip w (gV ss j).p gp op B c Gp/\∀x∈Gp,x∈G
 gN:w0.heap.size<=gS
 new:∀x∈G,w0.heap.size<=x
 gG:gS∉G
 lt:∀x∈G,x<w.heap.size
 Z:gg [] w0 w
section
variable {w0 w wa:World} {n gS:Nat} {ss:List iI} {vs:List (List Value)} {G:List Nat}
theorem tE{ss:List iI}{s:iI}(h:j<ss.length):gV (ss++[s]) j=gV ss j:=by
 unfold gV;rw[zD,zD,getElem?_append_left h]
theorem ya(ss:List iI)(s:iI):gV (ss++[s]) ss.length=s:=by
 unfold gV;rw[zD,zS (zQ _),Nat.sub_self];rfl
theorem lN.chgd(h:lN w0 n gS w ss vs G)(a:gg F w wa)(hF:∀x∈F,w0.heap.size<=x/\x≠gS/\x∉G):lN w0 n gS wa ss vs G where
 vec:=h.vec.Z a (λhm=>(hF _ hm).2.1 rfl)
 lv:=h.lv
 pic:=λj hj=>by
  obtain⟨m,r,cp,B,c,l,p,q,f⟩:=h.pic j hj
  exact⟨m,r,cp,B,c,l,p,q.Z a (λx hx hm=>(hF x hm).2.2 (f x hx)),f⟩
 gN:=h.gN
 new:=h.new
 gG:=h.gG
 lt:=λx hx=>Nat.lt_of_lt_of_le (h.lt x hx) a.size
 Z:=h.Z.trans a (λx hx=>.inr (hF x hx).1)
theorem lN.Y(h:lN w0 n gS w ss vs G)(a:gg [] w wa):lN w0 n gS wa ss vs G:=h.chgd a (by simp)
theorem lN.cells(h:lN w0 n gS w ss vs G)(p:j<ss.length):∃(a l cp:Nat) (B:Nat->Option Addr) (c:Nat->Nat) (m:List Nat),tH w (gV ss j) gS (j*5) a l cp/\ip w (gV ss j).p a l B c m/\∀x∈m,x∈G:=by
 obtain⟨a,l,cp,B,c,m,q,r,s⟩:=h.pic j p;have f:(vs++replicate (n-ss.length) pq)[j]?=some (og (gV ss j) a l cp):=by rw[getElem?_append_left (by rw[h.lv];exact p)];exact q
 exact⟨a,l,cp,B,c,m,⟨h.vec.X (j:=0) f rfl,h.vec.X (j:=1) f rfl,h.vec.X (j:=2) f rfl,h.vec.X (j:=3) f rfl,h.vec.X (j:=4) f rfl⟩,r,s⟩
theorem lN.next(h:lN w0 n gS w ss vs G)(J:ss.length<n)(s:iI){f l cp:Nat}{m:List Nat}(u:ip w s.p f l B c m)(hF:∀x∈m,w0.heap.size<=x/\x≠gS):lN w0 n gS (((((w.setCell ⟨gS,ss.length*5,none⟩ (.int .i64 s.t)).setCell ⟨gS,ss.length*5+1,none⟩ (.int .i64 s.p.W)).setCell ⟨gS,ss.length*5+2,none⟩ (.int .i64 s.p.H)).setCell ⟨gS,ss.length*5+3,none⟩ (.int .i64 s.p.d)).setCell ⟨gS,ss.length*5+4,none⟩ (.slice (some ⟨f,l,none⟩) s.p.P.length cp)) (ss++[s]) (vs++[og s f l cp]) (G++m):=by
 have p:gg [gS] w (((((w.setCell ⟨gS,ss.length*5,none⟩ (.int .i64 s.t)).setCell ⟨gS,ss.length*5+1,none⟩ (.int .i64 s.p.W)).setCell ⟨gS,ss.length*5+2,none⟩ (.int .i64 s.p.H)).setCell ⟨gS,ss.length*5+3,none⟩ (.int .i64 s.p.d)).setCell ⟨gS,ss.length*5+4,none⟩ (.slice (some ⟨f,l,none⟩) s.p.P.length cp)) :=
  (((((zR [gS] w).zs (ss.length*5) _).zs (ss.length*5+1) _).zs (ss.length*5+2) _).zs (ss.length*5+3) _).zs (ss.length*5+4) _
 refine⟨?_,by simp[h.lv],λj hj=>?_,h.gN,λx hx=>?_,λhx=>?_,λx hx=>?_,h.Z.trans p (λx hx=>.inr (by simp at hx;subst hx;exact h.gN))⟩
 .have a:=h.vec.set5 ss.length (.int .i64 s.t) (.int .i64 s.p.W) (.int .i64 s.p.H) (.int .i64 s.p.d) (.slice (some ⟨f,l,none⟩) s.p.P.length cp)
  have e:(vs++replicate (n-ss.length) pq).set ss.length (og s f l cp)=(vs++[og s f l cp])++replicate (n-(ss++[s]).length) pq:=by
   rw[set_append_right _ _ (by rw[h.lv];exact zQ _),h.lv,Nat.sub_self,zC,length_singleton,show n-ss.length=(n-(ss.length+1))+1 by omega,replicate_succ];simp
  have r:nG _ gS 48 5 ((vs++replicate (n-ss.length) pq).set ss.length (og s f l cp)):=a;rw[e]at r;exact r
 .rw[zC,length_singleton]at hj
  by_cases hjl:j<ss.length
  .obtain⟨ad,D,z,v,E,y,H,I,q⟩:=h.pic j hjl
   rw[tE hjl];exact⟨ad,D,z,v,E,y,by rw[getElem?_append_left (by rw[h.lv];exact hjl)];exact H,I.Z p (λx hx hm=>by simp at hm;subst hm;exact h.gG (q _ hx)),λx hx=>mem_append_left _ (q x hx)⟩
  .obtain rfl:j=ss.length:=by omega
   rw[ya];exact⟨f,l,cp,B,c,m,by rw[zS (by rw[h.lv];exact zQ _),h.lv,Nat.sub_self];rfl,u.Z p (λx hx hm=>by simp at hm;exact(hF x hx).2 hm),λx hx=>List.mem_append_right _ hx⟩
 .rcases zP.1 hx with a|a
  .exact h.new x a
  .exact(hF x a).1
 .rcases zP.1 hx with a|a
  .exact h.gG a
  .exact(hF _ a).2 rfl
 .have:=p.size
  rcases zP.1 hx with a|a
  .have:=h.lt x a;omega
  .have:=u.lt x a;omega
theorem lN.done(h:lN w0 n gS w ss vs G):jY w (some ⟨gS,0,none⟩) ss (gS::G) where
 ex:=λh0=>⟨gS,0,rfl,by simp,λi hi=>by
  obtain⟨l,v,cp,B,c,f,⟨a,m,p,q,r⟩,s,u⟩:=h.cells hi
  rw[Nat.zero_add]
  exact⟨l,v,cp,B,c,f,a,m,p,q,r,s,λx hx=>mem_cons_of_mem _ (u x hx)⟩⟩
 lt:=λx hx=>by
  rcases zJ.1 hx with rfl|a
  .exact h.vec.blk.lt
  .exact h.lt x a
theorem lN.zero(h:lN w0 n gS w ss vs G)(f:ss.length<n):(w.cell? ⟨gS,ss.length*5,none⟩=some (.int .i64 0)/\w.cell? ⟨gS,ss.length*5+1,none⟩=some (.int .i64 0)/\w.cell? ⟨gS,ss.length*5+2,none⟩=some (.int .i64 0)/\w.cell? ⟨gS,ss.length*5+3,none⟩=some (.int .i64 0)/\w.cell? ⟨gS,ss.length*5+4,none⟩=some (.slice none 0 0))/\∀j,w.frozen? ⟨gS,j,none⟩=false:=by
 have a:(vs++replicate (n-ss.length) pq)[ss.length]?=some pq:=by
  rw[zS (by rw[h.lv];exact zQ _),h.lv,Nat.sub_self,getElem?_replicate,if_pos (by omega)]
 exact⟨⟨h.vec.X (j:=0) a rfl,h.vec.X (j:=1) a rfl,h.vec.X (j:=2) a rfl,h.vec.X (j:=3) a rfl,h.vec.X (j:=4) a rfl⟩,h.vec.blk.U⟩
theorem lN.start(w0:World)(n:Nat):lN w0 n w0.heap.size (w0.alloc (.cells ((replicate n pq).flatten).toArray 48)) [] [] [] where
 vec:=⟨by simpa using gn.new w0 48 ((replicate n pq).flatten).toArray,λx hx=>by simp at hx;rw[hx.2];rfl⟩
 lv:=rfl
 pic:=λj hj=>by simp at hj
 gN:=zQ _
 new:=by simp
 gG:=by simp
 lt:=by simp
 Z:=(zR [] w0).alloc _
end
def IM(w:World)(c:iW)(g a:Nat)(A:Option Addr)(cap:Nat):Prop:=w.cell? ⟨g,a,none⟩=some (.bool c.k)/\w.cell? ⟨g,a+1,none⟩=some (.int .i64 c.t)/\w.cell? ⟨g,a+2,none⟩=some (.slice A c.ds.length cap)
theorem lZ.stay{w:World}{g o:Nat}{l:List iW}{G:List Nat}(h:lZ w (some ⟨g,o,none⟩) l G)(v:i<l.length):∃(A:Option Addr) (cap:Nat),(iN l i).ds.length<=cap/\cap<=9223372036854775807/\∀wz,gg [] w wz->IM wz (iN l i) g (o+i*3) A cap/\gz b8 wz A (iN l i).ds:=by
 obtain⟨x,z,e,u,a⟩:=h.ex (by omega);injection e with e;injection e with e1 e2;subst e1;subst e2;obtain⟨A,cap,f,m,p,q,r,s,y⟩:=a i v;refine⟨A,cap,r,s,λwz hc=>?_⟩;have e:∀k,wz.cell? ⟨g,k,none⟩=w.cell? ⟨g,k,none⟩:=λk=>World.cell?_of_block (w:=w) (hc.block g (h.lt g u) (by simp));exact⟨⟨(e _).trans f,(e _).trans m,(e _).trans p⟩,q.Y hc⟩
structure yh (cs:List iW) (ls:List iI):Prop where
 len:cs.length=ls.length
 key:(iN cs 0).k=true
 cel:∀i,i<ls.length->(iN cs i).t=(gV ls i).t/\nH (gV ls (i-1)).p (gV ls i).p (iN cs i)
theorem B5{w:World}{A:Option Addr}{cs:List iW}{G:List Nat}(cap:Nat)(h:lZ w A cs G){ls:List iI}(l:nF ls)(hc:yh cs ls)(hp:iK w):Calls prog 10 #[.slice A cs.length cap] w λe w'=>∃(gS:Nat) (G':List Nat),e=.returned (.tuple #[.slice gS cs.length cs.length,(0:Int)])/\jY w' (some ⟨gS,0,none⟩) ls G'/\gg [] w w'/\∀x∈G',w.heap.size<=x:=by
 have cy:=l.n0;have bL:=l.n1;have af:=hc.len;obtain⟨g,o,rfl,cv,-⟩:=h.ex (by omega);have a1:∀i,i<cs.length->∃(A:Option Addr) (cap:Nat),(iN cs i).ds.length<=cap/\cap<=9223372036854775807/\∀wz,gg [] w wz->IM wz (iN cs i) g (o+i*3) A cap/\gz b8 wz A (iN cs i).ds:=λi J=>h.stay J;have br:=l.times;have y:∀i,i<cs.length->(ls.map (·.t)).getD i 0=(iN cs i).t:=λi J=>by rw[oh (by omega),(hc.cel i (by omega)).1]
 have aX:(ls.map (·.t)).length=ls.length:=zE _;have⟨ts,bP⟩:=zX (ls.map (·.t));rw[<-bP]at br y aX;have ak:=hc.cel;have am:=hc.key;have⟨n,hn⟩:=zX cs.length;rw[<-hn]at a1 y af⊢;rw[<-af]at cy bL aX ak;have cw:=kg (P:=prog) IE rfl .i64 .i64 n (by omega) (by omega);have cx:∀w,(Instr.makeSlice 25 (.int .i64 n) (.int .i64 n)).run prog w=.ok (.slice (some ⟨w.heap.size,0,none⟩) n n) (w.alloc (.cells ((replicate n pq).flatten).toArray 48)):=B4 (P:=prog) Ia rfl (by decide) .i64 .i64 n (by omega) (by omega);obtain⟨A0,ct,-,-,aP⟩:=a1 0 (by omega);obtain⟨⟨k0,-,-⟩,-⟩:=aP w (zR [] w);rw[Nat.zero_mul,Nat.add_zero,am]at k0;have⟨bA,ch,cj,ax⟩:=gu a1 br y aX;have⟨a6,ba,bb,bx⟩:=gu ak am l af;have HP:=gd hp;have t1:=Ra n 1 (by omega);have t2:=Ra 64 n (by omega);have b0:(0:Int)<(n:Int):=by omega
 have⟨w2,a2⟩:=zX (w.alloc (.cells (Array.replicate n (Value.int .i64 0)) 2));have⟨gT,bn⟩:=zX w.heap.size;have aq:gv w2 2 (.slice gT n n) gT ((ia (ts.take 0) n).map vi):=by
  have I:=gv.made w 2 (replicate n (Value.int .i64 0)) (by simp[maxLen];omega);rw[zV,toArray_replicate]at I;rw[take_zero,BD,map_replicate,a2,bn];exact I
 have bc:=gd aq;have bT:gh (gg [] w w2):=gd (by rw[a2];exact(zR [] w).alloc _);have bZ:gh (w.heap.size<=gT/\gT<w2.heap.size):=gd ⟨by omega,aq.lt⟩;have⟨ck,a9⟩:=gy a2 bn;clear h l hc af cv a1 br y aX bP ak am hn aP hp a2 bn aq;go_enter func10,ntmps10;go_wp2_with fail;rw[<-ck.o,<-a9.o];clear k0 cw
 go_loopg [5,6,31] n (λj v5 v6 v31 wr=>∃i:Nat,v31=.int .i64 i/\i+j=n/\gh (gv wr 2 (.slice gT n n) gT ((ia (ts.take i) n).map vi))/\gh (gg [gT] w2 wr))
 .exact⟨0,rfl,by omega,bc,gd (zR _ _)⟩
 obtain⟨i,rfl,cH,HR,bw⟩:=hrel;have ah:gh (gg [] w wr):=gd (bT.o.trans bw.o (λx hx=>.inr (by simp at hx;have:=bZ.o;omega)));rcases gk with _|j
 .obtain rfl:i=n:=by omega
  have t3:decide ((i:Int)<(i:Int))=false:=by simp
  have hr:=HR.o;rw[zT (by rw[ax.o];exact zQ _),q7 ax.o]at hr;have Q:=IB wr (some ⟨gT,0,none⟩) i ts hr.R.cells (by rw[ax.o];exact bL) ch.o;rw[ax.o]at Q;clear hr;go_wp2_with fail;refine gB Q ?_;have⟨w4,bs⟩:=zX (wr.alloc (.cells ((replicate i pq).flatten).toArray 48));have⟨gS,aW⟩:=zX wr.heap.size;have bN:lN wr i gS w4 [] [] []:=by rw[aW,bs];exact lN.start wr i
  have⟨cg,cl,bY⟩:=Q9 bN bs aW;have⟨wR,cB⟩:=zX wr;subst cB;clear Q bN bs aW;go_wp2_with fail;rw[<-cl.o,<-bY.o];clear t3
  go_loopg [8,9,10,11,12,50] i (λj v8 v9 v10 v11 v12 v50 wz=>∃(q:Nat) (vs:List (List Value)) (Gs:List Nat),v50=.int .i64 q/\q+j=i/\gh (lN wR i gS wz (ls.take q) vs Gs))
  .exact⟨0,[],[],rfl,by omega,cg⟩
  obtain⟨q,vs,Gs,rfl,cI,z⟩:=hrel;have a8:gh (gg [] w wr):=gd (ah.o.tq z.o.Z);rcases gk with _|j
  .obtain rfl:q=i:=by omega
   have t3:decide ((q:Int)<(q:Int))=false:=(by simp);have V:=z.o;rw[zT (by rw[<-bx.o];exact zQ _)]at V;have HD:=gd V.done;have bX:gh (∀x∈gS::Gs,w.heap.size<=x):=gd (λx hx=>by
    have h9:=ah.o.size;rcases zJ.1 hx with rfl|I
    .have:=V.gN;omega
    .have:=V.new x I;omega)
   clear V;go_wp2_with fail;refine bodyPost_ret (v:=.tuple #[.slice gS q q,(0:Int)]) (by simp[results,results10,go_sem]) rfl ?_;exact⟨gS,gS::Gs,rfl,HD.o,a8.o,bX.o⟩
  .have hq:q<i:=by omega
   have a0:q<ls.length:=(by rw[<-bx.o];exact hq);have bO:(ls.take q).length=q:=(by rw[zI];omega);have t3:=jo q i (by omega);have b1:(0:Int)<=(q:Int):=(by omega);have b2:(q:Int)<(i:Int):=(by omega);obtain⟨L,U,bk,bH,H⟩:=bA.o q hq;obtain⟨aV,aU⟩:=a6.o q hq;obtain⟨⟨c0,c1,c2⟩,-⟩:=H wr a8.o;have au:=bb.o.ok q a0;have aj:=bb.o.al q a0;have⟨s,bq⟩:=zX (gV ls q);rw[<-bq]at aV aU au aj;have bl:q=0->(iN cs q).k=true:=λe=>by rw[e];exact ba.o
   have⟨c,aN⟩:=zX (iN cs q);rw[<-aN]at c0 c1 c2 aV aU bk H bl;have⟨w5,ab⟩:=zX (wr.alloc (.cells #[.bool c.k,c.t,.slice L c.ds.length U] 43));have⟨X5,ae⟩:=zX wr.heap.size;have⟨w6,aR⟩:=zX (w5.alloc (.cells #[(0:Int),(0:Int),(0:Int),.slice none 0 0] 46));have⟨X6,bh⟩:=zX (X5+1);have Y:gn w6 X5 43 #[.bool c.k,c.t,.slice L c.ds.length U]:=(by rw[aR,ab,ae];exact(gn.new wr _ _).alloc _);have bi:iF w6 X6 (.int .i64 0) (.int .i64 0) (.int .i64 0) (.slice none 0 0):=⟨by rw[aR,ab,bh,ae];exact gn.new2 wr _ _ _⟩;have bC:gg [] wr w6:=(by rw[aR,ab];exact((zR [] wr).alloc _).alloc _);have cF:gh (wr.heap.size<=X5/\X5<X6/\X6<w6.heap.size):=gd ⟨by omega,by omega,bi.blk.lt⟩;have⟨bR,bS,bv⟩:=Q9 Y bi bC;have bB:gh (w6=(wr.alloc (.cells #[.bool c.k,c.t,.slice L c.ds.length U] 43)).alloc (.cells #[(0:Int),(0:Int),(0:Int),.slice none 0 0] 46)):=gd (by rw[aR,ab]);have⟨aI,bd,ce,a7⟩:=gu ae bh H (And.intro aU (And.intro bk bH));have⟨bW,cf,aF,cd⟩:=gu aV au aj bq;have⟨aH,bU⟩:=gy bO bl;have⟨wo,cC⟩:=zX wr;subst cC;clear H aU bk bH aV au aj bq bO bl aN ab ae aR bh Y bi bC;by_cases hq0:q=0
   focus
    have t4:=Ra 0 q (by omega);have t5:decide (0<q)=false:=zA (by omega);have cb:=gd hq0;clear hq0
    go_upto_region 20 with fail
    rw[<-bB.o,<-aI.o,<-bd.o];obtain⟨f,m,r,u,a⟩:∃(f m r:Int) (u:Value),f=0/\m=0/\r=0/\u=.slice none 0 0:=⟨_,_,_,_,rfl,rfl,rfl,rfl⟩;have⟨wB,ad⟩:=zX w6;rw[<-ad];have bu:gh (iF wB X6 (.int .i64 f) (.int .i64 m) (.int .i64 r) u):=gd (by rw[a.1,a.2.1,a.2.2.1,a.2.2.2,ad];exact bS.o);have a5:gh (gn wB X5 43 #[.bool c.k,c.t,.slice L c.ds.length U]):=gd (by rw[ad];exact bR.o);have R:gh (gg [] wo wB):=gd (by rw[ad];exact bv.o);have bz:gh (c.k=false->∃(g o cp:Nat) (B:Nat->Option Addr) (cc:Nat->Nat) (G:List Nat),(f=((gV ls (q-1)).p.W:Int)/\m=((gV ls (q-1)).p.H:Int)/\r=((gV ls (q-1)).p.d:Int)/\u=.slice (some ⟨g,o,none⟩) (gV ls (q-1)).p.P.length cp)/\ip wB (gV ls (q-1)).p g o B cc G/\iY (gV ls (q-1)).p s.p):=gd (λe=>by rw[bU.o cb.o]at e;cases e);clear a ad t4 t5 c0 c1 c2
   rotate_left
   focus
    have t5:decide (0<q)=true:=zB (by omega);obtain⟨gp,op,cp,B,cc,Gp,bp,aY,-⟩:=z.o.cells (j:=q-1) (by rw[aH.o];omega);have e1:gV (ls.take q) (q-1)=gV ls (q-1):=ql (by omega);rw[e1]at bp aY;have⟨p,aZ⟩:=zX (gV ls (q-1));rw[<-aZ]at bp aY;have bG:iY p.p s.p:=by
     rw[aZ];exact(bb.o.al (q-1) (by omega)).sym.tr aF.o
    have⟨ca,bQ,b9⟩:=Q9 aZ bG aY;have Z:∀k v,wo.cell? ⟨gS,k,none⟩=some v->w6.cell? ⟨gS,k,none⟩=some v:=λk v h9=>(World.cell?_of_block (w:=wo) (bv.o.block gS z.o.vec.blk.lt (by simp))).trans h9;obtain⟨-,S,T,M,N⟩:=bp;have d1:w6.cell? ⟨gS,(q-1)*5+1,none⟩=some (.int .i64 p.p.W):=Z _ _ S;have d2:w6.cell? ⟨gS,(q-1)*5+1+1,none⟩=some (.int .i64 p.p.H):=Z _ _ T;have d3:w6.cell? ⟨gS,(q-1)*5+1+2,none⟩=some (.int .i64 p.p.d):=Z _ _ M;have d4:w6.cell? ⟨gS,(q-1)*5+1+3,none⟩=some (.slice (some ⟨gp,op,none⟩) p.p.P.length cp):=Z _ _ N;rw[bB.o]at d1 d2 d3 d4;have b3:(0:Int)<=(q:Int)-1:=(by omega);have b5:q<=64:=(by omega);clear e1 aZ bG aY Z S T M N
    try clear hq0
    go_upto_region 20 with fail
    rw[<-aI.o,<-bd.o];obtain⟨f,m,r,u,a⟩:∃(f m r:Int) (u:Value),f=(p.p.W:Int)/\m=(p.p.H:Int)/\r=(p.p.d:Int)/\u=.slice (some ⟨gp,op,none⟩) p.p.P.length cp:=⟨_,_,_,_,rfl,rfl,rfl,rfl⟩;have⟨wB,ad⟩:=zX ((wo.alloc (.cells #[.bool c.k,c.t,.slice L c.ds.length U] 43)).alloc (.cells #[p.p.W,p.p.H,p.p.d,.slice (some ⟨gp,op,none⟩) p.p.P.length cp] 46));rw[<-ad];have R:gh (gg [] wo wB):=gd (by rw[ad];exact((zR [] wo).alloc _).alloc _);have bu:gh (iF wB X6 (.int .i64 f) (.int .i64 m) (.int .i64 r) u):=gd ⟨by rw[a.1,a.2.1,a.2.2.1,a.2.2.2,ad,bd.o,aI.o];exact gn.new2 wo _ _ _⟩;have a5:gh (gn wB X5 43 #[.bool c.k,c.t,.slice L c.ds.length U]):=gd (by rw[ad,aI.o];exact(gn.new wo _ _).alloc _);have bz:gh (c.k=false->∃(g o cp:Nat) (B:Nat->Option Addr) (cc:Nat->Nat) (G:List Nat),(f=((gV ls (q-1)).p.W:Int)/\m=((gV ls (q-1)).p.H:Int)/\r=((gV ls (q-1)).p.d:Int)/\u=.slice (some ⟨g,o,none⟩) (gV ls (q-1)).p.P.length cp)/\ip wB (gV ls (q-1)).p g o B cc G/\iY (gV ls (q-1)).p s.p):=gd (λ_=>by
     rw[<-ca.o];exact⟨gp,op,cp,B,cc,Gp,⟨a.1,a.2.1,a.2.2.1,a.2.2.2⟩,b9.o.Y R.o,bQ.o⟩)
    clear a ad t5 b3 b5 d1 d2 d3 d4 c0 c1 c2
   all_goals
    have aG:gh (gg [] w wB):=gd (a8.o.tq R.o);have bm:=QW (w:=wB) (prev:=(gV ls (q-1)).p) (s:=s.p) (c:=c) cf.o a7.o.1 ((ce.o wB aG.o).2) a7.o.2.1 a7.o.2.2 (HP.o.Y aG.o) f m r u bz.o;unfold lA gW at bm;obtain⟨y0,y1,y2,y3⟩:=bu.o.cells;obtain⟨W,K,X⟩:=yr a5.o;go_wp2_with fail;refine bm.mono ?_;rintro e w7 ⟨gQ,ac,ys,V,rfl,ho,bf,aa⟩;clear W K X y0 y1 y2 y3 bm;have⟨w8,aE⟩:=zX (w7.alloc (.cells #[s.p.W,s.p.H,s.p.d,.slice gQ s.p.P.length ac] 46));have⟨X8,aJ⟩:=zX w7.heap.size;have aT:=H4 aE;have bj:iF w8 X8 (.int .i64 s.p.W) (.int .i64 s.p.H) (.int .i64 s.p.d) (.slice gQ s.p.P.length ac):=⟨RD aE aJ⟩;have ai:gg [] wB w8:=bf.tq aT;have av:=z.o.Y (R.o.tq ai);have aW:gS<wB.heap.size:=Nat.lt_of_lt_of_le z.o.vec.blk.lt R.o.size;have aK:gS≠X8:=λe=>by rw[aJ]at e;have:=bf.size;omega
    obtain⟨⟨u0,u1,u2,u3,u4⟩,O⟩:=av.zero (by rw[aH.o];exact hq);rw[aH.o]at u0 u1 u2 u3 u4;have f0:=O (q*5);have f1:=O (q*5+1);have f2:=O (q*5+2);have f3:=O (q*5+3);have f4:=O (q*5+4);have E:=av.next (cp:=ac) (by rw[aH.o];exact hq) s (ho.Y aT).at_ (λx hx=>⟨by have:=aa x hx;have:=R.o.size;have:=z.o.Z.size;omega,λe=>by have:=aa x hx;omega⟩);have bF:ls.take q++[s]=ls.take (q+1):=by
     rw[take_succ_eq_append_getElem a0,cd.o]
     congr 2
     unfold gV;rw[zD,zF a0];rfl
    rw[aH.o,bF]at E;have⟨w9,a3⟩:=zX ((((((w8.setCell ⟨gS,q*5,none⟩ (.int .i64 s.t)).setCell ⟨gS,q*5+1,none⟩ (.int .i64 s.p.W)).setCell ⟨gS,q*5+2,none⟩ (.int .i64 s.p.H)).setCell ⟨gS,q*5+3,none⟩ (.int .i64 s.p.d)).setCell ⟨gS,q*5+4,none⟩ (.slice gQ s.p.P.length ac)));rw[<-a3]at E;have bg:gg [gS] w8 w9:=by
     rw[a3];exact(((((zR [gS] w8).zs (q*5) _).zs (q*5+1) _).zs (q*5+2) _).zs (q*5+3) _).zs (q*5+4) _
    obtain⟨W,K,X⟩:=yr (a5.o.Z ai (by simp));obtain⟨v0,v1,v2,v3⟩:=bj.cells;rw[bW.o]at K;have aM:=bj.Z bg (by simp;exact λe=>aK e.symm);have bM:=(ho.Y aT).Z bg (by simp;exact λe=>by have:=aa gQ (by simp);omega) (λx hx=>by simp;exact λe=>by have:=aa x (by simp[hx]);omega);have⟨aS,a4,b7,cn⟩:=gu E aM bM aE;have⟨cr,co⟩:=gy aJ a3;rw[aE]at u0 u1 u2 u3 u4 f0 f1 f2 f3 f4 W K X;rw[aE,aJ]at v0 v1 v2 v3;clear ho bf aa aE aJ aT bj ai av aK O E bF a3 bg aM bM
    go_upto_region 24 with fail
    rw[<-cn.o,<-cr.o,<-co.o];clear u0 u1 u2 u3 u4 f0 f1 f2 f3 f4 W K X v0 v1 v2 v3;obtain⟨cu,cD,bE,B0,cG,cE,aQ,ap,-⟩:=aS.o.cells (j:=0) (by rw[zI];omega);have e0:gV (ls.take (q+1)) 0=gV ls 0:=ql (by omega);rw[e0]at aQ ap;have D:=λwz (a:gg [] w9 wz)=>yo bE (ap.Y a) ac (b7.o.at_.Y a) aF.o;unfold gW at D;obtain⟨-,S,T,M,N⟩:=aQ;have⟨s0,aP⟩:=zX ((gV ls 0).p);rw[<-aP]at D S T M N;have d1:w9.cell? ⟨gS,1,none⟩=some (.int .i64 s0.W):=S;have d2:w9.cell? ⟨gS,2,none⟩=some (.int .i64 s0.H):=T;have d3:w9.cell? ⟨gS,3,none⟩=some (.int .i64 s0.d):=M;have d4:w9.cell? ⟨gS,4,none⟩=some (.slice (some ⟨cu,cD,none⟩) s0.P.length bE):=N;obtain⟨v0,v1,v2,v3⟩:=a4.o.cells;have b4:=gd D;clear ap e0 D aP S T M N;refine i9 5 (by kernel_rfl) (by kernel_rfl) ?_;simp only[take_succ_cons,take_zero,drop_succ_cons,drop_zero]
    repeat(go_big_quiet_step (fail))
    refine wpQuiet_nil ?_;intro _ cA;obtain⟨nq,rfl⟩:=cA;have D:=b4.o _ ((zR [] w9).drewN nq);have b6:gh (gg [] w9 (w9.drewN nq)):=gd ((zR [] w9).drewN nq);clear d1 d2 d3 d4 v0 v1 v2 v3;go_wp2_with fail;refine D.mono ?_;rintro e wF ⟨rfl,bD⟩;have HF:=gd (aS.o.Y (b6.o.tq bD));clear D bD;go_wp2_with fail
    go_roundg j
    .exact⟨q+1,_,_,by go_num,by omega,HF⟩
    .omega
 .have J:i<n:=by omega
  have b1:(0:Int)<=(i:Int):=by omega
  have b2:(i:Int)<(n:Int):=by omega
  obtain⟨Ai,ci,-,-,H⟩:=bA.o i J;obtain⟨⟨c0,c1,c2⟩,-⟩:=H wr ah.o;have y:=cj.o i J;have⟨c,aN⟩:=zX (iN cs i);rw[<-aN]at c0 c1 c2 y;have⟨w5,ab⟩:=zX (wr.alloc (.cells #[.bool c.k,c.t,.slice Ai c.ds.length ci] 43));have⟨X5,ae⟩:=zX wr.heap.size;have Y:=RD ab ae;have be:=H4 ab;obtain⟨W,K,X⟩:=yr Y;have bK:i<(ia (ts.take i) n).length:=by rw[nM (by rw[zI];omega)];exact J
  have bo:=HR.o.Z be (by simp);obtain⟨_,-,-,-,bI,bJ⟩:=bo.T;have f:=bI i _ (zF bK);have fz:=bJ i;have E:gv (w5.setCell ⟨gT,i,none⟩ (.int .i64 c.t)) 2 (.slice gT n n) gT ((ia (ts.take (i+1)) n).map vi):=by
   have I:=bo.S (i:=i) (by rw[zE];exact bK) (.int .i64 c.t);have cz:(ts.take i).length=i:=(by rw[zI,ax.o];omega);have e:((ia (ts.take i) n).map vi).set i (.int .i64 c.t)=(ia (ts.take (i+1)) n).map vi:=by
    have h2:=sX (done:=ts.take i) (n:=n) (by omega) c.t;rw[cz]at h2;have Q:i<ts.length:=(by rw[ax.o];exact J);have e3:ts[i]=c.t:=by
     rw[zD,zF Q]at y;exact y
    rw[take_succ_eq_append_getElem Q,e3,<-h2,map_set];rfl
   rw[e]at I;exact I
  have aS:=gd E;have bV:gh (gg [gT] w2 (w5.setCell ⟨gT,i,none⟩ (.int .i64 c.t))):=gd ((bw.o.tq (be.mono (by simp))).setCell (p:=⟨gT,i,none⟩) (.inl (by simp)) _);have⟨cm,aI⟩:=gy ab ae;rw[ab,ae]at W K X;rw[ab]at f fz;clear H aN Y be bo bI bJ E y ab ae;go_wp2_with fail;rw[<-cm.o]
  go_roundg j
  .exact⟨i+1,by go_num,by omega,aS,bV⟩
  .omega
section
variable {P:Program} {t e:TypeId}
theorem Rs(m:P.underlying t=some (.slice e))(q:∀w,(sizeOf e).run P w=.ok k w)(g o n c a f:Nat)(h:a<f)(r:f<=n)(p:n<=c)(w:World):(Instr.slice t (.slice (some ⟨g,o,none⟩) n c) (some (.int .i64 a)) (some (.int .i64 f)) none).run P w=.ok (.slice (some ⟨g,o+a*k,none⟩) (f-a) (c-a)) w:=by
 have l:=th m;rw[run_slice_lh (P:=P) (w:=w) t (some ⟨g,o,none⟩) n c (by rw[l];exact m) .i64 .i64 (a:Int) (f:Int) (by omega) (by omega) (by omega),l,q];simp[sliced];rw[if_neg (by omega)];unfold Addr.add;split
 .rename_i h0;rw[h0];rfl
 .rfl
end
section
variable {w:World} {G:List Nat} {A:Option Addr} {g o:Nat}
theorem lZ.drop{l:List iW}(h:lZ w (some ⟨g,o,none⟩) l G)(k:Nat):lZ w (some ⟨g,o+k*3,none⟩) (l.drop k) G where
 ex:=λh0=>by
  rw[zO]at h0
  obtain⟨m,p,e,a,f⟩:=h.ex (by omega)
  injection e with e
  injection e with e1 e2
  subst e1 e2
  refine⟨g,o+k*3,rfl,a,λi hl=>?_⟩
  rw[zO]at hl
  have:=f (k+i) (by omega)
  rw[BP]
  rwa [show o+k*3+i*3=o+(k+i)*3 by omega]
 lt:=h.lt
theorem lZ.take{l:List iW}(h:lZ w A l G)(k:Nat):lZ w A (l.take k) G where
 ex:=λh0=>by
  rw[zI]at h0
  obtain⟨a,p,e,f,m⟩:=h.ex (by omega)
  refine⟨a,p,e,f,λi hl=>?_⟩
  rw[zI]at hl
  rw[BQ (by omega)]
  exact m i (by omega)
 lt:=h.lt
theorem jY.drop{l:List iI}(h:jY w (some ⟨g,o,none⟩) l G)(k:Nat):jY w (some ⟨g,o+k*5,none⟩) (l.drop k) G where
 ex:=λh0=>by
  rw[zO]at h0
  obtain⟨m,p,e,a,f⟩:=h.ex (by omega)
  injection e with e
  injection e with e1 e2
  subst e1 e2
  refine⟨g,o+k*5,rfl,a,λi hl=>?_⟩
  rw[zO]at hl
  have:=f (k+i) (by omega)
  rw[rB]
  rwa [show o+k*5+i*5=o+(k+i)*5 by omega]
 lt:=h.lt
theorem jY.take{l:List iI}(h:jY w A l G)(k:Nat):jY w A (l.take k) G where
 ex:=λh0=>by
  rw[zI]at h0
  obtain⟨a,p,e,f,m⟩:=h.ex (by omega)
  refine⟨a,p,e,f,λi hl=>?_⟩
  rw[zI]at hl
  rw[ql (by omega)]
  exact m i (by omega)
 lt:=h.lt
end
theorem nF.drop{l:List iI}(h:nF l)(f:k<l.length):nF (l.drop k) where
 n0:=by rw[zO];omega
 n1:=by have:=h.n1;rw[zO];omega
 ok:=λi hi=>by
  rw[zO]at hi
  rw[rB]
  exact h.ok _ (by omega)
 al:=λi hi=>by
  rw[zO]at hi
  rw[rB,rB]
  exact(h.al _ (by omega)).sym.tr (h.al _ (by omega))
 times:=λi hi=>by
  simp only[zE,zO]at hi
  have:=h.times (k+i) (by simp;omega)
  rw[oh (by rw[zO];omega),rB]
  rw[oh (by omega)]at this
  refine⟨this.1,this.2.1,λh0=>?_⟩
  have a:=this.2.2 (by omega)
  rw[oh (by omega)]at a
  rwa [oh (by rw[zO];omega),rB,show k+(i-1)=k+i-1 by omega]
theorem nF.take{l:List iI}(h:nF l)(m:k<=l.length)(a:0<k):nF (l.take k) where
 n0:=by rw[zI];omega
 n1:=by have:=h.n1;rw[zI];omega
 ok:=λi hi=>by
  rw[zI]at hi
  rw[ql (by omega)]
  exact h.ok _ (by omega)
 al:=λi hi=>by
  rw[zI]at hi
  rw[ql (by omega),ql (by omega)]
  exact h.al _ (by omega)
 times:=λi hi=>by
  simp only[zE,zI]at hi
  have:=h.times i (by simp;omega)
  rw[oh (by rw[zI];omega),ql (by omega)]
  rw[oh (by omega)]at this
  refine⟨this.1,this.2.1,λa=>?_⟩
  have f:=this.2.2 a
  rw[oh (by omega)]at f
  rwa [oh (by rw[zI];omega),ql (by omega)]
theorem vA.drop{l:List iI}{ks:List Bool}{cs:List iW}(h:vA l ks cs)(m:k<l.length)(a:ks.getD k false=true):yh (cs.drop k) (l.drop k) where
 len:=by rw[zO,zO,h.1]
 key:=by
  rw[BP,Nat.add_zero,(h.2 k m).1]
  exact a
 cel:=λi hi=>by
  rw[zO]at hi
  obtain⟨q,p,f⟩:=h.2 (k+i) (by omega)
  rw[BP,rB,rB]
  refine⟨p,?_⟩
  rcases i with _|i
  .refine⟨f.1,λhf=>?_⟩
   rw[Nat.add_zero,(h.2 k m).1,a]at hf
   cases hf
  .exact f
theorem vA.take{l:List iI}{ks:List Bool}{cs:List iW}(h:vA l ks cs)(r:k<=l.length)(f:0<k)(a:ks.getD 0 false=true):yh (cs.take k) (l.take k) where
 len:=by rw[zI,zI,h.1]
 key:=by
  rw[BQ f,(h.2 0 (by omega)).1]
  exact a
 cel:=λi hi=>by
  rw[zI]at hi
  obtain⟨q,m,p⟩:=h.2 i (by omega)
  rw[BQ (by omega),ql (by omega),ql (by omega)]
  exact⟨m,p⟩
def qU(cs:List iW):Nat->Int
 | 0=>-1
 | j+1=>if (iN cs j).k=true then(j:Int)else qU cs j
theorem QQ{w:World}{A:Option Addr}{cs:List iW}{G:List Nat}(cap:Nat)(h:lZ w A cs G)(i:Nat)(u:i<cs.length)(y:cs.length<=64):Calls prog 14 #[.slice A cs.length cap,i] w λe H=>e=.returned (.int .i64 (qU cs (i+1)))/\H=w:=by
 obtain⟨g,o,rfl,r,-⟩:=h.ex (by omega);have a:∀q,q<cs.length->w.cell? ⟨g,o+q*3,none⟩=some (.bool (iN cs q).k):=λq hq=>by
  obtain⟨A,c,-,-,D⟩:=h.stay hq;exact(D w (zR [] w)).1.1
 have⟨n,ad⟩:=zX cs.length;rw[<-ad]at a u y⊢;have J:=Ra i 0 (by omega);have K:decide (n<=i)=false:=zA (by omega);have p:=gd a;clear h r a ad;go_enter func14,ntmps14;go_wp2_with fail
 go_loopg [1] (i+1) (λj v1 wr=>∃z:Int,v1=.int .i64 z/\z=(j:Int)-1/\j<=i+1/\gh (qU cs j=qU cs (i+1))/\wr=w)
 .exact⟨(i:Int),rfl,by omega,by omega,gd rfl,rfl⟩
 obtain⟨z,rfl,f,I,l,rfl⟩:=hrel;rcases gk with _|j
 .have e:qU cs (i+1)=z:=by
   rw[f];exact l.o.symm
  have E:=mF 0 z (by omega);clear f;go_wp2_with fail;refine bodyPost_ret (v:=.int .i64 z) (by simp[results,results14,go_sem]) rfl ?_;exact⟨by rw[e],rfl⟩
 .obtain rfl:z=(j:Int):=by omega
  have x:j<n:=by omega
  have E:=jB 0 j (by omega);have b1:(0:Int)<=(j:Int):=by omega
  have b2:(j:Int)<(n:Int):=by omega
  have b3:j<=64:=by omega
  have s:=p.o j x;have⟨kb,aa⟩:=zX ((iN cs j).k);rw[<-aa]at s;have m:gh ((if kb=true then(j:Int)else qU cs j)=qU cs (i+1)):=gd (by rw[aa];exact l.o);clear aa f;cases kb
  .go_wp2_with fail
   go_roundg j
   .exact⟨(j:Int)-1,by go_num,rfl,by omega,gd m.o,rfl⟩
   .omega
  .go_wp2_with fail
   refine bodyPost_ret (v:=.int .i64 j) (by simp[results,results14,go_sem]) rfl ?_;exact⟨by rw[<-m.o];rfl,rfl⟩
theorem QK{w:World}{v:Option Addr}{n:Nat}(cap:Nat)(f:n<=i)(h:i<=64):Calls prog 14 #[.slice v n cap,i] w λe a=>e=.returned (.int .i64 (-1))/\a=w:=by
 have l:=Ra i 0 (by omega);go_enter func14,ntmps14;go_wp2_with fail;refine bodyPost_ret (v:=.int .i64 (-1)) (by simp[results,results14,go_sem]) rfl ?_;exact⟨rfl,rfl⟩
theorem Q1{w:World}{A:Option Addr}{l:List iI}{G:List Nat}(cap:Nat)(h:jY w A l G)(f:nF l){AK:Option Addr}{capK:Nat}{ks:List Bool}(hk:gz vb w AK ks)(hkl:ks.length=l.length)(I:ks.getD 0 false=true)(hp:iK w):Calls prog 9 #[.slice A l.length cap,.slice AK ks.length capK] w λe w'=>∃(cs:List iW) (gC:Nat) (G':List Nat),e=.returned (.tuple #[.slice gC l.length l.length,(0:Int)])/\lZ w' (some ⟨gC,0,none⟩) cs G'/\vA l ks cs/\gg [] w w'/\∀x∈G',w.heap.size<=x:=by
 have bm:=f.n0;have bn:=f.n1;have ai:=ID cap h f;obtain⟨g,o,rfl,bk,-⟩:=h.ex (by omega);obtain⟨gk,ok,rfl,a6,a4⟩:=hk.ex (by omega);have ag:∀i,i<l.length->∀wz,gg [] w wz->wz.cell? ⟨gk,ok+i,none⟩=some (.bool (ks.getD i false)):=λi m wz hz=>by
  have H:ks[i]?=some (ks.getD i false):=by
   have:i<ks.length:=by omega
   rw[zD,zF this];rfl
  exact(World.cell?_of_block (w:=w) (hz.block gk a6 (by simp))).trans (a4 i _ H)
 have aP:∀i,i<l.length->∃(gp op cp:Nat) (B:Nat->Option Addr) (c:Nat->Nat) (Gp:List Nat),∀wz,gg [] w wz->tH wz (gV l i) g (o+i*5) gp op cp/\ip wz (gV l i).p gp op B c Gp:=λi m=>by
  obtain⟨gp,op,cp,B,c,Gp,-,V⟩:=h.stay m;exact⟨gp,op,cp,B,c,Gp,λwz hz=>V [] wz hz (by simp)⟩
 have z:∀i,i+1<l.length->iY (gV l i).p (gV l (i+1)).p:=λi m=>(f.al i (by omega)).sym.tr (f.al (i+1) m);have⟨n,hn⟩:=zX l.length;rw[<-hn]at bm bn ai aP ag z;have a5:ks.length=n:=by omega
 rw[a5,<-hn];have a7:=B4 (P:=prog) Iu rfl (by decide) .i64 .i64 n (by omega) (by omega);have t1:((n:Int) != (n:Int))=false:=by simp
 have W:=ag 0 (by omega);rw[I,Nat.add_zero]at W;have⟨bd,bc,an,aV⟩:=gu W I ag aP;have⟨a8,aU,HP⟩:=Q9 z hn hp;clear h f hk a6 a4 ag aP z hp bk hkl a5 W hn I;go_enter func9,ntmps9;go_wp2_with fail;refine ai.mono ?_;rintro e J ⟨rfl,aF⟩;have W:=bd.o J aF;have b0:(0:Int)<(n:Int):=by omega
 have⟨w2,aQ⟩:=zX (J.alloc (.cells ((replicate n Rd).flatten).toArray 43));have⟨gC,aK⟩:=zX J.heap.size;have a3:mg J n gC w2 [] [] []:=by rw[aK,aQ];exact mg.start J n
 have bl:∀w,(Instr.makeSlice 30 (.int .i64 n) (.int .i64 n)).run prog w=.ok (.slice (some ⟨w.heap.size,0,none⟩) n n) (w.alloc (.cells ((replicate n Rd).flatten).toArray 43)):=λw=>a7 w;have⟨a9,aS,bj,bb⟩:=gu a3 aF aQ aK;clear ai a7 aF aQ aK a3;go_wp2_with fail;rw[<-bj.o,<-bb.o];clear W
 go_loopg [8,9,10,11,33] n (λj v8 v9 v10 v11 v33 wr=>∃(i:Nat) (cs:List iW) (vs:List (List Value)) (Gs:List Nat),v33=.int .i64 i/\i+j=n/\gh (cs.length=i)/\gh (mg J n gC wr cs vs Gs)/\gh (∀q,q<i->(iN cs q).k=ks.getD q false/\(iN cs q).t=(gV l q).t/\nH (gV l (q-1)).p (gV l q).p (iN cs q)))
 .exact⟨0,[],[],[],rfl,by omega,gd rfl,a9,gd (λq u=>by omega)⟩
 obtain⟨i,cs,vs,Gs,rfl,bu,r,N,HQ⟩:=hrel;have aA:gh (gg [] w wr):=gd (aS.o.tq N.o.Z);rcases gk with _|j
 .obtain rfl:i=n:=by omega
  have t2:decide ((i:Int)<(i:Int))=false:=by simp
  go_wp2_with fail;refine bodyPost_ret (v:=.tuple #[.slice gC i i,(0:Int)]) (by simp[results,results9,go_sem]) rfl ?_;refine⟨cs,gC,gC::Gs,rfl,N.o.done,⟨by rw[r.o,aU.o],λq u=>HQ.o q (by rw[aU.o];exact u)⟩,aA.o,λx hx=>?_⟩;have h9:=aS.o.size;rcases zJ.1 hx with rfl|H
  .have:=N.o.gN;omega
  .have:=N.o.new x H;omega
 .have m:i<n:=by omega
  have t2:=jo i n (by omega);have b1:(0:Int)<=(i:Int):=by omega
  have b2:(i:Int)<(n:Int):=by omega
  obtain⟨U,X,E,Bi,cc,Gi,S⟩:=aV.o i m;have⟨s,V⟩:=zX (gV l i);rw[<-V]at S;obtain⟨⟨c0,c1,c2,c3,c4⟩,-⟩:=S wr aA.o;have⟨w5,am⟩:=zX (wr.alloc (.cells #[s.t,s.p.W,s.p.H,s.p.d,.slice (some ⟨U,X,none⟩) s.p.P.length E] 48));have⟨X5,aw⟩:=zX wr.heap.size;have aI:=RD am aw;have aG:=H4 am;have K:=gd (aA.o.tq aG);obtain⟨M,Y,Z,x3,x4⟩:=rF aI;have k5:=an.o i m w5 K.o;have⟨kb,aL⟩:=zX (ks.getD i false);rw[<-aL]at k5;have aJ:∀wz,gg [] w wz->Calls prog 20 #[gW s.p U X E] wz (o3 wz (.ok (lU s.p))):=λwz hz=>Gb E (S wz hz).2 (HP.o.Y hz);unfold o3 gW at aJ;have⟨au,ba,bh,aR⟩:=gu (N.o.Y aG) aJ S aI;have⟨aD,aB,aE,aW⟩:=gu V aL am aw;rw[am,aw]at M Y Z x3 x4;rw[am]at k5;have⟨wo,bp⟩:=zX wr;subst bp;clear S V am aw aI aG aJ aL;cases kb
  focus
   obtain⟨q,u⟩:∃q,i=q+1:=⟨i-1,by
    have:i≠0:=λe=>by
     have H:=aB.o;rw[e,bc.o]at H;cases H
    omega⟩
   obtain⟨gq,oq,cq,Bq,bs,Gq,T⟩:=aV.o q (by omega);have z:iY (gV l q).p s.p:=(by rw[aD.o,u];exact a8.o q (by omega));have⟨s',aO⟩:=zX (gV l q);rw[<-aO]at T z;have aN:∀wz,gg [] w wz->Calls prog 21 #[gW s'.p gq oq cq,gW s.p U X E] wz (tL wz s'.p s.p):=λwz hz=>Ir cq (T wz hz).2 E (bh.o wz hz).2 z (HP.o.Y hz);unfold tL gW at aN;obtain⟨⟨d0,d1,d2,d3,d4⟩,-⟩:=T w5 K.o;have be:=gd aN;have bg:gh (s'.p=(gV l (i-1)).p):=gd (by rw[aO,u];rfl);have e1:(i:Int)-1=(q:Int):=(by omega);have b3:(0:Int)<=(q:Int):=(by omega);have b4:(q:Int)<(n:Int):=(by omega);have b5:i<=64:=(by omega);have bv:IntKind.i64.wrap (q:Int)=(q:Int):=IntWalk.i64_in _ (by omega);have⟨br,bi⟩:=gy u T;clear T aN aO z u;rw[aE.o]at d0 d1 d2 d3 d4;go_wp2_with fail;rw[<-aE.o,<-aW.o];have D:gg [] w5 w5.drew:=(zR [] w5).drew
   have aT:gh (∀wz,gg [] w5 wz->wz.cell? ⟨g,o+q*5+1,none⟩=some (.int .i64 s'.p.W)/\wz.cell? ⟨g,o+q*5+2,none⟩=some (.int .i64 s'.p.H)/\wz.cell? ⟨g,o+q*5+3,none⟩=some (.int .i64 s'.p.d)/\wz.cell? ⟨g,o+q*5+4,none⟩=some (.slice (some ⟨gq,oq,none⟩) s'.p.P.length cq) /\
     wz.cell? ⟨X5,1,none⟩=some (.int .i64 s.p.W)/\wz.cell? ⟨X5,2,none⟩=some (.int .i64 s.p.H)/\wz.cell? ⟨X5,3,none⟩=some (.int .i64 s.p.d)/\wz.cell? ⟨X5,4,none⟩=some (.slice (some ⟨U,X,none⟩) s.p.P.length E)):=gd (λwz hz=>by
    obtain⟨g0,g1,g2,g3,g4⟩:=(bi.o wz (K.o.tq hz)).1;obtain⟨y0,y1,y2,y3,y4⟩:=rF (aR.o.Z hz (by simp));exact⟨g1,g2,g3,g4,y1,y2,y3,y4⟩)
   clear c0 c1 c2 c3 c4 d0 d1 d2 d3 d4 M Y Z x3 x4 k5
   go_region_held3 (λwz=>wz.cell? ⟨g,o+q*5+1,none⟩=some (.int .i64 s'.p.W)/\wz.cell? ⟨g,o+q*5+2,none⟩=some (.int .i64 s'.p.H)/\wz.cell? ⟨g,o+q*5+3,none⟩=some (.int .i64 s'.p.d)/\wz.cell? ⟨g,o+q*5+4,none⟩=some (.slice (some ⟨gq,oq,none⟩) s'.p.P.length cq) /\
     wz.cell? ⟨X5,1,none⟩=some (.int .i64 s.p.W)/\wz.cell? ⟨X5,2,none⟩=some (.int .i64 s.p.H)/\wz.cell? ⟨X5,3,none⟩=some (.int .i64 s.p.d)/\wz.cell? ⟨X5,4,none⟩=some (.slice (some ⟨U,X,none⟩) s.p.P.length E))
    (first|exact aT.o _ D|exact aT.o _ (D.tq av)|(go_keep;done)|trivial)
    (first|(go_at_call 21;refine(be.o _ (K.o.tq D)).mono ?_;rintro e w6 ⟨v6,G6,ms,rfl,y,aM,a1,av,aH,O⟩))
   have az:gh (gg [] w5 w5.drew):=gd D;obtain⟨a,p⟩:∃a:iW,a=⟨false,s.t,mD s'.p s.p ms⟩:=⟨_,rfl⟩;have ay:gh (a.k=ks.getD i false/\a.t=(gV l i).t/\nH (gV l (i-1)).p (gV l i).p a):=gd (by
    rw[<-bg.o,<-aD.o,<-aB.o,p];unfold nH;exact⟨rfl,rfl,λe=>(by cases e),λ_=>⟨ms,rfl,aM,B8 aM a1,O⟩⟩)
   have R:mD s'.p s.p ms=a.ds:=(by rw[p]);rw[R]at y;have ao:gh (s.t=a.t):=gd (by rw[p]);clear aM a1 O p R D
  rotate_left
  focus
   go_wp2_with fail;rw[<-aE.o,<-aW.o];have az:gh (gg [] w5 w5):=gd (zR [] w5);clear c0 c1 c2 c3 c4 M Y Z x3 x4 k5;refine(ba.o w5 K.o).mono ?_;rintro e w6 ⟨v6,G6,rfl,y,av,aH,O⟩;obtain⟨a,p⟩:∃a:iW,a=⟨true,s.t,jE (lU s.p)⟩:=⟨_,rfl⟩;have ay:gh (a.k=ks.getD i false/\a.t=(gV l i).t/\nH (gV l (i-1)).p (gV l i).p a):=gd (by
    rw[<-aD.o,<-aB.o,p];unfold nH;exact⟨rfl,rfl,λ_=>⟨rfl,O⟩,λe=>by cases e⟩)
   have R:jE (lU s.p)=a.ds:=(by rw[p]);rw[R]at y;have ao:gh (s.t=a.t):=gd (by rw[p]);clear O p R
  all_goals
   obtain⟨A6,c6,rfl,aX,aY,a2⟩:=y.T;have Q:gg [] w5 w6:=az.o.tq av;have aZ:∀ad,A6=some ad->ad.block∈G6:=λad e=>by subst e;rw[y.fp];simp[Value.ownBlock]
   have a0:∀x∈G6,J.heap.size<=x/\x<w6.heap.size/\x≠gC:=λx hx=>by
    have H:=aH x hx;have h2:=az.o.size;have h3:=au.o.vec.blk.lt;have h4:=au.o.Z.size;exact⟨by omega,y.lt x hx,by omega⟩
   have L:=λnq=>(au.o.Y (Q.drewN nq)).next (by rw[r.o];exact m) a (a2.Y ((zR [] w6).drewN nq)) aX aY aZ a0;rw[r.o]at L;obtain⟨⟨z0,z1,z2⟩,ax⟩:=(au.o.Y Q).zero (by rw[r.o];exact m);rw[r.o]at z0 z1 z2;have f0:=ax (i*3);have f1:=ax (i*3+1);have f2:=ax (i*3+2);have k6:=an.o i m w6 (K.o.tq Q);rw[<-ay.o.1]at k6;obtain⟨M,Y,Z,x3,x4⟩:=rF (aR.o.Z Q (by simp));rw[ao.o]at M;have bf:=gd L;clear y av aH aX aY a2 Q aZ a0 L ax;go_wp2_with fail;refine i9 11 (by kernel_rfl) (by kernel_rfl) ?_;simp only[take_succ_cons,take_zero,drop_succ_cons,drop_zero]
   repeat(go_big_quiet_step (fail))
   refine wpQuiet_nil ?_;intro _ bo;obtain⟨bq,rfl⟩:=bo;have L:=bf.o bq;have aC:=gd L;clear L k6 M Y Z x3 x4;go_wp2_with fail
   go_roundg j
   .refine⟨i+1,cs++[a],_,_,by go_num,by omega,gd (by rw[zC,r.o];rfl),aC,gd (λq u=>?_)⟩
    by_cases hqi:q<i
    .rw[BT (by rw[r.o];exact hqi)]
     exact HQ.o q hqi
    .obtain rfl:q=i:=by omega
     have e:=BS cs a;rw[r.o]at e;rw[e];exact ay.o
   .omega
structure Ic (l:List iI) (every:Nat) (cs:List iW):Prop where
 len:cs.length=l.length
 key:(iN cs 0).k=true
 cel:∀i,i<l.length->(iN cs i).t=(gV l i).t/\nH (gV l (i-1)).p (gV l i).p (iN cs i)
 mv:∀i,i<l.length->0<i->i<every->(iN cs i).k=true->∃ms:List (Int × Int),ms.length=(iM (gV l i).p.W (gV l i).p.H 8).length/\rC (gV l (i-1)).p (gV l i).p (iM (gV l i).p.W (gV l i).p.H 8) ms (iM (gV l i).p.W (gV l i).p.H 8).length/\(jE (lU (gV l i).p)).length<=(mD (gV l (i-1)).p (gV l i).p ms).length
def pB(l:List iI)(every i:Nat)(c:iW):Prop:=(i=0->c.k=true)/\c.t=(gV l i).t/\nH (gV l (i-1)).p (gV l i).p c /\
 (0<i->i<every->c.k=true->∃ms:List (Int × Int),ms.length=(iM (gV l i).p.W (gV l i).p.H 8).length/\rC (gV l (i-1)).p (gV l i).p (iM (gV l i).p.W (gV l i).p.H 8) ms (iM (gV l i).p.W (gV l i).p.H 8).length/\(jE (lU (gV l i).p)).length<=(mD (gV l (i-1)).p (gV l i).p ms).length)
theorem QC{w:World}{A:Option Addr}{l:List iI}{G:List Nat}(cap:Nat)(h:jY w A l G)(z:nF l)(a:Nat)(he0:1<=a)(he1:a<=64)(hp:iK w):Calls prog 13 #[.slice A l.length cap,a] w λe w'=>∃(cs:List iW) (gC:Nat) (G':List Nat),e=.returned (.tuple #[.slice gC l.length l.length,(0:Int)])/\lZ w' (some ⟨gC,0,none⟩) cs G'/\Ic l a cs/\gg [] w w'/\∀x∈G',w.heap.size<=x:=by
 have bI:=z.n0;have bJ:=z.n1;have ao:=ID cap h z;obtain⟨g,o,rfl,bG,-⟩:=h.ex (by omega);have S:∀i,i<l.length->∃(gp op cp:Nat) (B:Nat->Option Addr) (c:Nat->Nat) (Gp:List Nat),∀wz,gg [] w wz->tH wz (gV l i) g (o+i*5) gp op cp/\ip wz (gV l i).p gp op B c Gp:=λi U=>by
  obtain⟨gp,op,cp,B,c,Gp,-,hs⟩:=h.stay U;exact⟨gp,op,cp,B,c,Gp,λwz hz=>hs [] wz hz (by simp)⟩
 have Q:∀i,i+1<l.length->iY (gV l i).p (gV l (i+1)).p:=λi U=>(z.al i (by omega)).sym.tr (z.al (i+1) U);have⟨n,hn⟩:=zX l.length;rw[<-hn]at bI bJ ao S Q⊢;have bs:=B4 (P:=prog) Iu rfl (by decide) .i64 .i64 n (by omega) (by omega);have t1:=Ra a 1 (by omega);have bS:=Ra 64 a (by omega);have⟨bb,bu,aD,HP⟩:=gu S Q hn hp;clear h z S Q hp bG hn;go_enter func13,ntmps13;go_wp2_with fail;refine ao.mono ?_;rintro e Z ⟨rfl,bc⟩;have⟨w2,a0⟩:=zX (Z.alloc (.cells ((replicate n Rd).flatten).toArray 43));have⟨gC,aX⟩:=zX Z.heap.size;have br:mg Z n gC w2 [] [] []:=by rw[aX,a0];exact mg.start Z n
 have bH:∀w,(Instr.makeSlice 30 (.int .i64 n) (.int .i64 n)).run prog w=.ok (.slice (some ⟨w.heap.size,0,none⟩) n n) (w.alloc (.cells ((replicate n Rd).flatten).toArray 43)):=λw=>bs w;have⟨bv,a3,bD,bx⟩:=gu br bc a0 aX;clear ao bs bc a0 aX br;go_wp2_with fail;rw[<-bD.o,<-bx.o]
 go_loopg [8,9,10,11,12,13,14,15,32] n (λj v8 v9 v10 v11 v12 v13 v14 v15 v32 wr=>∃(i V:Nat) (cs:List iW) (vs:List (List Value)) (Gs:List Nat),v32=.int .i64 i/\v8=.int .i64 V/\V<=i/\i+j=n/\gh (cs.length=i)/\gh (mg Z n gC wr cs vs Gs)/\gh (∀q,q<i->pB l a q (iN cs q)))
 .exact⟨0,0,[],[],[],rfl,rfl,by omega,by omega,gd rfl,bv,gd (λq I=>by omega)⟩
 obtain⟨i,V,cs,vs,Gs,rfl,rfl,bP,bO,O,HS,HQ⟩:=hrel;have aM:gh (gg [] w wr):=gd (a3.o.tq HS.o.Z);rcases gk with _|j
 .obtain rfl:i=n:=by omega
  have t2:decide ((i:Int)<(i:Int))=false:=by simp
  go_wp2_with fail;refine bodyPost_ret (v:=.tuple #[.slice gC i i,(0:Int)]) (by simp[results,results13,go_sem]) rfl ?_;refine⟨cs,gC,gC::Gs,rfl,HS.o.done,⟨by rw[O.o,aD.o],(HQ.o 0 (by omega)).1 rfl,λq I=>⟨(HQ.o q (by rw[aD.o];exact I)).2.1,(HQ.o q (by rw[aD.o];exact I)).2.2.1⟩,λq I=>(HQ.o q (by rw[aD.o];exact I)).2.2.2⟩,aM.o,λx hx=>?_⟩;have h9:=a3.o.size;rcases zJ.1 hx with rfl|h1
  .have:=HS.o.gN;omega
  .have:=HS.o.new x h1;omega
 .have U:i<n:=by omega
  have t2:=jo i n (by omega);have b1:(0:Int)<=(i:Int):=by omega
  have b2:(i:Int)<(n:Int):=by omega
  obtain⟨gi,oi,T,Bi,cc,Gi,ay⟩:=bb.o i U;have⟨s,hs⟩:=zX (gV l i);rw[<-hs]at ay;obtain⟨⟨c0,c1,c2,c3,c4⟩,-⟩:=ay wr aM.o;have⟨w5,az⟩:=zX (wr.alloc (.cells #[s.t,s.p.W,s.p.H,s.p.d,.slice (some ⟨gi,oi,none⟩) s.p.P.length T] 48));have⟨X5,aG⟩:=zX wr.heap.size;have aS:=RD az aG;have aO:=H4 az;have aL:=gd (aM.o.tq aO);obtain⟨x0,x1,x2,x3,x4⟩:=rF aS;have aW:∀wz,gg [] w wz->Calls prog 20 #[gW s.p gi oi T] wz (o3 wz (.ok (lU s.p))):=λwz hz=>Gb T (ay wz hz).2 (HP.o.Y hz);unfold o3 gW at aW;have⟨aE,bw,bB,a1⟩:=gu (HS.o.Y aO) aW ay aS;have⟨au,bE,bF⟩:=Q9 hs az aG;rw[az,aG]at x0 x1 x2 x3 x4;have⟨wo,bK⟩:=zX wr;subst bK;clear ay hs az aG aS aO aW;go_wp2_with fail;rw[<-bE.o,<-bF.o];clear c0 c1 c2 c3 c4 x0 x1 x2 x3 x4;refine(bw.o w5 aL.o).mono ?_;rintro e N ⟨v6,G6,rfl,ai,bd,bm,av⟩;obtain⟨A6,c6,rfl,aQ,be,aU⟩:=ai.T;have bi:∀ad,A6=some ad->ad.block∈G6:=λad e=>by subst e;rw[ai.fp];simp[Value.ownBlock]
  have⟨st,S⟩:=zX (jE (lU s.p));have aw:=ai.lt;rw[<-S]at aQ aU⊢;have H6:=gd (And.intro aQ (And.intro be (And.intro aU (And.intro bi (And.intro bm aw)))));have⟨aK,ah,ak⟩:=Q9 av S bd;have bR:i<=64:=by omega
  clear ai aQ be aU bi bm av S bd aw;by_cases hi0:i=0
  focus
   have t3:=Ra 0 i (by omega);have t4:decide (0<i)=false:=zA (by omega);have aN:=gd hi0;clear hi0
   go_upto_region 21 with fail
   have⟨w7,af⟩:=zX N;rw[<-af];obtain⟨f,m⟩:∃f:iW,f=⟨true,s.t,st⟩:=⟨_,rfl⟩;have aB:gh (f.k=true):=gd (by rw[m]);have aC:gh (pB l a i f):=gd (by
    rw[m];unfold pB nH;rw[<-au.o];exact⟨λ_=>rfl,rfl,⟨λ_=>⟨ah.o,aK.o⟩,λe=>(by cases e)⟩,λe=>(by have:=aN.o;omega)⟩)
   have y:st=f.ds:=(by rw[m]);have aF:gh (s.t=f.t):=gd (by rw[m]);have Y:gh (gg [] w5 w7):=gd (by rw[af];exact ak.o);obtain⟨p,r,u,E,H,H7⟩:∃p r u,p=A6/\r=c6/\gh (f.ds.length<=r/\r<=9223372036854775807/\gz b8 w7 p f.ds/\(∀ad,p=some ad->ad.block∈u)/\(∀x∈u,w5.heap.size<=x/\x<w7.heap.size)):=⟨_,_,G6,rfl,rfl,gd (by
    rw[<-y,af];obtain⟨J,K,L,M,W,X⟩:=H6.o;exact⟨J,K,L,M,λx hx=>⟨W x hx,X x hx⟩⟩)⟩
   rw[<-E,<-H,y];clear m y af E H t3 t4
  rotate_left
  focus
   have t4:decide (0<i)=true:=zB (by omega);have aN:gh (0<i):=gd (by omega);by_cases hkey:(i:Int)-(V:Int)<(a:Int);rotate_left
   focus
    have t5:decide ((i:Int)-(V:Int)<(a:Int))=false:=zA hkey;have a5:=gd hkey;clear hkey hi0
    go_upto_region 21 with fail
    have⟨w7,af⟩:=zX N;rw[<-af];obtain⟨f,m⟩:∃f:iW,f=⟨true,s.t,st⟩:=⟨_,rfl⟩;have aB:gh (f.k=true):=gd (by rw[m]);have aC:gh (pB l a i f):=gd (by
     rw[m];unfold pB nH;rw[<-au.o];exact⟨λ_=>rfl,rfl,⟨λ_=>⟨ah.o,aK.o⟩,λe=>(by cases e)⟩,λe e2=>(by have:=a5.o;omega)⟩)
    have y:st=f.ds:=(by rw[m]);have aF:gh (s.t=f.t):=gd (by rw[m]);have Y:gh (gg [] w5 w7):=gd (by rw[af];exact ak.o);obtain⟨p,r,u,E,H,H7⟩:∃p r u,p=A6/\r=c6/\gh (f.ds.length<=r/\r<=9223372036854775807/\gz b8 w7 p f.ds/\(∀ad,p=some ad->ad.block∈u)/\(∀x∈u,w5.heap.size<=x/\x<w7.heap.size)):=⟨_,_,G6,rfl,rfl,gd (by
     rw[<-y,af];obtain⟨J,K,L,M,W,X⟩:=H6.o;exact⟨J,K,L,M,λx hx=>⟨W x hx,X x hx⟩⟩)⟩
    rw[<-E,<-H,y];clear m y af E H t4 t5
   rotate_left
   focus
    have t5:decide ((i:Int)-(V:Int)<(a:Int))=true:=zB hkey;obtain⟨q,I⟩:∃q,i=q+1:=⟨i-1,by omega⟩;obtain⟨gq,oq,cq,Bq,bM,Gq,aJ⟩:=bb.o q (by omega);have Q:iY (gV l q).p s.p:=(by rw[au.o,I];exact bu.o q (by omega));have⟨s',aZ⟩:=zX (gV l q);rw[<-aZ]at aJ Q;have R:∀wz,gg [] w wz->Calls prog 21 #[gW s'.p gq oq cq,gW s.p gi oi T] wz (tL wz s'.p s.p):=λwz hz=>Ir cq (aJ wz hz).2 T (bB.o wz hz).2 Q (HP.o.Y hz);unfold tL gW at R;have bA:=gd R;have a9:gh (s'.p=(gV l (i-1)).p):=gd (by rw[aZ,I];rfl);have e1:(i:Int)-1=(q:Int):=(by omega);have b3:(0:Int)<=(q:Int):=(by omega);have b4:(q:Int)<(n:Int):=(by omega);have bQ:IntKind.i64.wrap (q:Int)=(q:Int):=IntWalk.i64_in _ (by omega);have⟨bL,bC,a5⟩:=Q9 I aJ hkey;clear aJ R aZ Q I hkey hi0
    go_upto_region 16 with fail
    have D:gg [] N N.drew:=(zR [] N).drew
    have a4:gh (∀wz,gg [] N wz->wz.cell? ⟨g,o+q*5+1,none⟩=some (.int .i64 s'.p.W)/\wz.cell? ⟨g,o+q*5+2,none⟩=some (.int .i64 s'.p.H)/\wz.cell? ⟨g,o+q*5+3,none⟩=some (.int .i64 s'.p.d)/\wz.cell? ⟨g,o+q*5+4,none⟩=some (.slice (some ⟨gq,oq,none⟩) s'.p.P.length cq) /\
      wz.cell? ⟨X5,1,none⟩=some (.int .i64 s.p.W)/\wz.cell? ⟨X5,2,none⟩=some (.int .i64 s.p.H)/\wz.cell? ⟨X5,3,none⟩=some (.int .i64 s.p.d)/\wz.cell? ⟨X5,4,none⟩=some (.slice (some ⟨gi,oi,none⟩) s.p.P.length T)):=gd (λwz hz=>by
     obtain⟨g0,g1,g2,g3,g4⟩:=(bC.o wz ((aL.o.tq ak.o).tq hz)).1;obtain⟨y0,y1,y2,y3,y4⟩:=rF (a1.o.Z (ak.o.tq hz) (by simp));exact⟨g1,g2,g3,g4,y1,y2,y3,y4⟩)
    go_region_held3 (λwz=>wz.cell? ⟨g,o+q*5+1,none⟩=some (.int .i64 s'.p.W)/\wz.cell? ⟨g,o+q*5+2,none⟩=some (.int .i64 s'.p.H)/\wz.cell? ⟨g,o+q*5+3,none⟩=some (.int .i64 s'.p.d)/\wz.cell? ⟨g,o+q*5+4,none⟩=some (.slice (some ⟨gq,oq,none⟩) s'.p.P.length cq) /\
      wz.cell? ⟨X5,1,none⟩=some (.int .i64 s.p.W)/\wz.cell? ⟨X5,2,none⟩=some (.int .i64 s.p.H)/\wz.cell? ⟨X5,3,none⟩=some (.int .i64 s.p.d)/\wz.cell? ⟨X5,4,none⟩=some (.slice (some ⟨gi,oi,none⟩) s.p.P.length T))
     (first|exact a4.o _ D|exact a4.o _ (D.tq aP)|(go_keep;done)|trivial)
     (first|(go_at_call 21;refine(bA.o _ ((aL.o.tq ak.o).tq D)).mono ?_;rintro e w8 ⟨v8,G8,ms,rfl,aj,aY,aT,aP,bo,am⟩))
    obtain⟨A8,c8,rfl,aR,bh,aV⟩:=aj.T;have bk:∀ad,A8=some ad->ad.block∈G8:=λad e=>by subst e;rw[aj.fp];simp[Value.ownBlock]
    have ax:=aj.lt;have bp:=B8 aY aT;have a2:=gd (And.intro aY (And.intro aT (And.intro bp am)));have⟨mv,R⟩:=zX (mD s'.p s.p ms);rw[<-R]at aR aV⊢;have H8:=gd (And.intro aR (And.intro bh (And.intro aV (And.intro bk (And.intro bo ax)))));have a7:=gd R;have aA:gh (gg [] N w8):=gd (D.tq aP);clear aj aR bh aV bk ax bp aY aT am bo aP R D;by_cases hlen:mv.length<st.length
    focus
     have t6:=jo mv.length st.length (by omega);have t7:decide (mv.length<st.length)=true:=zB hlen;clear hlen
     go_upto_region 21 with fail
     have⟨w7,af⟩:=zX w8;rw[<-af];obtain⟨f,m⟩:∃f:iW,f=⟨false,s.t,mv⟩:=⟨_,rfl⟩;have aB:gh (f.k=false):=gd (by rw[m]);have aC:gh (pB l a i f):=gd (by
      rw[m];unfold pB nH;rw[<-au.o,<-a9.o];obtain⟨J,K,L,M⟩:=a2.o;exact⟨λe=>(by have:=aN.o;omega),rfl,⟨λe=>(by cases e),λ_=>⟨ms,a7.o,J,L,M⟩⟩,λ_ _ e=>(by cases e)⟩)
     have y:mv=f.ds:=(by rw[m]);have aF:gh (s.t=f.t):=gd (by rw[m]);have Y:gh (gg [] w5 w7):=gd (by rw[af];exact ak.o.tq aA.o);obtain⟨p,r,u,E,H,H7⟩:∃p r u,p=A8/\r=c8/\gh (f.ds.length<=r/\r<=9223372036854775807/\gz b8 w7 p f.ds/\(∀ad,p=some ad->ad.block∈u)/\(∀x∈u,w5.heap.size<=x/\x<w7.heap.size)):=⟨_,_,G8,rfl,rfl,gd (by
      rw[<-y,af];obtain⟨J,K,L,M,W,X⟩:=H8.o;have h9:=ak.o.size;have bN:N.drew.heap.size=N.heap.size:=rfl;exact⟨J,K,L,M,λx hx=>⟨by have:=W x hx;omega,X x hx⟩⟩)⟩
     rw[<-E,<-H,y];clear m y af E H t4 t5 t6 t7
    rotate_left
    focus
     have t7:decide (mv.length<st.length)=false:=zA hlen;have bz:gh (st.length<=mv.length):=gd (by omega);clear hlen
     go_upto_region 21 with fail
     have⟨w7,af⟩:=zX w8;rw[<-af];obtain⟨f,m⟩:∃f:iW,f=⟨true,s.t,st⟩:=⟨_,rfl⟩;have aB:gh (f.k=true):=gd (by rw[m]);have aC:gh (pB l a i f):=gd (by
      rw[m];unfold pB nH;rw[<-au.o,<-a9.o];obtain⟨J,K,L,M⟩:=a2.o;exact⟨λ_=>rfl,rfl,⟨λ_=>⟨ah.o,aK.o⟩,λe=>(by cases e)⟩,λ_ _ _=>⟨ms,J,K,by rw[<-ah.o,<-a7.o];exact bz.o⟩⟩)
     have y:st=f.ds:=(by rw[m]);have aF:gh (s.t=f.t):=gd (by rw[m]);have Y:gh (gg [] w5 w7):=gd (by rw[af];exact ak.o.tq aA.o);obtain⟨p,r,u,E,H,H7⟩:∃p r u,p=A6/\r=c6/\gh (f.ds.length<=r/\r<=9223372036854775807/\gz b8 w7 p f.ds/\(∀ad,p=some ad->ad.block∈u)/\(∀x∈u,w5.heap.size<=x/\x<w7.heap.size)):=⟨_,_,G6,rfl,rfl,gd (by
      rw[<-y,af];obtain⟨J,K,L,M,W,X⟩:=H6.o;have h9:=aA.o.size;exact⟨J,K,L.Y aA.o,M,λx hx=>⟨W x hx,by have:=X x hx;omega⟩⟩)⟩
     rw[<-E,<-H,y];clear m y af E H t4 t5 t7
  all_goals
   obtain⟨bf,bg,bq,bj,bn⟩:=H7.o;have bl:∀x∈u,Z.heap.size<=x/\x<w7.heap.size/\x≠gC:=λx hx=>by
    obtain⟨h1,h2⟩:=bn x hx;have h3:=aE.o.vec.blk.lt;have h4:=aE.o.Z.size;exact⟨by omega,h2,by omega⟩
   have aI:=(aE.o.Y Y.o).next (by rw[O.o];exact U) f bq bf bg bj bl;rw[O.o]at aI;obtain⟨⟨z0,z1,z2⟩,aH⟩:=(aE.o.Y Y.o).zero (by rw[O.o];exact U);rw[O.o]at z0 z1 z2;have f0:=aH (i*3);have f1:=aH (i*3+1);have f2:=aH (i*3+2);obtain⟨x0,x1,x2,x3,x4⟩:=rF (a1.o.Z Y.o (by simp));rw[aF.o]at x0;rw[aB.o]at aI;have a8:=gd aI;clear aI bf bg bq bj bn bl aH;go_wp2_with fail
   go_roundg j
   .have a6:gh ((cs++[f]).length=i+1):=gd (by rw[zC,O.o];rfl)
    have ba:gh (∀q,q<i+1->pB l a q (iN (cs++[f]) q)):=gd (λq I=>by
     by_cases hqi:q<i
     .rw[BT (by rw[O.o];exact hqi)]
      exact HQ.o q hqi
     .obtain rfl:q=i:=by omega
      have e:=BS cs f;rw[O.o]at e;rw[e];exact aC.o)
    first
     | exact⟨i+1,i,cs++[f],_,_,by go_num,rfl,by omega,by omega,a6,a8,ba⟩
     | exact⟨i+1,V,cs++[f],_,_,by go_num,rfl,by omega,by omega,a6,a8,ba⟩
   .omega
def pC:qc:=⟨1,1,1,[[1]]⟩
theorem IL:pC.Ok where
 w0:=by decide
 w1:=by decide
 h0:=by decide
 h1:=by decide
 d0:=by decide
 d1:=by decide
 n0:=by decide
 n1:=by decide
 len:=λx hx=>by simp[pC]at hx;subst hx;rfl
 smp:=λx hx=>by simp[pC]at hx;subst hx;intro v a;simp at a;subst a;decide
theorem Q2:iM 1 1 8=[⟨0,0,1,1⟩]:=by rfl
theorem IN{f:List (Int × Int)}(l:f.length=(iM pC.W pC.H 8).length)(m:∀i,i<f.length->lO pC.W pC.H (gJ (iM pC.W pC.H 8) i) (f.getD i (0,0))):f=[(0,0)]:=by
 have e:iM pC.W pC.H 8=[⟨0,0,1,1⟩]:=Q2;rw[e]at l m;have h:=m 0 (by rw[l];decide);obtain⟨_,_,_,_,h,q,r,s⟩:=h
 match f,l with
 | [(a,b)],_=>
  simp[pC,gJ]at h q r s;have p:a=0:=by omega
  have e2:b=0:=by omega
  rw[p,e2]
theorem Q5:8<(oe pC).length:=by decide +kernel
theorem Q6:8<(ky none pC).length:=by decide +kernel
theorem QY:5<(jE (lU pC)).length:=by
 rw[yZ,zt];unfold lU;split
 .have:=Q6;omega
 .have:=Q5;omega
theorem Q0:yi pC pC [(0,0)]=[0]:=by kernel_rfl
theorem IH:(mD pC pC [(0,0)]).length=5:=by
 unfold mD;rw[zC,Q0];rfl
def lC:List iI:=[⟨0,pC⟩,⟨5,pC⟩]
theorem qr(i:Nat)(a:i<2):(gV lC i).p=pC:=by
 rcases(by omega:i=0\/i=1)with rfl|rfl<;>rfl
theorem IQ:iY pC pC:=⟨rfl,rfl,rfl,rfl⟩
theorem IJ:nF lC where
  n0:=by decide
  n1:=by decide
  ok:=λi hi=>by rw[qr i hi];exact IL
  al:=λi hi=>by rw[qr i hi];exact IQ
  times:=λi hi=>by
    rcases (by have : i < 2 := hi
               omega:i=0\/i=1)with rfl | rfl
    · exact⟨by decide,by decide,λh=>absurd h (by decide)⟩
    · exact⟨by decide,by decide,λ_=>by decide⟩
theorem Q7{cs:List iW}(h:Ic lC 9 cs):cs.length=2/\(iN cs 0).k=true/\(iN cs 1).k=false/\(iN cs 1).ds.length=5/\yh cs lC:=by
 have m:(iN cs 1).k=false:=by
  cases e:(iN cs 1).k
  .rfl
  .exfalso
   obtain⟨q,a,f,l⟩:=h.mv 1 (by decide) (by decide) (by decide) e;rw[qr 1 (by decide),qr (1-1) (by decide)]at l;rw[qr 1 (by decide)]at a f;rw[qr (1-1) (by decide)]at f;have p:=IN a (B8 a f);rw[p,IH]at l
   have:=QY
   omega
 refine⟨h.len,h.key,m,?_,⟨h.len,h.key,h.cel⟩⟩;obtain⟨q,a,f,l,-⟩:=(h.cel 1 (by decide)).2.2 m;rw[qr 1 (by decide),qr (1-1) (by decide)]at a;rw[qr 1 (by decide)]at f l;rw[qr (1-1) (by decide)]at l;rw[a,IN f l,IH]
theorem IK{w:World}(h:gn w b1 3 #[(1:Int)])(l:gn w b2 22 #[.slice b1 1 1]):ip w pC b2 0 (λ_=>some ⟨b1,0,none⟩) (λ_=>1) [b1,b2] where
 ok:=IL
 gG:=by simp
 lt:=λx hx=>by
  simp at hx
  rcases hx with rfl|rfl
  .exact h.lt
  .exact l.lt
 X:=λi f=>by
  have f:i<1:=f
  obtain rfl:i=0:=by omega
  exact l.X 0
 cells:=λi f=>by
  have f:i<1:=f
  obtain rfl:i=0:=by omega
  exact⟨λ_=>⟨b1,0,rfl,h.lt,λk a ha=>by
   rcases k with _|k
   .rw[<-Option.some.inj ha];exact h.X 0
   .simp[pC]at ha⟩⟩
 blk:=λi f ad e=>by rw[<-Option.some.inj e];simp
 cap:=λi f=>⟨by decide,by decide⟩
def rH(t0 t1:Int)(b2:Nat):Array Value:=#[.int .i64 t0,.int .i64 1,.int .i64 1,.int .i64 1,.slice b2 1 1,.int .i64 t1,.int .i64 1,.int .i64 1,.int .i64 1,.slice b2 1 1]
theorem B9{w:World}{m p:Int}(f:gn w b1 3 #[(1:Int)])(h:gn w b2 22 #[.slice b1 1 1])(a:gn w b3 48 (rH m p b2)):jY w (some ⟨b3,0,none⟩) [⟨m,pC⟩,⟨p,pC⟩] [b1,b2,b3]:=by
 refine⟨λ_=>⟨b3,0,rfl,by simp,λi l=>?_⟩,λx hx=>?_⟩
 .have l:i<2:=l
  rcases(by omega:i=0\/i=1)with rfl|rfl
  .exact⟨b2,0,1,_,_,_,a.X 0,a.X 1,a.X 2,a.X 3,a.X 4,IK f h,λx hx=>by simp at hx⊢;rcases hx with rfl|rfl<;>simp⟩
  .exact⟨b2,0,1,_,_,_,a.X 5,a.X 6,a.X 7,a.X 8,a.X 9,IK f h,λx hx=>by simp at hx⊢;rcases hx with rfl|rfl<;>simp⟩
 .simp at hx
  rcases hx with rfl|rfl|rfl
  .exact f.lt
  .exact h.lt
  .exact a.lt
theorem Qu{w:World}(cap:Nat)(f:gn w b1 3 #[(1:Int)])(h:gn w b2 22 #[.slice b1 1 1])(l:gn w b3 48 (rH 5 0 b2)):Calls prog 19 #[.slice b3 2 cap] w λe w'=>e=.returned (.int .i64 12)/\gg [] w w':=
 Iv (b:=false) cap (B9 f h l) (by decide) (by decide) (λi a=>by
  have a:i<2:=a;rcases(by omega:i=0\/i=1)with rfl|rfl<;>exact IQ) (λw A cap hc=>QR w A cap _ hc rfl (by decide) (by decide) (by decide) (by decide))
theorem B7{w:World}{A B:Option Addr}{l:List iI}{W X:List Nat}(x y:Nat)(L:jY w A l W)(M:jY w B l X)(N:l.length<=64):Calls prog 11 #[.slice A l.length x,.slice B l.length y] w λe w'=>e=.returned (.bool true)/\gg [] w w':=by
 have K:∀i,i<l.length->∃(a h f m u v cp q ad p:Nat) (D:Nat->Option Addr) (c:Nat->Nat) (H:List Nat) (E:Nat->Option Addr) (c2:Nat->Nat) (Gp2:List Nat),A=some ⟨a,h,none⟩/\B=some ⟨f,m,none⟩ /\
   ∀wz,gg [] w wz->(tH wz (gV l i) a (h+i*5) u v cp/\ip wz (gV l i).p u v D c H)/\tH wz (gV l i) f (m+i*5) q ad p/\ip wz (gV l i).p q ad E c2 Gp2:=λi J=>by
  obtain⟨a,h,rfl,-,-⟩:=L.ex (by omega);obtain⟨f,m,rfl,-,-⟩:=M.ex (by omega);obtain⟨u,v,cp,D,c,H,-,h1⟩:=L.stay J;obtain⟨q,ad,p,E,c2,Gp2,-,h2⟩:=M.stay J;exact⟨a,h,f,m,u,v,cp,q,ad,p,D,c,H,E,c2,Gp2,rfl,rfl,λwz hz=>⟨h1 [] wz hz (by simp),h2 [] wz hz (by simp)⟩⟩
 have⟨n,hn⟩:=zX l.length;rw[<-hn]at K N⊢;have aq:=gd K;have t1:((n:Int) != (n:Int))=false:=by simp
 clear L M K hn;go_enter func11,ntmps11;go_wp2_with fail
 go_loopg [5] n (λj v5 wr=>∃i:Nat,v5=.int .i64 i/\i+j=n/\gh (gg [] w wr))
 .exact⟨0,rfl,by omega,gd (zR _ _)⟩
 obtain⟨i,rfl,av,I⟩:=hrel;rcases gk with _|j
 .obtain rfl:i=n:=by omega
  have t2:decide ((i:Int)<(i:Int))=false:=by simp
  go_wp2_with fail;go_ret;exact⟨rfl,I.o⟩
 .have J:i<n:=by omega
  have b1:(0:Int)<=(i:Int):=by omega
  have b2:(i:Int)<(n:Int):=by omega
  obtain⟨a,h,f,m,u,v,cp,q,ad,p,D,c,H,E,c2,Gp2,rfl,rfl,z⟩:=aq.o i J;have⟨s,am⟩:=zX (gV l i);rw[<-am]at z;obtain⟨⟨⟨Y,Z,O,Q,R⟩,-⟩,⟨c0,c1,S,T,U⟩,-⟩:=z wr I.o;have a2:wr.cell? ⟨a,h+i*5+1+1,none⟩=some (.int .i64 s.p.H):=O;have a3:wr.cell? ⟨a,h+i*5+1+2,none⟩=some (.int .i64 s.p.d):=Q;have a4:wr.cell? ⟨a,h+i*5+1+3,none⟩=some (.slice (some ⟨u,v,none⟩) s.p.P.length cp):=R;have c2:wr.cell? ⟨f,m+i*5+1+1,none⟩=some (.int .i64 s.p.H):=S;have c3:wr.cell? ⟨f,m+i*5+1+2,none⟩=some (.int .i64 s.p.d):=T;have c4:wr.cell? ⟨f,m+i*5+1+3,none⟩=some (.slice (some ⟨q,ad,none⟩) s.p.P.length p):=U;have r:=λwz (hz:gg [] w wz)=>LO cp (z wz hz).1.2 p (z wz hz).2.2 rfl rfl rfl rfl;unfold gW at r;have ap:=gd r;have⟨wo,au⟩:=zX wr;subst au;clear z am r O Q R S T U;go_wp2_with fail;refine i9 22 (by kernel_rfl) (by kernel_rfl) ?_;simp only[take_succ_cons,take_zero,drop_succ_cons,drop_zero]
  repeat(go_big_quiet_step (fail))
  refine wpQuiet_nil ?_;intro _ ar;obtain⟨nq,rfl⟩:=ar;have r:=ap.o _ (I.o.drewN nq);have ao:gh (gg [] w (wo.drewN nq)):=gd (I.o.drewN nq);clear Y Z a2 a3 a4 c0 c1 c2 c3 c4;go_wp2_with fail;refine r.mono ?_;rintro e w6 ⟨rfl,V⟩;have an:=gd (ao.o.tq V);clear r V;go_wp2_with fail
  go_roundg j
  .exact⟨i+1,by go_num,by omega,an⟩
  .omega
theorem HJ:jx prog 27 4 (.bool false) 1 1:=.mk' underlying27 (by kernel_rfl)
theorem Qg(w:World)(b cap at_ n:Nat)(A:Option Addr)(L:List Int)(h:jv w b A cap L at_)(hn0:1<=n)(hn1:n<=64):Calls prog 7 #[.pointer b,n] w λe O=>∃(ks:List Bool) (g c a:Nat),e=.returned (.slice g n c)/\ks.length=n/\ks.getD 0 false=true/\gv O 4 (.slice g n c) g (ks.map vb)/\jv O b A cap L a/\gg [b] w O/\w.heap.size<=g:=by
 have Y:=h.blk.lt;have⟨HB,HT⟩:=gy Y h;have q:gv (w.alloc (.cells #[.bool true] 4)) 4 (.slice (some ⟨w.heap.size,0,none⟩) 1 1) w.heap.size ([true].map vb):=gv.made w 4 [.bool true] (by simp[maxLen]);have⟨w1,am⟩:=zX (w.alloc (.cells #[.bool true] 4));have⟨X,hX⟩:=zX w.heap.size;rw[<-am,<-hX]at q;have H:=H4 am;have HO:gh (jj w1 4 (.slice X 1 1) [X] ([true].map vb)):=gd q.R;have aF:=gd (h.fresh H);have aD:gh (gg [b] w w1):=gd (H.mono (by simp));have⟨HX,aG⟩:=gy hX am;clear h Y q am hX H;go_enter func7,ntmps7;go_wp2_with fail;rw[<-aG.o,<-HX.o]
 go_loopg [5] (n-1) (λj v5 wr=>∃(ks:List Bool) (F:List Nat) (a:Nat),ks.length+j=n/\gh (ks.getD 0 false=true)/\1<=ks.length/\gh (jj wr 4 v5 F (ks.map vb))/\gh (∀x∈F,w.heap.size<=x)/\gh (jv wr b A cap L a)/\gh (gg [b] w wr))
 .exact⟨[true],[X],at_,by show 1+(n-1)=n;omega,gd rfl,by decide,HO,gd (λx f=>by simp at f;have:=HX.o;omega),aF,aD⟩
 obtain⟨ks,F,a,D,E,z,V,m,R,U⟩:=hrel;have l:=V.o;obtain⟨A5,c5,rfl,-,-,-⟩:=l.T;rcases gk with _|j
 .have K:ks.length=n:=by omega
  obtain⟨g,c,W,q,hF⟩:=Rn (N:=n) l (by rw[zE];exact K) (by omega);have t1:=Ra ks.length n (by omega);have t2:decide (ks.length<n)=false:=zA (by omega);have⟨HE,HR⟩:=gy W q;have Z:gh (w.heap.size<=g):=gd (m.o g (by rw[hF];simp));have aE:=gd K;clear l W q hF K;go_wp2_with fail;go_ret;rw[HE.o];exact⟨ks,g,c,a,rfl,aE.o,E.o,HR.o,R.o,U.o,Z.o⟩
 .have t1:=jo ks.length n (by omega)
  have t2:decide (ks.length<n)=true:=zB (by omega);have S:=mN wr b cap a 3 A L R.o (by omega) (by omega);clear l;go_wp2_with fail;refine S.mono ?_;rintro e p ⟨v,Q,rfl,hv,T,I⟩;have⟨ay,aA,aj⟩:=Q9 (V.o.Z I (λx f hm=>by simp at hm;subst hm;have:=m.o _ f;have:=HB.o;omega)) T (U.o.tq I);clear S T I;by_cases hv0:v=0
  .subst hv0
   have t3:(((0:Nat):Int)==0)=true:=rfl;have l:=ay.o.alloc (.cells #[.bool true] 4);have⟨ad,ao⟩:=gy D z;clear D z
   go_wp2_with(at_builtin;refine ka rfl rfl HJ rfl rfl l (.bool true) rfl ((gn.new p 4 #[.bool true]).X 0) ?e2 ?e3 ?e4 ?_)
   case e2=>rfl
   case e3=>rw[zE];have:=ad.o;omega
   case e4=>rw[zE];have:=ad.o;omega
   intro M aq w8 u r;have⟨ap,ae⟩:=gy u.R r;clear u r l;go_wp2_with fail
   go_roundg j
   case measure=>have:=ad.o;omega
   case rel=>
    have J:b∉F:=λhm=>by have:=m.o b hm;have:=HB.o;omega
    have s:gg F p w8:=((zR F p).alloc _).tq ae.o.Z;refine⟨ks++[true],[M],Q,by rw[zC,length_singleton];have:=ad.o;omega,gd ?_,by rw[zC,length_singleton];omega,gd ?_,gd ?_,gd ?_,gd ?_⟩
    .rw[zD,getElem?_append_left (by have:=ao.o;omega),<-zD];exact E.o
    .rw[zM];simpa[vb]using ap.o
    .intro x f
     rcases ae.o.new x f with y|y
     .exact m.o x y
     .have h2:=aj.o.size
      have h3:(p.alloc (.cells #[.bool true] 4)).heap.size=p.heap.size+1:=Array.size_push _;omega
    .exact aA.o.Y s J (ib.fresh HT.o.cells m.o)
    .exact aj.o.trans s (λx f=>.inr (m.o x f))
  .have t3:((v:Int)==0)=false:=by rw[beq_eq_false_iff_ne];omega
   clear hv0;have l:=ay.o.alloc (.cells #[.bool false] 4);have⟨ad,ao⟩:=gy D z;clear D z
   go_wp2_with(at_builtin;refine ka rfl rfl HJ rfl rfl l (.bool false) rfl ((gn.new p 4 #[.bool false]).X 0) ?e2 ?e3 ?e4 ?_)
   case e2=>rfl
   case e3=>rw[zE];have:=ad.o;omega
   case e4=>rw[zE];have:=ad.o;omega
   intro M aq w8 u r;have⟨ap,ae⟩:=gy u.R r;clear u r l;go_wp2_with fail
   go_roundg j
   case measure=>have:=ad.o;omega
   case rel=>
    have J:b∉F:=λhm=>by have:=m.o b hm;have:=HB.o;omega
    have s:gg F p w8:=((zR F p).alloc _).tq ae.o.Z;refine⟨ks++[false],[M],Q,by rw[zC,length_singleton];have:=ad.o;omega,gd ?_,by rw[zC,length_singleton];omega,gd ?_,gd ?_,gd ?_,gd ?_⟩
    .rw[zD,getElem?_append_left (by have:=ao.o;omega),<-zD];exact E.o
    .rw[zM];simpa[vb]using ap.o
    .intro x f
     rcases ae.o.new x f with y|y
     .exact m.o x y
     .have h2:=aj.o.size
      have h3:(p.alloc (.cells #[.bool false] 4)).heap.size=p.heap.size+1:=Array.size_push _;omega
    .exact aA.o.Y s J (ib.fresh HT.o.cells m.o)
    .exact aj.o.trans s (λx f=>.inr (m.o x f))
end Go.Proofs.YtifdlkoepaepiaaGreatDoor
