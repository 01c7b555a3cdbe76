/- Lemmas. -/
import Derived.Test.YtifdlkoepaepiaaGreatDoorMg50
import Derived.Test.YtifdlkoepaepiaaGreatDoorMg51
import Derived.Test.YtifdlkoepaepiaaGreatDoorMg48
set_option linter.all false
set_option maxHeartbeats 4000000
set_option maxRecDepth 100000
namespace Go.Proofs.YtifdlkoepaepiaaGreatDoor
open _root_.Go.Proofs.Tryz List Nat Go.RowKit
variable {F:List Nat}{b1 b2 b3 cap i j k:Nat}{c:Nat->Nat}{B:Nat->Option Addr}
theorem KK{way:Option Nat}(d:l9 way){p:gA}(q:p.Ok)(h:(ic p).length<=256)(a:qK way p=true)(f:∀b∈ky way p,b<2){w:World}(r:iK w){A:Option Addr}(v:gz b8 w A (jE (ky way p)))(l:(jE (ky way p)).length<=cap)(m:cap<=9223372036854775807):Calls prog 35 #[.slice A (jE (ky way p)).length cap] w (lA w p):=by
 have s:ky way p=pa p.W p.H p.d p.P.length++(gx 1 1++(lP p.P.length p.d (ic p)++lw way (jc p) p.W p.H (kA (ic p).length))):=rfl;refine Di q (.inr rfl) s (yT d q h a) f (λbo w' b F hA h1 h2 h3 => ?_) r v l m
 have:=Mr d h1 q h a h2 h3 hA
 have u:0+18+1+(lP p.P.length p.d (ic p)).length+(lw way (jc p) p.W p.H (kA (ic p).length)).length=(ky way p).length:=by
  rw[s];simp only[zC,sO,gH];omega
 rw[u]at this;exact this
inductive Hl where
 | ok (bs:List Nat)
 | bad (k:Int)
def r7 (kind:Option Nat) (p:gA):Bool:=match kind with
 | none=>true
 | some k=>kC p.P.length k
def nl (way kind:Option Nat) (colours:Nat) (p:gA):Hl :=
 if colours=0 then(if r7 kind p=true then(if qE way (nz kind p) p=true then .ok (nN way (nz kind p) p)else .bad 6)else .bad 1)
 else if (ic p).length<=colours then(if qK way p=true then .ok (ky way p)else .bad 6)else .bad 7
def o3 (w:World) (r:Hl) (e:Ending) (w':World):Prop:=match r with
 | .ok bs=>∃v G,e=.returned (.tuple #[v,(0:Int)])/\gK w' 5 v G ((jE bs).map b8)/\gg [] w w'/\(∀x∈G,w.heap.size<=x)/\(∀b∈bs,b<2)
 | .bad k=>e=.returned (.tuple #[.slice none 0 0,k])/\gg [] w w'
theorem FT{way : Option Nat}(a : l9 way){kind : Option Nat}(hkind : l9 kind)(I : ∀k, kind = some k -> k <= 4){colours: Nat}(c1 : colours <= 256){w: World}{p : gA}{g o: Nat}{B : Nat -> Option Addr}{c : Nat -> Nat}{G: List Nat}(cap : Nat)(h : ip w p g o B c G)(hp : iK w):Calls prog 31 #[gW p g o cap,.int .i64 (lM kind),colours,.int .i64 (lM way)] w (o3 w (nl way kind colours p)):=by
  have C:=h.ok;have bM:∀w',gg [] w w'->_:=λw' (hc':gg [] w w')=>oJ cap (h.Y hc');have bO:=λk (k4:k<=4) w'=>uL p.P.length k w' C.n0 C.n1 k4;have Q:∀w' b F bs,gg [] w w'->1<=colours->hJ w' b F bs->(∀x∈F,w.heap.size<=x)->bs.length<1000000->_:=λw' b F bs (hc':gg [] w w') c0 hw (hF:∀x∈F,w.heap.size<=x) hb=>M2 a cap (h.Y hc') c0 c1 b F bs hw (λx hx hm=>by have:=h.lt x hx;have:=hF x hm;omega) (hp.Y hc') (λhm=>by have:=hF 0 hm;have:=hp.lt;omega) hb;have U:∀w' b F bs,gg [] w w'->xQ kind p->hJ w' b F bs->(∀x∈F,w.heap.size<=x)->bs.length<1000000->_:=λw' b F bs (hc':gg [] w w') hk hw (hF:∀x∈F,w.heap.size<=x) hb=>KG a cap (h.Y hc') hk b F bs hw (λx hx hm=>by have:=h.lt x hx;have:=hF x hm;omega) (hp.Y hc') (λhm=>by have:=hF 0 hm;have:=hp.lt;omega) hb;have b0:=λ(hm:qE way (nz kind p) p=true)=>yS a C hm;have b1:=λh9 (hm:qK way p=true)=>yT a C h9 hm;have⟨HL,aj⟩:=zX (pa p.W p.H p.d p.P.length);have aA:HL.length=18:=by rw[aj];exact sO _ _ _ _
  have aP:nN way (nz kind p) p=HL++(gx 0 1++(gx (nz kind p) 3++jR way (jg (nz kind p) p) p.P.length)):=by rw[aj];rfl
  have aQ:ky way p=HL++(gx 1 1++(lP p.P.length p.d (ic p)++lw way (jc p) p.W p.H (kA (ic p).length))):=by rw[aj];rfl
  have b2:r7 kind p=true->xQ kind p:=λhb k hk=>⟨I k hk,by subst hk;exact hb⟩;have b9:∀k,kind=some k->r7 kind p=kC p.P.length k:=λk hk=>by subst hk;rfl
  have bg:kind=none->r7 kind p=true:=λhk=>by subst hk;rfl
  have bd:∀e w' r,nl way kind colours p=r->o3 w r e w'->o3 w (nl way kind colours p) e w':=λe w' r h1 h2=>by rw[h1];exact h2
  have cj : -1<=lM way/\lM way<=7:=by
    cases way with
    | none=>exact⟨by decide,by decide⟩
    | some k=>have := a k rfl;show -1<=(k:Int)/\(k:Int)<=7;omega
  have aw:(kind=none/\lM kind=-1)\/∃k,kind=some k/\k<=4/\lM kind=(k:Int):=by
    cases kind with
    | none=>exact .inl ⟨rfl,rfl⟩
    | some k=>exact .inr ⟨k,rfl,I k rfl,rfl⟩
  have bN : -1<=lM kind/\lM kind<=4:=by
    rcases aw with⟨_,e⟩|⟨k,_,h1,e⟩<;>rw[e]<;>omega
  unfold xe xE at *;unfold gW at *;have⟨n,hn⟩:=zX p.P.length;have cW:1<=n:=by rw[hn];exact C.n0
  have cX:n<=4:=by rw[hn];exact C.n1
  rw[<-hn]at bM bO Q U aj aP aQ⊢;have cG:=C.w0;have cI:=C.w1;have cC:=C.h0;have cE:=C.h1;have cJ:=C.d0;have cK:=C.d1;have⟨wi,bi⟩:=zX (lM way);have⟨ki,bf⟩:=zX (lM kind);have⟨ci,aK⟩:=zX ((colours:Int));rw[<-bi]at cj Q U⊢;rw[<-bf]at aw bN U⊢;rw[<-aK]at Q⊢;obtain⟨E,cH⟩:∃E,p.W=E+1:=⟨p.W-1,by omega⟩;obtain⟨K,cD⟩:∃K,p.H=K+1:=⟨p.H-1,by omega⟩;obtain⟨J,cB⟩:∃J,p.d=J+1:=⟨p.d-1,by omega⟩;obtain⟨L,cF⟩:∃L,n=L+1:=⟨n-1,by omega⟩;have e1:(p.W:Int)-1=(E:Int):=by omega
  have e2:(p.H:Int)-1=(K:Int):=by omega
  have e3:(p.d:Int)-1=(J:Int):=by omega
  have e4:(n:Int)-1=(L:Int):=by omega
  have u1:IntKind.u64.wrap (E:Int)=(E:Int):=IntWalk.u64_in _ (by omega);have u2:IntKind.u64.wrap (K:Int)=(K:Int):=IntWalk.u64_in _ (by omega);have u3:IntKind.u64.wrap (J:Int)=(J:Int):=IntWalk.u64_in _ (by omega);have u4:IntKind.u64.wrap (L:Int)=(L:Int):=IntWalk.u64_in _ (by omega);have aB:HL=gx E 6++(gx K 6++(gx J 4++gx L 2)):=by
    rw[aj,pa,show p.W-1=E by omega,show p.H-1=K by omega,show p.d-1=J by omega,show n-1=L by omega]
  have t1:decide (ki < -1)=false:=zA (by omega);have t2:decide (4<ki)=false:=zA (by omega);have t3:decide (ci<0)=false:=zA (by omega);have t4:decide (256<ci)=false:=zA (by omega);have t5:decide (wi < -1)=false:=zA (by omega);have t6:decide (7<wi)=false:=zA (by omega);have cT:E<64:=by omega
  have cR:K<64:=by omega
  have cQ:J<16:=by omega
  have cS:L<4:=by omega
  have⟨w1,bq⟩:=zX (w.alloc (.cells #[p.W,p.H,p.d,.slice (some ⟨g,o,none⟩) n cap] 46));have⟨X,hX⟩:=zX w.heap.size;have bn:iF w1 X (.int .i64 p.W) (.int .i64 p.H) (.int .i64 p.d) (.slice (some ⟨g,o,none⟩) n cap):=⟨by rw[bq,hX];exact gn.new w _ _⟩;have bZ:gg [] w w1:=by rw[bq];exact(zR [] w).alloc _
  have⟨bl,HX⟩:=gy bq hX;have bF:gh (X<w1.heap.size):=gd bn.blk.lt;have⟨aI,am,bk,cu⟩:=gu bn bZ bM bO;have⟨cq,cv,co,cp⟩:=gu Q U b0 b1;have⟨bR,bw,bx,cs⟩:=gu aA aP aQ b2;have⟨bT,cr,an,cN⟩:=gu b9 bg bd bN;have⟨aV,bv,bW,aZ⟩:=gu aK aB hn c1;obtain⟨f,l,m,q⟩:=bn.cells;clear bq hX bn bZ bM bO Q U b0 b1 aA aP aQ b2 b9 bg bd bN aK aB aj h C hkind I a cj hn bi bf cH cD cB cF cG cI cC cE cJ cK hp c1;have bb:(ci=0/\kind=none/\ki=-1)\/(ci=0/\∃k,kind=some k/\k<=4/\ki=(k:Int))\/1<=colours:=by
    have:=aV.o
    rcases eq_zero_or_pos colours with h0|h0
    · rcases aw with⟨e,e'⟩|⟨k,e,e',cx⟩
      · exact .inl ⟨by omega,e,e'⟩
      · exact .inr (.inl ⟨by omega,k,e,e',cx⟩)
    · exact .inr (.inr h0)
  clear aw;rcases bb with⟨rfl,bg,rfl⟩|⟨rfl,k,ca,I,rfl⟩|b4;rotate_left;have bo:∀v,kC n k=v->_:=λv hv w'=>by have:=cu.o k I w';rw[hv]at this;exact this
  have bU:=gd ca;clear ca;cases hmv:kC n k
  · have bc:=bo _ hmv
    have bz:=gd hmv;clear bo hmv;go_enter func31,ntmps31;go_wp2_with fail;rw[<-bl.o,<-HX.o];refine(bk.o w1 am.o).mono ?_;rintro e s ⟨rfl,y⟩;obtain⟨f,l,m,q⟩:=(aI.o.Y y).cells;have u:=gd y;clear y;go_wp2_with fail;refine(bc _).mono ?_;rintro e w3 ⟨rfl,rfl⟩;clear bc;go_wp2_with fail;refine bodyPost_ret (v:=.tuple #[.slice none 0 0,(1:Int)]) (by simp[results,results31,go_sem]) rfl ?_;refine an.o _ _ (.bad 1) ?_ ⟨rfl,am.o.tq u.o⟩;unfold nl;rw[if_pos (by have:=aV.o;omega),if_neg (by rw[bT.o k bU.o,<-bW.o,bz.o];simp)]
  have bc:=bo _ hmv;have bz:=gd hmv;clear bo hmv;go_enter func31,ntmps31;go_wp2_with fail;rw[<-bl.o,<-HX.o];refine(bk.o w1 am.o).mono ?_;rintro e s ⟨rfl,y⟩;obtain⟨f,l,m,q⟩:=(aI.o.Y y).cells;have u:=gd y;clear y;go_wp2_with fail;refine(bc _).mono ?_;rintro e w3 ⟨rfl,rfl⟩;clear bc;have au:gh (r7 kind p=true):=gd (by rw[bT.o k bU.o,<-bW.o];exact bz.o);have aU:gh (colours=0):=gd (by have:=aV.o;omega);clear f l m q;have⟨w4,ae⟩:=zX (s.alloc (.cells #[.slice none 0 0,(0:Int)] 90));have⟨b,hb⟩:=zX s.heap.size;have V:hJ w4 b [b] []:=by rw[ae,hb];exact hJ.new s
  have H:gg [] s w4:=by rw[ae];exact(zR [] s).alloc _
  have O:X∉[b]:=by
    simp only[zU]
    have:=bF.o
    have:=u.o.size
    omega
  have N:gh (w.heap.size<=b):=gd (by rw[hb];exact(am.o.tq u.o).size);have W:gh (gg [] w w4):=gd ((am.o.tq u.o).tq H);have M:gh (∀Fz wz,gE [b] Fz w4 wz->iF wz X (.int .i64 p.W) (.int .i64 p.H) (.int .i64 p.d) (.slice (some ⟨g,o,none⟩) n cap)):=gd (λFz wz hz=>((aI.o.Y u.o).Y H).Z hz.Z O);have Y:gh (∀Fz wz,gE [b] Fz w4 wz->gg [] w wz):=gd (λFz wz hz=>W.o.trans hz.Z (λx hx => .inr (by simp at hx;have:=N.o;omega)));have bj:gh (∀Fz wz,gE [b] Fz w4 wz->∀x∈Fz,w.heap.size<=x):=gd (λFz wz hz x hx=>by
    rcases hz.new x hx with h|h
    · simp at h;have:=N.o;omega
    · have:=W.o.size;omega)
  obtain⟨f,l,m,q⟩:=(M.o [b] w4 (gE.refl _ _)).cells;have bp:=iG w4 b [b] [] E 6 V (by decide) (by omega) (by simp);have⟨a6,al⟩:=gy ae hb;rw[ae]at f l m q;clear ae hb V H O;go_wp2_with fail;rw[<-a6.o,<-al.o];rotate_left;have cU:(ci==0)=false:=by have:=aV.o;simp;omega
  have cV:decide (0<ci)=true:=zB (by have:=aV.o;omega);have aU:=gd b4;clear b4;go_enter func31,ntmps31;go_wp2_with fail;rw[<-bl.o,<-HX.o];refine(bk.o w1 am.o).mono ?_;rintro e s ⟨rfl,y⟩;obtain⟨f,l,m,q⟩:=(aI.o.Y y).cells;have u:=gd y;clear y;clear f l m q;have⟨w4,ae⟩:=zX (s.alloc (.cells #[.slice none 0 0,(0:Int)] 90));have⟨b,hb⟩:=zX s.heap.size;have V:hJ w4 b [b] []:=by rw[ae,hb];exact hJ.new s
  have H:gg [] s w4:=by rw[ae];exact(zR [] s).alloc _
  have O:X∉[b]:=by
    simp only[zU]
    have:=bF.o
    have:=u.o.size
    omega
  have N:gh (w.heap.size<=b):=gd (by rw[hb];exact(am.o.tq u.o).size);have W:gh (gg [] w w4):=gd ((am.o.tq u.o).tq H);have M:gh (∀Fz wz,gE [b] Fz w4 wz->iF wz X (.int .i64 p.W) (.int .i64 p.H) (.int .i64 p.d) (.slice (some ⟨g,o,none⟩) n cap)):=gd (λFz wz hz=>((aI.o.Y u.o).Y H).Z hz.Z O);have Y:gh (∀Fz wz,gE [b] Fz w4 wz->gg [] w wz):=gd (λFz wz hz=>W.o.trans hz.Z (λx hx => .inr (by simp at hx;have:=N.o;omega)));have bj:gh (∀Fz wz,gE [b] Fz w4 wz->∀x∈Fz,w.heap.size<=x):=gd (λFz wz hz x hx=>by
    rcases hz.new x hx with h|h
    · simp at h;have:=N.o;omega
    · have:=W.o.size;omega)
  obtain⟨f,l,m,q⟩:=(M.o [b] w4 (gE.refl _ _)).cells;have bp:=iG w4 b [b] [] E 6 V (by decide) (by omega) (by simp);have⟨a6,al⟩:=gy ae hb;rw[ae]at f l m q;clear ae hb V H O;go_wp2_with fail;rw[<-a6.o,<-al.o];rotate_left;have au:gh (r7 kind p=true):=gd (cr.o bg);have aU:gh (colours=0):=gd (by have:=aV.o;omega);clear bg;go_enter func31,ntmps31;go_wp2_with fail;rw[<-bl.o,<-HX.o];refine(bk.o w1 am.o).mono ?_;rintro e s ⟨rfl,y⟩;obtain⟨f,l,m,q⟩:=(aI.o.Y y).cells;have u:=gd y;clear y;clear f l m q;have⟨w4,ae⟩:=zX (s.alloc (.cells #[.slice none 0 0,(0:Int)] 90));have⟨b,hb⟩:=zX s.heap.size;have V:hJ w4 b [b] []:=by rw[ae,hb];exact hJ.new s
  have H:gg [] s w4:=by rw[ae];exact(zR [] s).alloc _
  have O:X∉[b]:=by
    simp only[zU]
    have:=bF.o
    have:=u.o.size
    omega
  have N:gh (w.heap.size<=b):=gd (by rw[hb];exact(am.o.tq u.o).size);have W:gh (gg [] w w4):=gd ((am.o.tq u.o).tq H);have M:gh (∀Fz wz,gE [b] Fz w4 wz->iF wz X (.int .i64 p.W) (.int .i64 p.H) (.int .i64 p.d) (.slice (some ⟨g,o,none⟩) n cap)):=gd (λFz wz hz=>((aI.o.Y u.o).Y H).Z hz.Z O);have Y:gh (∀Fz wz,gE [b] Fz w4 wz->gg [] w wz):=gd (λFz wz hz=>W.o.trans hz.Z (λx hx => .inr (by simp at hx;have:=N.o;omega)));have bj:gh (∀Fz wz,gE [b] Fz w4 wz->∀x∈Fz,w.heap.size<=x):=gd (λFz wz hz x hx=>by
    rcases hz.new x hx with h|h
    · simp at h;have:=N.o;omega
    · have:=W.o.size;omega)
  obtain⟨f,l,m,q⟩:=(M.o [b] w4 (gE.refl _ _)).cells;have bp:=iG w4 b [b] [] E 6 V (by decide) (by omega) (by simp);have⟨a6,al⟩:=gy ae hb;rw[ae]at f l m q;clear ae hb V H O;go_wp2_with fail;rw[<-a6.o,<-al.o]
  all_goals
    refine bp.mono ?_;rintro e w5 ⟨rfl,F5,ce,bL⟩;obtain⟨f,l,m,q⟩:=(M.o F5 w5 bL).cells;have cb:=iG w5 b F5 _ K 6 ce (by decide) (by omega) (by simp[gH]);clear bp;go_wp2_with fail;refine cb.mono ?_;rintro e w6 ⟨rfl,F6,cf,b5⟩;have aM:=bL.trans b5;obtain⟨f,l,m,q⟩:=(M.o F6 w6 aM).cells;have cc:=iG w6 b F6 _ J 4 cf (by decide) (by omega) (by simp[gH]);clear cb;go_wp2_with fail;refine cc.mono ?_;rintro e w7 ⟨rfl,F7,cg,b6⟩;have aN:=aM.trans b6;obtain⟨f,l,m,q⟩:=(M.o F7 w7 aN).cells;have cd:=iG w7 b F7 _ L 2 cg (by decide) (by omega) (by simp[gH]);clear cc;go_wp2_with fail;refine cd.mono ?_;rintro e w8 ⟨rfl,F8,ch,b7⟩;have aO:=aN.trans b7;have bh:hJ w8 b F8 HL:=by
      rw[bv.o]
      simpa only[zH,nil_append]using ch
    have⟨bD,ar⟩:=gy bh aO;obtain⟨f,l,m,q⟩:=(M.o F8 w8 aO).cells;clear cd ce bL cf b5 aM cg b6 aN ch b7 aO bh
  iterate 2
    (have U:=cv.o w8 b F8 HL (Y.o _ _ ar.o) (cs.o au.o) bD.o (bj.o _ _ ar.o) (by rw[bR.o];decide)
     go_wp2_with fail;refine U.mono ?_;rintro e w9 D;clear f l m q U;cases hm:qE way (nz kind p) p
     · rw[if_neg (by rw[hm];simp)]at D
       obtain⟨rfl,F9,z⟩:=D;have⟨Z,HM⟩:=gy (ar.o.trans z) hm;clear z hm;go_wp2_with fail;refine bodyPost_ret (v:=.tuple #[.slice none 0 0,(6:Int)]) (by simp[results,results31,go_sem]) rfl ?_;refine an.o _ _ (.bad 6) ?_ ⟨rfl,Y.o _ _ Z.o⟩;unfold nl;rw[if_pos aU.o,if_pos au.o,if_neg (by rw[HM.o];simp)]
     rw[if_pos hm]at D;obtain⟨rfl,F9,aT,z⟩:=D;have Z:=gd (ar.o.trans z);have⟨T,hT⟩:=zX (nN way (nz kind p) p);have ag:=co.o hm;rw[<-hT]at ag;rw[<-bw.o,<-hT]at aT;have bE:=gd aT;have av:gh (19<=T.length/\T.length<=4096000000):=gd ⟨by omega,ag.2⟩;have a5:gh (nl way kind colours p=.ok T):=gd (by
       unfold nl;rw[if_pos aU.o,if_pos au.o,if_pos hm,hT])
     clear ag hT aT z hm;rotate_left)
  have Q:=cq.o w8 b F8 HL (Y.o _ _ ar.o) aU.o bD.o (bj.o _ _ ar.o) (by rw[bR.o];decide);go_wp2_with fail;refine Q.mono ?_;rintro e w9 D;clear f l m q Q;have aW:¬colours=0:=by have:=aU.o;omega
  rcases zZ colours (ic p).length with R|R
  · rw[if_neg (by omega)]at D
    obtain⟨rfl,F9,z⟩:=D;have⟨Z,HM,bA⟩:=gX (ar.o.trans z) R aW;clear z R aW;go_wp2_with fail;refine bodyPost_ret (v:=.tuple #[.slice none 0 0,(7:Int)]) (by simp[results,results31,go_sem]) rfl ?_;refine an.o _ _ (.bad 7) ?_ ⟨rfl,Y.o _ _ Z.o⟩;unfold nl;rw[if_neg bA.o,if_neg (by have:=HM.o;omega)]
  rw[if_pos R]at D;cases hm:qK way p
  · rw[if_neg (by rw[hm];simp)]at D
    obtain⟨rfl,F9,z⟩:=D;have⟨Z,HM,ct,bA⟩:=gu (ar.o.trans z) hm R aW;clear z hm R aW;go_wp2_with fail;refine bodyPost_ret (v:=.tuple #[.slice none 0 0,(6:Int)]) (by simp[results,results31,go_sem]) rfl ?_;refine an.o _ _ (.bad 6) ?_ ⟨rfl,Y.o _ _ Z.o⟩;unfold nl;rw[if_neg bA.o,if_pos ct.o,if_neg (by rw[HM.o];simp)]
  rw[if_pos hm]at D;obtain⟨rfl,F9,aT,z⟩:=D;have Z:=gd (ar.o.trans z);have⟨T,hT⟩:=zX (ky way p);have ag:=cp.o (by have:=aZ.o;omega) hm;rw[<-hT]at ag;rw[<-bx.o,<-hT]at aT;have bE:=gd aT;have av:gh (19<=T.length/\T.length<=4096000000):=gd ag;have a5:gh (nl way kind colours p=.ok T):=gd (by
    unfold nl;rw[if_neg aW,if_pos R,if_pos hm,hT])
  clear ag hT aT z hm R aW
  all_goals
    have b3:=GP w9 b F9 T bE.o (by have:=av.o;omega);have br:=gd bE.o.bit;clear bD;go_wp2_with fail;refine b3.mono ?_;rintro e cL ⟨rfl,cl,aS,be⟩;have aD:=Z.o.trans be;have bI:=xD cL b cl (kV T) aS (by rw[rW];have:=av.o;omega);have a9:=aS.bit;have⟨ac,ad⟩:=zX (iD (kV T));have bH:ac.length<=1000000000:=(by rw[ad,ox,rW];have:=av.o;omega);have aL:∀d∈ac,d<256:=(by rw[ad];exact xd a9);have bX:gh (jE T=ac++jP (mu ac)):=gd (by rw[ad];rfl);rw[<-ad]at bI;have aX:=gd (Y.o _ _ aD);clear b3 aS be aD a9 ad;go_wp2_with fail;refine bI.mono ?_;rintro e cM ⟨cZ,cn,rfl,ai,a7,a8⟩;obtain⟨ck,cw,rfl,cz,cA,ba⟩:=ai.T;have bm:=vS cM ck cw ac ba aL (by omega);have bJ:=xH aL;have bG:=λw'=>BM (mu ac) bJ w';have⟨S,hS⟩:=zX (mu ac);rw[<-hS]at bm bG bJ bX;have⟨nb,bP⟩:=zX ac.length;rw[<-bP]at bm ai bH⊢;have cY:IntKind.u64.wrap (S:Int)=(S:Int):=IntWalk.u64_in _ (by omega);have⟨bV,bS,bB,a4⟩:=gu bP bH ai (λx hx=>Nat.le_trans aX.o.size (a8 x hx):∀x∈cn,w.heap.size<=x);have bu:=gd (aX.o.tq a7);clear bI ai a7 a8 cz cA ba aL bJ hS bP bH;go_wp2_with fail;refine bm.mono ?_;rintro e c6 ⟨rfl,rfl⟩;clear bm;go_wp2_with fail;refine(bG _).mono ?_;rintro e c7 ⟨cP,cO,rfl,ap,aJ,bK⟩;have aR:=bB.o.Y aJ;have⟨bC,aY⟩:=gy ap (bu.o.tq aJ);have bQ:(jP S).length=4:=rfl;clear ap aJ bK bG
    go_wp2_with(at_builtin;refine ns rfl rfl nT rfl rfl aR ((jP S).map b8) 4 rfl ?c1 ?c2 ?c3 ?c4 ?c5 ?_)
    case c1=>rfl
    case c2=>exact gv.cellsB bC.o
    case c3=>exact pj _
    case c4=>rw[zE,zE,bQ];have := bS.o;have := bV.o;omega
    case c5=>rw[zE,zE,bQ];have := bS.o;have := bV.o;omega
    intro v8 cm c8 cy bY;clear bQ;go_wp2;refine bodyPost_ret (v:=.tuple #[v8,(0:Int)]) (by simp[results,results31,go_sem]) rfl ?_;refine an.o _ _ (.ok T) a5.o ⟨v8,cm,rfl,by rw[bX.o,zM];exact cy,?_,λx hx => ?_,br.o⟩
    · exact aY.o.trans bY.Z (λx hx => .inr (a4.o x hx))
    · rcases bY.new x hx with h|h
      · exact a4.o x h
      · have:=aY.o.size;omega
def oe (p:gA):List Nat:=nN none (kJ p 4) p
def lU (p:gA):List Nat:=if (ic p).length<=256/\(jE (ky none p)).length<(jE (oe p)).length then ky none p else oe p
theorem Pp(p:gA):nl none none 0 p=.ok (oe p):=by
 unfold nl oe;have a:r7 none p=true:=rfl;have b:qE none (nz none p) p=true:=yt _ _;rw[if_pos rfl,if_pos a,if_pos b];rfl
theorem Pq(p:gA):nl none none 256 p=if (ic p).length<=256 then .ok (ky none p)else .bad 7:=by
 unfold nl;have a:qK none p=true:=tR _ _ _ _ _;rw[if_neg (by decide)];by_cases h:(ic p).length<=256
 .rw[if_pos h,if_pos h,if_pos a]
 .rw[if_neg h,if_neg h]
theorem KY{p:gA}(h:p.Ok):22<=(oe p).length/\(oe p).length<=4096000000:=yS (way:=none) (λ_ e=>by cases e) h (yt _ _)
theorem KZ{p:gA}(h:p.Ok)(a:(ic p).length<=256):19<=(ky none p).length/\(ky none p).length<=4096000000:=yT (way:=none) (λ_ e=>by cases e) h a (tR _ _ _ _ _)
theorem Gb{w:World}{p:gA}{g o:Nat}{G:List Nat}(cap:Nat)(h:ip w p g o B c G)(O:iK w):Calls prog 20 #[gW p g o cap] w (o3 w (.ok (lU p))):=by
 have M:=h.ok;have s:l9 none:=λ_ e=>by cases e
 have b:∀w',gg [] w w'->_:=λw' (hc':gg [] w w')=>FT (way:=none) s (kind:=none) s (λ_ e=>by cases e) (colours:=0) (by decide) cap (h.Y hc') (O.Y hc');have f:∀w',gg [] w w'->_:=λw' (hc':gg [] w w')=>FT (way:=none) s (kind:=none) s (λ_ e=>by cases e) (colours:=256) (by decide) cap (h.Y hc') (O.Y hc');rw[Pp]at b;rw[Pq]at f;have e0:lM none=-1:=rfl;rw[e0]at b f;have r:lU p=if (ic p).length<=256/\(jE (ky none p)).length<(jE (oe p)).length then ky none p else oe p:=rfl;have W:=(KY M).2;have L:=λhc=>(KZ M hc).2;have N:=yZ (oe p);have I:=yZ (ky none p);rw[zt]at N I;have⟨a,ha⟩:=zX (oe p);have⟨d,hd⟩:=zX (ky none p);have⟨m,hm⟩:=zX ((ic p).length);rw[<-ha]at b r W N;rw[<-hd]at f r L I;rw[<-hm]at f r L;have⟨la,aw⟩:=zX ((jE a).length);have⟨ld,ax⟩:=zX ((jE d).length);rw[<-aw,<-ax]at r;unfold o3 at b;unfold gW at *;have⟨n,hn⟩:=zX p.P.length;rw[<-hn]at b f⊢;have⟨w1,an⟩:=zX (w.alloc (.cells #[p.W,p.H,p.d,.slice (some ⟨g,o,none⟩) n cap] 46));have⟨X,hX⟩:=zX w.heap.size;have K:iF w1 X (.int .i64 p.W) (.int .i64 p.H) (.int .i64 p.d) (.slice (some ⟨g,o,none⟩) n cap):=⟨by rw[an,hX];exact gn.new w _ _⟩;have T:gg [] w w1:=by rw[an];exact(zR [] w).alloc _
 have⟨aM,HX,aH,ap⟩:=gu an hX K T;have⟨aN,aO,aq,aJ⟩:=gu b f r aw;have aK:=gd ax;obtain⟨C,D,E,H⟩:=K.cells;clear an hX K T b f r aw ax M h O ha hd hm hn W L N I s e0;go_enter func20,ntmps20;go_wp2_with fail;rw[<-aM.o,<-HX.o];refine(aN.o w1 ap.o).mono ?_;rintro e w2 ⟨v2,y,rfl,ad,J,U,Y⟩;obtain⟨Q,c2,rfl,-,-,-⟩:=ad.T;rw[<-aJ.o]at ad⊢;obtain⟨C,D,E,H⟩:=(aH.o.Y J).cells;have⟨aC,al⟩:=gy ad (ap.o.tq J);have S:gh (∀x∈y,w.heap.size<=x):=gd (λx hx=>Nat.le_trans ap.o.size (U x hx));have ak:=gd Y;clear ad J U Y;go_wp2_with fail;refine(aO.o w2 al.o).mono ?_;intro e w3 q;by_cases hm:m<=256
 .rw[if_pos hm]at q
  unfold o3 at q;obtain⟨v3,R,rfl,u,l,V,Z⟩:=q;obtain⟨A3,c3,rfl,-,-,-⟩:=u.T;rw[<-aK.o]at u⊢;have⟨aL,am,ah⟩:=gX u (al.o.tq l) l;have aI:gh (∀x∈R,w.heap.size<=x):=gd (λx hx=>Nat.le_trans al.o.size (V x hx));have⟨ao,HM⟩:=gy Z hm;clear u l V Z hm C D E H;by_cases hl:ld<la
  .have t1:=jo ld la (by omega)
   have t2:decide (ld<la)=true:=zB hl;have z:=gd hl;clear hl;go_wp2_with fail;refine bodyPost_ret (v:=.tuple #[.slice A3 ld c3,(0:Int)]) (by simp[results,results20,go_sem]) rfl ?_;rw[aq.o,if_pos ⟨HM.o,z.o⟩];exact⟨_,R,rfl,aL.o,am.o,aI.o,ao.o⟩
  .have t1:=gY ld la (by omega)
   have t2:decide (ld<la)=false:=zA hl;have z:=gd hl;clear hl;go_wp2_with fail;refine bodyPost_ret (v:=.tuple #[.slice Q la c2,(0:Int)]) (by simp[results,results20,go_sem]) rfl ?_;rw[aq.o,if_neg (λhh=>z.o hh.2)];exact⟨_,y,rfl,aC.o.Y ah.o,am.o,S.o,ak.o⟩
 .rw[if_neg hm]at q
  unfold o3 at q;obtain⟨rfl,l⟩:=q;have⟨am,ah,HM⟩:=gX (al.o.tq l) l hm;clear l hm C D E H;go_wp2_with fail;refine bodyPost_ret (v:=.tuple #[.slice Q la c2,(0:Int)]) (by simp[results,results20,go_sem]) rfl ?_;rw[aq.o,if_neg (λhh=>HM.o hh.1)];exact⟨_,y,rfl,aC.o.Y ah.o,am.o,S.o,ak.o⟩
theorem KJ{p:gA}(q:p.Ok)(a:∀b∈lU p,b<2){w:World}(l:iK w){A:Option Addr}(m:gz b8 w A (jE (lU p)))(d:(jE (lU p)).length<=cap)(f:cap<=9223372036854775807):Calls prog 35 #[.slice A (jE (lU p)).length cap] w (lA w p):=by
 by_cases h:(ic p).length<=256/\(jE (ky none p)).length<(jE (oe p)).length
 .have e:lU p=ky none p:=if_pos h
  rw[e]at a m d⊢;exact KK (way:=none) (λ_ e=>by cases e) q h.1 (tR _ _ _ _ _) a l m d f
 .have e:lU p=oe p:=if_neg h
  rw[e]at a m d⊢;exact I0 (way:=none) (λ_ e=>by cases e) q (xq p 4) (xg q 4) (yt _ _) a l m d f
def nH (prev s:gA) (c:iW):Prop :=
 (c.k=true->c.ds=jE (lU s)/\∀b∈lU s,b<2) /\
 (c.k=false->∃ms:List (Int × Int),c.ds=mD prev s ms/\ms.length=(iM s.W s.H 8).length/\(∀i,i<ms.length->lO prev.W prev.H (gJ (iM s.W s.H 8) i) (ms.getD i (0,0)))/\tG prev s ms)
theorem yr{w:World}{x:Nat}{a b c:Value}(h:gn w x 43 #[a,b,c]):w.cell? x=some a/\w.cell? ⟨x,1,none⟩=some b/\w.cell? ⟨x,2,none⟩=some c:=⟨h.X 0,h.X 1,h.X 2⟩
theorem QW{w:World}{prev s:gA}{c:iW}(l:s.Ok)(p:nH prev s c){A:Option Addr}(d:gz b8 w A c.ds)(b:c.ds.length<=cap)(m:cap<=9223372036854775807)(O:iK w)(z0 z1 z2:Int)(z3:Value)(f:c.k=false->∃(g o cp:Nat) (B:Nat->Option Addr) (Z:Nat->Nat) (G:List Nat),(z0=(prev.W:Int)/\z1=(prev.H:Int)/\z2=(prev.d:Int)/\z3=.slice (some ⟨g,o,none⟩) prev.P.length cp)/\ip w prev g o B Z G/\iY prev s):Calls prog 23 #[.agg #[.int .i64 z0,.int .i64 z1,.int .i64 z2,z3],.agg #[.bool c.k,.int .i64 c.t,.slice A c.ds.length cap]] w (lA w s):=by
 obtain⟨I,tt,ds⟩:=c;have⟨n,hn⟩:=zX ds.length;have L:I=true->∀wz,gg [] w wz->Calls prog 35 #[.slice A n cap] wz (lA wz s):=λhk wz a=>by
  obtain⟨D,M⟩:=p.1 hk;simp only at D d b;subst D;rw[hn];exact KJ l M (O.Y a) (d.Y a) b m
 have K:I=false->∀wz,gg [] w wz->Calls prog 36 #[.agg #[.int .i64 z0,.int .i64 z1,.int .i64 z2,z3],.slice A n cap] wz (lA wz s):=λhk wz a=>by
  obtain⟨ms,D,M,h3,h4⟩:=p.2 hk;obtain⟨g,o,cp,B,Z,G,⟨e0,e1,e2,e3⟩,av,au⟩:=f hk;simp only at D d b;subst D;rw[hn,e0,e1,e2,e3];exact QH cp (av.Y a) l au (O.Y a) A cap ms M h3 h4 (d.Y a) b m
 unfold lA gW at L K⊢;simp only at d b⊢;rw[<-hn];have⟨w3,ae⟩:=zX (((w.alloc (.cells #[z0,z1,z2,z3] 46)).alloc (.cells #[.bool I,tt,.slice A n cap] 43)).alloc (.cells #[(0:Int),(0:Int),(0:Int),.slice none 0 0] 46));have⟨R,hR⟩:=zX (w.heap.size+1+1);have J:iF w3 R (.int .i64 0) (.int .i64 0) (.int .i64 0) (.slice none 0 0):=⟨by rw[ae,hR];exact gn.new3 w _ _ _ _⟩;have X:gn w3 (w.heap.size+1) 43 #[.bool I,tt,.slice A n cap]:=by rw[ae];exact(gn.new2 w _ _ _).alloc _
 have Y:iF w3 w.heap.size (.int .i64 z0) (.int .i64 z1) (.int .i64 z2) z3:=⟨by rw[ae];exact((gn.new w _ _).alloc _).alloc _⟩;have hC:gg [] w w3:=by rw[ae];exact(((zR [] w).alloc _).alloc _).alloc _
 obtain⟨q,r,u⟩:=yr X;obtain⟨S,T,U,W⟩:=Y.cells;have⟨ar,aq,an,ag⟩:=gu L K ae hR;have⟨al,HC,am⟩:=gX J hC J.blk.lt;rw[ae]at q r u S T U W;clear L K ae hR J X Y hC f p hn d b m O l;cases I
 .go_enter func23,ntmps23
  go_wp2_with fail;rw[<-an.o,<-ag.o];refine(aq.o (by trivial) w3 HC.o).mono ?_;rintro e w4 ⟨h,y,ys,l,rfl,H,ad,z⟩;have a:=al.o.Y ad;obtain⟨aw,ax,ay,az⟩:=a.cells;have f0:=a.blk.U 0;have f1:=a.blk.U 1;have f2:=a.blk.U 2;have f3:=a.blk.U 3;have⟨HZ,HO,ah,aa⟩:=gu a H ad z;clear H ad z a q r u S T U W;go_wp2_with fail;refine qF HZ.o ?_;intro V N E;obtain⟨q,r,u,Q⟩:=N.cells;refine bodyPost_ret (v:=.tuple #[.agg #[.int .i64 s.W,.int .i64 s.H,.int .i64 s.d,.slice h s.P.length y],(0:Int)]) (by simp[results,results23,go_sem,q,r,u,Q]) rfl ?_;have C:∀x∈h::l,x∉[R]:=λx hx hm=>by have:=aa.o x hx;have:=am.o;simp at hm;omega
  exact⟨h,y,ys,l,rfl,HO.o.Z E (C h (by simp)) (λx hx=>C x (by simp[hx])),(HC.o.tq ah.o).trans E (λx hx => .inr (by simp at hx;have:=ag.o;omega)),λx hx=>Nat.le_trans HC.o.size (aa.o x hx)⟩
 .go_enter func23,ntmps23
  go_wp2_with fail;rw[<-an.o,<-ag.o];refine(ar.o (by trivial) w3 HC.o).mono ?_;rintro e w4 ⟨h,y,ys,l,rfl,H,ad,z⟩;have a:=al.o.Y ad;obtain⟨aw,ax,ay,az⟩:=a.cells;have f0:=a.blk.U 0;have f1:=a.blk.U 1;have f2:=a.blk.U 2;have f3:=a.blk.U 3;have⟨HZ,HO,ah,aa⟩:=gu a H ad z;clear H ad z a q r u S T U W;go_wp2_with fail;refine qF HZ.o ?_;intro V N E;obtain⟨q,r,u,Q⟩:=N.cells;refine bodyPost_ret (v:=.tuple #[.agg #[.int .i64 s.W,.int .i64 s.H,.int .i64 s.d,.slice h s.P.length y],(0:Int)]) (by simp[results,results23,go_sem,q,r,u,Q]) rfl ?_;have C:∀x∈h::l,x∉[R]:=λx hx hm=>by have:=aa.o x hx;have:=am.o;simp at hm;omega
  exact⟨h,y,ys,l,rfl,HO.o.Z E (C h (by simp)) (λx hx=>C x (by simp[hx])),(HC.o.tq ah.o).trans E (λx hx => .inr (by simp at hx;have:=ag.o;omega)),λx hx=>Nat.le_trans HC.o.size (aa.o x hx)⟩
def vb (b:Bool):Value:=.bool b
theorem Iu:jx prog 30 43 (.agg #[.bool false,(0:Int),.slice none 0 0]) 3 40:=.mk' underlying30 (by kernel_rfl)
def oP:List Value:=[.bool false,.int .i64 0,.slice none 0 0]
def vv (c:iW) (A:Option Addr) (cap:Nat):List Value:=[.bool c.k,.int .i64 c.t,.slice A c.ds.length cap]
def vA (l:List iI) (ks:List Bool) (cs:List iW):Prop:=cs.length=l.length/\∀i,i<l.length->(iN cs i).k=ks.getD i false/\(iN cs i).t=(gV l i).t/\nH (gV l (i-1)).p (gV l i).p (iN cs i)
structure mg (w0:World) (n gC:Nat) (w:World) (cs:List iW) (vs:List (List Value)) (G:List Nat):Prop where
 vec:nG w gC 43 3 (vs++replicate (n-cs.length) oP)
 lv:vs.length=cs.length
 cel:∀j,j<cs.length->∃A cap,vs[j]?=some (vv (iN cs j) A cap)/\gz b8 w A (iN cs j).ds/\(iN cs j).ds.length<=cap/\cap<=9223372036854775807/\∀ad,A=some ad->ad.block∈G
 gN:w0.heap.size<=gC
 new:∀x∈G,w0.heap.size<=x
 gG:gC∉G
 lt:∀x∈G,x<w.heap.size
 Z:gg [] w0 w
section
variable {w0 w wa:World} {n gC:Nat} {cs:List iW} {vs:List (List Value)} {G:List Nat}
theorem BT{cs:List iW}{c:iW}(h:j<cs.length):iN (cs++[c]) j=iN cs j:=by
 unfold iN;rw[zD,zD,getElem?_append_left h]
theorem BS(cs:List iW)(c:iW):iN (cs++[c]) cs.length=c:=by
 unfold iN;rw[zD,zS (zQ _),Nat.sub_self];rfl
theorem mg.Y(h:mg w0 n gC w cs vs G)(a:gg [] w wa):mg w0 n gC wa cs vs G where
 vec:=h.vec.Z a (by simp)
 lv:=h.lv
 cel:=λj hj=>by
  obtain⟨A,cap,b,d,f⟩:=h.cel j hj
  exact⟨A,cap,b,d.Y a,f⟩
 gN:=h.gN
 new:=h.new
 gG:=h.gG
 lt:=λx hx=>Nat.lt_of_lt_of_le (h.lt x hx) a.size
 Z:=h.Z.tq a
theorem mg.next(h:mg w0 n gC w cs vs G)(C:cs.length<n)(c:iW){A:Option Addr}(z:gz b8 w A c.ds)(v:c.ds.length<=cap)(y:cap<=9223372036854775807)(f:∀ad,A=some ad->ad.block∈F)(hF:∀x∈F,w0.heap.size<=x/\x<w.heap.size/\x≠gC):mg w0 n gC (((w.setCell ⟨gC,cs.length*3,none⟩ (.bool c.k)).setCell ⟨gC,cs.length*3+1,none⟩ (.int .i64 c.t)).setCell ⟨gC,cs.length*3+2,none⟩ (.slice A c.ds.length cap)) (cs++[c]) (vs++[vv c A cap]) (G++F):=by
 have b:gg [gC] w (((w.setCell ⟨gC,cs.length*3,none⟩ (.bool c.k)).setCell ⟨gC,cs.length*3+1,none⟩ (.int .i64 c.t)).setCell ⟨gC,cs.length*3+2,none⟩ (.slice A c.ds.length cap)) :=
  (((zR [gC] w).setCell (p:=⟨gC,cs.length*3,none⟩) (.inl (by simp)) _).setCell (p:=⟨gC,cs.length*3+1,none⟩) (.inl (by simp)) _).setCell (p:=⟨gC,cs.length*3+2,none⟩) (.inl (by simp)) _
 refine⟨?_,by simp[h.lv],λj hj => ?_,h.gN,λx hx => ?_,λhx => ?_,λx hx => ?_,h.Z.trans b (λx hx => .inr (by simp at hx;subst hx;exact h.gN))⟩
 .have a:=h.vec.set3 cs.length (.bool c.k) (.int .i64 c.t) (.slice A c.ds.length cap)
  have e:(vs++replicate (n-cs.length) oP).set cs.length [.bool c.k,.int .i64 c.t,.slice A c.ds.length cap]=(vs++[vv c A cap])++replicate (n-(cs++[c]).length) oP:=by
   rw[set_append_right _ _ (by rw[h.lv];exact zQ _),h.lv,Nat.sub_self,zC,length_singleton,show n-cs.length=(n-(cs.length+1))+1 by omega,replicate_succ];simp[vv]
  rw[e]at a;exact a
 .rw[zC,length_singleton]at hj
  by_cases hjl:j<cs.length
  .obtain⟨l,m,q,r,s,u,d⟩:=h.cel j hjl
   rw[BT hjl];exact⟨l,m,by rw[getElem?_append_left (by rw[h.lv];exact hjl)];exact q,r.Z b (λad e hm=>by simp at hm;exact h.gG (by rw[<-hm];exact d ad e)),s,u,λad e=>mem_append_left _ (d ad e)⟩
  .obtain rfl:j=cs.length:=by omega
   rw[BS];exact⟨A,cap,by rw[zS (by rw[h.lv];exact zQ _),h.lv,Nat.sub_self];rfl,z.Z b (λad e hm=>by simp at hm;exact(hF _ (f ad e)).2.2 hm),v,y,λad e=>List.mem_append_right _ (f ad e)⟩
 .rcases zP.1 hx with a|a
  .exact h.new x a
  .exact(hF x a).1
 .rcases zP.1 hx with a|a
  .exact h.gG a
  .exact(hF _ a).2.2 rfl
 .have:=b.size
  rcases zP.1 hx with a|a
  .have:=h.lt x a;omega
  .have:=(hF x a).2.1;omega
theorem mg.done(h:mg w0 n gC w cs vs G):lZ w (some ⟨gC,0,none⟩) cs (gC::G) where
 ex:=λh0=>⟨gC,0,rfl,by simp,λi hi=>by
  obtain⟨A,cap,a,d,f,l,m⟩:=h.cel i hi
  have b:(vs++replicate (n-cs.length) oP)[i]?=some (vv (iN cs i) A cap):=by rw[getElem?_append_left (by rw[h.lv];exact hi)];exact a
  rw[Nat.zero_add]
  exact⟨A,cap,h.vec.X (j:=0) b rfl,h.vec.X (j:=1) b rfl,h.vec.X (j:=2) b rfl,d,f,l,λad e=>mem_cons_of_mem _ (m ad e)⟩⟩
 lt:=λx hx=>by
  rcases zJ.1 hx with rfl|a
  .exact h.vec.blk.lt
  .exact h.lt x a
theorem mg.zero(h:mg w0 n gC w cs vs G)(b:cs.length<n):(w.cell? ⟨gC,cs.length*3,none⟩=some (.bool false)/\w.cell? ⟨gC,cs.length*3+1,none⟩=some (.int .i64 0)/\w.cell? ⟨gC,cs.length*3+2,none⟩=some (.slice none 0 0))/\∀j,w.frozen? ⟨gC,j,none⟩=false:=by
 have a:(vs++replicate (n-cs.length) oP)[cs.length]?=some oP:=by
  rw[zS (by rw[h.lv];exact zQ _),h.lv,Nat.sub_self,getElem?_replicate,if_pos (by omega)]
 exact⟨⟨h.vec.X (j:=0) a rfl,h.vec.X (j:=1) a rfl,h.vec.X (j:=2) a rfl⟩,h.vec.blk.U⟩
theorem mg.start(w0:World)(n:Nat):mg w0 n w0.heap.size (w0.alloc (.cells ((replicate n oP).flatten).toArray 43)) [] [] [] where
 vec:=⟨by simpa using gn.new w0 43 ((replicate n oP).flatten).toArray,λx hx=>by simp at hx;rw[hx.2];rfl⟩
 lv:=rfl
 cel:=λj hj=>by simp at hj
 gN:=zQ _
 new:=by simp
 gG:=by simp
 lt:=by simp
 Z:=(zR [] w0).alloc _
end
theorem Ia:jx prog 25 48 (.agg #[(0:Int),(0:Int),(0:Int),(0:Int),.slice none 0 0]) 5 56:=.mk' underlying25 (by kernel_rfl)
def pq:List Value:=[.int .i64 0,.int .i64 0,.int .i64 0,.int .i64 0,.slice none 0 0]
def og (s:iI) (gp op cp:Nat):List Value:=[.int .i64 s.t,.int .i64 s.p.W,.int .i64 s.p.H,.int .i64 s.p.d,.slice (some ⟨gp,op,none⟩) s.p.P.length cp]
structure lN (w0:World) (n gS:Nat) (w:World) (ss:List iI) (vs:List (List Value)) (G:List Nat):Prop where
 vec:nG w gS 48 5 (vs++replicate (n-ss.length) pq)
 lv:vs.length=ss.length
 pic:∀j,j<ss.length->∃(gp op cp:Nat) (B:Nat->Option Addr) (c:Nat->Nat) (Gp:List Nat),vs[j]?=some (og (gV ss j) gp op cp)/\ip w (gV ss j).p gp op B c Gp/\∀x∈Gp,x∈G
 gN:w0.heap.size<=gS
 new:∀x∈G,w0.heap.size<=x
 gG:gS∉G
 lt:∀x∈G,x<w.heap.size
 Z:gg [] w0 w
section
variable {w0 w wa:World} {n gS:Nat} {ss:List iI} {vs:List (List Value)} {G:List Nat}
theorem tE{ss:List iI}{s:iI}(h:j<ss.length):gV (ss++[s]) j=gV ss j:=by
 unfold gV;rw[zD,zD,getElem?_append_left h]
theorem ya(ss:List iI)(s:iI):gV (ss++[s]) ss.length=s:=by
 unfold gV;rw[zD,zS (zQ _),Nat.sub_self];rfl
theorem lN.chgd(h:lN w0 n gS w ss vs G)(a:gg F w wa)(hF:∀x∈F,w0.heap.size<=x/\x≠gS/\x∉G):lN w0 n gS wa ss vs G where
 vec:=h.vec.Z a (λhm=>(hF _ hm).2.1 rfl)
 lv:=h.lv
 pic:=λj hj=>by
  obtain⟨f,p,cp,B,c,d,l,m,b⟩:=h.pic j hj
  exact⟨f,p,cp,B,c,d,l,m.Z a (λx hx hm=>(hF x hm).2.2 (b x hx)),b⟩
 gN:=h.gN
 new:=h.new
 gG:=h.gG
 lt:=λx hx=>Nat.lt_of_lt_of_le (h.lt x hx) a.size
 Z:=h.Z.trans a (λx hx => .inr (hF x hx).1)
theorem lN.Y(h:lN w0 n gS w ss vs G)(a:gg [] w wa):lN w0 n gS wa ss vs G:=h.chgd a (by simp)
theorem lN.cells(h:lN w0 n gS w ss vs G)(l:j<ss.length):∃(a d cp:Nat) (B:Nat->Option Addr) (c:Nat->Nat) (f:List Nat),tH w (gV ss j) gS (j*5) a d cp/\ip w (gV ss j).p a d B c f/\∀x∈f,x∈G:=by
 obtain⟨a,d,cp,B,c,f,m,p,q⟩:=h.pic j l;have b:(vs++replicate (n-ss.length) pq)[j]?=some (og (gV ss j) a d cp):=by rw[getElem?_append_left (by rw[h.lv];exact l)];exact m
 exact⟨a,d,cp,B,c,f,⟨h.vec.X (j:=0) b rfl,h.vec.X (j:=1) b rfl,h.vec.X (j:=2) b rfl,h.vec.X (j:=3) b rfl,h.vec.X (j:=4) b rfl⟩,p,q⟩
theorem lN.next(h:lN w0 n gS w ss vs G)(H:ss.length<n)(s:iI){b d cp:Nat}{f:List Nat}(r:ip w s.p b d B c f)(hF:∀x∈f,w0.heap.size<=x/\x≠gS):lN w0 n gS (((((w.setCell ⟨gS,ss.length*5,none⟩ (.int .i64 s.t)).setCell ⟨gS,ss.length*5+1,none⟩ (.int .i64 s.p.W)).setCell ⟨gS,ss.length*5+2,none⟩ (.int .i64 s.p.H)).setCell ⟨gS,ss.length*5+3,none⟩ (.int .i64 s.p.d)).setCell ⟨gS,ss.length*5+4,none⟩ (.slice (some ⟨b,d,none⟩) s.p.P.length cp)) (ss++[s]) (vs++[og s b d cp]) (G++f):=by
 have l:gg [gS] w (((((w.setCell ⟨gS,ss.length*5,none⟩ (.int .i64 s.t)).setCell ⟨gS,ss.length*5+1,none⟩ (.int .i64 s.p.W)).setCell ⟨gS,ss.length*5+2,none⟩ (.int .i64 s.p.H)).setCell ⟨gS,ss.length*5+3,none⟩ (.int .i64 s.p.d)).setCell ⟨gS,ss.length*5+4,none⟩ (.slice (some ⟨b,d,none⟩) s.p.P.length cp)) :=
  (((((zR [gS] w).setCell (p:=⟨gS,ss.length*5,none⟩) (.inl (by simp)) _).setCell (p:=⟨gS,ss.length*5+1,none⟩) (.inl (by simp)) _).setCell (p:=⟨gS,ss.length*5+2,none⟩) (.inl (by simp)) _).setCell (p:=⟨gS,ss.length*5+3,none⟩) (.inl (by simp)) _).setCell (p:=⟨gS,ss.length*5+4,none⟩) (.inl (by simp)) _
 refine⟨?_,by simp[h.lv],λj hj => ?_,h.gN,λx hx => ?_,λhx => ?_,λx hx => ?_,h.Z.trans l (λx hx => .inr (by simp at hx;subst hx;exact h.gN))⟩
 .have a:=h.vec.set5 ss.length (.int .i64 s.t) (.int .i64 s.p.W) (.int .i64 s.p.H) (.int .i64 s.p.d) (.slice (some ⟨b,d,none⟩) s.p.P.length cp)
  have e:(vs++replicate (n-ss.length) pq).set ss.length (og s b d cp)=(vs++[og s b d cp])++replicate (n-(ss++[s]).length) pq:=by
   rw[set_append_right _ _ (by rw[h.lv];exact zQ _),h.lv,Nat.sub_self,zC,length_singleton,show n-ss.length=(n-(ss.length+1))+1 by omega,replicate_succ];simp
  have q:nG _ gS 48 5 ((vs++replicate (n-ss.length) pq).set ss.length (og s b d cp)):=a;rw[e]at q;exact q
 .rw[zC,length_singleton]at hj
  by_cases hjl:j<ss.length
  .obtain⟨ad,z,y,u,C,v,D,E,m⟩:=h.pic j hjl
   rw[tE hjl];exact⟨ad,z,y,u,C,v,by rw[getElem?_append_left (by rw[h.lv];exact hjl)];exact D,E.Z l (λx hx hm=>by simp at hm;subst hm;exact h.gG (m _ hx)),λx hx=>mem_append_left _ (m x hx)⟩
  .obtain rfl:j=ss.length:=by omega
   rw[ya];exact⟨b,d,cp,B,c,f,by rw[zS (by rw[h.lv];exact zQ _),h.lv,Nat.sub_self];rfl,r.Z l (λx hx hm=>by simp at hm;exact(hF x hx).2 hm),λx hx=>List.mem_append_right _ hx⟩
 .rcases zP.1 hx with a|a
  .exact h.new x a
  .exact(hF x a).1
 .rcases zP.1 hx with a|a
  .exact h.gG a
  .exact(hF _ a).2 rfl
 .have:=l.size
  rcases zP.1 hx with a|a
  .have:=h.lt x a;omega
  .have:=r.lt x a;omega
theorem lN.done(h:lN w0 n gS w ss vs G):jY w (some ⟨gS,0,none⟩) ss (gS::G) where
 ex:=λh0=>⟨gS,0,rfl,by simp,λi hi=>by
  obtain⟨d,s,cp,B,c,b,⟨a,f,l,m,p⟩,q,r⟩:=h.cells hi
  rw[Nat.zero_add]
  exact⟨d,s,cp,B,c,b,a,f,l,m,p,q,λx hx=>mem_cons_of_mem _ (r x hx)⟩⟩
 lt:=λx hx=>by
  rcases zJ.1 hx with rfl|a
  .exact h.vec.blk.lt
  .exact h.lt x a
theorem lN.zero(h:lN w0 n gS w ss vs G)(b:ss.length<n):(w.cell? ⟨gS,ss.length*5,none⟩=some (.int .i64 0)/\w.cell? ⟨gS,ss.length*5+1,none⟩=some (.int .i64 0)/\w.cell? ⟨gS,ss.length*5+2,none⟩=some (.int .i64 0)/\w.cell? ⟨gS,ss.length*5+3,none⟩=some (.int .i64 0)/\w.cell? ⟨gS,ss.length*5+4,none⟩=some (.slice none 0 0))/\∀j,w.frozen? ⟨gS,j,none⟩=false:=by
 have a:(vs++replicate (n-ss.length) pq)[ss.length]?=some pq:=by
  rw[zS (by rw[h.lv];exact zQ _),h.lv,Nat.sub_self,getElem?_replicate,if_pos (by omega)]
 exact⟨⟨h.vec.X (j:=0) a rfl,h.vec.X (j:=1) a rfl,h.vec.X (j:=2) a rfl,h.vec.X (j:=3) a rfl,h.vec.X (j:=4) a rfl⟩,h.vec.blk.U⟩
theorem lN.start(w0:World)(n:Nat):lN w0 n w0.heap.size (w0.alloc (.cells ((replicate n pq).flatten).toArray 48)) [] [] [] where
 vec:=⟨by simpa using gn.new w0 48 ((replicate n pq).flatten).toArray,λx hx=>by simp at hx;rw[hx.2];rfl⟩
 lv:=rfl
 pic:=λj hj=>by simp at hj
 gN:=zQ _
 new:=by simp
 gG:=by simp
 lt:=by simp
 Z:=(zR [] w0).alloc _
end
def IM (w:World) (c:iW) (g a:Nat) (A:Option Addr) (cap:Nat):Prop:=w.cell? ⟨g,a,none⟩=some (.bool c.k)/\w.cell? ⟨g,a+1,none⟩=some (.int .i64 c.t)/\w.cell? ⟨g,a+2,none⟩=some (.slice A c.ds.length cap)
theorem lZ.stay{w:World}{g o:Nat}{l:List iW}{G:List Nat}(h:lZ w (some ⟨g,o,none⟩) l G)(s:i<l.length):∃(A:Option Addr) (cap:Nat),(iN l i).ds.length<=cap/\cap<=9223372036854775807/\∀wz,gg [] w wz->IM wz (iN l i) g (o+i*3) A cap/\gz b8 wz A (iN l i).ds:=by
 obtain⟨u,x,e,r,a⟩:=h.ex (by omega);injection e with e;injection e with e1 e2;subst e1;subst e2;obtain⟨A,cap,b,d,f,m,p,q,v⟩:=a i s;refine⟨A,cap,p,q,λwz hc => ?_⟩;have e:∀k,wz.cell? ⟨g,k,none⟩=w.cell? ⟨g,k,none⟩:=λk=>World.cell?_of_block (w:=w) (hc.block g (h.lt g r) (by simp));exact⟨⟨(e _).trans b,(e _).trans d,(e _).trans f⟩,m.Y hc⟩
structure yh (cs:List iW) (ls:List iI):Prop where
 len:cs.length=ls.length
 key:(iN cs 0).k=true
 cel:∀i,i<ls.length->(iN cs i).t=(gV ls i).t/\nH (gV ls (i-1)).p (gV ls i).p (iN cs i)
theorem B5{w:World}{A:Option Addr}{cs:List iW}{G:List Nat}(cap:Nat)(h:lZ w A cs G){a:List iI}(d:nF a)(Z:yh cs a)(hp:iK w):Calls prog 10 #[.slice A cs.length cap] w λe w'=>∃(gS:Nat) (G':List Nat),e=.returned (.tuple #[.slice gS cs.length cs.length,(0:Int)])/\jY w' (some ⟨gS,0,none⟩) a G'/\gg [] w w'/\∀x∈G',w.heap.size<=x:=by
 have cy:=d.n0;have bL:=d.n1;have af:=Z.len;obtain⟨g,o,rfl,cv,-⟩:=h.ex (by omega);have a1:∀i,i<cs.length->∃(A:Option Addr) (cap:Nat),(iN cs i).ds.length<=cap/\cap<=9223372036854775807/\∀wz,gg [] w wz->IM wz (iN cs i) g (o+i*3) A cap/\gz b8 wz A (iN cs i).ds:=λi z=>h.stay z;have br:=d.times;have f:∀i,i<cs.length->(a.map (·.t)).getD i 0=(iN cs i).t:=λi z=>by rw[oh (by omega),(Z.cel i (by omega)).1]
 have aX:(a.map (·.t)).length=a.length:=zE _;have⟨ts,bP⟩:=zX (a.map (·.t));rw[<-bP]at br f aX;have ak:=Z.cel;have am:=Z.key;have⟨n,hn⟩:=zX cs.length;rw[<-hn]at a1 f af⊢;rw[<-af]at cy bL aX ak;have cw:=kg (P:=prog) IE rfl .i64 .i64 n (by omega) (by omega);have cx:∀w,(Instr.makeSlice 25 (.int .i64 n) (.int .i64 n)).run prog w=.ok (.slice (some ⟨w.heap.size,0,none⟩) n n) (w.alloc (.cells ((replicate n pq).flatten).toArray 48)):=B4 (P:=prog) Ia rfl (by decide) .i64 .i64 n (by omega) (by omega);obtain⟨A0,ct,-,-,U⟩:=a1 0 (by omega);obtain⟨⟨k0,-,-⟩,-⟩:=U w (zR [] w);rw[Nat.zero_mul,Nat.add_zero,am]at k0;have⟨bA,ch,cj,ax⟩:=gu a1 br f aX;have⟨a6,ba,bb,bx⟩:=gu ak am d af;have HP:=gd hp;have t1:=gY n 1 (by omega);have t2:=gY 64 n (by omega);have b0:(0:Int)<(n:Int):=by omega
 have⟨w2,a2⟩:=zX (w.alloc (.cells (Array.replicate n (Value.int .i64 0)) 2));have⟨gT,bn⟩:=zX w.heap.size;have aq:gv w2 2 (.slice gT n n) gT ((ia (ts.take 0) n).map vi):=by
  have y:=gv.made w 2 (replicate n (Value.int .i64 0)) (by simp[maxLen];omega);rw[zV,toArray_replicate]at y;rw[take_zero,BD,map_replicate,a2,bn];exact y
 have bc:=gd aq;have bT:gh (gg [] w w2):=gd (by rw[a2];exact(zR [] w).alloc _);have bZ:gh (w.heap.size<=gT/\gT<w2.heap.size):=gd ⟨by omega,aq.lt⟩;have⟨ck,a9⟩:=gy a2 bn;clear h d Z af cv a1 br f aX bP ak am hn U hp a2 bn aq;go_enter func10,ntmps10;go_wp2_with fail;rw[<-ck.o,<-a9.o];clear k0 cw
 go_loopg [5,6,31] n (λj v5 v6 v31 wr=>∃i:Nat,v31=.int .i64 i/\i+j=n/\gh (gv wr 2 (.slice gT n n) gT ((ia (ts.take i) n).map vi))/\gh (gg [gT] w2 wr))
 .exact⟨0,rfl,by omega,bc,gd (zR _ _)⟩
 obtain⟨i,rfl,cH,HR,bw⟩:=hrel;have ah:gh (gg [] w wr):=gd (bT.o.trans bw.o (λx hx => .inr (by simp at hx;have:=bZ.o;omega)));rcases gk with _|j
 .obtain rfl:i=n:=by omega
  have t3:decide ((i:Int)<(i:Int))=false:=by simp
  have hr:=HR.o;rw[zT (by rw[ax.o];exact zQ _),q7 ax.o]at hr;have J:=IB wr (some ⟨gT,0,none⟩) i ts hr.R.cells (by rw[ax.o];exact bL) ch.o;rw[ax.o]at J;clear hr;go_wp2_with fail;refine gB J ?_;have⟨w4,bs⟩:=zX (wr.alloc (.cells ((replicate i pq).flatten).toArray 48));have⟨gS,aW⟩:=zX wr.heap.size;have bN:lN wr i gS w4 [] [] []:=by rw[aW,bs];exact lN.start wr i
  have⟨cg,cl,bY⟩:=gX bN bs aW;have⟨wR,cB⟩:=zX wr;subst cB;clear J bN bs aW;go_wp2_with fail;rw[<-cl.o,<-bY.o];clear t3
  go_loopg [8,9,10,11,12,50] i (λj v8 v9 v10 v11 v12 v50 wz=>∃(q:Nat) (vs:List (List Value)) (Gs:List Nat),v50=.int .i64 q/\q+j=i/\gh (lN wR i gS wz (a.take q) vs Gs))
  .exact⟨0,[],[],rfl,by omega,cg⟩
  obtain⟨q,vs,Gs,rfl,cI,l⟩:=hrel;have a8:gh (gg [] w wr):=gd (ah.o.tq l.o.Z);rcases gk with _|j
  .obtain rfl:q=i:=by omega
   have t3:decide ((q:Int)<(q:Int))=false:=(by simp);have O:=l.o;rw[zT (by rw[<-bx.o];exact zQ _)]at O;have HD:=gd O.done;have bX:gh (∀x∈gS::Gs,w.heap.size<=x):=gd (λx hx=>by
    have h9:=ah.o.size;rcases zJ.1 hx with rfl|y
    .have:=O.gN;omega
    .have:=O.new x y;omega)
   clear O;go_wp2_with fail;refine bodyPost_ret (v:=.tuple #[.slice gS q q,(0:Int)]) (by simp[results,results10,go_sem]) rfl ?_;exact⟨gS,gS::Gs,rfl,HD.o,a8.o,bX.o⟩
  .have hq:q<i:=by omega
   have a0:q<a.length:=(by rw[<-bx.o];exact hq);have bO:(a.take q).length=q:=(by rw[zI];omega);have t3:=jo q i (by omega);have b1:(0:Int)<=(q:Int):=(by omega);have b2:(q:Int)<(i:Int):=(by omega);obtain⟨D,N,bk,bH,u⟩:=bA.o q hq;obtain⟨aV,aU⟩:=a6.o q hq;obtain⟨⟨X,c1,c2⟩,-⟩:=u wr a8.o;have au:=bb.o.ok q a0;have aj:=bb.o.al q a0;have⟨s,bq⟩:=zX (gV a q);rw[<-bq]at aV aU au aj;have bl:q=0->(iN cs q).k=true:=λe=>by rw[e];exact ba.o
   have⟨c,aN⟩:=zX (iN cs q);rw[<-aN]at X c1 c2 aV aU bk u bl;have⟨w5,ab⟩:=zX (wr.alloc (.cells #[.bool c.k,c.t,.slice D c.ds.length N] 43));have⟨X5,ae⟩:=zX wr.heap.size;have⟨w6,aR⟩:=zX (w5.alloc (.cells #[(0:Int),(0:Int),(0:Int),.slice none 0 0] 46));have⟨X6,bh⟩:=zX (X5+1);have S:gn w6 X5 43 #[.bool c.k,c.t,.slice D c.ds.length N]:=(by rw[aR,ab,ae];exact(gn.new wr _ _).alloc _);have bi:iF w6 X6 (.int .i64 0) (.int .i64 0) (.int .i64 0) (.slice none 0 0):=⟨by rw[aR,ab,bh,ae];exact gn.new2 wr _ _ _⟩;have bC:gg [] wr w6:=(by rw[aR,ab];exact((zR [] wr).alloc _).alloc _);have cF:gh (wr.heap.size<=X5/\X5<X6/\X6<w6.heap.size):=gd ⟨by omega,by omega,bi.blk.lt⟩;have⟨bR,bS,bv⟩:=gX S bi bC;have bB:gh (w6=(wr.alloc (.cells #[.bool c.k,c.t,.slice D c.ds.length N] 43)).alloc (.cells #[(0:Int),(0:Int),(0:Int),.slice none 0 0] 46)):=gd (by rw[aR,ab]);have⟨aI,bd,ce,a7⟩:=gu ae bh u (And.intro aU (And.intro bk bH));have⟨bW,cf,aF,cd⟩:=gu aV au aj bq;have⟨aH,bU⟩:=gy bO bl;have⟨wo,cC⟩:=zX wr;subst cC;clear u aU bk bH aV au aj bq bO bl aN ab ae aR bh S bi bC;by_cases hq0:q=0
   focus
    have t4:=gY 0 q (by omega);have t5:decide (0<q)=false:=zA (by omega);have cb:=gd hq0;clear hq0
    go_upto_region 20 with fail
    rw[<-bB.o,<-aI.o,<-bd.o];obtain⟨z0,z1,z2,z3,b⟩:∃(z0 z1 z2:Int) (z3:Value),z0=0/\z1=0/\z2=0/\z3=.slice none 0 0:=⟨_,_,_,_,rfl,rfl,rfl,rfl⟩;have⟨wB,ad⟩:=zX w6;rw[<-ad];have bu:gh (iF wB X6 (.int .i64 z0) (.int .i64 z1) (.int .i64 z2) z3):=gd (by rw[b.1,b.2.1,b.2.2.1,b.2.2.2,ad];exact bS.o);have a5:gh (gn wB X5 43 #[.bool c.k,c.t,.slice D c.ds.length N]):=gd (by rw[ad];exact bR.o);have K:gh (gg [] wo wB):=gd (by rw[ad];exact bv.o);have bz:gh (c.k=false->∃(g o cp:Nat) (B:Nat->Option Addr) (Y:Nat->Nat) (G:List Nat),(z0=((gV a (q-1)).p.W:Int)/\z1=((gV a (q-1)).p.H:Int)/\z2=((gV a (q-1)).p.d:Int)/\z3=.slice (some ⟨g,o,none⟩) (gV a (q-1)).p.P.length cp)/\ip wB (gV a (q-1)).p g o B Y G/\iY (gV a (q-1)).p s.p):=gd (λe=>by rw[bU.o cb.o]at e;cases e);clear b ad t4 t5 X c1 c2
   rotate_left
   focus
    have t5:decide (0<q)=true:=zB (by omega);obtain⟨gp,op,cp,B,Y,Gp,bp,aY,-⟩:=l.o.cells (j:=q-1) (by rw[aH.o];omega);have e1:gV (a.take q) (q-1)=gV a (q-1):=ql (by omega);rw[e1]at bp aY;have⟨p,aZ⟩:=zX (gV a (q-1));rw[<-aZ]at bp aY;have bG:iY p.p s.p:=by
     rw[aZ];exact(bb.o.al (q-1) (by omega)).sym.tr aF.o
    have⟨ca,bQ,b9⟩:=gX aZ bG aY;have T:∀k v,wo.cell? ⟨gS,k,none⟩=some v->w6.cell? ⟨gS,k,none⟩=some v:=λk v h9=>(World.cell?_of_block (w:=wo) (bv.o.block gS l.o.vec.blk.lt (by simp))).trans h9;obtain⟨-,L,M,E,H⟩:=bp;have d1:w6.cell? ⟨gS,(q-1)*5+1,none⟩=some (.int .i64 p.p.W):=T _ _ L;have d2:w6.cell? ⟨gS,(q-1)*5+1+1,none⟩=some (.int .i64 p.p.H):=T _ _ M;have d3:w6.cell? ⟨gS,(q-1)*5+1+2,none⟩=some (.int .i64 p.p.d):=T _ _ E;have d4:w6.cell? ⟨gS,(q-1)*5+1+3,none⟩=some (.slice (some ⟨gp,op,none⟩) p.p.P.length cp):=T _ _ H;rw[bB.o]at d1 d2 d3 d4;have b3:(0:Int)<=(q:Int)-1:=(by omega);have b5:q<=64:=(by omega);clear e1 aZ bG aY T L M E H
    try clear hq0
    go_upto_region 20 with fail
    rw[<-aI.o,<-bd.o];obtain⟨z0,z1,z2,z3,b⟩:∃(z0 z1 z2:Int) (z3:Value),z0=(p.p.W:Int)/\z1=(p.p.H:Int)/\z2=(p.p.d:Int)/\z3=.slice (some ⟨gp,op,none⟩) p.p.P.length cp:=⟨_,_,_,_,rfl,rfl,rfl,rfl⟩;have⟨wB,ad⟩:=zX ((wo.alloc (.cells #[.bool c.k,c.t,.slice D c.ds.length N] 43)).alloc (.cells #[p.p.W,p.p.H,p.p.d,.slice (some ⟨gp,op,none⟩) p.p.P.length cp] 46));rw[<-ad];have K:gh (gg [] wo wB):=gd (by rw[ad];exact((zR [] wo).alloc _).alloc _);have bu:gh (iF wB X6 (.int .i64 z0) (.int .i64 z1) (.int .i64 z2) z3):=gd ⟨by rw[b.1,b.2.1,b.2.2.1,b.2.2.2,ad,bd.o,aI.o];exact gn.new2 wo _ _ _⟩;have a5:gh (gn wB X5 43 #[.bool c.k,c.t,.slice D c.ds.length N]):=gd (by rw[ad,aI.o];exact(gn.new wo _ _).alloc _);have bz:gh (c.k=false->∃(g o cp:Nat) (B:Nat->Option Addr) (Y:Nat->Nat) (G:List Nat),(z0=((gV a (q-1)).p.W:Int)/\z1=((gV a (q-1)).p.H:Int)/\z2=((gV a (q-1)).p.d:Int)/\z3=.slice (some ⟨g,o,none⟩) (gV a (q-1)).p.P.length cp)/\ip wB (gV a (q-1)).p g o B Y G/\iY (gV a (q-1)).p s.p):=gd (λ_=>by
     rw[<-ca.o];exact⟨gp,op,cp,B,Y,Gp,⟨b.1,b.2.1,b.2.2.1,b.2.2.2⟩,b9.o.Y K.o,bQ.o⟩)
    clear b ad t5 b3 b5 d1 d2 d3 d4 X c1 c2
   all_goals
    have aG:gh (gg [] w wB):=gd (a8.o.tq K.o);have bm:=QW (w:=wB) (prev:=(gV a (q-1)).p) (s:=s.p) (c:=c) cf.o a7.o.1 ((ce.o wB aG.o).2) a7.o.2.1 a7.o.2.2 (HP.o.Y aG.o) z0 z1 z2 z3 bz.o;unfold lA gW at bm;obtain⟨y0,y1,y2,y3⟩:=bu.o.cells;obtain⟨Q,C,R⟩:=yr a5.o;go_wp2_with fail;refine bm.mono ?_;rintro e w7 ⟨gQ,W,ys,O,rfl,ho,bf,V⟩;clear Q C R y0 y1 y2 y3 bm;have⟨w8,aE⟩:=zX (w7.alloc (.cells #[s.p.W,s.p.H,s.p.d,.slice gQ s.p.P.length W] 46));have⟨X8,aJ⟩:=zX w7.heap.size;have aT:gg [] w7 w8:=(by rw[aE];exact(zR [] w7).alloc _);have bj:iF w8 X8 (.int .i64 s.p.W) (.int .i64 s.p.H) (.int .i64 s.p.d) (.slice gQ s.p.P.length W):=⟨by rw[aE,aJ];exact gn.new w7 _ _⟩;have ai:gg [] wB w8:=bf.tq aT;have av:=l.o.Y (K.o.tq ai);have aW:gS<wB.heap.size:=Nat.lt_of_lt_of_le l.o.vec.blk.lt K.o.size;have aK:gS≠X8:=λe=>by rw[aJ]at e;have:=bf.size;omega
    obtain⟨⟨u0,u1,u2,u3,u4⟩,I⟩:=av.zero (by rw[aH.o];exact hq);rw[aH.o]at u0 u1 u2 u3 u4;have f0:=I (q*5);have f1:=I (q*5+1);have f2:=I (q*5+2);have f3:=I (q*5+3);have f4:=I (q*5+4);have r:=av.next (cp:=W) (by rw[aH.o];exact hq) s (ho.Y aT).at_ (λx hx=>⟨by have:=V x hx;have:=K.o.size;have:=l.o.Z.size;omega,λe=>by have:=V x hx;omega⟩);have bF:a.take q++[s]=a.take (q+1):=by
     rw[take_succ_eq_append_getElem a0,cd.o]
     congr 2
     unfold gV;rw[zD,zF a0];rfl
    rw[aH.o,bF]at r;have⟨w9,a3⟩:=zX ((((((w8.setCell ⟨gS,q*5,none⟩ (.int .i64 s.t)).setCell ⟨gS,q*5+1,none⟩ (.int .i64 s.p.W)).setCell ⟨gS,q*5+2,none⟩ (.int .i64 s.p.H)).setCell ⟨gS,q*5+3,none⟩ (.int .i64 s.p.d)).setCell ⟨gS,q*5+4,none⟩ (.slice gQ s.p.P.length W)));rw[<-a3]at r;have bg:gg [gS] w8 w9:=by
     rw[a3];exact(((((zR [gS] w8).setCell (p:=⟨gS,q*5,none⟩) (.inl (by simp)) _).setCell (p:=⟨gS,q*5+1,none⟩) (.inl (by simp)) _).setCell (p:=⟨gS,q*5+2,none⟩) (.inl (by simp)) _).setCell (p:=⟨gS,q*5+3,none⟩) (.inl (by simp)) _).setCell (p:=⟨gS,q*5+4,none⟩) (.inl (by simp)) _
    obtain⟨Q,C,R⟩:=yr (a5.o.Z ai (by simp));obtain⟨v0,v1,v2,v3⟩:=bj.cells;rw[bW.o]at C;have aM:=bj.Z bg (by simp;exact λe=>aK e.symm);have bM:=(ho.Y aT).Z bg (by simp;exact λe=>by have:=V gQ (by simp);omega) (λx hx=>by simp;exact λe=>by have:=V x (by simp[hx]);omega);have⟨aS,a4,b7,cn⟩:=gu r aM bM aE;have⟨cr,co⟩:=gy aJ a3;rw[aE]at u0 u1 u2 u3 u4 f0 f1 f2 f3 f4 Q C R;rw[aE,aJ]at v0 v1 v2 v3;clear ho bf V aE aJ aT bj ai av aK I r bF a3 bg aM bM
    go_upto_region 24 with fail
    rw[<-cn.o,<-cr.o,<-co.o];clear u0 u1 u2 u3 u4 f0 f1 f2 f3 f4 Q C R v0 v1 v2 v3;obtain⟨cu,cD,bE,B0,cG,cE,aQ,ap,-⟩:=aS.o.cells (j:=0) (by rw[zI];omega);have e0:gV (a.take (q+1)) 0=gV a 0:=ql (by omega);rw[e0]at aQ ap;have m:=λwz (b:gg [] w9 wz)=>yo bE (ap.Y b) W (b7.o.at_.Y b) aF.o;unfold gW at m;obtain⟨-,L,M,E,H⟩:=aQ;have⟨s0,U⟩:=zX ((gV a 0).p);rw[<-U]at m L M E H;have d1:w9.cell? ⟨gS,1,none⟩=some (.int .i64 s0.W):=L;have d2:w9.cell? ⟨gS,2,none⟩=some (.int .i64 s0.H):=M;have d3:w9.cell? ⟨gS,3,none⟩=some (.int .i64 s0.d):=E;have d4:w9.cell? ⟨gS,4,none⟩=some (.slice (some ⟨cu,cD,none⟩) s0.P.length bE):=H;obtain⟨v0,v1,v2,v3⟩:=a4.o.cells;have b4:=gd m;clear ap e0 m U L M E H;refine i9 5 (by kernel_rfl) (by kernel_rfl) ?_;simp only[take_succ_cons,take_zero,drop_succ_cons,drop_zero]
    repeat(go_big_quiet_step (fail))
    refine wpQuiet_nil ?_;intro _ cA;obtain⟨nq,rfl⟩:=cA;have m:=b4.o _ ((zR [] w9).drewN nq);have b6:gh (gg [] w9 (w9.drewN nq)):=gd ((zR [] w9).drewN nq);clear d1 d2 d3 d4 v0 v1 v2 v3;go_wp2_with fail;refine m.mono ?_;rintro e wF ⟨rfl,bD⟩;have HF:=gd (aS.o.Y (b6.o.tq bD));clear m bD;go_wp2_with fail
    go_roundg j
    .exact⟨q+1,_,_,by go_num,by omega,HF⟩
    .omega
 .have z:i<n:=by omega
  have b1:(0:Int)<=(i:Int):=by omega
  have b2:(i:Int)<(n:Int):=by omega
  obtain⟨Ai,ci,-,-,u⟩:=bA.o i z;obtain⟨⟨X,c1,c2⟩,-⟩:=u wr ah.o;have f:=cj.o i z;have⟨c,aN⟩:=zX (iN cs i);rw[<-aN]at X c1 c2 f;have⟨w5,ab⟩:=zX (wr.alloc (.cells #[.bool c.k,c.t,.slice Ai c.ds.length ci] 43));have⟨X5,ae⟩:=zX wr.heap.size;have S:gn w5 X5 43 #[.bool c.k,c.t,.slice Ai c.ds.length ci]:=by rw[ab,ae];exact gn.new wr _ _
  have be:gg [] wr w5:=by rw[ab];exact(zR [] wr).alloc _
  obtain⟨Q,C,R⟩:=yr S;have bK:i<(ia (ts.take i) n).length:=by rw[nM (by rw[zI];omega)];exact z
  have bo:=HR.o.Z be (by simp);obtain⟨_,-,-,-,bI,bJ⟩:=bo.T;have z0:=bI i _ (zF bK);have fz:=bJ i;have r:gv (w5.setCell ⟨gT,i,none⟩ (.int .i64 c.t)) 2 (.slice gT n n) gT ((ia (ts.take (i+1)) n).map vi):=by
   have y:=bo.S (i:=i) (by rw[zE];exact bK) (.int .i64 c.t);have cz:(ts.take i).length=i:=(by rw[zI,ax.o];omega);have e:((ia (ts.take i) n).map vi).set i (.int .i64 c.t)=(ia (ts.take (i+1)) n).map vi:=by
    have h2:=sX (done:=ts.take i) (n:=n) (by omega) c.t;rw[cz]at h2;have J:i<ts.length:=(by rw[ax.o];exact z);have e3:ts[i]=c.t:=by
     rw[zD,zF J]at f;exact f
    rw[take_succ_eq_append_getElem J,e3,<-h2,map_set];rfl
   rw[e]at y;exact y
  have aS:=gd r;have bV:gh (gg [gT] w2 (w5.setCell ⟨gT,i,none⟩ (.int .i64 c.t))):=gd ((bw.o.tq (be.mono (by simp))).setCell (p:=⟨gT,i,none⟩) (.inl (by simp)) _);have⟨cm,aI⟩:=gy ab ae;rw[ab,ae]at Q C R;rw[ab]at z0 fz;clear u aN S be bo bI bJ r f ab ae;go_wp2_with fail;rw[<-cm.o]
  go_roundg j
  .exact⟨i+1,by go_num,by omega,aS,bV⟩
  .omega
section
variable {P:Program} {t e:TypeId}
theorem Im(d:P.underlying t=some (.slice e))(l:∀w,(sizeOf e).run P w=.ok k w)(g o n c a:Nat)(h:a<n)(f:n<=c)(w:World):(Instr.slice t (.slice (some ⟨g,o,none⟩) n c) (some (.int .i64 a)) none none).run P w=.ok (.slice (some ⟨g,o+a*k,none⟩) (n-a) (c-a)) w:=by
 have b:=th d;rw[run_slice_l (P:=P) (w:=w) t (some ⟨g,o,none⟩) n c (by rw[b];exact d) .i64 (a:Int) (by omega) (by omega),b,l];simp[sliced];rw[if_neg (by omega)];unfold Addr.add;split
 .rename_i h0;rw[h0];rfl
 .rfl
theorem IF(d:P.underlying t=some (.slice e))(l:∀w,(sizeOf e).run P w=.ok k w)(g o n c a:Nat)(h:a<=n)(f:n<=c)(w:World):(Instr.slice t (.slice (some ⟨g,o,none⟩) n c) none (some (.int .i64 a)) none).run P w=.ok (.slice (some ⟨g,o,none⟩) a c) w:=by
 have b:=th d;rw[run_slice_h (P:=P) (w:=w) t (some ⟨g,o,none⟩) n c (by rw[b];exact d) .i64 (a:Int) (by omega) (by omega),b,l];simp[sliced,Addr.add]
end
section
variable {w:World} {G:List Nat} {A:Option Addr} {g o:Nat}
theorem lZ.drop{l:List iW}(h:lZ w (some ⟨g,o,none⟩) l G)(k:Nat):lZ w (some ⟨g,o+k*3,none⟩) (l.drop k) G where
 ex:=λh0=>by
  rw[zO]at h0
  obtain⟨d,f,e,a,b⟩:=h.ex (by omega)
  injection e with e
  injection e with e1 e2
  subst e1 e2
  refine⟨g,o+k*3,rfl,a,λi hl => ?_⟩
  rw[zO]at hl
  have:=b (k+i) (by omega)
  rw[BP]
  rwa [show o+k*3+i*3=o+(k+i)*3 by omega]
 lt:=h.lt
theorem lZ.take{l:List iW}(h:lZ w A l G)(k:Nat):lZ w A (l.take k) G where
 ex:=λh0=>by
  rw[zI]at h0
  obtain⟨a,f,e,b,d⟩:=h.ex (by omega)
  refine⟨a,f,e,b,λi hl => ?_⟩
  rw[zI]at hl
  rw[BQ (by omega)]
  exact d i (by omega)
 lt:=h.lt
theorem jY.drop{l:List iI}(h:jY w (some ⟨g,o,none⟩) l G)(k:Nat):jY w (some ⟨g,o+k*5,none⟩) (l.drop k) G where
 ex:=λh0=>by
  rw[zO]at h0
  obtain⟨d,f,e,a,b⟩:=h.ex (by omega)
  injection e with e
  injection e with e1 e2
  subst e1 e2
  refine⟨g,o+k*5,rfl,a,λi hl => ?_⟩
  rw[zO]at hl
  have:=b (k+i) (by omega)
  rw[rB]
  rwa [show o+k*5+i*5=o+(k+i)*5 by omega]
 lt:=h.lt
theorem jY.take{l:List iI}(h:jY w A l G)(k:Nat):jY w A (l.take k) G where
 ex:=λh0=>by
  rw[zI]at h0
  obtain⟨a,f,e,b,d⟩:=h.ex (by omega)
  refine⟨a,f,e,b,λi hl => ?_⟩
  rw[zI]at hl
  rw[ql (by omega)]
  exact d i (by omega)
 lt:=h.lt
end
theorem nF.drop{l:List iI}(h:nF l)(b:k<l.length):nF (l.drop k) where
 n0:=by rw[zO];omega
 n1:=by have:=h.n1;rw[zO];omega
 ok:=λi hi=>by
  rw[zO]at hi
  rw[rB]
  exact h.ok _ (by omega)
 al:=λi hi=>by
  rw[zO]at hi
  rw[rB,rB]
  exact(h.al _ (by omega)).sym.tr (h.al _ (by omega))
 times:=λi hi=>by
  simp only[zE,zO]at hi
  have:=h.times (k+i) (by simp;omega)
  rw[oh (by rw[zO];omega),rB]
  rw[oh (by omega)]at this
  refine⟨this.1,this.2.1,λh0 => ?_⟩
  have a:=this.2.2 (by omega)
  rw[oh (by omega)]at a
  rwa [oh (by rw[zO];omega),rB,show k+(i-1)=k+i-1 by omega]
theorem nF.take{l:List iI}(h:nF l)(d:k<=l.length)(a:0<k):nF (l.take k) where
 n0:=by rw[zI];omega
 n1:=by have:=h.n1;rw[zI];omega
 ok:=λi hi=>by
  rw[zI]at hi
  rw[ql (by omega)]
  exact h.ok _ (by omega)
 al:=λi hi=>by
  rw[zI]at hi
  rw[ql (by omega),ql (by omega)]
  exact h.al _ (by omega)
 times:=λi hi=>by
  simp only[zE,zI]at hi
  have:=h.times i (by simp;omega)
  rw[oh (by rw[zI];omega),ql (by omega)]
  rw[oh (by omega)]at this
  refine⟨this.1,this.2.1,λa => ?_⟩
  have b:=this.2.2 a
  rw[oh (by omega)]at b
  rwa [oh (by rw[zI];omega),ql (by omega)]
theorem vA.drop{l:List iI}{ks:List Bool}{cs:List iW}(h:vA l ks cs)(d:k<l.length)(a:ks.getD k false=true):yh (cs.drop k) (l.drop k) where
 len:=by rw[zO,zO,h.1]
 key:=by
  rw[BP,Nat.add_zero,(h.2 k d).1]
  exact a
 cel:=λi hi=>by
  rw[zO]at hi
  obtain⟨m,f,b⟩:=h.2 (k+i) (by omega)
  rw[BP,rB,rB]
  refine⟨f,?_⟩
  rcases i with _|i
  .refine⟨b.1,λhf => ?_⟩
   rw[Nat.add_zero,(h.2 k d).1,a]at hf
   cases hf
  .exact b
theorem vA.take{l:List iI}{ks:List Bool}{cs:List iW}(h:vA l ks cs)(p:k<=l.length)(b:0<k)(a:ks.getD 0 false=true):yh (cs.take k) (l.take k) where
 len:=by rw[zI,zI,h.1]
 key:=by
  rw[BQ b,(h.2 0 (by omega)).1]
  exact a
 cel:=λi hi=>by
  rw[zI]at hi
  obtain⟨m,d,f⟩:=h.2 i (by omega)
  rw[BQ (by omega),ql (by omega),ql (by omega)]
  exact⟨d,f⟩
theorem Q1{w:World}{A:Option Addr}{l:List iI}{G:List Nat}(cap:Nat)(h:jY w A l G)(b:nF l){AK:Option Addr}{capK:Nat}{ks:List Bool}(hk:gz vb w AK ks)(hkl:ks.length=l.length)(C:ks.getD 0 false=true)(hp:iK w):Calls prog 9 #[.slice A l.length cap,.slice AK ks.length capK] w λe w'=>∃(cs:List iW) (gC:Nat) (G':List Nat),e=.returned (.tuple #[.slice gC l.length l.length,(0:Int)])/\lZ w' (some ⟨gC,0,none⟩) cs G'/\vA l ks cs/\gg [] w w'/\∀x∈G',w.heap.size<=x:=by
 have bm:=b.n0;have bn:=b.n1;have ai:=ID cap h b;obtain⟨g,o,rfl,bk,-⟩:=h.ex (by omega);obtain⟨gk,ok,rfl,a6,a4⟩:=hk.ex (by omega);have Z:∀i,i<l.length->∀wz,gg [] w wz->wz.cell? ⟨gk,ok+i,none⟩=some (.bool (ks.getD i false)):=λi d wz hz=>by
  have z:ks[i]?=some (ks.getD i false):=by
   have:i<ks.length:=by omega
   rw[zD,zF this];rfl
  exact(World.cell?_of_block (w:=w) (hz.block gk a6 (by simp))).trans (a4 i _ z)
 have aP:∀i,i<l.length->∃(gp op cp:Nat) (B:Nat->Option Addr) (c:Nat->Nat) (Gp:List Nat),∀wz,gg [] w wz->tH wz (gV l i) g (o+i*5) gp op cp/\ip wz (gV l i).p gp op B c Gp:=λi d=>by
  obtain⟨gp,op,cp,B,c,Gp,-,T⟩:=h.stay d;exact⟨gp,op,cp,B,c,Gp,λwz hz=>T [] wz hz (by simp)⟩
 have y:∀i,i+1<l.length->iY (gV l i).p (gV l (i+1)).p:=λi d=>(b.al i (by omega)).sym.tr (b.al (i+1) d);have⟨n,hn⟩:=zX l.length;rw[<-hn]at bm bn ai aP Z y;have a5:ks.length=n:=by omega
 rw[a5,<-hn];have a7:=B4 (P:=prog) Iu rfl (by decide) .i64 .i64 n (by omega) (by omega);have t1:((n:Int) != (n:Int))=false:=by simp
 have U:=Z 0 (by omega);rw[C,Nat.add_zero]at U;have⟨bd,bc,an,aV⟩:=gu U C Z aP;have⟨a8,aU,HP⟩:=gX y hn hp;clear h b hk a6 a4 Z aP y hp bk hkl a5 U hn C;go_enter func9,ntmps9;go_wp2_with fail;refine ai.mono ?_;rintro e E ⟨rfl,aF⟩;have U:=bd.o E aF;have b0:(0:Int)<(n:Int):=by omega
 have⟨w2,aQ⟩:=zX (E.alloc (.cells ((replicate n oP).flatten).toArray 43));have⟨gC,aK⟩:=zX E.heap.size;have a3:mg E n gC w2 [] [] []:=by rw[aK,aQ];exact mg.start E n
 have bl:∀w,(Instr.makeSlice 30 (.int .i64 n) (.int .i64 n)).run prog w=.ok (.slice (some ⟨w.heap.size,0,none⟩) n n) (w.alloc (.cells ((replicate n oP).flatten).toArray 43)):=λw=>a7 w;have⟨a9,aS,bj,bb⟩:=gu a3 aF aQ aK;clear ai a7 aF aQ aK a3;go_wp2_with fail;rw[<-bj.o,<-bb.o];clear U
 go_loopg [8,9,10,11,33] n (λj v8 v9 v10 v11 v33 wr=>∃(i:Nat) (cs:List iW) (vs:List (List Value)) (Gs:List Nat),v33=.int .i64 i/\i+j=n/\gh (cs.length=i)/\gh (mg E n gC wr cs vs Gs)/\gh (∀q,q<i->(iN cs q).k=ks.getD q false/\(iN cs q).t=(gV l q).t/\nH (gV l (q-1)).p (gV l q).p (iN cs q)))
 .exact⟨0,[],[],[],rfl,by omega,gd rfl,a9,gd (λq r=>by omega)⟩
 obtain⟨i,cs,vs,Gs,rfl,bu,m,M,HQ⟩:=hrel;have aA:gh (gg [] w wr):=gd (aS.o.tq M.o.Z);rcases gk with _|j
 .obtain rfl:i=n:=by omega
  have t2:decide ((i:Int)<(i:Int))=false:=by simp
  go_wp2_with fail;refine bodyPost_ret (v:=.tuple #[.slice gC i i,(0:Int)]) (by simp[results,results9,go_sem]) rfl ?_;refine⟨cs,gC,gC::Gs,rfl,M.o.done,⟨by rw[m.o,aU.o],λq r=>HQ.o q (by rw[aU.o];exact r)⟩,aA.o,λx hx => ?_⟩;have h9:=aS.o.size;rcases zJ.1 hx with rfl|z
  .have:=M.o.gN;omega
  .have:=M.o.new x z;omega
 .have d:i<n:=by omega
  have t2:=jo i n (by omega);have b1:(0:Int)<=(i:Int):=by omega
  have b2:(i:Int)<(n:Int):=by omega
  obtain⟨J,K,p,Bi,cc,Gi,R⟩:=aV.o i d;have⟨s,T⟩:=zX (gV l i);rw[<-T]at R;obtain⟨⟨c0,c1,c2,c3,c4⟩,-⟩:=R wr aA.o;have⟨w5,am⟩:=zX (wr.alloc (.cells #[s.t,s.p.W,s.p.H,s.p.d,.slice (some ⟨J,K,none⟩) s.p.P.length p] 48));have⟨X5,aw⟩:=zX wr.heap.size;have aI:gn w5 X5 48 #[s.t,s.p.W,s.p.H,s.p.d,.slice (some ⟨J,K,none⟩) s.p.P.length p]:=by rw[am,aw];exact gn.new wr _ _
  have aG:gg [] wr w5:=by rw[am];exact(zR [] wr).alloc _
  have H:=gd (aA.o.tq aG);obtain⟨L,V,W,X,Y⟩:=rF aI;have k5:=an.o i d w5 H.o;have⟨kb,aL⟩:=zX (ks.getD i false);rw[<-aL]at k5;have aJ:∀wz,gg [] w wz->Calls prog 20 #[gW s.p J K p] wz (o3 wz (.ok (lU s.p))):=λwz hz=>Gb p (R wz hz).2 (HP.o.Y hz);unfold o3 gW at aJ;have⟨au,ba,bh,aR⟩:=gu (M.o.Y aG) aJ R aI;have⟨aD,aB,aE,aW⟩:=gu T aL am aw;rw[am,aw]at L V W X Y;rw[am]at k5;have⟨wo,bp⟩:=zX wr;subst bp;clear R T am aw aI aG aJ aL;cases kb
  focus
   obtain⟨q,r⟩:∃q,i=q+1:=⟨i-1,by
    have:i≠0:=λe=>by
     have z:=aB.o;rw[e,bc.o]at z;cases z
    omega⟩
   obtain⟨gq,oq,cq,Bq,bs,Gq,S⟩:=aV.o q (by omega);have y:iY (gV l q).p s.p:=(by rw[aD.o,r];exact a8.o q (by omega));have⟨s',aO⟩:=zX (gV l q);rw[<-aO]at S y;have aN:∀wz,gg [] w wz->Calls prog 21 #[gW s'.p gq oq cq,gW s.p J K p] wz (tL wz s'.p s.p):=λwz hz=>Ir cq (S wz hz).2 p (bh.o wz hz).2 y (HP.o.Y hz);unfold tL gW at aN;obtain⟨⟨d0,d1,d2,d3,d4⟩,-⟩:=S w5 H.o;have be:=gd aN;have bg:gh (s'.p=(gV l (i-1)).p):=gd (by rw[aO,r];rfl);have e1:(i:Int)-1=(q:Int):=(by omega);have b3:(0:Int)<=(q:Int):=(by omega);have b4:(q:Int)<(n:Int):=(by omega);have b5:i<=64:=(by omega);have bv:IntKind.i64.wrap (q:Int)=(q:Int):=IntWalk.i64_in _ (by omega);have⟨br,bi⟩:=gy r S;clear S aN aO y r;rw[aE.o]at d0 d1 d2 d3 d4;go_wp2_with fail;rw[<-aE.o,<-aW.o];have D:gg [] w5 w5.drew:=(zR [] w5).drew
   have aT:gh (∀wz,gg [] w5 wz->wz.cell? ⟨g,o+q*5+1,none⟩=some (.int .i64 s'.p.W)/\wz.cell? ⟨g,o+q*5+2,none⟩=some (.int .i64 s'.p.H)/\wz.cell? ⟨g,o+q*5+3,none⟩=some (.int .i64 s'.p.d)/\wz.cell? ⟨g,o+q*5+4,none⟩=some (.slice (some ⟨gq,oq,none⟩) s'.p.P.length cq) /\
     wz.cell? ⟨X5,1,none⟩=some (.int .i64 s.p.W)/\wz.cell? ⟨X5,2,none⟩=some (.int .i64 s.p.H)/\wz.cell? ⟨X5,3,none⟩=some (.int .i64 s.p.d)/\wz.cell? ⟨X5,4,none⟩=some (.slice (some ⟨J,K,none⟩) s.p.P.length p)):=gd (λwz hz=>by
    obtain⟨g0,g1,g2,g3,g4⟩:=(bi.o wz (H.o.tq hz)).1;obtain⟨y0,y1,y2,y3,y4⟩:=rF (aR.o.Z hz (by simp));exact⟨g1,g2,g3,g4,y1,y2,y3,y4⟩)
   clear c0 c1 c2 c3 c4 d0 d1 d2 d3 d4 L V W X Y k5
   go_region_held3 (λwz=>wz.cell? ⟨g,o+q*5+1,none⟩=some (.int .i64 s'.p.W)/\wz.cell? ⟨g,o+q*5+2,none⟩=some (.int .i64 s'.p.H)/\wz.cell? ⟨g,o+q*5+3,none⟩=some (.int .i64 s'.p.d)/\wz.cell? ⟨g,o+q*5+4,none⟩=some (.slice (some ⟨gq,oq,none⟩) s'.p.P.length cq) /\
     wz.cell? ⟨X5,1,none⟩=some (.int .i64 s.p.W)/\wz.cell? ⟨X5,2,none⟩=some (.int .i64 s.p.H)/\wz.cell? ⟨X5,3,none⟩=some (.int .i64 s.p.d)/\wz.cell? ⟨X5,4,none⟩=some (.slice (some ⟨J,K,none⟩) s.p.P.length p))
    (first|exact aT.o _ D|exact aT.o _ (D.tq av)|(go_keep;done)|trivial)
    (first|(go_at_call 21;refine(be.o _ (H.o.tq D)).mono ?_;rintro e w6 ⟨v6,G6,ms,rfl,u,aM,a1,av,aH,N⟩))
   have az:gh (gg [] w5 w5.drew):=gd D;obtain⟨a,f⟩:∃a:iW,a=⟨false,s.t,mD s'.p s.p ms⟩:=⟨_,rfl⟩;have ay:gh (a.k=ks.getD i false/\a.t=(gV l i).t/\nH (gV l (i-1)).p (gV l i).p a):=gd (by
    rw[<-bg.o,<-aD.o,<-aB.o,f];unfold nH;exact⟨rfl,rfl,λe=>(by cases e),λ_=>⟨ms,rfl,aM,B8 aM a1,N⟩⟩)
   have Q:mD s'.p s.p ms=a.ds:=(by rw[f]);rw[Q]at u;have ao:gh (s.t=a.t):=gd (by rw[f]);clear aM a1 N f Q D
  rotate_left
  focus
   go_wp2_with fail;rw[<-aE.o,<-aW.o];have az:gh (gg [] w5 w5):=gd (zR [] w5);clear c0 c1 c2 c3 c4 L V W X Y k5;refine(ba.o w5 H.o).mono ?_;rintro e w6 ⟨v6,G6,rfl,u,av,aH,N⟩;obtain⟨a,f⟩:∃a:iW,a=⟨true,s.t,jE (lU s.p)⟩:=⟨_,rfl⟩;have ay:gh (a.k=ks.getD i false/\a.t=(gV l i).t/\nH (gV l (i-1)).p (gV l i).p a):=gd (by
    rw[<-aD.o,<-aB.o,f];unfold nH;exact⟨rfl,rfl,λ_=>⟨rfl,N⟩,λe=>by cases e⟩)
   have Q:jE (lU s.p)=a.ds:=(by rw[f]);rw[Q]at u;have ao:gh (s.t=a.t):=gd (by rw[f]);clear N f Q
  all_goals
   obtain⟨A6,c6,rfl,aX,aY,a2⟩:=u.T;have O:gg [] w5 w6:=az.o.tq av;have aZ:∀ad,A6=some ad->ad.block∈G6:=λad e=>by subst e;rw[u.fp];simp[Value.ownBlock]
   have a0:∀x∈G6,E.heap.size<=x/\x<w6.heap.size/\x≠gC:=λx hx=>by
    have z:=aH x hx;have h2:=az.o.size;have h3:=au.o.vec.blk.lt;have h4:=au.o.Z.size;exact⟨by omega,u.lt x hx,by omega⟩
   have I:=λnq=>(au.o.Y (O.drewN nq)).next (by rw[m.o];exact d) a (a2.Y ((zR [] w6).drewN nq)) aX aY aZ a0;rw[m.o]at I;obtain⟨⟨z0,z1,z2⟩,ax⟩:=(au.o.Y O).zero (by rw[m.o];exact d);rw[m.o]at z0 z1 z2;have f0:=ax (i*3);have f1:=ax (i*3+1);have f2:=ax (i*3+2);have k6:=an.o i d w6 (H.o.tq O);rw[<-ay.o.1]at k6;obtain⟨L,V,W,X,Y⟩:=rF (aR.o.Z O (by simp));rw[ao.o]at L;have bf:=gd I;clear u av aH aX aY a2 O aZ a0 I ax;go_wp2_with fail;refine i9 11 (by kernel_rfl) (by kernel_rfl) ?_;simp only[take_succ_cons,take_zero,drop_succ_cons,drop_zero]
   repeat(go_big_quiet_step (fail))
   refine wpQuiet_nil ?_;intro _ bo;obtain⟨bq,rfl⟩:=bo;have I:=bf.o bq;have aC:=gd I;clear I k6 L V W X Y;go_wp2_with fail
   go_roundg j
   .refine⟨i+1,cs++[a],_,_,by go_num,by omega,gd (by rw[zC,m.o];rfl),aC,gd (λq r => ?_)⟩
    by_cases hqi:q<i
    .rw[BT (by rw[m.o];exact hqi)]
     exact HQ.o q hqi
    .obtain rfl:q=i:=by omega
     have e:=BS cs a;rw[m.o]at e;rw[e];exact ay.o
   .omega
structure Ic (l:List iI) (every:Nat) (cs:List iW):Prop where
 len:cs.length=l.length
 key:(iN cs 0).k=true
 cel:∀i,i<l.length->(iN cs i).t=(gV l i).t/\nH (gV l (i-1)).p (gV l i).p (iN cs i)
 mv:∀i,i<l.length->0<i->i<every->(iN cs i).k=true->∃ms:List (Int × Int),ms.length=(iM (gV l i).p.W (gV l i).p.H 8).length/\rC (gV l (i-1)).p (gV l i).p (iM (gV l i).p.W (gV l i).p.H 8) ms (iM (gV l i).p.W (gV l i).p.H 8).length/\(jE (lU (gV l i).p)).length<=(mD (gV l (i-1)).p (gV l i).p ms).length
def pB (l:List iI) (every i:Nat) (c:iW):Prop:=(i=0->c.k=true)/\c.t=(gV l i).t/\nH (gV l (i-1)).p (gV l i).p c /\
 (0<i->i<every->c.k=true->∃ms:List (Int × Int),ms.length=(iM (gV l i).p.W (gV l i).p.H 8).length/\rC (gV l (i-1)).p (gV l i).p (iM (gV l i).p.W (gV l i).p.H 8) ms (iM (gV l i).p.W (gV l i).p.H 8).length/\(jE (lU (gV l i).p)).length<=(mD (gV l (i-1)).p (gV l i).p ms).length)
theorem QC{w:World}{A:Option Addr}{l:List iI}{G:List Nat}(cap:Nat)(h:jY w A l G)(u:nF l)(a:Nat)(he0:1<=a)(he1:a<=64)(hp:iK w):Calls prog 13 #[.slice A l.length cap,a] w λe w'=>∃(cs:List iW) (gC:Nat) (G':List Nat),e=.returned (.tuple #[.slice gC l.length l.length,(0:Int)])/\lZ w' (some ⟨gC,0,none⟩) cs G'/\Ic l a cs/\gg [] w w'/\∀x∈G',w.heap.size<=x:=by
 have bI:=u.n0;have bJ:=u.n1;have ao:=ID cap h u;obtain⟨g,o,rfl,bG,-⟩:=h.ex (by omega);have Q:∀i,i<l.length->∃(gp op cp:Nat) (B:Nat->Option Addr) (c:Nat->Nat) (Gp:List Nat),∀wz,gg [] w wz->tH wz (gV l i) g (o+i*5) gp op cp/\ip wz (gV l i).p gp op B c Gp:=λi R=>by
  obtain⟨gp,op,cp,B,c,Gp,-,hs⟩:=h.stay R;exact⟨gp,op,cp,B,c,Gp,λwz hz=>hs [] wz hz (by simp)⟩
 have N:∀i,i+1<l.length->iY (gV l i).p (gV l (i+1)).p:=λi R=>(u.al i (by omega)).sym.tr (u.al (i+1) R);have⟨n,hn⟩:=zX l.length;rw[<-hn]at bI bJ ao Q N⊢;have bs:=B4 (P:=prog) Iu rfl (by decide) .i64 .i64 n (by omega) (by omega);have t1:=gY a 1 (by omega);have bS:=gY 64 a (by omega);have⟨bb,bu,aD,HP⟩:=gu Q N hn hp;clear h u Q N hp bG hn;go_enter func13,ntmps13;go_wp2_with fail;refine ao.mono ?_;rintro e Y ⟨rfl,bc⟩;have⟨w2,a0⟩:=zX (Y.alloc (.cells ((replicate n oP).flatten).toArray 43));have⟨gC,aX⟩:=zX Y.heap.size;have br:mg Y n gC w2 [] [] []:=by rw[aX,a0];exact mg.start Y n
 have bH:∀w,(Instr.makeSlice 30 (.int .i64 n) (.int .i64 n)).run prog w=.ok (.slice (some ⟨w.heap.size,0,none⟩) n n) (w.alloc (.cells ((replicate n oP).flatten).toArray 43)):=λw=>bs w;have⟨bv,a3,bD,bx⟩:=gu br bc a0 aX;clear ao bs bc a0 aX br;go_wp2_with fail;rw[<-bD.o,<-bx.o]
 go_loopg [8,9,10,11,12,13,14,15,32] n (λj v8 v9 v10 v11 v12 v13 v14 v15 v32 wr=>∃(i S:Nat) (cs:List iW) (vs:List (List Value)) (Gs:List Nat),v32=.int .i64 i/\v8=.int .i64 S/\S<=i/\i+j=n/\gh (cs.length=i)/\gh (mg Y n gC wr cs vs Gs)/\gh (∀q,q<i->pB l a q (iN cs q)))
 .exact⟨0,0,[],[],[],rfl,rfl,by omega,by omega,gd rfl,bv,gd (λq C=>by omega)⟩
 obtain⟨i,S,cs,vs,Gs,rfl,rfl,bP,bO,L,HS,Z⟩:=hrel;have aM:gh (gg [] w wr):=gd (a3.o.tq HS.o.Z);rcases gk with _|j
 .obtain rfl:i=n:=by omega
  have t2:decide ((i:Int)<(i:Int))=false:=by simp
  go_wp2_with fail;refine bodyPost_ret (v:=.tuple #[.slice gC i i,(0:Int)]) (by simp[results,results13,go_sem]) rfl ?_;refine⟨cs,gC,gC::Gs,rfl,HS.o.done,⟨by rw[L.o,aD.o],(Z.o 0 (by omega)).1 rfl,λq C=>⟨(Z.o q (by rw[aD.o];exact C)).2.1,(Z.o q (by rw[aD.o];exact C)).2.2.1⟩,λq C=>(Z.o q (by rw[aD.o];exact C)).2.2.2⟩,aM.o,λx hx => ?_⟩;have h9:=a3.o.size;rcases zJ.1 hx with rfl|h1
  .have:=HS.o.gN;omega
  .have:=HS.o.new x h1;omega
 .have R:i<n:=by omega
  have t2:=jo i n (by omega);have b1:(0:Int)<=(i:Int):=by omega
  have b2:(i:Int)<(n:Int):=by omega
  obtain⟨W,X,M,Bi,cc,Gi,ay⟩:=bb.o i R;have⟨s,hs⟩:=zX (gV l i);rw[<-hs]at ay;obtain⟨⟨c0,c1,c2,c3,c4⟩,-⟩:=ay wr aM.o;have⟨w5,az⟩:=zX (wr.alloc (.cells #[s.t,s.p.W,s.p.H,s.p.d,.slice (some ⟨W,X,none⟩) s.p.P.length M] 48));have⟨X5,aG⟩:=zX wr.heap.size;have aS:gn w5 X5 48 #[s.t,s.p.W,s.p.H,s.p.d,.slice (some ⟨W,X,none⟩) s.p.P.length M]:=by rw[az,aG];exact gn.new wr _ _
  have aO:gg [] wr w5:=by rw[az];exact(zR [] wr).alloc _
  have aL:=gd (aM.o.tq aO);obtain⟨x0,x1,x2,x3,x4⟩:=rF aS;have aW:∀wz,gg [] w wz->Calls prog 20 #[gW s.p W X M] wz (o3 wz (.ok (lU s.p))):=λwz hz=>Gb M (ay wz hz).2 (HP.o.Y hz);unfold o3 gW at aW;have⟨aE,bw,bB,a1⟩:=gu (HS.o.Y aO) aW ay aS;have⟨au,bE,bF⟩:=gX hs az aG;rw[az,aG]at x0 x1 x2 x3 x4;have⟨wo,bK⟩:=zX wr;subst bK;clear ay hs az aG aS aO aW;go_wp2_with fail;rw[<-bE.o,<-bF.o];clear c0 c1 c2 c3 c4 x0 x1 x2 x3 x4;refine(bw.o w5 aL.o).mono ?_;rintro e K ⟨v6,G6,rfl,ai,bd,bm,av⟩;obtain⟨A6,c6,rfl,aQ,be,aU⟩:=ai.T;have bi:∀ad,A6=some ad->ad.block∈G6:=λad e=>by subst e;rw[ai.fp];simp[Value.ownBlock]
  have⟨st,Q⟩:=zX (jE (lU s.p));have aw:=ai.lt;rw[<-Q]at aQ aU⊢;have H6:=gd (And.intro aQ (And.intro be (And.intro aU (And.intro bi (And.intro bm aw)))));have⟨aK,ah,ak⟩:=gX av Q bd;have bR:i<=64:=by omega
  clear ai aQ be aU bi bm av Q bd aw;by_cases hi0:i=0
  focus
   have t3:=gY 0 i (by omega);have t4:decide (0<i)=false:=zA (by omega);have aN:=gd hi0;clear hi0
   go_upto_region 21 with fail
   have⟨w7,af⟩:=zX K;rw[<-af];obtain⟨b,d⟩:∃b:iW,b=⟨true,s.t,st⟩:=⟨_,rfl⟩;have aB:gh (b.k=true):=gd (by rw[d]);have aC:gh (pB l a i b):=gd (by
    rw[d];unfold pB nH;rw[<-au.o];exact⟨λ_=>rfl,rfl,⟨λ_=>⟨ah.o,aK.o⟩,λe=>(by cases e)⟩,λe=>(by have:=aN.o;omega)⟩)
   have r:st=b.ds:=(by rw[d]);have aF:gh (s.t=b.t):=gd (by rw[d]);have V:gh (gg [] w5 w7):=gd (by rw[af];exact ak.o);obtain⟨f,m,p,y,z,H7⟩:∃f m p,f=A6/\m=c6/\gh (b.ds.length<=m/\m<=9223372036854775807/\gz b8 w7 f b.ds/\(∀ad,f=some ad->ad.block∈p)/\(∀x∈p,w5.heap.size<=x/\x<w7.heap.size)):=⟨_,_,G6,rfl,rfl,gd (by
    rw[<-r,af];obtain⟨E,H,I,J,T,U⟩:=H6.o;exact⟨E,H,I,J,λx hx=>⟨T x hx,U x hx⟩⟩)⟩
   rw[<-y,<-z,r];clear d r af y z t3 t4
  rotate_left
  focus
   have t4:decide (0<i)=true:=zB (by omega);have aN:gh (0<i):=gd (by omega);by_cases hkey:(i:Int)-(S:Int)<(a:Int);rotate_left
   focus
    have t5:decide ((i:Int)-(S:Int)<(a:Int))=false:=zA hkey;have a5:=gd hkey;clear hkey hi0
    go_upto_region 21 with fail
    have⟨w7,af⟩:=zX K;rw[<-af];obtain⟨b,d⟩:∃b:iW,b=⟨true,s.t,st⟩:=⟨_,rfl⟩;have aB:gh (b.k=true):=gd (by rw[d]);have aC:gh (pB l a i b):=gd (by
     rw[d];unfold pB nH;rw[<-au.o];exact⟨λ_=>rfl,rfl,⟨λ_=>⟨ah.o,aK.o⟩,λe=>(by cases e)⟩,λe e2=>(by have:=a5.o;omega)⟩)
    have r:st=b.ds:=(by rw[d]);have aF:gh (s.t=b.t):=gd (by rw[d]);have V:gh (gg [] w5 w7):=gd (by rw[af];exact ak.o);obtain⟨f,m,p,y,z,H7⟩:∃f m p,f=A6/\m=c6/\gh (b.ds.length<=m/\m<=9223372036854775807/\gz b8 w7 f b.ds/\(∀ad,f=some ad->ad.block∈p)/\(∀x∈p,w5.heap.size<=x/\x<w7.heap.size)):=⟨_,_,G6,rfl,rfl,gd (by
     rw[<-r,af];obtain⟨E,H,I,J,T,U⟩:=H6.o;exact⟨E,H,I,J,λx hx=>⟨T x hx,U x hx⟩⟩)⟩
    rw[<-y,<-z,r];clear d r af y z t4 t5
   rotate_left
   focus
    have t5:decide ((i:Int)-(S:Int)<(a:Int))=true:=zB hkey;obtain⟨q,C⟩:∃q,i=q+1:=⟨i-1,by omega⟩;obtain⟨gq,oq,cq,Bq,bM,Gq,aJ⟩:=bb.o q (by omega);have N:iY (gV l q).p s.p:=(by rw[au.o,C];exact bu.o q (by omega));have⟨s',aZ⟩:=zX (gV l q);rw[<-aZ]at aJ N;have O:∀wz,gg [] w wz->Calls prog 21 #[gW s'.p gq oq cq,gW s.p W X M] wz (tL wz s'.p s.p):=λwz hz=>Ir cq (aJ wz hz).2 M (bB.o wz hz).2 N (HP.o.Y hz);unfold tL gW at O;have bA:=gd O;have a9:gh (s'.p=(gV l (i-1)).p):=gd (by rw[aZ,C];rfl);have e1:(i:Int)-1=(q:Int):=(by omega);have b3:(0:Int)<=(q:Int):=(by omega);have b4:(q:Int)<(n:Int):=(by omega);have bQ:IntKind.i64.wrap (q:Int)=(q:Int):=IntWalk.i64_in _ (by omega);have⟨bL,bC,a5⟩:=gX C aJ hkey;clear aJ O aZ N C hkey hi0
    go_upto_region 16 with fail
    have D:gg [] K K.drew:=(zR [] K).drew
    have a4:gh (∀wz,gg [] K wz->wz.cell? ⟨g,o+q*5+1,none⟩=some (.int .i64 s'.p.W)/\wz.cell? ⟨g,o+q*5+2,none⟩=some (.int .i64 s'.p.H)/\wz.cell? ⟨g,o+q*5+3,none⟩=some (.int .i64 s'.p.d)/\wz.cell? ⟨g,o+q*5+4,none⟩=some (.slice (some ⟨gq,oq,none⟩) s'.p.P.length cq) /\
      wz.cell? ⟨X5,1,none⟩=some (.int .i64 s.p.W)/\wz.cell? ⟨X5,2,none⟩=some (.int .i64 s.p.H)/\wz.cell? ⟨X5,3,none⟩=some (.int .i64 s.p.d)/\wz.cell? ⟨X5,4,none⟩=some (.slice (some ⟨W,X,none⟩) s.p.P.length M)):=gd (λwz hz=>by
     obtain⟨g0,g1,g2,g3,g4⟩:=(bC.o wz ((aL.o.tq ak.o).tq hz)).1;obtain⟨y0,y1,y2,y3,y4⟩:=rF (a1.o.Z (ak.o.tq hz) (by simp));exact⟨g1,g2,g3,g4,y1,y2,y3,y4⟩)
    go_region_held3 (λwz=>wz.cell? ⟨g,o+q*5+1,none⟩=some (.int .i64 s'.p.W)/\wz.cell? ⟨g,o+q*5+2,none⟩=some (.int .i64 s'.p.H)/\wz.cell? ⟨g,o+q*5+3,none⟩=some (.int .i64 s'.p.d)/\wz.cell? ⟨g,o+q*5+4,none⟩=some (.slice (some ⟨gq,oq,none⟩) s'.p.P.length cq) /\
      wz.cell? ⟨X5,1,none⟩=some (.int .i64 s.p.W)/\wz.cell? ⟨X5,2,none⟩=some (.int .i64 s.p.H)/\wz.cell? ⟨X5,3,none⟩=some (.int .i64 s.p.d)/\wz.cell? ⟨X5,4,none⟩=some (.slice (some ⟨W,X,none⟩) s.p.P.length M))
     (first|exact a4.o _ D|exact a4.o _ (D.tq aP)|(go_keep;done)|trivial)
     (first|(go_at_call 21;refine(bA.o _ ((aL.o.tq ak.o).tq D)).mono ?_;rintro e w8 ⟨v8,G8,ms,rfl,aj,aY,aT,aP,bo,am⟩))
    obtain⟨A8,c8,rfl,aR,bh,aV⟩:=aj.T;have bk:∀ad,A8=some ad->ad.block∈G8:=λad e=>by subst e;rw[aj.fp];simp[Value.ownBlock]
    have ax:=aj.lt;have bp:=B8 aY aT;have a2:=gd (And.intro aY (And.intro aT (And.intro bp am)));have⟨mv,O⟩:=zX (mD s'.p s.p ms);rw[<-O]at aR aV⊢;have H8:=gd (And.intro aR (And.intro bh (And.intro aV (And.intro bk (And.intro bo ax)))));have a7:=gd O;have aA:gh (gg [] K w8):=gd (D.tq aP);clear aj aR bh aV bk ax bp aY aT am bo aP O D;by_cases hlen:mv.length<st.length
    focus
     have t6:=jo mv.length st.length (by omega);have t7:decide (mv.length<st.length)=true:=zB hlen;clear hlen
     go_upto_region 21 with fail
     have⟨w7,af⟩:=zX w8;rw[<-af];obtain⟨b,d⟩:∃b:iW,b=⟨false,s.t,mv⟩:=⟨_,rfl⟩;have aB:gh (b.k=false):=gd (by rw[d]);have aC:gh (pB l a i b):=gd (by
      rw[d];unfold pB nH;rw[<-au.o,<-a9.o];obtain⟨E,H,I,J⟩:=a2.o;exact⟨λe=>(by have:=aN.o;omega),rfl,⟨λe=>(by cases e),λ_=>⟨ms,a7.o,E,I,J⟩⟩,λ_ _ e=>(by cases e)⟩)
     have r:mv=b.ds:=(by rw[d]);have aF:gh (s.t=b.t):=gd (by rw[d]);have V:gh (gg [] w5 w7):=gd (by rw[af];exact ak.o.tq aA.o);obtain⟨f,m,p,y,z,H7⟩:∃f m p,f=A8/\m=c8/\gh (b.ds.length<=m/\m<=9223372036854775807/\gz b8 w7 f b.ds/\(∀ad,f=some ad->ad.block∈p)/\(∀x∈p,w5.heap.size<=x/\x<w7.heap.size)):=⟨_,_,G8,rfl,rfl,gd (by
      rw[<-r,af];obtain⟨E,H,I,J,T,U⟩:=H8.o;have h9:=ak.o.size;have bN:K.drew.heap.size=K.heap.size:=rfl;exact⟨E,H,I,J,λx hx=>⟨by have:=T x hx;omega,U x hx⟩⟩)⟩
     rw[<-y,<-z,r];clear d r af y z t4 t5 t6 t7
    rotate_left
    focus
     have t7:decide (mv.length<st.length)=false:=zA hlen;have bz:gh (st.length<=mv.length):=gd (by omega);clear hlen
     go_upto_region 21 with fail
     have⟨w7,af⟩:=zX w8;rw[<-af];obtain⟨b,d⟩:∃b:iW,b=⟨true,s.t,st⟩:=⟨_,rfl⟩;have aB:gh (b.k=true):=gd (by rw[d]);have aC:gh (pB l a i b):=gd (by
      rw[d];unfold pB nH;rw[<-au.o,<-a9.o];obtain⟨E,H,I,J⟩:=a2.o;exact⟨λ_=>rfl,rfl,⟨λ_=>⟨ah.o,aK.o⟩,λe=>(by cases e)⟩,λ_ _ _=>⟨ms,E,H,by rw[<-ah.o,<-a7.o];exact bz.o⟩⟩)
     have r:st=b.ds:=(by rw[d]);have aF:gh (s.t=b.t):=gd (by rw[d]);have V:gh (gg [] w5 w7):=gd (by rw[af];exact ak.o.tq aA.o);obtain⟨f,m,p,y,z,H7⟩:∃f m p,f=A6/\m=c6/\gh (b.ds.length<=m/\m<=9223372036854775807/\gz b8 w7 f b.ds/\(∀ad,f=some ad->ad.block∈p)/\(∀x∈p,w5.heap.size<=x/\x<w7.heap.size)):=⟨_,_,G6,rfl,rfl,gd (by
      rw[<-r,af];obtain⟨E,H,I,J,T,U⟩:=H6.o;have h9:=aA.o.size;exact⟨E,H,I.Y aA.o,J,λx hx=>⟨T x hx,by have:=U x hx;omega⟩⟩)⟩
     rw[<-y,<-z,r];clear d r af y z t4 t5 t7
  all_goals
   obtain⟨bf,bg,bq,bj,bn⟩:=H7.o;have bl:∀x∈p,Y.heap.size<=x/\x<w7.heap.size/\x≠gC:=λx hx=>by
    obtain⟨h1,h2⟩:=bn x hx;have h3:=aE.o.vec.blk.lt;have h4:=aE.o.Z.size;exact⟨by omega,h2,by omega⟩
   have aI:=(aE.o.Y V.o).next (by rw[L.o];exact R) b bq bf bg bj bl;rw[L.o]at aI;obtain⟨⟨z0,z1,z2⟩,aH⟩:=(aE.o.Y V.o).zero (by rw[L.o];exact R);rw[L.o]at z0 z1 z2;have f0:=aH (i*3);have f1:=aH (i*3+1);have f2:=aH (i*3+2);obtain⟨x0,x1,x2,x3,x4⟩:=rF (a1.o.Z V.o (by simp));rw[aF.o]at x0;rw[aB.o]at aI;have a8:=gd aI;clear aI bf bg bq bj bn bl aH;go_wp2_with fail
   go_roundg j
   .have a6:gh ((cs++[b]).length=i+1):=gd (by rw[zC,L.o];rfl)
    have ba:gh (∀q,q<i+1->pB l a q (iN (cs++[b]) q)):=gd (λq C=>by
     by_cases hqi:q<i
     .rw[BT (by rw[L.o];exact hqi)]
      exact Z.o q hqi
     .obtain rfl:q=i:=by omega
      have e:=BS cs b;rw[L.o]at e;rw[e];exact aC.o)
    first
     | exact⟨i+1,i,cs++[b],_,_,by go_num,rfl,by omega,by omega,a6,a8,ba⟩
     | exact⟨i+1,S,cs++[b],_,_,by go_num,rfl,by omega,by omega,a6,a8,ba⟩
   .omega
def pC:gA:=⟨1,1,1,[[1]]⟩
theorem IL:pC.Ok where
 w0:=by decide
 w1:=by decide
 h0:=by decide
 h1:=by decide
 d0:=by decide
 d1:=by decide
 n0:=by decide
 n1:=by decide
 len:=λx hx=>by simp[pC]at hx;subst hx;rfl
 smp:=λx hx=>by simp[pC]at hx;subst hx;intro v a;simp at a;subst a;decide
theorem Q2:iM 1 1 8=[⟨0,0,1,1⟩]:=by rfl
theorem IN{d:List (Int × Int)}(h:d.length=(iM pC.W pC.H 8).length)(l:∀i,i<d.length->lO pC.W pC.H (gJ (iM pC.W pC.H 8) i) (d.getD i (0,0))):d=[(0,0)]:=by
 have e:iM pC.W pC.H 8=[⟨0,0,1,1⟩]:=Q2;rw[e]at h l;have f:=l 0 (by rw[h];decide);obtain⟨_,_,_,_,f,p,q,r⟩:=f
 match d,h with
 | [(a,b)],_ =>
  simp[pC,gJ]at f p q r;have m:a=0:=by omega
  have e2:b=0:=by omega
  rw[m,e2]
theorem Q5:8<(oe pC).length:=by decide +kernel
theorem Q6:8<(ky none pC).length:=by decide +kernel
theorem QY:5<(jE (lU pC)).length:=by
 rw[yZ,zt];unfold lU;split
 .have:=Q6;omega
 .have:=Q5;omega
theorem Q0:yi pC pC [(0,0)]=[0]:=by kernel_rfl
theorem IH:(mD pC pC [(0,0)]).length=5:=by
 unfold mD;rw[zC,Q0];rfl
def lC:List iI:=[⟨0,pC⟩,⟨5,pC⟩]
theorem qr(i:Nat)(a:i<2):(gV lC i).p=pC:=by
 rcases(by omega:i=0\/i=1)with rfl|rfl<;>rfl
theorem IQ:iY pC pC:=⟨rfl,rfl,rfl,rfl⟩
theorem IJ:nF lC where
  n0:=by decide
  n1:=by decide
  ok:=λi hi=>by rw[qr i hi];exact IL
  al:=λi hi=>by rw[qr i hi];exact IQ
  times:=λi hi=>by
    rcases (by have : i < 2 := hi
               omega:i=0\/i=1)with rfl | rfl
    · exact⟨by decide,by decide,λh=>absurd h (by decide)⟩
    · exact⟨by decide,by decide,λ_=>by decide⟩
theorem Q7{cs:List iW}(h:Ic lC 9 cs):cs.length=2/\(iN cs 0).k=true/\(iN cs 1).k=false/\(iN cs 1).ds.length=5/\yh cs lC:=by
 have f:(iN cs 1).k=false:=by
  cases e:(iN cs 1).k
  .rfl
  .exfalso
   obtain⟨m,a,b,d⟩:=h.mv 1 (by decide) (by decide) (by decide) e;rw[qr 1 (by decide),qr (1-1) (by decide)]at d;rw[qr 1 (by decide)]at a b;rw[qr (1-1) (by decide)]at b;have l:=IN a (B8 a b);rw[l,IH]at d
   have:=QY
   omega
 refine⟨h.len,h.key,f,?_,⟨h.len,h.key,h.cel⟩⟩;obtain⟨m,a,b,d,-⟩:=(h.cel 1 (by decide)).2.2 f;rw[qr 1 (by decide),qr (1-1) (by decide)]at a;rw[qr 1 (by decide)]at b d;rw[qr (1-1) (by decide)]at d;rw[a,IN b d,IH]
theorem IK{w:World}(d:gn w b1 3 #[(1:Int)])(f:gn w b2 22 #[.slice b1 1 1]):ip w pC b2 0 (λ_=>some ⟨b1,0,none⟩) (λ_=>1) [b1,b2] where
 ok:=IL
 gG:=by simp
 lt:=λx hx=>by
  simp at hx
  rcases hx with rfl|rfl
  .exact d.lt
  .exact f.lt
 X:=λi b=>by
  have b:i<1:=b
  obtain rfl:i=0:=by omega
  exact f.X 0
 cells:=λi b=>by
  have b:i<1:=b
  obtain rfl:i=0:=by omega
  exact⟨λ_=>⟨b1,0,rfl,d.lt,λk a ha=>by
   rcases k with _|k
   .rw[<-Option.some.inj ha];exact d.X 0
   .simp[pC]at ha⟩⟩
 blk:=λi b ad e=>by rw[<-Option.some.inj e];simp
 cap:=λi b=>⟨by decide,by decide⟩
def rH (t0 t1:Int) (b2:Nat):Array Value:=#[.int .i64 t0,.int .i64 1,.int .i64 1,.int .i64 1,.slice b2 1 1,.int .i64 t1,.int .i64 1,.int .i64 1,.int .i64 1,.slice b2 1 1]
theorem B9{w:World}{h l:Int}(b:gn w b1 3 #[(1:Int)])(d:gn w b2 22 #[.slice b1 1 1])(a:gn w b3 48 (rH h l b2)):jY w (some ⟨b3,0,none⟩) [⟨h,pC⟩,⟨l,pC⟩] [b1,b2,b3]:=by
 refine⟨λ_=>⟨b3,0,rfl,by simp,λi f => ?_⟩,λx hx => ?_⟩
 .have f:i<2:=f
  rcases(by omega:i=0\/i=1)with rfl|rfl
  .exact⟨b2,0,1,_,_,_,a.X 0,a.X 1,a.X 2,a.X 3,a.X 4,IK b d,λx hx=>by simp at hx⊢;rcases hx with rfl|rfl<;>simp⟩
  .exact⟨b2,0,1,_,_,_,a.X 5,a.X 6,a.X 7,a.X 8,a.X 9,IK b d,λx hx=>by simp at hx⊢;rcases hx with rfl|rfl<;>simp⟩
 .simp at hx
  rcases hx with rfl|rfl|rfl
  .exact b.lt
  .exact d.lt
  .exact a.lt
theorem Qu{w:World}(cap:Nat)(d:gn w b1 3 #[(1:Int)])(f:gn w b2 22 #[.slice b1 1 1])(h:gn w b3 48 (rH 5 0 b2)):Calls prog 19 #[.slice b3 2 cap] w λe w'=>e=.returned (.int .i64 12)/\gg [] w w':=
 Iv (b:=false) cap (B9 d f h) (by decide) (by decide) (λi a=>by
  have a:i<2:=a;rcases(by omega:i=0\/i=1)with rfl|rfl<;>exact IQ) (λw A cap hc=>QR w A cap _ hc rfl (by decide) (by decide) (by decide) (by decide))
def qU (cs:List iW):Nat->Int
 | 0 => -1
 | j+1=>if (iN cs j).k=true then(j:Int)else qU cs j
theorem QQ{w:World}{A:Option Addr}{cs:List iW}{G:List Nat}(cap:Nat)(h:lZ w A cs G)(i:Nat)(r:i<cs.length)(u:cs.length<=64):Calls prog 14 #[.slice A cs.length cap,i] w λe C=>e=.returned (.int .i64 (qU cs (i+1)))/\C=w:=by
 obtain⟨g,o,rfl,m,-⟩:=h.ex (by omega);have a:∀q,q<cs.length->w.cell? ⟨g,o+q*3,none⟩=some (.bool (iN cs q).k):=λq hq=>by
  obtain⟨A,c,-,-,x⟩:=h.stay hq;exact(x w (zR [] w)).1.1
 have⟨n,ad⟩:=zX cs.length;rw[<-ad]at a r u⊢;have E:=gY i 0 (by omega);have H:decide (n<=i)=false:=zA (by omega);have l:=gd a;clear h m a ad;go_enter func14,ntmps14;go_wp2_with fail
 go_loopg [1] (i+1) (λj v1 wr=>∃z:Int,v1=.int .i64 z/\z=(j:Int)-1/\j<=i+1/\gh (qU cs j=qU cs (i+1))/\wr=w)
 .exact⟨(i:Int),rfl,by omega,by omega,gd rfl,rfl⟩
 obtain⟨z,rfl,b,D,d,rfl⟩:=hrel;rcases gk with _|j
 .have e:qU cs (i+1)=z:=by
   rw[b];exact d.o.symm
  have y:=mF 0 z (by omega);clear b;go_wp2_with fail;refine bodyPost_ret (v:=.int .i64 z) (by simp[results,results14,go_sem]) rfl ?_;exact⟨by rw[e],rfl⟩
 .obtain rfl:z=(j:Int):=by omega
  have s:j<n:=by omega
  have y:=jB 0 j (by omega);have b1:(0:Int)<=(j:Int):=by omega
  have b2:(j:Int)<(n:Int):=by omega
  have b3:j<=64:=by omega
  have p:=l.o j s;have⟨kb,aa⟩:=zX ((iN cs j).k);rw[<-aa]at p;have f:gh ((if kb=true then(j:Int)else qU cs j)=qU cs (i+1)):=gd (by rw[aa];exact d.o);clear aa b;cases kb
  .go_wp2_with fail
   go_roundg j
   .exact⟨(j:Int)-1,by go_num,rfl,by omega,gd f.o,rfl⟩
   .omega
  .go_wp2_with fail
   refine bodyPost_ret (v:=.int .i64 j) (by simp[results,results14,go_sem]) rfl ?_;exact⟨by rw[<-f.o];rfl,rfl⟩
theorem QK{w:World}{v:Option Addr}{n:Nat}(cap:Nat)(b:n<=i)(d:i<=64):Calls prog 14 #[.slice v n cap,i] w λe a=>e=.returned (.int .i64 (-1))/\a=w:=by
 have f:=gY i 0 (by omega);go_enter func14,ntmps14;go_wp2_with fail;refine bodyPost_ret (v:=.int .i64 (-1)) (by simp[results,results14,go_sem]) rfl ?_;exact⟨rfl,rfl⟩
theorem B7{w:World}{A B:Option Addr}{l:List iI}{T U:List Nat}(u v:Nat)(I:jY w A l T)(J:jY w B l U)(K:l.length<=64):Calls prog 11 #[.slice A l.length u,.slice B l.length v] w λe w'=>e=.returned (.bool true)/\gg [] w w':=by
 have H:∀i,i<l.length->∃(a d b f q r cp m ad h:Nat) (y:Nat->Option Addr) (c:Nat->Nat) (C:List Nat) (z:Nat->Option Addr) (c2:Nat->Nat) (Gp2:List Nat),A=some ⟨a,d,none⟩/\B=some ⟨b,f,none⟩ /\
   ∀wz,gg [] w wz->(tH wz (gV l i) a (d+i*5) q r cp/\ip wz (gV l i).p q r y c C)/\tH wz (gV l i) b (f+i*5) m ad h/\ip wz (gV l i).p m ad z c2 Gp2:=λi E=>by
  obtain⟨a,d,rfl,-,-⟩:=I.ex (by omega);obtain⟨b,f,rfl,-,-⟩:=J.ex (by omega);obtain⟨q,r,cp,y,c,C,-,h1⟩:=I.stay E;obtain⟨m,ad,h,z,c2,Gp2,-,h2⟩:=J.stay E;exact⟨a,d,b,f,q,r,cp,m,ad,h,y,c,C,z,c2,Gp2,rfl,rfl,λwz hz=>⟨h1 [] wz hz (by simp),h2 [] wz hz (by simp)⟩⟩
 have⟨n,hn⟩:=zX l.length;rw[<-hn]at H K⊢;have aq:=gd H;have t1:((n:Int) != (n:Int))=false:=by simp
 clear I J H hn;go_enter func11,ntmps11;go_wp2_with fail
 go_loopg [5] n (λj v5 wr=>∃i:Nat,v5=.int .i64 i/\i+j=n/\gh (gg [] w wr))
 .exact⟨0,rfl,by omega,gd (zR _ _)⟩
 obtain⟨i,rfl,av,D⟩:=hrel;rcases gk with _|j
 .obtain rfl:i=n:=by omega
  have t2:decide ((i:Int)<(i:Int))=false:=by simp
  go_wp2_with fail;go_ret;exact⟨rfl,D.o⟩
 .have E:i<n:=by omega
  have b1:(0:Int)<=(i:Int):=by omega
  have b2:(i:Int)<(n:Int):=by omega
  obtain⟨a,d,b,f,q,r,cp,m,ad,h,y,c,C,z,c2,Gp2,rfl,rfl,x⟩:=aq.o i E;have⟨s,am⟩:=zX (gV l i);rw[<-am]at x;obtain⟨⟨⟨V,W,L,M,N⟩,-⟩,⟨c0,c1,O,Q,R⟩,-⟩:=x wr D.o;have X:wr.cell? ⟨a,d+i*5+1+1,none⟩=some (.int .i64 s.p.H):=L;have Y:wr.cell? ⟨a,d+i*5+1+2,none⟩=some (.int .i64 s.p.d):=M;have Z:wr.cell? ⟨a,d+i*5+1+3,none⟩=some (.slice (some ⟨q,r,none⟩) s.p.P.length cp):=N;have c2:wr.cell? ⟨b,f+i*5+1+1,none⟩=some (.int .i64 s.p.H):=O;have c3:wr.cell? ⟨b,f+i*5+1+2,none⟩=some (.int .i64 s.p.d):=Q;have c4:wr.cell? ⟨b,f+i*5+1+3,none⟩=some (.slice (some ⟨m,ad,none⟩) s.p.P.length h):=R;have p:=λwz (hz:gg [] w wz)=>LO cp (x wz hz).1.2 h (x wz hz).2.2 rfl rfl rfl rfl;unfold gW at p;have ap:=gd p;have⟨wo,au⟩:=zX wr;subst au;clear x am p L M N O Q R;go_wp2_with fail;refine i9 22 (by kernel_rfl) (by kernel_rfl) ?_;simp only[take_succ_cons,take_zero,drop_succ_cons,drop_zero]
  repeat(go_big_quiet_step (fail))
  refine wpQuiet_nil ?_;intro _ ar;obtain⟨nq,rfl⟩:=ar;have p:=ap.o _ (D.o.drewN nq);have ao:gh (gg [] w (wo.drewN nq)):=gd (D.o.drewN nq);clear V W X Y Z c0 c1 c2 c3 c4;go_wp2_with fail;refine p.mono ?_;rintro e w6 ⟨rfl,S⟩;have an:=gd (ao.o.tq S);clear p S;go_wp2_with fail
  go_roundg j
  .exact⟨i+1,by go_num,by omega,an⟩
  .omega
theorem HJ:jx prog 27 4 (.bool false) 1 1:=.mk' underlying27 (by kernel_rfl)
theorem Qg(w:World)(b cap at_ n:Nat)(A:Option Addr)(L:List Int)(h:jv w b A cap L at_)(hn0:1<=n)(hn1:n<=64):Calls prog 7 #[.pointer b,n] w λe K=>∃(ks:List Bool) (g c a:Nat),e=.returned (.slice g n c)/\ks.length=n/\ks.getD 0 false=true/\gv K 4 (.slice g n c) g (ks.map vb)/\jv K b A cap L a/\gg [b] w K/\w.heap.size<=g:=by
 have V:=h.blk.lt;have⟨HB,HT⟩:=gy V h;have p:gv (w.alloc (.cells #[.bool true] 4)) 4 (.slice (some ⟨w.heap.size,0,none⟩) 1 1) w.heap.size ([true].map vb):=gv.made w 4 [.bool true] (by simp[maxLen]);have⟨w1,am⟩:=zX (w.alloc (.cells #[.bool true] 4));have⟨X,hX⟩:=zX w.heap.size;rw[<-am,<-hX]at p;have D:gg [] w w1:=by rw[am];exact(zR [] w).alloc _
 have Y:gh (gK w1 4 (.slice X 1 1) [X] ([true].map vb)):=gd p.R;have aF:=gd (h.fresh D);have Z:gh (gg [b] w w1):=gd (D.mono (by simp));have⟨HX,aG⟩:=gy hX am;clear h V p am hX D;go_enter func7,ntmps7;go_wp2_with fail;rw[<-aG.o,<-HX.o]
 go_loopg [5] (n-1) (λj v5 wr=>∃(ks:List Bool) (F:List Nat) (a:Nat),ks.length+j=n/\gh (ks.getD 0 false=true)/\1<=ks.length/\gh (gK wr 4 v5 F (ks.map vb))/\gh (∀x∈F,w.heap.size<=x)/\gh (jv wr b A cap L a)/\gh (gg [b] w wr))
 .exact⟨[true],[X],at_,by show 1+(n-1)=n;omega,gd rfl,by decide,Y,gd (λx d=>by simp at d;have := HX.o;omega),aF,Z⟩
 obtain⟨ks,F,a,z,C,y,T,l,O,S⟩:=hrel;have f:=T.o;obtain⟨A5,c5,rfl,-,-,-⟩:=f.T;rcases gk with _|j
 .have I:ks.length=n:=by omega
  obtain⟨g,c,U,p,hF⟩:=GA (N:=n) f (by rw[zE];exact I) (by omega);have t1:=gY ks.length n (by omega);have t2:decide (ks.length<n)=false:=zA (by omega);have⟨HE,HR⟩:=gy U p;have W:gh (w.heap.size<=g):=gd (l.o g (by rw[hF];simp));have aE:=gd I;clear f U p hF I;go_wp2_with fail;go_ret;rw[HE.o];exact⟨ks,g,c,a,rfl,aE.o,C.o,HR.o,O.o,S.o,W.o⟩
 .have t1:=jo ks.length n (by omega)
  have t2:decide (ks.length<n)=true:=zB (by omega);have Q:=mN wr b cap a 3 A L O.o (by omega) (by omega);clear f;go_wp2_with fail;refine Q.mono ?_;rintro e m ⟨v,M,rfl,hv,R,E⟩;have⟨ay,aA,aj⟩:=gX (T.o.Z E (λx d hm=>by simp at hm;subst hm;have:=l.o _ d;have:=HB.o;omega)) R (S.o.tq E);clear Q R E;by_cases hv0:v=0
  .subst hv0
   have t3:(((0:Nat):Int)==0)=true:=rfl;have f:=ay.o.alloc (.cells #[.bool true] 4);have⟨ad,ao⟩:=gy z y;clear z y
   go_wp2_with(at_builtin;refine ka rfl rfl HJ rfl rfl f (.bool true) rfl ((gn.new m 4 #[.bool true]).X 0) ?e2 ?e3 ?e4 ?_)
   case e2=>rfl
   case e3=>rw[zE];have := ad.o;omega
   case e4=>rw[zE];have := ad.o;omega
   intro J aq w8 s q;have⟨ap,ae⟩:=gy s.R q;clear s q f;go_wp2_with fail
   go_roundg j
   case measure=>have := ad.o;omega
   case rel =>
    have H:b∉F:=λhm=>by have:=l.o b hm;have:=HB.o;omega
    have r:gg F m w8:=((zR F m).alloc _).tq ae.o.Z;refine⟨ks++[true],[J],M,by rw[zC,length_singleton];have:=ad.o;omega,gd ?_,by rw[zC,length_singleton];omega,gd ?_,gd ?_,gd ?_,gd ?_⟩
    .rw[zD,getElem?_append_left (by have:=ao.o;omega),<-zD];exact C.o
    .rw[zM];simpa[vb]using ap.o
    .intro x d
     rcases ae.o.new x d with u|u
     .exact l.o x u
     .have h2:=aj.o.size
      have h3:(m.alloc (.cells #[.bool true] 4)).heap.size=m.heap.size+1:=Array.size_push _;omega
    .exact aA.o.Y r H (ib.fresh HT.o.cells l.o)
    .exact aj.o.trans r (λx d => .inr (l.o x d))
  .have t3:((v:Int)==0)=false:=by rw[beq_eq_false_iff_ne];omega
   clear hv0;have f:=ay.o.alloc (.cells #[.bool false] 4);have⟨ad,ao⟩:=gy z y;clear z y
   go_wp2_with(at_builtin;refine ka rfl rfl HJ rfl rfl f (.bool false) rfl ((gn.new m 4 #[.bool false]).X 0) ?e2 ?e3 ?e4 ?_)
   case e2=>rfl
   case e3=>rw[zE];have := ad.o;omega
   case e4=>rw[zE];have := ad.o;omega
   intro J aq w8 s q;have⟨ap,ae⟩:=gy s.R q;clear s q f;go_wp2_with fail
   go_roundg j
   case measure=>have := ad.o;omega
   case rel =>
    have H:b∉F:=λhm=>by have:=l.o b hm;have:=HB.o;omega
    have r:gg F m w8:=((zR F m).alloc _).tq ae.o.Z;refine⟨ks++[false],[J],M,by rw[zC,length_singleton];have:=ad.o;omega,gd ?_,by rw[zC,length_singleton];omega,gd ?_,gd ?_,gd ?_,gd ?_⟩
    .rw[zD,getElem?_append_left (by have:=ao.o;omega),<-zD];exact C.o
    .rw[zM];simpa[vb]using ap.o
    .intro x d
     rcases ae.o.new x d with u|u
     .exact l.o x u
     .have h2:=aj.o.size
      have h3:(m.alloc (.cells #[.bool false] 4)).heap.size=m.heap.size+1:=Array.size_push _;omega
    .exact aA.o.Y r H (ib.fresh HT.o.cells l.o)
    .exact aj.o.trans r (λx d => .inr (l.o x d))
end Go.Proofs.YtifdlkoepaepiaaGreatDoor
