/- Lemmas. -/
import Derived.Test.YtnepiccbpokmiaaGreatDoorMg36
import Derived.Test.YtnepiccbpokmiaaGreatDoorMg45
import Derived.Test.YtnepiccbpokmiaaGreatDoorMg34
set_option linter.all false
set_option maxHeartbeats 4000000
set_option maxRecDepth 100000
namespace Go.Proofs.YtnepiccbpokmiaaGreatDoor
open Tryz List Nat Go.RowKit
variable {df l now:List Int}{F ds:List Nat}{H W b cap capA capP g g' gP k o o' pos:Nat}{A:Option Addr}{u:Value}
theorem MV{w:World}{p:gH}{B:Nat->Option Addr}{c:Nat->Nat}{G:List Nat}(cap:Nat)(h:gW w p g o B c G):Calls prog 49 #[gN p g o cap] w λe d=>∃(g' cap':Nat),e=.returned (.slice g' 4 cap')/\gv d 5 (.slice g' 4 cap') g' ((iK (kw p)).map b8)/\gf [] w d/\w.heap.size<=g':=by
 have f:∀d,gf [] w d->_:=λd hc'=>JD cap (h.Y hc');have z:=rg h.ok;have j:=λd=>Dr (kw p) z d;have⟨S,hS⟩:=zX (kw p);rw[<-hS]at f j z⊢;have J:IntKind.u64.wrap (S:Int)=(S:Int):=IntWalk.u64_in _ (by omega);unfold gN at f⊢;have⟨w1,ad⟩:=zX (w.alloc (.cells #[p.W,p.H,p.d,.slice (some ⟨g,o,none⟩) p.P.length cap] 25));have y:=jD ad;have⟨ap,ae,ao,ak⟩:=gz ad y f j;clear ad y f j hS h;go_enter func49,ntmps49;go_wp2_with fail;rw[<-ap.o];refine(ao.o w1 ae.o).mono ?_;rintro e I ⟨rfl,v⟩;have t:=gd (ae.o.tq v);clear v;go_wp2_with fail;refine(ak.o I).mono ?_;rintro e K ⟨C,c3,rfl,r,x,E⟩;have⟨an,al⟩:=gy r (t.o.tq x);have D:gh (w.heap.size<=C):=gd (by have:=t.o.size;omega);clear r x E;go_wp2;go_ret;exact⟨C,c3,rfl,an.o,al.o,D.o⟩
theorem JI{w:World}{D:Option Addr}{cap':Nat}{f:List Nat}(L:gu b8 w A ds)(he:gu b8 w D f)(M:∀d∈ds++f,d<256)(hl:ds.length<=1000000000)(N:f.length<=1000000000):Calls prog 47 #[.slice A ds.length cap,.slice D f.length cap'] w λe j=>∃v G,e=.returned v/\gE j 5 v G ((ds++iK (lE (ds++f))).map b8)/\gf [] w j/\∀x∈G,w.heap.size<=x:=by
 have aw:=tk M;have I:=λj=>Dr (lE (ds++f)) aw j;have⟨n,hn⟩:=zX ds.length;have⟨m,hm⟩:=zX f.length;have C:=λj y ad (h':gu b8 j y (ds++f))=>EE j y ad (ds++f) h' M (by rw[zC];omega);rw[zC,<-hn,<-hm]at C;rw[<-hn]at hl⊢;rw[<-hm]at N⊢;have⟨S,hS⟩:=zX (lE (ds++f));rw[<-hS]at C aw I⊢;have aL:IntKind.u64.wrap (S:Int)=(S:Int):=IntWalk.u64_in _ (by omega);have hz:gE (w.alloc (.cells #[] 5)) 5 (.slice (some ⟨w.heap.size,0,none⟩) 0 0) [w.heap.size] []:=(gv.made w 5 [] (by simp[maxLen])).S;have ax:gu (λu=>u) (w.alloc (.cells #[] 5)) A (ds.map b8):=(L.Y ((zR [] w).alloc (.cells #[] 5))).raw_b8;have av:∀j,gf [] w j->gu (λu=>u) j A (ds.map b8)/\gu (λu=>u) j D (f.map b8):=λj h'=>⟨(L.Y h').raw_b8,(he.Y h').raw_b8⟩;have⟨HN,HM,aE,an⟩:=gz hn hm ax av;have⟨az,aA⟩:=gy C I;clear ax C I hn hm hS L he M av;go_enter func47,ntmps47
 go_wp2_with(at_builtin;refine na rfl rfl ku rfl rfl hz (ds.map b8) n rfl ?c1 ?c2 ?c3 ?c4 ?c5 ?_)
 case c1=>rw[zE];exact HN.o
 case c2=>exact aE.o
 case c3=>exact ni _
 case c4=>rw[zE,length_nil,<-HN.o];omega
 case c5=>rw[zE,length_nil,<-HN.o];omega
 intro v1 F1 w1 r t
 try rw[nil_append]at r
 have R:gf [] w w1:=((zR [] w).alloc _).trans t.Z λx hx=>.inr (by simp at hx;omega);have V:=gd R;have aF:gh (∀x∈F1,w.heap.size<=x):=gd (λx hx=>by
  rcases t.new x hx with h|h
  .simp at h;omega
  .have:(w.alloc (.cells #[] 5)).heap.size=w.heap.size+1:=Array.size_push _
   omega)
 have O:=r;clear r t R hz
 go_wp2_with(at_builtin;refine na rfl rfl ku rfl rfl O (f.map b8) m rfl ?d1 ?d2 ?d3 ?d4 ?d5 ?_)
 case d1=>rw[zE];exact HM.o
 case d2=>exact(an.o _ V.o).2
 case d3=>exact ni _
 case d4=>rw[zE,zE,<-HN.o,<-HM.o];omega
 case d5=>rw[zE,zE,<-HN.o,<-HM.o];omega
 intro v2 F2 w2 r t;have T:gf [] w w2:=V.o.trans t.Z λx hx=>.inr (aF.o x hx);have z:=gd T;rw[<-zM]at r;obtain⟨y,ad,rfl,Y,aJ,Z⟩:=r.oq;rw[zC,<-HN.o,<-HM.o]at Y⊢;have aC:=gd Z;clear r t T O Z Y aJ;go_wp2_with fail;refine(az.o w2 y ad aC.o).mono ?_;rintro e w3 ⟨rfl,rfl⟩;have ay:gE (w2.alloc (.cells #[] 5)) 5 (.slice (some ⟨w2.heap.size,0,none⟩) 0 0) [w2.heap.size] []:=(gv.made w2 5 [] (by simp[maxLen])).S;have aI:=gd (an.o _ (z.o.alloc (.cells #[] 5))).1
 go_wp2_with(at_builtin;refine na rfl rfl ku rfl rfl ay (ds.map b8) n rfl ?f1 ?f2 ?f3 ?f4 ?f5 ?_)
 case f1=>rw[zE];exact HN.o
 case f2=>exact aI.o
 case f3=>exact ni _
 case f4=>rw[zE,length_nil,<-HN.o];omega
 case f5=>rw[zE,length_nil,<-HN.o];omega
 intro v4 F4 w4 J K
 try rw[nil_append]at J
 have U:gf [] w w4:=(z.o.alloc _).trans K.Z λx hx=>.inr (by simp at hx;have:=z.o.size;omega);have aB:=gd U;have X:gh (∀x∈F4,w.heap.size<=x):=gd (λx hx=>by
  have:=z.o.size
  rcases K.new x hx with h|h
  .simp at h;omega
  .have:(w2.alloc (.cells #[] 5)).heap.size=w2.heap.size+1:=Array.size_push _
   omega)
 have aG:=gd J;clear J K U ay;go_wp2_with fail;refine(aA.o w4).mono ?_;rintro e w5 ⟨g5,c5,rfl,Q,E,aK⟩;have P:=aG.o.Y E;have au:=gv.cellsB Q;have⟨aD,am⟩:=gy au (aB.o.tq E);clear Q E aK au
 go_wp2_with(at_builtin;refine na rfl rfl ku rfl rfl P ((iK S).map b8) 4 rfl ?k1 ?k2 ?k3 ?k4 ?k5 ?_)
 case k1=>rfl
 case k2=>exact aD.o
 case k3=>exact ni _
 case k4=>rw[zE,zE,<-HN.o];simp[iK];omega
 case k5=>rw[zE,zE,<-HN.o];simp[iK];omega
 intro v6 F6 w6 h6 g6;have⟨aH,ap⟩:=gy h6 g6;clear h6 g6 P;go_wp2_with fail;go_ret;refine⟨v6,F6,rfl,by rw[zM];exact aH.o,am.o.trans ap.o.Z (λx hx=>.inr (X.o x hx)),λx hx=>?_⟩;rcases ap.o.new x hx with h|h
 .exact X.o x h
 .have:=am.o.size;omega
theorem Cr(w:World)(b:Nat)(F bs:List Nat)(m:Int × Int)(h:hO w b F bs)(K : -4<=m.1)(L:m.1<=4)(M : -4<=m.2)(N:m.2<=4)(E:bs.length<500000000000):Calls prog 43 #[.pointer b,m.1,m.2] w λe w'=>e=.returned (.tuple #[])/\∃F',hO w' b F' (bs++kC m)/\gB F F' w w':=by
 obtain⟨r,t⟩:=m;unfold kC;simp only[<-zH]at K L M N⊢;have⟨x,hx⟩:=zX ((r+4).toNat);have⟨y,hy⟩:=zX ((t+4).toNat);rw[<-hx,<-hy];have P:r+4=(x:Int):=by omega
 have Q:t+4=(y:Int):=by omega
 have S:IntKind.u64.wrap (x:Int)=(x:Int):=IntWalk.u64_in _ (by omega);have T:IntKind.u64.wrap (y:Int)=(y:Int):=IntWalk.u64_in _ (by omega);clear hx hy;have f:=jh w b F bs x 4 h (by decide) (by omega) (by omega);have ad:=gd f;clear f h;go_enter func43,ntmps43;go_wp2_with fail;refine ad.o.mono ?_;rintro e O ⟨rfl,I,C,v⟩;have j:=jh O b I _ y 4 C (by decide) (by omega) (by rw[zC,gJ];omega);have⟨ae,ac⟩:=gy j v;clear j C v;go_wp2_with fail;refine ae.o.mono ?_;rintro e R ⟨rfl,J,D,z⟩;have d:=gd (And.intro D (ac.o.trans z));clear D z;go_wp2;refine bodyPost_end (results_none rfl _ _ _) rfl ?_;exact⟨rfl,J,d.o.1,d.o.2⟩
theorem sS{p:gH}(d:p.Ok)(g o cap:Nat)(w:World):Calls prog 30 #[gN p g o cap] w λe f=>∃v F,e=.returned v/\mE f v F (gZ p.W p.H 8)/\gf [] w f/\∀x∈F,w.heap.size<=x:=by
 have h:=λf=>Nm p.W p.H 8 f d.w0 d.w1 d.h0 d.h1 (by decide) (by decide);unfold gN;have j:=gd h;clear h;go_enter func30,ntmps30;go_wp2_with fail;refine(j.o _).mono ?_;rintro e y ⟨v,F,rfl,t,r,hF⟩;go_wp2;go_ret;refine⟨v,F,rfl,t,((zR [] w).alloc _).tq r,λx hx=>?_⟩
 have:=hF x hx
 rw[iO]at this;omega
def kz(p:gH)(body:List Nat):List Nat:=iK (lE (body++iK (kw p)))
theorem sY(p:gH)(d:List Nat):(kz p d).length=4:=rfl
theorem vX{w:World}{p:gH}{B:Nat->Option Addr}{c:Nat->Nat}{G:List Nat}(cap:Nat)(h:gW w p g o B c G)(A:Option Addr)(C:Nat)(f:List Nat)(hc:gu b8 w A f)(hd:∀d∈f,d<256)(h0:0<f.length)(hl:f.length<=1099511627000):Calls prog 39 #[gN p g o cap,.slice A f.length C] w λe v=>∃g' cap',e=.returned (.slice (some ⟨g',0,none⟩) 4 cap')/\gv v 5 (.slice (some ⟨g',0,none⟩) 4 cap') g' ((kz p f).map b8)/\gf [] w v/\w.heap.size<=g':=by
 have T:∀v,gf [] w v->_:=λv hc'=>IR v A C f (hc.Y hc') h0 (by omega);have P:∀v,gf [] w v->_:=λv hc'=>KY cap (h.Y hc');have R:=λv=>EU (kw p) (rg h.ok) v;have X:∀d∈f++iK (kw p),d<256:=λd hd'=>by
  rcases zP.1 hd' with Y|Y
  .exact hd d Y
  .exact yR _ d Y
 have U:=tk X;have L:=λv=>EU (lE (f++iK (kw p))) U v;have E:=λv A' cap' hc'=>Bb v A' cap' (f++iK (kw p)) hc' X (by rw[zC];simp[iK];omega);have aP:=rg h.ok;have N:kz p f=iK (lE (f++iK (kw p))):=rfl;have⟨ds,an⟩:=zX (f++iK (kw p));have V:ds.length=f.length+4:=by rw[an,zC];rfl
 rw[<-an]at E N L U;have⟨S,hS⟩:=zX (kw p);have⟨S2,aB⟩:=zX (lE ds);rw[<-hS]at an P R aP;rw[<-aB]at E N L U;rw[N];have⟨n,hn⟩:=zX f.length;rw[<-hn]at T hl V⊢;have⟨n4,aA⟩:=zX ds.length;rw[<-aA]at E V;unfold gN at P⊢;have aT:IntKind.u64.wrap (S:Int)=(S:Int):=IntWalk.u64_in _ (by omega);have aQ:IntKind.u64.wrap (S2:Int)=(S2:Int):=IntWalk.u64_in _ (by omega);have⟨aH,HN,aI,aG⟩:=gz an hn aA T;have⟨aJ,aE,au,aD⟩:=gz P R L E;have D:gn (w.alloc (.cells #[p.W,p.H,p.d,.slice (some ⟨g,o,none⟩) p.P.length cap] 25)) w.heap.size 25 #[p.W,p.H,p.d,.slice (some ⟨g,o,none⟩) p.P.length cap]:=gn.new w _ _;have⟨w1,ar⟩:=zX (w.alloc (.cells #[p.W,p.H,p.d,.slice (some ⟨g,o,none⟩) p.P.length cap] 25));rw[<-ar]at D;have C1:=jD ar;have z:gf [] w w1.drew:=C1.drew;have aK:=gd ar
 have Q:∀wz,gf [] w1 wz->wz.cell? ⟨w.heap.size,0,none⟩=some (.int .i64 p.W)/\wz.cell? ⟨w.heap.size,1,none⟩=some (.int .i64 p.H)/\wz.cell? ⟨w.heap.size,2,none⟩=some (.int .i64 p.d)/\wz.cell? ⟨w.heap.size,3,none⟩=some (.slice (some ⟨g,o,none⟩) p.P.length cap):=λwz hz=>
  ⟨(D.Z hz (by simp)).X 0,(D.Z hz (by simp)).X 1,(D.Z hz (by simp)).X 2,(D.Z hz (by simp)).X 3⟩
 have y:gf [] w1 w1.drew:=(zR [] w1).drew;obtain⟨k0,k1,k2,k3⟩:=Q w1 (zR _ _);have HK:=gd Q;clear T P R L E an hn aA V X N ar D Q hS aB h hc hd h0;go_enter func39,ntmps39;go_wp2_with fail;rw[<-aK.o]
 go_region_held3 (λv=>v.cell? ⟨w.heap.size,0,none⟩=some (.int .i64 p.W)/\v.cell? ⟨w.heap.size,1,none⟩=some (.int .i64 p.H)/\v.cell? ⟨w.heap.size,2,none⟩=some (.int .i64 p.d)/\v.cell? ⟨w.heap.size,3,none⟩=some (.slice (some ⟨g,o,none⟩) p.P.length cap))
  (first|(go_keep;done)|exact HK.o _ O|exact HK.o _ (by first|exact y.tq r|exact y.tq j|exact(y.tq r).tq j|exact(y.tq j).tq r|exact(y.tq j).tq t|exact((y.tq r).tq j).tq t|exact((y.tq j).tq r).tq t|exact((y.tq j).tq t).tq r)|trivial)
  (first
   | (go_at_call 73;refine(aG.o _ (by first | exact z | exact z.tq j | exact(z.tq j).tq t)).mono ?_;rintro e w5 ⟨v5,g5,rfl,J,r,aN⟩)
   | (go_at_call 75;refine(aJ.o _ (by first | exact z | exact z.tq r)).mono ?_;rintro e w6 ⟨rfl,j⟩)
   | (go_at_call 74;refine(aE.o _).mono ?_;rintro e w7 ⟨g7,c7,rfl,K,t,aO⟩)
   | (refine nQ (by rfl) (by rfl) ku (by rfl) (by rfl) (((J.Z j (by simp)).Z t (by simp)).S) ((iK S).map b8) 4 (by rfl) (by rfl) (gv.cellsB K) (ni _) (by rw[zE,<-HN.o];simp[iK];omega) (by rw[zE,<-HN.o];simp[iK];omega) ?_;intro v8 F8 w8 I ad;have O:gf [] w1 w8 := (((y.tq r).tq j).tq t).trans ad.Z (λx hx=>.inr (by simp at hx;have := y.size;have := z.size;have := j.size;have := t.size;have := r.size;omega));have M:gh (gf [] w w8) := gd ((((z.tq r).tq j).tq t).trans ad.Z (λx hx=>.inr (by simp at hx;have := y.size;have := z.size;have := j.size;have := t.size;have := r.size;omega))))
   | (refine nQ (by rfl) (by rfl) ku (by rfl) (by rfl) ((J.Z t (by simp)).S) ((iK S).map b8) 4 (by rfl) (by rfl) (gv.cellsB K) (ni _) (by rw[zE,<-HN.o];simp[iK];omega) (by rw[zE,<-HN.o];simp[iK];omega) ?_;intro v8 F8 w8 I ad;have O:gf [] w1 w8 := (((y.tq j).tq r).tq t).trans ad.Z (λx hx=>.inr (by simp at hx;have := y.size;have := z.size;have := j.size;have := t.size;have := r.size;omega));have M:gh (gf [] w w8) := gd ((((z.tq j).tq r).tq t).trans ad.Z (λx hx=>.inr (by simp at hx;have := y.size;have := z.size;have := j.size;have := t.size;have := r.size;omega))))
   | (refine nQ (by rfl) (by rfl) ku (by rfl) (by rfl) (J.S) ((iK S).map b8) 4 (by rfl) (by rfl) (gv.cellsB (K.Z r (by simp))) (ni _) (by rw[zE,<-HN.o];simp[iK];omega) (by rw[zE,<-HN.o];simp[iK];omega) ?_;intro v8 F8 w8 I ad;have O:gf [] w1 w8 := (((y.tq j).tq t).tq r).trans ad.Z (λx hx=>.inr (by simp at hx;have := y.size;have := z.size;have := j.size;have := t.size;have := r.size;omega));have M:gh (gf [] w w8) := gd ((((z.tq j).tq t).tq r).trans ad.Z (λx hx=>.inr (by simp at hx;have := y.size;have := z.size;have := j.size;have := t.size;have := r.size;omega)))))
 all_goals
  have Z:=I;rw[<-zM,<-aH.o]at Z;obtain⟨A8,c8,rfl,aM,aR,aC⟩:=Z.oq;rw[<-aI.o]at aM⊢;have aF:=gd aC;clear I Z aC ad O J K r j t aN aO k0 k1 k2 k3 y z C1;go_wp2_with fail;refine gx (aD.o _ A8 c8 aF.o) ?_;go_wp2_with fail;refine(au.o _).mono ?_;rintro e w9 ⟨g9,c9,rfl,ao,aL,aS⟩;go_wp2;go_ret;exact⟨g9,c9,rfl,ao,M.o.tq aL,by have:=M.o.size;omega⟩
theorem uo{p:gH}(d:p.Ok)(g o cap:Nat)(w:World):Calls prog 20 #[gN p g o cap] w λe f=>∃v F,e=.returned v/\mE f v F (gZ p.W p.H 8)/\gf [] w f/\∀x∈F,w.heap.size<=x:=by
 have h:=λf=>Nb p.W p.H 8 f d.w0 d.w1 d.h0 d.h1 (by decide) (by decide);unfold gN;have j:=gd h;clear h;go_enter func20,ntmps20;go_wp2_with fail;refine(j.o _).mono ?_;rintro e y ⟨v,F,rfl,t,r,hF⟩;go_wp2;go_ret;refine⟨v,F,rfl,t,((zR [] w).alloc _).tq r,λx hx=>?_⟩
 have:=hF x hx
 rw[iO]at this;omega
def qC(p q:gH)(s:Sq)(m:Int × Int)(i:Nat):List (List Int):=(range i).map λk=>iM p q k s m
theorem H6(p q:gH)(s:Sq)(m:Int × Int)(i:Nat):qC p q s m (i+1)=qC p q s m i++[iM p q i s m]:=by simp[qC,range_succ]
def pj(p q:gH)(s:Sq)(m:Int × Int)(i:Nat):Bool:=(range i).all λk=>decide (gV q k s (0,0)=gV p k s m)
theorem Iy(p q:gH)(s:Sq)(m:Int × Int)(i:Nat):pj p q s m (i+1)=(pj p q s m i&&decide (gV q i s (0,0)=gV p i s m)):=by simp[pj,range_succ]
structure od (w0:World) (p q:gH) (s:Sq) (m:Int × Int) (n gD:Nat) (w:World) (i:Nat) (xs:List Value) (gs:List Nat):Prop where
 row:gv w 22 (.slice gD n n) gD (xs++replicate (n-i) (.slice none 0 0))
 pl:ke w xs (qC p q s m i) gs
 dg:gD∉gs
 new:∀x∈gD::gs,w0.heap.size<=x
 Z:gf [] w0 w
section
variable {w0 w wa:World} {p q:gH} {s:Sq} {m:Int × Int} {n gD i:Nat} {xs:List Value} {gs:List Nat}
theorem od.len(h:od w0 p q s m n gD w i xs gs):xs.length=i:=by rw[h.pl.lx];simp[qC]
theorem od.Y(h:od w0 p q s m n gD w i xs gs)(d:gf [] w wa):od w0 p q s m n gD wa i xs gs:=⟨h.row.Z d (by simp),h.pl.Y d,h.dg,h.new,h.Z.tq d⟩
theorem od.next(h:od w0 p q s m n gD w i xs gs)(hi:i<n){j:Nat}(v:gf [j] w wa)(E:w.heap.size<=j)(r:gv wa 3 u j ((iM p q i s m).map vi)):od w0 p q s m n gD (wa.setCell ⟨gD,i,none⟩ u) (i+1) (xs++[u]) (gs++[j]):=by
 have C:=h.len;have t:j≠gD:=λe=>by have:=h.row.lt;omega
 have y:j∉gs:=λf=>by have:=h.pl.lt j f;omega
 have D:gD∉[j]:=by simpa using t.symm
 have ad:gf [gD] wa (wa.setCell ⟨gD,i,none⟩ u):=(zR [gD] wa).zs i u;refine⟨?_,?_,?_,?_,?_⟩
 .have z:=(h.row.Z v D).T (i:=i) (by simp[C];omega) u
  have e:(xs++replicate (n-i) (Value.slice none 0 0)).set i u=(xs++[u])++replicate (n-(i+1)) (Value.slice none 0 0):=by
   rw[set_append_right _ _ (by omega),C,Nat.sub_self];rw[show n-i=(n-(i+1))+1 by omega,replicate_succ];simp
  rw[e]at z;exact z
 .rw[H6]
  refine((h.pl.Z v ?_).snoc r y).Z ad ?_
  .intro x d f
   simp at f;exact y (f ▸ d)
  .intro x d f
   simp at f;subst f;rcases zP.1 d with d|d
   .exact h.dg d
   .simp at d;exact t d.symm
 .intro f
  rcases zP.1 f with d|d
  .exact h.dg d
  .simp at d;exact t d.symm
 .intro x d
  have:=h.Z.size
  simp only[zJ,zP,not_mem_nil,or_false]at d;rcases d with rfl|d|rfl
  .exact h.new x (by simp)
  .exact h.new x (by simp[d])
  .omega
 .refine(h.Z.trans v λx d=>.inr ?_).setCell (.inr (h.new gD (by simp))) u
  have:=h.Z.size
  simp at d;omega
end
def k7(df now:List Int)(k:Nat):List Int:=df.take k++now.drop k
theorem Ep(h:df.length=now.length)(k:Nat):(k7 df now k).length=now.length:=by simp[k7];omega
theorem Eo(h:df.length=now.length)(d:k<now.length):(k7 df now k)[k]?=some (now.getD k 0):=by
 unfold k7;have e:(df.take k).length=k:=by rw[zI];omega
 rw[zS (by omega),e,Nat.sub_self,getElem?_drop,Nat.add_zero,zD,zF d];rfl
theorem Eq(h:df.length=now.length)(f:k<now.length)(v:Int)(d:df[k]?=some v):(k7 df now k).set k v=k7 df now (k+1):=by
 unfold k7;have j:(df.take k).length=k:=by rw[zI];omega
 have e:k<df.length:=by omega
 rw[set_append_right _ _ (by omega),j,Nat.sub_self,drop_eq_getElem_cons f,set_cons_zero,take_succ_eq_append_getElem e,zH];rw[zF e]at d;injection d with d;rw[d];rfl
theorem Kj{p q:gH}{i:Nat}{s:Sq}{m:Int × Int}(f:k<s.h*s.w):(iM p q i s m)[k]?=some (iw ((gV q i s (0,0)).getD k 0-(gV p i s m).getD k 0) q.d):=by
 unfold iM oK;rw[List.getElem?_zipWith];have d:k<(gV q i s (0,0)).length:=by rw[ka];exact f
 have e:k<(gV p i s m).length:=by rw[ka];exact f
 rw[zF d,zF e,zD,zD,zF d,zF e];rfl
def AD(w:World)(b:Nat)(F bs ts:List Nat)(e:Ending)(w':World):Prop:=e=.returned (.tuple #[])/\∃F',hJ w' b F' (bs++ts)/\gB F F' w w'
theorem Il{w:World}{p q:gH}{B:Nat->Option Addr}{c:Nat->Nat}{G:List Nat}(cap:Nat)(h:gW w p g o B c G){B':Nat->Option Addr}{c':Nat->Nat}{G':List Nat}(cap':Nat)(h':gW w q g' o' B' c' G')(ha:jv p q)(s:Sq)(m:Int × Int)(hs:lT p.W p.H s)(r:iB p.W p.H s m)(sw0:1<=s.w)(sw1:s.w<=8)(sh0:1<=s.h)(sh1:s.h<=8)(b:Nat)(F bs:List Nat)(hw:hJ w b F bs)(hp:jJ w)(h0F:0∉F)(hbs:bs.length<17179869184):Calls prog 36 #[.pointer (some ⟨b,0,none⟩),gN p g o cap,gN q g' o' cap',iV s,m.1,m.2] w (AD w b F bs (kA p q s m)):=by
 have bA:=h.ok;have ae:=h'.ok;have cz:s.x<=64:=by have:=hs.x;have:=bA.w1;omega
 have cC:s.y<=64:=by have:=hs.y;have:=bA.h1;omega
 have bx:=r.fit;have bX:∀w',gf [] w w'->∀i,i<q.P.length->_:=λw' hc i hi=>tv cap (h.Y hc) i (by rw[ha.n];exact hi) s m bx.x0 bx.x1 bx.y0 bx.y1 cz cC;have bo:=hs.fit;have aV:∀w',gf [] w w'->∀i,i<q.P.length->_:=λw' hc i hi=>tv cap' (h'.Y hc) i hi s (0,0) bo.x0 (by rw[<-ha.W];exact bo.x1) bo.y0 (by rw[<-ha.H];exact bo.y1) cz cC;have⟨n,hn⟩:=zX q.P.length;have⟨M,hM⟩:=zX (s.h*s.w);have dS:M<=64:=by rw[hM];exact zL sh1 sw1
 have dC:0<M:=by rw[hM];exact Nat.mul_pos sh0 sw0
 have dX:n<=4:=by rw[hn];exact ae.n1
 have ax:∀i,(gV q i s (0,0)).length=M:=λi=>by rw[ka,hM]
 have ay:∀i,(gV p i s m).length=M:=λi=>by rw[ka,hM]
 have az:∀i,(iM p q i s m).length=M:=λi=>by rw[q7,hM,zY]
 have ao:∀i,i<q.P.length->gU q.d (gV q i s (0,0)):=λi hi=>oA h'.ok hi s (0,0);have ap:∀i,i<q.P.length->gU q.d (gV p i s m):=λi hi=>by rw[<-ha.d];exact oA h.ok (by rw[ha.n];exact hi) s m
 have aR:∀i,gU q.d (iM p q i s m):=λi=>uu _ _ _;have Y:∀i k,k<M->_:=λi k I=>Kj (p:=p) (q:=q) (i:=i) (s:=s) (m:=m) (k:=k) (by rw[<-hM];exact I);have cy:∀v w,_:=λv w=>vd v q.d w ae.d0 ae.d1;have bP:=ae.d0;have bQ:=ae.d1;have⟨d,hd⟩:=zX q.d;rw[<-hd]at ao ap aR cy bP bQ;rw[<-hn]at bX aV ao ap;unfold gN iV at bX aV⊢;rw[<-hd]at aV⊢;rw[<-hn]at aV⊢;have⟨w1,Q⟩:=zX ((((w.alloc (.cells #[p.W,p.H,p.d,.slice (some ⟨g,o,none⟩) p.P.length cap] 25)).alloc (.cells #[q.W,q.H,d,.slice (some ⟨g',o',none⟩) n cap'] 25)).alloc (.cells #[s.x,s.y,s.w,s.h] 49)));have be:gn w1 w.heap.size 25 #[p.W,p.H,p.d,.slice (some ⟨g,o,none⟩) p.P.length cap]:=by rw[Q];exact((gn.new w _ _).alloc _).alloc _
 have bf:gn w1 (w.heap.size+1) 25 #[q.W,q.H,d,.slice (some ⟨g',o',none⟩) n cap']:=by rw[Q];exact(gn.new2 w _ _ _).alloc _
 have bg:gn w1 (w.heap.size+1+1) 49 #[s.x,s.y,s.w,s.h]:=by rw[Q];exact gn.new3 w _ _ _ _
 have bM:gh (gf [] w w1):=gd (by rw[Q];exact(((zR [] w).alloc _).alloc _).alloc _);have cW:w1.heap.size=w.heap.size+1+1+1:=by rw[Q,iO,iO,iO]
 have aL:∀(E:List Nat) wr,gf E w1 wr->w.heap.size∉E->w.heap.size+1∉E->w.heap.size+1+1∉E->(wr.cell? ⟨w.heap.size,0,none⟩=some (.int .i64 p.W)/\wr.cell? ⟨w.heap.size,1,none⟩=some (.int .i64 p.H)/\wr.cell? ⟨w.heap.size,2,none⟩=some (.int .i64 p.d)/\wr.cell? ⟨w.heap.size,3,none⟩=some (.slice (some ⟨g,o,none⟩) p.P.length cap)) /\
   (wr.cell? ⟨w.heap.size+1,0,none⟩=some (.int .i64 q.W)/\wr.cell? ⟨w.heap.size+1,1,none⟩=some (.int .i64 q.H)/\wr.cell? ⟨w.heap.size+1,2,none⟩=some (.int .i64 d)/\wr.cell? ⟨w.heap.size+1,3,none⟩=some (.slice (some ⟨g',o',none⟩) n cap')) /\
   (wr.cell? ⟨w.heap.size+1+1,0,none⟩=some (.int .i64 s.x)/\wr.cell? ⟨w.heap.size+1+1,1,none⟩=some (.int .i64 s.y)/\wr.cell? ⟨w.heap.size+1+1,2,none⟩=some (.int .i64 s.w)/\wr.cell? ⟨w.heap.size+1+1,3,none⟩=some (.int .i64 s.h)):=λE wr hc C D e3=>
  ⟨⟨(be.Z hc C).X 0,(be.Z hc C).X 1,(be.Z hc C).X 2,(be.Z hc C).X 3⟩,⟨(bf.Z hc D).X 0,(bf.Z hc D).X 1,(bf.Z hc D).X 2,(bf.Z hc D).X 3⟩,⟨(bg.Z hc e3).X 0,(bg.Z hc e3).X 1,(bg.Z hc e3).X 2,(bg.Z hc e3).X 3⟩⟩
 have dW:=lp (P:=prog) uW rfl .i64 .i64 n (by omega) (by omega);have cS:od w1 p q s m n w1.heap.size (w1.alloc (.cells (replicate n (Value.slice none 0 0)).toArray 22)) 0 [] []:=by
  refine⟨?_,ke.nil _,by simp,by simp,(zR [] w1).alloc _⟩
  have:=gv.made w1 22 (replicate n (.slice none 0 0)) (by simp[maxLen];omega)
  simpa using this
 have bI:=hw.Y bM.o;have bW:=hw.lt;have⟨dv,a6,HP,al⟩:=gz bI bW hp aL;have⟨dr,ds,HZ,dh⟩:=gz cS Q cW bX;have⟨dg,cF,db,cd⟩:=gz aV ax ay az;have⟨dk,dl,dm,c2⟩:=gz ao ap aR Y;have⟨du,dd⟩:=gy cy r;have X:gh (n=q.P.length/\d=q.d/\M=s.h*s.w):=gd ⟨hn,hd,hM⟩;obtain⟨dI,dJ⟩:=jl bP bQ;obtain⟨⟨a0,a1,a2,a3⟩,⟨b0,b1,b2,b3⟩,⟨s0,s1,s2,s3⟩⟩:=aL [] w1 (zR _ _) (by simp) (by simp) (by simp);clear bX aV ax ay az ao ap aR Y cy hn hd hM Q be bf bg aL cS bI bW hp hw bA ae bx bo h h' ha hs r cz cC cW;go_enter func36,ntmps36;go_wp2_with fail;have⟨gD,cr⟩:=zX w1.heap.size;have⟨w2,cx⟩:=zX (w1.alloc (.cells (Array.replicate n (Value.slice none 0 0)) 22));have cE:gh (gD=w.heap.size+1+1+1):=gd (by rw[cr,HZ.o]);have bG:od w1 p q s m n gD w2 0 [] []:=by
  have:=dr.o
  rw[toArray_replicate]at this;rw[cr,cx];exact this
 have ch:=gd bG;rw[<-ds.o,<-cx,<-cE.o];clear cr bG cx
 go_loopg [13,14,15,16,17,26] n (λj v13 v14 v15 v16 v17 v26 wr=>∃(i:Nat) (xs:List Value) (gs:List Nat),v26=.int .i64 i/\i+j=n/\v13=.bool (pj p q s m i)/\gh (od w1 p q s m n gD wr i xs gs))
 .exact⟨0,[],[],rfl,by omega,rfl,ch⟩
 obtain⟨i,xs,gs,rfl,dV,rfl,f⟩:=hrel;rcases gk with _|j
 .obtain rfl:i=n:=by omega
  have t1:decide (i<i)=false:=by simp
  have cu:pj p q s m i=p9 p q s m:=by rw[X.o.1];rfl
  have⟨z,hz⟩:=zX (pj p q s m i);rw[<-hz]at cu⊢;have bA:=dd.o;obtain⟨m1,m2,m3,m4,_⟩:=bA;obtain⟨C,cN⟩:∃C:Nat,m.1+4=(C:Int):=⟨(m.1+4).toNat,by omega⟩;obtain⟨D,cO⟩:∃D:Nat,m.2+4=(D:Int):=⟨(m.2+4).toNat,by omega⟩;have dQ:C<=8:=by omega
  have dR:D<=8:=by omega
  have bH:kC m=gA C 4++gA D 4:=by
   unfold kC;rw[cN,cO];rfl
  have u1:IntKind.u64.wrap (C:Int)=(C:Int):=IntWalk.u64_in _ (by omega);have u2:IntKind.u64.wrap (D:Int)=(D:Int):=IntWalk.u64_in _ (by omega);have bl:gf [] w wr:=bM.o.tq f.o.Z;have aX:=dv.o.Y f.o.Z;have bh:kA p q s m=if z=true then(if m=(0,0)then gA 0 2 else gA 1 2++kC m)else gA 2 2++(kC m++jq p q s m q.P.length):=by rw[cu];rfl
  have T:=λk=>tK p q (s:=s) m sw0 sh0 sw1 sh1 (by rw[<-X.o.2.1];exact bP) (by rw[<-X.o.2.1];exact bQ) k;have⟨dP,a9,ag,b9⟩:=gz bh bH bl T;have aI:z=true->m.1=0->m.2=0->kA p q s m=gA 0 2:=λa b c=>by rw[bh,if_pos a,if_pos (Prod.ext b c)]
  have aF:z=true->¬(m.1=0/\m.2=0)->kA p q s m=gA 1 2++kC m:=λa b=>by rw[bh,if_pos a,if_neg (λe=>b (by rw[e];exact⟨rfl,rfl⟩))]
  have aw:z=false->kA p q s m=gA 2 2++(kC m++jq p q s m q.P.length):=λa=>by rw[bh,if_neg (by rw[a];simp)]
  have⟨ba,a8,a5⟩:=gS aI aF aw;clear bh bH bl T aI aF aw hz cu m1 m2 m3 m4
  cases z with
  | true=>
   by_cases c1:m.1=0/\m.2=0
   .have S:=ba.o rfl c1.1 c1.2
    have cX:(m.1==0)=true:=(by simpa using c1.1);have dO:(m.2==0)=true:=(by simpa using c1.2);have t:=i8 wr b F bs 0 2 aX (by decide) (by decide) (by omega);have aZ:=gd S;clear c1 aX S cN cO;go_wp2_with fail;refine t.mono ?_;rintro e w3 ⟨rfl,F3,aW,aU⟩;go_wp2_with fail;refine bodyPost_ret (results_none rfl _ _ _) rfl ?_;exact⟨rfl,F3,by rw[aZ.o];exact aW,gB.pre ag.o aU⟩
   .have S:=a8.o rfl c1
    have t:=i8 wr b F bs 1 2 aX (by decide) (by decide) (by omega);have aZ:=gd S;have cD:(m.1==0)=false\/((m.1==0)=true/\(m.2==0)=false):=by
     by_cases q1:m.1=0
     .right
      exact⟨by simpa using q1,by simpa using λq2=>c1 ⟨q1,q2⟩⟩
     .left;simpa using q1
    clear c1 aX S;rcases cD with cX|⟨cX,dO⟩
    all_goals
     go_wp2_with fail;refine t.mono ?_;rintro e w3 ⟨rfl,F3,aW,aU⟩;have N:=i8 w3 b F3 _ C 4 aW (by decide) (by omega) (by rw[zC,gJ];omega);go_wp2_with fail;refine N.mono ?_;rintro e U ⟨rfl,F4,bY,bS⟩;have bB:=i8 U b F4 _ D 4 bY (by decide) (by omega) (by rw[zC,zC,gJ,gJ];omega);clear N t;go_wp2_with fail;refine bB.mono ?_;rintro e w5 ⟨rfl,F5,bZ,Z⟩;clear bB;go_wp2_with fail;refine bodyPost_ret (results_none rfl _ _ _) rfl ?_;exact⟨rfl,F5,by rw[aZ.o,a9.o];simpa only[zH]using bZ,gB.pre ag.o ((aU.trans bS).trans Z)⟩
  | false=>
   have S:=a5.o rfl;have t:=i8 wr b F bs 2 2 aX (by decide) (by decide) (by omega);have aZ:=gd S;have br:gD∉F:=λr=>by have:=a6.o gD r;have:=cE.o;omega
   have aE:∀k,k<i->∃gk ck,wr.cell? ⟨gD,k,none⟩=some (.slice (some ⟨gk,0,none⟩) M ck)/\gv wr 3 (.slice (some ⟨gk,0,none⟩) M ck) gk ((iM p q k s m).map vi)/\gk∉F:=by
    intro k I;have hP:(qC p q s m i)[k]?=some (iM p q k s m):=(by unfold qC;rw[zW,getElem?_range I];rfl);obtain⟨u,gk,h1,h2,h3⟩:=f.o.pl.row k _ hP;obtain⟨ck,rfl,_⟩:=h3.oq;rw[cd.o k]at h1 h3;obtain⟨_,-,-,-,J,-⟩:=f.o.row.open_;have dH:k<xs.length:=(by rw[f.o.len];exact I);refine⟨gk,ck,?_,h3,λr=>?_⟩
    .rw[J k (by rw[zC];omega),getElem?_append_left dH,h1]
    .have h4:=a6.o gk r
     have h5:=f.o.new gk (mem_cons_of_mem _ (mem_of_getElem? h2));have h6:=HZ.o;omega
   have⟨a7,cb⟩:=gy aE br;have bu:=f.o.row.lt;have cc:=gd bu;have cI:0<w.heap.size:=HP.o.lt;have⟨H0,dn⟩:=gy cI f.o.Z;obtain⟨cY,rfl⟩:=zX wr;clear aX S aE br bu cI;go_wp2_with fail;refine t.mono ?_;rintro e w3 ⟨rfl,F3,aW,aU⟩;have N:=i8 w3 b F3 _ C 4 aW (by decide) (by omega) (by rw[zC,gJ];omega);go_wp2_with fail;refine N.mono ?_;rintro e U ⟨rfl,F4,bY,bS⟩;have bB:=i8 U b F4 _ D 4 bY (by decide) (by omega) (by rw[zC,zC,gJ,gJ];omega);clear N t;go_wp2_with fail;refine bB.mono ?_;rintro e w5 ⟨rfl,F5,bZ,Z⟩;have dt:gh (hJ w5 b F5 (bs++(gA 2 2++(kC m++jq p q s m 0)))):=gd (by
    have e0:jq p q s m 0=[]:=rfl;rw[a9.o,e0]
    simpa only[zH,append_nil]using bZ)
   have V:=gd ((aU.trans bS).trans Z);clear bB aW bY bZ aU bS Z;go_wp2_with fail
   go_loopg [19,102] i (λj2 v19 v102 wr3=>∃(k:Nat) (F6:List Nat),v102=.int .i64 k/\k+j2=i/\gh (hJ wr3 b F6 (bs++(gA 2 2++(kC m++jq p q s m k))))/\gh (gB F F6 cY wr3))
   .exact⟨0,F5,rfl,by omega,dt,V⟩
   obtain⟨k,F6,rfl,dG,cG,R⟩:=hrel;rcases gk with _|j2
   .obtain rfl:k=i:=by omega
    have t2:decide (k<k)=false:=(by simp);go_wp2_with fail;refine bodyPost_ret (results_none rfl _ _ _) rfl ?_;refine⟨rfl,F6,?_,gB.pre ag.o R.o⟩;rw[aZ.o,<-X.o.1];exact cG.o
   .have I:k<i:=by omega
    have t2:decide (k<i)=true:=zB I;obtain⟨gk,ck,bj,aQ,aP⟩:=a7.o k I;have bw:=aQ.lt;have dE:wr.cell? ⟨gD,k,none⟩=some (.slice (some ⟨gk,0,none⟩) M ck):=(World.cell?_of_block (w:=cY) (R.o.Z.block gD cc.o cb.o)).trans bj;have O:=aQ.Z R.o.Z aP;have bv:gk∉F6:=R.o.o bw aP;have⟨l,hl⟩:=zX (iM p q k s m);have bV:=cd.o k;have ct:=dm.o k;rw[<-hl]at bV ct O;have ah:gu vi wr (some ⟨gk,0,none⟩) l:=by
     have bW:=O.lt;obtain⟨_,_,_,_,J,_⟩:=O.oq;exact⟨λ_=>⟨gk,0,rfl,bW,λa x hx=>by rw[Nat.zero_add];exact J a x hx⟩⟩
    have aG:ir wr l (some ⟨gk,0,none⟩) s.w s.h d:=⟨sw0,by omega,sh0,by omega,bP,bQ,by rw[bV,X.o.2.2,zY],ct,ah⟩;have cR:=(HP.o.Y ag.o).Z R.o.Z h0F;have cH:0∉F6:=R.o.o (Nat.lt_of_lt_of_le H0.o ag.o.size) h0F;have T:=b9.o k;have t:=Oh ck aG cR b F6 _ cG.o (J7 bv) cH (by rw[zC,zC,zC,gJ,qU];omega);rw[bV]at t;unfold kV at t;have bz:(bs++(gA 2 2++(kC m++jq p q s m k)))++iz (kh l s.w s.h d) l s.w s.h d=bs++(gA 2 2++(kC m++jq p q s m (k+1))):=by
     rw[rX,hl,X.o.2.1];simp only[zH,my]
    rw[bz]at t;have bm:gf F w1 wr:=(dn.o.mono (by simp)).trans R.o.Z (λx hx=>.inl hx);obtain⟨-,⟨-,-,b2,-⟩,⟨-,-,s2,s3⟩⟩:=al.o F wr bm (λr=>by have:=a6.o _ r;omega) (λr=>by have:=a6.o _ r;omega) (λr=>by have:=a6.o _ r;omega);have ce:=gd t;clear t bz bm cR aG ah O aQ bj bV ct hl T bv aP bw cH;go_wp2_with fail;refine ce.o.mono ?_;rintro e w7 ⟨rfl,F7,dL,dF⟩;go_wp2_with fail
    go_roundg j2
    .exact⟨k+1,F7,by go_num,by omega,gd dL,gd (R.o.trans dF)⟩
    .omega
 .have hi:i<n:=by omega
  have t1:decide (i<n)=true:=zB hi;obtain⟨bL,rfl⟩:=zX wr;obtain⟨⟨a0,a1,a2,a3⟩,⟨b0,b1,b2,b3⟩,⟨s0,s1,s2,s3⟩⟩:=al.o [] bL f.o.Z (by simp) (by simp) (by simp);have cQ:=dh.o bL (bM.o.tq f.o.Z) i hi;have⟨z,hz⟩:=zX (pj p q s m i);rw[<-hz];have dx:=gd hz;clear hz;go_wp2_with fail;refine cQ.mono ?_;rintro e U ⟨v4,F4,rfl,bJ,ci,dB⟩;have ab:=gd (f.o.Z.tq ci);have N:=dg.o U (bM.o.tq ab.o) i hi;clear cQ a0 a1 a2 a3 b0 b1 b2 b3 s0 s1 s2 s3;obtain⟨⟨a0,a1,a2,a3⟩,⟨b0,b1,b2,b3⟩,⟨s0,s1,s2,s3⟩⟩:=al.o [] U ab.o (by simp) (by simp) (by simp);go_wp2_with fail;refine N.mono ?_;rintro e w5 ⟨v5,F5,rfl,bK,bb,cM⟩;have⟨b6,a4⟩:=gy (ab.o.tq bb) ((zR [] bL).tq ci);clear N a0 a1 a2 a3 b0 b1 b2 b3 s0 s1 s2 s3;obtain⟨A4,c4,rfl,cJ,dy,bi⟩:=bJ.oq;have⟨aY,af⟩:=zX (gV p i s m);have⟨ak,ac⟩:=zX (gV q i s (0,0));have L:=db.o i;have K:=cF.o i;rcases bK.cases with⟨_,he,_⟩|⟨g5,aj,bc⟩
  .exfalso
   have:=cF.o i
   rw[List.map_eq_nil_iff.1 he]at this;simp at this;omega
  have bC:=aj;obtain⟨c5,rfl,cK,dz,bk,cp⟩:=aj.oq;have Z:U.heap.size<=g5:=cM g5 (by rw[bc];simp);have cj:gu vi w5 (some ⟨g5,0,none⟩) (gV q i s (0,0)):=⟨λ_=>⟨g5,0,rfl,bC.lt,λk a I=>by rw[Nat.zero_add];exact bk k a I⟩⟩;rw[<-af]at L bi cJ;rw[<-ac]at K cj cK bC;rw[<-af,<-ac,L,K];rw[L]at cJ;rw[K]at cK bC;have cw:=dl.o i hi;have cv:=dk.o i hi;rw[<-af]at cw;rw[<-ac]at cv;have cq:=Iy p q s m i;rw[<-dx.o,<-ac,<-af]at cq;have bn:=IZ w5 (some ⟨g5,0,none⟩) A4 c5 c4 ak aY cj (bi.Y bb) (by rw[L,K]) (by rw[K];omega);rw[K,L]at bn;have⟨c7,c6,dc,bO⟩:=gz af ac L K;have⟨dq,dp,c8,dj⟩:=gz cw cv (bi.Y bb) bC;have⟨V,c3⟩:=gy Z cq;have cL:∀ad,A4=some ad->ad.block<U.heap.size:=λad e=>by
   obtain⟨b0,o0,e0,dD,_⟩:=bi.ex (by rw[L];exact dC);rw[e]at e0;injection e0 with e0;subst e0;exact dD
  have⟨cZ,b4⟩:=gy cL bb;clear af ac L K cw cv bi cj aj bC dy dz bk cp bc bJ bK ci bb dB cM cq cL Z;have⟨eq,aN⟩:=zX (decide (ak=aY));rw[<-aN]at bn;have ai:=c3.o;rw[<-aN]at ai;clear aN;rcases(show z=false\/z=true by cases z<;>simp)with rfl|rfl;have aq:gh (pj p q s m (i+1)=false):=gd (by rw[ai];rfl);obtain⟨w6,rfl⟩:=zX w5;have aT:gf [] w6 w6:=zR _ _;clear bn ai;go_wp2_with fail;rotate_left;have aq:gh (pj p q s m (i+1)=eq):=gd (by rw[ai];cases eq<;>rfl);clear ai;go_wp2_with fail;refine bn.mono ?_;rintro e w6 ⟨rfl,aT⟩;clear bn;rotate_left
  all_goals
   have b5:=gd (b4.o.tq aT);have co:(iM p q i s m).length=ak.length:=(by rw[cd.o,bO.o]);have⟨df,cn⟩:=zX (iM p q i s m);have Y:=c2.o i;rw[<-cn]at co Y;rw[<-c6.o,<-c7.o,<-X.o.2.1]at Y;have bE:gv w6 3 (.slice g5 M c5) g5 ((k7 df ak 0).map vi):=by
    have h1:=dj.o.Z aT (by simp)
    simpa[k7]using h1
   have⟨di,b7,c0,am⟩:=gz bE (b6.o.tq aT) cn co;have⟨ca,c9⟩:=gy Y (c8.o.Y aT);clear bE cn co Y aT;go_wp2_with fail
   go_loopg [17,47] M (λj2 v17 v47 wr2=>∃k:Nat,v47=.int .i64 k/\k+j2=M/\gh (gv wr2 3 (.slice g5 M c5) g5 ((k7 df ak k).map vi))/\gh (gf [g5] w6 wr2))
   .exact⟨0,rfl,by omega,di,gd (zR _ _)⟩
   obtain⟨k,rfl,dG,cf,bN⟩:=hrel;rcases gk with _|j2
   .obtain rfl:k=M:=by omega
    have t2:decide (k<k)=false:=(by simp);have O:=cf.o;rw[show k7 df ak k=iM p q i s m by
     rw[<-c0.o];unfold k7;rw[zT (by rw[am.o,bO.o];exact zQ _),drop_of_length_le (by rw[bO.o];exact zQ _),append_nil]]at O
    have cm:gf [g5] bL wr:=(((a4.o.tq b5.o).mono (by simp)).trans bN.o (λx hx=>.inl hx));have bq:bL.heap.size<=g5:=Nat.le_trans a4.o.size V.o;have hD:gD∉[g5]:=(by have:=f.o.row.lt;simp;omega);have bD:=f.o.row.Z cm hD;obtain⟨_,-,-,-,J,bp⟩:=bD.open_;have dE:wr.cell? ⟨gD,i,none⟩=some (.slice none 0 0):=by
     rw[J i (by rw[zC,f.o.len,zV];omega),zS (by rw[f.o.len];exact zQ _),f.o.len,Nat.sub_self,getElem?_replicate,if_pos (by omega)]
    have dT:=bp i;have bz:=f.o.next hi cm bq O;have de:=gd bz;clear O cm hD bD J bp bz bq;go_wp2_with fail
    go_roundg j
    .exact⟨i+1,_,_,by go_num,by omega,by rw[aq.o],de⟩
    .omega
   .have I:k<M:=by omega
    have bT:k<ak.length:=(by rw[bO.o];exact I);have cs:k<aY.length:=(by rw[dc.o];exact I);have cP:=Eo am.o bT;obtain⟨_,-,-,-,J,bp⟩:=cf.o.oq;have T:=J k _ cP;have dU:=bp k;have bd:gM A4 aY [g5]:=λ_ ad e r=>by have:=cZ.o ad e;have:=V.o;simp at r;omega
    obtain⟨ga,oa,dA,cl⟩:=(c9.o.Q bd bN.o).at_ cs;subst dA;have⟨x,hx⟩:=zX (ak.getD k 0);have⟨y,hy⟩:=zX (aY.getD k 0);have cV:aY[k]=y:=(by rw[hy,zD,zF cs];rfl);rw[cV]at cl;rw[<-hx]at T;have cA:wr.cell? ⟨ga,oa+k,none⟩=some (.int .i64 y):=cl;have cB:wr.cell? ⟨g5,k,none⟩=some (.int .i64 x):=T;obtain⟨dM,cT⟩:=nB dp.o k;obtain⟨dN,cU⟩:=nB dq.o k;rw[<-hx]at dM cT;rw[<-hy]at dN cU;have dY:x<65536:=(by omega);have dZ:y<65536:=(by omega);have bR:=ca.o k I;rw[<-hx,<-hy]at bR;have aS:=du.o (x-y);have⟨v,hv⟩:=zX (iw (x-y) d);rw[<-hv]at bR aS;have dw:gh (∀w,Calls prog 69 #[.int .i64 (x-y),d] w λe w'=>e=.returned (.int .i64 v)/\w'=w):=gd (λw=>(aS w).mono λe w' h=>⟨h.1,h.2.symm⟩);have Q:IntKind.i64.wrap (x-y)=x-y:=IntWalk.i64_in _ (by omega);have bm:gf [g5] w1 wr:=((b7.o.mono (F':=[g5]) (by simp))).trans bN.o (λx hx=>.inl hx);have b2:=(al.o [g5] wr bm (by have:=V.o;have:=ab.o.size;have:=HZ.o;simp;omega) (by have:=V.o;have:=ab.o.size;have:=HZ.o;simp;omega) (by have:=V.o;have:=ab.o.size;have:=HZ.o;simp;omega)).2.1.2.2.1;have bF:=Eq am.o bT v bR;have⟨cg,da⟩:=gy bF bT;clear T cl hx hy cV bR aS hv bm bF J bp cP bd bT cs cT cU;go_wp2_with fail;refine jE 15 (by kernel_rfl) (by kernel_rfl) ?_;simp only[take_succ_cons,take_zero,drop_succ_cons,drop_zero]
    repeat(go_big_quiet_step ((go_at_call 69;exact Calls.quiet_of_same (dw.o _))))
    refine wpQuiet_nil ?_;intro _ dK;obtain⟨nq,rfl⟩:=dK;go_wp2_with fail
    go_roundg j2
    .refine⟨k+1,by go_num,by omega,gd ?_,gd ((bN.o.drewN nq).setCell (p:=⟨g5,k,none⟩) (.inl (by simp)) _)⟩
     have h1:=(cf.o.drewN nq).T (i:=k) (by rw[zE,Ep am.o];exact da.o) (.int .i64 v);have e:((k7 df ak k).map vi).set k (.int .i64 v)=(k7 df ak (k+1)).map vi:=(by rw[<-cg.o,map_set];rfl);rw[e]at h1;exact h1
    .omega
def lu(m:Int × Int):List Value:=[.int .i64 m.1,.int .i64 m.2]
theorem sk:∀(ms:List (Int × Int)) (i:Nat),i<ms.length->(ms.flatMap lu)[i*2]?=some (.int .i64 (ms.getD i (0,0)).1)/\(ms.flatMap lu)[i*2+1]?=some (.int .i64 (ms.getD i (0,0)).2)
 | [],i,h=>by simp at h
 | m::ms,0,_=>⟨rfl,rfl⟩
 | m::ms,i+1,h=>by
  obtain⟨a,b⟩:=sk ms i (by simpa using h);have d:(lu m).length=2:=rfl;rw[flatMap_cons];refine⟨?_,?_⟩
  .rw[zS (by omega),d,show(i+1)*2-2=i*2 by omega,a];rfl
  .rw[zS (by omega),d,show(i+1)*2+1-2=i*2+1 by omega,b];rfl
theorem tB(ms:List (Int × Int)):(ms.flatMap lu).length=ms.length*2:=by
 induction ms with
 | nil=>rfl
 | cons m ms ih=>rw[flatMap_cons,zC,ih,zK];simp only[lu,zK,length_nil];omega
theorem Gt(p q:gH)(s:Sq)(m:Int × Int):2<=(kA p q s m).length:=by
 unfold kA;split
 .split
  .rw[gJ];omega
  .rw[zC,gJ];omega
 .rw[zC,gJ];omega
theorem tS(p q:gH)(ss:List Sq)(ms:List (Int × Int)):∀n,2*n<=(iD p q ss ms n).length
 | 0=>by simp
 | n+1=>by
  have d:=tS p q ss ms n;have e:=Gt p q (gC ss n) (ms.getD n (0,0));rw[qg,zC];omega
def mS(p q:gH)(ms:List (Int × Int)):List Nat:=iE (kT (iD p q (gZ q.W q.H 8) ms (gZ q.W q.H 8).length))
def jy(p q:gH)(ms:List (Int × Int)):List Nat:=mS p q ms++kz p (mS p q ms)
def pU(p q:gH)(ms:List (Int × Int)):Prop:=∀b∈iD p q (gZ q.W q.H 8) ms (gZ q.W q.H 8).length,b<2
theorem ox(d:W<=64)(hH:H<=64):(gZ W H 8).length<=4096:=by
 have e:=yu W H 8;have f:H*W<=64*64:=zL hH d;omega
theorem FQ{w:World}{p q:gH}{B:Nat->Option Addr}{c:Nat->Nat}{G:List Nat}(cap:Nat)(h:gW w p g o B c G){B':Nat->Option Addr}{c':Nat->Nat}{G':List Nat}(cap':Nat)(h':gW w q g' o' B' c' G')(ha:jv p q)(hp:jJ w)(AM:Option Addr)(capM:Nat)(ms:List (Int × Int))(hM:gu (λv=>v) w AM (ms.flatMap lu))(hml:ms.length=(gZ q.W q.H 8).length)(D:∀i,i<ms.length->iB p.W p.H (gC (gZ q.W q.H 8) i) (ms.getD i (0,0))):Calls prog 18 #[gN p g o cap,gN q g' o' cap',.slice AM ms.length capM] w λe d=>∃v G9,e=.returned (.tuple #[v,(0:Int)])/\gE d 5 v G9 ((jy p q ms).map b8)/\gf [] w d/\(∀x∈G9,w.heap.size<=x)/\pU p q ms:=by
 have aN:=h.ok;have I:=h'.ok;have N:=λd (f:gf [] w d)=>sD cap (h.Y f) cap' (h'.Y f) ha;have aQ:=λd=>sS I g' o' cap' d;have⟨ss,ap⟩:=zX (gZ q.W q.H 8);have aR:∀s∈ss,1<=s.w/\s.w<=8/\1<=s.h/\s.h<=8:=by rw[ap];exact pQ (by decide)
 have aw:∀s∈ss,lT p.W p.H s:=λs hs=>by
  rw[ap]at hs;obtain⟨a,b⟩:=o3 (by decide) s hs;exact⟨by rw[ha.W];exact a,by rw[ha.H];exact b⟩
 have cd:ss.length<=4096:=by rw[ap];exact ox I.w1 I.h1
 rw[<-ap]at hml D aQ;have⟨n,hn⟩:=zX ss.length;have Y:=r7 p q (ss:=ss) ms aR I.d0 I.d1 I.n1;have ck:0<n:=by
  rcases eq_zero_or_pos n with V|V
  .exfalso
   have X:=sE (w:=q.W) (h:=q.H) (s:=8) (by decide);rw[<-ap,eq_nil_of_length_eq_zero (show ss.length=0 by omega)]at X;have h2:=I.pos;simp[area]at X;omega
  .exact V
 obtain⟨r,y,rfl,bf,bb⟩:=hM.ex (by rw[tB];omega);have bH:∀i,i<n->w.cell? ⟨r,y+i*2,none⟩=some (.int .i64 (ms.getD i (0,0)).1)/\w.cell? ⟨r,y+i*2+1,none⟩=some (.int .i64 (ms.getD i (0,0)).2):=λi hi=>by
  obtain⟨a,b⟩:=sk ms i (by omega);exact⟨bb _ _ a,by have:=bb _ _ b;rwa [<-Nat.add_assoc]at this⟩
 have K:∀d,gf [] w d->∀i,i<n->∀b F bs,hJ d b F bs->0∉F->bs.length<17179869184->_:=λd f i hi b F bs hw V hb=>
  have aM:=aR _ (jK (i:=i) (ss:=ss) (by omega))
  Il cap (h.Y f) cap' (h'.Y f) ha (gC ss i) (ms.getD i (0,0)) (aw _ (jK (by omega))) (D i (by omega)) aM.1 aM.2.1 aM.2.2.1 aM.2.2.2 b F bs hw (hp.Y f) V hb
 have Q:∀d i,i<n->Calls prog 35 #[.agg #[.int .i64 p.W,.int .i64 p.H,.int .i64 p.d,.slice (some ⟨g,o,none⟩) p.P.length cap],iV (gC ss i),.int .i64 (ms.getD i (0,0)).1,.int .i64 (ms.getD i (0,0)).2] d λe w''=>e=.returned (.bool true)/\gf [] d w'':=λd i hi=>by
  have aM:=aR _ (jK (i:=i) (ss:=ss) (by omega));have bF:=aw _ (jK (i:=i) (ss:=ss) (by omega));have t:=D i (by omega);have X:=ux p.W p.H p.d p.P.length g o cap (gC ss i) (ms.getD i (0,0)) d aN.w1 aN.h1 (by have:=bF.x;have:=aN.w1;omega) (by have:=bF.y;have:=aN.h1;omega) (by omega) (by omega) (by have:=t.1;omega) (by have:=t.2.1;omega) (by have:=t.2.2.1;omega) (by have:=t.2.2.2.1;omega);rw[(oD _ _ _ _).2 t]at X;exact X
 have J:=λd (f:gf [] w d)=>λA capb af=>vX cap (h.Y f) A capb af;have bG:(∀b∈iD p q ss ms n,b<2)->pU p q ms:=λh=>by unfold pU;rw[<-ap,<-hn];exact h
 have bV:=gd bG;clear bG;have C:jy p q ms=iE (kT (iD p q ss ms n))++kz p (iE (kT (iD p q ss ms n))):=by rw[hn,ap];rfl
 unfold gN iV at K Q;unfold gN at N aQ J⊢;have bI:ms.length=n:=by omega
 rw[bI];have⟨w1,aB⟩:=zX (((w.alloc (.cells #[p.W,p.H,p.d,.slice (some ⟨g,o,none⟩) p.P.length cap] 25)).alloc (.cells #[q.W,q.H,q.d,.slice (some ⟨g',o',none⟩) q.P.length cap'] 25)));have S:gn w1 w.heap.size 25 #[p.W,p.H,p.d,.slice (some ⟨g,o,none⟩) p.P.length cap]:=by rw[aB];exact(gn.new w _ _).alloc _
 have U:gn w1 (w.heap.size+1) 25 #[q.W,q.H,q.d,.slice (some ⟨g',o',none⟩) q.P.length cap']:=by rw[aB];exact gn.new2 w _ _ _
 have ba:gf [] w w1:=by rw[aB];exact((zR [] w).alloc _).alloc _
 have cf:w1.heap.size=w.heap.size+1+1:=by rw[aB,iO,iO]
 have aK:∀(E:List Nat) (wr wz:World) (i:Nat),i<n->gf [] w1 wr->(∀x∈E,w1.heap.size<=x/\x<wr.heap.size)->gf E (wr.alloc (.cells #[.int .i64 ((gC ss i).x:Int),.int .i64 ((gC ss i).y:Int),.int .i64 ((gC ss i).w:Int),.int .i64 ((gC ss i).h:Int)] 49)) wz ->
   (wz.cell? ⟨w.heap.size,0,none⟩=some (.int .i64 p.W)/\wz.cell? ⟨w.heap.size,1,none⟩=some (.int .i64 p.H)/\wz.cell? ⟨w.heap.size,2,none⟩=some (.int .i64 p.d)/\wz.cell? ⟨w.heap.size,3,none⟩=some (.slice (some ⟨g,o,none⟩) p.P.length cap)) /\
   (wz.cell? ⟨w.heap.size+1,0,none⟩=some (.int .i64 q.W)/\wz.cell? ⟨w.heap.size+1,1,none⟩=some (.int .i64 q.H)/\wz.cell? ⟨w.heap.size+1,2,none⟩=some (.int .i64 q.d)/\wz.cell? ⟨w.heap.size+1,3,none⟩=some (.slice (some ⟨g',o',none⟩) q.P.length cap')) /\
   (wz.cell? ⟨wr.heap.size,0,none⟩=some (.int .i64 ((gC ss i).x:Int))/\wz.cell? ⟨wr.heap.size,1,none⟩=some (.int .i64 ((gC ss i).y:Int))/\wz.cell? ⟨wr.heap.size,2,none⟩=some (.int .i64 ((gC ss i).w:Int))/\wz.cell? ⟨wr.heap.size,3,none⟩=some (.int .i64 ((gC ss i).h:Int))) /\
   (wz.cell? ⟨r,y+i*2,none⟩=some (.int .i64 (ms.getD i (0,0)).1)/\wz.cell? ⟨r,y+i*2+1,none⟩=some (.int .i64 (ms.getD i (0,0)).2)):=by
  intro E wr wz i hi f O L;have e1:w.heap.size∉E:=λt=>by have:=(O _ t).1;omega
  have e2:w.heap.size+1∉E:=λt=>by have:=(O _ t).1;omega
  have e3:wr.heap.size∉E:=λt=>by have:=(O _ t).2;omega
  have e4:r∉E:=λt=>by have:=(O _ t).1;omega
  have k1:=((S.Z f (by simp)).alloc _).Z L e1;have k2:=((U.Z f (by simp)).alloc _).Z L e2;have k3:=(gn.new wr 49 #[.int .i64 ((gC ss i).x:Int),.int .i64 ((gC ss i).y:Int),.int .i64 ((gC ss i).w:Int),.int .i64 ((gC ss i).h:Int)]).Z L e3;have bC:gf E w wz:=(((ba.tq f).alloc _).mono (by simp)).trans L (λx hx=>.inl hx);obtain⟨P,m2⟩:=bH i hi;exact⟨⟨k1.X 0,k1.X 1,k1.X 2,k1.X 3⟩,⟨k2.X 0,k2.X 1,k2.X 2,k2.X 3⟩,⟨k3.X 0,k3.X 1,k3.X 2,k3.X 3⟩,⟨(World.cell?_of_block (w:=w) (bC.block r bf e4)).trans P,(World.cell?_of_block (w:=w) (bC.block r bf e4)).trans m2⟩⟩
 have aJ:=λwz (f:gf [] w1 wz)=>And.intro (And.intro ((S.Z f (by simp)).X 0) (And.intro ((S.Z f (by simp)).X 1) (And.intro ((S.Z f (by simp)).X 2) ((S.Z f (by simp)).X 3)))) (And.intro ((U.Z f (by simp)).X 0) (And.intro ((U.Z f (by simp)).X 1) (And.intro ((U.Z f (by simp)).X 2) ((U.Z f (by simp)).X 3))));have⟨bZ,aE,ak,bW⟩:=gz aB ba aK K;have⟨bT,bQ,bP,bO⟩:=gz Q J C N;have⟨bS,bk,HN,HP⟩:=gz aQ Y hn hp;have aD:=gd aJ;have ce:n<=4096:=by omega
 clear aK K Q J C N aQ Y S U aB ba cf bH bb hM D aR aw aN I h h' ha hp hn hml bI ap bf cd aJ;go_enter func18,ntmps18;go_wp2_with fail;rw[<-bZ.o];refine(bO.o w1 aE.o).mono ?_;rintro e w2 ⟨rfl,a7⟩;obtain⟨⟨a0,a1,a2,a3⟩,⟨b0,b1,b2,b3⟩⟩:=aD.o w2 a7;have aV:=gd a7;clear a7;go_wp2_with fail;refine(bS.o w2).mono ?_;rintro e z ⟨v8,F8,rfl,bK,bo,cb⟩;obtain⟨A8,c8,rfl,cg,ch,bA,-⟩:=ic.open_ bK;have⟨aa,bm⟩:=gy (aV.o.tq bo) bA;rw[<-HN.o];clear bK bo cb bA a0 a1 a2 a3 b0 b1 b2 b3;have t0:((n:Int) != (n:Int))=false:=by simp
 go_wp2_with fail
 go_loopg [9,10,28] n (λj v9 v10 v28 wr=>∃i:Nat,v28=.int .i64 i/\i+j=n/\gh (gf [] z wr))
 .exact⟨0,rfl,by omega,gd (zR _ _)⟩
 obtain⟨i,rfl,ci,R⟩:=hrel;rcases gk with _|j
 .obtain rfl:i=n:=by omega
  have t1:decide (i<i)=false:=by simp
  obtain⟨wo,rfl⟩:=zX wr;have⟨w4,aS⟩:=zX (wo.alloc (.cells #[.slice none 0 0,(0:Int)] 63));have⟨b,hb⟩:=zX wo.heap.size;have bM:hJ w4 b [b] []:=by rw[aS,hb];exact hJ.new wo
  have bl:gh (gf [] z w4):=gd (by rw[aS];exact R.o.alloc _);have bw:z.heap.size<=b:=by rw[hb];exact R.o.size
  have⟨b6,b4,HB,bj⟩:=gz bM aS hb bw;have a6:gh (w1.heap.size<=z.heap.size/\w.heap.size<=w1.heap.size/\0<w.heap.size):=gd ⟨aa.o.size,aE.o.size,HP.o.lt⟩;clear bM aS hb bw;go_wp2_with fail;rw[<-b4.o,<-HB.o]
  go_loopg [12,13,52] i (λj2 v12 v13 v52 wr=>∃(k:Nat) (F:List Nat),v52=.int .i64 k/\k+j2=i/\gh (hJ wr b F (iD p q ss ms k))/\gh (gB [b] F w4 wr))
  .exact⟨0,[b],rfl,by omega,gd (by simpa[iD]using b6.o),gd (gB.refl _ _)⟩
  obtain⟨k,F,rfl,cj,aP,aZ⟩:=hrel;have bB:gf [] z wr:=bl.o.trans aZ.o.Z (λx hx=>.inr (by simp at hx;have:=bj.o;omega));have bq:∀x∈F,z.heap.size<=x:=λx hx=>by
   rcases aZ.o.new x hx with h|h
   .simp at h;have:=bj.o;omega
   .have:=bl.o.size;omega
  have⟨ag,aY⟩:=gy bB bq;clear bB bq;rcases gk with _|j2
  .obtain rfl:k=i:=by omega
   have t2:decide (k<k)=false:=(by simp);have bg:=gd (bV.o aP.o.bit);have bd:=bk.o k (by rw[<-HN.o];exact zQ _);have N:=LN wr b F _ aP.o (by omega);have⟨T,hT⟩:=zX (kT (iD p q ss ms k));have bv:T.length<=4000000000:=by
    have:=rj (iD p q ss ms k)
    rw[hT];omega
   have bu:0<T.length:=by
    have X:=rj (iD p q ss ms k);have h2:=tS p q ss ms k;rw[hT];omega
   have C:=bP.o;rw[<-hT]at N C;have⟨HT,bY,aT⟩:=gS bv bu C;clear hT C bd bv bu;go_wp2_with fail;refine N.mono ?_;rintro e w5 ⟨rfl,F5,bi,bD⟩;have av:gf [] z w5:=ag.o.trans bD.Z (λx hx=>.inr (aY.o x hx));have aH:=bi.bit;have bx:=LP w5 b F5 T bi (by have:=HT.o;omega);clear N;go_wp2_with fail;refine bx.mono ?_;rintro e w6 ⟨v6,G6,rfl,ai,M,br⟩;obtain⟨A6,c6,rfl,b9,ca,bz⟩:=ai.oq;have ad:gf [] z w6:=av.tq M;obtain⟨⟨a0,a1,a2,a3⟩,-⟩:=aD.o w6 (aa.o.tq ad);have J:=bQ.o w6 ((aE.o.tq aa.o).tq ad) A6 c6 (iE T) bz (uh aH) (by rw[mL];have:=bY.o;omega) (by rw[mL];have:=HT.o;omega);have⟨af,ah⟩:=zX (iE T);have Y:af.length<=1000000000:=(by rw[ah,mL];have:=HT.o;omega);have C:=aT.o;rw[<-ah]at J ai C⊢;have⟨nb,bJ⟩:=zX af.length;rw[<-bJ]at J ai⊢;have⟨aC,aG,aX,aU⟩:=gz Y ai J C;have⟨aq,bn⟩:=gy ad (λx hx=>Nat.le_trans av.size (br x hx):∀x∈G6,z.heap.size<=x);clear bi bD aH bx ai M br b9 ca bz av ad J ah bJ Y C;go_wp2_with fail;refine aX.o.mono ?_;rintro e w7 ⟨g7,c7,rfl,ao,a8,cc⟩;have aO:=aG.o.Y a8;have⟨bX,aF⟩:=gy ao (aq.o.tq a8);have bh:(kz p af).length=4:=rfl;clear ao a8 cc a0 a1 a2 a3
   go_wp2_with(at_builtin;refine na rfl rfl ku rfl rfl aO ((kz p af).map b8) 4 rfl ?c1 ?c2 ?c3 ?c4 ?c5 ?_)
   case c1=>rfl
   case c2=>exact gv.cellsB bX.o
   case c3=>exact ni _
   case c4=>rw[zE,zE,bh];have:=aC.o;omega
   case c5=>rw[zE,zE,bh];have:=aC.o;omega
   intro v8 bN w8 b7 bp;have bc:=aU.o;clear bh;go_wp2;refine bodyPost_ret (v:=.tuple #[v8,(0:Int)]) (by simp[results,results18,go_sem]) rfl ?_;have cl:w.heap.size<=z.heap.size:=(by have:=a6.o;omega);refine⟨v8,bN,rfl,by rw[bc,zM];exact b7,?_,λx hx=>?_,bg.o⟩
   .refine((aE.o.tq aa.o).tq aF.o).trans bp.Z (λx hx=>.inr ?_)
    have:=bn.o x hx
    omega
   .rcases bp.new x hx with h|h
    .have:=bn.o x h;omega
    .have:=aF.o.size;omega
  .have hk:k<i:=by omega
   have Z:k<ss.length:=(by rw[<-HN.o];exact hk);obtain⟨g8,o8,a9,x0,x1,x2,x3⟩:=oE (bm.o.Y ag.o) Z;subst a9;have O:∀x∈F,w1.heap.size<=x/\x<wr.heap.size:=λx hx=>⟨by have:=aY.o x hx;have:=a6.o;omega,aP.o.lt x hx⟩;obtain⟨⟨k0,k1,k2,k3⟩,⟨q0,q1,q2,q3⟩,⟨s0,s1,s2,s3⟩,⟨m0,P⟩⟩:=ak.o [] wr _ k hk (aa.o.tq ag.o) (by simp) (zR _ _);have ab:∀wz,gf F (wr.alloc (.cells #[.int .i64 ((gC ss k).x:Int),.int .i64 ((gC ss k).y:Int),.int .i64 ((gC ss k).w:Int),.int .i64 ((gC ss k).h:Int)] 49)) wz->wz.cell? ⟨w.heap.size,0,none⟩=some (.int .i64 p.W)/\wz.cell? ⟨w.heap.size,1,none⟩=some (.int .i64 p.H)/\wz.cell? ⟨w.heap.size,2,none⟩=some (.int .i64 p.d)/\wz.cell? ⟨w.heap.size,3,none⟩=some (.slice (some ⟨g,o,none⟩) p.P.length cap)/\wz.cell? ⟨w.heap.size+1,0,none⟩=some (.int .i64 q.W)/\wz.cell? ⟨w.heap.size+1,1,none⟩=some (.int .i64 q.H)/\wz.cell? ⟨w.heap.size+1,2,none⟩=some (.int .i64 q.d)/\wz.cell? ⟨w.heap.size+1,3,none⟩=some (.slice (some ⟨g',o',none⟩) q.P.length cap')/\wz.cell? ⟨wr.heap.size,0,none⟩=some (.int .i64 ((gC ss k).x:Int))/\wz.cell? ⟨wr.heap.size,1,none⟩=some (.int .i64 ((gC ss k).y:Int))/\wz.cell? ⟨wr.heap.size,2,none⟩=some (.int .i64 ((gC ss k).w:Int))/\wz.cell? ⟨wr.heap.size,3,none⟩=some (.int .i64 ((gC ss k).h:Int))/\wz.cell? ⟨r,y+k*2,none⟩=some (.int .i64 (ms.getD k (0,0)).1)/\wz.cell? ⟨r,y+k*2+1,none⟩=some (.int .i64 (ms.getD k (0,0)).2):=λwz L=>by
    obtain⟨⟨k0,k1,k2,k3⟩,⟨q0,q1,q2,q3⟩,⟨s0,s1,s2,s3⟩,⟨m0,P⟩⟩:=ak.o F wr wz k hk (aa.o.tq ag.o) O L;exact⟨k0,k1,k2,k3,q0,q1,q2,q3,s0,s1,s2,s3,m0,P⟩
   have ae:=gd ab;have bd:=bk.o k (by omega);have al:gf [] wr (wr.alloc (.cells #[.int .i64 ((gC ss k).x:Int),.int .i64 ((gC ss k).y:Int),.int .i64 ((gC ss k).w:Int),.int .i64 ((gC ss k).h:Int)] 49)).drew:=((zR [] wr).alloc _).drew;have K:=bW.o _ (((aE.o.tq aa.o).tq ag.o).tq al) k hk b F _ (aP.o.Y al) (λV=>by have:=aY.o 0 V;have:=a6.o;omega) (by omega);unfold AD at K;rw[<-qg]at K;have⟨a5,aW⟩:=gy K al;clear Z ab K bd O al;go_wp2_with fail
   go_region_held3 (λd=>d.cell? ⟨w.heap.size,0,none⟩=some (.int .i64 p.W)/\d.cell? ⟨w.heap.size,1,none⟩=some (.int .i64 p.H)/\d.cell? ⟨w.heap.size,2,none⟩=some (.int .i64 p.d)/\d.cell? ⟨w.heap.size,3,none⟩=some (.slice (some ⟨g,o,none⟩) p.P.length cap)/\d.cell? ⟨w.heap.size+1,0,none⟩=some (.int .i64 q.W)/\d.cell? ⟨w.heap.size+1,1,none⟩=some (.int .i64 q.H)/\d.cell? ⟨w.heap.size+1,2,none⟩=some (.int .i64 q.d)/\d.cell? ⟨w.heap.size+1,3,none⟩=some (.slice (some ⟨g',o',none⟩) q.P.length cap')/\d.cell? ⟨wr.heap.size,0,none⟩=some (.int .i64 ((gC ss k).x:Int))/\d.cell? ⟨wr.heap.size,1,none⟩=some (.int .i64 ((gC ss k).y:Int))/\d.cell? ⟨wr.heap.size,2,none⟩=some (.int .i64 ((gC ss k).w:Int))/\d.cell? ⟨wr.heap.size,3,none⟩=some (.int .i64 ((gC ss k).h:Int))/\d.cell? ⟨r,y+k*2,none⟩=some (.int .i64 (ms.getD k (0,0)).1)/\d.cell? ⟨r,y+k*2+1,none⟩=some (.int .i64 (ms.getD k (0,0)).2)) (first|(go_keep;done)|exact ae.o _ (((zR F _).drew).tq be.Z)) (first|(go_at_call 36;refine a5.o.mono ?_;rintro e w6 ⟨rfl,F6,bL,be⟩))
   have bE:=aZ.o.trans (gB.pre aW.o be);have⟨bR,b5⟩:=gy bE bL;clear bE be bL;go_wp2_with fail
   go_roundg j2
   .exact⟨k+1,F6,by go_num,by omega,b5,bR⟩
   .omega
 .have hi:i<n:=by omega
  have t1:decide (i<n)=true:=zB hi;have Z:i<ss.length:=by rw[<-HN.o];exact hi
  obtain⟨g8,o8,a9,x0,x1,x2,x3⟩:=oE (bm.o.Y R.o) Z;subst a9;obtain⟨⟨k0,k1,k2,k3⟩,-,⟨s0,s1,s2,s3⟩,⟨m0,P⟩⟩:=ak.o [] wr _ i hi (aa.o.tq R.o) (by simp) (zR _ _);have ab:∀wz,gf [] (wr.alloc (.cells #[.int .i64 ((gC ss i).x:Int),.int .i64 ((gC ss i).y:Int),.int .i64 ((gC ss i).w:Int),.int .i64 ((gC ss i).h:Int)] 49)) wz->wz.cell? ⟨w.heap.size,0,none⟩=some (.int .i64 p.W)/\wz.cell? ⟨w.heap.size,1,none⟩=some (.int .i64 p.H)/\wz.cell? ⟨w.heap.size,2,none⟩=some (.int .i64 p.d)/\wz.cell? ⟨w.heap.size,3,none⟩=some (.slice (some ⟨g,o,none⟩) p.P.length cap)/\wz.cell? ⟨wr.heap.size,0,none⟩=some (.int .i64 ((gC ss i).x:Int))/\wz.cell? ⟨wr.heap.size,1,none⟩=some (.int .i64 ((gC ss i).y:Int))/\wz.cell? ⟨wr.heap.size,2,none⟩=some (.int .i64 ((gC ss i).w:Int))/\wz.cell? ⟨wr.heap.size,3,none⟩=some (.int .i64 ((gC ss i).h:Int))/\wz.cell? ⟨r,y+i*2,none⟩=some (.int .i64 (ms.getD i (0,0)).1)/\wz.cell? ⟨r,y+i*2+1,none⟩=some (.int .i64 (ms.getD i (0,0)).2):=λwz L=>by
   obtain⟨⟨k0,k1,k2,k3⟩,-,⟨s0,s1,s2,s3⟩,⟨m0,P⟩⟩:=ak.o [] wr wz i hi (aa.o.tq R.o) (by simp) L;exact⟨k0,k1,k2,k3,s0,s1,s2,s3,m0,P⟩
  have ae:=gd ab;have Q:=λwz=>bT.o wz i hi;have a4:=gd Q;clear Z ab Q;go_wp2_with fail
  go_region_held3 (λd=>d.cell? ⟨w.heap.size,0,none⟩=some (.int .i64 p.W)/\d.cell? ⟨w.heap.size,1,none⟩=some (.int .i64 p.H)/\d.cell? ⟨w.heap.size,2,none⟩=some (.int .i64 p.d)/\d.cell? ⟨w.heap.size,3,none⟩=some (.slice (some ⟨g,o,none⟩) p.P.length cap)/\d.cell? ⟨wr.heap.size,0,none⟩=some (.int .i64 ((gC ss i).x:Int))/\d.cell? ⟨wr.heap.size,1,none⟩=some (.int .i64 ((gC ss i).y:Int))/\d.cell? ⟨wr.heap.size,2,none⟩=some (.int .i64 ((gC ss i).w:Int))/\d.cell? ⟨wr.heap.size,3,none⟩=some (.int .i64 ((gC ss i).h:Int))/\d.cell? ⟨r,y+i*2,none⟩=some (.int .i64 (ms.getD i (0,0)).1)/\d.cell? ⟨r,y+i*2+1,none⟩=some (.int .i64 (ms.getD i (0,0)).2)) (first|(go_keep;done)|exact ae.o _ (((zR [] _).drew).tq M)|exact ae.o _ M) (first|(go_at_call 35;refine(a4.o _).mono ?_;rintro e w6 ⟨rfl,M⟩))
  have ad:gf [] z w6:=((R.o.alloc (.cells #[.int .i64 ((gC ss i).x:Int),.int .i64 ((gC ss i).y:Int),.int .i64 ((gC ss i).w:Int),.int .i64 ((gC ss i).h:Int)] 49)).drew).tq M;have aq:=gd ad;clear ad M;go_wp2_with fail
  go_roundg j
  .exact⟨i+1,by go_num,by omega,aq⟩
  .omega
theorem uP:jA prog 26 48 (.agg #[(0:Int),(0:Int)]) 2 16:=.mk' underlying26 (by kernel_rfl)
def mP(p q:gH)(ss:List Sq)(ms:List (Int × Int))(i:Nat):Prop:=∀k,k<i->∃c,tD p q (gC ss k) (λ_=>True) (ms.getD k (0,0)).1 (ms.getD k (0,0)).2 c
theorem mP.snoc{p q:gH}{ss:List Sq}{ms:List (Int × Int)}{i:Nat}(h:mP p q ss ms i)(v:ms.length=i){d f:Int}{c:Nat}(t:tD p q (gC ss i) (λ_=>True) d f c):mP p q ss (ms++[(d,f)]) (i+1):=λk hk=>by
 rcases zZ k i with j|j
 .obtain⟨c',r⟩:=h k j
  refine⟨c',?_⟩;have e:(ms++[(d,f)]).getD k (0,0)=ms.getD k (0,0):=by
   rw[zD,zD,getElem?_append_left (by omega)]
  rw[e];exact r
 .obtain rfl:k=i:=by omega
  have e:(ms++[(d,f)]).getD k (0,0)=(d,f):=by
   rw[zD,<-v];simp
  rw[e];exact⟨c,t⟩
def uQ(w:World)(p q:gH)(e:Ending)(w':World):Prop:=
 ∃v G9 ms,e=.returned (.tuple #[v,(0:Int)])/\gE w' 5 v G9 ((jy p q ms).map b8)/\ms.length=(gZ q.W q.H 8).length/\mP p q (gZ q.W q.H 8) ms (gZ q.W q.H 8).length/\gf [] w w'/\(∀x∈G9,w.heap.size<=x)/\pU p q ms
theorem xX{w:World}{p q:gH}{B:Nat->Option Addr}{c:Nat->Nat}{G:List Nat}(cap:Nat)(h:gW w p g o B c G){B':Nat->Option Addr}{c':Nat->Nat}{G':List Nat}(cap':Nat)(D:gW w q g' o' B' c' G')(y:jv p q)(hp:jJ w):Calls prog 14 #[gN p g o cap,gN q g' o' cap'] w (uQ w p q):=by
 have I:=D.ok;have V:=λw' (hc:gf [] w w')=>sD cap (h.Y hc) cap' (D.Y hc) y;have J:=λw'=>sS I g' o' cap' w';unfold uQ;have⟨ss,ar⟩:=zX (gZ q.W q.H 8);have aq:∀s∈ss,lT p.W p.H s:=λs hs=>by
  rw[ar]at hs;obtain⟨a,b⟩:=o3 (by decide) s hs;exact⟨by rw[y.W];exact a,by rw[y.H];exact b⟩
 have a5:ss.length<=4096:=by rw[ar];exact ox I.w1 I.h1
 have d:=λw' (hc:gf [] w w') O capM ms hM hml hmo=>FQ cap (h.Y hc) cap' (D.Y hc) y (hp.Y hc) O capM ms hM hml hmo;rw[<-ar]at J⊢;simp only[<-ar]at d;have⟨n,hn⟩:=zX ss.length;have f:∀w',gf [] w w'->∀i,i<n->_:=λw' hc i hi=>Du cap (h.Y hc) cap' (D.Y hc) y (gC ss i) (aq _ (jK (by omega)));unfold gN iV at f;unfold gN at V J d⊢;have⟨w1,au⟩:=zX (((w.alloc (.cells #[p.W,p.H,p.d,.slice (some ⟨g,o,none⟩) p.P.length cap] 25)).alloc (.cells #[q.W,q.H,q.d,.slice (some ⟨g',o',none⟩) q.P.length cap'] 25)));have z:gn w1 w.heap.size 25 #[p.W,p.H,p.d,.slice (some ⟨g,o,none⟩) p.P.length cap]:=by rw[au];exact(gn.new w _ _).alloc _
 have C:gn w1 (w.heap.size+1) 25 #[q.W,q.H,q.d,.slice (some ⟨g',o',none⟩) q.P.length cap']:=by rw[au];exact gn.new2 w _ _ _
 have aF:gf [] w w1:=by rw[au];exact((zR [] w).alloc _).alloc _
 have ao:=λwz (hc:gf [] w1 wz)=>And.intro (And.intro ((z.Z hc (by simp)).X 0) (And.intro ((z.Z hc (by simp)).X 1) (And.intro ((z.Z hc (by simp)).X 2) ((z.Z hc (by simp)).X 3)))) (And.intro ((C.Z hc (by simp)).X 0) (And.intro ((C.Z hc (by simp)).X 1) (And.intro ((C.Z hc (by simp)).X 2) ((C.Z hc (by simp)).X 3))));have⟨aS,ak,aK,aP⟩:=gz au aF V J;have⟨HN,af,aM,aR⟩:=gz hn ao d f;have a6:n<=4096:=by omega
 clear V J z C au aF aq I h D y hp hn ar a5 ao d f;go_enter func14,ntmps14;go_wp2_with fail;rw[<-aS.o];refine(aK.o w1 ak.o).mono ?_;rintro e w2 ⟨rfl,Z⟩;obtain⟨⟨Q,R,S,T⟩,⟨b0,b1,b2,b3⟩⟩:=af.o w2 Z;have ax:=gd Z;clear Z;go_wp2_with fail;refine(aP.o w2).mono ?_;rintro e N ⟨v8,F8,rfl,aJ,aE,aW⟩;obtain⟨A8,c8,rfl,a7,a8,aG,-⟩:=ic.open_ aJ;have⟨ab,aN⟩:=gy (ax.o.tq aE) aG;rw[<-HN.o];clear aJ aE aW aG Q R S T b0 b1 b2 b3;go_wp2_with fail
 go_loopg [6,8,9,10,11,19] n (λj v6 v8 v9 v10 v11 v19 wr=>∃(i:Nat) (ms:List (Int × Int)) (F:List Nat),v19=.int .i64 i/\i+j=n/\gh (ic wr 48 2 v6 F i (ms.flatMap lu))/\gh (ms.length=i)/\gh (mP p q ss ms i)/\gh (gf [] N wr)/\gh (∀x∈F,N.heap.size<=x))
 .exact⟨0,[],[],rfl,by omega,gd (ic.nil _ _ _),gd rfl,gd (λk hk=>by omega),gd (zR _ _),gd (by simp)⟩
 obtain⟨i,ms,F,rfl,a9,HO,t,P,ad,HF⟩:=hrel;obtain⟨⟨Q,R,S,T⟩,⟨b0,b1,b2,b3⟩⟩:=af.o wr (ab.o.tq ad.o);rcases gk with _|j
 .obtain rfl:i=n:=by omega
  have t1:decide (i<i)=false:=by simp
  obtain⟨O,cM,rfl,aZ,a4,aH,-⟩:=HO.o.open_;have d:=aM.o wr ((ak.o.tq ab.o).tq ad.o) O cM ms aH (by rw[t.o];exact HN.o) (λk hk=>by
   obtain⟨c,M⟩:=P.o k (by rw[<-t.o];exact hk);exact M.ok)
  rw[t.o]at d;have aw:=gd d;clear d aZ a4 aH;go_wp2_with fail;refine aw.o.mono ?_;rintro e w9 ⟨v9,G9,rfl,E,aU,aX,aC⟩;go_wp2;refine bodyPost_ret (v:=.tuple #[v9,(0:Int)]) (by simp[results,results14,go_sem]) rfl ?_;refine⟨v9,G9,ms,rfl,E,by rw[t.o];exact HN.o,by rw[<-HN.o];exact P.o,((ak.o.tq ab.o).tq ad.o).tq aU,λx hx=>?_,aC⟩;have h1:=aX x hx;have h2:=((ak.o.tq ab.o).tq ad.o).size;omega
 .have hi:i<n:=by omega
  have aI:i<ss.length:=by rw[<-HN.o];exact hi
  obtain⟨g8,o8,aV,x0,x1,x2,x3⟩:=oE (aN.o.Y ad.o) aI;subst aV;have aY:=af.o _ (((ab.o.tq ad.o)).alloc (.cells #[.int .i64 ((gC ss i).x:Int),.int .i64 ((gC ss i).y:Int),.int .i64 ((gC ss i).w:Int),.int .i64 ((gC ss i).h:Int)] 49));obtain⟨⟨c0,c1,c2,c3⟩,⟨d0,d1,d2,d3⟩⟩:=aY;have f:=aR.o _ ((((ak.o.tq ab.o).tq ad.o)).alloc (.cells #[.int .i64 ((gC ss i).x:Int),.int .i64 ((gC ss i).y:Int),.int .i64 ((gC ss i).w:Int),.int .i64 ((gC ss i).h:Int)] 49)) i hi;unfold qV at f;have ay:=gd f;clear f aI;go_wp2_with fail;refine ay.o.mono ?_;rintro e w5 ⟨K,L,cc,rfl,M,U⟩;have al:=gd ((ad.o.alloc (.cells #[.int .i64 ((gC ss i).x:Int),.int .i64 ((gC ss i).y:Int),.int .i64 ((gC ss i).w:Int),.int .i64 ((gC ss i).h:Int)] 49)).tq U);have ap:=((HO.o.Y ((zR [] wr).alloc (.cells #[.int .i64 ((gC ss i).x:Int),.int .i64 ((gC ss i).y:Int),.int .i64 ((gC ss i).w:Int),.int .i64 ((gC ss i).h:Int)] 49))).Y U).Y ((zR [] w5).alloc (.cells #[K,L] 48));have X:=gn.new w5 48 #[K,L];have aL:=gd (P.o.snoc t.o M);clear M U Q R S T b0 b1 b2 b3 c0 c1 c2 c3 d0 d1 d2 d3 x0 x1 x2 x3
  go_wp2_with(at_builtin;refine ou rfl rfl uP rfl (by decide) rfl ap [.int .i64 K,.int .i64 L] rfl rfl ?c1 ?c2 ?c3 ?c4 ?_)
  case c1=>
   intro q u r
   match q,r with
   | 0,r=>rw[<-r];exact X.X 0
   | 1,r=>rw[<-r];exact X.X 1
   | q+2,r=>simp at r
  case c2=>intro u hu;simp at hu;rcases hu with rfl|rfl<;>rfl
  case c3=>omega
  case c4=>omega
  intro g9 aT w9 E Y;have aQ:=gd E;have aO:gh (gf [] N w9):=gd ((al.o.alloc _).trans Y.Z (λx hx=>.inr (HF.o x hx)));have aD:gh (∀x∈[g9],N.heap.size<=x):=gd (λx hx=>by
   rcases Y.new x hx with h|h
   .exact HF.o x h
   .have:=al.o.size;rw[iO]at h;omega)
  clear E Y ap X;go_wp2_with fail
  go_roundg j
  .refine⟨i+1,ms++[(K,L)],[g9],by go_num,by omega,gd ?_,gd (by rw[zC,t.o];rfl),aL,aO,aD⟩
   rw[flatMap_append];exact aQ.o
  .omega
def sP(w:World)(p q:gH)(x y:Int)(e:Ending)(w':World):Prop:=
 ((∃(dx dy:Int) (c:Nat) (s:Sq),e=.returned (.tuple #[dx,dy,c])/\s∈gZ q.W q.H 8/\(s.x:Int)=x/\(s.y:Int)=y/\tD p q s (λ_=>True) dx dy c) \/
  ((∀s∈gZ q.W q.H 8,¬((s.x:Int)=x/\(s.y:Int)=y))/\e=.returned (.tuple #[(0:Int),(0:Int),(0:Int)])))/\gf [] w w'
theorem Db{w:World}{p q:gH}{B:Nat->Option Addr}{c:Nat->Nat}{G:List Nat}(cap:Nat)(h:gW w p g o B c G){B':Nat->Option Addr}{c':Nat->Nat}{G':List Nat}(cap':Nat)(E:gW w q g' o' B' c' G')(t:jv p q)(x y:Int):Calls prog 22 #[gN p g o cap,gN q g' o' cap',x,y] w (sP w p q x y):=by
 have z:=E.ok;have K:=λw' (hc:gf [] w w')=>sD cap (h.Y hc) cap' (E.Y hc) t;have C:=λw'=>sS z g' o' cap' w';unfold sP;have⟨ss,an⟩:=zX (gZ q.W q.H 8);have T:∀s∈ss,lT p.W p.H s:=λs hs=>by
  rw[an]at hs;obtain⟨a,b⟩:=o3 (by decide) s hs;exact⟨by rw[t.W];exact a,by rw[t.H];exact b⟩
 have aP:ss.length<=4096:=by rw[an];exact ox z.w1 z.h1
 rw[<-an]at C⊢;have⟨n,hn⟩:=zX ss.length;have d:∀w',gf [] w w'->∀i,i<n->_:=λw' hc i hi=>Du cap (h.Y hc) cap' (E.Y hc) t (gC ss i) (T _ (jK (by omega)));unfold gN iV at d;unfold gN at K C⊢;have⟨w1,aj⟩:=zX (((w.alloc (.cells #[p.W,p.H,p.d,.slice (some ⟨g,o,none⟩) p.P.length cap] 25)).alloc (.cells #[q.W,q.H,q.d,.slice (some ⟨g',o',none⟩) q.P.length cap'] 25)));have f:gn w1 w.heap.size 25 #[p.W,p.H,p.d,.slice (some ⟨g,o,none⟩) p.P.length cap]:=by rw[aj];exact(gn.new w _ _).alloc _
 have r:gn w1 (w.heap.size+1) 25 #[q.W,q.H,q.d,.slice (some ⟨g',o',none⟩) q.P.length cap']:=by rw[aj];exact gn.new2 w _ _ _
 have X:gf [] w w1:=by rw[aj];exact((zR [] w).alloc _).alloc _
 have S:=λwz (hc:gf [] w1 wz)=>And.intro (And.intro ((f.Z hc (by simp)).X 0) (And.intro ((f.Z hc (by simp)).X 1) (And.intro ((f.Z hc (by simp)).X 2) ((f.Z hc (by simp)).X 3)))) (And.intro ((r.Z hc (by simp)).X 0) (And.intro ((r.Z hc (by simp)).X 1) (And.intro ((r.Z hc (by simp)).X 2) ((r.Z hc (by simp)).X 3))));have⟨aK,ak,aD,aF⟩:=gz aj X K C;have⟨HN,ac,aJ⟩:=gS hn S d;have aQ:n<=4096:=by omega
 clear K C f r aj X T z h E t hn an aP S d;go_enter func22,ntmps22;go_wp2_with fail;rw[<-aK.o];refine(aD.o w1 ak.o).mono ?_;rintro e w2 ⟨rfl,J⟩;obtain⟨⟨L,M,N,O⟩,⟨Z,b1,b2,b3⟩⟩:=ac.o w2 J;have ao:=gd J;clear J;go_wp2_with fail;refine(aF.o w2).mono ?_;rintro e w3 ⟨v8,F8,rfl,R,V,aN⟩;obtain⟨A8,c8,rfl,aR,aS,Y,-⟩:=ic.open_ R;have⟨aa,aE⟩:=gy (ao.o.tq V) Y;rw[<-HN.o];clear R V aN Y L M N O Z b1 b2 b3;go_wp2_with fail
 go_loopg [8,9,10,12,20] n (λj v8 v9 v10 v12 v20 wr=>∃i:Nat,v20=.int .i64 i/\i+j=n/\gh (∀k,k<i->¬(((gC ss k).x:Int)=x/\((gC ss k).y:Int)=y))/\gh (gf [] w3 wr))
 .exact⟨0,rfl,by omega,gd (λk I=>by omega),gd (zR _ _)⟩
 obtain⟨i,rfl,aT,U,ad⟩:=hrel;obtain⟨⟨L,M,N,O⟩,⟨Z,b1,b2,b3⟩⟩:=ac.o wr (aa.o.tq ad.o);rcases gk with _|j
 .obtain rfl:i=n:=by omega
  have t1:decide (i<i)=false:=by simp
  have P:∀s∈ss,¬((s.x:Int)=x/\(s.y:Int)=y):=λs hs=>by
   obtain⟨k,I,rfl⟩:=List.mem_iff_getElem.1 hs
   have:=U.o k (by rw[HN.o];exact I)
   unfold gC at this;rw[zD,zF I]at this;exact this
  have aH:=gd P;clear P;go_wp2;refine bodyPost_ret (v:=.tuple #[(0:Int),(0:Int),(0:Int)]) (by simp[results,results22,go_sem]) rfl ?_;exact⟨.inr ⟨aH.o,rfl⟩,(ak.o.tq aa.o).tq ad.o⟩
 .have hi:i<n:=by omega
  have D:i<ss.length:=by rw[<-HN.o];exact hi
  obtain⟨g8,o8,aM,x0,x1,x2,x3⟩:=oE (aE.o.Y ad.o) D;subst aM;have aO:=ac.o _ (((aa.o.tq ad.o)).alloc (.cells #[.int .i64 ((gC ss i).x:Int),.int .i64 ((gC ss i).y:Int),.int .i64 ((gC ss i).w:Int),.int .i64 ((gC ss i).h:Int)] 49));obtain⟨⟨c0,c1,c2,c3⟩,⟨d0,d1,d2,d3⟩⟩:=aO;have d:=aJ.o _ ((((ak.o.tq aa.o).tq ad.o)).alloc (.cells #[.int .i64 ((gC ss i).x:Int),.int .i64 ((gC ss i).y:Int),.int .i64 ((gC ss i).w:Int),.int .i64 ((gC ss i).h:Int)] 49)) i hi;unfold qV at d;have ap:=gd d;clear d;by_cases hm:((gC ss i).x:Int)=x/\((gC ss i).y:Int)=y
  .have t2:(((gC ss i).x:Int)==x)=true:=by rw[beq_iff_eq];omega
   have t3:(((gC ss i).y:Int)==y)=true:=(by rw[beq_iff_eq];omega);have⟨av,aG⟩:=gy hm D;clear hm D;go_wp2_with fail;refine ap.o.mono ?_;rintro e w5 ⟨dx,dy,cc,rfl,hb,aL⟩;go_wp2;refine bodyPost_ret (v:=.tuple #[dx,dy,cc]) (by simp[results,results22,go_sem]) rfl ?_;exact⟨.inl ⟨dx,dy,cc,gC ss i,rfl,jK aG.o,av.o.1,av.o.2,hb⟩,((((ak.o.tq aa.o).tq ad.o)).alloc _).tq aL⟩
  .have Q:∀k,k<i+1->¬(((gC ss k).x:Int)=x/\((gC ss k).y:Int)=y):=λk I=>by
    by_cases e:k=i
    .rw[e];exact hm
    .exact U.o k (by omega)
   have aI:=gd Q;have au:(((gC ss i).x:Int)==x)=false\/((((gC ss i).x:Int)==x)=true/\(((gC ss i).y:Int)==y)=false):=by
    by_cases q1:((gC ss i).x:Int)=x
    .right
     exact⟨by rw[beq_iff_eq];omega,by rw[beq_eq_false_iff_ne];intro q2;exact hm ⟨q1,q2⟩⟩
    .left
     rw[beq_eq_false_iff_ne];omega
   clear hm D Q;rcases au with t2|⟨t2,t3⟩
   all_goals
    go_wp2_with fail
    go_roundg j
    .exact⟨i+1,by go_num,by omega,aI,gd (ad.o.alloc _)⟩
    .omega
theorem Nt{p q:gH}{ms:List (Int × Int)}(e:ms.length=(gZ q.W q.H 8).length)(d:mP p q (gZ q.W q.H 8) ms (gZ q.W q.H 8).length):∀i,i<ms.length->iB p.W p.H (gC (gZ q.W q.H 8) i) (ms.getD i (0,0)):=λi hi=>by
 obtain⟨c,h⟩:=d i (by omega);exact h.ok
theorem KT{p q:gH}(d:jv p q)(i:Nat)(s:Sq):gV q i s (0,0)=jb (q.P.getD i []) p.W s.x s.y s.w s.h:=by
 unfold gV;rw[d.W];simp
theorem Oj{p q:gH}{i:Nat}{s:Sq}{m:Int × Int}(r:gU q.d (gV q i s (0,0)))(h:k<s.h*s.w):(gV q i s (0,0))[k]?=some (iw ((gV p i s m).getD k 0+(iM p q i s m).getD k 0) q.d):=by
 have t:=BQ (d:=q.d) (now:=gV q i s (0,0)) (old:=gV p i s m) (by rw[ka,ka]) r;have e:k<(gV p i s m).length:=by rw[ka];exact h
 have f:k<(iM p q i s m).length:=by rw[q7,zY];exact h
 have j:gV q i s (0,0)=List.zipWith (λa b=>iw (a+b) q.d) (gV p i s m) (iM p q i s m):=t.symm;rw[j,List.getElem?_zipWith,zF e,zF f,zD,zD,zF e,zF f];rfl
structure z8 (w:World) (p q:gH) (g o:Nat) (B:Nat->Option Addr) (c:Nat->Nat) (G:List Nat) (bs:List Sq) (s:Sq) (m:Int × Int) (b:Nat) (F ds:List Nat) (pos gP capP:Nat) (xs:List Value) (gs:List Nat):Prop where
 was:gW w p g o B c G
 now:iL w (jC p q bs s 0) gP capP xs gs
 rd:iU w b F ds pos
 qok:q.Ok
 ha:jv p q
 hs:lT p.W p.H s
 hm:iB p.W p.H s m
 sw0:1<=s.w
 sw1:s.w<=8
 sh0:1<=s.h
 sh1:s.h<=8
 pts:jJ w
 gG:∀x∈G,x∉b::gs
 fG:∀x∈F,x∉gP::gs
 f0:0∉F
 g0:0∉gs
def zm(w:World)(p q:gH)(bs:List Sq)(s:Sq)(b:Nat)(F ds:List Nat)(pos gP capP:Nat)(xs:List Value)(gs:List Nat)(e:Ending)(w':World):Prop:=
 e=.returned (.int .i64 0)/\iU w' b F ds pos/\iL w' (jC p q bs s p.P.length) gP capP xs gs/\gf (b::gs) w w'
def vD(p q:gH)(g o cap:Nat)(B:Nat->Option Addr)(c:Nat->Nat)(G:List Nat)(s:Sq)(m:Int × Int):Prop:=∀(w:World) (bs:List Sq) (b:Nat) (F ds:List Nat) (pos gP capP:Nat) (xs:List Value) (gs:List Nat),
 z8 w p q g o B c G bs s m b F ds pos gP capP xs gs->jG ds pos (kA p q s m) ->
 Calls prog 55 #[.pointer b,gN p g o cap,gN (jC p q bs s 0) gP 0 capP,iV s] w (zm w p q bs s b F ds (pos+(kA p q s m).length) gP capP xs gs)
structure rP (w1:World) (p q:gH) (bs:List Sq) (s:Sq) (b:Nat) (F ds:List Nat) (pos gP capP:Nat) (xs:List Value) (gs:List Nat) (wr:World) (i:Nat):Prop where
 rd:iU wr b F ds pos
 now:iL wr (jC p q bs s i) gP capP xs gs
 Z:gf (b::gs) w1 wr
theorem rP.next{I:World}{p q:gH}{bs:List Sq}{s:Sq}{f:Nat}{xs:List Value}{gs:List Nat}{wr wa w':World}{i t:Nat}(h:rP I p q bs s b F ds pos gP capP xs gs wr i)(L:p.Ok)(M:q.Ok)(K:jv p q)(hi:i<p.P.length)(C:∀x∈F,x∉gP::gs)(d:xs[i]?=some u)(v:gs[i]?=some t)(E:iU wa b F ds f)(c1:gf [b] wr wa)(c2:gf [t] wa w')(r:gv w' 3 u t ((ky (q.P.getD i []) (p.P.getD i []) p.W (bs++[s])).map vi)):rP I p q bs s b F ds f gP capP xs gs w' (i+1):=by
 have z:t∈gs:=mem_of_getElem? v;have J:=E.mem;have y:=C b J;have ad:gf (b::gs) wr w':=(c1.mono (F':=b::gs) (by simp)).trans c2 λx d=>by
  simp at d;subst d;exact .inl (by simp[z])
 refine⟨E.Z c2 λx d j=>?_,?_,h.Z.tq ad⟩
 .simp at j
  subst j;exact C x d (by simp[z])
 .have D:=h.now.Z c1 (F:=[b]) (by simpa using λe=>y (by simp[e])) (by
   intro x d j;simp at j;subst j;exact y (by simp[d]))
  exact D.setPlane d v r c2 (D.neP (by rw[oZ];exact hi) v) (Ot L M K bs s (i+1)) (LY bs s hi).symm
theorem Nv(p q:gH)(bs:List Sq)(s d:Sq):jC p q bs s 0=jC p q bs d 0:=by
 unfold jC
 congr 1
theorem AV(p q:gH)(ss:List Sq)(ms:List (Int × Int)):∀k n i,i+k=n->∃rest,iD p q ss ms n=iD p q ss ms i++rest
 | 0,n,i,h=>⟨[],by rw[append_nil,show i=n by omega]⟩
 | k+1,n,i,h=>by
  obtain⟨r,d⟩:=AV p q ss ms k n (i+1) (by omega);exact⟨_,by rw[d,qg,zH]⟩
theorem IM{p q:gH}{ms:List (Int × Int)}{ss:List Sq}{n:Nat}(h:∀b∈iD p q ss ms n,b<2){i:Nat}(hi:i<n):jG (iE (kT (iD p q ss ms n))) (iD p q ss ms i).length (kA p q (gC ss i) (ms.getD i (0,0))):=by
 have d:=uH h;obtain⟨r,f⟩:=AV p q ss ms (n-(i+1)) n (i+1) (by omega);have e:kT (iD p q ss ms n)=iD p q ss ms i++kA p q (gC ss i) (ms.getD i (0,0))++(r++replicate ((8-(iD p q ss ms n).length%8)%8) 0):=by
  unfold kT;rw[f,qg];simp only[zH]
 rw[e]at d⊢;exact AE d
def oS:Sq:=⟨0,0,0,0⟩
def ER(w:World)(q:gH)(e:Ending)(w':World):Prop:=
 ∃(gP capP:Nat) (xs:List Value) (gs:List Nat),e=.returned (.tuple #[gN q gP 0 capP,(0:Int)])/\iL w' q gP capP xs gs/\gf [] w w'/\∀x∈gP::gs,w.heap.size<=x
theorem Mb{w:World}{p q:gH}{B:Nat->Option Addr}{c:Nat->Nat}{G:List Nat}(cap:Nat)(h:gW w p g o B c G)(Q:q.Ok)(D:jv p q)(hp:jJ w)(A:Option Addr)(capA:Nat)(ms:List (Int × Int))(hml:ms.length=(gZ q.W q.H 8).length)(Y:∀i,i<ms.length->iB p.W p.H (gC (gZ q.W q.H 8) i) (ms.getD i (0,0)))(T:pU p q ms)(hT:∀j,j<ms.length->vD p q g o cap B c G (gC (gZ q.W q.H 8) j) (ms.getD j (0,0)))(hc:gu b8 w A (jy p q ms))(I:(jy p q ms).length<=capA)(hcm:capA<=9223372036854775807):Calls prog 24 #[gN p g o cap,.slice A (jy p q ms).length capA] w (ER w q):=by
 unfold ER;have bz:=h.ok;have⟨ss,an⟩:=zX (gZ q.W q.H 8);have ay:gZ p.W p.H 8=ss:=by rw[an,D.W,D.H]
 have a7:∀s∈ss,1<=s.w/\s.w<=8/\1<=s.h/\s.h<=8:=by rw[an];exact pQ (by decide)
 have aU:∀s∈ss,lT p.W p.H s:=λs hs=>by
  rw[an]at hs;obtain⟨a,b⟩:=o3 (by decide) s hs;exact⟨by rw[D.W];exact a,by rw[D.H];exact b⟩
 have cA:ss.length<=4096:=by rw[an];exact ox Q.w1 Q.h1
 rw[<-an]at hml Y hT;have ae:∀b∈iD p q ss ms ss.length,b<2:=by rw[an];exact T
 have⟨n,hn⟩:=zX ss.length;rw[<-hn]at ae cA;have cv:=r7 p q (ss:=ss) ms a7 Q.d0 Q.d1 Q.n1 n (by omega);have cz:0<n:=by
  rcases eq_zero_or_pos n with h0|h0
  .exfalso
   have t:=sE (w:=q.W) (h:=q.H) (s:=8) (by decide);rw[<-an,eq_nil_of_length_eq_zero (show ss.length=0 by omega)]at t;have C:=Q.pos;simp[area]at t;omega
  .exact h0
 have cw:=tS p q ss ms n;have⟨body,ab⟩:=zX (iE (kT (iD p q ss ms n)));have a2:jy p q ms=body++kz p body:=by
  unfold jy mS;rw[<-an,<-hn,ab]
 have aw:∀d∈body,d<256:=by rw[ab];exact uh (uH ae)
 have ai:body.length=(iD p q ss ms n).length / 8+(if (iD p q ss ms n).length%8=0 then 0 else 1):=by
  rw[ab,mL,rj];split<;>omega
 have⟨m,hm⟩:=zX body.length;have cJ:0<m:=by rw[hm,ai];split<;>omega
 have cK:m<=1000000000:=by rw[hm,ai];split<;>omega
 have⟨N,hN⟩:=zX ((jy p q ms).length);have ct:N=m+4:=by rw[hN,a2,zC,sY,hm]
 rw[<-hN]at I⊢;rw[a2]at hc;have bv:gu b8 w A body:=by
  have t:=hc.take body.length;rw[take_left]at t;exact t
 have eN:(N:Int)-4=(m:Int):=by omega
 have cD:=λf=>EL (P:=prog) underlying40 A N capA m (by omega) I f (uY f);obtain⟨A',bA,-,aP⟩:=sC (P:=prog) underlying40 uY A N capA m (by omega) I;have bN:N-m=4:=by omega
 rw[bN]at bA;have bQ:gu b8 w A' (kz p body):=by
  have t:=aP Nat b8 w _ (by rw[<-a2];exact hN.symm) hc;rw[hm,drop_left]at t;exact t
 have aO:∀f,gf [] w f->_:=λf (hc':gf [] w f)=>vX cap (h.Y hc') A capA body (bv.Y hc') aw (by omega) (by omega);have bw:∀f O c6,gf [] w f->gu b8 f (some ⟨O,0,none⟩) (kz p body)->_:=λf O c6 hc' h6=>B6 f A' (some ⟨O,0,none⟩) (capA-m) c6 (kz p body) (kz p body) (bQ.Y hc') h6 rfl (by rw[sY];omega);have aD:∀f,gf [] w f->_:=λf (hc':gf [] w f)=>N8 f A capA body (bv.Y hc') aw (by omega) (by omega) hcm;have a3:∀f,gf [] w f->_:=λf (hc':gf [] w f)=>vA cap (h.Y hc');have X:∀f,gf [] w f->_:=λf (hc':gf [] w f)=>Nx cap (h.Y hc');have S:=λf=>sS bz g o cap f;rw[ay]at S;rw[<-hm]at aO aD;have b1:(kz p body).length=4:=rfl;rw[b1]at bw
 have R:∀f i b F gP z xs gs,i<n->gf (b::gs) w f->iL f (jC p q (ss.take i) oS 0) gP z xs gs->iU f b F body (iD p q ss ms i).length->(∀x∈gP::gs,w.heap.size<=x)->(∀x∈F,w.heap.size<=x)->(∀x∈F,x∉gP::gs) ->
   Calls prog 55 #[.pointer (some ⟨b,0,none⟩),gN p g o cap,.agg #[.int .i64 p.W,.int .i64 p.H,.int .i64 p.d,.slice (some ⟨gP,0,none⟩) p.P.length z],iV (gC ss i)] f (λe w''=>e=.returned (.int .i64 0)/\iU w'' b F body (iD p q ss ms (i+1)).length/\iL w'' (jC p q (ss.take (i+1)) oS 0) gP z xs gs/\gf (b::gs) f w''):=by
  intro f i b F gP z xs gs hi bR ag aC hg hF cs;have a5:=a7 _ (jK (i:=i) (ss:=ss) (by omega));have bu:=aC.mem;have cy:z8 f p q g o B c G (ss.take i) (gC ss i) (ms.getD i (0,0)) b F body (iD p q ss ms i).length gP z xs gs:=by
   have cE:=hp.lt;refine⟨h.Z bR ?_,by rw[Nv p q _ _ oS];exact ag,aC,Q,D,aU _ (jK (by omega)),Y i (by omega),a5.1,a5.2.1,a5.2.2.1,a5.2.2.2,hp.Z bR ?_,?_,cs,?_,?_⟩
   .intro x r M
    have t:=h.lt x r;rcases zJ.1 M with rfl|C
    .have:=hF _ bu;omega
    .have:=hg x (by simp[C]);omega
   .intro M
    rcases zJ.1 M with e|C
    .have:=hF _ bu;omega
    .have:=hg 0 (by simp[C]);omega
   .intro x r M
    have t:=h.lt x r;rcases zJ.1 M with rfl|C
    .have:=hF _ bu;omega
    .have:=hg x (by simp[C]);omega
   .intro M
    have:=hF 0 M
    omega
   .intro M
    have:=hg 0 (by simp[M])
    omega
  have cu:jG body (iD p q ss ms i).length (kA p q (gC ss i) (ms.getD i (0,0))):=by rw[ab];exact IM ae hi
  have t:=hT i (by omega) _ _ _ _ _ _ _ _ _ _ cy cu;unfold gN at t;rw[oZ]at t;refine t.mono ?_;rintro e w'' ⟨rfl,C,h3,h4⟩;rw[<-zC,<-qg]at C;rw[Nw p q _ _ oS,<-Oe (by omega)]at h3;exact⟨rfl,C,h3,h4⟩
 have aR:jC p q (ss.take n) oS 0=q:=by
  rw[hn,zN,<-ay];exact Nu bz Q D oS
 have b3:jC p q (ss.take 0) oS 0=p:=by rw[take_zero];exact Kc oS
 have aj:8*body.length-(iD p q ss ms n).length=(8-(iD p q ss ms n).length%8)%8:=by rw[ab];exact Ka _
 have⟨L,hL⟩:=zX ((8-(iD p q ss ms n).length%8)%8);have cH:L<=7:=by omega
 have aT:jG body (iD p q ss ms n).length (gA 0 L):=by rw[ab,hL];exact Kb ae
 rw[<-hL]at aj;have bZ:gN q=λgP o' cap'=>.agg #[p.W,p.H,p.d,.slice (some ⟨gP,o',none⟩) p.P.length cap']:=by
  funext gP o' cap'
  unfold gN;rw[D.W,D.H,D.d,D.n]
 rw[bZ];unfold gN at a3 aO X S R⊢;unfold iV at R;have⟨k,hk⟩:=zX p.P.length;rw[<-hk]at a3 aO X S R⊢;have⟨w1,aE⟩:=zX (((w.alloc (.cells #[p.W,p.H,p.d,.slice (some ⟨g,o,none⟩) k cap] 25)).alloc (.cells #[(0:Int),(0:Int),(0:Int),.slice none 0 0] 25)));have aL:gn w1 w.heap.size 25 #[p.W,p.H,p.d,.slice (some ⟨g,o,none⟩) k cap]:=by rw[aE];exact(gn.new w _ _).alloc _
 have bO:gn w1 (w.heap.size+1) 25 #[(0:Int),(0:Int),(0:Int),.slice none 0 0]:=by rw[aE];exact gn.new2 w _ _ _
 have bK:gf [] w w1:=by rw[aE];exact((zR [] w).alloc _).alloc _
 have b4:w1.heap.size=w.heap.size+1+1:=by rw[aE,iO,iO]
 have aq:∀(E:List Nat) wz,gf E w1 wz->w.heap.size∉E->wz.cell? ⟨w.heap.size,0,none⟩=some (.int .i64 p.W)/\wz.cell? ⟨w.heap.size,1,none⟩=some (.int .i64 p.H)/\wz.cell? ⟨w.heap.size,2,none⟩=some (.int .i64 p.d)/\wz.cell? ⟨w.heap.size,3,none⟩=some (.slice (some ⟨g,o,none⟩) k cap):=λE wz hz hE=>
  ⟨(aL.Z hz hE).X 0,(aL.Z hz hE).X 1,(aL.Z hz hE).X 2,(aL.Z hz hE).X 3⟩
 have aQ:∀f O c6,gf [] w f->gu b8 f (some ⟨O,0,none⟩) (kz p body)->Calls prog 52 #[.slice A' 4 (capA-m),.slice (some ⟨O,0,none⟩) 4 c6] f λe w''=>e=.returned (.bool true)/\gf [] f w'':=λf O c6 a b=>(bw f O c6 a b).mono λe w'' h=>⟨by rw[h.1];simp,h.2⟩;have⟨cq,ba,HZ,HK⟩:=gz aE bK b4 aq;have⟨b7,ci,cd,co⟩:=gz bO aQ aO aD;have⟨cl,ce,ck,cj⟩:=gz a3 X S R;have⟨bd,cp,aH,bp⟩:=gz aR b3 aj aT;have HN:=gd hn;have t0:=gL N 4 (by omega);clear aE bK b4 aq bO bw aQ aO aD a3 X S R aR b3 aj aT hn hk hm bZ hL aL ay an a7 aU hml Y ae cv cz cw ab a2 aw ai hN ct bv aP bQ b1 bz h Q D hp hc T bN hT;go_enter func24,ntmps24;go_wp2_with fail;rw[<-cq.o];obtain⟨K,k1,k2,k3⟩:=HK.o [] w1 (zR _ _) (by simp);go_wp2_with fail;refine(cl.o w1 ba.o).mono ?_;rintro e w2 ⟨rfl,aY⟩;obtain⟨K,k1,k2,k3⟩:=HK.o [] w2 aY (by simp);have E2:gf [] w1 w2.drew:=aY.drew;have D2:gf [] w w2.drew:=(ba.o.tq aY).drew;clear aY;go_wp2_with fail
 go_region_held3 (λf=>f.cell? ⟨w.heap.size,0,none⟩=some (.int .i64 p.W)/\f.cell? ⟨w.heap.size,1,none⟩=some (.int .i64 p.H)/\f.cell? ⟨w.heap.size,2,none⟩=some (.int .i64 p.d)/\f.cell? ⟨w.heap.size,3,none⟩=some (.slice (some ⟨g,o,none⟩) k cap))
  (first|(go_keep;done)|exact HK.o [] _ (by first|exact E2.tq Z|exact(E2.tq Z).tq aZ) (by simp)|trivial)
  (first
   | (go_at_call 39;refine(cd.o _ D2).mono ?_;rintro e w6 ⟨O,c6,rfl,ar,Z,cx⟩)
   | (go_at_call 52;refine(ci.o _ _ _ (D2.tq Z) (by obtain⟨c',e',_,_,h6⟩ := gv.cells_b8 ar;exact h6)).mono ?_;rintro e w7 ⟨rfl,aZ⟩))
 have⟨bC,bE⟩:=gy ((D2.tq Z).tq aZ) ((E2.tq Z).tq aZ);have aD:=co.o w7 bC.o;clear K k1 k2 k3 D2 E2 Z aZ ar cx;go_wp2_with fail;refine aD.mono ?_;rintro e w8 ⟨b,F,rfl,aC,bs,hF⟩;have⟨aV,aW⟩:=gy (bC.o.tq bs) (bE.o.tq bs);have X:=ce.o w8 aV.o;obtain⟨K,k1,k2,k3⟩:=HK.o [] w8 aW.o (by simp);have bl:=gd aC;have aX:gh (∀x∈F,w1.heap.size<=x/\x<w8.heap.size):=gd (λx r=>⟨by have:=hF x r;have:=bE.o.size;omega,aC.lt x r⟩);clear aD aC bs hF;go_wp2_with fail;refine X.mono ?_;rintro e w9 ⟨gP,z,xs,gs,rfl,ag,aJ,bS⟩;have⟨cb,cg,aI,bm⟩:=gz (aV.o.tq aJ) (aW.o.tq aJ) aJ.size (bl.o.Z aJ (by simp));have bj:=gd ag;have aG:gh (∀x∈gP::gs,w8.heap.size<=x/\x<w9.heap.size):=gd (λx r=>⟨bS x r,by
  rcases zJ.1 r with rfl|t
  .exact ag.ltP
  .exact ag.pl.lt x t⟩)
 clear X ag aJ bS K k1 k2 k3;have⟨nb,a6⟩:=zX w9.heap.size;have⟨wA,a8⟩:=zX (w9.alloc (.cells #[p.W,p.H,p.d,.slice (some ⟨gP,0,none⟩) k z] 25));have aK:=jD a8;have bP:=qd a8 a6;have⟨br,bf,b9,cc⟩:=gz a8 a6 bP (cb.o.tq aK);have⟨bF,bn⟩:=gy (cg.o.tq aK) (bm.o.Z aK (by simp));have bh:gh (iL wA (jC p q (ss.take 0) oS 0) gP z xs gs):=gd (by rw[cp.o];exact bj.o.Y aK);obtain⟨K,k1,k2,k3⟩:=HK.o [] wA bF.o (by simp);rw[br.o]at K k1 k2 k3;have S:=ck.o wA;clear a8 a6 bP aK;go_wp2_with fail;rw[<-br.o,<-bf.o];refine S.mono ?_;rintro e wB ⟨v8,F8,rfl,b2,aB,bL⟩;obtain⟨A8,c8,rfl,cF,cG,aN,bJ⟩:=ic.open_ b2;have⟨bb,bD,ch,bo⟩:=gz aN (cc.o.tq aB) (bF.o.tq aB) (bn.o.Z aB (by simp));have bi:=gd (bh.o.Y aB);have bW:=b9.o.Z aB (by simp);have a9:=gd bW;have b5:gh (∀ad,A8=some ad->wA.heap.size<=ad.block):=gd (λad e=>by
  obtain⟨g8,rfl,hf,_⟩:=bJ ad e;exact bL g8 (by rw[hf];simp))
 rw[<-HN.o];clear S b2 aB bL aN bJ K k1 k2 k3 bW;go_wp2_with fail;have aM:∀x∈b::(F++gs),w1.heap.size<=x/\x<nb:=by
  have a7:=aW.o.size;have a6:=bf.o;intro x r;have bM:∀y∈F,w1.heap.size<=y/\y<nb:=λy hy=>by
   have:=aX.o y hy
   have:=aI.o
   omega
  rcases zJ.1 r with rfl|r
  .exact bM _ bl.o.mem
  .rcases zP.1 r with r|r
   .exact bM x r
   .have:=aG.o x (by simp[r])
    have:=aI.o
    omega
 have J:=gd aM;clear aM
 go_loopg [10,11,43] n (λj v10 v11 v43 wr=>∃i:Nat,v43=.int .i64 i/\i+j=n/\gh (iU wr b F body (iD p q ss ms i).length)/\gh (iL wr (jC p q (ss.take i) oS 0) gP z xs gs)/\gh (gf (b::gs) wB wr))
 .exact⟨0,rfl,by omega,gd (by simpa[iD]using bo.o),bi,gd (zR _ _)⟩
 obtain⟨i,rfl,cI,HR,HO,az⟩:=hrel;have cf:gh (gf (b::gs) w wr):=gd ((bD.o.mono (by simp)).tq az.o);have bc:gh (gf (b::gs) w1 wr):=gd ((ch.o.mono (by simp)).tq az.o);have al:∀y,y<w1.heap.size->y∉b::gs:=λy hy hm=>by
  rcases zJ.1 hm with e|t
  .have:=J.o b (by simp);omega
  .have:=J.o y (by simp[t]);omega
 obtain⟨K,k1,k2,k3⟩:=HK.o (b::gs) wr bc.o (al _ (by have:=HZ.o;omega));have ax:nb∉b::gs:=λhm=>by
  rcases zJ.1 hm with e|t
  .have:=J.o b (by simp);omega
  .have:=J.o nb (by simp[t]);omega
 have af:=a9.o.Z az.o ax;have⟨n0,n1,n2,n3⟩:=jM af;simp at n0 n1 n2 n3;rcases gk with _|j
 .obtain rfl:i=n:=by omega
  have t1:decide (i<i)=false:=by simp
  have bx:=Fb wr b F body _ HR.o;rw[aH.o]at bx;have bg:=gd af;have bk:=gd (b7.o.Z bc.o (al _ (by have:=HZ.o;omega)));clear af ax al;go_wp2_with fail;refine bx.mono ?_;rintro e wC ⟨rfl,nq,rfl⟩;have t5:=kK 8 L (by omega);have bT:=qY _ b F body _ L 0 (HR.o.Z ((zR [] wr).drewN nq) (by simp)) (by omega) (Nat.two_pow_pos L) bp.o;clear bx;go_wp2_with fail;refine bT.mono ?_;rintro e wD ⟨rfl,cB,bH⟩;have a0:gf [b] wr wD:=(((zR [] wr).drewN nq).mono (by simp)).tq bH;have aS:=bg.o.Z a0 (λhm=>by
   simp at hm
   have:=J.o b (by simp)
   omega)
  have⟨n0,n1,n2,n3⟩:=jM aS;simp at n0 n1 n2 n3;have U:=bk.o.Z a0 (λhm=>by
   simp at hm
   have:=J.o b (by simp)
   have:=HZ.o
   omega)
  have⟨z0,z1,z2,z3⟩:=rU U 0 1 2 3;have⟨r0,r1,r2,r3⟩:=jM U;simp at r0 r1 r2 r3;have⟨bq,aF⟩:=gy U a0;clear bT cB bH aS U K k1 k2 k3 a0;go_wp2_with fail;have⟨rb,cC⟩:=zX (w.heap.size+1);have U:=bq.o;rw[<-cC]at U⊢;have⟨wE,bB⟩:=zX ((((wD.setCell rb (.int .i64 p.W)).setCell ⟨rb,1,none⟩ (.int .i64 p.H)).setCell ⟨rb,2,none⟩ (.int .i64 p.d)).setCell ⟨rb,3,none⟩ (.slice (some ⟨gP,0,none⟩) k z));have a4:gn wE rb 25 #[p.W,p.H,p.d,.slice (some ⟨gP,0,none⟩) k z]:=by
   rw[bB]
   have:=(((U.T 0 (.int .i64 p.W)).T 1 (.int .i64 p.H)).T 2 (.int .i64 p.d)).T 3 (.slice (some ⟨gP,0,none⟩) k z)
   simpa using this
  have bI:gf [rb] wD wE:=by
   rw[bB];exact((((zR [rb] wD).zs 0 _).zs 1 _).zs 2 _).zs 3 _
  have⟨g0,g1,g2,g3⟩:=jM a4;simp at g0 g1 g2 g3;rw[<-bB];refine bodyPost_ret (v:=.tuple #[.agg #[.int .i64 p.W,.int .i64 p.H,.int .i64 p.d,.slice (some ⟨gP,0,none⟩) k z],(0:Int)]) (by simp[results,results24,go_sem,g0,g1,g2,g3]) rfl ?_;have a1:∀x∈gP::gs,x∉[b]/\x∉[rb]:=λx r=>by
   have t:=aG.o x r;have C:=aX.o b bl.o.mem;have h3:=HZ.o;have h4:=aW.o.size;refine⟨?_,?_⟩
   .simp
    omega
   .simp
    omega
  have bY:=HO.o;rw[bd.o]at bY;refine⟨gP,z,xs,gs,rfl,?_,?_,λx r=>?_⟩
  .exact(bY.Z aF.o (a1 gP (by simp)).1 (λx r=>(a1 x (by simp[r])).1)).Z bI (a1 gP (by simp)).2 (λx r=>(a1 x (by simp[r])).2)
  .refine(bD.o.trans (az.o.tq (aF.o.mono (by simp))) ?_).trans bI ?_
   .intro x r
    right;have t:=HZ.o;rcases zJ.1 r with rfl|C
    .have:=J.o x (by simp);omega
    .have:=J.o x (by simp[C]);omega
   .intro x r
    simp at r;right;omega
  .have t:=aG.o x r
   have C:=aV.o.size;omega
 .have hi:i<n:=by omega
  have bV:i<ss.length:=by rw[<-HN.o];exact hi
  have aN:gu (λv=>v) wr A8 (ss.flatMap nE):=bb.o.Z az.o (λad e hm=>by
   have t:=b5.o ad e;have C:=bf.o;have h3:wA.heap.size=nb+1:=(by rw[br.o,iO,<-C]);rcases zJ.1 hm with e2|h4
   .have:=J.o b (by simp);omega
   .have:=J.o ad.block (by simp[h4]);omega)
  obtain⟨g8,o8,cr,x0,x1,x2,x3⟩:=oE aN bV;subst cr;have V:gf [] wr (wr.alloc (.cells #[.int .i64 ((gC ss i).x:Int),.int .i64 ((gC ss i).y:Int),.int .i64 ((gC ss i).w:Int),.int .i64 ((gC ss i).h:Int)] 49)):=(zR [] wr).alloc _;obtain⟨c0,c1,c2,c3⟩:=HK.o (b::gs) _ (bc.o.tq (V.mono (by simp))) (al _ (by have:=HZ.o;omega));have ak:=af.Z V (by simp);have⟨d0,d1,d2,d3⟩:=jM ak;simp at d0 d1 d2 d3;have R:=cj.o _ i b F gP z xs gs hi (cf.o.tq (V.mono (by simp))) (HO.o.Y V) (HR.o.Z V (by simp)) (λx r=>by have:=aG.o x r;have:=aV.o.size;omega) (λx r=>by have:=aX.o x r;have:=ba.o.size;omega) (λx r hm=>by have:=aX.o x r;have:=aG.o x hm;omega);have⟨be,b6⟩:=gy R V;clear R V ak af ax al aN bV;go_wp2_with fail;refine be.o.mono ?_;rintro e w5 ⟨rfl,b0,bX,bG⟩;have⟨cn,cm⟩:=gy b0 bX;have ca:gh (gf (b::gs) wB w5):=gd ((az.o.tq (b6.o.mono (by simp))).tq bG);clear b0 bX bG K k1 k2 k3 n0 n1 n2 n3 c0 c1 c2 c3 d0 d1 d2 d3 x0 x1 x2 x3;go_wp2_with fail
  go_roundg j
  .exact⟨i+1,by go_num,by omega,cn,cm,ca⟩
  .omega
theorem IW{w:World}{p:gH}{B:Nat->Option Addr}{c:Nat->Nat}{G:List Nat}(cap:Nat)(h:gW w p g o B c G)(A:Option Addr)(capA:Nat)(body tail:List Nat)(t:∀d∈body,d<256)(hb0:0<body.length)(f:body.length<=1000000000)(I:tail.length=4)(D:tail≠kz p body)(T:gu b8 w A (body++tail))(j:(body++tail).length<=capA)(hcm:capA<=9223372036854775807):Calls prog 24 #[gN p g o cap,.slice A (body++tail).length capA] w λe w'=>e=.returned (.tuple #[.agg #[.int .i64 0,.int .i64 0,.int .i64 0,.slice none 0 0],(5:Int)])/\gf [] w w':=by
 have aJ:=h.ok;have⟨m,hm⟩:=zX body.length;have aN:0<m:=by omega
 have aO:m<=1000000000:=by omega
 have⟨N,hN⟩:=zX ((body++tail).length);have aH:N=m+4:=by rw[hN,zC,I,hm]
 rw[<-hN]at j⊢;have aw:gu b8 w A body:=by
  have C:=T.take body.length;rw[take_left]at C;exact C
 have eN:(N:Int)-4=(m:Int):=by omega
 have aL:=λw'=>EL (P:=prog) underlying40 A N capA m (by omega) j w' (uY w');obtain⟨Q,ao,-,Z⟩:=sC (P:=prog) underlying40 uY A N capA m (by omega) j;have au:N-m=4:=by omega
 rw[au]at ao;have ax:gu b8 w Q tail:=by
  have C:=Z Nat b8 w _ hN.symm T;rw[hm,drop_left]at C;exact C
 have z:∀w',gf [] w w'->_:=λw' (hc':gf [] w w')=>vX cap (h.Y hc') A capA body (aw.Y hc') t (by omega) (by omega);have R:∀w' r c6,gf [] w w'->gu b8 w' (some ⟨r,0,none⟩) (kz p body)->_:=λw' r c6 hc' S=>B6 w' Q (some ⟨r,0,none⟩) (capA-m) c6 tail (kz p body) (ax.Y hc') S (by rw[I];rfl) (by rw[I];omega);have O:∀w',gf [] w w'->_:=λw' (hc':gf [] w w')=>vA cap (h.Y hc');rw[<-hm]at z;have ay:(kz p body).length=4:=rfl;rw[ay,I]at R;unfold gN at O z⊢;have⟨k,hk⟩:=zX p.P.length;rw[<-hk]at O z⊢;have⟨w1,ae⟩:=zX (((w.alloc (.cells #[p.W,p.H,p.d,.slice (some ⟨g,o,none⟩) k cap] 25)).alloc (.cells #[(0:Int),(0:Int),(0:Int),.slice none 0 0] 25)));have f:gn w1 w.heap.size 25 #[p.W,p.H,p.d,.slice (some ⟨g,o,none⟩) k cap]:=by rw[ae];exact(gn.new w _ _).alloc _
 have av:gn w1 (w.heap.size+1) 25 #[(0:Int),(0:Int),(0:Int),.slice none 0 0]:=by rw[ae];exact gn.new2 w _ _ _
 have ar:gf [] w w1:=by rw[ae];exact((zR [] w).alloc _).alloc _
 have aM:w1.heap.size=w.heap.size+1+1:=by rw[ae,iO,iO]
 have X:∀(E:List Nat) wz,gf E w1 wz->w.heap.size∉E->wz.cell? ⟨w.heap.size,0,none⟩=some (.int .i64 p.W)/\wz.cell? ⟨w.heap.size,1,none⟩=some (.int .i64 p.H)/\wz.cell? ⟨w.heap.size,2,none⟩=some (.int .i64 p.d)/\wz.cell? ⟨w.heap.size,3,none⟩=some (.slice (some ⟨g,o,none⟩) k cap):=λE wz hz hE=>
  ⟨(f.Z hz hE).X 0,(f.Z hz hE).X 1,(f.Z hz hE).X 2,(f.Z hz hE).X 3⟩
 have ah:∀w' r c6,gf [] w w'->gu b8 w' (some ⟨r,0,none⟩) (kz p body)->Calls prog 52 #[.slice Q 4 (capA-m),.slice (some ⟨r,0,none⟩) 4 c6] w' λe w''=>e=.returned (.bool false)/\gf [] w' w'':=λw' r c6 a b=>(R w' r c6 a b).mono λe w'' h=>⟨by rw[h.1,zA D],h.2⟩;have⟨aF,aq,HK,az⟩:=gz ae ar X av;have⟨aD,aB,aE⟩:=gS ah z O;have t0:=gL N 4 (by omega);clear ae ar aM X av R ah z O hk hm f hN aH aw Z ax ay aJ h T au t I D;go_enter func24,ntmps24;go_wp2_with fail;rw[<-aF.o];obtain⟨k0,k1,k2,k3⟩:=HK.o [] w1 (zR _ _) (by simp);go_wp2_with fail;refine(aE.o w1 aq.o).mono ?_;rintro e U ⟨rfl,L⟩;obtain⟨k0,k1,k2,k3⟩:=HK.o [] U L (by simp);have K:gf [] w1 U.drew:=L.drew;have J:gf [] w U.drew:=(aq.o.tq L).drew;clear L;go_wp2_with fail
 go_region_held3 (λw'=>w'.cell? ⟨w.heap.size,0,none⟩=some (.int .i64 p.W)/\w'.cell? ⟨w.heap.size,1,none⟩=some (.int .i64 p.H)/\w'.cell? ⟨w.heap.size,2,none⟩=some (.int .i64 p.d)/\w'.cell? ⟨w.heap.size,3,none⟩=some (.slice (some ⟨g,o,none⟩) k cap))
  (first|(go_keep;done)|exact HK.o [] _ (by first|exact K.tq ad|exact(K.tq ad).tq M) (by simp)|trivial)
  (first
   | (go_at_call 39;refine(aB.o _ J).mono ?_;rintro e w6 ⟨r,c6,rfl,Y,ad,aI⟩)
   | (go_at_call 52;refine(aD.o _ _ _ (J.tq ad) (by obtain⟨c',e',_,_,S⟩ := gv.cells_b8 Y;exact S)).mono ?_;rintro e V ⟨rfl,M⟩))
 have⟨aA,aC⟩:=gy ((J.tq ad).tq M) ((K.tq ad).tq M);clear k0 k1 k2 k3 J K ad M Y aI;have y:=az.o.Z aC.o (by simp);have⟨z0,z1,z2,z3⟩:=rU y 0 1 2 3;have⟨r0,r1,r2,r3⟩:=jM y;simp at r0 r1 r2 r3;have am:=gd y;clear y;go_wp2_with fail;have⟨rb,aK⟩:=zX (w.heap.size+1);have y:=am.o;rw[<-aK]at y⊢;have⟨wE,ap⟩:=zX ((((V.setCell rb (.int .i64 0)).setCell ⟨rb,1,none⟩ (.int .i64 0)).setCell ⟨rb,2,none⟩ (.int .i64 0)).setCell ⟨rb,3,none⟩ (.slice none 0 0));have al:gn wE rb 25 #[(0:Int),(0:Int),(0:Int),.slice none 0 0]:=by
  rw[ap]
  have:=(((y.T 0 (.int .i64 0)).T 1 (.int .i64 0)).T 2 (.int .i64 0)).T 3 (.slice none 0 0)
  simpa using this
 have aG:gf [rb] V wE:=by
  rw[ap];exact((((zR [rb] V).zs 0 _).zs 1 _).zs 2 _).zs 3 _
 have⟨g0,g1,g2,g3⟩:=jM al;simp at g0 g1 g2 g3;rw[<-ap];refine bodyPost_ret (v:=.tuple #[.agg #[.int .i64 0,.int .i64 0,.int .i64 0,.slice none 0 0],(5:Int)]) (by simp[results,results24,go_sem,g0,g1,g2,g3]) rfl ?_;exact⟨rfl,aA.o.trans aG (λx hx=>by
  simp at hx;right;omega)⟩
def Ab(l:List Int)(W H d:Nat):Prop:=∀(w:World) (b:Nat) (F ds:List Nat) (p:Nat),iU w b F ds p->jJ w->0∉F->jG ds p (my l W H d) ->
 Calls prog 88 #[.pointer b,W,H,d] w (th w b F ds p l (my l W H d).length)
theorem Gx{w:World}{p q:gH}{B:Nat->Option Addr}{c:Nat->Nat}{G:List Nat}{bs:List Sq}{s:Sq}{m:Int × Int}{xs:List Value}{gs:List Nat}(cap:Nat)(h:z8 w p q g o B c G bs s m b F ds pos gP capP xs gs)(hT:∀i,i<p.P.length->Ab (iM p q i s m) s.w s.h p.d)(U:p9 p q s m=false)(hah:jG ds pos (kA p q s m)):Calls prog 55 #[.pointer b,gN p g o cap,gN (jC p q bs s 0) gP 0 capP,iV s] w (zm w p q bs s b F ds (pos+(kA p q s m).length) gP capP xs gs):=by
 have O:=h.was.ok;have aq:=h.qok;have Q:=h.ha;have hs:=h.hs;have S:=h.hm;obtain⟨dL,fP,fN,fO⟩:(1<=s.w/\s.w<=8/\1<=s.h/\s.h<=8):=⟨h.sw0,h.sw1,h.sh0,h.sh1⟩;have dH:s.x<=64:=by have:=hs.x;have:=O.w1;omega
 have dJ:s.y<=64:=by have:=hs.y;have:=O.h1;omega
 have fz:=O.w1;have fx:=O.h1;have bc:=S.fit;have dl:∀k,w.heap.size<=k->k∉b::gs:=λk d f=>by
  rcases zJ.1 f with rfl|t
  .have:=h.rd.lt _ h.rd.mem;omega
  .have:=h.now.pl.lt k t;omega
 have ct:=Q.n;have⟨n,hn⟩:=zX p.P.length;rw[<-hn]at ct;have⟨N,hN⟩:=zX (p.W*p.H);have⟨M,hM⟩:=zX (s.h*s.w);have fT:M<=64:=by rw[hM];exact zL fO fP
 have fy:0<M:=by rw[hM];exact Nat.mul_pos fN dL
 have fU:N<=4096:=by rw[hN];exact O.area
 have fZ:n<=4:=by rw[hn];exact O.n1
 have bH:∀w',gf (b::gs) w w'->∀i,i<n->_:=λw' hc i hi=>tv cap (h.was.Z hc h.gG) i (by rw[<-hn];exact hi) s m bc.x0 bc.x1 bc.y0 bc.y1 dH dJ;have bD:=λw'=>ux p.W p.H p.d n g o cap s m w' fz fx dH dJ (by omega) (by omega) (by have:=S.1;omega) (by have:=S.2.1;omega) (by have:=S.2.2.1;omega) (by have:=S.2.2.2.1;omega);rw[(oD p.W p.H s m).2 S]at bD;have db:=O.d0;have dc:=O.d1;have dF:∀v w,_:=λv w=>vd v p.d w db dc;unfold zm;unfold gN iV at bH⊢;unfold iV at bD;rw[<-hn]at bH⊢;rw[oZ,<-hn];show Calls _ _ #[_,_,.agg #[.int .i64 p.W,.int .i64 p.H,.int .i64 p.d,.slice gP n capP],_] _ _;have⟨w1,aD⟩:=zX ((((w.alloc (.cells #[p.W,p.H,p.d,.slice (some ⟨g,o,none⟩) n cap] 25)).alloc (.cells #[p.W,p.H,p.d,.slice gP n capP] 25)).alloc (.cells #[s.x,s.y,s.w,s.h] 49)));have aR:gn w1 w.heap.size 25 #[p.W,p.H,p.d,.slice (some ⟨g,o,none⟩) n cap]:=by rw[aD];exact((gn.new w _ _).alloc _).alloc _
 have cb:gn w1 (w.heap.size+1) 25 #[p.W,p.H,p.d,.slice gP n capP]:=by rw[aD];exact(gn.new2 w _ _ _).alloc _
 have aS:gn w1 (w.heap.size+1+1) 49 #[s.x,s.y,s.w,s.h]:=by rw[aD];exact gn.new3 w _ _ _ _
 have bw:gf [] w w1:=by rw[aD];exact(((zR [] w).alloc _).alloc _).alloc _
 have az:∀(E:List Nat) wr,gf E w1 wr->(∀k,w.heap.size<=k->k∉E)->(wr.cell? ⟨w.heap.size,0,none⟩=some (.int .i64 p.W)/\wr.cell? ⟨w.heap.size,1,none⟩=some (.int .i64 p.H)/\wr.cell? ⟨w.heap.size,2,none⟩=some (.int .i64 p.d)/\wr.cell? ⟨w.heap.size,3,none⟩=some (.slice (some ⟨g,o,none⟩) n cap)) /\
   (wr.cell? ⟨w.heap.size+1,0,none⟩=some (.int .i64 p.W)/\wr.cell? ⟨w.heap.size+1,3,none⟩=some (.slice gP n capP)) /\
   (wr.cell? ⟨w.heap.size+1+1,0,none⟩=some (.int .i64 s.x)/\wr.cell? ⟨w.heap.size+1+1,1,none⟩=some (.int .i64 s.y)/\wr.cell? ⟨w.heap.size+1+1,2,none⟩=some (.int .i64 s.w)/\wr.cell? ⟨w.heap.size+1+1,3,none⟩=some (.int .i64 s.h)):=λE wr hc e=>
  ⟨⟨(aR.Z hc (e _ (by omega))).X 0,(aR.Z hc (e _ (by omega))).X 1,(aR.Z hc (e _ (by omega))).X 2,(aR.Z hc (e _ (by omega))).X 3⟩,⟨(cb.Z hc (e _ (by omega))).X 0,(cb.Z hc (e _ (by omega))).X 3⟩,⟨(aS.Z hc (e _ (by omega))).X 0,(aS.Z hc (e _ (by omega))).X 1,(aS.Z hc (e _ (by omega))).X 2,(aS.Z hc (e _ (by omega))).X 3⟩⟩
 have ck:gP∉b::gs:=λf=>by
  rcases zJ.1 f with e|t
  .exact h.fG b h.rd.mem (by simp[e])
  .obtain⟨k,d,e⟩:=getElem_of_mem t
   have fE:k<(jC p q bs s 0).P.length:=(by rw[<-h.now.pl.lg];exact d);exact h.now.neP fE (zF d) e.symm
 have bh:=h.rd.Z bw (by simp)
 have bo:∀w2 pos',iU w2 b F ds pos'->gf [b] w1 w2->rP w1 p q bs s b F ds pos' gP capP xs gs w2 0:=λw2 pos' T hc=>
  ⟨T,(h.now.Y bw).Z hc (by simpa using λe=>ck (by simp[e])) (by
   intro x z f;simp at f;subst f;exact h.fG _ h.rd.mem (by simp[z])),hc.mono (by simp)⟩
 have cw:∀w2,gf (b::gs) w w2->jJ w2:=λw2 hc=>h.pts.Z hc λf=>by
  rcases zJ.1 f with e|t
  .exact h.f0 (by rw[e];exact h.rd.mem)
  .exact h.g0 t
 have c2:=h.fG;have cZ:=h.f0;have du:=λi=>KT Q i s;have bd:∀i,(gV p i s m).length=M:=λi=>by rw[ka,hM]
 have bb:∀i,i<n->(p.P.getD i []).length=N/\(q.P.getD i []).length=N:=λi hi=>⟨by rw[hN];exact O.len _ (mM (by omega)),by rw[hN,Q.W,Q.H];exact aq.len _ (mM (by omega))⟩;have aA:∀k,k<s.h->(s.y+k)*p.W+s.x+s.w<=N:=λk d=>by
  have t:=hs.x;have h2:s.y+k+1<=p.H:=by have:=hs.y;omega
  have h3:=mul_le_mul_right p.W h2;rw[succ_mul,zY p.H,<-hN]at h3;omega
 have a4:∀k,k<s.h->k*s.w+s.w<=M:=λk d=>by
  have h3:=mul_le_mul_right s.w (show k+1<=s.h by omega);rw[succ_mul,<-hM]at h3;exact h3
 have X:∀i k,i<n->k<s.h->_:=λi k hi d=>Hz (q:=q.P.getD i []) (l:=p.P.getD i []) (W:=p.W) (H:=p.H) (bs:=bs) (sx:=s.x) (sy:=s.y) (sw:=s.w) (sh:=s.h) (k:=k) (by rw[(bb i hi).1,(bb i hi).2]) (by rw[(bb i hi).1,hN]) hs.x hs.y d;have dd:∀i,(iM p q i s m).length=M:=λi=>by rw[q7,hM,zY]
 have de:∀i,gU p.d (iM p q i s m):=λi=>by rw[Q.d];exact uu _ _ _
 have dv:∀i,i<n->gU p.d (gV p i s m):=λi hi=>oA O (by omega) s m;have dE:∀i k,i<n->k<M->(jb (q.P.getD i []) p.W s.x s.y s.w s.h)[k]?=some (iw ((gV p i s m).getD k 0+(iM p q i s m).getD k 0) p.d):=λi k hi d=>by
  rw[<-du i,Q.d];exact Oj (oA aq (by omega) s (0,0)) (by rw[<-hM];exact d)
 have dw:∀i,(jb (q.P.getD i []) p.W s.x s.y s.w s.h).length=M:=λi=>by rw[pK,hM]
 have ba:∀i,i<n->kh (iM p q i s m) s.w s.h p.d<=7/\ik (kh (iM p q i s m) s.w s.h p.d) (iM p q i s m) s.w p.d=true:=λi hi=>by
  have t:=si (iM p q i s m) s.w s.h p.d;exact⟨t.1,t.2.1⟩
 have dD:∀w' i pos',i<n->iU w' b F ds pos'->gf (b::gs) w w'->jG ds pos' (my (iM p q i s m) s.w s.h p.d)->Calls prog 88 #[.pointer b,s.w,s.h,p.d] w' (th w' b F ds pos' (iM p q i s m) (my (iM p q i s m) s.w s.h p.d).length):=λw' i pos' hi T hc hah'=>
  hT i (by omega) w' b F ds pos' T (cw w' hc) cZ hah'
 have c8:kA p q s m=gA 2 2++(kC m++jq p q s m n):=by
  unfold kA;rw[if_neg (by rw[U];simp),ct]
 obtain⟨Z,dg⟩:∃Z:Nat,m.1+4=(Z:Int):=⟨(m.1+4).toNat,by have:=S.1;omega⟩;obtain⟨e2,dh⟩:∃e2:Nat,m.2+4=(e2:Int):=⟨(m.2+4).toNat,by have:=S.2.2.1;omega⟩;have fR:Z<=8:=by have:=S.2.1;omega
 have fS:e2<=8:=by have:=S.2.2.2.1;omega
 have bp:kC m=gA Z 4++gA e2 4:=by
  unfold kC;rw[dg,dh];rfl
 have z1:(Z:Int)-4=m.1:=by omega
 have z2:(e2:Int)-4=m.2:=by omega
 have y1:IntKind.i64.wrap (Z:Int)=(Z:Int):=IntWalk.i64_in _ (by omega);have y2:IntKind.i64.wrap (e2:Int)=(e2:Int):=IntWalk.i64_in _ (by omega);have⟨bv,fb,dY,fq⟩:=gz aD bH bD dF;have⟨ab,fl,fQ,cO⟩:=gz az bo cw c2;have⟨ax,cQ,dS,dR⟩:=gz bd bb aA a4;have⟨dP,b5,dW,ar⟩:=gz X bp ck dl;have⟨fg,cL,d7,d8⟩:=gz bh bw O aq;have⟨HA,dM,HN,d5⟩:=gz Q hah hn hN;have⟨HM,bS,dQ,d9⟩:=gz hM dd de dv;have⟨fo,fa,fm,dN⟩:=gz dE dw dD c8;obtain⟨⟨J,K,I,L⟩,⟨Y,b3⟩,⟨s0,s1,s2,s3⟩⟩:=az [] w1 (zR _ _) (by simp);clear aD aR cb aS bH bD dF az bo cw c2 bd bb aA a4 X bp ck dl bh bw O aq Q hah hn hN hM cZ dd de dv dE dw dD c8 du hs S bc U ct dg dh h ba hT;have ah:kA p q s m=gA 2 2++(kC m++jq p q s m n):=dN.o;have hh:=dM.o;rw[ah]at hh;have dj:=qY w1 b F ds pos 2 2 fg.o (by omega) (by decide) hh.left;have bB:=hh.right;rw[gJ]at bB;have a9:=bB.right;rw[qU]at a9;have bC:=bB.left;rw[b5.o]at bC;have dm:=bC.left;have cn:=bC.right;rw[gJ]at cn;have⟨posE,cv⟩:=zX (pos+2+4+4);have be:pos+2+8=posE:=by omega
 rw[be]at a9;have bT:gh (pos+(kA p q s m).length=posE+(jq p q s m n).length):=gd (by rw[ah,zC,zC,gJ,qU,cv];omega);have dy:q.d=p.d:=HA.o.d.symm;have cN:gh (∀i,jq p q s m (i+1)=jq p q s m i++my (iM p q i s m) s.w s.h p.d):=gd (λi=>by rw[<-dy];exact rX p q s m i);have bf:∀k i,i+k=n->∃rest,jq p q s m n=jq p q s m i++rest:=by
  intro k
  induction k with
  | zero=>intro i h;exact⟨[],by rw[append_nil,show i=n by omega]⟩
  | succ k ih=>
   intro i h;obtain⟨r,T⟩:=ih (i+1) (by omega);exact⟨_,by rw[T,rX,zH]⟩
 have bK:gh (∀i,i<n->jG ds (posE+(jq p q s m i).length) (my (iM p q i s m) s.w s.h p.d)):=gd (λi hi=>by
  obtain⟨r,T⟩:=bf (n-(i+1)) (i+1) (by omega);rw[T,cN.o i,zH]at a9;exact a9.right.left)
 clear a9 bC be dy bf;have a5:=λw' T=>qY w' b F ds (pos+2) 4 Z T (by omega) (by omega) dm;have aJ:=λw' T=>qY w' b F ds (pos+2+4) 4 e2 T (by omega) (by omega) cn;rw[<-cv]at aJ;have⟨dT,dU⟩:=gy a5 aJ;clear ah cv hh bB dm cn a5 aJ;go_enter func55,ntmps55;go_wp2_with fail;rw[<-bv.o];refine dj.mono ?_;rintro e w2 ⟨rfl,cz,cU⟩;have ai:=vt w2 b F ds _ cz;have a5:=dT.o w2 cz;have bO:=gd cU;clear dj cz cU
 go_wp2_with(go_at_call 87;refine gx ai ?_)
 refine a5.mono ?_;rintro e w3 ⟨rfl,dz,cV⟩;have aJ:=dU.o w3 dz;have bP:=gd (bO.o.tq cV);clear a5 ai dz cV;go_wp2_with fail;refine aJ.mono ?_;rintro e w4 ⟨rfl,cC,cW⟩;have ai:=vt w4 b F ds _ cC;have⟨aL,fd⟩:=gy (bP.o.tq cW) cC;obtain⟨⟨J,K,I,L⟩,⟨Y,b3⟩,⟨s0,s1,s2,s3⟩⟩:=ab.o [b] w4 aL.o (λk d f=>ar.o k d (by simp at f;simp[f]));clear aJ cC cW
 go_wp2_with(go_at_call 87;refine gx ai ?_)
 refine(dY.o _).mono ?_;rintro e w5 ⟨rfl,an⟩;have aW:=aL.o.tq (an.mono (F':=[b]) (by simp));have bu:=gd (fl.o w5 posE (fd.o.Z an (by simp)) aW);obtain⟨⟨J,K,I,L⟩,⟨Y,b3⟩,⟨s0,s1,s2,s3⟩⟩:=ab.o (b::gs) w5 bu.o.Z ar.o;clear an aW ai;go_wp2_with fail;clear J K I L Y b3 s0 s1 s2 s3;have bm:=bu.o;have bu:gh (rP w1 p q bs s b F ds (posE+(jq p q s m 0).length) gP capP xs gs w5 0):=gd (by simpa[jq]using bm);clear bm
 go_loopg [14,15,16,17,18,19,67] n (λj v14 v15 v16 v17 v18 v19 v67 wr=>∃i:Nat,v67=.int .i64 i/\i+j=n/\gh (rP w1 p q bs s b F ds (posE+(jq p q s m i).length) gP capP xs gs wr i))
 .exact⟨0,rfl,by omega,bu⟩
 obtain⟨i,rfl,fY,C⟩:=hrel;rcases gk with _|j
 .obtain rfl:i=n:=by omega
  have t1:decide (i<i)=false:=by simp
  go_wp2_with fail;go_ret;have cG:=C.o;refine⟨rfl,?_,?_,?_⟩
  .rw[bT.o]
   exact cG.rd
  .exact cG.now
  .exact(cL.o.mono (by simp)).tq cG.Z
 .have hi:i<n:=by omega
  have bE:i<p.P.length:=by rw[<-HN.o];exact hi
  obtain⟨wr0,rfl⟩:=zX wr;have cd:gf (b::gs) w wr0:=(cL.o.mono (by simp)).tq C.o.Z;obtain⟨⟨J,K,I,L⟩,⟨Y,b3⟩,⟨s0,s1,s2,s3⟩⟩:=ab.o (b::gs) wr0 C.o.Z ar.o;have dx:=fb.o wr0 cd i hi;obtain⟨D,ci,bJ,cl,af,ac⟩:=C.o.now.plane (i:=i) (by rw[oZ];exact bE);have dr:(jC p q bs s i).P.getD i []=ky (q.P.getD i []) (p.P.getD i []) p.W bs:=by
   rw[zD,yS bs s i bE,if_neg (by omega)];rfl
  rw[dr]at af
  change gv wr0 3 (.slice D (p.W*p.H) ci) D _ at af
  change wr0.cell? ⟨gP,i,none⟩=some (.slice D (p.W*p.H) ci)at ac
  change xs[i]?=some (.slice D (p.W*p.H) ci)at bJ
  rw[<-d5.o]at af ac bJ;have aN:=C.o.now.ltP;have a7:D∈gs:=mem_of_getElem? cl;have aV:∀wz,gf (b::gs) wr0 wz->wz.cell? ⟨gP,i,none⟩=some (.slice D N ci):=λwz hz=>(World.cell?_of_block (w:=wr0) (hz.block gP aN dW.o)).trans ac;have b7:N<=ci:=by
   obtain⟨_,e,t,_⟩:=af.open_;injection e with _ e3 e4;subst e4;rw[zE,qu,(cQ.o i hi).1]at t;exact t
  have⟨fs,dV,cT,dO⟩:=gz bJ cl af aV;have⟨cP,cK,dZ⟩:=gS a7 cd bE;clear bJ cl af ac aV dr aN a7 cd bE;go_wp2_with fail;refine dx.mono ?_;rintro e w5 ⟨v5,F5,rfl,br,an,c0⟩;clear dx;rcases br.cases with⟨_,he,_⟩|⟨g5,aj,aM⟩
  .exfalso
   have:=ax.o i
   rw[List.map_eq_nil_iff.1 he]at this;simp at this;omega
  have aB:=aj;obtain⟨c5,rfl,cY,ft,ao,cg⟩:=aj.oq;have dk:wr0.heap.size<=g5:=c0 g5 (by rw[aM];simp);rw[ax.o i]at cY aB⊢;have⟨cS,aG⟩:=gy aB dk;have a8:D<wr0.heap.size:=cT.o.lt;have bV:=gd a8;clear br aj aB ao cg aM c0 dk a8 ft J K I L Y b3 s0 s1 s2 s3;have bi:=C.o.rd.Z an (by simp);have aO:=bK.o i hi;have aY:gf (b::gs) w w5:=cK.o.tq (an.mono (by simp));have aT:gf (b::gs) w1 w5:=C.o.Z.tq (an.mono (by simp));have aC:=fm.o w5 i _ hi bi aY aO;unfold th at aC;obtain⟨⟨J,K,I,L⟩,⟨Y,b3⟩,⟨s0,s1,s2,s3⟩⟩:=ab.o (b::gs) w5 aT ar.o;clear bi aO aY aT;go_wp2_with fail;refine aC.mono ?_;rintro e w6 ⟨v7,F7,rfl,aF,bj,b6,c1⟩;obtain⟨A7,c7,rfl,fu,fv,ce⟩:=aF.oq;have ch:=cS.o.lt;have cc:g5≠b:=λe=>by have:=aG.o;have:=C.o.rd.lt b C.o.rd.mem;omega
  have bl:=cS.o.Z b6 (by simpa using cc);have aP:∀ad,A7=some ad->ad.block≠g5:=λad e he=>by
   obtain⟨Y,o0,e0,fW,_⟩:=ce.ex (by rw[bS.o i];exact fy);rw[e]at e0;injection e0 with e0;have dt:=aF.apt (F':=[g5]) (l':=[()]) (by
    intro x z f;simp at f;subst f
    have:=c1 x z
    omega) (by simp) ad e
   simp at dt;exact dt he
  rw[bS.o i]at fu⊢;have⟨bZ,bY,bM,bL⟩:=gz bj bl ce aP;have cM:gh (gf [b] wr0 w6):=gd ((an.mono (by simp)).tq b6);clear aC aF bj ce bl aP c1 b6 an fv ch;have ae:gf (b::gs) w1 w6:=C.o.Z.tq (cM.o.mono (by simp));obtain⟨⟨J,K,I,L⟩,⟨Y,b3⟩,⟨s0,s1,s2,s3⟩⟩:=ab.o (b::gs) w6 ae ar.o;have aK:=gd ae;have⟨df,bz⟩:=zX (iM p q i s m);have⟨aw,bG⟩:=zX (gV p i s m);have⟨un,bI⟩:=zX (jb (q.P.getD i []) p.W s.x s.y s.w s.h);have av:=ax.o i;have cr:=bS.o i;have cs:=fa.o i;have cI:=dQ.o i;have cH:=d9.o i hi;have cm:=λk d=>fo.o i k hi d;rw[<-bG]at av cH;rw[<-bz]at cr cI;rw[<-bI]at cs;rw[<-bI,<-bG,<-bz]at cm;have ay:=bM.o;rw[<-bz]at ay;have bg:gv w6 3 (.slice g5 M c5) g5 ((k7 un aw 0).map vi):=by
   have t:=bY.o;rw[<-bG]at t
   simpa[k7]using t
  have⟨fc,bN,bW,d3⟩:=gz bg ay av cr;have⟨cR,fj,fk,dX⟩:=gz cs cI cH cm;have fp:=gd bI;clear ae bz bG bI av cr cs cI cH cm ay bg;go_wp2_with fail
  go_loopg [18,95] M (λj2 v18 v95 wr2=>∃k:Nat,v95=.int .i64 k/\k+j2=M/\gh (gv wr2 3 (.slice g5 M c5) g5 ((k7 un aw k).map vi))/\gh (gf [g5] w6 wr2))
  case atStart=>exact⟨0,rfl,by omega,fc,gd (zR _ _)⟩
  case round=>
  obtain⟨k,rfl,fH,aH,V⟩:=hrel;rcases gk with _|j2
  case succ=>
   have d:k<M:=(by omega);have t2:decide (k<M)=true:=zB d;have bF:k<aw.length:=(by rw[bW.o];exact d);have cq:k<df.length:=(by rw[d3.o];exact d);have ap:un.length=aw.length:=(by rw[cR.o,bW.o]);have dq:=Eo ap bF;obtain⟨_,-,-,-,aU,di⟩:=aH.o.oq;have aI:=aU k _ dq;have fX:=di k;have aQ:gM A7 df [g5]:=λ_ ad e f=>bL.o ad e (by simpa using f);obtain⟨ga,oa,fw,cf⟩:=(bN.o.Q aQ V.o).at_ cq;subst fw;have⟨x,z⟩:=zX (aw.getD k 0);have⟨y,hy⟩:=zX (df.getD k 0);have dK:df[k]=y:=(by rw[hy,zD,zF cq];rfl);rw[dK]at cf;rw[<-z]at aI;have cA:wr.cell? ⟨ga,oa+k,none⟩=some (.int .i64 y):=cf;have cB:wr.cell? ⟨g5,k,none⟩=some (.int .i64 x):=aI;obtain⟨fK,dG⟩:=nB fk.o k;obtain⟨fL,dI⟩:=nB fj.o k;rw[<-z]at fK dG;rw[<-hy]at fL dI;obtain⟨cx,cy⟩:=jl db dc;have f2:x<65536:=(by omega);have f3:y<65536:=(by omega);have bA:=dX.o k d;rw[<-z,<-hy]at bA;have aE:=fq.o (x+y);have⟨v,hv⟩:=zX (iw (x+y) p.d);rw[<-hv]at bA aE;have fr:gh (∀w,Calls prog 69 #[.int .i64 (x+y),p.d] w λe w'=>e=.returned (.int .i64 v)/\w'=w):=gd (λw=>(aE w).mono λe w' h=>⟨h.1,h.2.symm⟩);have aD:IntKind.i64.wrap (x+y)=x+y:=IntWalk.i64_in _ (by omega);have cj:∀k,k∈[g5]->w.heap.size<=k:=λk d=>by
    simp at d
    have:=aG.o
    have:=cK.o.size
    omega
   obtain⟨⟨J,K,I,L⟩,-,-⟩:=ab.o (b::gs) w6 aK.o ar.o;have au:g5≠w.heap.size:=λe=>by
    have:=aG.o
    have:=C.o.Z.size
    have:=bv.o
    have hz:w1.heap.size=w.heap.size+1+1+1:=(by rw[bv.o,iO,iO,iO]);omega
   have fM:w1.heap.size=w.heap.size+1+1+1:=(by rw[bv.o,iO,iO,iO]);have bq:w.heap.size<w6.heap.size:=(by have:=aK.o.size;omega);have b2:wr.cell? ⟨w.heap.size,2,none⟩=some (.int .i64 p.d):=(World.cell?_of_block (w:=w6) (V.o.block w.heap.size bq (by simpa using au.symm))).trans I;have bn:=Eq ap bF v bA;have⟨b4,d2,bX⟩:=gS bn bF ap;clear aI cf z hy dK bA aE hv bn aU di dq aQ cq bF dG dI J K I L cj ap cx cy au fM bq;go_wp2_with fail;refine jE 15 (by kernel_rfl) (by kernel_rfl) ?_;simp only[take_succ_cons,take_zero,drop_succ_cons,drop_zero]
   repeat(go_big_quiet_step ((go_at_call 69;exact Calls.quiet_of_same (fr.o _))))
   refine wpQuiet_nil ?_;intro _ cJ;obtain⟨nq,rfl⟩:=cJ;go_wp2_with fail
   go_roundg j2
   .refine⟨k+1,by go_num,by omega,gd ?_,gd ((V.o.drewN nq).setCell (p:=⟨g5,k,none⟩) (.inl (by simp)) _)⟩
    have t:=(aH.o.drewN nq).T (i:=k) (by rw[zE,Ep bX.o];exact d2.o) (.int .i64 v);have e:((k7 un aw k).map vi).set k (.int .i64 v)=(k7 un aw (k+1)).map vi:=(by rw[<-b4.o,map_set];rfl);rw[e]at t;exact t
   .omega
  obtain rfl:k=M:=by omega
  have t2:decide (k<k)=false:=by simp
  have cD:=aH.o;rw[show k7 un aw k=jb (q.P.getD i []) p.W s.x s.y s.w s.h by
   rw[<-fp.o];unfold k7;rw[zT (by rw[cR.o];exact zQ _),drop_of_length_le (by rw[bW.o];exact zQ _),append_nil]]at cD
  obtain⟨w6',rfl⟩:=zX wr;obtain⟨M,rfl⟩:=zX k;have bk:iU w6' b F ds (posE+(jq p q s m i).length+(my (iM p q i s m) s.w s.h p.d).length):=bZ.o.Z V.o (λx z f=>by
   simp at f
   have:=aG.o
   have:=C.o.rd.lt x z
   omega)
  have b1:=gd bk;have am:gh (gf [b] wr0 w6'):=gd (cM.o.trans V.o (λx z=>by
   simp at z;subst z;exact .inr aG.o))
  have ae:gf (b::gs) w1 w6':=C.o.Z.tq (am.o.mono (by simp));obtain⟨⟨J,K,I,L⟩,⟨Y,b3⟩,⟨s0,s1,s2,s3⟩⟩:=ab.o (b::gs) w6' ae ar.o;have fe:=gd cD;clear cD bk ae;have dA:gv w6' 3 (.slice D N ci) D ((ky (q.P.getD i []) (p.P.getD i []) p.W (bs++[⟨s.x,s.y,s.w,0⟩])).map vi):=by
   rw[KL _ _ _ _ _ rfl];refine cT.o.Z am.o ?_;intro f;simp at f;subst f;exact cO.o _ C.o.rd.mem (by simp[cP.o])
  have fh:=gd dA;clear dA;go_wp2_with fail
  go_loopg [19,116] s.h (λj2 v19 v116 wr2=>∃k:Nat,v116=.int .i64 k/\k+j2=s.h/\gh (gv wr2 3 (.slice D N ci) D ((ky (q.P.getD i []) (p.P.getD i []) p.W (bs++[⟨s.x,s.y,s.w,k⟩])).map vi))/\gh (gf [D] w6' wr2))
  .exact⟨0,rfl,by omega,fh,gd (zR _ _)⟩
  obtain⟨k,rfl,fH,aH,V⟩:=hrel;have bx:gf (b::gs) wr0 wr:=(am.o.mono (F':=b::gs) (by simp)).trans V.o (λx z=>by
   simp at z;subst z;exact .inl (by simp[cP.o]))
  rcases gk with _|j2
  .have dp:k=s.h:=by omega
   have t2:decide (k<s.h)=false:=zA (by omega);have cF:=aH.o;rw[dp]at cF;have cu:=C.o.next d7.o d8.o HA.o dZ.o cO.o (by rw[fs.o]) dV.o b1.o am.o V.o cF;have aU:posE+(jq p q s m i).length+(my (iM p q i s m) s.w s.h p.d).length=posE+(jq p q s m (i+1)).length:=(by rw[cN.o i,zC];omega);rw[aU]at cu;clear aU;have d6:=gd cu;clear cF cu dp bx;go_wp2_with fail
   go_roundg j
   .exact⟨i+1,by go_num,by omega,d6⟩
   .omega
  .have d:k<s.h:=by omega
   have t2:decide (k<s.h)=true:=zB d;have⟨Yk,c4⟩:=zX (s.y+k);have eY:(s.y:Int)+(k:Int)=(Yk:Int):=(by omega);have aA:=dS.o k d;have a4:=dR.o k d;have X:=dP.o i k hi d;rw[<-c4]at aA X;have⟨P0,b9⟩:=zX (Yk*p.W);have eP:(Yk:Int)*(p.W:Int)=(P0:Int):=(by rw[b9];simp);rw[<-b9]at aA X;have⟨at_,c6⟩:=zX (P0+s.x);have eQ:(P0:Int)+(s.x:Int)=(at_:Int):=(by omega);rw[<-c6]at aA X;have⟨lo,av⟩:=zX (k*s.w);have eL:(k:Int)*(s.w:Int)=(lo:Int):=(by rw[av];simp);rw[<-av]at a4 X;have⟨k1,dn⟩:=zX (k+1);have eK:(k:Int)+1=(k1:Int):=(by omega);have⟨cp,co⟩:=zX (lo+s.w);have eH:(k1:Int)*(s.w:Int)=(cp:Int):=(by rw[dn,co,av];simp[Int.add_mul]);have ca:at_<N:=(by omega);have fJ:=Nd (P:=prog) underlying22 oY D N ci at_ ca b7;obtain⟨A',f1,-,aI⟩:=sN (P:=prog) underlying22 oY (some ⟨g5,0,none⟩) M c5 lo s.w cp co (by omega) cY;have a6:g5∉[D]:=λf=>by
    simp at f
    have:=aG.o
    have:=bV.o
    omega
   have aB:=fe.o.Z V.o a6;obtain⟨_,-,-,-,ao,-⟩:=aB.oq;have c9:gu vi wr (some ⟨g5,0,none⟩) (jb (q.P.getD i []) p.W s.x s.y s.w s.h):=⟨λ_=>⟨g5,0,rfl,aB.lt,λk a d=>by rw[Nat.zero_add];exact ao k a d⟩⟩;have⟨R,hR⟩:=zX (((jb (q.P.getD i []) p.W s.x s.y s.w s.h).drop lo).take s.w);have da:gu vi wr A' R:=(by rw[hR];exact aI Int vi wr _ (by rw[pK,HM.o]) c9);have c3:R.length=s.w:=(by rw[hR,zI,zO,pK,<-HM.o];omega);rw[<-hR]at X;have dB:((ky (q.P.getD i []) (p.P.getD i []) p.W (bs++[⟨s.x,s.y,s.w,k⟩])).map vi).length=N:=(by rw[zE,qu,(cQ.o i hi).1]);have fC:=dO.o wr bx;have aX:gf (b::gs) w1 wr:=C.o.Z.tq bx;obtain⟨⟨J,K,I,L⟩,⟨Y,b3⟩,⟨s0,s1,s2,s3⟩⟩:=ab.o (b::gs) wr aX ar.o;have⟨bR,bQ,fi,d4⟩:=gz da X c3 dB;have fA:Yk<=72:=(by omega);have fV:P0<=4096:=(by omega);have fB:at_<=4096:=(by omega);have fI:lo<=64:=(by omega);have fD:cp<=64:=(by omega);have fF:k1<=8:=(by omega);have aZ:gh (at_+s.w<=N/\s.w<=N-at_):=gd ⟨by omega,by omega⟩;clear c4 b9 c6 av dn co aA a4 X aI a6 aB ao c9 hR da c3 dB aX bx J K I L;go_wp2_with fail;refine jE 27 (by kernel_rfl) (by kernel_rfl) ?_;simp only[take_succ_cons,take_zero,drop_succ_cons,drop_zero]
   repeat(go_big_quiet_step (fail))
   refine wpQuiet_nil ?_;intro _ cJ;obtain⟨nq,rfl⟩:=cJ;have dC:=aH.o.drewN nq
   go_wp2_with(refine Gb rfl (.tmp 134) (.tmp 145) 22 22 rfl underlying22 (by kernel_rfl) dC at_ (N-at_) (ci-at_) s.w (c5-lo) rfl rfl (R.map vi) ?n1 ?n2 ?n3 ?n4 ?n5 ?n6 ?_)
   case n1=>rw[zE];exact fi.o
   case n2=>exact dL
   case n3=>exact aZ.o.2
   case n4=>
    have t:=bR.o.drewN nq;refine⟨λh0=>?_⟩;obtain⟨b,o,Z,e2,e3⟩:=t.ex (by simpa using h0);refine⟨b,o,Z,e2,λi a Q=>?_⟩;rw[zW]at Q;obtain⟨x,z,rfl⟩:=Option.map_eq_some_iff.1 Q;exact e3 i x z
   case n5=>rw[d4.o];exact aZ.o.1
   case n6=>
    intro u hu;obtain⟨x,_,rfl⟩:=List.mem_map.1 hu;rfl
   intro w7 cE cX;rw[<-zD,<-zD,bQ.o]at cE;have ff:=gd cE;have bM:gh (gf [D] w6' w7):=gd ((V.o.drewN nq).tq cX);clear cE cX dC;go_wp2_with fail
   go_roundg j2
   .exact⟨k+1,by go_num,by omega,ff,bM⟩
   .omega
def pA:gH:=⟨3,1,4,[[7,0,0]]⟩
def pB:gH:=⟨3,1,4,[[0,7,0]]⟩
theorem FG(l:List Int)(h:l.length=3)(d:gU 4 l):gH.Ok ⟨3,1,4,[l]⟩ where
 w0:=by simp
 w1:=by simp
 h0:=by simp
 h1:=by simp
 d0:=by simp
 d1:=by simp
 n0:=by simp
 n1:=by simp
 len:=λx hx=>by simp at hx;subst hx;exact h
 smp:=λx hx=>by simp at hx;subst hx;exact d
theorem z7:pA.Ok:=FG _ rfl (λv hv=>by simp at hv;rcases hv with rfl|rfl|rfl<;>decide)
theorem tG:pB.Ok:=FG _ rfl (λv hv=>by simp at hv;rcases hv with rfl|rfl|rfl<;>decide)
theorem vC:jv pA pB:=⟨rfl,rfl,rfl,rfl⟩
theorem OX:jv pA pA:=⟨rfl,rfl,rfl,rfl⟩
theorem yx:gZ 3 1 8=[⟨0,0,3,1⟩]:=by rfl
theorem FJ{m:Int × Int}(h:iB 3 1 ⟨0,0,3,1⟩ m):m=(0,0):=by
 obtain⟨a,b⟩:=m;obtain⟨_,_,_,_,f,j,r,t⟩:=h;simp only at f j r t;have d:a=0:=by omega
 have e:b=0:=by omega
 rw[d,e]
theorem FI{p q:gH}(d:p.W=3)(e:p.H=1)(f:q.W=3)(j:q.H=1){ms:List (Int × Int)}(x:ms.length=(gZ q.W q.H 8).length)(v:mP p q (gZ q.W q.H 8) ms (gZ q.W q.H 8).length):ms=[(0,0)]:=by
 rw[f,j,yx]at x v;obtain⟨c,h⟩:=v 0 (by simp);have r:=h.ok;rw[d,e]at r;have t:=FJ r
 match ms,x with
 | [m],_=>rw[show([m]:List (Int × Int)).getD 0 (0,0)=m from rfl]at t;rw[show m=(m.1,m.2)from rfl,t]
theorem EW:mS pA pA [(0,0)]=[0]:=by kernel_rfl
theorem Ny:iT pA pB ⟨0,0,3,1⟩ (0,0)=14:=by kernel_rfl
theorem Od:kw pA≠kw pB:=by decide +kernel
theorem LI{body:List Nat}(j:∀d∈body,d<256):kz pA body≠kz pB body:=λh=>by
 unfold kz at h;have f:∀p:gH,p.Ok->∀d∈body++iK (kw p),d<256:=λp hp d hd=>by
  rcases zP.1 hd with e|e
  .exact j d e
  .exact yR _ d e
 have e:=DK (tk (f pA z7)) (tk (f pB tG)) h;have r:iK (kw pA)=iK (kw pB):=by
  have k:=L8 j (mod_lt _ (by decide)) (mod_lt _ (by decide)) (mod_lt _ (by decide)) (mod_lt _ (by decide)) (mod_lt _ (by decide)) (mod_lt _ (by decide)) (mod_lt _ (by decide)) (mod_lt _ (by decide)) e;unfold iK;rw[k.1,k.2.1,k.2.2.1,k.2.2.2]
 exact Od (DK (rg z7) (rg tG) r)
theorem Hw{p q:gH}(e:q.Ok){ms:List (Int × Int)}(f:pU p q ms):0<(mS p q ms).length/\(mS p q ms).length<=1000000000/\∀d∈mS p q ms,d<256:=by
 have t:∀s∈gZ q.W q.H 8,1<=s.w/\s.w<=8/\1<=s.h/\s.h<=8:=pQ (by decide);have z:=ox e.w1 e.h1;have x:=r7 p q (ss:=gZ q.W q.H 8) ms t e.d0 e.d1 e.n1 _ (zQ _);have ad:=tS p q (gZ q.W q.H 8) ms (gZ q.W q.H 8).length;have y:0<(gZ q.W q.H 8).length:=by
  rcases eq_zero_or_pos (gZ q.W q.H 8).length with j|j
  .exfalso
   have r:=sE (w:=q.W) (h:=q.H) (s:=8) (by decide);rw[eq_nil_of_length_eq_zero j]at r;have C:=e.pos;simp[area]at r;omega
  .exact j
 have v:(mS p q ms).length=((iD p q (gZ q.W q.H 8) ms (gZ q.W q.H 8).length).length+7) / 8:=by
  unfold mS;rw[mL,rj];omega
 refine⟨by omega,by omega,?_⟩;unfold mS;exact uh (uH f)
theorem FF{w:World}{s t:Nat}(r:l.length=3)(f:gH.Ok ⟨3,1,4,[l]⟩)(d:gn w s 3 (l.map vi).toArray)(h:gn w t 22 #[.slice s 3 3]):gW w ⟨3,1,4,[l]⟩ t 0 (λ_=>some ⟨s,0,none⟩) (λ_=>3) [s,t] where
 ok:=f
 gG:=by simp
 lt:=λx hx=>by simp at hx;rcases hx with rfl|rfl;exact d.lt;exact h.lt
 X:=λi hi=>by
  simp at hi
  subst hi
  exact h.X 0
 cells:=λi hi=>by
  simp at hi
  subst hi
  refine⟨λ_=>⟨s,0,rfl,d.lt,λk a hk=>?_⟩⟩
  rw[Nat.zero_add,d.X k]
  have j:l[k]?=some a:=by simpa using hk
  simp[j]
 blk:=λi hi ad e=>by injection e with e;subst e;simp
 cap:=λi hi=>by simp
theorem J9:∀(f:Nat) (l:List Nat),0<f->0<l.length->5<=(mh f l).length
 | f+1,x::l,_,_=>by
  unfold mh;split
  .rw[zC,gJ]
   omega
  .rw[zC,gJ]
   omega
theorem Ia(freq:List Nat):(kn freq).length=freq.length:=by
 unfold kn;split
 .rw[length_set,zV]
 .exact nf _ _
theorem Mf{a b:Int}(t:a∈l)(v:b∈l)(h:a≠b):2<=(ig l).length:=by
 have f:=(ng l a).2 t;have j:=(ng l b).2 v
 match e:ig l with
 | []=>rw[e]at f;simp at f
 | [c]=>
  rw[e]at f j;simp at f j;exact absurd (f.trans j.symm) h
 | c::d::r=>simp
theorem KZ{d c:Nat}(f:c≠0)(m:Nat)(h:jg l W H d m=(k,c))(j:c<=ja m l W H d):jg l W H d (m+1)=(k,c):=by
 rw[jg,h,if_neg (by rintro⟨_,e|e⟩<;>simp at e<;>omega)]
def lF(a c:Nat):Value:=.agg #[(3:Int),(1:Int),(4:Int),.slice a 1 c]
theorem rF(a c:Nat):gN pA a 0 c=lF a c:=by simp[gN,pA,lF]
theorem qE(a c:Nat):gN pB a 0 c=lF a c:=by simp[gN,pB,lF]
theorem NF:kh (iM pA pB 0 ⟨0,0,3,1⟩ (0,0)) 3 1 4=1:=by
 rw[show iM pA pB 0 ⟨0,0,3,1⟩ (0,0)=[9,7,0]by kernel_rfl];have y:2<=(ig [9,7,0]).length:=Mf (a:=9) (b:=7) (by simp) (by simp) (by decide);have t:jg [9,7,0] 3 1 4 1=(1,0):=by
  rw[jg,if_neg]
  .rfl
  .rintro⟨f,_⟩
   unfold ik at f;simp at f;omega
 have v:jg [9,7,0] 3 1 4 2=(1,15):=by
  rw[jg,if_pos ⟨rh _ _ _,Or.inl (by rw[t])⟩]
  kernel_rfl
 have c6:15<=ja 6 [9,7,0] 3 1 4:=by
  show 15<=(gA 6 3++pC [9,7,0] 4).length;unfold pC;rw[zC,zC,zC,gJ,gJ,ET];omega
 have r:15<=ja 7 [9,7,0] 3 1 4:=by
  show 15<=(gA 7 3++pN [9,7,0] 3 4).length;unfold pN oX;have j:0<(rm [9,7,0] 3 4).length:=by
   unfold rm;rw[Ia,sI];omega
  have f:=J9 (rm [9,7,0] 3 4).length (rm [9,7,0] 3 4) j j;rw[zC,zC,zC,gJ,gJ];omega
 have e:=λm h hc=>KZ (l:=[9,7,0]) (W:=3) (H:=1) (d:=4) (k:=1) (c:=15) (by decide) m h hc;have x:=e 7 (e 6 (e 5 (e 4 (e 3 (e 2 v (by decide +kernel)) (by decide +kernel)) (by decide +kernel)) (by decide +kernel)) c6) r;unfold kh;rw[x]
theorem OM:Ab (iM pA pB 0 ⟨0,0,3,1⟩ (0,0)) 3 1 4:=λw b F ds p h hp h0F ha=>by
 unfold my at ha⊢;rw[NF]at ha⊢;exact Nl h (by decide) (by decide) (by decide) (by decide) (by decide) (by decide) (q7 _ _ _ _ _) (uu _ _ _) ha
theorem Oy{ms:List (Int × Int)}(e:ms=[(0,0)]){B:Nat->Option Addr}{c:Nat->Nat}{G:List Nat}:∀j,j<ms.length->vD pA pB g o cap B c G (gC (gZ pB.W pB.H 8) j) (ms.getD j (0,0)):=by
 subst e;intro j h;have f:j=0:=by simpa using h
 subst f;show vD pA pB g o cap B c G (gC (gZ 3 1 8) 0) (0,0);rw[yx];exact λw bs b F ds pos gP capP xs gs hin hah=>Gx cap hin (λi hi=>by
  have d:i=0:=by simpa[pA]using hi
  subst d;exact OM) (by kernel_rfl) hah
section
variable {w:World} {a a':Nat} {B B':Nat->Option Addr} {c c':Nat->Nat} {G G':List Nat}
theorem NI(d:gW w pA a 0 B c G)(e:jJ w):Calls prog 14 #[lF a 1,lF a 1] w (uQ w pA pA):=by
 have h:=xX 1 d 1 d OX e;rw[rF]at h;exact h
theorem NJ(d:gW w pA a 0 B c G)(e:gW w pB a' 0 B' c' G')(f:jJ w):Calls prog 14 #[lF a 1,lF a' 1] w (uQ w pA pB):=by
 have h:=xX 1 d 1 e vC f;rw[rF,qE]at h;exact h
theorem NG(y:gW w pA a 0 B c G)(C:jJ w){ms:List (Int × Int)}(d:ms.length=(gZ pB.W pB.H 8).length)(f:mP pA pB (gZ pB.W pB.H 8) ms (gZ pB.W pB.H 8).length)(r:pU pA pB ms)(t:gu b8 w A (jy pA pB ms))(v:(jy pA pB ms).length<=capA)(x:capA<=9223372036854775807):Calls prog 24 #[lF a 1,.slice A (jy pA pB ms).length capA] w λe w'=>∃gP capP xs gs,e=.returned (.tuple #[lF gP capP,(0:Int)])/\iL w' pB gP capP xs gs/\gf [] w w':=by
 have h:=Mb 1 y tG vC C A capA ms d (Nt d f) r (Oy (FI rfl rfl rfl rfl d f)) t v x;rw[rF]at h;refine Calls.mono h ?_;rintro e w' ⟨gP,capP,xs,gs,rfl,z,j,_⟩;exact⟨gP,capP,xs,gs,by rw[qE],z,j⟩
theorem NH(t:gW w pB a' 0 B' c' G'){ms:List (Int × Int)}(j:pU pA pB ms)(d:gu b8 w A (jy pA pB ms))(f:(jy pA pB ms).length<=capA)(r:capA<=9223372036854775807):Calls prog 24 #[lF a' 1,.slice A (jy pA pB ms).length capA] w λe w'=>e=.returned (.tuple #[.agg #[.int .i64 0,.int .i64 0,.int .i64 0,.slice none 0 0],(5:Int)])/\gf [] w w':=by
 obtain⟨k1,k2,k3⟩:=Hw tG j;have e:jy pA pB ms=mS pA pB ms++kz pA (mS pA pB ms):=by unfold jy;rfl
 rw[e]at d f⊢;have h:=IW 1 t A capA (mS pA pB ms) (kz pA (mS pA pB ms)) k3 k1 k2 (sY _ _) (LI k3) d f r;rw[qE]at h;exact h
theorem Kz(C:gW w pA a 0 B c G)(D:gW w pB a' 0 B' c' G'):Calls prog 22 #[lF a 1,lF a' 1,(0:Int),(0:Int)] w λe w'=>e=.returned (.tuple #[(0:Int),(0:Int),(14:Int)])/\gf [] w w':=by
 have r:gZ pB.W pB.H 8=[⟨0,0,3,1⟩]:=yx;have f:=Db 1 C 1 D vC 0 0;rw[rF,qE]at f;refine Calls.mono f ?_;rintro e w' ⟨⟨v,x,c,s,rfl,d,E,I,h⟩|⟨h2,_⟩,ch⟩
 .rw[r]at d
  simp at d;subst d;have t:=FJ h.ok;have y:v=0:=congrArg Prod.fst t;have z:x=0:=congrArg Prod.snd t;subst y;subst z;have j:=h.cost;rw[Ny]at j;subst j;exact⟨rfl,ch⟩
 .exact absurd ⟨rfl,rfl⟩ (h2 ⟨0,0,3,1⟩ (by rw[r];simp))
theorem Ms(d:gW w pA a 0 B c G)(f:gW w pB a' 0 B' c' G'):Calls prog 16 #[lF a 1,lF a' 1] w λe w'=>e=.returned (.bool true)/\gf [] w w':=by
 have h:=sD 1 d 1 f vC;rw[rF,qE]at h;exact h
theorem NK(d:gW w pA a 0 B c G):Calls prog 16 #[lF a 1,.agg #[.int .i64 0,.int .i64 0,.int .i64 0,.slice none 0 0]] w λe w'=>e=.returned (.bool false)/\gf [] w w':=by
 have h:=IJ 1 d;rw[rF]at h;exact h
theorem NL{xs:List Value}{gs:List Nat}(f:iL w pB gP capP xs gs)(d:gW w pB a' 0 B' c' G'):Calls prog 25 #[lF gP capP,lF a' 1] w λe w'=>e=.returned (.bool true)/\gf [] w w':=by
 have h:=Jq capP f.at_ 1 d rfl rfl rfl rfl;rw[qE,qE]at h;exact h
theorem L0:(jy pA pA [(0,0)]).length=5:=by
 unfold jy;rw[EW,zC,sY];rfl
theorem LZ:(jy pA pA [(0,0)])[0]?=some 0:=by
 unfold jy;rw[EW];rfl
end
theorem KM(w:World)(K:jJ w):Calls prog 10 #[] w λe w'=>e=.returned (.bool true)/\gf [] w w':=by
 have⟨u1,aj⟩:=zX (w.alloc (.cells #[(7:Int),(0:Int),(0:Int)] 3));have⟨u2,ak⟩:=zX (u1.alloc (.cells #[.slice (some ⟨w.heap.size,0,none⟩) 3 3] 22));have⟨u3,al⟩:=zX (u2.alloc (.cells #[(3:Int),(1:Int),(4:Int),.slice (some ⟨w.heap.size+1,0,none⟩) 1 1] 25));have⟨u4,am⟩:=zX (u3.alloc (.cells #[(0:Int),(7:Int),(0:Int)] 3));have⟨u5,an⟩:=zX (u4.alloc (.cells #[.slice (some ⟨w.heap.size+1+1+1,0,none⟩) 3 3] 22));have⟨u6,av⟩:=zX (u5.alloc (.cells #[(3:Int),(1:Int),(4:Int),.slice (some ⟨w.heap.size+1+1+1+1,0,none⟩) 1 1] 25));have z1:u1.heap.size=w.heap.size+1:=by rw[aj,iO]
 have z2:u2.heap.size=w.heap.size+1+1:=by rw[ak,iO,z1]
 have z3:u3.heap.size=w.heap.size+1+1+1:=by rw[al,iO,z2]
 have z4:u4.heap.size=w.heap.size+1+1+1+1:=by rw[am,iO,z3]
 have z5:u5.heap.size=w.heap.size+1+1+1+1+1:=by rw[an,iO,z4]
 have c1:=jD aj;have c2:=jD ak;have c3:=jD al;have c4:=jD am;have c5:=jD an;have c6:=jD av;have b1:gn u6 (w.heap.size) 3 (#[(7:Int),(0:Int),(0:Int)]):=((((((show gn u1 (w.heap.size) 3 (#[(7:Int),(0:Int),(0:Int)])from by rw[aj];exact gn.new _ _ _).Z c2 (by simp)).Z c3 (by simp)).Z c4 (by simp)).Z c5 (by simp)).Z c6 (by simp));have b2:gn u6 (w.heap.size+1) 22 (#[.slice (some ⟨w.heap.size,0,none⟩) 3 3]):=(((((show gn u2 (w.heap.size+1) 22 (#[.slice (some ⟨w.heap.size,0,none⟩) 3 3])from by rw[ak,<-z1];exact gn.new _ _ _).Z c3 (by simp)).Z c4 (by simp)).Z c5 (by simp)).Z c6 (by simp));have I:gn u6 (w.heap.size+1+1) 25 (#[(3:Int),(1:Int),(4:Int),.slice (some ⟨w.heap.size+1,0,none⟩) 1 1]):=((((show gn u3 (w.heap.size+1+1) 25 (#[(3:Int),(1:Int),(4:Int),.slice (some ⟨w.heap.size+1,0,none⟩) 1 1])from by rw[al,<-z2];exact gn.new _ _ _).Z c4 (by simp)).Z c5 (by simp)).Z c6 (by simp));have b4:gn u6 (w.heap.size+1+1+1) 3 (#[(0:Int),(7:Int),(0:Int)]):=(((show gn u4 (w.heap.size+1+1+1) 3 (#[(0:Int),(7:Int),(0:Int)])from by rw[am,<-z3];exact gn.new _ _ _).Z c5 (by simp)).Z c6 (by simp));have b5:gn u6 (w.heap.size+1+1+1+1) 22 (#[.slice (some ⟨w.heap.size+1+1+1,0,none⟩) 3 3]):=((show gn u5 (w.heap.size+1+1+1+1) 22 (#[.slice (some ⟨w.heap.size+1+1+1,0,none⟩) 3 3])from by rw[an,<-z4];exact gn.new _ _ _).Z c6 (by simp));have J:gn u6 (w.heap.size+1+1+1+1+1) 25 (#[(3:Int),(1:Int),(4:Int),.slice (some ⟨w.heap.size+1+1+1+1,0,none⟩) 1 1]):=(show gn u6 (w.heap.size+1+1+1+1+1) 25 (#[(3:Int),(1:Int),(4:Int),.slice (some ⟨w.heap.size+1+1+1+1,0,none⟩) 1 1])from by rw[av,<-z5];exact gn.new _ _ _);have E:gf [] w u6:=(((((c1.tq c2).tq c3).tq c4).tq c5).tq c6);have t:gW u6 pA (w.heap.size+1) 0 (λ_=>some ⟨w.heap.size,0,none⟩) (λ_=>3) [w.heap.size,w.heap.size+1]:=FF rfl z7 b1 b2;have y:gW u6 pB (w.heap.size+1+1+1+1) 0 (λ_=>some ⟨w.heap.size+1+1+1,0,none⟩) (λ_=>3) [w.heap.size+1+1+1,w.heap.size+1+1+1+1]:=FF rfl tG b4 b5
 have ai:∀wz,gf [] u6 wz->(wz.cell? ⟨w.heap.size+1+1,0,none⟩=some (.int .i64 3)/\wz.cell? ⟨w.heap.size+1+1,1,none⟩=some (.int .i64 1)/\wz.cell? ⟨w.heap.size+1+1,2,none⟩=some (.int .i64 4)/\wz.cell? ⟨w.heap.size+1+1,3,none⟩=some (.slice (some ⟨w.heap.size+1,0,none⟩) 1 1)) /\
   (wz.cell? ⟨w.heap.size+1+1+1+1+1,0,none⟩=some (.int .i64 3)/\wz.cell? ⟨w.heap.size+1+1+1+1+1,1,none⟩=some (.int .i64 1)/\wz.cell? ⟨w.heap.size+1+1+1+1+1,2,none⟩=some (.int .i64 4)/\wz.cell? ⟨w.heap.size+1+1+1+1+1,3,none⟩=some (.slice (some ⟨w.heap.size+1+1+1+1,0,none⟩) 1 1)):=λwz hz=>
  ⟨⟨(I.Z hz (by simp)).X 0,(I.Z hz (by simp)).X 1,(I.Z hz (by simp)).X 2,(I.Z hz (by simp)).X 3⟩,⟨(J.Z hz (by simp)).X 0,(J.Z hz (by simp)).X 1,(J.Z hz (by simp)).X 2,(J.Z hz (by simp)).X 3⟩⟩
 have aS:=λwz (hz:gf [] u6 wz)=>NI (t.Y hz) ((K.Y E).Y hz);have aT:=λwz (hz:gf [] u6 wz)=>NJ (t.Y hz) (y.Y hz) ((K.Y E).Y hz);have Y:=λwz (hz:gf [] u6 wz) (A:Option Addr) (capA:Nat) (ms:List (Int × Int)) h1 h2 h3 h4 x h6=>NG (t.Y hz) ((K.Y E).Y hz) (A:=A) (capA:=capA) (ms:=ms) h1 h2 h3 h4 x h6;have Z:=λwz (hz:gf [] u6 wz) (A:Option Addr) (capA:Nat) (ms:List (Int × Int)) h3 h4 x h6=>NH (y.Y hz) (A:=A) (capA:=capA) (ms:=ms) h3 h4 x h6;have P:=λwz (hz:gf [] u6 wz)=>Kz (t.Y hz) (y.Y hz);have S:=λwz (hz:gf [] u6 wz)=>Ms (t.Y hz) (y.Y hz);have T:=λwz (hz:gf [] u6 wz)=>NK (t.Y hz);have O:=λwz gP v xs gs (hz:gf [] u6 wz) (ho:iL wz pB gP v xs gs)=>NL ho (y.Y hz);unfold lF at aS aT Y Z P S T O;have bD:gh (u6=(((((w.alloc (.cells #[(7:Int),(0:Int),(0:Int)] 3)).alloc (.cells #[.slice (some ⟨w.heap.size,0,none⟩) 3 3] 22)).alloc (.cells #[(3:Int),(1:Int),(4:Int),.slice (some ⟨w.heap.size+1,0,none⟩) 1 1] 25)).alloc (.cells #[(0:Int),(7:Int),(0:Int)] 3)).alloc (.cells #[.slice (some ⟨w.heap.size+1+1+1,0,none⟩) 3 3] 22)).alloc (.cells #[(3:Int),(1:Int),(4:Int),.slice (some ⟨w.heap.size+1+1+1+1,0,none⟩) 1 1] 25)):=gd (by rw[av,an,am,al,ak,aj]);have⟨bp,aa,aG,aH⟩:=gz E ai aS aT;have⟨aE,aF,aK,ax⟩:=gz Y Z P S;have⟨ay,aJ⟩:=gy T O;clear aj ak al am an av z1 z2 z3 z4 z5 c1 c2 c3 c4 c5 c6 b1 b2 I b4 b5 J E t y ai aS aT Y Z P S T O K;go_enter func10,ntmps10;go_wp2_with fail;rw[<-bD.o];refine(aG.o u6 (zR _ _)).mono ?_;rintro e w7 ⟨v3,G3,bL,rfl,ap,bi,bf,U,bH,bK⟩;have a7:=gd U;obtain⟨⟨d,f,h,j⟩,⟨r,d1,d2,d3⟩⟩:=aa.o w7 U;obtain rfl:=FI rfl rfl rfl rfl bi bf;have x:(jy pA pA [(0,0)]).length=5:=L0;obtain⟨g3,c3,rfl,au,-⟩:=y8 (N:=5) ap (by rw[zE];exact x) (by decide);have bA:=gd au;clear ap bi bf U bH bK au x;go_wp2_with fail;refine(aH.o w7 a7.o).mono ?_;rintro e L ⟨v5,G5,M,rfl,aq,bj,bg,V,bI,aY⟩;have z:=gd (a7.o.tq V);obtain⟨⟨d,f,h,j⟩,⟨r,d1,d2,d3⟩⟩:=aa.o L z.o;obtain⟨A5,c5,rfl,aU,aV,aX⟩:=aq.oq;have⟨a8,a9,aI⟩:=gS (aE.o L z.o A5 c5 M bj bg aY aX aU aV) (λwz (hz:gf [] L wz)=>aF.o wz (z.o.tq hz) A5 c5 M aY (aX.Y hz) aU aV) (bA.o.Z V (by simp));have⟨N5,bd⟩:=zX ((jy pA pB M).length);rw[<-bd]at a8 a9⊢;clear aq bj bg V bI aY aX aU aV bd;go_wp2_with fail;refine a8.o.mono ?_;rintro e w9 ⟨gP,v,xs,gs,rfl,ar,X⟩;have⟨bs,bq⟩:=gy ar X;obtain⟨⟨d,f,h,j⟩,⟨r,d1,d2,d3⟩⟩:=aa.o _ ((z.o.tq X).alloc (.cells #[(3:Int),(1:Int),(4:Int),.slice gP 1 v] 25));clear ar X;have⟨ob,aZ⟩:=zX w9.heap.size;have⟨wP,ao⟩:=zX (w9.alloc (.cells #[(3:Int),(1:Int),(4:Int),.slice gP 1 v] 25));have bh:=qd ao aZ;have ba:gf [] L wP:=by rw[ao];exact bq.o.alloc _
 have bv:gh (iL wP pB gP v xs gs):=gd (bs.o.Y (by rw[ao];exact(zR [] w9).alloc _));have⟨bm,az,bE,bu⟩:=gz bh ba ao aZ;clear bh ba ao aZ;go_wp2_with fail;rw[<-bE.o,<-bu.o];refine(a9.o wP az.o).mono ?_;rintro e wQ ⟨rfl,ad⟩;have⟨br,bw,bn,bB⟩:=gz (z.o.tq (az.o.tq ad)) (bv.o.Y ad) (bm.o.Z ad (by simp)) (aI.o.Z (az.o.tq ad) (by simp));have⟨wR,aw⟩:=zX (wQ.alloc (.cells #[(0:Int),(0:Int),(0:Int),.slice none 0 0] 25));have C:=jD aw;have⟨aA,bx,bo,bC⟩:=gz (br.o.tq C) (bw.o.Y C) (bn.o.Z C (by simp)) (bB.o.Z C (by simp));obtain⟨⟨d,f,h,j⟩,⟨r,d1,d2,d3⟩⟩:=aa.o wR aA.o;rw[aw]at d f h j r d1 d2 d3;have bF:=gd aw;clear ad C aw;go_wp2_with fail;rw[<-bF.o];refine(aK.o wR aA.o).mono ?_;rintro e wS ⟨rfl,D⟩;have⟨aB,bz⟩:=gy (aA.o.tq D) (bx.o.Y D);have ah:=bo.o.Z D (by simp);have bk:=bC.o.Z D (by simp);obtain⟨⟨d,f,h,j⟩,⟨r,d1,d2,d3⟩⟩:=aa.o wS aB.o;have⟨p0,p1,p2,p3⟩:=jM ah;simp at p0 p1 p2 p3;have x0:wS.cell? g3=some (.int .u8 0):=by
  obtain⟨_,_,_,_,bJ,_⟩:=bk.oq;exact bJ 0 0 LZ
 have bl:=aJ.o wS gP v xs gs aB.o bz.o;clear ah bk D;go_wp2_with fail;refine bl.mono ?_;rintro e wT ⟨rfl,bb⟩;have Q:=gd (aB.o.tq bb);obtain⟨⟨d,f,h,j⟩,⟨r,d1,d2,d3⟩⟩:=aa.o wT Q.o;have be:=ax.o wT Q.o;clear bl bb x0 p0 p1 p2 p3;go_wp2_with fail;refine be.mono ?_;rintro e wU ⟨rfl,bc⟩;have R:=gd (Q.o.tq bc);obtain⟨⟨d,f,h,j⟩,⟨r,d1,d2,d3⟩⟩:=aa.o wU R.o;have aW:=ay.o wU R.o;clear be bc;go_wp2_with fail;refine aW.mono ?_;rintro e wV ⟨rfl,bG⟩;go_wp2_with fail;go_ret;exact⟨rfl,bp.o.tq (R.o.tq bG)⟩
theorem World.size_setCell'(w:World)(p:Addr)(u:Value):(w.setCell p u).heap.size=w.heap.size:=by simp[World.setCell]
theorem Ad(w:World)(n:Nat):(w.drewN n).heap.size=w.heap.size:=rfl
def oo(m:Int × Int):Prop:=-200<=m.1/\m.1<=200/\-200<=m.2/\m.2<=200
theorem KP{w:World}{p:gH}(D:p.Ok)(g o cap:Nat)(b f at_:Nat)(A:Option Addr)(L:List Int)(h:jo w b A f L at_):Calls prog 8 #[.pointer b,gN p g o cap,.bool true] w λe w'=>∃(v:Value) (F:List Nat) (ms:List (Int × Int)),e=.returned v/\ic w' 48 2 v F ms.length (ms.flatMap lu)/\ms.length=(gZ p.W p.H 8).length/\(∀i,i<ms.length->oo (ms.getD i (0,0)))/\(∃C,jo w' b A f L C)/\gf [b] w w'/\∀x∈F,w.heap.size<=x:=by
 have⟨ss,aG⟩:=zX (gZ p.W p.H 8);have bw:∀s∈ss,1<=s.w/\s.w<=8/\1<=s.h/\s.h<=8:=by rw[aG];exact pQ (by decide)
 have au:∀s∈ss,s.x+s.w<=p.W/\s.y+s.h<=p.H:=by rw[aG];exact o3 (by decide)
 have bY:ss.length<=4096:=by rw[aG];exact ox D.w1 D.h1
 have aA:=λw'=>uo D g o cap w';rw[<-aG]at aA⊢;have⟨n,hn⟩:=zX ss.length;unfold gN at aA⊢;have⟨W,hW⟩:=zX p.W;have⟨H,hH⟩:=zX p.H;rw[<-hW,<-hH]at aA au⊢;have b7:W<=64:=by rw[hW];exact D.w1
 have b6:H<=64:=by rw[hH];exact D.h1
 have⟨w1,av⟩:=zX (w.alloc (.cells #[W,H,p.d,.slice (some ⟨g,o,none⟩) p.P.length cap] 25));have a2:gn w1 w.heap.size 25 #[W,H,p.d,.slice (some ⟨g,o,none⟩) p.P.length cap]:=by rw[av];exact gn.new w _ _
 have aP:gh (gf [] w w1):=gd (by rw[av];exact(zR [] w).alloc _);have bT:=h.blk.lt;have aB:=a2.lt;have bz:=h.fresh aP.o;have⟨bO,ba,bK,bE⟩:=gz av a2 bz aA;have⟨bJ,aX,HN,ac⟩:=gz bw au hn h.cells;have X:=gd aB;have bZ:n<=4096:=by omega
 clear aA bw au hn bY av a2 bz h aG D hW hH aB;go_enter func8,ntmps8;go_wp2_with fail;rw[<-bO.o];refine(bE.o w1).mono ?_;rintro e O ⟨v8,F8,rfl,bx,a0,bm⟩;obtain⟨A8,c8,rfl,b4,b5,bp,aj⟩:=ic.open_ bx;have aQ:=gd bp;have bd:gh (∀ad,A8=some ad->w1.heap.size<=ad.block):=gd (λad e=>by
  obtain⟨gg,e1,e2,-⟩:=aj ad e;rw[e1];exact bm gg (by rw[e2];simp))
 have⟨ae,bL⟩:=gy a0 (bK.o.fresh a0);rw[<-HN.o];clear bx a0 bm bp aj;go_wp2_with fail
 go_loopg [7,9,10] n (λj v7 v9 v10 wr=>∃(i:Nat) (ms:List (Int × Int)) (F:List Nat) (C:Nat),v9=.int .i64 i/\i+j=n/\gh (ic wr 48 2 v7 F i (ms.flatMap lu))/\gh (ms.length=i)/\gh (∀k,k<i->oo (ms.getD k (0,0)))/\gh (jo wr b A f L C)/\gh (gf [b] O wr)/\gh (∀x∈F,O.heap.size<=x))
 .exact⟨0,[],[],at_,rfl,by omega,gd (ic.nil _ _ _),gd rfl,gd (λk hk=>by omega),bL,gd (zR _ _),gd (by simp)⟩
 obtain⟨i,ms,F,C,rfl,cd,HO,P,HM,HT,bc,HF⟩:=hrel;rcases gk with _|j
 .obtain rfl:i=n:=by omega
  have t1:decide (i<i)=false:=by simp
  go_wp2;go_ret;refine⟨_,F,ms,rfl,by rw[P.o];exact HO.o,by rw[P.o];exact HN.o,by rw[P.o];exact HM.o,⟨C,HT.o⟩,((aP.o.tq ae.o).mono (by simp)).tq bc.o,λx d=>?_⟩;have I:=HF.o x d;have h2:=(aP.o.tq ae.o).size;omega
 .have hi:i<n:=by omega
  have t1:decide (i<n)=true:=zB hi;have bv:=mC wr b f C 9 A L HT.o (by omega) (by omega);go_wp2_with fail;refine bv.mono ?_;rintro e w5 ⟨z,a5,rfl,ca,bA,aI⟩;have aE:=mC w5 b f a5 9 A L bA (by omega) (by omega);clear bv bA;go_wp2_with fail;refine aE.mono ?_;rintro e w6 ⟨d1,a6,rfl,cb,bB,aJ⟩;have Y:gf [b] O w6:=(bc.o.tq aI).tq aJ;have aL:i<ss.length:=by rw[<-HN.o];exact hi
  have aj:∀ad,A8=some ad->ad.block∉[b]:=λad e hm=>by
   obtain⟨b0,o0,N,bS,_⟩:=aQ.o.ex (by rw[zx];omega);rw[e]at N;injection N with N;subst N;have h9:=bd.o _ e;have h8:=X.o;simp at hm h9;omega
  obtain⟨g8,o8,bR,x0,U,x2,V⟩:=oE (aQ.o.Z Y aj) aL;subst bR;obtain⟨bD,av,bq,br⟩:=bJ.o _ (jK aL);obtain⟨d,hy⟩:=aX.o _ (jK aL);have⟨s,hs⟩:=zX (gC ss i);rw[<-hs]at x0 U x2 V bD av bq br d hy;obtain⟨sx,sy,sw,sh⟩:=s;simp only at x0 U x2 V bD av bq br d hy;have b3:=gd hs;have c0:=((ba.o.Z ae.o (by simp)).Z Y (by simp;omega)).X 0;have c1:=((ba.o.Z ae.o (by simp)).Z Y (by simp;omega)).X 1;simp at c0 c1;have⟨w7,aN⟩:=zX (w6.alloc (.cells #[.int .i64 ((z:Int)-4),.int .i64 ((d1:Int)-4)] 48));have J:=jD aN;have⟨mb,aC⟩:=zX w6.heap.size;have aw:=qd aN aC;have k0:=aw.X 0;have k1:=aw.X 1;have⟨z0,z1⟩:=pt aw 0 1;simp at k0 k1;have x0:=J.X (by simp) x0;have U:=J.X (by simp) U;have x2:=J.X (by simp) x2;have V:=J.X (by simp) V;have c0:=J.X (by simp) c0;have c1:=J.X (by simp) c1;have⟨bP,bg,bf,ay⟩:=gz aN aC aw (Y.trans J (by simp));have bh:gh (gf [b] wr w7):=gd ((aI.tq aJ).trans J (by simp));have bi:gh (wr.heap.size<=mb):=gd (by rw[aC];exact(aI.tq aJ).size);have bo:gh (O.heap.size<=mb):=gd (by rw[aC];exact Y.size);have bk:=gd (bB.fresh J);have bW:g8<mb/\w.heap.size<mb:=by
   obtain⟨b0,o0,N,bS,_⟩:=aQ.o.ex (by rw[zx];omega);injection N with N;injection N with N _ _;subst N;have q2:=ae.o.size;have q3:=X.o;have q4:=Y.size;omega
  obtain⟨bX,a3⟩:=bW;have b9:b<mb:=by have:=X.o;have:=a3;omega
  have aF:=λ(ht:jo w7 b A f L a6)=>mC w7 b f a6 20 A L ht (by omega) (by omega);have aV:=gd (aF bk.o);have bV:g8≠b:=by
   have h9:=bd.o _ rfl;have h8:=X.o;simp at h9;omega
  have M:∀x∈F,x∉[b]:=λx d hm=>by
   have I:=HF.o x d;have h2:=ae.o.size;have h3:=X.o;simp at hm;omega
  have bb:=gd M;clear aN aC aw J hs aL Y bB aj aE aI aJ aF M;go_wp2_with fail;rw[<-bP.o,<-bg.o];refine aV.o.mono ?_;rintro e S ⟨d2,a7,rfl,cc,bC,K⟩;have ax:gn S mb 48 #[.int .i64 ((z:Int)-4),.int .i64 ((d1:Int)-4)]:=bf.o.Z K (by simp;omega);have x0:=K.X (by simp;omega) x0;have U:=K.X (by simp;omega) U;have x2:=K.X (by simp;omega) x2;have V:=K.X (by simp;omega) V;have c0:=K.X (by simp;omega) c0;have c1:=K.X (by simp;omega) c1;have k0:=ax.X 0;have k1:=ax.X 1;have⟨z0,z1⟩:=pt ax 0 1;simp at k0 k1;have⟨bG,an,bj,bl⟩:=gz ax (ay.o.tq K) (bh.o.tq K) bC;clear ax bC K bf ay bh bk;by_cases h20:0<d2
  .have b1:decide (0<d2)=true:=zB h20
   have b2:=i6 0 d2 (by omega);clear h20;go_wp2_with fail;refine jE 25 (by kernel_rfl) (by kernel_rfl) ?_;simp only[take_succ_cons,take_zero,drop_succ_cons,drop_zero]
   repeat(go_big_quiet_step (fail))
   refine wpQuiet_nil ?_;intro _ a8;obtain⟨nq,rfl⟩:=a8;obtain⟨r,bn⟩:∃r:Int,r=min (max ((z:Int)-4) (-(sx:Int))) ((W:Int)-(sx:Int)-(sw:Int)):=⟨_,rfl⟩;have⟨w8,aO⟩:=zX ((S.drewN nq).setCell mb (.int .i64 r));have aM:gn w8 mb 48 #[r,.int .i64 ((d1:Int)-4)]:=by
    rw[aO]
    have:=(bG.o.drewN nq).T 0 (.int .i64 r)
    simpa using this
   have Z:gf [mb] S w8:=(by rw[aO];exact((zR [mb] S).drewN nq).zs 0 _);have U:=Z.X (by simp;omega) U;have V:=Z.X (by simp;omega) V;have c1:=Z.X (by simp;omega) c1;have k1:=aM.X 1;have z1:=aM.V 1;simp at k1;have bF:=gd aM;have bH:=gd (bj.o.trans Z (λx d=>.inr (by simp at d;have:=bi.o;omega)));have aS:=gd (an.o.trans Z (λx d=>.inr (by simp at d;have:=bg.o;have q4:=an.o.size;have:=bo.o;omega)));have bM:=gd (bl.o.Y Z (by simp;omega) (gM.fresh ac.o (by intro x d;simp at d;omega)));have⟨bQ,be⟩:=gy aO bn;clear aM Z aO bn;go_wp2_with fail;rw[<-be.o,<-bQ.o];clear x0 x2 c0 k0 z0;refine jE 25 (by kernel_rfl) (by kernel_rfl) ?_;simp only[take_succ_cons,take_zero,drop_succ_cons,drop_zero]
   repeat(go_big_quiet_step (fail))
   refine wpQuiet_nil ?_;intro _ a8;obtain⟨a9,rfl⟩:=a8;obtain⟨t,a1⟩:∃t:Int,t=min (max ((d1:Int)-4) (-(sy:Int))) ((H:Int)-(sy:Int)-(sh:Int)):=⟨_,rfl⟩;have⟨w9,aH⟩:=zX ((w8.drewN a9).setCell ⟨mb,1,none⟩ (.int .i64 t));have a4:gn w9 mb 48 #[r,t]:=by
    rw[aH]
    have:=(bF.o.drewN a9).T 1 (.int .i64 t)
    simpa using this
   have aK:gf [mb] w8 w9:=(by rw[aH];exact((zR [mb] w8).drewN a9).zs 1 _);have aD:oo (r,t):=by
    have h0:=be.o;unfold oo;simp only;omega
   have aU:=gd aD;have bI:=gd (bH.o.trans aK (λx d=>.inr (by simp at d;have:=bi.o;omega)));have az:=gd (aS.o.trans aK (λx d=>.inr (by simp at d;have:=bo.o;omega)));have bN:=gd (bM.o.Y aK (by simp;omega) (gM.fresh ac.o (by intro x d;simp at d;omega)));have M:=bb.o;have ai:=(HO.o.Z bI.o M).Y ((zR [] w9).alloc (.cells #[r,t] 48));have T:=gn.new w9 48 #[r,t];have j0:=a4.X 0;have j1:=a4.X 1;simp at j0 j1;have aT:=gd (show gh (∀k,k<i+1->oo ((ms++[(r,t)]).getD k (0,0)))from gd (λk hk=>by
    rcases zZ k i with I|I
    .rw[zD,getElem?_append_left (by rw[P.o];exact I),<-zD]
     exact HM.o k I
    .obtain rfl:k=i:=by omega
     rw[zD,show(ms++[(r,t)])[k]?=some (r,t)by rw[<-P.o];simp];exact aU.o))
   have bs:=j0;have bu:=j1;rw[aH,a1]at bs bu ai T;clear aD j0 j1
   go_wp2_with(at_builtin;refine ou rfl rfl uP rfl (by decide) rfl ai [.int .i64 r,.int .i64 (min (max ((d1:Int)-4) (-(sy:Int))) ((H:Int)-(sy:Int)-(sh:Int)))] rfl rfl ?c1 ?c2 ?c3 ?c4 ?_)
   case c1=>
    intro q u y
    match q,y with
    | 0,y=>rw[<-y];have R := T.X 0;simp only[World.size_setCell',Ad]at R;exact R
    | 1,y=>rw[<-y];have R := T.X 1;simp only[World.size_setCell',Ad]at R;exact R
    | q+2,y=>simp at y
   case c2=>intro u hu;simp at hu;rcases hu with rfl|rfl<;>rfl
   case c3=>omega
   case c4=>omega
   intro g9 aZ wF ab E;rw[<-a1]at ab E;rw[<-aH]at E;have Q:∀x∈F,O.heap.size<=x:=HF.o;have aW:=gd ab;have aR:gh (gf [b] O wF):=gd ((az.o.trans ((zR [] w9).alloc (.cells #[r,t] 48)) (by simp)).trans E.Z (λx d=>.inr (Q x d)));have aY:=gd ((bN.o.fresh ((zR [] w9).alloc (.cells #[r,t] 48))).Y E.Z (λhm=>M b hm (by simp)) (gM.fresh ac.o (λx d=>by have I:=Q x d;have h2:=ae.o.size;have h3:=X.o;omega)));have ar:gh (∀x∈[g9],O.heap.size<=x):=gd (λx d=>by
    rcases E.new x d with h|h
    .exact Q x h
    .have h5:=az.o.size
     have h6:=((zR [] w9).alloc (.cells #[r,t] 48)).size;omega)
   clear ab E ai T bs bu aH a1 a4 aK Q M;go_wp2_with fail
   go_roundg j
   .refine⟨i+1,ms++[(r,t)],[g9],a7,by go_num,by omega,gd ?_,gd (by rw[zC,P.o];rfl),aT.o,aY,aR,ar⟩
    rw[flatMap_append];exact aW.o
   .omega
  .have b1:decide (0<d2)=false:=zA h20
   have aD:oo (((z:Int)-4),((d1:Int)-4)):=by
    unfold oo;simp only;omega
   have aU:=gd aD;clear h20 aD;have M:=bb.o;have ai:=(HO.o.Z bj.o M).Y ((zR [] S).alloc (.cells #[.int .i64 ((z:Int)-4),.int .i64 ((d1:Int)-4)] 48));have T:=gn.new S 48 #[.int .i64 ((z:Int)-4),.int .i64 ((d1:Int)-4)];have aT:=gd (show gh (∀k,k<i+1->oo ((ms++[(((z:Int)-4),((d1:Int)-4))]).getD k (0,0)))from gd (λk hk=>by
    rcases zZ k i with I|I
    .rw[zD,getElem?_append_left (by rw[P.o];exact I),<-zD]
     exact HM.o k I
    .obtain rfl:k=i:=by omega
     rw[zD,show(ms++[(((z:Int)-4),((d1:Int)-4))])[k]?=some (((z:Int)-4),((d1:Int)-4))by rw[<-P.o];simp];exact aU.o))
   go_wp2_with(at_builtin;refine ou rfl rfl uP rfl (by decide) rfl ai [.int .i64 ((z:Int)-4),.int .i64 ((d1:Int)-4)] rfl rfl ?f1 ?f2 ?f3 ?f4 ?_)
   case f1=>
    intro q u y
    match q,y with
    | 0,y=>rw[<-y];have R := T.X 0;exact R
    | 1,y=>rw[<-y];have R := T.X 1;exact R
    | q+2,y=>simp at y
   case f2=>intro u hu;simp at hu;rcases hu with rfl|rfl<;>rfl
   case f3=>omega
   case f4=>omega
   intro g9 aZ wF ab E;have Q:∀x∈F,O.heap.size<=x:=HF.o;have aW:=gd ab;have aR:gh (gf [b] O wF):=gd ((an.o.trans ((zR [] S).alloc (.cells #[.int .i64 ((z:Int)-4),.int .i64 ((d1:Int)-4)] 48)) (by simp)).trans E.Z (λx d=>.inr (Q x d)));have aY:=gd ((bl.o.fresh ((zR [] S).alloc (.cells #[.int .i64 ((z:Int)-4),.int .i64 ((d1:Int)-4)] 48))).Y E.Z (λhm=>M b hm (by simp)) (gM.fresh ac.o (λx d=>by have I:=Q x d;have h2:=ae.o.size;have h3:=X.o;omega)));have ar:gh (∀x∈[g9],O.heap.size<=x):=gd (λx d=>by
    rcases E.new x d with h|h
    .exact Q x h
    .have h5:=an.o.size
     have h6:=((zR [] S).alloc (.cells #[.int .i64 ((z:Int)-4),.int .i64 ((d1:Int)-4)] 48)).size;omega)
   clear ab E ai T  Q M;go_wp2_with fail
   go_roundg j
   .refine⟨i+1,ms++[(((z:Int)-4),((d1:Int)-4))],[g9],a7,by go_num,by omega,gd ?_,gd (by rw[zC,P.o];rfl),aT.o,aY,aR,ar⟩
    rw[flatMap_append];exact aW.o
   .omega
end Go.Proofs.YtnepiccbpokmiaaGreatDoor
