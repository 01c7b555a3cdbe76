/- Lemmas. -/
import Derived.Test.YtnepiccbpokmiaaGreatDoorMg24
import Derived.Test.YtnepiccbpokmiaaGreatDoorMg25
set_option linter.all false
set_option maxHeartbeats 4000000
set_option maxRecDepth 100000
namespace Go.Proofs.YtnepiccbpokmiaaGreatDoor
open Tryz List Nat Go.RowKit
variable {i n:Nat}
def mY(f:Int->Int)(E:List Int)(i:Nat):List Int:=(E.take i).map f++E.drop i
theorem yF(f:Int->Int)(E:List Int)(i:Nat):(mY f E i).length=E.length:=by simp[mY];omega
theorem x9(f:Int->Int)(E:List Int):mY f E 0=E:=by simp[mY]
theorem x8(f:Int->Int)(E:List Int):mY f E E.length=E.map f:=by simp[mY]
theorem yZ(f:Int->Int)(E:List Int)(h:i<E.length):(mY f E i)[i]?=some (E.getD i 0):=by
 unfold mY;rw[zS (by simp;omega)];rw[zE,zI,Nat.min_eq_left (by omega),Nat.sub_self,getElem?_drop,Nat.add_zero,zF h,zD,zF h];rfl
theorem yG(f:Int->Int)(E:List Int)(h:i<E.length):(mY f E i).set i (f (E.getD i 0))=mY f E (i+1):=by
 unfold mY;have a:((E.take i).map f).length=i:=by simp;omega
 rw[set_append_right _ _ (by omega),a,Nat.sub_self,drop_eq_getElem_cons h,set_cons_zero,jd E h,zM,zH]
 congr 2
 rw[zD,zF h];rfl
def oL(l:List Int)(W H d:Nat):List Int:=(kN l W H d (lm l W H d)).map λv=>ii v d
theorem CU(l:List Int)(W H d:Nat):(oL l W H d).length=W*H:=by simp[oL,sH]
def sV(e:List Int)(n:Nat):List Nat:=
 mU (jF n 0 4 e).order (jF n 0 4 e).ks (ie (io (jF n 0 4 e).order n 0) e)
def nG(l:List Int)(W H d:Nat):List Int:=(lm l W H d).map Int.ofNat
def qR(l:List Int)(W H d:Nat):List Nat:=iF (nG l W H d) 4++sV (oL l W H d) (W*H)
theorem Cf(l:List Int)(W H d:Nat):(nG l W H d).length=H:=by simp[nG,tN]
theorem C5(l:List Int)(W H d:Nat):gU 4 (nG l W H d):=by
 intro s b;obtain⟨k,a,rfl⟩:=List.mem_map.1 b
 have:=vK l W H d k a
 show(0:Int)<=(k:Int)/\(k:Int)<2^4;omega
theorem C6(l:List Int)(W H d:Nat):(lm l W H d).map i64=(nG l W H d).map vi:=by
 unfold nG;rw[map_map];rfl
theorem B7(l:List Int)(W H d:Nat)(a:1<=d)(b:d<=16):∀x∈oL l W H d,ib x:=by
 intro x c;obtain⟨v,_,rfl⟩:=List.mem_map.1 c
 have:=ql b (ny v a)
 unfold ib;omega
theorem C7(e:List Int):qa (jF n 0 4 e).ks:=by
 have h:=tV (n:=n) (warm:=0) (most:=4) (by omega) e;rw[h.1.2.1];intro k a;obtain⟨p,_,rfl⟩:=List.mem_map.1 a;exact B0 p
theorem By(e:List Int):(jF n 0 4 e).ks.length=(io (jF n 0 4 e).order n 0).length:=by
 have h:=tV (n:=n) (warm:=0) (most:=4) (by omega) e;have a:=congrArg length h.1.2.1;unfold j6 at a;rw[zE,nR]at a;exact a
theorem GG(w:World)(b:Nat)(F bs:List Nat)(l:List Int)(A:Option Addr)(cap W H d:Nat)(h:hJ w b F bs)(r:1<=W)(hw1:W<=16)(q:1<=H)(hh1:H<=16)(J:1<=d)(L:d<=16)(u:l.length=W*H)(hs:gU d l)(M:gu vi w A l)(hA:gM A l F)(hbs:bs.length<68719476736):Calls prog 133 #[.pointer b,.slice A l.length cap,W,H,d] w λe w'=>e=.returned (.tuple #[])/\∃F',hJ w' b F' (bs++qR l W H d)/\gB F F' w w':=by
 have aJ:l.length<=256:=by rw[u];exact zL hw1 hh1
 have U:1<=l.length:=by rw[u];exact zL r q
 have B:=Mn l A cap W H d w r (by omega) q (by omega) J L u hs M;have p:=λAk capk w M hck=>Mo l A cap W H d (lm l W H d) Ak capk w r (by omega) q (by omega) J L u hs M (tN l W H d) (vK l W H d) hck;have g:=sH l W H d (lm l W H d);have z:=CU l W H d;have Q:=B7 l W H d J L;have C:qR l W H d=iF (nG l W H d) 4++sV (oL l W H d) (W*H):=rfl;rw[<-u]at g z C;have bn:=C6 l W H d;have S:=Cf l W H d;have T:=C5 l W H d;have P:oL l W H d=(kN l W H d (lm l W H d)).map λv=>ii v d:=rfl;rw[bn]at B;rw[tN]at p;have an:∀Ak w,gu vi w Ak (nG l W H d)->gu i64 w Ak (lm l W H d):=λAk w h=>gu.map (f:=vi) (k:=Int.ofNat) h;generalize kN l W H d (lm l W H d)=E at *;have⟨EF,bg⟩:=zX (oL l W H d);rw[<-bg]at z Q C P;have⟨K,hK⟩:=zX (nG l W H d);rw[<-hK]at B S T C an;rw[C];have bo:∀x∈F,x<w.heap.size:=h.lt;have⟨m,hm⟩:=zX l.length;rw[<-hm]at B p g z aJ U⊢;have ad:=C7 (n:=m) EF;have s:=By (n:=m) EF;have a:=tV (n:=m) (warm:=0) (most:=4) (by omega) EF;have bp:sV EF m=mU (jF m 0 4 EF).order (jF m 0 4 EF).ks (ie (io (jF m 0 4 EF).order m 0) EF):=rfl;rw[bp];have t:=a.1.1;have ba:=a.2.1;have⟨ae,bv,br,bz⟩:=gz S p an bo;have⟨bd,bu,bw,aQ⟩:=gz Q P T ad;have⟨aO,bA,HM,HA⟩:=gz s t hm hA;clear p an bo Q P T ad s t hm u hs C bg hK bn a bp hA S;go_enter func133,ntmps133;go_wp2_with fail;refine B.mono ?_;rintro e w1 ⟨v1,G1,rfl,av,be,bD⟩;obtain⟨O,c1,rfl,bH,bF,X⟩:=av.oq;have am:gM O K F:=av.apt (λx hx hm=>by have:=bz.o x hm;have:=bD x hx;omega);clear B av;go_wp2_with fail;refine(ye w1 b F bs K O c1 4 (h.Y be) (by omega) (by have:=ae.o;omega) bw.o X am (by omega)).mono ?_;rintro e w2 ⟨rfl,F2,ar,aq⟩;have D:=gB.pre be aq;have bj:=M.Q HA.o D.Z;have az:=X.Q am aq.Z;clear aq am X h;have p:=bv.o O c1 w2 bj (br.o _ _ az);rw[ae.o];clear az;go_wp2_with fail;refine p.mono ?_;rintro e w3 ⟨v3,G3,rfl,aN,bf,bh⟩;have aA:=aN.cases;rcases aA with⟨_,a9,_⟩|⟨g3,I,rfl⟩
 .exfalso
  have:=congrArg length a9
  rw[zE,g]at this;simp at this;omega
 obtain⟨al,rfl,aZ,aB,_,_⟩:=I.oq;have bJ:w2.heap.size<=g3:=bh g3 (by simp);have aM:=ar.Y bf;have aE:g3∉F2:=λhm=>by have:=ar.lt _ hm;omega
 clear p aN bh ar;rw[g]at aZ I⊢;go_wp2_with fail
 go_loopg [35] m (λj iv wr=>∃(i:Nat),iv=.int .i64 i/\i+j=m/\gv wr 3 (.slice g3 m al) g3 ((mY (λv=>ii v d) E i).map vi)/\gf [g3] w3 wr)
 .exact⟨0,rfl,by omega,by rw[x9];exact I,zR _ _⟩
 clear I;obtain⟨i,rfl,bM,c,Z⟩:=hrel;rcases gk with _|j
 .obtain rfl:i=m:=by omega
  rw[<-g,x8,<-bu.o,g]at c;have Y:gu vi wr (some ⟨g3,0,none⟩) EF:=by
   have:=c.S.cells
   exact this
  have aU:gM (some ⟨g3,0,none⟩) EF F2:=c.S.apt (λx hx=>by rw[zU.1 hx];exact aE);have au:=aM.Z Z (λx hx hm=>by rw[zU.1 hm]at hx;exact aE hx);have aG:gB F F2 w wr:=⟨D.Z.trans (bf.trans Z (λx hx=>by rw[zU.1 hx];exact .inr bJ)) (by simp),D.new⟩;have af:=MO i 0 4 EF (some ⟨g3,0,none⟩) al wr U (by omega) (by omega) (by omega) (by omega) bd.o Y (by omega) aB;rw[z]at af;clear aM D c bj;go_wp2_with fail;refine af.mono ?_;rintro e N ⟨v5,G5,rfl,aw,V,bi⟩;obtain⟨A5,c5,rfl,a0,bG,bk⟩:=aw.oq;have aI:=au.lt;have ay:gM A5 (jF i 0 4 EF).ks F2:=aw.apt (λx hx hm=>by have:=aI x hm;have:=bi x hx;omega);have bb:=au.Y V;have aX:=Y.Y V;have a3:=aG.Y V;clear af aw au Y aG bi aI;have bq:=gd (um K 4);have⟨ks,aH⟩:=zX ((jF i 0 4 EF).ks);have⟨po,a⟩:=zX ((jF i 0 4 EF).order);have s:=aO.o;have t:=bA.o;have ad:=aQ.o;rw[<-aH,<-a]at s;rw[<-a]at t ba;rw[<-aH]at ad bk ay a0;rw[<-aH,<-a];have⟨bx,bB,aP,aS⟩:=gz aH a s t;have aR:=gd ad;clear aH a s t ad;have aK:=λo=>NW _ b F2 _ po i 0 ks A5 c5 EF (some ⟨g3,0,none⟩) al (bb.Y ((zR [] N).alloc o)) (by omega) U (by omega) (by omega) aS.o aP.o aR.o (bk.Y ((zR [] N).alloc _)) (by omega) bd.o (aX.Y ((zR [] N).alloc _)) (by omega) aB ay aU (by rw[zC,bq.o];have:=ae.o;omega);rw[z]at aK;go_wp2_with fail;refine(aK _).mono ?_;rintro e w6 ⟨rfl,F6,bc,a4⟩;go_wp2_with fail
  go_end0
  refine⟨rfl,F6,?_,a3.trans (gB.pre ((zR [] N).alloc _) a4)⟩;rw[<-zH,<-bx.o,<-bB.o];exact bc
 .have bK:i<m:=by omega
  have R:i<E.length:=by rw[g];exact bK
  obtain⟨bC,bI,_,_,ak,aD⟩:=c.oq;have bl:=ak i _ (yZ (λv=>ii v d) E R);have bL:=aD i;have G:=c.T (i:=i) (by rw[zE,yF];exact R) (vi (ii (E.getD i 0) d));rw[<-map_set,yG (λv=>ii v d) E R]at G;have bm:=λw=>qx (E.getD i 0) d w J L;generalize E.getD i 0=x at *;have⟨y,hy⟩:=zX (ii x d);rw[<-hy]at G bm;have bE:wr.cell? ⟨g3,i,none⟩=some (.int .i64 x):=bl;have aL:gv (wr.setCell ⟨g3,i,none⟩ (.int .i64 y)) _ _ _ _:=G;clear bI ak aD bl G hy c
  go_wp2_with(go_at_call 92;refine gx (bm _) ?_)
  go_roundg j
  .exact⟨i+1,by go_num,by omega,aL,Z.setCell (.inl (by simp)) _⟩
  .omega
end Go.Proofs.YtnepiccbpokmiaaGreatDoor
