/- Lemmas. -/
import Derived.Test.YtifdlkoepaepiaaGreatDoorMh25
import Derived.Test.YtifdlkoepaepiaaGreatDoorMh21
set_option linter.all false
set_option maxHeartbeats 4000000
set_option maxRecDepth 100000
namespace Go.Proofs.YtifdlkoepaepiaaGreatDoor
open Tryz List Nat Go.RowKit
variable {i n:Nat}
def nE(f:Int->Int)(E:List Int)(i:Nat):List Int:=(E.take i).map f++E.drop i
theorem AT(f:Int->Int)(E:List Int)(i:Nat):(nE f E i).length=E.length:=by simp[nE];omega
theorem Rh(f:Int->Int)(E:List Int):nE f E 0=E:=by simp[nE]
theorem Ah(f:Int->Int)(E:List Int):nE f E E.length=E.map f:=by simp[nE]
theorem Bs(f:Int->Int)(E:List Int)(h:i<E.length):(nE f E i)[i]?=some (E.getD i 0):=by
 unfold nE;rw[zS (by simp;omega)];rw[zE,zI,Nat.min_eq_left (by omega),Nat.sub_self,getElem?_drop,Nat.add_zero,zF h,zD,zF h];rfl
theorem AU(f:Int->Int)(E:List Int)(h:i<E.length):(nE f E i).set i (f (E.getD i 0))=nE f E (i+1):=by
 unfold nE;have a:((E.take i).map f).length=i:=by simp;omega
 rw[set_append_right _ _ (by omega),a,Nat.sub_self,drop_eq_getElem_cons h,set_cons_zero,jD E h,zM,zH]
 congr 2
 rw[zD,zF h];rfl
def k8(l:List Int)(W H d:Nat):List Int:=(nf l W H d (jI l W H d)).map λv=>ii v d
theorem Aa(l:List Int)(W H d:Nat):(k8 l W H d).length=W*H:=by simp[k8,Ab]
def qC(e:List Int)(n:Nat):List Nat:=
 m9 (jS n 0 4 e).order (jS n 0 4 e).ks (iQ (iR (jS n 0 4 e).order n 0) e)
def mi(l:List Int)(W H d:Nat):List Int:=(jI l W H d).map Int.ofNat
def pF(l:List Int)(W H d:Nat):List Nat:=iq (mi l W H d) 4++qC (k8 l W H d) (W*H)
theorem zi(l:List Int)(W H d:Nat):(mi l W H d).length=H:=by simp[mi,sD]
theorem Ev(l:List Int)(W H d:Nat):ie 4 (mi l W H d):=by
 intro s b;obtain⟨k,a,rfl⟩:=List.mem_map.1 b
 have:=vJ l W H d k a
 show(0:Int)<=(k:Int)/\(k:Int)<2^4;omega
theorem JY(l:List Int)(W H d:Nat):(jI l W H d).map i64=(mi l W H d).map vi:=by
 unfold mi;rw[map_map];rfl
theorem zf(l:List Int)(W H d:Nat)(a:1<=d)(b:d<=16):∀x∈k8 l W H d,iy x:=by
 intro x c;obtain⟨v,_,rfl⟩:=List.mem_map.1 c
 have:=sG b (om v a)
 unfold iy;omega
theorem Ae(e:List Int):sk (jS n 0 4 e).ks:=by
 have h:=tX (n:=n) (warm:=0) (most:=4) (by omega) e;rw[h.1.2.1];intro k a;obtain⟨p,_,rfl⟩:=List.mem_map.1 a;exact Dy p
theorem C6(e:List Int):(jS n 0 4 e).ks.length=(iR (jS n 0 4 e).order n 0).length:=by
 have h:=tX (n:=n) (warm:=0) (most:=4) (by omega) e;have a:=congrArg length h.1.2.1;unfold ml at a;rw[zE,q4]at a;exact a
theorem JC(w:World)(b:Nat)(F bs:List Nat)(l:List Int)(A:Option Addr)(q W H d:Nat)(h:hJ w b F bs)(s:1<=W)(hw1:W<=16)(r:1<=H)(hh1:H<=16)(L:1<=d)(M:d<=16)(z:l.length=W*H)(hs:ie d l)(N:gz vi w A l)(hA:ib A l F)(hbs:bs.length<68719476736):Calls prog 123 #[.pointer b,.slice A l.length q,W,H,d] w λe w'=>e=.returned (.tuple #[])/\∃F',hJ w' b F' (bs++pF l W H d)/\gE F F' w w':=by
 have aJ:l.length<=256:=by rw[z];exact zL hw1 hh1
 have V:1<=l.length:=by rw[z];exact zL s r
 have C:=NO l A q W H d w s (by omega) r (by omega) L M z hs N;have p:=λAk capk w N hck=>NQ l A q W H d (jI l W H d) Ak capk w s (by omega) r (by omega) L M z hs N (sD l W H d) (vJ l W H d) hck;have g:=Ab l W H d (jI l W H d);have B:=Aa l W H d;have R:=zf l W H d L M;have D:pF l W H d=iq (mi l W H d) 4++qC (k8 l W H d) (W*H):=rfl;rw[<-z]at g B D;have bn:=JY l W H d;have T:=zi l W H d;have U:=Ev l W H d;have Q:k8 l W H d=(nf l W H d (jI l W H d)).map λv=>ii v d:=rfl;rw[bn]at C;rw[sD]at p;have an:∀Ak w,gz vi w Ak (mi l W H d)->gz i64 w Ak (jI l W H d):=λAk w h=>gz.map (f:=vi) (k:=Int.ofNat) h;generalize nf l W H d (jI l W H d)=E at *;have⟨EF,bg⟩:=zX (k8 l W H d);rw[<-bg]at B R D Q;have⟨K,hK⟩:=zX (mi l W H d);rw[<-hK]at C T U D an;rw[D];have bo:∀x∈F,x<w.heap.size:=h.lt;have⟨m,hm⟩:=zX l.length;rw[<-hm]at C p g B aJ V⊢;have ad:=Ae (n:=m) EF;have t:=C6 (n:=m) EF;have a:=tX (n:=m) (warm:=0) (most:=4) (by omega) EF;have bp:qC EF m=m9 (jS m 0 4 EF).order (jS m 0 4 EF).ks (iQ (iR (jS m 0 4 EF).order m 0) EF):=rfl;rw[bp];have u:=a.1.1;have ba:=a.2.1;have⟨ae,bv,br,bz⟩:=gu T p an bo;have⟨bd,bu,bw,aQ⟩:=gu R Q U ad;have⟨aO,bA,HM,HA⟩:=gu t u hm hA;clear p an bo R Q U ad t u hm z hs D bg hK bn a bp hA T;go_enter func123,ntmps123;go_wp2_with fail;refine C.mono ?_;rintro e w1 ⟨v1,G1,rfl,av,be,bD⟩;obtain⟨P,c1,rfl,bH,bF,Y⟩:=av.T;have am:ib P K F:=av.apt (λx hx hm=>by have:=bz.o x hm;have:=bD x hx;omega);clear C av;go_wp2_with fail;refine(Ax w1 b F bs K P c1 4 (h.Y be) (by omega) (by have:=ae.o;omega) bw.o Y am (by omega)).mono ?_;rintro e w2 ⟨rfl,F2,ar,aq⟩;have G:=gE.pre be aq;have bj:=N.N HA.o G.Z;have az:=Y.N am aq.Z;clear aq am Y h;have p:=bv.o P c1 w2 bj (br.o _ _ az);rw[ae.o];clear az;go_wp2_with fail;refine p.mono ?_;rintro e w3 ⟨v3,G3,rfl,aN,bf,bh⟩;have aA:=aN.cases;rcases aA with⟨_,a9,_⟩|⟨g3,J,rfl⟩
 .exfalso
  have:=congrArg length a9
  rw[zE,g]at this;simp at this;omega
 obtain⟨al,rfl,aZ,aB,_,_⟩:=J.T;have bJ:w2.heap.size<=g3:=bh g3 (by simp);have aM:=ar.Y bf;have aE:g3∉F2:=λhm=>by have:=ar.lt _ hm;omega
 clear p aN bh ar;rw[g]at aZ J⊢;go_wp2_with fail
 go_loopg [35] m (λj iv wr=>∃(i:Nat),iv=.int .i64 i/\i+j=m/\gv wr 3 (.slice g3 m al) g3 ((nE (λv=>ii v d) E i).map vi)/\gg [g3] w3 wr)
 .exact⟨0,rfl,by omega,by rw[Rh];exact J,zR _ _⟩
 clear J;obtain⟨i,rfl,bM,c,aY⟩:=hrel;rcases gk with _|j
 .obtain rfl:i=m:=by omega
  rw[<-g,Ah,<-bu.o,g]at c;have Z:gz vi wr (some ⟨g3,0,none⟩) EF:=by
   have:=c.R.cells
   exact this
  have aU:ib (some ⟨g3,0,none⟩) EF F2:=c.R.apt (λx hx=>by rw[zU.1 hx];exact aE);have au:=aM.Z aY (λx hx hm=>by rw[zU.1 hm]at hx;exact aE hx);have aG:gE F F2 w wr:=⟨G.Z.trans (bf.trans aY (λx hx=>by rw[zU.1 hx];exact .inr bJ)) (by simp),G.new⟩;have af:=Ou i 0 4 EF (some ⟨g3,0,none⟩) al wr V (by omega) (by omega) (by omega) (by omega) bd.o Z (by omega) aB;rw[B]at af;clear aM G c bj;go_wp2_with fail;refine af.mono ?_;rintro e O ⟨v5,G5,rfl,aw,X,bi⟩;obtain⟨A5,c5,rfl,a0,bG,bk⟩:=aw.T;have aI:=au.lt;have ay:ib A5 (jS i 0 4 EF).ks F2:=aw.apt (λx hx hm=>by have:=aI x hm;have:=bi x hx;omega);have bb:=au.Y X;have aX:=Z.Y X;have a3:=aG.Y X;clear af aw au Z aG bi aI;have bq:=gd (xf K 4);have⟨ks,aH⟩:=zX ((jS i 0 4 EF).ks);have⟨po,a⟩:=zX ((jS i 0 4 EF).order);have t:=aO.o;have u:=bA.o;have ad:=aQ.o;rw[<-aH,<-a]at t;rw[<-a]at u ba;rw[<-aH]at ad bk ay a0;rw[<-aH,<-a];have⟨bx,bB,aP,aS⟩:=gu aH a t u;have aR:=gd ad;clear aH a t u ad;have aK:=λo=>Pg _ b F2 _ po i 0 ks A5 c5 EF (some ⟨g3,0,none⟩) al (bb.Y ((zR [] O).alloc o)) (by omega) V (by omega) (by omega) aS.o aP.o aR.o (bk.Y ((zR [] O).alloc _)) (by omega) bd.o (aX.Y ((zR [] O).alloc _)) (by omega) aB ay aU (by rw[zC,bq.o];have:=ae.o;omega);rw[B]at aK;go_wp2_with fail;refine(aK _).mono ?_;rintro e w6 ⟨rfl,F6,bc,a4⟩;go_wp2_with fail
  go_end0
  refine⟨rfl,F6,?_,a3.trans (gE.pre ((zR [] O).alloc _) a4)⟩;rw[<-zH,<-bx.o,<-bB.o];exact bc
 .have bK:i<m:=by omega
  have S:i<E.length:=by rw[g];exact bK
  obtain⟨bC,bI,_,_,ak,aD⟩:=c.T;have bl:=ak i _ (Bs (λv=>ii v d) E S);have bL:=aD i;have I:=c.S (i:=i) (by rw[zE,AT];exact S) (vi (ii (E.getD i 0) d));rw[<-map_set,AU (λv=>ii v d) E S]at I;have bm:=λw=>oB (E.getD i 0) d w L M;generalize E.getD i 0=x at *;have⟨y,hy⟩:=zX (ii x d);rw[<-hy]at I bm;have bE:wr.cell? ⟨g3,i,none⟩=some (.int .i64 x):=bl;have aL:gv (wr.setCell ⟨g3,i,none⟩ (.int .i64 y)) _ _ _ _:=I;clear bI ak aD bl I hy c
  go_wp2_with(go_at_call 79;refine gB (bm _) ?_)
  go_roundg j
  .exact⟨i+1,by go_num,by omega,aL,aY.setCell (.inl (by simp)) _⟩
  .omega
end Go.Proofs.YtifdlkoepaepiaaGreatDoor
