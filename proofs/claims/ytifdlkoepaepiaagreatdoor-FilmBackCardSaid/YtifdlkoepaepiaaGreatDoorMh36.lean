/- Lemmas. -/
import Derived.Test.YtifdlkoepaepiaaGreatDoorMh27
import Derived.Test.YtifdlkoepaepiaaGreatDoorMh33
set_option linter.all false
set_option maxHeartbeats 4000000
set_option maxRecDepth 100000
namespace Go.Proofs.YtifdlkoepaepiaaGreatDoor
open Tryz List Nat Go.RowKit
variable {g i k n:Nat}{w':World}
def lE(w:World)(b:Nat)(F ds:List Nat)(p:Nat)(l:List Int)(n:Nat)(e:Ending)(w':World):Prop:=
 ∃v G,e=.returned (.tuple #[v,(0:Int)])/\jj w' 3 v G (l.map vi)/\gM w' b F ds (p+n)/\gg [b] w w'/\∀x∈G,w.heap.size<=x
theorem NG{l:List Int}{W d:Nat}(e:iE 0 l W d=true):l=replicate l.length (l.getD 0 0):=by
 unfold iE at e;rw[if_pos rfl]at e;have h1:(iA l).length=1:=by simpa using e
 obtain⟨a,j⟩:=List.length_eq_one_iff.1 h1;have f:∀x∈l,x=a:=λx hx=>by
  have:=(sP l x).2 hx
  rw[j]at this
  simpa using this
 have c:l.getD 0 0=a\/l=[]:=by
  cases l with
  | nil=>exact .inr rfl
  | cons y l=>left;exact f y (by simp)
 rcases c with c|c
 .rw[c];exact eq_replicate_of_mem f
 .subst c;rfl
section
variable {w:World} {b:Nat} {F ds:List Nat} {p:Nat} {l:List Int} {W H d:Nat} (h:gM w b F ds p) (hw0:1<=W) (hw1:W<=16) (hh0:1<=H) (hh1:H<=16) (h0:1<=d) (h1:d<=16) (hl:l.length=W*H) (hs:ie d l)
include h hw0 hw1 hh0 hh1 h0 h1 hl hs
theorem Nk(K:iE 0 l W d=true)(c:ig ds p (ik 0 l W H d)):Calls prog 94 #[.pointer b,W,H,d] w (lE w b F ds p l (ik 0 l W H d).length):=by
 have P:=qv W H d w hw0 hw1 hh0 hh1 h0 h1;have f:=NG K;have⟨n,hn⟩:=zX (W*H);have V:(W:Int)*(H:Int)=(n:Int):=by rw[hn];simp
 have N:1<=n:=by rw[hn];exact Nat.mul_pos hw0 hh0
 have U:n<=256:=by rw[hn];exact zL hw1 hh1
 rw[hl,<-hn]at f;have u:=mZ hs 0;have⟨x,am⟩:=zX (l.getD 0 0);have t:ik 0 l W H d=gx 0 3++gx x.toNat d:=by rw[am];rfl
 rw[<-am]at f u;have I:(ik 0 l W H d).length=3+d:=by rw[t,zC,gH,gH]
 rw[I];rw[t]at c;obtain⟨X,J⟩:∃X:Nat,X=x.toNat:=⟨_,rfl⟩;have m:x=(X:Int):=by omega
 rw[<-J]at c;have r:X<2^d:=by
  have e:(2:Int)^d=((2^d:Nat):Int):=by simp
  have:=u.2
  rw[e,m]at this;omega
 have T:X<65536:=Nat.lt_of_lt_of_le r (show 2^d<=2^16 from Nat.pow_le_pow_right (by decide) h1);have s:=c.right;rw[gH]at s;have L:=iU w b F ds p 3 0 h (by omega) (by decide) c.left;have D:=λw' (hr:gM w' b F ds (p+3))=>iU w' b F ds (p+3) d X hr (by omega) r s;have j:=λw' ad cap (hc:w'.cell? ad=some (.int .i64 X)) hb=>M6 w' ad cap n (X:Int) N (by omega) hc hb;rw[<-m]at j;rw[<-f]at j;have⟨aw,ax,ay⟩:=Q9 D j m;unfold lE;clear hn t I J r c s hs K hl f am D j m u;go_enter func94,ntmps94
 go_wp2_with(go_at_call 110;refine gB P ?_)
 refine L.mono ?_;rintro e Z ⟨rfl,E,z⟩
 go_wp2_with(go_at_call 60;refine gB (iS _ b F ds _ E) ?_)
 refine(aw.o _ E).mono ?_;rintro e a ⟨rfl,O,A⟩;have o:=gn.new a 3 #[X];have B:(a.alloc (Obj.cells #[X] 3)).cell? ⟨a.heap.size,0,none⟩=some (.int .i64 x):=by rw[o.X,ay.o];rfl
 have q:gg [] a (a.alloc (Obj.cells #[X] 3)):=(zR [] a).alloc _;go_wp2_with fail;refine(ax.o _ _ _ B o.lt).mono ?_;rintro e w4 ⟨v,g,rfl,R,S,Y⟩;have y:=q.tq S;have G:=O.Y y;have Q:=z.tq (A.trans y (by simp));have M:w.heap.size<=g:=by have:=z.size;have:=A.size;have:=q.size;omega
 clear o B q
 go_wp2_with(go_at_call 60;refine gB (iS _ b F ds _ G) ?_)
 go_ret2
 exact⟨v,[g],rfl,R.R,G.cast (by omega),Q,by simpa using M⟩
end
theorem xO(w:World)(b:Nat)(F ds:List Nat)(p n v:Nat)(o:Nat)(f:Nat)(c S:List Nat)(h:gM w b F ds p)(E:n<=16)(q:v<2^n)(s:ig ds p (gx v n))(hs:hJ w f c S)(J:S.length<137438953472)(a:w.cell? o=some (.pointer b))(D:o≠b)(t:∀x∈F,x∉c):Calls prog 207 #[n,.pointer o,.pointer f] w λe w'=>e=.returned v/\gM w' b F ds (p+n)/\∃FS',hJ w' f FS' (S++gx v n)/\gg (b::c) w w'/\∀x∈FS',x∈c\/w.heap.size<=x:=by
 have u:=iU w b F ds p n v h (by omega) q s;have I:v<65536:=Nat.lt_of_lt_of_le q (show 2^n<=2^16 from Nat.pow_le_pow_right (by decide) E);have hw1:IntKind.i64.wrap (v:Int)=(v:Int):=IntWalk.i64_in _ (by omega);have ad:=h.mem;have⟨HD,HV⟩:=gy t q;clear s h t;go_enter func207,ntmps207;go_wp2_with fail;refine u.mono ?_;rintro e G ⟨rfl,z,j⟩;have A:=hs.Z j (λx a hm=>by simp at hm;exact HD.o b ad (hm ▸ a));clear u hs;go_wp2_with fail;refine(iG G f c S v n A (by omega) HV.o (by omega)).mono ?_;rintro e K ⟨rfl,y,B,m⟩;go_wp2;go_ret;refine⟨rfl,z.Z m.Z HD.o,y,B,?_,λx a=>?_⟩
 .exact(j.mono (λx a _=>by simp at a;simp[a])).trans m.Z (λx a=>.inl (by simp[a]))
 .rcases m.new x a with r|r
  .exact .inl r
  .right;have:=j.size;omega
theorem LX(lens:List Nat)(i:Nat):lens.take (i+zr 66 (lens.drop i))=lens.take i++replicate (zr 66 (lens.drop i)) 0:=by
 rw[take_add]
 congr 1
 have hl:=xP 66 (lens.drop i);refine List.eq_replicate_iff.2 ⟨by rw[zI];omega,λx hx=>?_⟩;obtain⟨q,c,rfl⟩:=getElem_of_mem hx;rw[zI]at c;have a:=GR 66 (lens.drop i) q (by omega);rw[getElem_take];rw[zD,zF (by omega)]at a
 simpa using a
theorem Ks(w:World)(b:Nat)(F ds:List Nat)(p:Nat)(lens:List Nat)(h:gM w b F ds p)(hf:m8 lens)(ha:ig ds p (ou lens)):Calls prog 150 #[.pointer b] w λe w'=>∃v G,e=.returned (.tuple #[v,(0:Int)])/\jj w' 3 v G (lens.map i64)/\gM w' b F ds (p+(ou lens).length)/\gg [b] w w'/\∀x∈G,w.heap.size<=x:=by
 have cQ:=hf.n1;have cR:=hf.n2;have cm:=hf.le;have P:=CI lens;have cs:=yC lens;have⟨T,hT⟩:=zX (ou lens);rw[<-hT]at ha P cs⊢;have⟨N,hN⟩:=zX lens.length;rw[<-hN]at cQ cR P cs;have⟨N1,ch⟩:=zX (N-1);have eN:(N1:Int)+1=(N:Int):=by omega
 rw[<-ch]at P;have bu:=ha;rw[P]at bu;have bP:=bu.right;rw[gH]at bP;have c6:=h.lt b h.mem;have bY:=h.lt;have⟨bx,bv⟩:=zX w.heap.size;have⟨w1,hw1⟩:=zX (w.alloc (.cells #[.pointer b] 106));have⟨w2,bz⟩:=zX (w1.alloc (.cells #[.slice none 0 0,(0:Int)] 90));have aL:=RD hw1 bv;have bI:=H4 hw1;have br:=H4 bz;have b5:w1.heap.size=bx+1:=by rw[hw1,bv];simp
 have bm:hJ w2 (bx+1) [bx+1] []:=by
  have:=hJ.new w1
  rw[<-bz,b5]at this;exact this
 have ay:=aL.Z br (by simp);have b3:=h.Y bI;have co:=b3.Y br;have c2:=ay.X 0;simp at c2;have c1:=aL.X 0;simp at c1;have aF:=xO w2 b F ds p 10 N1 bx (bx+1) [bx+1] [] co (by omega) (by omega) bu.left bm (by simp) c2 (by omega) (λx a c=>by simp at c;have:=bY x a;omega);have⟨HF,HN,HT,cb⟩:=gu hf hN hT P;have⟨cE,HA,bq,cH⟩:=gu cm bP bY hw1;have⟨cI,ai,cB,cG⟩:=gu bz bv (bI.tq br) b5;clear hN hT P cm ha bu bP bY hw1 bz bv bI br ch h bm hf b5 aL;go_enter func150,ntmps150;go_wp2_with fail;rw[<-ai.o,<-cH.o];refine(iS w1 b F ds p b3).mono ?_;rintro e wx ⟨rfl,rfl⟩;go_wp2_with fail;rw[cG.o,<-cI.o];refine aF.mono ?_;rintro e w3 ⟨rfl,cp,b7,aQ,bJ,a4⟩;rw[nil_append]at aQ;have c7:b<bx:=by have:=ai.o;omega
 have a7:=ay.Z bJ (by simp;omega);have cT:bx<w2.heap.size:=ay.lt;have a2:∀x∈b7,bx<x:=λx a=>by
  rcases a4 x a with f|f
  .simp at f;omega
  .omega
 have cd:gg [b] w w3:=(cB.o.mono (by simp)).trans bJ (λx a=>by simp at a;rcases a with a|a;left;simp[a];right;have:=ai.o;omega);clear aF b3 co ay c1 c2 bJ a4 cT;go_wp2_with fail
 go_loopg [7,8] N (λj vl va wr=>∃(i r:Nat) (FS S G:List Nat),i<=N/\N<=i+j/\jj wr 3 vl G ((lens.take i).map i64)/\gM wr b F ds r/\gh (ig ds r (mU lens i))/\gh (r+(mU lens i).length=p+T.length)/\hJ wr (bx+1) FS S/\gh (S++mU lens i=T)/\gn wr bx 106 #[.pointer b]/\gh (∀x∈FS,bx<x)/\gh (∀x∈G,bx<x/\x∉FS)/\gh (gg [b] w wr))
 .exact⟨0,p+10,b7,gx N1 10,[],by omega,by omega,jj.nil _ _,cp,HA,gd (by rw[cb.o,zC,gH];omega),aQ,gd cb.o.symm,a7,gd a2,gd (by simp),gd cd⟩
 clear cp aQ a7 a2 cd;obtain⟨i,r,FS,S,G,c8,c9,s,D,ca,HP,M,HS,E,I,u,bp⟩:=hrel;have cx:=E.X 0;simp at cx;have L:(lens.take i).length=i:=by rw[zI,<-HN.o];omega
 have⟨kd,bU⟩:=zX (lens.take i);rw[<-bU]at s L;have bF:=gd bU;clear bU;obtain⟨Al,cl,rfl,bS,cO,ae⟩:=s.T;rw[L]at bS⊢;have Q:=s;rw[L]at Q;by_cases hi:N<=i
 .obtain rfl:N=i:=by omega
  have t1:decide (N<N)=false:=by simp
  have e0:mU lens N=[]:=by rw[HN.o];exact Ct lens
  have hp:=HP.o;rw[e0,length_nil]at hp;have ci:=HS.o;rw[e0,append_nil]at ci;subst ci;have bV:kd=lens:=by rw[bF.o,HN.o,zN]
  have t2:((N:Int) != (N:Int))=false:=by simp
  have ag:gz i64 wr Al lens:=by rw[<-bV];exact ae
  have aq:=s;rw[bV,<-HN.o]at aq;have⟨ab,bQ⟩:=zX wr.heap.size;have⟨w8,bA⟩:=zX (wr.alloc (.cells #[.slice none 0 0,(0:Int)] 90));have Z:=H4 bA;have ct:hJ w8 ab [ab] []:=by rw[bA,bQ];exact hJ.new wr
  have b1:=M.lt;have bg:=s.lt;have a6:ib Al lens [ab]:=s.apt (λx a c=>by simp at c;have:=bg x a;omega);have b2:=Dg w8 ab [ab] [] lens Al cl ct HF.o (ag.Y Z) a6 (by simp);rw[nil_append,<-HT.o,<-HN.o]at b2;have el:=iS wr b F ds r D;have⟨aT,cJ⟩:=gy bQ bA;have bi:=D.Y Z;have bo:=M.Y Z;have aD:=aq.Y Z;have bc:=bp.o.trans Z (by simp);have b4:=D.lt;have cF:=gd hp;clear e0 bV ag ae s Q aq bQ bA ct a6 hp E M
  go_wp2_with(go_at_call 60;refine gB el ?_)
  rw[<-aT.o,<-cJ.o];refine b2.mono ?_;rintro e w9 ⟨rfl,F9,aR,U⟩;have bO:=bo.Z U.Z (λx a c=>by simp at c;have:=b1 x a;have:=aT.o;omega);have bj:=bi.Z U.Z (λx a c=>by simp at c;have:=b4 x a;have:=aT.o;omega);have aE:=aD.Z U.Z (λx a c=>by simp at c;have:=bg x a;have:=aT.o;omega);have bd:=bc.trans U.Z (λx a=>.inr (by simp at a;have:=aT.o;have:=bp.o.size;omega));have bW:=Bg w9 ab F9 S aR;have bX:=Bg w9 (bx+1) FS S bO;have a8:=xD w9 ab F9 S aR (by omega);have a9:=λR hz=>xD R (bx+1) FS S (bO.Y hz:hJ R (bx+1) FS S) (by omega);have⟨sl,cr⟩:=zX S.length;rw[<-cr]at bW bX;have cA:=gd a9;clear b2 bi bo aD bc aR bO U a9 cr;go_wp2_with fail;refine gB bW ?_;go_wp2_with fail;refine gB bX ?_;clear bW bX;go_wp2_with fail;refine a8.mono ?_;rintro e cX ⟨db,cZ,rfl,aG,am,bM⟩;obtain⟨cy,cK,rfl,_,_,aY⟩:=aG.T;clear a8;go_wp2_with fail;refine(cA.o cX am).mono ?_;rintro e cY ⟨dc,c0,rfl,aH,an,bN⟩;obtain⟨cz,cL,rfl,_,_,aZ⟩:=aH.T;have bH:∀ {R:World} {A:Option Addr},gz b8 R A (iD S)->Lib.BytesIn R A (iD S).length ((iD S).map Int.ofNat):=by
   intro R A hc hn;obtain⟨g,o,e1,_,ba⟩:=hc.ex hn;refine⟨g,o,e1,λi hi=>?_⟩;rw[ba i _ (zF hi)];have e:((iD S).map Int.ofNat).getD i 0=((iD S)[i]:Nat):=by
    rw[zD,zW,zF hi];rfl
   rw[e];rfl
  have ck:=bytes_Equal_all cy cz (iD S).length cK (iD S).length cL ((iD S).map Int.ofNat) ((iD S).map Int.ofNat) cY (by simp) (by simp) (bH (aY.Y an)) (bH aZ);have et:(Lib.bytesOf ((iD S).map Int.ofNat)==Lib.bytesOf ((iD S).map Int.ofNat))=true:=by simp
  rw[et]at ck;have bh:=(bj.Y am).Y an;have aN:=(aE.Y am).Y an;have bb:=(bd.trans am (by simp)).trans an (by simp);clear aG aH aY aZ bH et am an bM bN bj aE bd;go_wp2_with fail;refine gB ck ?_;go_wp2
  go_ret2
  exact⟨_,G,rfl,by rw[HN.o]at *;exact aN,bh.cast cF.o,bb,λx a=>by have:=(u.o x a).1;have:=ai.o;omega⟩
 .rcases gk with _|j
  .exfalso;omega
  have cP:i<N:=by omega
  have bf:i<lens.length:=by rw[<-HN.o];exact cP
  have c5:S.length<=20000:=by
   have:=congrArg length HS.o
   rw[zC]at this;omega
  have aM:∀x∈F,x∉FS:=λx a c=>by have:=bq.o x a;have:=I.o x c;have:=ai.o;omega
  by_cases hz:zr 66 (lens.drop i)<3
  .have B:=Cu bf hz
   have y:=ca.o;rw[B]at y;have cV:gO lens i<=24:=by
    unfold gO;rw[zD,zF bf];exact cE.o _ (zG _)
   have O:=jD lens bf;have cn:lens[i]=gO lens i:=(by unfold gO;rw[zD,zF bf];rfl);rw[cn]at O;generalize gO lens i=v at *;have bk:=xO wr b F ds r 5 v bx (bx+1) FS S D (by omega) (by omega) y.left M (by omega) cx (by omega) aM;have⟨bB,aU,bG⟩:=Q9 y.right B O;have t2:((v:Int) != 31)=true:=(by rw[bne_iff_ne];omega);have bR:=E.lt;have be:=(iS wr b F ds r D);clear y B O cn D M
   go_wp2_with(go_at_call 60;refine gB be ?_)
   refine bk.mono ?_;rintro e w4 ⟨rfl,bw,FS4,ar,t,K⟩;have ad:=s.lt;have au:=Q.Z t (λx a c=>by
    rcases zJ.1 c with c|c
    .have:=(u.o x a).1;omega
    .exact(u.o x a).2 c)
   have J:=E.Z t (λc=>by
    rcases zJ.1 c with c|c
    .omega
    .have:=I.o _ c;omega)
   have bs:=J.X 0;simp at bs;have cU:=t.size;have ap:∀x∈FS4,bx<x:=λx a=>by
    rcases K x a with f|f
    .exact I.o x f
    .omega
   have X:∀x∈G,bx<x/\x∉FS4:=λx a=>⟨(u.o x a).1,λc=>by
    rcases K x c with f|f
    .exact(u.o x a).2 f
    .have:=ad x a;omega⟩
   have V:gg [b] w w4:=bp.o.trans t (λx a=>by
    rcases zJ.1 a with a|a
    .left;simp[a]
    .right;have:=I.o x a;have:=ai.o;omega)
   have⟨cD,aj,av,bD⟩:=gu ad ap X V;have m:gg [] w4 (w4.alloc (.cells #[.int .i64 v] 3)):=(zR [] w4).alloc _;have bT:=au.Y m;clear s Q ae E K ad ap X V t bk be au
   go_wp2_with(at_builtin;refine ka rfl rfl iO rfl rfl bT (.int .i64 v) rfl ?c1 ?c2 ?c3 ?c4 ?_)
   case c1=>simp[go_sem]
   case c2=>rfl
   case c3=>rw[zE,L];omega
   case c4=>rw[zE,L];omega
   intro g2 cM w5 cq q;have⟨G5,cf⟩:=zX ([g2]);have ah:=cq.R;rw[<-cf]at q ah;clear cq cf;have bZ:=ar.lt;go_wp2_with fail
   go_roundg j
   .refine⟨i+1,r+5,FS4,S++gx v 5,G5,by omega,by omega,?_,(bw.Y m).Z q.Z (λx a c=>by have:=bq.o x a;have:=(av.o x c).1;have:=ai.o;omega),bB,gd ?_,(ar.Y m).Z q.Z (λx a c=>(av.o x c).2 a),gd ?_,(J.Z m (by simp)).Z q.Z (λc=>by have:=(av.o _ c).1;omega),aj,gd ?_,gd ?_⟩
    .rw[bG.o,<-bF.o,zM]
     exact ah
    .have:=HP.o
     rw[aU.o]at this;simp only[zC,gH]at this;omega
    .rw[<-HS.o,aU.o]
     simp only[zH]
    .intro x a
     rcases q.new x a with f|f
     .exact av.o x f
     .have:=m.size
      exact⟨by omega,λc=>by have:=bZ x c;omega⟩
    .exact(bD.o.trans m (by simp)).trans q.Z (λx a=>.inr (by have:=(av.o x a).1;have:=ai.o;omega))
   .omega
  .have B:=Ci bf hz
   have cw:=xP 66 (lens.drop i);have cW:=Hq 66 (lens.drop i);have O:=LX lens i;rw[zO,<-HN.o]at cw;have⟨z,cv⟩:=zX (zr 66 (lens.drop i));rw[<-cv]at B hz cw cW O;have⟨z0,cu⟩:=zX (z-3);have ez:(z0:Int)+3=(z:Int):=(by omega);rw[<-cu]at B;have y:=ca.o;rw[B]at y;have bk:=xO wr b F ds r 5 31 bx (bx+1) FS S D (by omega) (by omega) y.left M (by omega) cx (by omega) aM;have bK:=y.right;rw[gH]at bK;have⟨b9,aU,bG⟩:=Q9 bK B O;have t2:(((31:Nat):Int) != 31)=false:=rfl;have bR:=E.lt;have be:=(iS wr b F ds r D);clear y bK B O D M cv cu
   go_wp2_with(go_at_call 60;refine gB be ?_)
   refine bk.mono ?_;rintro e w4 ⟨rfl,bw,FS4,ar,t,K⟩;have ad:=s.lt;have au:=Q.Z t (λx a c=>by
    rcases zJ.1 c with c|c
    .have:=(u.o x a).1;omega
    .exact(u.o x a).2 c)
   have J:=E.Z t (λc=>by
    rcases zJ.1 c with c|c
    .omega
    .have:=I.o _ c;omega)
   have bs:=J.X 0;simp at bs;have cU:=t.size;have ap:∀x∈FS4,bx<x:=λx a=>by
    rcases K x a with f|f
    .exact I.o x f
    .omega
   have X:∀x∈G,bx<x/\x∉FS4:=λx a=>⟨(u.o x a).1,λc=>by
    rcases K x c with f|f
    .exact(u.o x a).2 f
    .have:=ad x a;omega⟩
   have V:gg [b] w w4:=bp.o.trans t (λx a=>by
    rcases zJ.1 a with a|a
    .left;simp[a]
    .right;have:=I.o x a;have:=ai.o;omega)
   have⟨aj,av,bD⟩:=Q9 ap X V;have aC:∀x∈F,x∉FS4:=λx a c=>by have:=bq.o x a;have:=aj.o x c;have:=ai.o;omega
   have bl:=xO w4 b F ds (r+5) 6 z0 bx (bx+1) FS4 (S++gx 31 5) bw (by omega) (by omega) b9.o.left ar (by rw[zC,gH];omega) bs (by omega) aC;have⟨bB,aA,bC⟩:=Q9 b9.o.right au J;have cj:=J.lt;clear s Q ae E K ad ap X V t bk be au J bw ar aM aC;go_wp2_with fail;refine bl.mono ?_;rintro e w6 ⟨rfl,cS,FS6,bn,Y,bL⟩;have ad:=aA.o.lt;have b6:=aA.o.Z Y (λx a c=>by
    rcases zJ.1 c with c|c
    .have:=(av.o x a).1;omega
    .exact(av.o x a).2 c)
   have cc:=bC.o.Z Y (λc=>by
    rcases zJ.1 c with c|c
    .omega
    .have:=aj.o _ c;omega)
   have cN:=cc.X 0;simp at cN;have da:=Y.size;have a3:∀x∈FS6,bx<x:=λx a=>by
    rcases bL x a with f|f
    .exact aj.o x f
    .omega
   have cg:∀x∈G,bx<x/\x∉FS6:=λx a=>⟨(av.o x a).1,λc=>by
    rcases bL x c with f|f
    .exact(av.o x a).2 f
    .have:=ad x a;omega⟩
   have ce:gg [b] w w6:=bD.o.trans Y (λx a=>by
    rcases zJ.1 a with a|a
    .left;simp[a]
    .right;have:=aj.o x a;have:=ai.o;omega)
   have⟨bE,aV,cC⟩:=Q9 a3 cg ce;have m:gg [] w6 w6:=zR _ _;clear bL ad a3 cg ce Y bl
   go_wp2_with(at_builtin;refine IR rfl rfl iO rfl rfl underlying3 rfl b6 z rfl ?c1 ?c2 ?c3 ?_)
   case c1=>omega
   case c2=>rw[zE,L];omega
   case c3=>rw[zE,L];omega
   intro v5 G5 w5 ah q;have b0:=bn.lt;go_wp2_with fail
   go_roundg j
   .refine⟨i+z,r+5+6,FS6,S++gx 31 5++gx z0 6,G5,by omega,by omega,?_,(cS.Y m).Z q.Z (λx a c=>by have:=bq.o x a;have:=(aV.o x c).1;have:=ai.o;omega),bB,gd ?_,(bn.Y m).Z q.Z (λx a c=>(aV.o x c).2 a),gd ?_,(cc.Z m (by simp)).Z q.Z (λc=>by have:=(aV.o _ c).1;omega),bE,gd ?_,gd ?_⟩
    .rw[bG.o,<-bF.o,zM]
     have:=ah
     simpa[i64]using this
    .have:=HP.o
     rw[aU.o]at this;simp only[zC,gH]at this;omega
    .rw[<-HS.o,aU.o]
     simp only[zH]
    .intro x a
     rcases q.new x a with f|f
     .exact aV.o x f
     .have:=m.size
      exact⟨by omega,λc=>by have:=b0 x c;omega⟩
    .exact(cC.o.trans m (by simp)).trans q.Z (λx a=>.inr (by have:=(aV.o x a).1;have:=ai.o;omega))
   .omega
structure lT (w:World) (tb:Nat) (lens:List Nat) (kl kf ks:Nat) (C:Array Value) (vs:Nat->Value) (Fs:Nat->List Nat):Prop where
 blk:gn w tb 288 C
 size:C.size=51
 long:C[0]?=some (.int .i64 (rp lens kl:Nat))
 first:∀n,n<25->C[1+n]?=some (.int .u64 (jZ lens kf n:Nat))
 syms:∀n,n<25->C[26+n]?=some (vs n)
 own:∀n,n<25->jj w 3 (vs n) (Fs n) ((js lens ks n).map i64)
 new:∀n,∀x∈Fs n,tb<x
 apart:∀n m,n<25->m<25->n≠m->∀x∈Fs n,x∉Fs m
abbrev Rg(w:World)(tb:Nat)(lens:List Nat)(k:Nat)(C:Array Value)(vs:Nat->Value)(Fs:Nat->List Nat):Prop:=lT w tb lens k k k C vs Fs
variable {w:World} {tb:Nat} {lens:List Nat} {kl kf ks:Nat} {C:Array Value} {vs:Nat->Value} {Fs:Nat->List Nat}
theorem lT.Y(h:lT w tb lens kl kf ks C vs Fs)(a:gg [] w w'):lT w' tb lens kl kf ks C vs Fs:=
 { h with blk:=h.blk.Z a (by simp),own:=λn hn=>(h.own n hn).Y a }
theorem lT.Z(h:lT w tb lens kl kf ks C vs Fs){G:List Nat}(c:gg G w w')(a:∀x∈G,x<tb):lT w' tb lens kl kf ks C vs Fs:=
 { h with blk:=h.blk.Z c (λhm=>by have:=a tb hm;omega),own:=λn hn=>(h.own n hn).Z c λx hx hm=>by have:=h.new n x hx;have:=a x hm;omega }
theorem lT.first_new(h:lT w tb lens kl ks ks C vs Fs)(f:n<25){a:Nat}(hs:jZ lens (ks+1) n=a)(c:∀m,n≠m->jZ lens (ks+1) m=jZ lens ks m):lT (w.setCell ⟨tb,1+n,none⟩ (.int .u64 a)) tb lens kl (ks+1) ks (C.setIfInBounds (1+n) (.int .u64 a)) vs Fs where
 blk:=h.blk.S _ _
 size:=by rw[Array.size_setIfInBounds];exact h.size
 long:=by rw[Array.getElem?_setIfInBounds,if_neg (by omega)];exact h.long
 first m hm:=by
  by_cases e:n=m
  .subst e
   rw[Array.getElem?_setIfInBounds,if_pos rfl,if_pos (by rw[h.size];omega),hs]
  .rw[Array.getElem?_setIfInBounds,if_neg (by omega),c m e];exact h.first m hm
 syms m hm:=by rw[Array.getElem?_setIfInBounds,if_neg (by omega)];exact h.syms m hm
 own m hm:=(h.own m hm).Q (λhx=>by have:=h.new m _ hx;simp at this) _
 new:=h.new
 apart:=h.apart
theorem lT.first_old(h:lT w tb lens kl ks ks C vs Fs)(a:∀m,jZ lens (ks+1) m=jZ lens ks m):lT w tb lens kl (ks+1) ks C vs Fs:={ h with first:=λm hm=>by rw[a];exact h.first m hm }
theorem lT.long_new(h:lT w tb lens kl kf ks C vs Fs)(hs:rp lens k=n):lT (w.setCell tb (.int .i64 n)) tb lens k kf ks (C.setIfInBounds 0 (.int .i64 n)) vs Fs where
 blk:=h.blk.S _ _
 size:=by rw[Array.size_setIfInBounds];exact h.size
 long:=by rw[Array.getElem?_setIfInBounds,if_pos rfl,if_pos (by rw[h.size];omega),hs]
 first m hm:=by rw[Array.getElem?_setIfInBounds,if_neg (by omega)];exact h.first m hm
 syms m hm:=by rw[Array.getElem?_setIfInBounds,if_neg (by omega)];exact h.syms m hm
 own m hm:=(h.own m hm).Q (λhx=>by have:=h.new m _ hx;simp at this) _
 new:=h.new
 apart:=h.apart
theorem lT.syms_new(h:lT w tb lens kl kf ks C vs Fs)(j:n<25){v:Value}{s:Nat}(c:gE (Fs n) [g] w w')(u:tb<w.heap.size)(r:jj w' 3 v [g] ((js lens ks n).map i64++[i64 s]))(hs:js lens (ks+1) n=js lens ks n++[s])(q:∀m,n≠m->js lens (ks+1) m=js lens ks m):lT (w'.setCell ⟨tb,26+n,none⟩ v) tb lens kl kf (ks+1) (C.setIfInBounds (26+n) v) (λm=>if m=n then v else vs m) (λm=>if m=n then[g]else Fs m):=by
 have o:tb∉Fs n:=λhm=>by have:=h.new n _ hm;omega
 have t:tb<g:=by
  rcases c.new g (by simp)with h1|h1
  .exact h.new n _ h1
  .omega
 have f:∀m,m<25->m≠n->∀x∈Fs m,x≠g:=λm hm hmn x hx he=>by
  subst he;rcases c.new x (by simp)with h1|h1
  .exact h.apart m n hm j hmn x hx h1
  .have:=(h.own m hm).lt x hx;omega
 refine⟨(h.blk.Z c.Z o).S _ _,by rw[Array.size_setIfInBounds];exact h.size,by rw[Array.getElem?_setIfInBounds,if_neg (by omega)];exact h.long,λm hm=>by rw[Array.getElem?_setIfInBounds,if_neg (by omega)];exact h.first m hm,λm hm=>?_,λm hm=>?_,λm x hx=>?_,λa b ha hb hab x hx hx'=>?_⟩
 .rw[Array.getElem?_setIfInBounds]
  by_cases e:m=n
  .subst e;rw[if_pos rfl,if_pos (by rw[h.size];omega),if_pos rfl]
  .rw[if_neg (by omega),if_neg e];exact h.syms m hm
 .by_cases e:m=n
  .subst e
   simp only[if_pos rfl];rw[hs,zM];exact r.Q (by simp;omega) _
  .simp only[if_neg e]
   rw[q m (λhh=>e hh.symm)];refine((h.own m hm).Z c.Z λx hx hm'=>h.apart m n hm j e x hx hm').Q (λhx=>by have:=h.new m _ hx;simp at this) _
 .by_cases e:m=n
  .rw[if_pos e]at hx;simp at hx;omega
  .rw[if_neg e]at hx;exact h.new m x hx
 .by_cases e:a=n
  .rw[if_pos e]at hx
   rw[if_neg (λhh=>hab (e.trans hh.symm))]at hx';simp at hx;exact f b hb (λhh=>hab (e.trans hh.symm)) x hx' hx
  .rw[if_neg e]at hx
   by_cases e2:b=n
   .rw[if_pos e2]at hx'
    simp at hx';exact f a ha e x hx hx'
   .rw[if_neg e2]at hx'
    exact h.apart a b ha hb hab x hx hx'
def so:Array Value:=#[.int .i64 0,.int .u64 0,.int .u64 0,.int .u64 0,.int .u64 0,.int .u64 0,.int .u64 0,.int .u64 0,.int .u64 0,.int .u64 0,.int .u64 0,.int .u64 0,.int .u64 0,.int .u64 0,.int .u64 0,.int .u64 0,.int .u64 0,.int .u64 0,.int .u64 0,.int .u64 0,.int .u64 0,.int .u64 0,.int .u64 0,.int .u64 0,.int .u64 0,.int .u64 0,.slice none 0 0,.slice none 0 0,.slice none 0 0,.slice none 0 0,.slice none 0 0,.slice none 0 0,.slice none 0 0,.slice none 0 0,.slice none 0 0,.slice none 0 0,.slice none 0 0,.slice none 0 0,.slice none 0 0,.slice none 0 0,.slice none 0 0,.slice none 0 0,.slice none 0 0,.slice none 0 0,.slice none 0 0,.slice none 0 0,.slice none 0 0,.slice none 0 0,.slice none 0 0,.slice none 0 0,.slice none 0 0]
theorem GM:so=(Value.int .i64 0::(replicate 25 (Value.int .u64 0)++replicate 25 (Value.slice none 0 0))).toArray:=rfl
theorem Pt(w:World)(lens:List Nat):Rg (w.alloc (.cells so 288)) w.heap.size lens 0 so (λ_=>.slice none 0 0) (λ_=>[]):=by
 refine⟨gn.new w _ _,rfl,rfl,λn hn=>?_,λn hn=>?_,λn _=>?_,λ_ x hx=>by simp at hx,λ_ _ _ _ _ x hx=>by simp at hx⟩
 .have e:jZ lens 0 n=0:=by simp[jZ,js]
  rw[e,GM,getElem?_toArray,Nat.add_comm,getElem?_cons_succ,getElem?_append_left (by simpa using hn),getElem?_replicate,if_pos hn];rfl
 .rw[GM,getElem?_toArray,show 26+n=(25+n)+1 by omega,getElem?_cons_succ,zS (by simp),zV,show 25+n-25=n by omega,getElem?_replicate,if_pos hn]
 .have e:js lens 0 n=[]:=by simp[js]
  rw[e];exact jj.nil _ _
theorem O0(lens : List Nat)(A B : Option Addr)(ca cb : Nat)(w : World)(hf : m8 lens)(hA : gz i64 w A lens)(hB : gz sp w B (nS lens))(J : (nS lens).length = lens.length):Calls prog 210 #[.slice A lens.length ca,.slice B (nS lens).length cb] w λe w'=>∃tb C vs Fs,e=.returned (.pointer (some ⟨tb,0,none⟩))/\Rg w' tb lens (hO lens).length C vs Fs/\gg [] w w'/\w.heap.size<=tb:=by
  have a6:=λwz hc=>ED lens A ca wz hf.n2 hc;have bn:=xw lens 24;have aJ:(hO lens).length<=lens.length:=bn;have bu:=hf.n2;rw[J];have⟨N,hN⟩:=zX lens.length;rw[<-hN]at a6 aJ bu J⊢;have⟨M,hM⟩:=zX ((hO lens).length);rw[<-hM]at aJ⊢;have⟨HN,HM,aT,HA⟩:=gu hN hM J hA;have⟨HB,aX⟩:=gy hB a6;clear hN hM J hA hB a6 bn hf;go_enter func210,ntmps210;go_wp2_with fail;have⟨tb,bb⟩:=zX w.heap.size;have⟨w1,hw1⟩:=zX (w.alloc (.cells so 288));have a:Rg w1 tb lens 0 so (λ_=>.slice none 0 0) (λ_=>[]):=by rw[hw1,bb];exact Pt w lens
  have S:=H4 hw1;have az:=gd bb;have bc:gh (w1=w.alloc (.cells #[(0:Int),.int .u64 0,.int .u64 0,.int .u64 0,.int .u64 0,.int .u64 0,.int .u64 0,.int .u64 0,.int .u64 0,.int .u64 0,.int .u64 0,.int .u64 0,.int .u64 0,.int .u64 0,.int .u64 0,.int .u64 0,.int .u64 0,.int .u64 0,.int .u64 0,.int .u64 0,.int .u64 0,.int .u64 0,.int .u64 0,.int .u64 0,.int .u64 0,.int .u64 0,.slice none 0 0,.slice none 0 0,.slice none 0 0,.slice none 0 0,.slice none 0 0,.slice none 0 0,.slice none 0 0,.slice none 0 0,.slice none 0 0,.slice none 0 0,.slice none 0 0,.slice none 0 0,.slice none 0 0,.slice none 0 0,.slice none 0 0,.slice none 0 0,.slice none 0 0,.slice none 0 0,.slice none 0 0,.slice none 0 0,.slice none 0 0,.slice none 0 0,.slice none 0 0,.slice none 0 0,.slice none 0 0] 288)):=gd hw1;clear hw1 bb;rw[<-az.o,<-bc.o];refine(aX.o w1 (HA.o.Y S)).mono ?_;rintro e O ⟨v2,F2,rfl,av,T,bh⟩;obtain⟨Ar,cr,rfl,a3,a4,bk⟩:=av.T;rw[<-HM.o];have a0:=a.blk.lt;have bf:=(HA.o.Y S).Y T;have bg:=(HB.o.Y S).Y T;have bp:Rg O tb lens 0 so (λ_=>.slice none 0 0) (λ_=>[]):=a.Y T;have a2:=gd (S.tq T);have aC:ib A lens [tb]:=ib.fresh HA.o (F:=[tb]) (by simp;exact Nat.le_of_eq az.o.symm);have aD:ib B (nS lens) [tb]:=ib.fresh HB.o (F:=[tb]) (by simp;exact Nat.le_of_eq az.o.symm);have aE:ib Ar (hO lens) [tb]:=av.apt (λx c hm=>by have:=bh x c;simp at hm;omega);have⟨ax,aU,aV,aW⟩:=gu (And.intro aC (And.intro aD aE)) bf bg bk;clear a0 a S T av bh a3 a4 bf bg bk aC aD aE;go_wp2_with fail
  go_loopg [7,8,14] M (λj va vb iv wr=>∃(k:Nat) (C:Array Value) (vs:Nat->Value) (Fs:Nat->List Nat),iv=.int .i64 k/\k+j=M/\gh (Rg wr tb lens k C vs Fs)/\gh (gg [tb] O wr)/\gh (∀n,∀x∈Fs n,O.heap.size<=x))
  .exact⟨0,so,_,_,rfl,by omega,gd bp,gd (zR _ _),gd (by simp)⟩
  clear bp;obtain⟨k,C,vs,Fs,rfl,bz,y,ay,Q⟩:=hrel;rcases gk with _|j
  · obtain rfl:M=k:=by omega
    have u1:decide (M<M)=false:=(by simp);have bC:decide ((M:Int)<(M:Int))=false:=(by simp);go_wp2_with fail;go_ret;exact⟨tb,C,vs,Fs,rfl,y.o,a2.o.trans ay.o (λx c=>.inr (by simp at c;have:=az.o;omega)),by have:=az.o;omega⟩
  · have bs:k<M:=by omega
    have G:k<(hO lens).length:=(by rw[<-HM.o];exact bs);obtain⟨bo,aK,V⟩:=qw G;have aG:(hO lens)[k]=(hO lens).getD k 0:=(by rw[zD,zF G];rfl);have aR:=λn hn=>CH (n:=n) G hn;have v:=y8 G rfl;have t:=λn hn=>Js (n:=n) G hn;have r:=λL=>Kn G rfl L;have z:=λL=>Ko G rfl L;have u:rp lens (k+1)=gO lens ((hO lens).getD k 0):=rfl;obtain⟨gr,bx,rfl,aO⟩:=(aW.o.N ax.o.2.2 ay.o).at_ G;rw[aG]at aO;have⟨s,hs⟩:=zX ((hO lens).getD k 0);rw[<-hs]at bo aK V aR v t r z u aO;have⟨n,hn⟩:=zX (gO lens s);rw[<-hn]at bo aK aR v t r z u;obtain⟨ga,oa,rfl,a1⟩:=(aU.o.N ax.o.1 ay.o).at_ V;have bm:lens[s]=n:=(by rw[hn];unfold gO;rw[zD,zF V];rfl);rw[bm]at a1;have a7:s<(nS lens).length:=(by rw[aT.o,HN.o];exact V);obtain⟨gw,ow,rfl,aP⟩:=(aV.o.N ax.o.2.1 ay.o).at_ a7;have br:(nS lens)[s]=lS lens s:=(by unfold lS;rw[zD,zF a7];rfl);rw[br]at aP;have⟨wd,bq⟩:=zX (lS lens s);rw[<-bq]at aP r;have d1:wr.cell? ⟨gr,bx+k,none⟩=some (.int .i64 s):=aO;have d2:wr.cell? ⟨ga,oa+s,none⟩=some (.int .i64 n):=a1;have d3:wr.cell? ⟨gw,ow+s,none⟩=some (.int .u64 wd):=aP;have f:n<25:=(by omega);have Z:=y.o.blk;have d4:wr.cell? ⟨tb,26+n,none⟩=some (vs n):=(by rw[Z.X];exact y.o.syms n f);have au:=y.o.own n f;have aQ:=DX lens k n;have bi:=HN.o;obtain⟨P,R,aS,ar,aF,a5⟩:=au.T;have⟨q,hq⟩:=zX ((js lens k n).length);rw[<-hq]at aS ar aQ;have bA:q<=1024:=(by rw[<-bi]at aQ;omega);rw[aS]at d4;have bv:s<N:=(by omega);have aN:=gd (And.intro aR (And.intro v (And.intro t (And.intro r (And.intro z u)))));have⟨HQ,be⟩:=gy hq aS;clear aO a1 aP aG aR v t r z u hs hn bm br bq a7 V G hq aS a5 bi;have an:=ay.o;have bl:=Z.U (1+n);have bj:wr.cell? ⟨tb,1+n,none⟩=some (.int .u64 (jZ lens k n:Int)):=(by rw[Z.X];exact y.o.first n f);by_cases hq0:q=0
    · subst hq0
      go_wp2_with fail;refine i9 9 (by kernel_rfl) (by kernel_rfl) ?_;simp only[take_succ_cons,take_zero,drop_succ_cons,drop_zero]
      repeat(go_big_quiet_step (fail))
      refine wpQuiet_nil ?_;intro _ bw;obtain⟨nq,rfl⟩:=bw;go_wp2_with fail;obtain⟨ho,v,t,r,z,u⟩:=aN.o;have L:js lens k n=[]:=eq_nil_of_length_eq_zero HQ.o.symm;have a:=(y.o.Y ((zR [] wr).drewN nq)).first_new f (r L) (λm e=>t m e);have K:gg [tb] O ((wr.drewN nq).setCell ⟨tb,1+n,none⟩ (.int .u64 wd)):=(an.drewN nq).setCell (.inl (by simp)) _;generalize (wr.drewN nq).setCell ⟨tb,1+n,none⟩ (.int .u64 wd)=wq at a K⊢;generalize C.setIfInBounds (1+n) (.int .u64 wd)=C1 at a;have X:=be.o;have aH:(n:Int)<25:=(by omega);have Y:=a.own n f;rw[X]at Y;have o:=a.blk;have I:=a.syms n f;rw[X]at I;have bB:=o.lt;have n0:wq.cell? ⟨tb,26+n,none⟩=some (.slice P 0 R):=(by rw[o.X];exact I);have ba:tb∉Fs n:=λhm=>by have:=a.new n _ hm;omega
      have n1:(wq.alloc (.cells #[s] 3)).cell? ⟨tb,26+n,none⟩=some (.slice P 0 R):=(by rw[(o.alloc _).X];exact I);have ad:(map i64 (js lens k n)).length=0:=(by rw[zE];exact HQ.o.symm);clear aQ an bj bl ar aF d1 d2 d3 d4 aW aU aV HA HB aX aT ax y Z au
      go_region_law (refine rL (by rfl) (by rfl) iO (by rfl) (by rfl) ((Y.alloc (.cells #[.int .i64 (s : Int)] 3)).drew) (.int .i64 (s : Int)) (by rfl) (by simp [go_sem]) (by rfl) (by rw [ad]; omega) (by rw [ad]; omega) ?_; intro g2 aY w3 U D; have E := ((o.alloc (.cells #[.int .i64 (s : Int)] 3)).drew).Z D.Z ba; have y1 : w3.cell? ⟨tb, 26 + n, none⟩ = some (.slice P 0 R) := by rw [E.X]; exact I
                     have z1:=E.U (26+n);rw[ad])
      all_goals
        have y0:w3.cell? ⟨tb,0,none⟩=some (.int .i64 (rp lens k:Int)):=(by rw[E.X];exact a.long);have z0:=E.U 0;go_wp2_with fail;rw[ad]at U
        go_roundg j
        .obtain⟨ho,v,t,r,z,u⟩:=aN.o
         have a8:tb<(wq.alloc (.cells #[s] 3)).drew.heap.size:=((o.alloc (.cells #[s] 3)).drew).lt;have a9:=(((a.Y (((zR [] wq).alloc (.cells #[s] 3)).drew)).syms_new f D a8 U.R v ho).long_new u);have aZ:gg [tb] O w3:=(K.alloc (.cells #[s] 3)).drew.trans D.Z (λx c=>.inr (Q.o n x c));refine⟨k+1,_,_,_,by go_num,by omega,gd a9,gd ((aZ.setCell (.inl (by simp)) _).setCell (.inl (by simp)) _),gd ?_⟩;intro m x c;by_cases e:m=n
         · rw[if_pos e]at c
           have bd:x=g2:=(by simpa using c);subst bd;rcases D.new x (by simp)with h1|h1
           · exact Q.o n x h1
           · exact Nat.le_trans ((K.alloc (.cells #[s] 3)).drew.size) h1
         · rw[if_neg e]at c
           exact Q.o m x c
        .omega
    · have u2:((q:Int)==0)=false:=by rw[beq_eq_false_iff_ne];omega
      go_wp2_with fail;obtain⟨ho,v,t,r,z,u⟩:=aN.o;have L:js lens k n≠[]:=λhh=>hq0 (by rw[HQ.o,hh];rfl);have a:=y.o.first_old (λm=>by
        by_cases e:n=m
        · subst e;exact z L
        · exact t m e)
      have K:gg [tb] O wr:=an;generalize wr=wq at a K⊢;generalize C=C1 at a;have X:=be.o;have aH:(n:Int)<25:=(by omega);have Y:=a.own n f;rw[X]at Y;have o:=a.blk;have I:=a.syms n f;rw[X]at I;have n0:wq.cell? ⟨tb,26+n,none⟩=some (.slice P q R):=(by rw[o.X];exact I);have ba:tb∉Fs n:=λhm=>by have:=a.new n _ hm;omega
      have n1:(wq.alloc (.cells #[s] 3)).cell? ⟨tb,26+n,none⟩=some (.slice P q R):=(by rw[(o.alloc _).X];exact I);have ad:(map i64 (js lens k n)).length=q:=(by rw[zE];exact HQ.o.symm);clear aQ an bj bl ar aF d1 d2 d3 d4 aW aU aV HA HB aX aT ax y Z au
      go_region_law (refine rL (by rfl) (by rfl) iO (by rfl) (by rfl) ((Y.alloc (.cells #[.int .i64 (s : Int)] 3)).drew) (.int .i64 (s : Int)) (by rfl) (by simp [go_sem]) (by rfl) (by rw [ad]; omega) (by rw [ad]; omega) ?_; intro g2 aY w3 U D; have E := ((o.alloc (.cells #[.int .i64 (s : Int)] 3)).drew).Z D.Z ba; have y1 : w3.cell? ⟨tb, 26 + n, none⟩ = some (.slice P q R) := by rw [E.X]; exact I
                     have z1:=E.U (26+n);rw[ad])
      all_goals
        have y0:w3.cell? ⟨tb,0,none⟩=some (.int .i64 (rp lens k:Int)):=(by rw[E.X];exact a.long);have z0:=E.U 0;go_wp2_with fail;rw[ad]at U
        go_roundg j
        .obtain⟨ho,v,t,r,z,u⟩:=aN.o
         have a8:tb<(wq.alloc (.cells #[s] 3)).drew.heap.size:=((o.alloc (.cells #[s] 3)).drew).lt;have a9:=(((a.Y (((zR [] wq).alloc (.cells #[s] 3)).drew)).syms_new f D a8 U.R v ho).long_new u);have aZ:gg [tb] O w3:=(K.alloc (.cells #[s] 3)).drew.trans D.Z (λx c=>.inr (Q.o n x c));refine⟨k+1,_,_,_,by go_num,by omega,gd a9,gd ((aZ.setCell (.inl (by simp)) _).setCell (.inl (by simp)) _),gd ?_⟩;intro m x c;by_cases e:m=n
         · rw[if_pos e]at c
           have bd:x=g2:=(by simpa using c);subst bd;rcases D.new x (by simp)with h1|h1
           · exact Q.o n x h1
           · exact Nat.le_trans ((K.alloc (.cells #[s] 3)).drew.size) h1
         · rw[if_neg e]at c
           exact Q.o m x c
        .omega
theorem NB{W j y:Nat}(h:W / 2^j%2=y):2*(W / 2^(j+1))+y=W / 2^j:=by
 rw[Nat.pow_succ,<-Nat.div_div_eq_div_mul];omega
theorem OL(w:World)(b:Nat)(F ds:List Nat)(p:Nat)(lens:List Nat)(s tb:Nat)(C:Array Value)(vs:Nat->Value)(Fs:Nat->List Nat)(h:gM w b F ds p)(I:m8 lens)(hs:0<gO lens s)(T:Rg w tb lens (mp lens) C vs Fs)(hb:b<tb)(f:ig ds p (ri lens s)):Calls prog 211 #[.pointer tb,.pointer b] w λe w'=>e=.returned (.tuple #[s,(0:Int)])/\gM w' b F ds (p+gO lens s)/\gg [b] w w':=by
 have D:=I.le;have O:=MB D hs;have G:=ES I hs;have m:=λn h0 hn=>M4 D (s:=s) (n:=n) hs h0 hn;have o:=OD D hs;have M:=f.le h.at_le;unfold ri at f M;rw[gH]at M;have aW:=I.n2;have⟨L,hL⟩:=zX (gO lens s);rw[<-hL]at hs O G m o f M⊢;have⟨W,aK⟩:=zX (lS lens s);rw[<-aK]at G m o f;have⟨K,hK⟩:=zX (mp lens);rw[<-hK]at O m o T;have⟨lo,af⟩:=zX (rp lens K);have az:L<=24:=by omega
 have aj:W<16777216:=Nat.lt_of_lt_of_le G (show 2^L<=2^24 from Nat.pow_le_pow_right (by decide) az);have aS:=gd af;rw[<-af]at O;have⟨HP,HH,HA,HW⟩:=gu m o f G;have HT:=gd T;clear D m o f T hL aK hK af I;go_enter func211,ntmps211;go_wp2_with fail
 go_loopg [6,7,8] (L-1) (λj va vb vc wr=>∃n:Nat,0<n/\n+j=L/\vb=.int .i64 n/\va=.int .u64 (W / 2^(j+1):Nat)/\gM wr b F ds (p+(n-1))/\gh (gg [b] w wr))
 .refine⟨1,by omega,by omega,rfl,?_,h,gd (zR _ _)⟩
  rw[show L-1+1=L by omega,div_eq_of_lt HW.o];rfl
 obtain⟨n,aT,aX,rfl,rfl,Z,U⟩:=hrel;have⟨j,hj⟩:=zX gk;have z:=gd (HT.o.Z U.o (λx hx=>by simp at hx;omega));have d0:wr.cell? tb=some (.int .i64 lo):=by rw[z.o.blk.X,aS.o];exact z.o.long
 have u:=GH wr b F ds (p+(n-1)) 1 Z (by omega) (by omega);have ak:=AA ds (p+(n-1));have X:W / 2^gk%2=lW ds (p+(n-1)):=by
  have h1:=HA.o.get (vV W L (n-1) (by omega));rw[show L-1-(n-1)=gk by omega]at h1;exact h1.symm
 rw[show ng ds (p+(n-1)) 1=lW ds (p+(n-1))by simp[ng],show p+(n-1)+1=p+n by omega]at u;have t:=NB X;have⟨y,hy⟩:=zX (lW ds (p+(n-1)));rw[<-hy]at u ak t;have⟨v,hv⟩:=zX (W / 2^(gk+1));have⟨v1,ax⟩:=zX (W / 2^gk);have aU:v<16777216:=by rw[hv];exact Nat.lt_of_le_of_lt (div_le_self _ _) aj
 have aQ:v1<16777216:=by rw[ax];exact Nat.lt_of_le_of_lt (div_le_self _ _) aj
 rw[<-hv]at t⊢;rw[<-ax]at t;have aY:bits BinOp.or IntKind.u64 ((v:Int)*2) (y:Int)=(v1:Int):=by
  have:=CR (v:=v) (b:=y) (by omega) ak
  rw[t]at this;rw[<-this]
  congr 1
  omega
 have A:=gd ax;clear X t hy hv ax hj;go_wp2_with fail;refine u.mono ?_;rintro e J ⟨rfl,E,V⟩;clear u;have al:=iS J b F ds _ E;have c:=z.o.Z V (λx hx=>by simp at hx;omega);have ad:=gd (U.o.trans V (λx hx=>.inl hx));have S:n<25:=by omega
 have aN:(n:Int)<25:=by omega
 have⟨fi,aC⟩:=zX (jZ lens K n);have d1:J.cell? ⟨tb,1+n,none⟩=some (.int .u64 fi):=by rw[c.blk.X,aC];exact c.first n S
 have d2:J.cell? ⟨tb,26+n,none⟩=some (vs n):=by rw[c.blk.X];exact c.syms n S
 obtain⟨Av,cv,Q,-,-,Y⟩:=(c.own n S).T;have aP:=DX lens K n;have⟨q,hq⟩:=zX ((js lens K n).length);rw[<-hq]at Q aP;rw[Q]at d2;have aZ:q<=1024:=by omega
 have⟨HQ,ay,aR⟩:=Q9 hq aC Y;clear aP hq aC Y Q c z Z d0;go_wp2_with fail;refine al.mono ?_;rintro e a1 ⟨rfl,rfl⟩;clear al;rcases gk with _|j
 .obtain rfl:n=L:=by omega
  obtain⟨hh1,B,r⟩:=HH.o;have P:v1=W:=by rw[A.o];simp
  rw[<-P,<-ay.o,<-HQ.o]at B;rw[<-P,<-ay.o]at hh1 r;have⟨ix,au⟩:=zX (v1-fi);rw[<-au]at B r;have aE:(v1:Int)-(fi:Int)=(ix:Int):=by omega
  have R:ix<(js lens K n).length:=by rw[<-HQ.o];exact B
  obtain⟨ga,oa,rfl,N⟩:=aR.o.at_ R;rw[zD,zF R]at r;have an:(js lens K n)[ix]=s:=r;rw[an]at N;have d3:J.cell? ⟨ga,oa+ix,none⟩=some (.int .i64 s):=N;have t1:decide (v1<fi)=false:=zA (by omega);have aV:=Ra v1 fi (by omega);have t2:decide (ix<q)=true:=zB B;have a0:=jo ix q (by omega);have aD:ix<1024:=by omega
  clear hh1 r an N au P R HH;go_wp2_with fail
  go_ret2
  exact⟨rfl,E,ad.o⟩
 .have a:=HP.o n aT (by omega)
  rw[show L-n=j+1 by omega,<-A.o,<-ay.o,<-HQ.o]at a;rcases a with a|a
  .have t1:decide (v1<fi)=true:=zB a
   have aV:=jo v1 fi (by omega);go_wp2_with fail
   go_roundg j
   .exact⟨n+1,by omega,by omega,by go_num,by rw[A.o],by simpa using E,ad⟩
   .omega
  .have⟨ix,au⟩:=zX (v1-fi)
   have aE:(v1:Int)-(fi:Int)=(ix:Int):=(by omega);have t1:decide (v1<fi)=false:=zA (by omega);have t2:decide (ix<q)=false:=zA (by omega);have aD:ix<16777216:=(by omega);clear au a;go_wp2_with fail
   go_roundg j
   .exact⟨n+1,by omega,by omega,by go_num,by rw[A.o],by simpa using E,ad⟩
   .omega
theorem KO{lens l:List Nat}(h:i<l.length):kx lens (l.drop i)=ri lens l[i]++kx lens (l.drop (i+1)):=by
 rw[drop_eq_getElem_cons h];rfl
theorem y7(lens:List Nat)(s:Nat):(ri lens s).length=gO lens s:=gH _ _
theorem Ov(w:World)(b:Nat)(F ds:List Nat)(p:Nat)(lens l:List Nat)(A:Option Addr)(f:Nat)(h:gM w b F ds p)(q:m8 lens)(Q:gz i64 w A lens)(hl:l.length<=4096)(hs:∀s∈l,s<lens.length/\0<gO lens s)(ha:ig ds p (kx lens l)):Calls prog 151 #[.pointer b,.slice A lens.length f,l.length] w λe w'=>∃v G,e=.returned (.tuple #[v,(0:Int)])/\jj w' 3 v G (l.map i64)/\gM w' b F ds (p+(kx lens l).length)/\gg [b] w w'/\∀x∈G,w.heap.size<=x:=by
 have N:=EZ lens A f w q Q;have c:=λB cb w' hA' hB=>O0 lens A B f cb w' q hA' hB (qu lens _);have aX:=h.lt b h.mem;have I:(nS lens).length=lens.length:=qu lens _;have⟨n,hn⟩:=zX lens.length;have⟨m,hm⟩:=zX l.length;have aS:=q.n1;have aT:=q.n2;rw[<-hn]at N c hs aS aT I⊢;rw[<-hm]at hl⊢;rw[I]at c;have⟨HM,HS,HF,HA⟩:=gu hm hs q ha;have⟨HC,aK,aN⟩:=Q9 Q c I;have t1:decide ((m:Int)<0)=false:=by simp
 have t2:=Ra 4194304 m (by omega);clear hn hm hs q ha Q c I;go_enter func151,ntmps151;go_wp2_with fail;refine N.mono ?_;rintro e w1 ⟨vw,gw,rfl,Y,z,aV⟩;have ac:=Y.R;obtain⟨cw,rfl,au,aQ,av,_⟩:=Y.T;have aa:=ac.cells;rw[aN.o]at au⊢;have P:=h.Y z;have c:=aK.o (some ⟨gw,0,none⟩) cw w1 (HC.o.Y z) aa;clear N av h ac aa
 go_wp2_with(go_at_call 60;refine gB (iS _ b F ds _ P) ?_)
 refine c.mono ?_;rintro e w2 ⟨tb,C,vs,Fs,rfl,Z,T,aY⟩;have U:=P.Y T;have ah:=z.tq T;have aP:b<tb:=by have:=z.size;omega
 have aL:=gd Z;clear c Z P;have ag:=U.lt;have af:=gd ag;clear ag;go_wp2_with fail
 go_loopg [11,12,13,38] m (λj va vb vc iv wr=>∃(i o:Nat) (G:List Nat),iv=.int .i64 i/\i+j=m/\jj wr 3 va G ((l.take i).map i64)/\gM wr b F ds o/\gh (ig ds o (kx lens (l.drop i)))/\gh (o+(kx lens (l.drop i)).length=p+(kx lens l).length)/\gh (gg [b] w2 wr)/\gh (∀x∈G,w2.heap.size<=x))
 .exact⟨0,p,[],rfl,by omega,jj.nil _ _,U,HA,gd rfl,gd (zR _ _),gd (by simp)⟩
 obtain⟨i,o,G,rfl,aW,t,X,Ha,S,y,r⟩:=hrel;rcases gk with _|j
 .obtain rfl:i=m:=by omega
  have t3:decide ((i:Int)<(i:Int))=false:=by simp
  go_wp2_with fail
  go_ret2
  have e1:l.take i=l:=by rw[HM.o,zN]
  have e2:o=p+(kx lens l).length:=by have:=S.o;rw[HM.o,drop_length]at this;simpa[kx]using this
  rw[e1]at t;refine⟨_,G,rfl,t,e2 ▸ X,(ah.mono (by simp)).tq y.o,λx a=>Nat.le_trans ah.size (r.o x a)⟩
 .have aR:i<m:=by omega
  have O:i<l.length:=by rw[<-HM.o];exact aR
  have⟨s,az⟩:=zX (l[i]);have hs:=HS.o l[i] (zG O);have E:=KO (lens:=lens) O;rw[<-az]at hs E;have u:=Ha.o;rw[E]at u;have aI:=gd u.right;have K:=jD l O;rw[<-az]at K;have ai:=OL wr b F ds o lens s tb C vs Fs X HF.o hs.2 (aL.o.Z y.o (λx a=>by simp at a;omega)) aP u.left;have⟨aJ,aM⟩:=gy E K;clear hs E u K az;go_wp2_with fail;refine ai.mono ?_;rintro e R ⟨rfl,V,L⟩;have ad:=t.Z L (λx a hm=>by simp at hm;have:=r.o x a;have:=af.o b V.mem;omega);have D:gg [] R (R.alloc (.cells #[s] 3)):=(zR [] R).alloc _;have aw:=ad.Y D;have aH:(l.take i).length=i:=by rw[zI];omega
  clear t ad ai
  go_wp2_with(at_builtin;refine ka rfl rfl iO rfl rfl aw (.int .i64 s) rfl ?c1 ?c2 ?c3 ?c4 ?_)
  case c1=>simp[go_sem]
  case c2=>rfl
  case c3=>rw[zE,aH];omega
  case c4=>rw[zE,aH];omega
  intro g2 aO w4 aU M;go_wp2_with fail
  go_roundg j
  .refine⟨i+1,o+gO lens s,[g2],by go_num,by omega,?_,(V.Y D).Z M.Z (λx a hm=>by have:=r.o x hm;have:=af.o x a;omega),?_,gd ?_,gd ?_,gd ?_⟩
   .have J:=aU.R
    rw[aM.o,zM]
    simpa[i64]using J
   .have:=aI.o
    rw[y7]at this;exact gd this
   .have:=S.o
    rw[aJ.o,zC,y7]at this;omega
   .exact((y.o.trans L (λx a=>.inl a)).trans D (by simp)).trans M.Z (λx a=>.inr (r.o x a))
   .intro x a
    rcases M.new x a with J|J
    .exact r.o x J
    .have:=y.o.size;have:=L.size;have:=D.size;omega
  .omega
theorem Ly{freq:List Nat}(r:freq.length<=256)(c:0<(iZ freq freq.length).length):xR freq (mI freq):=by
 rcases zZ (iZ freq freq.length).length 2 with h|h
 .obtain⟨e,a⟩:=List.length_eq_one_iff.1 (show(iZ freq freq.length).length=1 by omega)
  obtain⟨s,hs,_,rfl⟩:=tZ (show e∈iZ freq freq.length by rw[a];simp);have o:=Fu (by omega) a;rw[DK a];exact o.2
 .have q:=Cf freq freq.length
  obtain⟨f,j,m⟩:=Cx (freq:=freq) (by omega) h (zo _ 11);rw[C8 h];refine⟨sH _ _,f,j,λn hn=>?_⟩;obtain⟨s,_,rfl⟩:=List.mem_map.1 hn;exact m s
theorem GC{l:List Int}{W d:Nat}(j:0<l.length)(o:jG (jH l W d)<256):m8 (pM l W d)/\∀s∈jH l W d,s<(pM l W d).length/\0<gO (pM l W d) s:=by
 have f:jH l W d≠[]:=λe=>by have:=tY l W d;rw[e]at this;simp at this;omega
 have a:=Ly (freq:=j7 (jH l W d)) (by rw[um];omega) (CZ f);refine⟨a.full,λs hs=>?_⟩;have m:=uN hs;have c:s<(j7 (jH l W d)).length:=by rw[um];omega
 refine⟨by unfold pM;rw[a.len];exact c,(a.used s c).2 ?_⟩;rw[zg m];exact List.count_pos_iff.2 hs
theorem Lj{l:List Int}{W d:Nat}(h:i<l.length):(jH l W d)[i]?=some (jU l W d i):=by
 simp[jH,h]
theorem Ja(w:World)(b:Nat)(F ds:List Nat)(p:Nat)(l:List Int)(W H d:Nat)(h:gM w b F ds p)(hw0:1<=W)(hw1:W<=16)(hh0:1<=H)(hh1:H<=16)(h0:1<=d)(h1:d<=16)(hl:l.length=W*H)(hs:ie d l)(o:jG (jH l W d)<256)(c:ig ds p (pL l W d)):Calls prog 118 #[.pointer b,W,H,d] w λe w'=>∃v g,e=.returned (.tuple #[v,(0:Int)])/\gv w' 3 v g (l.map vi)/\gM w' b F ds (p+(pL l W d).length)/\gg [b] w w'/\w.heap.size<=g:=by
 have⟨n,hn⟩:=zX l.length;have aW:=zL hw1 hh1;have aF:=zL hw0 hh0;have a6:n<=256:=by rw[hn,hl];exact aW
 have a5:0<l.length:=by rw[hl];omega
 have bC:n<=64*W:=by rw[hn,hl,zY];exact mul_le_mul_right W (by omega)
 have bB:(W:Int)*(H:Int)=(n:Int):=by rw[hn,hl];simp
 obtain⟨s,y⟩:=GC a5 o;unfold pL at c⊢;rw[zC];have r:=tY l W d;have E:=λi (hi:i<l.length)=>Lj (W:=W) (d:=d) hi;have M:∀x∈jH l W d,x<256:=λx hx=>by have:=uN hx;omega
 have⟨f,hf⟩:=zX (jH l W d);have⟨lens,a4⟩:=zX (pM l W d);rw[<-a4]at s y c⊢;rw[<-hf]at y c r E M⊢;rw[<-hn]at r E;have a2:=Ks w b F ds p lens h s c.left;have t:=λi=>sM l W h0 i;have a:=λi=>Eo hs W i;have bA:=kg (P:=prog) iO rfl .i64 .i64 n (by omega) (by omega);have bx:=h.lt b h.mem;have⟨HN,HA,bf,bi⟩:=gu hn c.right s y;have⟨au,ba,aD,bc⟩:=gu r E t a;have⟨be,HS⟩:=gy M hs;clear hn c s y r E t a M hs hl h hf a4 o a5 aW aF;go_enter func118,ntmps118;go_wp2_with fail;refine a2.mono ?_;rintro e w1 ⟨v1,G1,rfl,aq,a7,aT,bw⟩;obtain⟨A1,c1,rfl,bo,bp,aY⟩:=aq.T;have Q:=Ov w1 b F ds _ lens f A1 c1 a7 bf.o aY (by rw[au.o];omega) bi.o HA.o;rw[au.o]at Q;clear a2 aq aY a7;go_wp2_with fail;refine Q.mono ?_;rintro e X ⟨v2,G2,rfl,A,R,bm,bn⟩;obtain⟨A2,c2,rfl,aG,bq,aX⟩:=A.T;rw[au.o]at aG⊢;have aU:=aT.tq bm;have⟨G,hG⟩:=zX X.heap.size;have⟨w4,aB⟩:=zX (X.alloc (.cells (Array.replicate n (Value.int .i64 0)) 3));have aj:gv w4 3 (.slice G n n) G ((ia ([]:List Int) n).map vi):=by
  have h9:=gv.zeros X n (by omega);rw[<-hG]at h9;rw[aB];exact h9
 have D:=H4 aB;have aP:=R.Y D;have aH:=aU.trans D (by simp);have am:=aX.Y D;have al:ib A2 f [b,G]:=A.apt (λx hx hm=>by
  have h5:=bn x hx;have h6:=A.lt x hx;have h7:=aT.size;simp at hm;omega)
 have bF:=aU.size;have⟨bg,HG,a9,bb⟩:=gu R.lt hG al am;have bh:gh (p+(ou lens).length+(kx lens f).length=p+((ou lens).length+(kx lens f).length)):=gd (by omega);have bl:=gd aB;clear Q R D hG al aX am A aB;go_wp2_with fail;rw[<-bl.o,<-HG.o]
 go_loopg [14,15,16,17,44] n (λj va vb vc vd iv wr=>∃(i:Nat),iv=.int .i64 i/\i+j=n/\gv wr 3 (.slice G n n) G ((ia (l.take i) n).map vi)/\gh (gg [G] w4 wr))
 .exact⟨0,rfl,by omega,by simpa using aj,gd (zR _ _)⟩
 clear aj;obtain⟨i,rfl,bz,ad,B⟩:=hrel;rcases gk with _|j
 .obtain rfl:n=i:=by omega
  have u2:decide ((n:Int)<(n:Int))=false:=by simp
  have bH:decide (n<n)=false:=by simp
  have e:ia (l.take n) n=l:=by
   have:=uw l
   rw[<-HN.o]at this;exact this
  rw[e]at ad;clear e;go_wp2_with fail
  go_ret2
  refine⟨_,G,rfl,ad,(aP.Z B.o (λz hz hm=>by simp at hm;have:=bg.o z hz;have:=HG.o;omega)).cast bh.o,aH.trans B.o (λz hz=>.inr (by simp at hz;have:=HG.o;omega)),by have:=HG.o;omega⟩
 .have q:i<n:=by omega
  have N:i<l.length:=by rw[<-HN.o];exact q
  have K:i<f.length:=by rw[au.o];exact q
  have L:=ba.o i (by omega);have Z:=be.o f[i] (zG K);rw[zF K]at L;have Y:f[i]=jU l W d i:=by injection L
  obtain⟨gf,of,rfl,I⟩:=(bb.o.N a9.o (B.o.mono (λx hx _=>by simp at hx;simp[hx]))).at_ K;rw[Y]at I Z;have O:=DM (l:=l) hw0 (i:=i) (by omega);rw[<-HN.o]at O;have u:(ia (l.take i) n).length=n:=nM (by rw[zI];omega);have m:=xA (ia (l.take i) n) (some ⟨G,0,none⟩) n W d i wr h0 h1 hw0 (by omega) (by rw[u];omega) (by omega) (En HS.o i n) ad.R.cells (by rw[u];omega);have a:=bc.o i;have t:=aD.o i;have bD:2^d<=65536:=Nat.pow_le_pow_right (n:=2) (by decide) h1;have bv:=Nat.two_pow_pos d;rw[O,u]at m;have J:=sN (d:=d) (g:=kL l W i) (qL HS.o W _ _) 7;have⟨gs,a3⟩:=zX (jV 7 (kL l W i) d);rw[<-a3]at m J a;have⟨fi,an⟩:=zX (jU l W d i);rw[<-an]at I Z a t;have bs:wr.cell? ⟨gf,of+i,none⟩=some (.int .i64 fi):=I;generalize pY (kL l W i) d=cl at m;have ao:gs<65536:=by
   have e:((2^d:Nat):Int)=(2:Int)^d:=by simp
   have:=J.2
   omega
  have T:=λw'=>Dq gs fi d w' h0 h1 J.1 ao (by omega);rw[a]at T;have S:=jD l N;have a8:l[i]=l.getD i 0:=by rw[zD,zF N];rfl
  rw[a8]at S;generalize l.getD i 0=xv at *;have aZ:(l.take i).length=i:=by rw[zI];omega
  have bE:((2^d:Nat):Int)=(2:Int)^d:=by simp
  have bG:IntKind.i64.wrap ((2:Int)^d)=(2:Int)^d:=IntWalk.i64_in _ (by omega);have t5:=mF 256 fi (by omega);have t6:decide ((2:Int)^d<=(fi:Int))=false:=zA (by omega);have⟨bj,aC,bk,aE⟩:=gu S aZ T ad;clear O u a a3 an T S a8 aZ ad N J L Y K I;go_wp2_with fail;refine m.mono ?_;rintro e w6 ⟨rfl,aV⟩;have aI:=gd (B.o.trans aV (by simp));have V:=aE.o.Z aV (by simp);obtain⟨br,bu⟩:=V.fill_cell (by rw[aC.o];exact q);have U:=V.fill (by rw[aC.o];exact q) xv;rw[aC.o]at br bu U;have bd:=gd U;have aS:=bk.o w6;clear m V U;go_wp2_with fail;refine aS.mono ?_;rintro e w7 ⟨rfl,rfl⟩;go_wp2_with fail
  go_roundg j
  .refine⟨i+1,by go_num,by omega,?_,gd (aI.o.setCell (.inl (by simp)) _)⟩
   rw[bj.o];exact bd.o
  .omega
section
variable {w:World} {b:Nat} {F ds:List Nat} {p:Nat} {l:List Int} {W H d:Nat} (h:gM w b F ds p) (hw0:1<=W) (hw1:W<=16) (hh0:1<=H) (hh1:H<=16) (h0:1<=d) (h1:d<=16) (hl:l.length=W*H) (hs:ie d l)
include h hw0 hw1 hh0 hh1 h0 h1 hl hs
theorem PN(c:ig ds p (ik 1 l W H d)):Calls prog 94 #[.pointer b,W,H,d] w (lE w b F ds p l (ik 1 l W H d).length):=by
 have z:=qv W H d w hw0 hw1 hh0 hh1 h0 h1;have j:=zL hw1 hh1;have m:ik 1 l W H d=gx 1 3++iq l d:=rfl;have s:(ik 1 l W H d).length=3+(iq l d).length:=by rw[m,zC,gH]
 rw[s];rw[m]at c;have ad:=c.right;rw[gH]at ad;have y:=iU w b F ds p 3 1 h (by omega) (by decide) c.left;have a:=λw' (hr:gM w' b F ds (p+3)) (hc:gg [b] w w')=>xk w' b F ds (p+3) d l hr h1 hs (by rw[hl];exact Nat.le_trans j (by decide)) ad;have⟨n,hn⟩:=zX (W*H);have D:(W:Int)*(H:Int)=(n:Int):=by rw[hn];simp
 have B:n<=256:=by rw[hn];exact j
 rw[hl,<-hn]at a;have u:=gd a;unfold lE;generalize (iq l d).length=q at *;clear hn m s c ad hs hl a j;go_enter func94,ntmps94
 go_wp2_with(go_at_call 110;refine gB z ?_)
 refine y.mono ?_;rintro e A ⟨rfl,o,f⟩;have a:=u.o A o f
 go_wp2_with(go_at_call 60;refine gB (iS _ b F ds _ o) ?_)
 refine a.mono ?_;rintro e G ⟨v,g,rfl,t,r,x,E⟩;clear a
 go_wp2_with(go_at_call 60;refine gB (iS _ b F ds _ r) ?_)
 go_ret2
 exact⟨v,[g],rfl,t.R,r.cast (by omega),f.tq x,by have:=f.size;simp;omega⟩
theorem PO(c:ig ds p (ik 2 l W H d)):Calls prog 94 #[.pointer b,W,H,d] w (lE w b F ds p l (ik 2 l W H d).length):=by
 have z:=qv W H d w hw0 hw1 hh0 hh1 h0 h1;have x:=zL hw1 hh1;have m:ik 2 l W H d=gx 2 3++pF l W H d:=rfl;have s:(ik 2 l W H d).length=3+(pF l W H d).length:=by rw[m,zC,gH]
 rw[s];rw[m]at c;have j:=c.right;rw[gH]at j;have y:=iU w b F ds p 3 2 h (by omega) (by decide) c.left;have a:=λw' (hr:gM w' b F ds (p+3)) (hc:gg [b] w w')=>Ju w' b F ds (p+3) l W H d hr hw0 hw1 hh0 hh1 h0 h1 hl hs j;have⟨n,hn⟩:=zX (W*H);have t:=gd a;unfold lE;generalize (pF l W H d).length=q at *;clear hn m s c j hs hl a x;go_enter func94,ntmps94
 go_wp2_with(go_at_call 110;refine gB z ?_)
 refine y.mono ?_;rintro e A ⟨rfl,o,f⟩;have a:=t.o A o f
 go_wp2_with(go_at_call 60;refine gB (iS _ b F ds _ o) ?_)
 refine a.mono ?_;rintro e D ⟨v,g,rfl,ad,r,u,B⟩;clear a
 go_wp2_with(go_at_call 60;refine gB (iS _ b F ds _ r) ?_)
 go_ret2
 exact⟨v,[g],rfl,ad.R,r.cast (by omega),f.tq u,by have:=f.size;simp;omega⟩
theorem PP(c:ig ds p (ik 3 l W H d)):Calls prog 94 #[.pointer b,W,H,d] w (lE w b F ds p l (ik 3 l W H d).length):=by
 have z:=qv W H d w hw0 hw1 hh0 hh1 h0 h1;have x:=zL hw1 hh1;have m:ik 3 l W H d=gx 3 3++kw l W d (W*H):=rfl;have s:(ik 3 l W H d).length=3+(kw l W d (W*H)).length:=by rw[m,zC,gH]
 rw[s];rw[m]at c;have j:=c.right;rw[gH]at j;have y:=iU w b F ds p 3 3 h (by omega) (by decide) c.left;have a:=λw' (hr:gM w' b F ds (p+3)) (hc:gg [b] w w')=>O3 w' b F ds (p+3) l W H d hr hw0 (by omega) hh0 (by omega) h0 h1 hl hs j;have⟨n,hn⟩:=zX (W*H);have t:=gd a;unfold lE;generalize (kw l W d (W*H)).length=q at *;clear hn m s c j hs hl a x;go_enter func94,ntmps94
 go_wp2_with(go_at_call 110;refine gB z ?_)
 refine y.mono ?_;rintro e A ⟨rfl,o,f⟩;have a:=t.o A o f
 go_wp2_with(go_at_call 60;refine gB (iS _ b F ds _ o) ?_)
 refine a.mono ?_;rintro e D ⟨v,g,rfl,ad,r,u,B⟩;clear a
 go_wp2_with(go_at_call 60;refine gB (iS _ b F ds _ r) ?_)
 go_ret2
 exact⟨v,[g],rfl,ad.R,r.cast (by omega),f.tq u,by have:=f.size;simp;omega⟩
theorem PQ(u:iK w)(a:0∉F)(f:ig ds p (ik 4 l W H d)):Calls prog 94 #[.pointer b,W,H,d] w (lE w b F ds p l (ik 4 l W H d).length):=by
 have D:=qv W H d w hw0 hw1 hh0 hh1 h0 h1;have m:=zL hw1 hh1;have o:ik 4 l W H d=gx 4 3++nL (l5 l (d+1) 12) W d:=rfl;have t:(ik 4 l W H d).length=3+(nL (l5 l (d+1) 12) W d).length:=by rw[o,zC,gH]
 rw[t];rw[o]at f;have ad:=f.right;rw[gH]at ad;have B:=iU w b F ds p 3 4 h (by omega) (by decide) f.left;have c:=λw' (hr:gM w' b F ds (p+3)) (hc:gg [b] w w')=>Od w' b F ds (p+3) l W d (l5 l (d+1) 12) hr (u.Z hc (λhm=>by simp at hm;exact a (hm ▸ h.mem))) a hw0 (by omega) h0 h1 (by rw[hl];exact Nat.le_trans m (by decide)) (Ku l _ _) (DI hs _ _) ad;have⟨n,hn⟩:=zX (W*H);have K:(W:Int)*(H:Int)=(n:Int):=by rw[hn];simp
 have J:n<=256:=by rw[hn];exact m
 rw[hl,<-hn]at c;have z:=gd c;unfold lE;generalize (nL (l5 l (d+1) 12) W d).length=q at *;clear hn o t f ad hs hl c m u a;go_enter func94,ntmps94
 go_wp2_with(go_at_call 110;refine gB D ?_)
 refine B.mono ?_;rintro e I ⟨rfl,r,j⟩;have c:=z.o I r j
 go_wp2_with(go_at_call 60;refine gB (iS _ b F ds _ r) ?_)
 refine c.mono ?_;rintro e L ⟨v,G,rfl,y,s,A,E⟩;clear c
 go_wp2_with(go_at_call 60;refine gB (iS _ b F ds _ s) ?_)
 go_ret2
 exact⟨v,G,rfl,y,s.cast (by omega),j.tq A,λx hx=>Nat.le_trans j.size (E x hx)⟩
theorem PR(c:ig ds p (ik 5 l W H d)):Calls prog 94 #[.pointer b,W,H,d] w (lE w b F ds p l (ik 5 l W H d).length):=by
 have z:=qv W H d w hw0 hw1 hh0 hh1 h0 h1;have x:=zL hw1 hh1;have m:ik 5 l W H d=gx 5 3++pG l W d:=rfl;have s:(ik 5 l W H d).length=3+(pG l W d).length:=by rw[m,zC,gH]
 rw[s];rw[m]at c;have j:=c.right;rw[gH]at j;have y:=iU w b F ds p 3 5 h (by omega) (by decide) c.left;have a:=λw' (hr:gM w' b F ds (p+3)) (hc:gg [b] w w')=>JU w' b F ds (p+3) l W H d hr hw0 hw1 hh0 hh1 h0 h1 hl hs j;have⟨n,hn⟩:=zX (W*H);have t:=gd a;unfold lE;generalize (pG l W d).length=q at *;clear hn m s c j hs hl a x;go_enter func94,ntmps94
 go_wp2_with(go_at_call 110;refine gB z ?_)
 refine y.mono ?_;rintro e A ⟨rfl,o,f⟩;have a:=t.o A o f
 go_wp2_with(go_at_call 60;refine gB (iS _ b F ds _ o) ?_)
 refine a.mono ?_;rintro e D ⟨v,g,rfl,ad,r,u,B⟩;clear a
 go_wp2_with(go_at_call 60;refine gB (iS _ b F ds _ r) ?_)
 go_ret2
 exact⟨v,[g],rfl,ad.R,r.cast (by omega),f.tq u,by have:=f.size;simp;omega⟩
theorem PS(t:iE 6 l W d=true)(c:ig ds p (ik 6 l W H d)):Calls prog 94 #[.pointer b,W,H,d] w (lE w b F ds p l (ik 6 l W H d).length):=by
 have A:=qv W H d w hw0 hw1 hh0 hh1 h0 h1;have j:=zL hw1 hh1;have m:ik 6 l W H d=gx 6 3++pE l d:=rfl;have s:(ik 6 l W H d).length=3+(pE l d).length:=by rw[m,zC,gH]
 rw[s];rw[m]at c;have ad:=c.right;rw[gH]at ad;have z:=iU w b F ds p 3 6 h (by omega) (by decide) c.left;have a:=λw' (hr:gM w' b F ds (p+3)) (hc:gg [b] w w')=>I9 w' b F ds (p+3) l d hr h0 h1 (by rw[hl];exact Nat.mul_pos hw0 hh0) (by rw[hl];exact j) hs (by simpa[iE]using t) ad;have⟨n,hn⟩:=zX (W*H);have E:(W:Int)*(H:Int)=(n:Int):=by rw[hn];simp
 have D:n<=256:=by rw[hn];exact j
 rw[hl,<-hn]at a;have x:=gd a;unfold lE;generalize (pE l d).length=q at *;clear hn m s c ad hs hl a j t;go_enter func94,ntmps94
 go_wp2_with(go_at_call 110;refine gB A ?_)
 refine z.mono ?_;rintro e B ⟨rfl,o,f⟩;have a:=x.o B o f
 go_wp2_with(go_at_call 60;refine gB (iS _ b F ds _ o) ?_)
 refine a.mono ?_;rintro e I ⟨v,g,rfl,u,r,y,G⟩;clear a
 go_wp2_with(go_at_call 60;refine gB (iS _ b F ds _ r) ?_)
 go_ret2
 exact⟨v,[g],rfl,u.R,r.cast (by omega),f.tq y,by have:=f.size;simp;omega⟩
theorem PT(t:iE 7 l W d=true)(c:ig ds p (ik 7 l W H d)):Calls prog 94 #[.pointer b,W,H,d] w (lE w b F ds p l (ik 7 l W H d).length):=by
 have A:=qv W H d w hw0 hw1 hh0 hh1 h0 h1;have y:=zL hw1 hh1;have m:ik 7 l W H d=gx 7 3++pL l W d:=rfl;have s:(ik 7 l W H d).length=3+(pL l W d).length:=by rw[m,zC,gH]
 rw[s];rw[m]at c;have j:=c.right;rw[gH]at j;have z:=iU w b F ds p 3 7 h (by omega) (by decide) c.left;have a:=λw' (hr:gM w' b F ds (p+3)) (hc:gg [b] w w')=>Ja w' b F ds (p+3) l W H d hr hw0 hw1 hh0 hh1 h0 h1 hl hs (by simpa[iE]using t) j;have⟨n,hn⟩:=zX (W*H);have u:=gd a;unfold lE;generalize (pL l W d).length=q at *;clear hn m s c j hs hl a y t;go_enter func94,ntmps94
 go_wp2_with(go_at_call 110;refine gB A ?_)
 refine z.mono ?_;rintro e B ⟨rfl,o,f⟩;have a:=u.o B o f
 go_wp2_with(go_at_call 60;refine gB (iS _ b F ds _ o) ?_)
 refine a.mono ?_;rintro e E ⟨v,g,rfl,ad,r,x,D⟩;clear a
 go_wp2_with(go_at_call 60;refine gB (iS _ b F ds _ r) ?_)
 go_ret2
 exact⟨v,[g],rfl,ad.R,r.cast (by omega),f.tq x,by have:=f.size;simp;omega⟩
theorem GV(j:k<=7)(f:iK w)(c:0∉F)(e:iE k l W d=true)(a:ig ds p (ik k l W H d)):Calls prog 94 #[.pointer b,W,H,d] w (lE w b F ds p l (ik k l W H d).length):=by
 rcases(show k=0\/k=1\/k=2\/k=3\/k=4\/k=5\/k=6\/k=7 by omega)with rfl|rfl|rfl|rfl|rfl|rfl|rfl|rfl
 .exact Nk h hw0 hw1 hh0 hh1 h0 h1 hl hs e a
 .exact PN h hw0 hw1 hh0 hh1 h0 h1 hl hs a
 .exact PO h hw0 hw1 hh0 hh1 h0 h1 hl hs a
 .exact PP h hw0 hw1 hh0 hh1 h0 h1 hl hs a
 .exact PQ h hw0 hw1 hh0 hh1 h0 h1 hl hs f c a
 .exact PR h hw0 hw1 hh0 hh1 h0 h1 hl hs a
 .exact PS h hw0 hw1 hh0 hh1 h0 h1 hl hs e a
 .exact PT h hw0 hw1 hh0 hh1 h0 h1 hl hs e a
end
theorem Dm:∀(ks:List Nat) (ps:List (List Int)),sk ks->(∀p∈ps,∀x∈p,iy x)->((ks.zip ps).map (λp=>oz p.1 p.2)).sum<=10*ps.length+65*ps.flatten.length
 | [],ps,_,_=>by simp
 | k::ks,[],_,_=>by simp
 | k::ks,p::ps,hk,hp=>by
  have h1:=Dm ks ps (λx hx=>hk x (by simp[hx])) (λq hq=>hp q (by simp[hq]));have a:=yW (hk k (by simp)) (hp p (by simp));simp only[zip_cons_cons,map_cons,sum_cons,zK,flatten_cons,zC];omega
theorem Ox{e:List Int}(q:e.length=n)(j:∀x∈e,iy x):(qC e n).length<=4+(160+65*n):=by
 have a:=tX (n:=n) (warm:=0) (most:=4) (by omega) e;have m:=ug a.1.1;have f:=sJ a.1.1;have c:=Dk (iR (jS n 0 4 e).order n 0) e (by omega);unfold qC;rw[L5];unfold lH;have h1:=Dm (jS n 0 4 e).ks (iQ (iR (jS n 0 4 e).order n 0) e) (Ae e) (λp hp x hx=>j x (by rw[<-c];exact List.mem_flatten.2 ⟨p,hp,hx⟩));rw[q4,c,f]at h1;have o:2^(jS n 0 4 e).order<=2^4:=Nat.pow_le_pow_right (by decide) a.2.2;omega
theorem Do{lens:List Nat}(a:∀x∈lens,x<=24):∀(l:List Nat),(kx lens l).length<=24*l.length
 | []=>by simp[kx]
 | s::l=>by
  have h:=Do a l;have e:kx lens (s::l)=ri lens s++kx lens l:=rfl;have c:gO lens s<=24:=by
   unfold gO;rw[zD]
   cases hx:lens[s]? with
   | none=>simp
   | some x=>exact a x (mem_of_getElem? hx)
  rw[e,zC,y7,zK];omega
theorem Jl(l:List Int){W H d:Nat}(h0:1<=d)(h1:d<=16)(a:W<=16)(hH:H<=16):0<(ik 2 l W H d).length/\(ik 2 l W H d).length<200000:=by
 have e:ik 2 l W H d=gx 2 3++(iq (mi l W H d) 4++qC (k8 l W H d) (W*H)):=rfl;have f:=Ox (Aa l W H d) (zf l W H d h0 h1);have c:W*H<=16*16:=zL a hH;rw[e,zC,zC,gH,xF,zi];omega
theorem IW(l:List Int){W H d:Nat}(h0:1<=d)(h1:d<=16)(a:W<=16)(hH:H<=16):0<(ik 3 l W H d).length/\(ik 3 l W H d).length<200000:=by
 have e:ik 3 l W H d=gx 3 3++kw l W d (W*H):=rfl;have f:=yA l W h0 h1 (by have:=Nat.pow_le_pow_right (n:=2) (by decide) h1;have e:((2^d:Nat):Int)=(2:Int)^d:=(by simp);omega) (W*H);have c:W*H<=16*16:=zL a hH;rw[e,zC,gH];omega
theorem I3(l:List Int){W H d:Nat}(h1:d<=16)(hl:l.length<=256):0<(ik 4 l W H d).length/\(ik 4 l W H d).length<200000:=by
 have e:ik 4 l W H d=gx 4 3++nL (l5 l (d+1) 12) W d:=rfl;have c:=Jw (l5 l (d+1) 12) W d h1;have a:=zj l (d+1) 12;rw[e,zC,gH];omega
theorem Dr(y:k<=7){l:List Int}{W H d:Nat}(hw0:1<=W)(hh0:1<=H)(h0:1<=d)(h1:d<=16)(a:W<=16)(hH:H<=16)(hl:l.length=W*H)(m:iE k l W d=true):0<(ik k l W H d).length/\(ik k l W H d).length<200000:=by
 have o:W*H<=16*16:=zL a hH;have u:0<W*H:=Nat.mul_pos hw0 hh0;rcases(show k=0\/k=1\/k=2\/k=3\/k=4\/k=5\/k=6\/k=7 by omega)with rfl|rfl|rfl|rfl|rfl|rfl|rfl|rfl
 .have e:ik 0 l W H d=gx 0 3++gx (l.getD 0 0).toNat d:=rfl
  rw[e,zC,gH,gH];omega
 .have e:ik 1 l W H d=gx 1 3++iq l d:=rfl
  rw[e,zC,gH,xF,hl]
  have:=zL h1 o
  omega
 .exact Jl l h0 h1 a hH
 .exact IW l h0 h1 a hH
 .exact I3 l h1 (by omega)
 .have e:ik 5 l W H d=gx 5 3++(gx (nv l W d).length 16++(nv l W d).flatMap λx=>gx x 8):=rfl
  have z:=yY l W h0 h1;have s:∀R:List Nat,(R.flatMap λx=>gx x 8).length=8*R.length:=by
   intro R
   induction R with
   | nil=>rfl
   | cons x R ih=>rw[flatMap_cons,zC,gH,ih,zK];omega
  rw[e,zC,zC,gH,gH,s];omega
 .have e:ik 6 l W H d=gx 6 3++(gx ((iA l).length-1) 4++iq (iA l) d++iq (oK l) (lG (iA l).length)):=rfl
  have f:(iA l).length<=16:=by simpa[iE]using m
  have t:=AB f;have c:=zL h1 f;have r:lG (iA l).length*l.length<=4*(16*16):=zL t (by omega);rw[e,zC,zC,zC,gH,gH,xF,xF,Fm];omega
 .have e:ik 7 l W H d=gx 7 3++(ou (pM l W d)++kx (pM l W d) (jH l W d)):=rfl
  have q:jG (jH l W d)<256:=by simpa[iE]using m
  obtain⟨j,-⟩:=GC (l:=l) (W:=W) (d:=d) (by omega) q;have v:=yC (pM l W d);have c:=Do j.le (jH l W d);have r:=j.n2;rw[tY]at c;rw[e,zC,zC,gH];omega
structure xX where
 l:List Int
 W:Nat
 H:Nat
 d:Nat
 k:Nat
structure xX.Ok (t:xX):Prop where
 w0:1<=t.W
 w1:t.W<=16
 h0:1<=t.H
 h1:t.H<=16
 d0:1<=t.d
 d1:t.d<=16
 len:t.l.length=t.W*t.H
 smp:ie t.d t.l
 k7:t.k<=7
 may:iE t.k t.l t.W t.d=true
def xX.bits(t:xX):List Nat:=ik t.k t.l t.W t.H t.d
theorem Po:jx prog 71 73 (.agg #[(0:Int),(0:Int),(0:Int),(0:Int)]) 4 32:=.mk' underlying71 (by kernel_rfl)
def ph(w:World)(v:Value)(F:List Nat)(l:List Sq):Prop:=jy w 73 4 v F l.length (l.flatMap oC)
theorem ph.snoc{w:World}{a:Nat}{l:List Sq}{q:Sq}{c:List Value}(h:jy w 73 4 (.slice g (n+1) a) [g] (n+1) (l.flatMap oC++c))(e:n=l.length)(f:c=oC q):ph w (.slice g (n+1) a) [g] (l++[q]):=by
 unfold ph;rw[flatMap_append,zC,length_singleton,<-e];rw[f]at h
 simpa using h
theorem By(W H S:Nat)(w:World)(hw0:1<=W)(hw1:W<=64)(hh0:1<=H)(hh1:H<=64)(hs0:1<=S)(hs1:S<=64):Calls prog 49 #[W,H,S] w λe w'=>∃v F,e=.returned v/\ph w' v F (iM W H S)/\gg [] w w'/\∀x∈F,w.heap.size<=x:=by
 have U:=Bx W H S;have aK:H*W<=64*64:=zL hh1 hw1;have⟨G,hG⟩:=zX (iM W H S);have L:(kR S H H 0).flatMap (nQ W S)=G:=hG.symm;rw[<-hG]at U⊢;have aN:G.length<=4096:=by omega
 have aI:=gd L;clear L hG U aK;have t1:=Ra W 1 (by omega);have t2:=Ra 64 W (by omega);have t3:=Ra H 1 (by omega);have t4:=Ra 64 H (by omega);have t5:=Ra S 1 (by omega);have t6:=Ra 64 S (by omega);go_enter func49,ntmps49;go_wp2_with fail
 go_loopg [7,8,9] H (λj vl vy vx wr=>∃(y:Nat) (done:List Sq) (F:List Nat),vy=.int .i64 y/\H<=y+j/\y<=128/\gh (done++(kR S H j y).flatMap (nQ W S)=G)/\ph wr vl F done/\gh (gg [] w wr)/\gh (∀x∈F,w.heap.size<=x))
 .exact⟨0,[],[],rfl,by omega,by omega,gd aI.o,jy.nil _ _ _,gd (zR _ _),gd (by simp)⟩
 obtain⟨y,done,F,rfl,aQ,aA,o,r,B,D⟩:=hrel;by_cases hyH:H<=y
 .have t5:decide (y<H)=false:=zA (by omega)
  have P:done=G:=by
   have:=o.o
   rw[uu _ hyH]at this
   simpa using this
  obtain⟨A,R,rfl⟩:=jy.shape r;have aE:=gd P;clear P;go_wp2;go_ret;exact⟨_,F,rfl,by rw[<-aE.o];exact r,B.o,D.o⟩
 .rcases gk with _|j
  .exfalso;omega
  have t5:decide (y<H)=true:=zB (by omega);have⟨hh,ap⟩:=zX (min S (H-y));have J:=Ms (w:=W) (s:=S) (f:=j) (show y<H by omega);rw[<-ap]at J;have⟨R2,ao⟩:=zX ((kR S H j (y+S)).flatMap (nQ W S));rw[<-ao]at J;have Q:gh (done++(rh W S W 0 (y,hh)++R2)=G):=gd (by
   have:=o.o
   rw[J]at this;exact this)
  have aG:=gd ao;obtain⟨b,hb⟩:∃b:Nat,b=H-y:=⟨_,rfl⟩;have eb:(H:Int)-(y:Int)=(b:Int):=by omega
  have X:hh=min S b:=by rw[ap,hb]
  have aF:=gd X;clear J ao o ap hb X;go_wp2_with fail;have⟨wo,aO⟩:=zX wr
  go_loopg [7,9] W (λE vl vx wr=>∃(x:Nat) (done:List Sq) (F:List Nat),vx=.int .i64 x/\W<=x+E/\x<=128/\gh (done++(rh W S E x (y,hh)++R2)=G)/\ph wr vl F done/\gh (gg [] w wr)/\gh (∀x∈F,w.heap.size<=x))
  .exact⟨0,done,F,rfl,by omega,by omega,Q,r,B,D⟩
  clear r B D Q;obtain⟨x,done,F,rfl,aP,az,o,r,B,D⟩:=hrel;by_cases hxW:W<=x
  .have t6:decide (x<W)=false:=zA (by omega)
   have ak:gh (done++R2=G):=gd (by
    have:=o.o
    rw[KI _ _ hxW,nil_append]at this;exact this)
   clear o;obtain⟨A,R,rfl⟩:=jy.shape r;go_wp2_with fail
   go_roundg j
   .exact⟨y+S,done,F,by go_num,by omega,by omega,gd (by rw[<-aG.o];exact ak.o),r,B,D⟩
   .omega
  .rcases gk with _|E
   .exfalso;omega
   have t6:decide (x<W)=true:=zB (by omega);obtain⟨a,ha⟩:∃a:Nat,a=W-x:=⟨_,rfl⟩;have ea:(W:Int)-(x:Int)=(a:Int):=(by omega);obtain⟨t,V⟩:∃m:Nat,m=min S a:=⟨_,rfl⟩;have aL:min (S:Int) (a:Int)=(t:Int):=(by omega);have aM:min (S:Int) (b:Int)=(hh:Int):=(by have:=aF.o;omega);have am:gh (done++[⟨x,y,t,hh⟩]++(rh W S E (x+S) (y,hh)++R2)=G):=gd (by
    have:=o.o
    rw[CF E (y,hh) (show x<W by omega)]at this;rw[zH,V,ha];exact this)
   have aq:done.length<4096:=by
    have:=congrArg length o.o
    rw[CF E (y,hh) (show x<W by omega),zC,zC,zK]at this;omega
   have⟨dn,an⟩:=zX done.length;have I:=r;unfold ph at I;rw[<-an]at I;rw[<-an]at aq;have aC:=gd an;have ad:=gn.new wr 73 #[x,y,t,hh];have M:=I.Y ((zR [] wr).alloc (.cells #[x,y,t,hh] 73));obtain⟨A,R,rfl⟩:=jy.shape I;clear V ha an o r I
   go_wp2_with(at_builtin;refine vR rfl rfl Po rfl (by decide) rfl M [.int .i64 x,.int .i64 y,.int .i64 t,.int .i64 hh] rfl rfl ?c1 ?c2 ?c3 ?c4 ?_)
   case c1=>
    intro q u c
    match q,c with
    | 0,c=>rw[<-c];exact ad.X 0
    | 1,c=>rw[<-c];exact ad.X 1
    | 2,c=>rw[<-c];exact ad.X 2
    | 3,c=>rw[<-c];exact ad.X 3
    | q+4,c=>simp at c
   case c2=>intro u hu;simp at hu;rcases hu with rfl|rfl|rfl|rfl<;>rfl
   case c3=>omega
   case c4=>omega
   intro Z aJ w3 N K;have O:gg [] w w3:=(B.o.alloc _).trans K.Z (λz hz=>.inr (D.o _ hz));have T:∀z∈[Z],w.heap.size<=z:=λz hz=>by
    rcases K.new z hz with h|h
    .exact D.o _ h
    .have h8:(wr.alloc (.cells #[x,y,t,hh] 73)).heap.size=wr.heap.size+1:=by simp
     have h9:=B.o.size;omega
   have Y:=ph.snoc (q:=⟨x,y,t,hh⟩) N aC.o rfl;have⟨aH,aB,aD⟩:=Q9 Y O T;clear ad M N K O T Y;go_wp2_with fail
   go_roundg E
   .exact⟨x+S,done++[⟨x,y,t,hh⟩],[Z],by go_num,by omega,by omega,am,aH.o,aB,aD⟩
   .omega
end Go.Proofs.YtifdlkoepaepiaaGreatDoor
