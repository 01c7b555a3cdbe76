/- Lemmas. -/
import Derived.Test.YtifdlkoepaepiaaGreatDoorMg38
import Derived.Test.YtifdlkoepaepiaaGreatDoorMg14
set_option linter.all false
set_option maxHeartbeats 4000000
set_option maxRecDepth 100000
namespace Go.Proofs.YtifdlkoepaepiaaGreatDoor
open Tryz List Nat Go.RowKit
variable {l:List Int}{W d i n:Nat}{w':World}
theorem xO(w:World)(b:Nat)(F f:List Nat)(p n v:Nat)(m:Nat)(g:Nat)(c S:List Nat)(h:gM w b F f p)(E:n<=16)(o:v<2^n)(r:ig f p (gx v n))(u:hJ w g c S)(J:S.length<137438953472)(a:w.cell? m=some (.pointer b))(D:m≠b)(s:∀x∈F,x∉c):Calls prog 207 #[n,.pointer m,.pointer g] w λe w'=>e=.returned v/\gM w' b F f (p+n)/\∃FS',hJ w' g FS' (S++gx v n)/\gg (b::c) w w'/\∀x∈FS',x∈c\/w.heap.size<=x:=by
 have t:=iU w b F f p n v h (by omega) o r;have H:v<65536:=Nat.lt_of_lt_of_le o (show 2^n<=2^16 from Nat.pow_le_pow_right (by decide) E);have I:IntKind.i64.wrap (v:Int)=(v:Int):=IntWalk.i64_in _ (by omega);have ad:=h.mem;have⟨HD,HV⟩:=gy s o;clear r h s;go_enter func207,ntmps207;go_wp2_with fail;refine t.mono ?_;rintro e G ⟨rfl,z,j⟩;have A:=u.Z j (λx a hm=>by simp at hm;exact HD.o b ad (hm ▸ a));clear t u;go_wp2_with fail;refine(iG G g c S v n A (by omega) HV.o (by omega)).mono ?_;rintro e K ⟨rfl,y,B,k⟩;go_wp2;go_ret;refine⟨rfl,z.Z k.Z HD.o,y,B,?_,λx a => ?_⟩
 .exact(j.mono (λx a _=>by simp at a;simp[a])).trans k.Z (λx a => .inl (by simp[a]))
 .rcases k.new x a with q|q
  .exact .inl q
  .right;have:=j.size;omega
theorem LX(lens:List Nat)(i:Nat):lens.take (i+zr 66 (lens.drop i))=lens.take i++replicate (zr 66 (lens.drop i)) 0:=by
 rw[take_add]
 congr 1
 have c:=xP 66 (lens.drop i);refine List.eq_replicate_iff.2 ⟨by rw[zI];omega,λx hx => ?_⟩;obtain⟨q,b,rfl⟩:=getElem_of_mem hx;rw[zI]at b;have a:=GR 66 (lens.drop i) q (by omega);rw[getElem_take];rw[zD,zF (by omega)]at a
 simpa using a
theorem Ks(w:World)(b:Nat)(F k:List Nat)(p:Nat)(lens:List Nat)(h:gM w b F k p)(hf:m8 lens)(ha:ig k p (ou lens)):Calls prog 150 #[.pointer b] w λe w'=>∃v G,e=.returned (.tuple #[v,(0:Int)])/\gK w' 3 v G (lens.map i64)/\gM w' b F k (p+(ou lens).length)/\gg [b] w w'/\∀x∈G,w.heap.size<=x:=by
 have cR:=hf.n1;have cS:=hf.n2;have cn:=hf.le;have O:=CI lens;have ct:=yC lens;have⟨T,hT⟩:=zX (ou lens);rw[<-hT]at ha O ct⊢;have⟨N,hN⟩:=zX lens.length;rw[<-hN]at cR cS O ct;have⟨N1,ci⟩:=zX (N-1);have eN:(N1:Int)+1=(N:Int):=by omega
 rw[<-ci]at O;have bv:=ha;rw[O]at bv;have bQ:=bv.right;rw[gH]at bQ;have c7:=h.lt b h.mem;have bZ:=h.lt;have⟨bx,bw⟩:=zX w.heap.size;have⟨w1,bm⟩:=zX (w.alloc (.cells #[.pointer b] 106));have⟨w2,bA⟩:=zX (w1.alloc (.cells #[.slice none 0 0,(0:Int)] 90));have aL:gn w1 bx 106 #[.pointer b]:=by rw[bm,bw];exact gn.new w _ _
 have bJ:gg [] w w1:=by rw[bm];exact(zR [] w).alloc _
 have bs:gg [] w1 w2:=by rw[bA];exact(zR [] w1).alloc _
 have b6:w1.heap.size=bx+1:=by rw[bm,bw];simp
 have bn:hJ w2 (bx+1) [bx+1] []:=by
  have:=hJ.new w1
  rw[<-bA,b6]at this;exact this
 have ay:=aL.Z bs (by simp);have b4:=h.Y bJ;have cp:=b4.Y bs;have c2:=ay.X 0;simp at c2;have c1:=aL.X 0;simp at c1;have aF:=xO w2 b F k p 10 N1 bx (bx+1) [bx+1] [] cp (by omega) (by omega) bv.left bn (by simp) c2 (by omega) (λx a c=>by simp at c;have:=bZ x a;omega);have⟨HF,HN,HT,cc⟩:=gu hf hN hT O;have⟨cF,HA,br,cI⟩:=gu cn bQ bZ bm;have⟨cJ,ai,cC,cH⟩:=gu bA bw (bJ.tq bs) b6;clear hN hT O cn ha bv bQ bZ bm bA bw bJ bs ci h bn hf b6 aL;go_enter func150,ntmps150;go_wp2_with fail;rw[<-ai.o,<-cI.o];refine(iS w1 b F k p b4).mono ?_;rintro e wx ⟨rfl,rfl⟩;go_wp2_with fail;rw[cH.o,<-cJ.o];refine aF.mono ?_;rintro e w3 ⟨rfl,cq,b9,aQ,bK,a4⟩;rw[nil_append]at aQ;have c8:b<bx:=by have:=ai.o;omega
 have a7:=ay.Z bK (by simp;omega);have cU:bx<w2.heap.size:=ay.lt;have a2:∀x∈b9,bx<x:=λx a=>by
  rcases a4 x a with f|f
  .simp at f;omega
  .omega
 have ce:gg [b] w w3:=(cC.o.mono (by simp)).trans bK (λx a=>by simp at a;rcases a with a|a;left;simp[a];right;have:=ai.o;omega);clear aF b4 cp ay c1 c2 bK a4 cU;go_wp2_with fail
 go_loopg [7,8] N (λj vl va wr=>∃(i r:Nat) (FS S G:List Nat),i<=N/\N<=i+j/\gK wr 3 vl G ((lens.take i).map i64)/\gM wr b F k r/\gh (ig k r (mU lens i))/\gh (r+(mU lens i).length=p+T.length)/\hJ wr (bx+1) FS S/\gh (S++mU lens i=T)/\gn wr bx 106 #[.pointer b]/\gh (∀x∈FS,bx<x)/\gh (∀x∈G,bx<x/\x∉FS)/\gh (gg [b] w wr))
 .exact⟨0,p+10,b9,gx N1 10,[],by omega,by omega,gK.nil _ _,cq,HA,gd (by rw[cc.o,zC,gH];omega),aQ,gd cc.o.symm,a7,gd a2,gd (by simp),gd ce⟩
 clear cq aQ a7 a2 ce;obtain⟨i,r,FS,S,G,c9,da,s,D,cb,HP,L,HS,E,H,u,bq⟩:=hrel;have cx:=E.X 0;simp at cx;have K:(lens.take i).length=i:=by rw[zI,<-HN.o];omega
 have⟨kd,bV⟩:=zX (lens.take i);rw[<-bV]at s K;have bG:=gd bV;clear bV;obtain⟨Al,cl,rfl,bT,cP,ae⟩:=s.T;rw[K]at bT⊢;have P:=s;rw[K]at P;by_cases hi:N<=i
 .obtain rfl:N=i:=by omega
  have t1:decide (N<N)=false:=by simp
  have e0:mU lens N=[]:=by rw[HN.o];exact Ct lens
  have hp:=HP.o;rw[e0,length_nil]at hp;have cj:=HS.o;rw[e0,append_nil]at cj;subst cj;have bW:kd=lens:=by rw[bG.o,HN.o,zN]
  have t2:((N:Int) != (N:Int))=false:=by simp
  have ag:gz i64 wr Al lens:=by rw[<-bW];exact ae
  have aq:=s;rw[bW,<-HN.o]at aq;have⟨ab,bR⟩:=zX wr.heap.size;have⟨w8,bB⟩:=zX (wr.alloc (.cells #[.slice none 0 0,(0:Int)] 90));have Y:gg [] wr w8:=by rw[bB];exact(zR [] wr).alloc _
  have cu:hJ w8 ab [ab] []:=by rw[bB,bR];exact hJ.new wr
  have b2:=L.lt;have bg:=s.lt;have a6:ib Al lens [ab]:=s.apt (λx a c=>by simp at c;have:=bg x a;omega);have b3:=Dg w8 ab [ab] [] lens Al cl cu HF.o (ag.Y Y) a6 (by simp);rw[nil_append,<-HT.o,<-HN.o]at b3;have el:=iS wr b F k r D;have⟨aT,cK⟩:=gy bR bB;have bi:=D.Y Y;have bp:=L.Y Y;have aD:=aq.Y Y;have bc:=bq.o.trans Y (by simp);have b5:=D.lt;have cG:=gd hp;clear e0 bW ag ae s P aq bR bB cu a6 hp E L
  go_wp2_with(go_at_call 60;refine gB el ?_)
  rw[<-aT.o,<-cK.o];refine b3.mono ?_;rintro e w9 ⟨rfl,F9,aR,R⟩;have bP:=bp.Z R.Z (λx a c=>by simp at c;have:=b2 x a;have:=aT.o;omega);have bj:=bi.Z R.Z (λx a c=>by simp at c;have:=b5 x a;have:=aT.o;omega);have aE:=aD.Z R.Z (λx a c=>by simp at c;have:=bg x a;have:=aT.o;omega);have bd:=bc.trans R.Z (λx a => .inr (by simp at a;have:=aT.o;have:=bq.o.size;omega));have bX:=Bg w9 ab F9 S aR;have bY:=Bg w9 (bx+1) FS S bP;have a8:=xD w9 ab F9 S aR (by omega);have a9:=λQ hz=>xD Q (bx+1) FS S (bP.Y hz:hJ Q (bx+1) FS S) (by omega);have⟨sl,cs⟩:=zX S.length;rw[<-cs]at bX bY;have cB:=gd a9;clear b3 bi bp aD bc aR bP R a9 cs;go_wp2_with fail;refine gB bX ?_;go_wp2_with fail;refine gB bY ?_;clear bX bY;go_wp2_with fail;refine a8.mono ?_;rintro e cY ⟨dc,c0,rfl,aG,Z,bN⟩;obtain⟨cz,cL,rfl,_,_,aY⟩:=aG.T;clear a8;go_wp2_with fail;refine(cB.o cY Z).mono ?_;rintro e cZ ⟨dd,c5,rfl,aH,an,bO⟩;obtain⟨cA,cM,rfl,_,_,aZ⟩:=aH.T;have bI:∀ {Q:World} {A:Option Addr},gz b8 Q A (iD S)->Lib.BytesIn Q A (iD S).length ((iD S).map Int.ofNat):=by
   intro Q A hc hn;obtain⟨g,o,e1,_,ba⟩:=hc.ex hn;refine⟨g,o,e1,λi hi => ?_⟩;rw[ba i _ (zF hi)];have e:((iD S).map Int.ofNat).getD i 0=((iD S)[i]:Nat):=by
    rw[zD,zW,zF hi];rfl
   rw[e];rfl
  have cm:=bytes_Equal_all cz cA (iD S).length cL (iD S).length cM ((iD S).map Int.ofNat) ((iD S).map Int.ofNat) cZ (by simp) (by simp) (bI (aY.Y an)) (bI aZ);have et:(Lib.bytesOf ((iD S).map Int.ofNat)==Lib.bytesOf ((iD S).map Int.ofNat))=true:=by simp
  rw[et]at cm;have bh:=(bj.Y Z).Y an;have aN:=(aE.Y Z).Y an;have bb:=(bd.trans Z (by simp)).trans an (by simp);clear aG aH aY aZ bI et Z an bN bO bj aE bd;go_wp2_with fail;refine gB cm ?_;go_wp2
  go_ret2
  exact⟨_,G,rfl,by rw[HN.o]at *;exact aN,bh.cast cG.o,bb,λx a=>by have:=(u.o x a).1;have:=ai.o;omega⟩
 .rcases gk with _|j
  .exfalso;omega
  have cQ:i<N:=by omega
  have bf:i<lens.length:=by rw[<-HN.o];exact cQ
  have c6:S.length<=20000:=by
   have:=congrArg length HS.o
   rw[zC]at this;omega
  have aM:∀x∈F,x∉FS:=λx a c=>by have:=br.o x a;have:=H.o x c;have:=ai.o;omega
  by_cases hz:zr 66 (lens.drop i)<3
  .have B:=Cu bf hz
   have y:=cb.o;rw[B]at y;have cW:gO lens i<=24:=by
    unfold gO;rw[zD,zF bf];exact cF.o _ (zG _)
   have M:=jD lens bf;have co:lens[i]=gO lens i:=(by unfold gO;rw[zD,zF bf];rfl);rw[co]at M;generalize gO lens i=v at *;have bk:=xO wr b F k r 5 v bx (bx+1) FS S D (by omega) (by omega) y.left L (by omega) cx (by omega) aM;have⟨bC,aU,bH⟩:=gX y.right B M;have t2:((v:Int) != 31)=true:=(by rw[bne_iff_ne];omega);have bS:=E.lt;have be:=(iS wr b F k r D);clear y B M co D L
   go_wp2_with(go_at_call 60;refine gB be ?_)
   refine bk.mono ?_;rintro e w4 ⟨rfl,bz,FS4,ar,t,J⟩;have ad:=s.lt;have au:=P.Z t (λx a c=>by
    rcases zJ.1 c with c|c
    .have:=(u.o x a).1;omega
    .exact(u.o x a).2 c)
   have I:=E.Z t (λc=>by
    rcases zJ.1 c with c|c
    .omega
    .have:=H.o _ c;omega)
   have bu:=I.X 0;simp at bu;have cV:=t.size;have ap:∀x∈FS4,bx<x:=λx a=>by
    rcases J x a with f|f
    .exact H.o x f
    .omega
   have V:∀x∈G,bx<x/\x∉FS4:=λx a=>⟨(u.o x a).1,λc=>by
    rcases J x c with f|f
    .exact(u.o x a).2 f
    .have:=ad x a;omega⟩
   have U:gg [b] w w4:=bq.o.trans t (λx a=>by
    rcases zJ.1 a with a|a
    .left;simp[a]
    .right;have:=H.o x a;have:=ai.o;omega)
   have⟨cE,aj,av,bE⟩:=gu ad ap V U;have m:gg [] w4 (w4.alloc (.cells #[.int .i64 v] 3)):=(zR [] w4).alloc _;have bU:=au.Y m;clear s P ae E J ad ap V U t bk be au
   go_wp2_with(at_builtin;refine ka rfl rfl iO rfl rfl bU (.int .i64 v) rfl ?c1 ?c2 ?c3 ?c4 ?_)
   case c1=>simp[go_sem]
   case c2=>rfl
   case c3=>rw[zE,K];omega
   case c4=>rw[zE,K];omega
   intro g2 cN w5 cr q;have⟨G5,cg⟩:=zX ([g2]);have ah:=cr.R;rw[<-cg]at q ah;clear cr cg;have b0:=ar.lt;go_wp2_with fail
   go_roundg j
   .refine⟨i+1,r+5,FS4,S++gx v 5,G5,by omega,by omega,?_,(bz.Y m).Z q.Z (λx a c=>by have:=br.o x a;have:=(av.o x c).1;have:=ai.o;omega),bC,gd ?_,(ar.Y m).Z q.Z (λx a c=>(av.o x c).2 a),gd ?_,(I.Z m (by simp)).Z q.Z (λc=>by have:=(av.o _ c).1;omega),aj,gd ?_,gd ?_⟩
    .rw[bH.o,<-bG.o,zM]
     exact ah
    .have:=HP.o
     rw[aU.o]at this;simp only[zC,gH]at this;omega
    .rw[<-HS.o,aU.o]
     simp only[zH]
    .intro x a
     rcases q.new x a with f|f
     .exact av.o x f
     .have:=m.size
      exact⟨by omega,λc=>by have:=b0 x c;omega⟩
    .exact(bE.o.trans m (by simp)).trans q.Z (λx a => .inr (by have:=(av.o x a).1;have:=ai.o;omega))
   .omega
  .have B:=Ci bf hz
   have cy:=xP 66 (lens.drop i);have cX:=Hq 66 (lens.drop i);have M:=LX lens i;rw[zO,<-HN.o]at cy;have⟨z,cw⟩:=zX (zr 66 (lens.drop i));rw[<-cw]at B hz cy cX M;have⟨z0,cv⟩:=zX (z-3);have ez:(z0:Int)+3=(z:Int):=(by omega);rw[<-cv]at B;have y:=cb.o;rw[B]at y;have bk:=xO wr b F k r 5 31 bx (bx+1) FS S D (by omega) (by omega) y.left L (by omega) cx (by omega) aM;have bL:=y.right;rw[gH]at bL;have⟨ca,aU,bH⟩:=gX bL B M;have t2:(((31:Nat):Int) != 31)=false:=rfl;have bS:=E.lt;have be:=(iS wr b F k r D);clear y bL B M D L cw cv
   go_wp2_with(go_at_call 60;refine gB be ?_)
   refine bk.mono ?_;rintro e w4 ⟨rfl,bz,FS4,ar,t,J⟩;have ad:=s.lt;have au:=P.Z t (λx a c=>by
    rcases zJ.1 c with c|c
    .have:=(u.o x a).1;omega
    .exact(u.o x a).2 c)
   have I:=E.Z t (λc=>by
    rcases zJ.1 c with c|c
    .omega
    .have:=H.o _ c;omega)
   have bu:=I.X 0;simp at bu;have cV:=t.size;have ap:∀x∈FS4,bx<x:=λx a=>by
    rcases J x a with f|f
    .exact H.o x f
    .omega
   have V:∀x∈G,bx<x/\x∉FS4:=λx a=>⟨(u.o x a).1,λc=>by
    rcases J x c with f|f
    .exact(u.o x a).2 f
    .have:=ad x a;omega⟩
   have U:gg [b] w w4:=bq.o.trans t (λx a=>by
    rcases zJ.1 a with a|a
    .left;simp[a]
    .right;have:=H.o x a;have:=ai.o;omega)
   have⟨aj,av,bE⟩:=gX ap V U;have aC:∀x∈F,x∉FS4:=λx a c=>by have:=br.o x a;have:=aj.o x c;have:=ai.o;omega
   have bl:=xO w4 b F k (r+5) 6 z0 bx (bx+1) FS4 (S++gx 31 5) bz (by omega) (by omega) ca.o.left ar (by rw[zC,gH];omega) bu (by omega) aC;have⟨bC,aA,bD⟩:=gX ca.o.right au I;have ck:=I.lt;clear s P ae E J ad ap V U t bk be au I bz ar aM aC;go_wp2_with fail;refine bl.mono ?_;rintro e w6 ⟨rfl,cT,FS6,bo,X,bM⟩;have ad:=aA.o.lt;have b7:=aA.o.Z X (λx a c=>by
    rcases zJ.1 c with c|c
    .have:=(av.o x a).1;omega
    .exact(av.o x a).2 c)
   have cd:=bD.o.Z X (λc=>by
    rcases zJ.1 c with c|c
    .omega
    .have:=aj.o _ c;omega)
   have cO:=cd.X 0;simp at cO;have db:=X.size;have a3:∀x∈FS6,bx<x:=λx a=>by
    rcases bM x a with f|f
    .exact aj.o x f
    .omega
   have ch:∀x∈G,bx<x/\x∉FS6:=λx a=>⟨(av.o x a).1,λc=>by
    rcases bM x c with f|f
    .exact(av.o x a).2 f
    .have:=ad x a;omega⟩
   have cf:gg [b] w w6:=bE.o.trans X (λx a=>by
    rcases zJ.1 a with a|a
    .left;simp[a]
    .right;have:=aj.o x a;have:=ai.o;omega)
   have⟨bF,aV,cD⟩:=gX a3 ch cf;have m:gg [] w6 w6:=zR _ _;clear bM ad a3 ch cf X bl
   go_wp2_with(at_builtin;refine IR rfl rfl iO rfl rfl underlying3 rfl b7 z rfl ?c1 ?c2 ?c3 ?_)
   case c1=>omega
   case c2=>rw[zE,K];omega
   case c3=>rw[zE,K];omega
   intro v5 G5 w5 ah q;have b1:=bo.lt;go_wp2_with fail
   go_roundg j
   .refine⟨i+z,r+5+6,FS6,S++gx 31 5++gx z0 6,G5,by omega,by omega,?_,(cT.Y m).Z q.Z (λx a c=>by have:=br.o x a;have:=(aV.o x c).1;have:=ai.o;omega),bC,gd ?_,(bo.Y m).Z q.Z (λx a c=>(aV.o x c).2 a),gd ?_,(cd.Z m (by simp)).Z q.Z (λc=>by have:=(aV.o _ c).1;omega),bF,gd ?_,gd ?_⟩
    .rw[bH.o,<-bG.o,zM]
     have:=ah
     simpa[i64]using this
    .have:=HP.o
     rw[aU.o]at this;simp only[zC,gH]at this;omega
    .rw[<-HS.o,aU.o]
     simp only[zH]
    .intro x a
     rcases q.new x a with f|f
     .exact aV.o x f
     .have:=m.size
      exact⟨by omega,λc=>by have:=b1 x c;omega⟩
    .exact(cD.o.trans m (by simp)).trans q.Z (λx a => .inr (by have:=(aV.o x a).1;have:=ai.o;omega))
   .omega
structure lT (w:World) (tb:Nat) (lens:List Nat) (kl kf ks:Nat) (C:Array Value) (vs:Nat->Value) (Fs:Nat->List Nat):Prop where
 blk:gn w tb 288 C
 size:C.size=51
 long:C[0]?=some (.int .i64 (rp lens kl:Nat))
 first:∀n,n<25->C[1+n]?=some (.int .u64 (jZ lens kf n:Nat))
 syms:∀n,n<25->C[26+n]?=some (vs n)
 own:∀n,n<25->gK w 3 (vs n) (Fs n) ((js lens ks n).map i64)
 new:∀n,∀x∈Fs n,tb<x
 apart:∀n m,n<25->m<25->n≠m->∀x∈Fs n,x∉Fs m
abbrev ti (w:World) (tb:Nat) (lens:List Nat) (k:Nat) (C:Array Value) (vs:Nat->Value) (Fs:Nat->List Nat):Prop:=lT w tb lens k k k C vs Fs
variable {w:World} {tb:Nat} {lens:List Nat} {kl kf ks:Nat} {C:Array Value} {vs:Nat->Value} {Fs:Nat->List Nat}
theorem lT.Y(h:lT w tb lens kl kf ks C vs Fs)(a:gg [] w w'):lT w' tb lens kl kf ks C vs Fs:=
 { h with blk:=h.blk.Z a (by simp),own:=λn hn=>(h.own n hn).Y a }
theorem lT.Z(h:lT w tb lens kl kf ks C vs Fs){G:List Nat}(b:gg G w w')(a:∀x∈G,x<tb):lT w' tb lens kl kf ks C vs Fs:=
 { h with blk:=h.blk.Z b (λhm=>by have:=a tb hm;omega),own:=λn hn=>(h.own n hn).Z b λx hx hm=>by have:=h.new n x hx;have:=a x hm;omega }
theorem lT.first_new(h:lT w tb lens kl ks ks C vs Fs)(f:n<25){a:Nat}(c:jZ lens (ks+1) n=a)(b:∀m,n≠m->jZ lens (ks+1) m=jZ lens ks m):lT (w.setCell ⟨tb,1+n,none⟩ (.int .u64 a)) tb lens kl (ks+1) ks (C.setIfInBounds (1+n) (.int .u64 a)) vs Fs where
 blk:=h.blk.S _ _
 size:=by rw[Array.size_setIfInBounds];exact h.size
 long:=by rw[Array.getElem?_setIfInBounds,if_neg (by omega)];exact h.long
 first m hm:=by
  by_cases e:n=m
  .subst e
   rw[Array.getElem?_setIfInBounds,if_pos rfl,if_pos (by rw[h.size];omega),c]
  .rw[Array.getElem?_setIfInBounds,if_neg (by omega),b m e];exact h.first m hm
 syms m hm:=by rw[Array.getElem?_setIfInBounds,if_neg (by omega)];exact h.syms m hm
 own m hm:=(h.own m hm).Q (λhx=>by have:=h.new m _ hx;simp at this) _
 new:=h.new
 apart:=h.apart
theorem lT.first_old(h:lT w tb lens kl ks ks C vs Fs)(a:∀m,jZ lens (ks+1) m=jZ lens ks m):lT w tb lens kl (ks+1) ks C vs Fs:={ h with first:=λm hm=>by rw[a];exact h.first m hm }
theorem lT.long_new(h:lT w tb lens kl kf ks C vs Fs){k:Nat}(a:rp lens k=n):lT (w.setCell tb (.int .i64 n)) tb lens k kf ks (C.setIfInBounds 0 (.int .i64 n)) vs Fs where
 blk:=h.blk.S _ _
 size:=by rw[Array.size_setIfInBounds];exact h.size
 long:=by rw[Array.getElem?_setIfInBounds,if_pos rfl,if_pos (by rw[h.size];omega),a]
 first m hm:=by rw[Array.getElem?_setIfInBounds,if_neg (by omega)];exact h.first m hm
 syms m hm:=by rw[Array.getElem?_setIfInBounds,if_neg (by omega)];exact h.syms m hm
 own m hm:=(h.own m hm).Q (λhx=>by have:=h.new m _ hx;simp at this) _
 new:=h.new
 apart:=h.apart
theorem lT.syms_new(h:lT w tb lens kl kf ks C vs Fs)(k:n<25){g:Nat}{v:Value}{s:Nat}(f:gE (Fs n) [g] w w')(u:tb<w.heap.size)(q:gK w' 3 v [g] ((js lens ks n).map i64++[i64 s]))(r:js lens (ks+1) n=js lens ks n++[s])(p:∀m,n≠m->js lens (ks+1) m=js lens ks m):lT (w'.setCell ⟨tb,26+n,none⟩ v) tb lens kl kf (ks+1) (C.setIfInBounds (26+n) v) (λm=>if m=n then v else vs m) (λm=>if m=n then[g]else Fs m):=by
 have o:tb∉Fs n:=λhm=>by have:=h.new n _ hm;omega
 have t:tb<g:=by
  rcases f.new g (by simp)with c|c
  .exact h.new n _ c
  .omega
 have j:∀m,m<25->m≠n->∀x∈Fs m,x≠g:=λm hm hmn x hx he=>by
  subst he;rcases f.new x (by simp)with c|c
  .exact h.apart m n hm k hmn x hx c
  .have:=(h.own m hm).lt x hx;omega
 refine⟨(h.blk.Z f.Z o).S _ _,by rw[Array.size_setIfInBounds];exact h.size,by rw[Array.getElem?_setIfInBounds,if_neg (by omega)];exact h.long,λm hm=>by rw[Array.getElem?_setIfInBounds,if_neg (by omega)];exact h.first m hm,λm hm => ?_,λm hm => ?_,λm x hx => ?_,λa b ha hb hab x hx hx' => ?_⟩
 .rw[Array.getElem?_setIfInBounds]
  by_cases e:m=n
  .subst e;rw[if_pos rfl,if_pos (by rw[h.size];omega),if_pos rfl]
  .rw[if_neg (by omega),if_neg e];exact h.syms m hm
 .by_cases e:m=n
  .subst e
   simp only[if_pos rfl];rw[r,zM];exact q.Q (by simp;omega) _
  .simp only[if_neg e]
   rw[p m (λhh=>e hh.symm)];refine((h.own m hm).Z f.Z λx hx hm'=>h.apart m n hm k e x hx hm').Q (λhx=>by have:=h.new m _ hx;simp at this) _
 .by_cases e:m=n
  .rw[if_pos e]at hx;simp at hx;omega
  .rw[if_neg e]at hx;exact h.new m x hx
 .by_cases e:a=n
  .rw[if_pos e]at hx
   rw[if_neg (λhh=>hab (e.trans hh.symm))]at hx';simp at hx;exact j b hb (λhh=>hab (e.trans hh.symm)) x hx' hx
  .rw[if_neg e]at hx
   by_cases e2:b=n
   .rw[if_pos e2]at hx'
    simp at hx';exact j a ha e x hx hx'
   .rw[if_neg e2]at hx'
    exact h.apart a b ha hb hab x hx hx'
def so:Array Value:=#[.int .i64 0,.int .u64 0,.int .u64 0,.int .u64 0,.int .u64 0,.int .u64 0,.int .u64 0,.int .u64 0,.int .u64 0,.int .u64 0,.int .u64 0,.int .u64 0,.int .u64 0,.int .u64 0,.int .u64 0,.int .u64 0,.int .u64 0,.int .u64 0,.int .u64 0,.int .u64 0,.int .u64 0,.int .u64 0,.int .u64 0,.int .u64 0,.int .u64 0,.int .u64 0,.slice none 0 0,.slice none 0 0,.slice none 0 0,.slice none 0 0,.slice none 0 0,.slice none 0 0,.slice none 0 0,.slice none 0 0,.slice none 0 0,.slice none 0 0,.slice none 0 0,.slice none 0 0,.slice none 0 0,.slice none 0 0,.slice none 0 0,.slice none 0 0,.slice none 0 0,.slice none 0 0,.slice none 0 0,.slice none 0 0,.slice none 0 0,.slice none 0 0,.slice none 0 0,.slice none 0 0,.slice none 0 0]
theorem GM:so=(Value.int .i64 0::(replicate 25 (Value.int .u64 0)++replicate 25 (Value.slice none 0 0))).toArray:=rfl
theorem Pt(w:World)(lens:List Nat):ti (w.alloc (.cells so 288)) w.heap.size lens 0 so (λ_ => .slice none 0 0) (λ_=>[]):=by
 refine⟨gn.new w _ _,rfl,rfl,λn hn => ?_,λn hn => ?_,λn _ => ?_,λ_ x hx=>by simp at hx,λ_ _ _ _ _ x hx=>by simp at hx⟩
 .have e:jZ lens 0 n=0:=by simp[jZ,js]
  rw[e,GM,getElem?_toArray,Nat.add_comm,getElem?_cons_succ,getElem?_append_left (by simpa using hn),getElem?_replicate,if_pos hn];rfl
 .rw[GM,getElem?_toArray,show 26+n=(25+n)+1 by omega,getElem?_cons_succ,zS (by simp),zV,show 25+n-25=n by omega,getElem?_replicate,if_pos hn]
 .have e:js lens 0 n=[]:=by simp[js]
  rw[e];exact gK.nil _ _
theorem O0(lens : List Nat)(A B : Option Addr)(ca cb : Nat)(w : World)(hf : m8 lens)(hA : gz i64 w A lens)(hB : gz sp w B (nS lens))(D : (nS lens).length = lens.length):Calls prog 210 #[.slice A lens.length ca,.slice B (nS lens).length cb] w λe w'=>∃tb C vs Fs,e=.returned (.pointer (some ⟨tb,0,none⟩))/\ti w' tb lens (hO lens).length C vs Fs/\gg [] w w'/\w.heap.size<=tb:=by
  have a7:=λwz hc=>ED lens A ca wz hf.n2 hc;have bo:=xw lens 24;have aJ:(hO lens).length<=lens.length:=bo;have bv:=hf.n2;rw[D];have⟨N,hN⟩:=zX lens.length;rw[<-hN]at a7 aJ bv D⊢;have⟨M,hM⟩:=zX ((hO lens).length);rw[<-hM]at aJ⊢;have⟨HN,HM,aU,HA⟩:=gu hN hM D hA;have⟨HB,aY⟩:=gy hB a7;clear hN hM D hA hB a7 bo hf;go_enter func210,ntmps210;go_wp2_with fail;have⟨tb,bc⟩:=zX w.heap.size;have⟨w1,aT⟩:=zX (w.alloc (.cells so 288));have a:ti w1 tb lens 0 so (λ_ => .slice none 0 0) (λ_=>[]):=by rw[aT,bc];exact Pt w lens
  have O:gg [] w w1:=by rw[aT];exact(zR [] w).alloc _
  have X:=gd bc;have bd:gh (w1=w.alloc (.cells #[(0:Int),.int .u64 0,.int .u64 0,.int .u64 0,.int .u64 0,.int .u64 0,.int .u64 0,.int .u64 0,.int .u64 0,.int .u64 0,.int .u64 0,.int .u64 0,.int .u64 0,.int .u64 0,.int .u64 0,.int .u64 0,.int .u64 0,.int .u64 0,.int .u64 0,.int .u64 0,.int .u64 0,.int .u64 0,.int .u64 0,.int .u64 0,.int .u64 0,.int .u64 0,.slice none 0 0,.slice none 0 0,.slice none 0 0,.slice none 0 0,.slice none 0 0,.slice none 0 0,.slice none 0 0,.slice none 0 0,.slice none 0 0,.slice none 0 0,.slice none 0 0,.slice none 0 0,.slice none 0 0,.slice none 0 0,.slice none 0 0,.slice none 0 0,.slice none 0 0,.slice none 0 0,.slice none 0 0,.slice none 0 0,.slice none 0 0,.slice none 0 0,.slice none 0 0,.slice none 0 0,.slice none 0 0] 288)):=gd aT;clear aT bc;rw[<-X.o,<-bd.o];refine(aY.o w1 (HA.o.Y O)).mono ?_;rintro e I ⟨v2,F2,rfl,av,P,bi⟩;obtain⟨Ar,cr,rfl,a4,a5,bl⟩:=av.T;rw[<-HM.o];have a1:=a.blk.lt;have bg:=(HA.o.Y O).Y P;have bh:=(HB.o.Y O).Y P;have bq:ti I tb lens 0 so (λ_ => .slice none 0 0) (λ_=>[]):=a.Y P;have a3:=gd (O.tq P);have aC:ib A lens [tb]:=ib.fresh HA.o (F:=[tb]) (by simp;exact Nat.le_of_eq X.o.symm);have aD:ib B (nS lens) [tb]:=ib.fresh HB.o (F:=[tb]) (by simp;exact Nat.le_of_eq X.o.symm);have aE:ib Ar (hO lens) [tb]:=av.apt (λx b hm=>by have:=bi x b;simp at hm;omega);have⟨ax,aV,aW,aX⟩:=gu (And.intro aC (And.intro aD aE)) bg bh bl;clear a1 a O P av bi a4 a5 bg bh bl aC aD aE;go_wp2_with fail
  go_loopg [7,8,14] M (λj va vb iv wr=>∃(k:Nat) (C:Array Value) (vs:Nat->Value) (Fs:Nat->List Nat),iv=.int .i64 k/\k+j=M/\gh (ti wr tb lens k C vs Fs)/\gh (gg [tb] I wr)/\gh (∀n,∀x∈Fs n,I.heap.size<=x))
  .exact⟨0,so,_,_,rfl,by omega,gd bq,gd (zR _ _),gd (by simp)⟩
  clear bq;obtain⟨k,C,vs,Fs,rfl,bA,r,V,K⟩:=hrel;rcases gk with _|j
  · obtain rfl:M=k:=by omega
    have u1:decide (M<M)=false:=(by simp);have bD:decide ((M:Int)<(M:Int))=false:=(by simp);go_wp2_with fail;go_ret;exact⟨tb,C,vs,Fs,rfl,r.o,a3.o.trans V.o (λx b => .inr (by simp at b;have:=X.o;omega)),by have:=X.o;omega⟩
  · have bu:k<M:=by omega
    have y:k<(hO lens).length:=(by rw[<-HM.o];exact bu);obtain⟨bp,aK,R⟩:=qw y;have aG:(hO lens)[k]=(hO lens).getD k 0:=(by rw[zD,zF y];rfl);have aR:=λn hn=>CH (n:=n) y hn;have p:=y8 y rfl;have h:=λn hn=>Js (n:=n) y hn;have g:=λH=>Kn y rfl H;have t:=λH=>Ko y rfl H;have o:rp lens (k+1)=gO lens ((hO lens).getD k 0):=rfl;obtain⟨gr,bz,rfl,aO⟩:=(aX.o.N ax.o.2.2 V.o).at_ y;rw[aG]at aO;have⟨s,hs⟩:=zX ((hO lens).getD k 0);rw[<-hs]at bp aK R aR p h g t o aO;have⟨n,hn⟩:=zX (gO lens s);rw[<-hn]at bp aK aR p h g t o;obtain⟨ga,oa,rfl,a2⟩:=(aV.o.N ax.o.1 V.o).at_ R;have bn:lens[s]=n:=(by rw[hn];unfold gO;rw[zD,zF R];rfl);rw[bn]at a2;have a8:s<(nS lens).length:=(by rw[aU.o,HN.o];exact R);obtain⟨gw,ow,rfl,aP⟩:=(aW.o.N ax.o.2.1 V.o).at_ a8;have bs:(nS lens)[s]=lS lens s:=(by unfold lS;rw[zD,zF a8];rfl);rw[bs]at aP;have⟨wd,br⟩:=zX (lS lens s);rw[<-br]at aP g;have d1:wr.cell? ⟨gr,bz+k,none⟩=some (.int .i64 s):=aO;have d2:wr.cell? ⟨ga,oa+s,none⟩=some (.int .i64 n):=a2;have d3:wr.cell? ⟨gw,ow+s,none⟩=some (.int .u64 wd):=aP;have c:n<25:=(by omega);have U:=r.o.blk;have d4:wr.cell? ⟨tb,26+n,none⟩=some (vs n):=(by rw[U.X];exact r.o.syms n c);have au:=r.o.own n c;have aQ:=DX lens k n;have bj:=HN.o;obtain⟨J,L,aS,ar,aF,a6⟩:=au.T;have⟨q,hq⟩:=zX ((js lens k n).length);rw[<-hq]at aS ar aQ;have bB:q<=1024:=(by rw[<-bj]at aQ;omega);rw[aS]at d4;have bw:s<N:=(by omega);have Z:=gd (And.intro aR (And.intro p (And.intro h (And.intro g (And.intro t o)))));have⟨HQ,bf⟩:=gy hq aS;clear aO a2 aP aG aR p h g t o hs hn bn bs br a8 R y hq aS a6 bj;have an:=V.o;have bm:=U.U (1+n);have bk:wr.cell? ⟨tb,1+n,none⟩=some (.int .u64 (jZ lens k n:Int)):=(by rw[U.X];exact r.o.first n c);by_cases hq0:q=0
    · subst hq0
      go_wp2_with fail;refine i9 9 (by kernel_rfl) (by kernel_rfl) ?_;simp only[take_succ_cons,take_zero,drop_succ_cons,drop_zero]
      repeat(go_big_quiet_step (fail))
      refine wpQuiet_nil ?_;intro _ bx;obtain⟨nq,rfl⟩:=bx;go_wp2_with fail;obtain⟨Y,p,h,g,t,o⟩:=Z.o;have H:js lens k n=[]:=eq_nil_of_length_eq_zero HQ.o.symm;have a:=(r.o.Y ((zR [] wr).drewN nq)).first_new c (g H) (λm e=>h m e);have E:gg [tb] I ((wr.drewN nq).setCell ⟨tb,1+n,none⟩ (.int .u64 wd)):=(an.drewN nq).setCell (.inl (by simp)) _;generalize (wr.drewN nq).setCell ⟨tb,1+n,none⟩ (.int .u64 wd)=wq at a E⊢;generalize C.setIfInBounds (1+n) (.int .u64 wd)=C1 at a;have S:=bf.o;have aH:(n:Int)<25:=(by omega);have T:=a.own n c;rw[S]at T;have f:=a.blk;have z:=a.syms n c;rw[S]at z;have bC:=f.lt;have n0:wq.cell? ⟨tb,26+n,none⟩=some (.slice J 0 L):=(by rw[f.X];exact z);have bb:tb∉Fs n:=λhm=>by have:=a.new n _ hm;omega
      have n1:(wq.alloc (.cells #[s] 3)).cell? ⟨tb,26+n,none⟩=some (.slice J 0 L):=(by rw[(f.alloc _).X];exact z);have ad:(map i64 (js lens k n)).length=0:=(by rw[zE];exact HQ.o.symm);clear aQ an bk bm ar aF d1 d2 d3 d4 aX aV aW HA HB aY aU ax r U au
      go_region_law (refine rL (by rfl) (by rfl) iO (by rfl) (by rfl) ((T.alloc (.cells #[.int .i64 (s : Int)] 3)).drew) (.int .i64 (s : Int)) (by rfl) (by simp [go_sem]) (by rfl) (by rw [ad]; omega) (by rw [ad]; omega) ?_; intro g2 aZ w3 Q u; have v := ((f.alloc (.cells #[.int .i64 (s : Int)] 3)).drew).Z u.Z bb; have y1 : w3.cell? ⟨tb, 26 + n, none⟩ = some (.slice J 0 L) := by rw [v.X]; exact z
                     have z1:=v.U (26+n);rw[ad])
      all_goals
        have y0:w3.cell? ⟨tb,0,none⟩=some (.int .i64 (rp lens k:Int)):=(by rw[v.X];exact a.long);have z0:=v.U 0;go_wp2_with fail;rw[ad]at Q
        go_roundg j
        .obtain⟨Y,p,h,g,t,o⟩:=Z.o
         have a9:tb<(wq.alloc (.cells #[s] 3)).drew.heap.size:=((f.alloc (.cells #[s] 3)).drew).lt;have ba:=(((a.Y (((zR [] wq).alloc (.cells #[s] 3)).drew)).syms_new c u a9 Q.R p Y).long_new o);have a0:gg [tb] I w3:=(E.alloc (.cells #[s] 3)).drew.trans u.Z (λx b => .inr (K.o n x b));refine⟨k+1,_,_,_,by go_num,by omega,gd ba,gd ((a0.setCell (.inl (by simp)) _).setCell (.inl (by simp)) _),gd ?_⟩;intro m x b;by_cases e:m=n
         · rw[if_pos e]at b
           have be:x=g2:=(by simpa using b);subst be;rcases u.new x (by simp)with G|G
           · exact K.o n x G
           · exact Nat.le_trans ((E.alloc (.cells #[s] 3)).drew.size) G
         · rw[if_neg e]at b
           exact K.o m x b
        .omega
    · have u2:((q:Int)==0)=false:=by rw[beq_eq_false_iff_ne];omega
      go_wp2_with fail;obtain⟨Y,p,h,g,t,o⟩:=Z.o;have H:js lens k n≠[]:=λhh=>hq0 (by rw[HQ.o,hh];rfl);have a:=r.o.first_old (λm=>by
        by_cases e:n=m
        · subst e;exact t H
        · exact h m e)
      have E:gg [tb] I wr:=an;generalize wr=wq at a E⊢;generalize C=C1 at a;have S:=bf.o;have aH:(n:Int)<25:=(by omega);have T:=a.own n c;rw[S]at T;have f:=a.blk;have z:=a.syms n c;rw[S]at z;have n0:wq.cell? ⟨tb,26+n,none⟩=some (.slice J q L):=(by rw[f.X];exact z);have bb:tb∉Fs n:=λhm=>by have:=a.new n _ hm;omega
      have n1:(wq.alloc (.cells #[s] 3)).cell? ⟨tb,26+n,none⟩=some (.slice J q L):=(by rw[(f.alloc _).X];exact z);have ad:(map i64 (js lens k n)).length=q:=(by rw[zE];exact HQ.o.symm);clear aQ an bk bm ar aF d1 d2 d3 d4 aX aV aW HA HB aY aU ax r U au
      go_region_law (refine rL (by rfl) (by rfl) iO (by rfl) (by rfl) ((T.alloc (.cells #[.int .i64 (s : Int)] 3)).drew) (.int .i64 (s : Int)) (by rfl) (by simp [go_sem]) (by rfl) (by rw [ad]; omega) (by rw [ad]; omega) ?_; intro g2 aZ w3 Q u; have v := ((f.alloc (.cells #[.int .i64 (s : Int)] 3)).drew).Z u.Z bb; have y1 : w3.cell? ⟨tb, 26 + n, none⟩ = some (.slice J q L) := by rw [v.X]; exact z
                     have z1:=v.U (26+n);rw[ad])
      all_goals
        have y0:w3.cell? ⟨tb,0,none⟩=some (.int .i64 (rp lens k:Int)):=(by rw[v.X];exact a.long);have z0:=v.U 0;go_wp2_with fail;rw[ad]at Q
        go_roundg j
        .obtain⟨Y,p,h,g,t,o⟩:=Z.o
         have a9:tb<(wq.alloc (.cells #[s] 3)).drew.heap.size:=((f.alloc (.cells #[s] 3)).drew).lt;have ba:=(((a.Y (((zR [] wq).alloc (.cells #[s] 3)).drew)).syms_new c u a9 Q.R p Y).long_new o);have a0:gg [tb] I w3:=(E.alloc (.cells #[s] 3)).drew.trans u.Z (λx b => .inr (K.o n x b));refine⟨k+1,_,_,_,by go_num,by omega,gd ba,gd ((a0.setCell (.inl (by simp)) _).setCell (.inl (by simp)) _),gd ?_⟩;intro m x b;by_cases e:m=n
         · rw[if_pos e]at b
           have be:x=g2:=(by simpa using b);subst be;rcases u.new x (by simp)with G|G
           · exact K.o n x G
           · exact Nat.le_trans ((E.alloc (.cells #[s] 3)).drew.size) G
         · rw[if_neg e]at b
           exact K.o m x b
        .omega
theorem NB{j y:Nat}(h:W / 2^j%2=y):2*(W / 2^(j+1))+y=W / 2^j:=by
 rw[Nat.pow_succ,<-Nat.div_div_eq_div_mul];omega
theorem OL(w:World)(b:Nat)(F a:List Nat)(p:Nat)(lens:List Nat)(s tb:Nat)(C:Array Value)(vs:Nat->Value)(Fs:Nat->List Nat)(h:gM w b F a p)(H:m8 lens)(t:0<gO lens s)(S:ti w tb lens (mp lens) C vs Fs)(hb:b<tb)(g:ig a p (ri lens s)):Calls prog 211 #[.pointer tb,.pointer b] w λe w'=>e=.returned (.tuple #[s,(0:Int)])/\gM w' b F a (p+gO lens s)/\gg [b] w w':=by
 have D:=H.le;have N:=MB D t;have G:=ES H t;have k:=λn h0 hn=>M4 D (s:=s) (n:=n) t h0 hn;have m:=OD D t;have J:=g.le h.at_le;unfold ri at g J;rw[gH]at J;have aX:=H.n2;have⟨L,hL⟩:=zX (gO lens s);rw[<-hL]at t N G k m g J⊢;have⟨W,aK⟩:=zX (lS lens s);rw[<-aK]at G k m g;have⟨K,hK⟩:=zX (mp lens);rw[<-hK]at N k m S;have⟨lo,af⟩:=zX (rp lens K);have az:L<=24:=by omega
 have aj:W<16777216:=Nat.lt_of_lt_of_le G (show 2^L<=2^24 from Nat.pow_le_pow_right (by decide) az);have aT:=gd af;rw[<-af]at N;have⟨HP,HH,HA,HW⟩:=gu k m g G;have HT:=gd S;clear D k m g S hL aK hK af H;go_enter func211,ntmps211;go_wp2_with fail
 go_loopg [6,7,8] (L-1) (λj va vb vc wr=>∃n:Nat,0<n/\n+j=L/\vb=.int .i64 n/\va=.int .u64 (W / 2^(j+1):Nat)/\gM wr b F a (p+(n-1))/\gh (gg [b] w wr))
 .refine⟨1,by omega,by omega,rfl,?_,h,gd (zR _ _)⟩
  rw[show L-1+1=L by omega,div_eq_of_lt HW.o];rfl
 obtain⟨n,aU,aY,rfl,rfl,Z,T⟩:=hrel;have⟨j,hj⟩:=zX gk;have z:=gd (HT.o.Z T.o (λx hx=>by simp at hx;omega));have d0:wr.cell? tb=some (.int .i64 lo):=by rw[z.o.blk.X,aT.o];exact z.o.long
 have u:=GH wr b F a (p+(n-1)) 1 Z (by omega) (by omega);have ak:=AA a (p+(n-1));have V:W / 2^gk%2=lW a (p+(n-1)):=by
  have h1:=HA.o.get (vV W L (n-1) (by omega));rw[show L-1-(n-1)=gk by omega]at h1;exact h1.symm
 rw[show ng a (p+(n-1)) 1=lW a (p+(n-1))by simp[ng],show p+(n-1)+1=p+n by omega]at u;have r:=NB V;have⟨y,hy⟩:=zX (lW a (p+(n-1)));rw[<-hy]at u ak r;have⟨v,hv⟩:=zX (W / 2^(gk+1));have⟨v1,ax⟩:=zX (W / 2^gk);have aV:v<16777216:=by rw[hv];exact Nat.lt_of_le_of_lt (div_le_self _ _) aj
 have aR:v1<16777216:=by rw[ax];exact Nat.lt_of_le_of_lt (div_le_self _ _) aj
 rw[<-hv]at r⊢;rw[<-ax]at r;have aZ:bits BinOp.or IntKind.u64 ((v:Int)*2) (y:Int)=(v1:Int):=by
  have:=CR (v:=v) (b:=y) (by omega) ak
  rw[r]at this;rw[<-this]
  congr 1
  omega
 have A:=gd ax;clear V r hy hv ax hj;go_wp2_with fail;refine u.mono ?_;rintro e I ⟨rfl,E,U⟩;clear u;have al:=iS I b F a _ E;have f:=z.o.Z U (λx hx=>by simp at hx;omega);have ad:=gd (T.o.trans U (λx hx => .inl hx));have R:n<25:=by omega
 have aO:(n:Int)<25:=by omega
 have⟨fi,aC⟩:=zX (jZ lens K n);have d1:I.cell? ⟨tb,1+n,none⟩=some (.int .u64 fi):=by rw[f.blk.X,aC];exact f.first n R
 have d2:I.cell? ⟨tb,26+n,none⟩=some (vs n):=by rw[f.blk.X];exact f.syms n R
 obtain⟨Av,cv,P,-,-,X⟩:=(f.own n R).T;have aQ:=DX lens K n;have⟨q,hq⟩:=zX ((js lens K n).length);rw[<-hq]at P aQ;rw[P]at d2;have a0:q<=1024:=by omega
 have⟨HQ,ay,aS⟩:=gX hq aC X;clear aQ hq aC X P f z Z d0;go_wp2_with fail;refine al.mono ?_;rintro e a2 ⟨rfl,rfl⟩;clear al;rcases gk with _|j
 .obtain rfl:n=L:=by omega
  obtain⟨Y,B,o⟩:=HH.o;have O:v1=W:=by rw[A.o];simp
  rw[<-O,<-ay.o,<-HQ.o]at B;rw[<-O,<-ay.o]at Y o;have⟨ix,au⟩:=zX (v1-fi);rw[<-au]at B o;have aE:(v1:Int)-(fi:Int)=(ix:Int):=by omega
  have Q:ix<(js lens K n).length:=by rw[<-HQ.o];exact B
  obtain⟨ga,oa,rfl,M⟩:=aS.o.at_ Q;rw[zD,zF Q]at o;have an:(js lens K n)[ix]=s:=o;rw[an]at M;have d3:I.cell? ⟨ga,oa+ix,none⟩=some (.int .i64 s):=M;have t1:decide (v1<fi)=false:=zA (by omega);have aW:=gY v1 fi (by omega);have t2:decide (ix<q)=true:=zB B;have a1:=jo ix q (by omega);have aD:ix<1024:=by omega
  clear Y o an M au O Q HH;go_wp2_with fail
  go_ret2
  exact⟨rfl,E,ad.o⟩
 .have c:=HP.o n aU (by omega)
  rw[show L-n=j+1 by omega,<-A.o,<-ay.o,<-HQ.o]at c;rcases c with c|c
  .have t1:decide (v1<fi)=true:=zB c
   have aW:=jo v1 fi (by omega);go_wp2_with fail
   go_roundg j
   .exact⟨n+1,by omega,by omega,by go_num,by rw[A.o],by simpa using E,ad⟩
   .omega
  .have⟨ix,au⟩:=zX (v1-fi)
   have aE:(v1:Int)-(fi:Int)=(ix:Int):=(by omega);have t1:decide (v1<fi)=false:=zA (by omega);have t2:decide (ix<q)=false:=zA (by omega);have aD:ix<16777216:=(by omega);clear au c;go_wp2_with fail
   go_roundg j
   .exact⟨n+1,by omega,by omega,by go_num,by rw[A.o],by simpa using E,ad⟩
   .omega
theorem KO{lens l:List Nat}(h:i<l.length):kx lens (l.drop i)=ri lens l[i]++kx lens (l.drop (i+1)):=by
 rw[drop_eq_getElem_cons h];rfl
theorem y7(lens:List Nat)(s:Nat):(ri lens s).length=gO lens s:=gH _ _
theorem Ov(w:World)(b:Nat)(F g:List Nat)(p:Nat)(lens l:List Nat)(A:Option Addr)(f:Nat)(h:gM w b F g p)(q:m8 lens)(P:gz i64 w A lens)(hl:l.length<=4096)(k:∀s∈l,s<lens.length/\0<gO lens s)(ha:ig g p (kx lens l)):Calls prog 151 #[.pointer b,.slice A lens.length f,l.length] w λe w'=>∃v G,e=.returned (.tuple #[v,(0:Int)])/\gK w' 3 v G (l.map i64)/\gM w' b F g (p+(kx lens l).length)/\gg [b] w w'/\∀x∈G,w.heap.size<=x:=by
 have M:=EZ lens A f w q P;have c:=λB cb w' hA' hB=>O0 lens A B f cb w' q hA' hB (qu lens _);have aX:=h.lt b h.mem;have H:(nS lens).length=lens.length:=qu lens _;have⟨n,hn⟩:=zX lens.length;have⟨m,hm⟩:=zX l.length;have aS:=q.n1;have aT:=q.n2;rw[<-hn]at M c k aS aT H⊢;rw[<-hm]at hl⊢;rw[H]at c;have⟨HM,HS,HF,HA⟩:=gu hm k q ha;have⟨HC,aK,aN⟩:=gX P c H;have t1:decide ((m:Int)<0)=false:=by simp
 have t2:=gY 4194304 m (by omega);clear hn hm k q ha P c H;go_enter func151,ntmps151;go_wp2_with fail;refine M.mono ?_;rintro e w1 ⟨vw,gw,rfl,X,z,aV⟩;have ac:=X.R;obtain⟨cw,rfl,au,aQ,av,_⟩:=X.T;have aa:=ac.cells;rw[aN.o]at au⊢;have O:=h.Y z;have c:=aK.o (some ⟨gw,0,none⟩) cw w1 (HC.o.Y z) aa;clear M av h ac aa
 go_wp2_with(go_at_call 60;refine gB (iS _ b F g _ O) ?_)
 refine c.mono ?_;rintro e w2 ⟨tb,C,vs,Fs,rfl,Y,S,aY⟩;have T:=O.Y S;have ah:=z.tq S;have aP:b<tb:=by have:=z.size;omega
 have aL:=gd Y;clear c Y O;have ag:=T.lt;have af:=gd ag;clear ag;go_wp2_with fail
 go_loopg [11,12,13,38] m (λj va vb vc iv wr=>∃(i o:Nat) (G:List Nat),iv=.int .i64 i/\i+j=m/\gK wr 3 va G ((l.take i).map i64)/\gM wr b F g o/\gh (ig g o (kx lens (l.drop i)))/\gh (o+(kx lens (l.drop i)).length=p+(kx lens l).length)/\gh (gg [b] w2 wr)/\gh (∀x∈G,w2.heap.size<=x))
 .exact⟨0,p,[],rfl,by omega,gK.nil _ _,T,HA,gd rfl,gd (zR _ _),gd (by simp)⟩
 obtain⟨i,o,G,rfl,aW,t,V,Ha,R,y,r⟩:=hrel;rcases gk with _|j
 .obtain rfl:i=m:=by omega
  have t3:decide ((i:Int)<(i:Int))=false:=by simp
  go_wp2_with fail
  go_ret2
  have e1:l.take i=l:=by rw[HM.o,zN]
  have e2:o=p+(kx lens l).length:=by have:=R.o;rw[HM.o,drop_length]at this;simpa[kx]using this
  rw[e1]at t;refine⟨_,G,rfl,t,e2 ▸ V,(ah.mono (by simp)).tq y.o,λx a=>Nat.le_trans ah.size (r.o x a)⟩
 .have aR:i<m:=by omega
  have N:i<l.length:=by rw[<-HM.o];exact aR
  have⟨s,az⟩:=zX (l[i]);have k:=HS.o l[i] (zG N);have E:=KO (lens:=lens) N;rw[<-az]at k E;have u:=Ha.o;rw[E]at u;have aI:=gd u.right;have J:=jD l N;rw[<-az]at J;have ai:=OL wr b F g o lens s tb C vs Fs V HF.o k.2 (aL.o.Z y.o (λx a=>by simp at a;omega)) aP u.left;have⟨aJ,aM⟩:=gy E J;clear k E u J az;go_wp2_with fail;refine ai.mono ?_;rintro e Q ⟨rfl,U,K⟩;have ad:=t.Z K (λx a hm=>by simp at hm;have:=r.o x a;have:=af.o b U.mem;omega);have D:gg [] Q (Q.alloc (.cells #[s] 3)):=(zR [] Q).alloc _;have aw:=ad.Y D;have Z:(l.take i).length=i:=by rw[zI];omega
  clear t ad ai
  go_wp2_with(at_builtin;refine ka rfl rfl iO rfl rfl aw (.int .i64 s) rfl ?c1 ?c2 ?c3 ?c4 ?_)
  case c1=>simp[go_sem]
  case c2=>rfl
  case c3=>rw[zE,Z];omega
  case c4=>rw[zE,Z];omega
  intro g2 aO w4 aU L;go_wp2_with fail
  go_roundg j
  .refine⟨i+1,o+gO lens s,[g2],by go_num,by omega,?_,(U.Y D).Z L.Z (λx a hm=>by have:=r.o x hm;have:=af.o x a;omega),?_,gd ?_,gd ?_,gd ?_⟩
   .have I:=aU.R
    rw[aM.o,zM]
    simpa[i64]using I
   .have:=aI.o
    rw[y7]at this;exact gd this
   .have:=R.o
    rw[aJ.o,zC,y7]at this;omega
   .exact((y.o.trans K (λx a => .inl a)).trans D (by simp)).trans L.Z (λx a => .inr (r.o x a))
   .intro x a
    rcases L.new x a with I|I
    .exact r.o x I
    .have:=y.o.size;have:=K.size;have:=D.size;omega
  .omega
theorem Ly{freq:List Nat}(m:freq.length<=256)(b:0<(iZ freq freq.length).length):xR freq (mI freq):=by
 rcases zZ (iZ freq freq.length).length 2 with h|h
 .obtain⟨e,a⟩:=List.length_eq_one_iff.1 (show(iZ freq freq.length).length=1 by omega)
  obtain⟨s,o,_,rfl⟩:=tZ (show e∈iZ freq freq.length by rw[a];simp);have j:=Fu (by omega) a;rw[DK a];exact j.2
 .have k:=Cf freq freq.length
  obtain⟨c,f,g⟩:=Cx (freq:=freq) (by omega) h (zo _ 11);rw[C8 h];refine⟨sH _ _,c,f,λn hn => ?_⟩;obtain⟨s,_,rfl⟩:=List.mem_map.1 hn;exact g s
theorem GC(f:0<l.length)(h:jG (jH l W d)<256):m8 (pM l W d)/\∀s∈jH l W d,s<(pM l W d).length/\0<gO (pM l W d) s:=by
 have c:jH l W d≠[]:=λe=>by have:=tY l W d;rw[e]at this;simp at this;omega
 have a:=Ly (freq:=j7 (jH l W d)) (by rw[um];omega) (CZ c);refine⟨a.full,λs hs => ?_⟩;have g:=uN hs;have b:s<(j7 (jH l W d)).length:=by rw[um];omega
 refine⟨by unfold pM;rw[a.len];exact b,(a.used s b).2 ?_⟩;rw[zg g];exact List.count_pos_iff.2 hs
theorem Lj(h:i<l.length):(jH l W d)[i]?=some (jU l W d i):=by
 simp[jH,h]
theorem Ja(w:World)(b:Nat)(F o:List Nat)(p:Nat)(l:List Int)(W H d:Nat)(h:gM w b F o p)(c:1<=W)(hw1:W<=16)(hh0:1<=H)(hh1:H<=16)(h0:1<=d)(h1:d<=16)(q:l.length=W*H)(hs:ie d l)(r:jG (jH l W d)<256)(k:ig o p (pL l W d)):Calls prog 118 #[.pointer b,W,H,d] w λe w'=>∃v g,e=.returned (.tuple #[v,(0:Int)])/\gv w' 3 v g (l.map vi)/\gM w' b F o (p+(pL l W d).length)/\gg [b] w w'/\w.heap.size<=g:=by
 have⟨n,hn⟩:=zX l.length;have aW:=zL hw1 hh1;have aF:=zL c hh0;have a6:n<=256:=by rw[hn,q];exact aW
 have a5:0<l.length:=by rw[q];omega
 have bC:n<=64*W:=by rw[hn,q,zY];exact mul_le_mul_right W (by omega)
 have bB:(W:Int)*(H:Int)=(n:Int):=by rw[hn,q];simp
 obtain⟨y,D⟩:=GC a5 r;unfold pL at k⊢;rw[zC];have u:=tY l W d;have K:=λi (hi:i<l.length)=>Lj (W:=W) (d:=d) hi;have Q:∀x∈jH l W d,x<256:=λx hx=>by have:=uN hx;omega
 have⟨f,hf⟩:=zX (jH l W d);have⟨lens,a4⟩:=zX (pM l W d);rw[<-a4]at y D k⊢;rw[<-hf]at D k u K Q⊢;rw[<-hn]at u K;have a2:=Ks w b F o p lens h y k.left;have A:=λi=>sM l W h0 i;have a:=λi=>Eo hs W i;have bA:=kg (P:=prog) iO rfl .i64 .i64 n (by omega) (by omega);have bx:=h.lt b h.mem;have⟨HN,HA,bf,bi⟩:=gu hn k.right y D;have⟨au,ba,aD,bc⟩:=gu u K A a;have⟨be,HS⟩:=gy Q hs;clear hn k y D u K A a Q hs q h hf a4 r a5 aW aF;go_enter func118,ntmps118;go_wp2_with fail;refine a2.mono ?_;rintro e w1 ⟨v1,G1,rfl,aq,a7,aT,bw⟩;obtain⟨A1,c1,rfl,bo,bp,aY⟩:=aq.T;have T:=Ov w1 b F o _ lens f A1 c1 a7 bf.o aY (by rw[au.o];omega) bi.o HA.o;rw[au.o]at T;clear a2 aq aY a7;go_wp2_with fail;refine T.mono ?_;rintro e s ⟨v2,G2,rfl,E,U,bm,bn⟩;obtain⟨A2,c2,rfl,aG,bq,aX⟩:=E.T;rw[au.o]at aG⊢;have aU:=aT.tq bm;have⟨G,hG⟩:=zX s.heap.size;have⟨w4,aB⟩:=zX (s.alloc (.cells (Array.replicate n (Value.int .i64 0)) 3));have aj:gv w4 3 (.slice G n n) G ((ia ([]:List Int) n).map vi):=by
  have h9:=gv.zeros s n (by omega);rw[<-hG]at h9;rw[aB];exact h9
 have J:gg [] s w4:=by rw[aB];exact(zR [] s).alloc _
 have aP:=U.Y J;have aH:=aU.trans J (by simp);have am:=aX.Y J;have al:ib A2 f [b,G]:=E.apt (λx hx hm=>by
  have h5:=bn x hx;have h6:=E.lt x hx;have h7:=aT.size;simp at hm;omega)
 have bF:=aU.size;have⟨bg,HG,a9,bb⟩:=gu U.lt hG al am;have bh:gh (p+(ou lens).length+(kx lens f).length=p+((ou lens).length+(kx lens f).length)):=gd (by omega);have bl:=gd aB;clear T U J hG al aX am E aB;go_wp2_with fail;rw[<-bl.o,<-HG.o]
 go_loopg [14,15,16,17,44] n (λj va vb vc vd iv wr=>∃(i:Nat),iv=.int .i64 i/\i+j=n/\gv wr 3 (.slice G n n) G ((ia (l.take i) n).map vi)/\gh (gg [G] w4 wr))
 .exact⟨0,rfl,by omega,by simpa using aj,gd (zR _ _)⟩
 clear aj;obtain⟨i,rfl,bz,ad,I⟩:=hrel;rcases gk with _|j
 .obtain rfl:n=i:=by omega
  have u2:decide ((n:Int)<(n:Int))=false:=by simp
  have bH:decide (n<n)=false:=by simp
  have e:ia (l.take n) n=l:=by
   have:=uw l
   rw[<-HN.o]at this;exact this
  rw[e]at ad;clear e;go_wp2_with fail
  go_ret2
  refine⟨_,G,rfl,ad,(aP.Z I.o (λz hz hm=>by simp at hm;have:=bg.o z hz;have:=HG.o;omega)).cast bh.o,aH.trans I.o (λz hz => .inr (by simp at hz;have:=HG.o;omega)),by have:=HG.o;omega⟩
 .have t:i<n:=by omega
  have R:i<l.length:=by rw[<-HN.o];exact t
  have N:i<f.length:=by rw[au.o];exact t
  have O:=ba.o i (by omega);have a1:=be.o f[i] (zG N);rw[zF N]at O;have a0:f[i]=jU l W d i:=by injection O
  obtain⟨gf,of,rfl,L⟩:=(bb.o.N a9.o (I.o.mono (λx hx _=>by simp at hx;simp[hx]))).at_ N;rw[a0]at L a1;have S:=DM (l:=l) c (i:=i) (by omega);rw[<-HN.o]at S;have B:(ia (l.take i) n).length=n:=nM (by rw[zI];omega);have m:=xA (ia (l.take i) n) (some ⟨G,0,none⟩) n W d i wr h0 h1 c (by omega) (by rw[B];omega) (by omega) (En HS.o i n) ad.R.cells (by rw[B];omega);have a:=bc.o i;have A:=aD.o i;have bD:2^d<=65536:=Nat.pow_le_pow_right (n:=2) (by decide) h1;have bv:=Nat.two_pow_pos d;rw[S,B]at m;have M:=sN (d:=d) (g:=kL l W i) (qL HS.o W _ _) 7;have⟨gs,a3⟩:=zX (jV 7 (kL l W i) d);rw[<-a3]at m M a;have⟨fi,an⟩:=zX (jU l W d i);rw[<-an]at L a1 a A;have bs:wr.cell? ⟨gf,of+i,none⟩=some (.int .i64 fi):=L;generalize pY (kL l W i) d=cl at m;have ao:gs<65536:=by
   have e:((2^d:Nat):Int)=(2:Int)^d:=by simp
   have:=M.2
   omega
  have X:=λw'=>Dq gs fi d w' h0 h1 M.1 ao (by omega);rw[a]at X;have V:=jD l R;have a8:l[i]=l.getD i 0:=by rw[zD,zF R];rfl
  rw[a8]at V;generalize l.getD i 0=xv at *;have aZ:(l.take i).length=i:=by rw[zI];omega
  have bE:((2^d:Nat):Int)=(2:Int)^d:=by simp
  have bG:IntKind.i64.wrap ((2:Int)^d)=(2:Int)^d:=IntWalk.i64_in _ (by omega);have t5:=mF 256 fi (by omega);have t6:decide ((2:Int)^d<=(fi:Int))=false:=zA (by omega);have⟨bj,aC,bk,aE⟩:=gu V aZ X ad;clear S B a a3 an X V a8 aZ ad R M O a0 N L;go_wp2_with fail;refine m.mono ?_;rintro e w6 ⟨rfl,aV⟩;have aI:=gd (I.o.trans aV (by simp));have Z:=aE.o.Z aV (by simp);obtain⟨br,bu⟩:=Z.fill_cell (by rw[aC.o];exact t);have Y:=Z.fill (by rw[aC.o];exact t) xv;rw[aC.o]at br bu Y;have bd:=gd Y;have aS:=bk.o w6;clear m Z Y;go_wp2_with fail;refine aS.mono ?_;rintro e w7 ⟨rfl,rfl⟩;go_wp2_with fail
  go_roundg j
  .refine⟨i+1,by go_num,by omega,?_,gd (aI.o.setCell (.inl (by simp)) _)⟩
   rw[bj.o];exact bd.o
  .omega
end Go.Proofs.YtifdlkoepaepiaaGreatDoor
