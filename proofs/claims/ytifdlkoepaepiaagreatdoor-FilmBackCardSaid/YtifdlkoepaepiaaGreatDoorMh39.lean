/- Lemmas. -/
import Derived.Test.YtifdlkoepaepiaaGreatDoorMh11
import Derived.Test.YtifdlkoepaepiaaGreatDoorMh38
set_option linter.all false
set_option maxHeartbeats 1000000
set_option maxRecDepth 100000
namespace Go.Proofs.YtifdlkoepaepiaaGreatDoor
open Tryz List Nat Go.RowKit
variable {C:List (List Int)}{l:List Int}{F ds:List Nat}{H W b d i k n pos:Nat}{A:Option Addr}{w:World}
def uU(way:Option Nat)(l:List Int)(w h d:Nat):Nat:=match way with
 | none=>m6 l w h d
 | some k=>k
def vq(way:Option Nat)(l:List Int)(w d:Nat):Bool:=match way with
 | none=>true
 | some k=>iE k l w d
def l9(way:Option Nat):Prop:=∀k,way=some k->k<=7
def lM(way:Option Nat):Int:=match way with
 | none=>-1
 | some k=>(k:Int)
def qQ(way:Option Nat)(l:List Int)(w h d:Nat):List Nat:=ik (uU way l w h d) l w h d
theorem Fo{way:Option Nat}(c:l9 way){w h:Nat}(a:vq way l w d=true):uU way l w h d<=7/\iE (uU way l w h d) l w d=true:=by
 cases way with
 | none=>exact⟨(sW l w h d).1,(sW l w h d).2.1⟩
 | some k=>exact⟨c k rfl,a⟩
def mJ(l:List Int)(W:Nat)(s:Sq):List Int:=jn l W s.x s.y s.w s.h
def j5(way:Option Nat)(l:List Int)(W d:Nat)(ss:List Sq)(n:Nat):List Nat:=(range n).flatMap λi=>qQ way (mJ l W (gJ ss i)) (gJ ss i).w (gJ ss i).h d
def nu(way:Option Nat)(l:List Int)(W d:Nat)(ss:List Sq)(n:Nat):Bool:=(range n).all λi=>vq way (mJ l W (gJ ss i)) (gJ ss i).w d
theorem tV(way:Option Nat)(l:List Int)(W d:Nat)(ss:List Sq)(n:Nat):j5 way l W d ss (n+1)=j5 way l W d ss n++qQ way (mJ l W (gJ ss n)) (gJ ss n).w (gJ ss n).h d:=by
 unfold j5;rw[range_succ,flatMap_append];simp
theorem Co(way:Option Nat)(l:List Int)(W d:Nat)(ss:List Sq)(n:Nat):nu way l W d ss (n+1)=(nu way l W d ss n&&vq way (mJ l W (gJ ss n)) (gJ ss n).w d):=by
 unfold nu;rw[range_succ,all_append];simp
theorem Dd{way:Option Nat}{ss:List Sq}(h:nu way l W d ss n=true)(a:i<n):vq way (mJ l W (gJ ss i)) (gJ ss i).w d=true:=by
 unfold nu at h;exact List.all_eq_true.1 h i (List.mem_range.2 a)
theorem tR(l:List Int)(W d:Nat)(ss:List Sq)(n:Nat):nu none l W d ss n=true:=by
 unfold nu;rw[all_eq_true];intro i _;rfl
def lw(way:Option Nat)(l:List Int)(W H d:Nat):List Nat:=j5 way l W d (iM W H 16) (iM W H 16).length
def nO(way:Option Nat)(l:List Int)(W H d:Nat):Bool:=nu way l W d (iM W H 16) (iM W H 16).length
def jR(way:Option Nat)(q:qc)(k:Nat):List Nat:=(range k).flatMap λj=>lw way (q.P.getD j []) q.W q.H q.d
def mT(way:Option Nat)(q:qc)(k:Nat):Bool:=(range k).all λj=>nO way (q.P.getD j []) q.W q.H q.d
theorem tS(way:Option Nat)(q:qc)(k:Nat):jR way q (k+1)=jR way q k++lw way (q.P.getD k []) q.W q.H q.d:=by
 unfold jR;rw[range_succ,flatMap_append];simp
theorem Ce(way:Option Nat)(q:qc)(k:Nat):mT way q (k+1)=(mT way q k&&nO way (q.P.getD k []) q.W q.H q.d):=by
 unfold mT;rw[range_succ,all_append];simp
theorem yt(q:qc)(k:Nat):mT none q k=true:=by
 unfold mT;rw[all_eq_true];intro i _;exact tR _ _ _ _ _
theorem CA{way:Option Nat}{q:qc}{j:Nat}(h:mT way q k=true)(a:j<k):nO way (q.P.getD j []) q.W q.H q.d=true:=by
 unfold mT at h;exact List.all_eq_true.1 h j (List.mem_range.2 a)
theorem uq{ss:List Sq}(h:i<ss.length):gJ ss i∈ss:=by
 unfold gJ;rw[zD,zF h];exact zG h
theorem zq(l:List Int)(W:Nat)(s:Sq):(mJ l W s).length=s.w*s.h:=by unfold mJ;rw[o6,zY]
theorem zh(a:W<=64)(hH:H<=64):(iM W H 16).length<=4096:=by
 have c:=Bx W H 16;have e:H*W<=64*64:=zL hH a;omega
theorem Nl{way:Option Nat}(g:l9 way){s:Sq}(c:1<=d)(e:d<=16)(a:1<=s.w/\s.w<=16/\1<=s.h/\s.h<=16)(f:vq way (mJ l W s) s.w d=true):(qQ way (mJ l W s) s.w s.h d).length<200000:=by
 obtain⟨j,m⟩:=Fo (h:=s.h) g f;exact(Dr j a.1 a.2.2.1 c e a.2.1 a.2.2.2 (zq _ _ _) m).2
theorem yX{way:Option Nat}(f:l9 way)(l:List Int)(W:Nat){d:Nat}{ss:List Sq}(a:1<=d)(c:d<=16)(e:∀s∈ss,1<=s.w/\s.w<=16/\1<=s.h/\s.h<=16):∀n,n<=ss.length->nu way l W d ss n=true->(j5 way l W d ss n).length<=200000*n
 | 0,_,_=>by simp[j5]
 | n+1,h,hm=>by
  rw[Co,Bool.and_eq_true]at hm;have g:=yX f l W a c e n (by omega) hm.1;have j:=Nl f a c (e _ (uq (i:=n) h)) hm.2;rw[tV,zC];omega
theorem Cn{way:Option Nat}(g:l9 way)(l:List Int)(e:W<=64)(hH:H<=64)(a:1<=d)(c:d<=16)(f:nO way l W H d=true):(lw way l W H d).length<=819200000:=by
 have h:=yX g l W a c (λs hs=>uR (by decide) s hs) _ (zQ _) f;have j:=zh e hH;unfold lw;omega
theorem yK{way:Option Nat}(c:l9 way){q:qc}(a:q.Ok):∀k,mT way q k=true->(jR way q k).length<=819200000*k
 | 0,_=>by simp[jR]
 | k+1,hm=>by
  rw[Ce,Bool.and_eq_true]at hm;have e:=yK c a k hm.1;have f:=Cn c (q.P.getD k []) a.w1 a.h1 a.d0 a.d1 hm.2;rw[tS,zC];omega
def pa(W H d n:Nat):List Nat:=gx (W-1) 6++(gx (H-1) 6++(gx (d-1) 4++gx (n-1) 2))
theorem sO(W H d n:Nat):(pa W H d n).length=18:=by simp[pa,gH]
def lR(d:Nat)(C:List (List Int))(k:Nat):List Nat:=(C.take k).flatMap λc=>iq c d
theorem tU(a:k<C.length):lR d C (k+1)=lR d C k++iq (C.getD k []) d:=by
 unfold lR;rw[take_succ_eq_append_getElem a,flatMap_append,zD,zF a];simp
theorem yQ{n d:Nat}{C:List (List Int)}(h:∀c∈C,c.length=n):∀k,k<=C.length->(lR d C k).length=d*n*k
 | 0,_=>by simp[lR]
 | k+1,hk=>by
  have a:=yQ (d:=d) h k (by omega);have e:(C.getD k []).length=n:=by
   rw[zD,zF hk];exact h _ (zG hk)
  rw[tU hk,zC,a,xf,e,mul_succ]
def lP(n d:Nat)(C:List (List Int)):List Nat:=gx (d-1) 4++(gx (n-1) 2++(gx (C.length-1) 8++lR d C C.length))
theorem Cy(h:uS n d C):(lP n d C).length<=16398:=by
 unfold lP;rw[zC,zC,zC,gH,gH,gH,yQ h.len _ (zQ _)];have a:d*n<=16*4:=zL h.d1 h.n1;have c:d*n*C.length<=16*4*256:=zL a h.c1;omega
def nN(way:Option Nat)(kind:Nat)(p:qc):List Nat:=pa p.W p.H p.d p.P.length++(gx 0 1++(gx kind 3++jR way (jg kind p) p.P.length))
def ky(way:Option Nat)(p:qc):List Nat:=pa p.W p.H p.d p.P.length++(gx 1 1++(lP p.P.length p.d (ic p)++lw way (jc p) p.W p.H (kA (ic p).length)))
def qE(way:Option Nat)(kind:Nat)(p:qc):Bool:=mT way (jg kind p) p.P.length
def qK(way:Option Nat)(p:qc):Bool:=nO way (jc p) p.W p.H (kA (ic p).length)
theorem yS{way:Option Nat}(c:l9 way){p:qc}(h:p.Ok){kind:Nat}(a:qE way kind p=true):22<=(nN way kind p).length/\(nN way kind p).length<=4096000000:=by
 have e:=yK c (sS h kind) _ a;have f:=h.n1;unfold nN;rw[zC,zC,zC,sO,gH,gH];omega
theorem yT{way:Option Nat}(e:l9 way){p:qc}(h:p.Ok)(a:(ic p).length<=256)(c:qK way p=true):19<=(ky way p).length/\(ky way p).length<=4096000000:=by
 have f:=Cn e (jc p) h.w1 h.h1 (rS a).1 (rS a).2.1 c;have g:=Cy (uO h a);unfold ky;rw[zC,zC,zC,sO,gH];omega
def re(bs:List Nat):List Nat:=iD (kV bs)
def jE(bs:List Nat):List Nat:=re bs++jP (mu (re bs))
theorem yZ(bs:List Nat):(jE bs).length=(re bs).length+4:=by unfold jE;rw[zC];rfl
theorem zt(bs:List Nat):(re bs).length=(bs.length+7) / 8:=by
 unfold re;rw[ox,rW];omega
theorem De(way:Option Nat)(l:List Int)(W d:Nat)(ss:List Sq):∀k n i,i+k=n->∃rest,j5 way l W d ss n=j5 way l W d ss i++rest
 | 0,n,i,h=>⟨[],by rw[append_nil,show i=n by omega]⟩
 | k+1,n,i,h=>by
  obtain⟨r,a⟩:=De way l W d ss k n (i+1) (by omega);exact⟨_,by rw[a,tV,zH]⟩
theorem Jz{way:Option Nat}{ss:List Sq}(a:ig ds pos (j5 way l W d ss n))(e:k<n):ig ds (pos+(j5 way l W d ss k).length) (qQ way (mJ l W (gJ ss k)) (gJ ss k).w (gJ ss k).h d):=by
 obtain⟨r,c⟩:=De way l W d ss (n-(k+1)) n (k+1) (by omega);rw[c,tV,zH]at a;exact a.right.left
def tT(w:World)(b:Nat)(F ds:List Nat)(pos:Nat)(l:List Int)(e:Ending)(w':World):Prop:=
 ∃Y,e=.returned (.tuple #[.slice (some ⟨Y,0,none⟩) l.length l.length,(0:Int)])/\gv w' 3 (.slice (some ⟨Y,0,none⟩) l.length l.length) Y (l.map vi)/\gM w' b F ds pos/\gg [b] w w'/\w.heap.size<=Y
theorem C2{way:Option Nat}(D:l9 way)(L:gM w b F ds pos)(hl:l.length=W*H)(hs:ie d l)(w0:1<=W)(w1:W<=64)(h0:1<=H)(g:H<=64)(d0:1<=d)(d1:d<=16)(hp:iK w)(E:0∉F)(r:nO way l W H d=true)(z:ig ds pos (lw way l W H d)):Calls prog 90 #[.pointer b,W,H,d] w (tT w b F ds (pos+(lw way l W H d).length) l):=by
 unfold tT;have⟨ss,au⟩:=zX (iM W H 16);have be:∀w',Calls prog 49 #[W,H,(16:Int)] w' _:=λw'=>By W H 16 w' w0 w1 h0 g (by decide) (by decide);have aH:∀s∈ss,1<=s.w/\s.w<=16/\1<=s.h/\s.h<=16:=by rw[au];exact uR (by decide)
 have aI:∀s∈ss,s.x+s.w<=W/\s.y+s.h<=H:=by rw[au];exact uT (by decide)
 have an:∀k,k<W*H->ss.any (nZ W k)=true:=λk c=>by rw[au];exact FZ (by decide) c
 have cB:ss.length<=4096:=by rw[au];exact zh w1 g
 unfold nO at r;unfold lw at z⊢;rw[<-au]at be r z⊢;have⟨n,hn⟩:=zX ss.length;have⟨N,hN⟩:=zX (W*H);have ct:N<=4096:=by rw[hN];exact zL w1 g
 have cH:0<N:=by rw[hN];exact Nat.mul_pos w0 h0
 rw[<-hn]at cB z r⊢;rw[<-hN]at hl an;rw[hl];have aF:(W:Int)*(H:Int)=(N:Int):=by rw[hN];simp
 have p:∀k,k<n->(1<=(gJ ss k).w/\(gJ ss k).w<=16/\1<=(gJ ss k).h/\(gJ ss k).h<=16)/\(gJ ss k).x+(gJ ss k).w<=W/\(gJ ss k).y+(gJ ss k).h<=H:=λk c=>⟨aH _ (uq (by omega)),aI _ (uq (by omega))⟩;have y:∀k,k<n->∀w' ,gM w' b F ds (pos+(j5 way l W d ss k).length)->iK w'->Calls prog 94 #[.pointer b,.int .i64 (gJ ss k).w,.int .i64 (gJ ss k).h,d] w' (lE w' b F ds (pos+(j5 way l W d ss k).length) (jn l W (gJ ss k).x (gJ ss k).y (gJ ss k).w (gJ ss k).h) (qQ way (mJ l W (gJ ss k)) (gJ ss k).w (gJ ss k).h d).length):=λk c w' hr' hp'=>by
  obtain⟨⟨a1,a2,a3,a4⟩,_⟩:=p k c;have B:=Dd r c;obtain⟨T,k2⟩:=Fo (h:=(gJ ss k).h) D B;exact GV hr' a1 a2 a3 a4 d0 d1 (zq _ _ _) (Bh hs _ _ _ _ _) T hp' E k2 (Jz z c)
 have⟨Z,hZ⟩:=zX (replicate N (0:Int));have bI:Z.length=N:=by rw[hZ,zV]
 have aC:jd l Z W (ss.take n)=l:=by
  rw[hn,zN];exact GS (by omega) (λk c=>an k (by omega))
 have f:∀i k,i<n->k<(gJ ss i).h->_:=λi k hi c=>Bk (q:=l) (l:=Z) (W:=W) (H:=H) (bs:=ss.take i) (sx:=(gJ ss i).x) (sy:=(gJ ss i).y) (sw:=(gJ ss i).w) (sh:=(gJ ss i).h) (k:=k) (by omega) (by omega) (p i hi).2.1 (p i hi).2.2 c;have bU:∀bs,((jd l Z W bs).map vi).length=N:=λbs=>by rw[zE,qa,bI]
 have ai:∀bs s,s.h=0->jd l Z W (bs++[s])=jd l Z W bs:=λbs s e=>BH l Z W bs s e;have aj:∀i,i<n->jd l Z W (ss.take i++[⟨(gJ ss i).x,(gJ ss i).y,(gJ ss i).w,(gJ ss i).h⟩])=jd l Z W (ss.take (i+1)):=λi hi=>by
  rw[Hj (by omega)]
 have⟨Y,hY⟩:=zX w.heap.size;have⟨w2,aQ⟩:=zX (w.alloc (.cells (Array.replicate N (Value.int .i64 0)) 3));have ac:gv w2 3 (.slice Y N N) Y ((jd l Z W (ss.take 0)).map vi):=by
  have:=gv.made w 3 (replicate N (Value.int .i64 0)) (by rw[zV];exact Nat.le_trans ct (by decide))
  rw[take_zero,GT,hZ,map_replicate,aQ,hY];rw[zV,toArray_replicate]at this;exact this
 have bw:=H4 aQ;have cN:=kg (P:=prog) iO rfl .i64 .i64 N (by omega) (by omega);have bG:Y∉F:=λB=>by have:=L.lt Y B;omega
 have bL:b<Y:=by rw[hY];exact L.lt b L.mem
 have bK:b≠0:=λe=>E (by rw[<-e];exact L.mem);have⟨ca,cl,cn,aX⟩:=gu be p y aC;have⟨b7,cc,ax,cd⟩:=gu f bU ai aj;have⟨ay,am,cr,av⟩:=gu ac bw bG bL;have⟨b2,ch,HP,HN⟩:=gu bK L hp hn;have⟨a8,co⟩:=gy hY aQ;have a9:gh (Y<w2.heap.size):=gd ac.lt;clear au be aH aI an r z hn hN p y aC f bU ai aj ac bw bG bL bK L hp hZ bI hl hs D hY aQ E;go_enter func90,ntmps90;go_wp2_with fail;rw[<-co.o,<-a8.o];refine(ca.o w2).mono ?_;rintro e O ⟨v8,F8,rfl,p,U,bC⟩;unfold ph at p;rw[<-HN.o]at p;obtain⟨A8,c8,rfl,cF,cG,bN,bA⟩:=jy.open_ p;have⟨b6,ag⟩:=gy bN U;have aN:∀ad,A8=some ad->ad.block<O.heap.size/\ad.block≠b/\ad.block≠Y:=λad e=>by
  obtain⟨K,rfl,hf,_⟩:=bA ad e;have g:K∈F8:=by rw[hf];simp
  have h2:=bC K g;have S:=av.o;have h4:=a9.o;exact⟨p.lt K g,by show K≠b;omega,by show K≠Y;omega⟩
 have b1:=gd aN;have a0:gh (gM O b F ds (pos+(j5 way l W d ss 0).length)):=gd ((ch.o.Z am.o (by simp)).Z U (by simp));have az:=gd (ay.o.Z U (by simp));have b3:gh (gg [b,Y] O O):=gd (zR _ _);clear p U bC bN bA aN;go_wp2_with fail
 go_loopg [12,13,14,15,24] n (λj v12 v13 v14 v15 v24 wr=>∃k:Nat,v24=.int .i64 k/\k+j=n/\gh (gM wr b F ds (pos+(j5 way l W d ss k).length))/\gh (gv wr 3 (.slice Y N N) Y ((jd l Z W (ss.take k)).map vi))/\gh (gg [b,Y] O wr))
 .exact⟨0,rfl,by omega,a0,az,b3⟩
 obtain⟨k,rfl,cK,br,bu,I⟩:=hrel;rcases gk with _|j
 .obtain rfl:k=n:=by omega
  have t1:decide ((k:Int)<(k:Int))=false:=by simp
  go_wp2_with fail;refine bodyPost_ret (v:=.tuple #[.slice Y N N,(0:Int)]) (by simp[results,results90,go_sem]) rfl ?_;refine⟨Y,rfl,by have g:=bu.o;rw[aX.o]at g;exact g,br.o,?_,by rw[a8.o];exact zQ _⟩;refine((am.o.mono (F':=[b]) (by simp)).tq (ag.o.mono (by simp))).trans I.o (λx M=>?_);simp at M;rcases M with rfl|rfl
  .exact .inl (by simp)
  .exact .inr (by rw[a8.o];exact zQ _)
 .have c:k<n:=by omega
  obtain⟨K,o8,aN,x0,x1,x2,x3⟩:=tw (b6.o.Z I.o (λad e=>by simpa using(b1.o ad e).2)) (show k<ss.length by rw[<-HN.o];exact c);subst aN;obtain⟨⟨aR,bo,bm,bn⟩,bZ,b0⟩:=cl.o k c;have y:=cn.o k c;have f:=λk2=>b7.o k k2 c;have aP:=cd.o k c;have bQ:=ax.o (ss.take k);have bi:(j5 way l W d ss (k+1)).length=(j5 way l W d ss k).length+(qQ way (mJ l W (gJ ss k)) (gJ ss k).w (gJ ss k).h d).length:=by rw[tV,zC]
  have⟨TL,bE⟩:=zX ((qQ way (mJ l W (gJ ss k)) (gJ ss k).w (gJ ss k).h d).length);rw[<-bE]at y bi;clear bE;have⟨s,bX⟩:=zX (gJ ss k);rw[<-bX]at x0 x1 x2 x3 aR bo bm bn bZ b0 y f aP;clear bX;obtain⟨sx,sy,sw,sh⟩:=s;simp only at x0 x1 x2 x3 aR bo bm bn bZ b0 y f aP;have⟨wo,cE⟩:=zX wr;subst cE;have⟨m,B⟩:=zX (sw*sh);have cM:m<=256:=by rw[B];exact zL bo bn
  have cL:0<m:=by rw[B];exact Nat.mul_pos aR bm
  have⟨X,hX⟩:=zX wo.heap.size;have⟨wA,aJ⟩:=zX (wo.alloc (.cells #[sx,sy,sw,sh] 73));have ar:=RD aJ hX;have aO:=H4 aJ;have bF:X≠b/\X≠Y:=by have:=av.o;have:=a9.o;have:=ag.o.size;have:=I.o.size;omega
  have bY:=y wA (br.o.Z aO (by simp)) (by
   refine(((HP.o.Y am.o).Y ag.o).Z I.o ?_).Y aO
   have:=b2.o
   have:=av.o
   simp;omega)
  have⟨e0,t,e2,e3⟩:=my ar;have⟨cp,cq,ck,aS⟩:=gu aJ hX ar aO;have⟨bv,cm,HM,aV⟩:=gu bF bY B f;have⟨aZ,aY,ce⟩:=Q9 aP bQ bi;rw[aJ,hX]at e0 t e2 e3;simp at e0 t e2 e3;clear B hX aJ ar aO bF y bY f aP bQ bi;go_wp2_with fail;rw[<-cp.o,<-cq.o];refine cm.o.mono ?_;rintro e w5 ⟨v5,F5,rfl,aK,J,V,bB⟩;clear e0 t e2 e3;rcases aK.cases with⟨_,he,_⟩|⟨g5,ae,aB⟩
  .exfalso
   have g:=congrArg length he;rw[zE,o6,zY,<-HM.o]at g;simp at g;omega
  have bh:(jn l W sx sy sw sh).length=m:=by rw[o6,zY,<-HM.o]
  have ao:=ae;obtain⟨c5,rfl,bz,cs,ah,bc⟩:=ae.T;have cx:wA.heap.size<=g5:=bB g5 (by rw[aB];simp);rw[bh]at bz ao⊢;have a7:=gd ao;have b9:gh (g5≠b/\g5≠Y):=gd (by have:=av.o;have:=a9.o;have:=ag.o.size;have:=I.o.size;have:=aS.o.size;omega);have⟨cf,b4,bp⟩:=Q9 J V bh;have ak:gv w5 3 (.slice Y N N) Y ((jd l Z W (ss.take k++[⟨sx,sy,sw,0⟩])).map vi):=by
   rw[aY.o _ rfl];exact(bu.o.Z aS.o (by simp)).Z V (by have:=av.o;simp;omega)
  have aA:=gd ak;have G:=ck.o.Z V (by simpa using bv.o.1);have cj:=gd G;have⟨e0,t,e2,e3⟩:=my G;simp at e0 t e2 e3;clear aK ae ao ah bc aB bB cx cs J V bh ak G;go_wp2_with fail;clear e0 t e2 e3
  go_loopg [15,45] sh (λj2 v15 v45 wr2=>∃i:Nat,v45=.int .i64 i/\i+j2=sh/\gh (gv wr2 3 (.slice Y N N) Y ((jd l Z W (ss.take k++[⟨sx,sy,sw,i⟩])).map vi))/\gh (gg [Y] w5 wr2))
  .exact⟨0,rfl,by omega,aA,gd (zR _ _)⟩
  obtain⟨i,rfl,cJ,bq,Q⟩:=hrel;rcases gk with _|j2
  .have bR:i=sh:=by omega
   have t2:decide (i<sh)=false:=zA (by omega);have bk:=bq.o;rw[bR,aZ.o]at bk;have a6:=gd bk;have aG:gM wr b F ds (pos+(j5 way l W d ss (k+1)).length):=by
    rw[ce.o,<-Nat.add_assoc];exact cf.o.Z Q.o (λx M=>by simpa using λe:x=Y=>cr.o (e ▸ M))
   have a5:=gd aG;have aT:gh (gg [b,Y] O wr):=gd (((I.o.tq (aS.o.mono (by simp))).tq (b4.o.mono (by simp))).tq (Q.o.mono (by simp)));clear bk bR aG;go_wp2_with fail
   go_roundg j
   .exact⟨k+1,by go_num,by omega,a5,a6,aT⟩
   .omega
  .have bT:i<sh:=by omega
   have t2:decide (i<sh)=true:=zB bT;have⟨Yk,bH⟩:=zX (sy+i);have eY:(sy:Int)+(i:Int)=(Yk:Int):=(by omega);have f:=aV.o i bT;rw[<-bH]at f;have bd:Yk*W+sx+sw<=N:=by
    have h2:Yk+1<=H:=(by omega);have S:=mul_le_mul_right W h2;have h4:H*W=N:=by
     have:=aF
     rw[zY]
     exact_mod_cast this
    rw[succ_mul]at S;omega
   have⟨P0,ba⟩:=zX (Yk*W);have eP:(Yk:Int)*(W:Int)=(P0:Int):=(by rw[ba];simp);rw[<-ba]at bd f;have⟨at_,bJ⟩:=zX (P0+sx);have eQ:(P0:Int)+(sx:Int)=(at_:Int):=(by omega);rw[<-bJ]at bd f;have⟨lo,aE⟩:=zX (i*sw);have eL:(i:Int)*(sw:Int)=(lo:Int):=(by rw[aE];simp);have cw:lo+sw<=m:=by
    have S:=mul_le_mul_right sw (show i+1<=sh by omega);rw[succ_mul,zY sh,<-HM.o,<-aE]at S;exact S
   rw[<-aE]at f;have⟨T,bS⟩:=zX (i+1);have eK:(i:Int)+1=(T:Int):=(by omega);have⟨bg,bf⟩:=zX (lo+sw);have eH:(T:Int)*(sw:Int)=(bg:Int):=(by rw[bS,bf,aE];simp[Int.add_mul]);have bb:at_<N:=(by omega);have cC:=BK (P:=prog) underlying22 nP Y N N at_ bb (zQ _);obtain⟨A',cO,-,bP⟩:=s9 (P:=prog) underlying22 nP (some ⟨g5,0,none⟩) m c5 lo sw bg bf (by omega) bz;have J:=a7.o.Z Q.o (by simpa using b9.o.2);obtain⟨_,-,-,-,ah,-⟩:=J.T;have bM:gz vi wr (some ⟨g5,0,none⟩) (jn l W sx sy sw sh):=⟨λ_=>⟨g5,0,rfl,J.lt,λk a c=>by rw[Nat.zero_add];exact ah k a c⟩⟩;have⟨R,hR⟩:=zX (((jn l W sx sy sw sh).drop lo).take sw);have bO:gz vi wr A' R:=(by rw[hR];exact bP Int vi wr _ bp.o bM);have bD:R.length=sw:=(by rw[hR,zI,zO,bp.o];omega);rw[<-hR]at f;have bV:((jd l Z W (ss.take k++[⟨sx,sy,sw,i⟩])).map vi).length=N:=cc.o _;have G:=cj.o.Z Q.o (by simpa using bv.o.2);have⟨e0,t,e2,e3⟩:=my G;simp at e0 t e2 e3;have⟨aW,aU,ci,cb⟩:=gu bO f bD bV;have cu:Yk<=72:=(by omega);have cI:P0<=4096:=(by omega);have cv:at_<=4096:=(by omega);have cA:lo<=256:=(by omega);have cy:bg<=256:=(by omega);have cz:T<=16:=(by omega);have aD:gh (at_+sw<=N/\sw<=N-at_):=gd ⟨by omega,by omega⟩;have bl:=gd aR;clear bH ba bJ aE bS bf bd cw f bP J ah bM hR bO bD bV G;go_wp2_with fail;refine i9 22 (by kernel_rfl) (by kernel_rfl) ?_;simp only[take_succ_cons,take_zero,drop_succ_cons,drop_zero]
   repeat(go_big_quiet_step (fail))
   refine wpQuiet_nil ?_;intro _ cD;obtain⟨nq,rfl⟩:=cD;have bW:=bq.o.drewN nq
   go_wp2_with(refine Az rfl (.tmp 58) (.tmp 69) 22 22 rfl underlying22 (by kernel_rfl) bW at_ (N-at_) (N-at_) sw (c5-lo) rfl rfl (R.map vi) ?n1 ?n2 ?n3 ?n4 ?n5 ?n6 ?_)
   case n1=>rw[zE];exact ci.o
   case n2=>exact bl.o
   case n3=>exact aD.o.2
   case n4=>
    have g:=aW.o.drewN nq;refine⟨λh0=>?_⟩;obtain⟨b,o,t,e2,e3⟩:=g.ex (by simpa using h0);refine⟨b,o,t,e2,λi a z=>?_⟩;rw[zW]at z;obtain⟨x,M,rfl⟩:=Option.map_eq_some_iff.1 z;exact e3 i x M
   case n5=>rw[cb.o];exact aD.o.1
   case n6=>
    intro u hu;obtain⟨x,_,rfl⟩:=List.mem_map.1 hu;rfl
   intro w7 bj bx;rw[aU.o]at bj;have cg:=gd bj;have b5:gh (gg [Y] w5 w7):=gd ((Q.o.drewN nq).tq bx);clear bj bx bW;go_wp2_with fail
   go_roundg j2
   .exact⟨i+1,by go_num,by omega,cg,b5⟩
   .omega
theorem KX(E:gM w b F ds pos)(w0:1<=W)(Y:W<=64)(Q:1<=H)(R:H<=64)(O:1<=d)(P:d<=16)(S:1<=n)(n1:n<=4)(p:ig ds pos (pa W H d n)):Calls prog 58 #[.pointer b] w λe w'=>e=.returned (.tuple #[W,H,d,n])/\gM w' b F ds (pos+18)/\gg [b] w w':=by
 unfold pa at p;obtain⟨g,rfl⟩:∃g,W=g+1:=⟨W-1,by omega⟩;obtain⟨c,rfl⟩:∃c,H=c+1:=⟨H-1,by omega⟩;obtain⟨a,rfl⟩:∃a,d=a+1:=⟨d-1,by omega⟩;obtain⟨f,rfl⟩:∃f,n=f+1:=⟨n-1,by omega⟩;rw[show g+1-1=g by omega,show c+1-1=c by omega,show a+1-1=a by omega,show f+1-1=f by omega]at p;have t:=p.left;have q:=p.right;rw[gH]at q;have u:=q.left;have r:=q.right;rw[gH]at r;have x:=r.left;have s:=r.right;rw[gH]at s;have D:=iU w b F ds pos 6 g E (by omega) (by omega) t;have j:=λw' h=>iU w' b F ds (pos+6) 6 c h (by omega) (by omega) u;have m:=λw' h=>iU w' b F ds (pos+6+6) 4 a h (by omega) (by omega) x;have o:=λw' h=>iU w' b F ds (pos+6+6+4) 2 f h (by omega) (by omega) s;have T:IntKind.i64.wrap (g:Int)=(g:Int):=IntWalk.i64_in _ (by omega);have U:IntKind.i64.wrap (c:Int)=(c:Int):=IntWalk.i64_in _ (by omega);have V:IntKind.i64.wrap (a:Int)=(a:Int):=IntWalk.i64_in _ (by omega);have X:IntKind.i64.wrap (f:Int)=(f:Int):=IntWalk.i64_in _ (by omega);have⟨G2,G3,G4⟩:=Q9 j m o;clear p t u x s q r j m o E;go_enter func58,ntmps58;go_wp2_with fail;refine D.mono ?_;rintro e L ⟨rfl,y,ad⟩;have j:=G2.o L y;clear D y;go_wp2_with fail;refine j.mono ?_;rintro e M ⟨rfl,z,G⟩;have m:=G3.o M z;clear j z;go_wp2_with fail;refine m.mono ?_;rintro e N ⟨rfl,B,I⟩;have o:=G4.o N B;clear m B;go_wp2_with fail;refine o.mono ?_;rintro e Z ⟨rfl,K,J⟩;clear o;go_wp2_with fail;refine bodyPost_ret (v:=.tuple #[.int .i64 ((g+1:Nat):Int),.int .i64 ((c+1:Nat):Int),.int .i64 ((a+1:Nat):Int),.int .i64 ((f+1:Nat):Int)]) (by simp[results,results58,go_sem]) rfl ?_;exact⟨rfl,K,((ad.tq G).tq I).tq J⟩
theorem M0(a:Nat)(t:mf w l A W H d)(p:Value)(k:Nat)(g:k<=7)(h:iE k l W d=false):Calls prog 102 #[p,k,.slice A l.length a,W,H,d] w λe w'=>(∃c:Int,e=.returned c/\c≠0)/\gg [] w w':=by
 have f:=pT a t k g;unfold lQ at f;rw[h]at f;clear t h g;go_enter func102,ntmps102;go_wp2_with fail;refine f.mono ?_;rintro e m ⟨rfl,j⟩;go_wp2_with fail;go_ret;exact⟨⟨_,rfl,by decide⟩,j⟩
def rP(way:Option Nat)(w:World)(b:Nat)(F bs:List Nat)(l:List Int)(W H d:Nat)(e:Ending)(w':World):Prop:=
 if nO way l W H d=true then e=.returned (.int .i64 0)/\∃F',hJ w' b F' (bs++lw way l W H d)/\gE F F' w w' else e=.returned (.int .i64 6)/\∃F',gE F F' w w'
theorem Df{way:Option Nat}(q:l9 way)(J:Nat)(hl:l.length=W*H)(hs:ie d l)(hc:gz vi w A l)(E:l.length<=J)(w0:1<=W)(w1:W<=64)(h0:1<=H)(g:H<=64)(d0:1<=d)(d1:d<=16)(b:Nat)(F bs:List Nat)(hw:hJ w b F bs)(hA:ib A l F)(hp:iK w)(h0F:0∉F)(hbs:bs.length<17179869184):Calls prog 72 #[.pointer b,.slice A l.length J,W,H,d,.int .i64 (lM way)] w (rP way w b F bs l W H d):=by
 have⟨ss,av⟩:=zX (iM W H 16);have a4:∀w',Calls prog 49 #[W,H,(16:Int)] w' _:=λw'=>By W H 16 w' w0 w1 h0 g (by decide) (by decide);have ap:∀s∈ss,1<=s.w/\s.w<=16/\1<=s.h/\s.h<=16:=by rw[av];exact uR (by decide)
 have aJ:∀s∈ss,s.x+s.w<=W/\s.y+s.h<=H:=by rw[av];exact uT (by decide)
 have b5:ss.length<=4096:=by rw[av];exact zh w1 g
 have aH:=λn=>yX q l W d0 d1 ap n;have bg:=gd av;rw[<-av]at a4;have⟨n,hn⟩:=zX ss.length;have⟨N,hN⟩:=zX l.length;have ce:N<=4096:=by rw[hN,hl];exact zL w1 g
 have ao:0<l.length:=by rw[hl];exact Nat.mul_pos w0 h0
 obtain⟨bA,oA,rfl,b1,aD⟩:=hc.ex ao;have bw:bA∉F:=by have:=hA ao _ rfl;simpa using this
 rw[<-hn]at b5;rw[<-hN]at E⊢;have B:∀k,k<n->(1<=(gJ ss k).w/\(gJ ss k).w<=16/\1<=(gJ ss k).h/\(gJ ss k).h<=16)/\(gJ ss k).x+(gJ ss k).w<=W/\(gJ ss k).y+(gJ ss k).h<=H:=λk hk=>⟨ap _ (uq (by omega)),aJ _ (uq (by omega))⟩;have⟨wi,a6⟩:=zX (lM way);rw[<-a6];have⟨bh,aZ,HC,HL⟩:=gu a6 q hc hl;have⟨be,bU,bV⟩:=Q9 hN hs B;have bS:gh (∀k,k<=n->nu way l W d ss k=true->(j5 way l W d ss k).length<=200000*k):=gd (λk hk hm=>aH k (by omega) hm);have⟨HN,HW,HP,bL⟩:=gu hn hw hp bw;have⟨bc,bQ⟩:=gy h0F hw.lt;clear q hc hl hN hs ap aJ aH hw hp bw b1 h0F av hA ao aD B a6;go_enter func72,ntmps72;go_wp2_with fail;refine(a4 w).mono ?_;rintro e w2 ⟨v8,F8,rfl,B,a1,bp⟩;unfold ph at B;rw[<-hn]at B;obtain⟨A8,c8,rfl,cb,cd,bz,bn⟩:=jy.open_ B;have⟨bM,aw⟩:=gy bz a1;have aP:∀ad,A8=some ad->ad.block<w2.heap.size/\ad.block∉F:=λad e=>by
  obtain⟨g8,rfl,hf,_⟩:=bn ad e;have g:g8∈F8:=by rw[hf];simp
  have v:=bp g8 g;refine⟨B.lt g8 g,λhm=>?_⟩;have L:g8<w.heap.size:=bQ.o _ hm;omega
 have bK:=gd aP;have bW:gh (hJ w2 b F (bs++j5 way l W d ss 0)):=gd (by
  have e:j5 way l W d ss 0=[]:=rfl;rw[e,append_nil];exact HW.o.Y a1)
 clear B a1 bp bz bn aP hn a4;go_wp2_with fail
 go_loopg [14,15,16,17,22] n (λj v14 v15 v16 v17 v22 wr=>∃(k:Nat) (Fk:List Nat),v22=.int .i64 k/\k+j=n/\gh (hJ wr b Fk (bs++j5 way l W d ss k))/\gh (gE F Fk w2 wr)/\gh (nu way l W d ss k=true))
 .exact⟨0,F,rfl,by omega,bW,gd (gE.refl _ _),gd rfl⟩
 obtain⟨k,Fk,rfl,ck,T,K,ay⟩:=hrel;rcases gk with _|j
 .obtain rfl:k=n:=by omega
  have t1:decide ((k:Int)<(k:Int))=false:=by simp
  have p:=ay.o;have a7:=T.o;rw[HN.o,bg.o]at p a7;have⟨ay,T⟩:=gy p a7;clear p a7;go_wp2_with fail;go_ret;unfold rP nO lw;rw[if_pos ay.o];exact⟨rfl,Fk,T.o,gE.pre aw.o K.o⟩
 .have hk:k<n:=by omega
  obtain⟨g8,o8,aP,x0,x1,x2,x3⟩:=tw (bM.o.Z K.o.Z (λad e=>(bK.o ad e).2)) (show k<ss.length by rw[<-HN.o];exact hk);subst aP;obtain⟨⟨ba,aR,a9,aQ⟩,bb,bJ⟩:=bV.o k hk;have⟨s,a5⟩:=zX (gJ ss k);rw[<-a5]at x0 x1 x2 x3 ba aR a9 aQ bb bJ;have bf:=gd a5;clear a5;obtain⟨sx,sy,sw,sh⟩:=s;simp only at x0 x1 x2 x3 ba aR a9 aQ bb bJ;have⟨wo,b6⟩:=zX wr;subst b6;have⟨m,hm⟩:=zX (sw*sh);have cl:m<=256:=by rw[hm];exact zL aR aQ
  have b4:(sw:Int)*(sh:Int)=(m:Int):=by rw[hm];simp
  have p:=vN (P:=prog) iO rfl .i64 .i64 m (by omega) (by omega);have⟨X,hX⟩:=zX wo.heap.size;have⟨wA,ar⟩:=zX (wo.alloc (.cells #[sx,sy,sw,sh] 73));have⟨wB,aL⟩:=zX (wA.alloc (.cells (Array.replicate m (Value.int .i64 0)) 3));have⟨Y,hY⟩:=zX (X+1);have a8:wA.heap.size=Y:=by rw[ar,jt,hY,hX]
  have aq:=RD ar hX;have ak:gv wB 3 (.slice Y 0 m) Y []:=by
   have:=gv.room wA m (by omega)
   rw[toArray_replicate,a8]at this;rw[aL];exact this
  have bl:=H4 ar;have a2:=H4 aL;have aI:=aq.Z a2 (by simp);have⟨q0,q1,q2,q3⟩:=my aq;have⟨s0,s1,s2,s3⟩:=my aI;simp at q0 q1 q2 q3 s0 s1 s2 s3;have⟨HX,HY,bj,bX⟩:=gu hX hY a8 ar;have⟨bY,aO,bT,aN⟩:=gu aL aq ak bl;have⟨aT,HM⟩:=gy a2 hm;rw[ar,hX]at q0 q1 q2 q3;rw[aL,ar,hX]at s0 s1 s2 s3;clear hX hY a8 ar aL aq ak bl a2 aI hm;go_wp2_with fail;rw[<-bX.o,<-bY.o,<-HX.o,<-HY.o];have⟨YH,br⟩:=zX (sy+sh);have b7:(sy:Int)+(sh:Int)=(YH:Int):=by omega
  have a0:=gd br;have b0:YH<=64:=by omega
  have ch:sx<=64:=by omega
  have ci:sy<=64:=by omega
  have aX:=gd (λwz (hz:gg [] wA wz)=>And.intro ((aO.o.Z hz (by simp)).X 0) (And.intro ((aO.o.Z hz (by simp)).X 1) (And.intro ((aO.o.Z hz (by simp)).X 2) ((aO.o.Z hz (by simp)).X 3))));have bP:gh (∀wz,gg [] wA wz->gz vi wz (some ⟨bA,oA,none⟩) l):=gd (λwz hz=>(((HC.o.Y aw.o).Z K.o.Z (λad e=>by injection e with e;subst e;exact bL.o)).Y aN.o).Y hz);clear br q0 q1 q2 q3 s0 s1 s2 s3
  go_loopg [15,16] sh (λj2 v15 v16 wr=>∃(r f:Nat) (F5:List Nat),v16=.int .i64 f/\gh (f=sy+r)/\r+j2=sh/\f+j2=YH/\gh (jj wr 3 v15 F5 ((jn l W sx sy sw r).map vi))/\gh (gg [] wA wr)/\gh (∀x∈F5,Y<=x))
  .exact⟨0,sy,[Y],rfl,gd rfl,by omega,by have:=a0.o;omega,gd (by simpa[jn]using bT.o.R),aT,gd (by intro x y;simp at y;omega)⟩
  obtain⟨r,f,F5,rfl,bi,cm,cj,HO,I,aU⟩:=hrel;obtain⟨s0,s1,s2,s3⟩:=aX.o wr I.o;simp at s0 s1 s2 s3;rcases gk with _|j2
  .have t2:=Ra f YH (by omega)
   have bI:r=sh:=(by omega);have t:=HO.o;rw[bI]at t;have bH:jn l W sx sy sw sh=mJ l W ⟨sx,sy,sw,sh⟩:=rfl;rw[bH]at t;have⟨D,hD⟩:=zX (mJ l W ⟨sx,sy,sw,sh⟩);rw[<-hD]at t;have o:D.length=m:=(by rw[hD,zq];exact HM.o.symm);have bo:ie d D:=(by rw[hD];exact Bh bU.o _ _ _ _ _);obtain⟨A5,c5,rfl,bZ,ca,bx⟩:=t.T;have U:ib A5 D Fk:=t.apt (λx y hm=>by
    have g:=aU.o x y;have v:=T.o.lt x hm;have L:=HX.o;have h4:=HY.o;omega)
   have M:mf wr D A5 sw sh d:=⟨ba,aR,a9,aQ,d0,d1,by rw[o,HM.o],bo,bx⟩;have aM:=(T.o.Y aN.o).Y I.o;have ai:=(((HP.o.Y aw.o).Z K.o.Z bc.o).Y aN.o).Y I.o;have bm:0∉Fk:=K.o.o (by have:=HP.o.lt;have:=aw.o.size;omega) bc.o;have aF:(bs++j5 way l W d ss k).length<34359738368:=by
    rw[zC]
    have:=bS.o k (by omega) ay.o
    omega
   have z:=tV way l W d ss k;have G:=Co way l W d ss k;rw[<-bf.o]at z G;simp only at z G;rw[<-hD]at z G;have an:gh (∀F' wz,gE Fk F' wr wz->gE F F' w2 wz):=gd (λF' wz hz=>K.o.trans (gE.pre (aN.o.tq I.o) hz));rw[o]at bZ;have HD:=gd hD;clear t bx bo bI bH hD
   cases way with
   | none=>
    have c:=Hk c5 M ai b Fk _ aM U bm aF;unfold kF at c;rw[o]at c;have e1:wi=-1:=bh.o;subst e1;have Z:(bs++j5 none l W d ss k)++ik (m6 D sw sh d) D sw sh d=bs++j5 none l W d ss (k+1):=by
     rw[z];simp only[zH,qQ,uU]
    rw[Z]at c;have af:=gd c;have aV:gh (nu none l W d ss (k+1)=true):=gd (tR _ _ _ _ _);rw[o];clear c Z z G M aM ai U o;go_wp2_with fail;refine af.o.mono ?_;rintro e O ⟨rfl,S,aK,V⟩;have⟨ax,aY⟩:=gy (an.o S O V) aK;clear V aK;go_wp2_with fail
    go_roundg j
    .exact⟨k+1,S,by go_num,by omega,aY,ax,aV⟩
    .omega
   | some kk=>
    have bF:kk<=7:=aZ.o kk rfl;have e1:wi=(kk:Int):=bh.o;subst e1;have t3:=Ra kk 0 (by omega)
    cases p:iE kk D sw d with
    | true=>
     have c:=Ay c5 M b Fk _ aM U ai bm aF kk bF p;unfold kF at c;rw[o]at c;have Z:(bs++j5 (some kk) l W d ss k)++ik kk D sw sh d=bs++j5 (some kk) l W d ss (k+1):=by
      rw[z];simp only[zH,qQ,uU]
     rw[Z]at c;have af:=gd c;have aV:gh (nu (some kk) l W d ss (k+1)=true):=gd (by rw[G,ay.o];exact p);rw[o];clear c Z z G M aM ai U o p;go_wp2_with fail;refine af.o.mono ?_;rintro e O ⟨rfl,S,aK,V⟩;have⟨ax,aY⟩:=gy (an.o S O V) aK;clear V aK;go_wp2_with fail
     go_roundg j
     .exact⟨k+1,S,by go_num,by omega,aY,ax,aV⟩
     .omega
    | false=>
     have c:=M0 c5 M (.pointer b) kk bF p;rw[o]at c;have af:=gd c;have aS:gh (¬nu (some kk) l W d ss n=true):=gd (λh=>by
      have g:=Dd h hk;rw[<-bf.o]at g;have v:iE kk (mJ l W ⟨sx,sy,sw,sh⟩) sw d=true:=g;rw[<-HD.o,p]at v;cases v)
     rw[o];clear c z G M aM ai U o p;go_wp2_with fail;refine af.o.mono ?_;rintro e O ⟨⟨cc,rfl,b2⟩,bk⟩;have t4:(cc != 0)=true:=(by simpa using b2);have ax:=gd (an.o Fk O (gE.pre bk (gE.refl _ _)));clear bk;go_wp2_with fail;go_ret;unfold rP nO lw;have aC:=aS.o;rw[HN.o,bg.o]at aC;rw[if_neg aC];exact⟨rfl,Fk,gE.pre aw.o ax.o⟩
  .have t2:=jo f YH (by omega)
   have⟨P,hP⟩:=zX (f*W);have eP:(f:Int)*(W:Int)=(P:Int):=(by rw[hP];simp);have bu:f<64:=(by omega);have cf:P<=4096:=(by rw[hP];exact zL (show f<=64 by omega) w1);have⟨Q,hQ⟩:=zX (P+sx);have eQ:(P:Int)+(sx:Int)=(Q:Int):=(by omega);have⟨hi,bE⟩:=zX (Q+sw);have b9:(Q:Int)+(sw:Int)=(hi:Int):=(by omega);have bv:=bi.o;have a3:hi<=N:=by
    have v:f+1<=H:=(by omega);have L:=mul_le_mul_right W v;rw[succ_mul]at L;have h4:=be.o;rw[HL.o,zY W H]at h4;omega
   obtain⟨A',cn,-,bC⟩:=s9 (P:=prog) underlying22 nP (some ⟨bA,oA,none⟩) N J Q sw hi bE a3 E;have aj:(l.drop Q).take sw=(range sw).map λi=>l.getD ((sy+r)*W+(sx+i)) 0:=by
    have g:=GJ (l:=l) (W:=W) (H:=H) (x:=sx) (Y:=f) (w:=sw) HL.o bb (by omega);rw[hQ,hP,g,bv]
   have⟨R,hR⟩:=zX ((l.drop Q).take sw);have bq:R.length=sw:=(by rw[hR,aj];simp);have bB:gz vi wr A' R:=(by rw[hR];exact bC Int vi wr l be.o.symm (bP.o wr I.o));have aH:(jn l W sx sy sw r).length<=4096:=(by rw[o6];exact zL (show r<=64 by omega) (show sw<=64 by omega));have bG:jn l W sx sy sw (r+1)=jn l W sx sy sw r++R:=(by rw[Ga,hR,aj]);have t:=HO.o;have bD:gz (λu=>u) wr A' (R.map vi):=by
    refine⟨λh0=>?_⟩;obtain⟨b',o',f1,f2,f3⟩:=bB.ex (by simpa using h0);refine⟨b',o',f1,f2,λi a ha=>?_⟩;rw[zW]at ha;obtain⟨x,y,rfl⟩:=Option.map_eq_some_iff.1 ha;exact f3 i x y
   have⟨bN,aW,az,bR⟩:=gu bD bq aH bG;have cg:Q<=4200:=(by omega);have b3:hi<=4300:=(by omega);clear hP hQ bE hR bC bB aH bq bG bD aj bv
   go_wp2_with(at_builtin;refine ns rfl rfl iO rfl rfl t (R.map vi) sw rfl ?c1 ?c2 ?c3 ?c4 ?c5 ?_)
   case c1=>rw[zE];exact aW.o.symm
   case c2=>exact bN.o
   case c3=>exact uW _
   case c4=>rw[zE,zE,aW.o];have:=az.o;omega
   case c5=>rw[zE,zE,aW.o];have:=az.o;omega
   intro v' F' O v L;have⟨bO,bd⟩:=gy v L;clear v L t;go_wp2_with fail
   go_roundg j2
   .refine⟨r+1,f+1,F',by go_num,gd (by rw[bi.o];omega),by omega,by omega,gd ?_,gd ?_,gd ?_⟩
    .rw[bR.o,zM]
     exact bO.o
    .exact I.o.trans bd.o.Z (λx y=>.inr (by rw[bj.o];exact aU.o x y))
    .intro x y
     rcases bd.o.new x y with h|h
     .exact aU.o x h
     .have:=I.o.size;have:=bj.o;omega
   .omega
end Go.Proofs.YtifdlkoepaepiaaGreatDoor
