/- Lemmas. -/
import Derived.Test.YtnepiccbpokmiaaGreatDoorMg28
import Derived.Test.YtnepiccbpokmiaaGreatDoorMg38
import Derived.Test.YtnepiccbpokmiaaGreatDoorMg30
set_option linter.all false
set_option maxHeartbeats 4000000
set_option maxRecDepth 100000
namespace Go.Proofs.YtnepiccbpokmiaaGreatDoor
open Tryz List Nat Go.RowKit
variable {F:List Nat}{w:World}
theorem MN{v:Value}{d:List Value}{e:El}(h:gE w 3 v F d)(a:d=e.syms.map i64):∃g cp,v=.slice (some ⟨g,0,none⟩) e.syms.length cp/\F=[g]/\∀F',g∉F'->js w F' e v:=by
 subst a;have k:=e.syms_pos;rcases h.cases with⟨_,f,_⟩|⟨g,c,rfl⟩
 .have:=congrArg length f
  rw[zE,length_nil]at this;omega
 .obtain⟨b,rfl,_,_,j,_⟩:=c.oq
  exact⟨g,b,rfl,rfl,λF' hF=>⟨g,0,b,rfl,c.lt,hF,λi x a=>by rw[Nat.zero_add];exact j i x a⟩⟩
theorem js.cells{e:El}{b o cap:Nat}(h:js w F e (.slice (some ⟨b,o,none⟩) e.syms.length cap)):gu (λu=>u) w (some ⟨b,o,none⟩) (e.syms.map i64):=by
 obtain⟨j,k,g,c,d,_,f⟩:=h.ex;injection c with c;injection c with c;injection c with e1 e2 _;subst e1;subst e2;refine⟨λ_=>⟨b,o,rfl,d,λi a ha=>?_⟩⟩;rw[zW]at ha
 cases hx:e.syms[i]? with
 | none=>rw[hx]at ha;cases ha
 | some x=>
  rw[hx]at ha;injection ha with ha;subst ha;exact f i x hx
theorem js.shape{e:El}{s:Value}(h:js w F e s):∃b o cap,s=.slice (some ⟨b,o,none⟩) e.syms.length cap:=by
 obtain⟨b,o,cap,a,_⟩:=h.ex;exact⟨b,o,cap,a⟩
theorem js.coin(w:World)(i f:Nat):js (w.alloc (.cells #[i] 3)) [] (.coin i f) (.slice (some ⟨w.heap.size,0,none⟩) 1 1):=by
 have a:=gn.new w 3 #[i];refine⟨w.heap.size,0,1,rfl,a.lt,by simp,λj x hx=>?_⟩
 match j,hx with
 | 0,hx=>
  simp[El.syms]at hx;subst hx;exact a.X 0
 | j+1,hx=>simp[El.syms]at hx
theorem Ea(l:List Nat):∀u∈l.map i64,u.oneCell'=true:=λu hu=>by
 obtain⟨x,_,rfl⟩:=List.mem_map.1 hu;rfl
theorem Iq(w:World)(freq:List Nat)(A:Option Addr)(cap:Nat)(h1:1<=freq.length)(h2:freq.length<=256)(hf:∀f∈freq,f<=4096)(d:0<(iC freq freq.length).length)(hc:gu i64 w A freq):Calls prog 114 #[.slice A freq.length cap,(12:Int)] w (qQ w freq):=by
 have⟨n,hn⟩:=zX freq.length;rw[<-hn]at h1 h2 d⊢;have fg:=lp (P:=prog) iJ rfl .i64 .i64 n (by omega) (by omega);have⟨HN,X,bp⟩:=gS hn hf d;clear hn hf d;have t1:=gL n 1 (by omega);have t2:=gL 1024 n (by omega);go_enter func114,ntmps114;go_wp2_with fail;clear t1 t2
 go_loopg [6,7] n (λj v6 iv wr=>∃(i:Nat) (F:List Nat),iv=.int .i64 i/\i+j=n/\gh (lh (λ_=>True) wr v6 F (jn (iC freq i)))/\(∀x∈F,w.heap.size<=x)/\gf [] w wr)
 .exact⟨0,[],rfl,by omega,gd (by rw[AK,LD];exact lh.nil _),by simp,zR _ _⟩
 obtain⟨i,F,rfl,fd,I,hF,Q⟩:=hrel;obtain⟨W,c6,rfl,al,bI,B,dz⟩:=I.o.open_;have K:(jn (iC freq i)).length=(iC freq i).length:=sO _;rw[K]at al⊢;have aR:=Bo freq i;rcases gk with _|j
 .obtain rfl:i=n:=by omega
  have t0:decide (i<i)=false:=by simp
  have af:=qW freq;have aG:∀e∈iC freq freq.length,e.wt<=4096:=λe a=>by
   obtain⟨s,V,_,rfl⟩:=qh a;show freq.getD s 0<=4096;rw[zD]
   cases hx:freq[s]? with
   | none=>exact zero_le _
   | some x=>exact X.o x (mem_of_getElem? hx)
  have aF:∀e∈iC freq freq.length,e.syms.length<=1:=GT;have⟨C,hC⟩:=zX (iC freq i);rw[<-hC]at aR al B⊢;have d:=bp.o;rw[<-hC]at d;rw[<-HN.o,<-hC]at af aG aF;have⟨c,bG⟩:=zX C.length;rw[<-bG]at aR al d⊢;have t6:((c:Int)==0)=false:=by rw[beq_eq_false_iff_ne];omega
  have t7:=gL 4096 c (by omega);have fp:decide (4096<c)=false:=zA (by omega);have⟨HC,ak,bk,cj⟩:=gz hC bG af aG;have⟨cg,a7⟩:=gy aF B;have a1:=Q.size;clear hC bG af aG aF B I hF K;by_cases M:c=1
  .have t8:((c:Int)==1)=true:=by rw[beq_iff_eq];omega
   have dA:∃s f,C=[.coin s f]:=by
    obtain⟨e,a⟩:=List.length_eq_one_iff.1 (ak.o.symm.trans M);obtain⟨s,f,rfl,_,_⟩:=bk.o.coin e (by rw[a];simp);exact⟨s,f,a⟩
   obtain⟨s,f,a8⟩:=dA;have cN:jn C=[.coin s f]:=by
    have:=pJ C
    rw[a8]at this;rw[a8];exact List.perm_singleton.1 this
   have bJ:iC freq i=[.coin s f]:=(by rw[<-HC.o,a8]);have be:=Ef (freq:=freq) (by rw[<-HN.o];omega) (by rw[<-HN.o];exact bJ);rw[<-HN.o]at be;have bl:gh (iC freq freq.length=[.coin s f]):=gd (by rw[<-HN.o];exact bJ);have B:=a7.o;rw[cN]at B;obtain⟨b,o,sv,rfl,d9,-,c2,O,-⟩:=B.at_ (i:=0) (by simp);obtain⟨D,H,Z,bf,cy,-,aQ⟩:=O.ex;subst bf;have c3:=aQ 0 s rfl;have d5:wr.cell? ⟨b,o+1,none⟩=some (.slice (some ⟨D,H,none⟩) 1 Z):=by
    have e:o+0*2+1=o+1:=(by omega);rw[e]at c2;exact c2
   have d6:wr.cell? ⟨D,H,none⟩=some (.int .i64 s):=c3;have S:=gv.zerosN wr i (by omega);have dc:=gd be;have dV:=be.1;have fj:(0:Int)<=(s:Int):=(by omega);have dU:(s:Int)<(i:Int):=(by omega);have G:=S.T (i:=s) (by simpa using dV) (i64 1);rw[<-map_set]at G;have aO:=gd G;obtain⟨ds,d4,_,_,d2,d3⟩:=S.oq;clear d4;subst M;clear be G S d2 d3 bJ a8 cN B O aQ c2 c3;go_wp2_with fail
   go_ret2
   have e:(Array.replicate i (Value.int .i64 0)).setIfInBounds s (.int .i64 1)=(((replicate i 0).set s 1).map i64).toArray:=by
    rw[map_set,map_replicate];show((replicate i (Value.int .i64 0)).toArray).setIfInBounds s (.int .i64 1)=_;rw[setIfInBounds_toArray];rfl
   have am:=gv.made wr 3 (((replicate i 0).set s 1).map i64) (by simp[maxLen];omega);rw[<-e]at am;have bR:(((replicate i 0).set s 1).map i64).length=i:=(by simp);rw[bR]at am;have aS:=Ck bl.o;rw[<-HN.o]at aS;unfold qQ;rw[aS];exact⟨_,wr.heap.size,rfl,am,dc.o.2,Q.alloc _,a1⟩
  .have t8:((c:Int)==1)=false:=by rw[beq_eq_false_iff_ne];omega
   have⟨gl,bO⟩:=zX wr.heap.size;have⟨w1,aq⟩:=zX (wr.alloc (.cells (Array.replicate i (Value.int .i64 0)) 3));have S:gv w1 3 (.slice gl i i) gl ((replicate i 0).map i64):=by
    rw[aq,bO];exact gv.zerosN wr i (by omega)
   have aC:=jD aq;have aT:w.heap.size<=gl:=(by omega);have ci:gh (mv (λs=>∀b o m k,s=.slice (some ⟨b,o,none⟩) m k->b≠gl) w1 W (jn C)):=gd ((a7.o.imp (λe s V _ b o m k a=>by
    obtain⟨b',o',k',e',hb,_⟩:=V.ex;rw[e']at a;injection a with a;injection a with a;injection a with a _ _;omega)).Y aC)
   have cT:gh (∀ad,W=some ad->ad.block≠gl):=gd λad had=>by
    obtain⟨b,o,_,e,hb,_⟩:=a7.o.at_ (i:=0) (by rw[sO,<-ak.o];omega);rw[e]at had;injection had with had;subst had;show b≠gl;omega
   have⟨bu,c8,dl,bj⟩:=gz aq bO S (Q.tq aC);have dL:=S.lt;clear S aq aC bO Q dz a7;go_wp2_with fail;rw[<-bu.o,<-c8.o]
   go_loopg [10,11,12,13] 11 (λj v10 iv v12 v13 r=>∃(q:Nat) (R:List El) (AR:Option Addr) (cR:Nat),v10=.slice AR R.length cR/\iv=.int .i64 ((q+1:Nat):Int)/\q+j=11/\gh (mv (λs=>∀b o m k,s=.slice (some ⟨b,o,none⟩) m k->b≠gl) r AR R)/\gh (∀ad,AR=some ad->ad.block≠gl)/\gh (R=lQ C q)/\gh (gf [] w1 r))
   .exact⟨0,jn C,W,c6,by rw[sO,<-ak.o],rfl,rfl,ci,cT,gd rfl,gd (zR _ _)⟩
   clear al;obtain⟨r,rfl⟩:=zX wr;obtain⟨q,R,AR,cR,rfl,rfl,fi,bs,cU,HR,Y⟩:=hrel;have bC:Rows C (q+1) R:=(by rw[HR.o];exact xK C q);have T:=Rows.length bk.o (by rw[<-ak.o];omega) bC;rw[<-ak.o]at T;have dB:R.length<=2*c:=by
    generalize (c-1) / 2^(q+1-1)=z at T;omega
   have⟨m,hm⟩:=zX R.length;rw[<-hm]at dB⊢;have⟨HM,aM,aN⟩:=gS hm T bC;have⟨i1,bP⟩:=zX (q+1);rw[<-bP];have a5:=gd bP;have dM:i1<=12:=(by omega);clear hm T bC bP;rcases gk with _|j
   .obtain rfl:q=11:=by omega
    have T:=aM.o;have cH:=HM.o;have ah:=AS (freq:=freq) (by rw[<-HN.o];omega) (by rw[<-HN.o,<-HC.o,<-ak.o];omega) (R:=R) (by rw[<-HN.o,<-HC.o];exact aN.o);rw[<-HN.o,<-HC.o,<-ak.o]at ah;have aA:=Rows.syms bk.o aN.o;have ay:=Rows.slen cg.o aN.o;have dQ:2*c-2<=m:=by
     rw[<-cH]at T
     have:(c-1) / 2^(11+1-1)=0:=div_eq_of_lt (by omega)
     omega
    have⟨k,hk⟩:=zX (2*c-2);rw[<-hk]at ah dQ;have fe:(2:Int)*(c:Int)-2=(k:Int):=(by omega);have t9:decide ((i1:Int)<12)=false:=zA (by have:=a5.o;omega);have fq:decide (i1<12)=false:=zA (by have:=a5.o;omega);have a0:=dl.o.Z Y.o (by simp);have⟨cd,a6,dm,HK⟩:=gz ah aA ay hk;clear ah aA ay T cH hk;go_wp2_with fail
    go_loopg [14,15] k (λj iv v15 wz=>∃(t:Nat),iv=.int .i64 t/\t+j=k/\gv wz 3 (.slice gl i i) gl ((i9 i (R.take t)).map i64)/\gf [gl] r wz)
    .exact⟨0,rfl,by omega,by rw[take_zero,Cl];exact a0,zR _ _⟩
    clear a0;obtain⟨t,rfl,fk,J,N⟩:=hrel;rcases gk with _|j
    .obtain rfl:t=k:=by omega
     have bM:gf [] w wr:=(bj.o.tq Y.o).trans N (λx hx=>by rw[zU.1 hx];exact .inr aT);have aV:ve freq (i9 i (R.take t)):=by
      obtain⟨f1,f2,f3⟩:=cd.o;refine⟨by rw[nf];exact HN.o,f1,λs V=>f2 s (by rw[HN.o];exact V),λn hn=>?_⟩;obtain⟨s,_,rfl⟩:=List.mem_map.1 hn;exact f3 s
     have dd:=gd aV;clear aV;go_wp2
     go_ret2
     have aS:=Bz (freq:=freq) (by rw[<-HN.o,<-HC.o,<-ak.o];omega);rw[<-HN.o,<-HC.o,<-HR.o,<-ak.o,<-HK.o]at aS;unfold qQ;rw[aS];exact⟨_,gl,rfl,J,dd.o,bM,aT⟩
    .have a3:t<R.length:=by rw[<-HM.o];omega
     have dW:t<k:=(by omega);obtain⟨b,o,s,hA,hb,-,ca,O,hq⟩:=bs.o.at_ a3;have dH:b≠gl:=cU.o _ hA;obtain⟨D,H,Z,bf,cy,-,aQ⟩:=O.ex;have bE:=hq D H _ _ bf;have bY:R.take (t+1)=R.take t++[R[t]]:=jd _ a3;have aU:=zh (a6.o R[t] (zG a3));have bX:=dm.o R[t] (zG a3);have aX:∀s,s<i->∀q,(kI (R[t].syms.take q) (i9 i (R.take t))).getD s 0<=12:=λs V q=>by
      refine Nat.le_trans (Nr _ _ _ V) ?_;rw[<-bY];have e3:R.take (t+1)=(R.take k).take (t+1):=(by rw[take_take,Nat.min_eq_left (by omega)]);rw[e3];exact Nat.le_trans (AW _ _ _) (cd.o.2.2 s)
     have a9:=J3 i (R.take t) R[t];rw[<-bY]at a9;have aj:=λ(l:List Nat) (q:Nat) (h:q<R[t].syms.length)=>J5 (l:=l) (t:=R[t]) (k:=q) h;generalize R[t]=E at *;subst bf;have⟨L,hL⟩:=zX E.syms.length;rw[<-hL]at ca a9 bX;have⟨cY,c9,dg,bm⟩:=gz aQ aU aX a9;have⟨dn,HL⟩:=gy aj hL;have cX:gh (∀wy,gf [gl] r wy->wy.cell? ⟨b,o+t*2+1,none⟩=some (.slice (some ⟨D,H,none⟩) L Z)):=gd λwy hy=>(World.cell?_of_block (w:=r) (hy.block b hb (by simpa using dH))).trans ca;have c0:gh (∀wy,gf [gl] r wy->∀q x,E.syms[q]?=some x->wy.cell? ⟨D,H+q,none⟩=some (.int .i64 ((x:Nat):Int))):=gd λwy hy q x hx=>(World.cell?_of_block (w:=r) (hy.block D cy (by simpa using bE))).trans (cY.o q x hx);have d8:L<=4096:=bX;have dF:(0:Int)<=(t:Int):=(by omega);have dG:(t:Int)<(m:Int):=(by omega);subst hA;clear aQ aU aX a9 aj hL bX ca O hq bY a3;go_wp2_with fail
     go_loopg [15] L (λjj kv wy=>∃(k2:Nat),kv=.int .i64 k2/\k2+jj=L/\gv wy 3 (.slice gl i i) gl ((kI (E.syms.take k2) (i9 i (R.take t))).map i64)/\gf [gl] r wy)
     .exact⟨0,rfl,by omega,by rw[take_zero];exact J,N⟩
     clear J N;obtain⟨k2,rfl,ff,J,N⟩:=hrel;have ca:=cX.o wr N;rcases gk with _|jj
     .obtain rfl:k2=L:=by omega
      have b7:decide (k2<k2)=false:=(by simp);have bq:=gd J;go_wp2_with fail
      go_roundg j
      .exact⟨t+1,by go_num,by omega,by have h:=bq.o;rw[bm.o]at h;exact h,N⟩
      .omega
     .have cG:k2<L:=by omega
      have b7:decide (k2<L)=true:=zB cG;have bd:k2<E.syms.length:=(by rw[<-HL.o];exact cG);have cx:=c0.o wr N k2 _ (zF bd);have b5:=c9.o E.syms[k2] (zG bd);have aj:=dn.o (i9 i (R.take t)) k2 bd;have⟨x,hx⟩:=zX (E.syms[k2]);rw[<-hx]at cx b5 aj;have dR:=dg.o x b5 k2;have bD:x<(kI (E.syms.take k2) (i9 i (R.take t))).length:=(by rw[yk,nf];exact b5);obtain⟨cv,fv⟩:=J.nat_cell bD;have G:=J.nat_set bD ((kI (E.syms.take k2) (i9 i (R.take t))).getD x 0+1);rw[<-aj]at G;have⟨v,hv⟩:=zX ((kI (E.syms.take k2) (i9 i (R.take t))).getD x 0);rw[<-hv]at cv G dR;have e2:((v+1:Nat):Int)=(v:Int)+1:=(by simp);rw[e2]at G;have aO:=gd G;have dI:(0:Int)<=(x:Int):=(by omega);have M:(x:Int)<(i:Int):=(by omega);have fb:(0:Int)<=(k2:Int):=(by omega);have fc:(k2:Int)<(L:Int):=(by omega);clear G bD aj hx bd J hv e2;go_wp2_with fail
      go_roundg jj
      .exact⟨k2+1,by go_num,by omega,aO.o,N.setCell (.inl (by simp)) _⟩
      .omega
   .have t9:decide ((i1:Int)<12)=true:=zB (by have:=a5.o;omega)
    have aL:=Rows.wt_le cj.o aN.o;have aY:2^(q+1)<=4096:=Nat.le_trans (Nat.pow_le_pow_right (n:=2) (by decide) (show q+1<=12 by omega)) (by decide);have bv:gh (∀e∈R,e.wt<=16777216):=gd λe a=>by
     have:=aL e a
     have:=mul_le_mul_left 4096 aY
     omega
    have ch:gh (∀e∈R,e.syms.length<=4096):=gd λe a=>by
     have:=Rows.slen cg.o aN.o e a
     omega
    clear aL aY;go_wp2_with fail
    go_loopg [12,13] (m / 2) (λkk v12 v13 wz=>∃(p x:Nat) (F:List Nat),v13=.int .i64 x/\gh (x=2*p)/\p+kk=m / 2/\gh (lh (λs=>∀b o m k,s=.slice (some ⟨b,o,none⟩) m k->b≠gl) wz v12 F (gT (R.take (2*p))))/\gh (∀x∈F,r.heap.size<=x)/\gh (gf [] r wz))
    .exact⟨0,0,[],rfl,gd rfl,by omega,gd (by rw[Nat.mul_zero,take_zero,KV];exact lh.nil _),gd (by simp),gd (zR _ _)⟩
    obtain⟨p,x,F,rfl,u,fh,I,X,y⟩:=hrel;obtain⟨AP,cP,bZ,bK,dK,ap,d7⟩:=I.o.open_;subst bZ;have bT:(gT (R.take (2*p))).length=p:=by
     rw[rf,zI,<-HM.o,Nat.min_eq_left (by omega)];omega
    rw[bT]at bK⊢;have cf:=gd bT;have fl:x<=m:=(by have:=u.o;omega);clear bT;have⟨x1,cO⟩:=zX (x+1);have d0:(x:Int)+1=(x1:Int):=(by omega);have d1:IntKind.i64.wrap (x1:Int)=(x1:Int):=IntWalk.i64_in _ (by omega);rcases gk with _|kk
    .have b7:decide (x1<m)=false:=zA (by have:=u.o;omega)
     have cK:=An R (q:=p) (by rw[<-HM.o];omega) (by rw[<-HM.o];omega);rw[cK]at ap;have bS:=KJ _ wr W AP c6 cP (jn C) (gT R) ((ci.o.Y Y.o).Y y.o) ap (by rw[sO,<-ak.o];omega) (by rw[rf,<-HM.o];omega)
      (λe a=>by have:=cj.o e ((pJ C).mem_iff.1 a);omega) (λe a=>by have:=Es R bv.o e a;omega)
     rw[sO,<-ak.o,rf,<-HM.o,<-show p=m / 2 by omega]at bS;have ce:=gd bS;have cM:=JO C q;have dk:=gd cM;clear cK ap bS cM cO I;go_wp2_with fail;refine ce.o.mono ?_;rintro e w3 ⟨v3,F3,rfl,aW,cl,cp⟩;have aK:=aW;rw[show jn C=lQ C 0 from rfl,HR.o,<-dk.o]at aK;obtain⟨A3,c3,dZ,_,_,a2,cn⟩:=aK.open_;subst dZ;have cV:gh (gf [] w1 w3):=gd ((Y.o.tq y.o).tq cl);have br:=gd a2;have cS:gh (∀ad,A3=some ad->ad.block≠gl):=gd λad had=>by
      have h1:=cp _ (cn ad had);have h2:=(Y.o.tq y.o).size;omega
     clear aW aK cl cp a2 cn ce;go_wp2_with fail
     go_roundg j
     .exact⟨q+1,lQ C (q+1),A3,c3,rfl,by rw[a5.o];go_num,by omega,br,cS,gd rfl,cV⟩
     .omega
    .have b7:decide (x1<m)=true:=zB (by have:=u.o;omega)
     have bg:x<R.length:=(by rw[<-HM.o];have:=u.o;omega);have ar:x1<R.length:=(by rw[<-HM.o];have:=u.o;omega);obtain⟨b,o,s1,hA,hb,bw,bx,a1,dS⟩:=bs.o.at_ bg;obtain⟨b',o',s2,bB,dE,bz,bA,bW,dT⟩:=bs.o.at_ ar;subst hA;injection bB with bB;injection bB with e1 e2 _;subst e1;subst e2;have aD:=Ag R p (by rw[<-HM.o];have:=u.o;omega);have cC:R[2*p]'(by have:=u.o;omega)=R[x]:=(by congr 1;exact u.o.symm);have cD:R[2*p+1]'(by have:=u.o;omega)=R[x1]:=(by congr 1;have:=u.o;omega);rw[cC,cD,show 2*p+2=2*(p+1)by omega]at aD;have b0:=bv.o R[x] (zG bg);have b3:=bv.o R[x1] (zG ar);have dO:=ch.o R[x] (zG bg);have dP:=ch.o R[x1] (zG ar);generalize R[x]=E1 at *;generalize R[x1]=E2 at *;obtain⟨b1,o1,cm,dX⟩:=a1.shape;obtain⟨D,H,Z,dY⟩:=bW.shape;subst dX;subst dY;have cE:=a1.cells;have cF:=bW.cells;have⟨L1,cr⟩:=zX E1.syms.length;have⟨L2,cs⟩:=zX E2.syms.length;rw[<-cr]at bx dO;rw[<-cs]at bA dP;have⟨W1,ct⟩:=zX E1.wt;have⟨W2,cu⟩:=zX E2.wt;rw[<-ct]at bw b0;rw[<-cu]at bz b3;have⟨W3,cw⟩:=zX ((El.pack E1 E2).wt);have dC:(W1:Int)+(W2:Int)=(W3:Int):=by
      have:(El.pack E1 E2).wt=E1.wt+E2.wt:=rfl
      omega
     have dD:IntKind.i64.wrap (W3:Int)=(W3:Int):=IntWalk.i64_in _ (by omega);obtain⟨ps,cL,ao,O⟩:=I.o.ex;rw[cf.o]at ao;have bh:gh (L1=(E1.syms.map i64).length/\([]:List Value).length+(E1.syms.map i64).length<=1000000):=gd (by simp only[zE,length_nil];omega);have bi:gh (L2=(E2.syms.map i64).length/\(([]:List Value)++E1.syms.map i64).length+(E2.syms.map i64).length<=1000000):=gd (by simp only[zE,length_nil,zC];omega);have dr:gh (([]:List Value)++E1.syms.map i64++E2.syms.map i64=(El.pack E1 E2).syms.map i64):=gd (by rw[nil_append,<-zM];rfl);have⟨da,db,dh,di⟩:=gz cE cF aD cL;have⟨bo,a6,dq,bm⟩:=gz ao O cw ao.lt;have a4:gh (b<r.heap.size):=gd hb
     have bQ:∀wy,gf [] r wy->wy.cell? ⟨b,o+x*2,none⟩=some (.int .i64 W1)/\wy.cell? ⟨b,o+x*2+1,none⟩=some (.slice (some ⟨b1,o1,none⟩) L1 cm)/\wy.cell? ⟨b,o+x1*2,none⟩=some (.int .i64 W2)/\wy.cell? ⟨b,o+x1*2+1,none⟩=some (.slice (some ⟨D,H,none⟩) L2 Z):=λwy hy=>
      ⟨(World.cell?_of_block (w:=r) (hy.block b a4.o (by simp))).trans bw,(World.cell?_of_block (w:=r) (hy.block b a4.o (by simp))).trans bx,(World.cell?_of_block (w:=r) (hy.block b a4.o (by simp))).trans bz,(World.cell?_of_block (w:=r) (hy.block b a4.o (by simp))).trans bA⟩
     have bn:=gd bQ;obtain⟨dv,dw,dx,dy⟩:=bQ wr y.o;clear bQ bw bx bz bA;have c1:gh (gE (wr.alloc (.cells #[] 3)).drew 3 (.slice (some ⟨wr.heap.size,0,none⟩) 0 0) [wr.heap.size] []):=gd (gE.drew (gv.made wr 3 [] (by simp[maxLen])).S);have dI:(0:Int)<=(x:Int):=(by omega);have M:(x:Int)<(m:Int):=(by have:=u.o;omega);have fa:(0:Int)<=(x1:Int):=(by omega);have dJ:(x1:Int)<(m:Int):=(by have:=u.o;omega);clear cE cF aD cL ao O a1 bW dS dT cr cs ct cu cw cC cD dE ap cO bg ar;go_wp2_with fail
     go_region_held3 (λw'=>w'.cell? ⟨b,o+x*2,none⟩=some (.int .i64 W1)/\w'.cell? ⟨b,o+x*2+1,none⟩=some (.slice (some ⟨b1,o1,none⟩) L1 cm)/\w'.cell? ⟨b,o+x1*2,none⟩=some (.int .i64 W2)/\w'.cell? ⟨b,o+x1*2+1,none⟩=some (.slice (some ⟨D,H,none⟩) L2 Z))
      (first|(go_keep;done)|exact bn.o _ bF|exact bn.o _ (y.o.tq aJ)|exact bn.o _ (y.o.tq aP))
      (first
       | (refine tL (by rfl) (by rfl) o7 (by rfl) (by decide) (by rfl) (bo.o.Y (aJ.alloc _)) [.int .i64 W3,.slice g4 (El.pack E1 E2).syms.length dt] (by rfl) (by rfl) (new2 _ _ _ _) (tw ax) (by omega) (by omega) ?_;intro g5 du w5 cJ bb;have bF:gf [] r w5 := bb.fresh X.o (y.o.tq (aJ.alloc _));have cA := bb.freshF X.o (y.o.tq (aJ.alloc _)))
       | (refine nQ (by rfl) (by rfl) iJ (by rfl) (by rfl) aW (E2.syms.map i64) L2 (by rfl) bi.o.1 (db.o.Y (y.o.tq aP)) (Ea _) (by have := bi.o.2;omega) (by have := bi.o.2;omega) ?_;intro v4 F4 w4 aK ba;have aJ:gf [] wr w4 := ba.fresh bL aP;have cz := ba.freshF bL aP;obtain⟨g4,dt,rfl,cq,b6⟩ := MN aK dr.o;have ax := (b6 [] (by simp)).one)
       | (refine nQ (by rfl) (by rfl) iJ (by rfl) (by rfl) c1.o (E1.syms.map i64) L1 (by rfl) bh.o.1 (da.o.Y ((y.o.alloc _).drew)) (Ea _) (by have := bh.o.2;omega) (by have := bh.o.2;omega) ?_;intro v3 F3 w3 aW bN;have aP:gf [] wr w3 := bN.fresh (by simp) (((zR [] wr).alloc _).drew);have bL := bN.freshF (w := wr) (by simp) (((zR [] wr).alloc _).drew)))
     have df:gh (lh (λs=>∀b o m k,s=.slice (some ⟨b,o,none⟩) m k->b≠gl) w5 (.slice g5 (p+1) du) [g5] (gT (R.take (2*(p+1))))):=gd (by
      rw[dh.o];have ba:wr.heap.size<=g4:=cz g4 (by rw[cq];simp);refine zi di.o (λq hq=>⟨(a6.o q hq).1.Y (aJ.alloc _),(a6.o q hq).2⟩) ((b6 F λhm=>by have:=bm.o g4 hm;omega).Y ((zR [] w4).alloc _)) ?_ bb (by rw[<-dq.o];exact cJ) (by rw[cf.o]);intro b9 o9 m9 k9 a;injection a with a;injection a with a;injection a with a _ _;have h2:=(Y.o.tq y.o).size;omega)
     have⟨cW,c5⟩:=gy bF cA;clear aW bN aP bL aK ba aJ cz cq b6 ax cJ bb bF cA dv dw dx dy;go_wp2_with fail
     go_roundg kk
     .exact⟨p+1,x+2,[g5],by go_num,gd (by have:=u.o;omega),by omega,df,c5,cW⟩
     .omega
 .have dN:i<n:=by omega
  have bc:i<freq.length:=by rw[<-HN.o];exact dN
  obtain⟨g,o,rfl,ag⟩:=(hc.Y Q).at_ bc;have b4:=X.o freq[i] (zG bc);have cQ:freq[i]=freq.getD i 0:=by rw[zD,zF bc];rfl
  rw[cQ]at ag b4;have U:=vO freq i;have aL:∀e∈jn (iC freq i),e.wt<=4096:=λe a=>by
   obtain⟨s,V,_,rfl⟩:=qh ((pJ _).mem_iff.1 a);show freq.getD s 0<=4096;rw[zD]
   cases hx:freq[s]? with
   | none=>exact zero_le _
   | some x=>exact X.o x (mem_of_getElem? hx)
  have⟨f,cB⟩:=zX (freq.getD i 0);rw[<-cB]at ag b4 U;have bH:wr.cell? ⟨g,o+i,none⟩=some (.int .i64 f):=ag;have dF:(0:Int)<=(i:Int):=by omega
  have dG:(i:Int)<(n:Int):=by omega
  have t3:=gL f 0 (by omega);have t4:=gL 1099511627776 f (by omega);have fm:decide (1099511627776<f)=false:=zA (by omega);have⟨c7,cc⟩:=gy hF Q;clear ag cB cQ bc hF Q;by_cases hf0:0<f
  .rw[if_pos hf0]at U
   have fo:decide (0<f)=true:=zB hf0;have⟨w1,aq⟩:=zX (wr.alloc (.cells #[i] 3));have M:=jD aq;have bV:=Lv (λ_=>True) w1 W c6 (jn (iC freq i)) (.coin i f) (.slice (some ⟨wr.heap.size,0,none⟩) 1 1) (B.Y M) (by rw[K];exact al) bI (pD _) (by rw[aq];exact js.coin wr i f) trivial (by rw[K];omega) aL b4;rw[Kf,<-U,K]at bV;have aZ:Calls prog 166 #[.slice W (iC freq i).length c6,.agg #[.int .i64 f,.slice (some ⟨wr.heap.size,0,none⟩) 1 1]] w1 _:=bV;have⟨bu,dj,cb⟩:=gS aq aZ (cc.o.tq M);clear U aL B aq M bV aZ I K hf0;go_wp2_with fail;rw[<-bu.o];refine dj.o.mono ?_;rintro e w2 ⟨v2,F2,rfl,cI,ck,co⟩;have⟨de,y⟩:=gy cI (cb.o.tq ck);have c4:gh (∀x∈F2,w.heap.size<=x):=gd λx hx=>Nat.le_trans cb.o.size (co x hx);clear cI ck co;go_wp2_with fail
   go_roundg j
   .exact⟨i+1,F2,by go_num,by omega,de,c4.o,y.o⟩
   .omega
  .rw[if_neg hf0,append_nil]at U
   obtain rfl:f=0:=by omega
   have⟨dp,cZ⟩:=gy U K;clear U aL B K hf0;go_wp2_with fail
   go_roundg j
   .exact⟨i+1,F,by go_num,by omega,by have h:=I.o;rw[cZ.o]at h;rw[dp.o];exact gd h,c7.o,cc.o⟩
   .omega
end Go.Proofs.YtnepiccbpokmiaaGreatDoor
