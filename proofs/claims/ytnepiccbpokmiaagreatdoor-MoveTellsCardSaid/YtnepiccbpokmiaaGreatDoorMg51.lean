/- Lemmas. -/
import Derived.Test.YtnepiccbpokmiaaGreatDoorMg50
import Derived.Test.YtnepiccbpokmiaaGreatDoorMg49
set_option linter.all false
set_option maxHeartbeats 8000000
set_option maxRecDepth 100000
namespace Go.Proofs.YtnepiccbpokmiaaGreatDoor
open Tryz List Nat Go.RowKit
variable {er er' x y:Int}{ds ds':List Nat}{g g' o o':Nat}{w' w1:World}
def nL(p q:gH)(ms:List (Int × Int)):Prop:=ms.length=(gZ q.W q.H 8).length/\∀i,i<ms.length->iB p.W p.H (gC (gZ q.W q.H 8) i) (ms.getD i (0,0))
def tx(w:World)(p q:gH)(ms:List (Int × Int))(e:Ending)(w':World):Prop:=
 (nL p q ms/\∃v G9,e=.returned (.tuple #[v,(0:Int)])/\gE w' 5 v G9 ((jy p q ms).map b8)/\gf [] w w'/\∀x∈G9,w.heap.size<=x)\/(¬nL p q ms/\e=.returned (.tuple #[.slice none 0 0,(6:Int)])/\gf [] w w')
theorem xF{w:World}{p q:gH}{B:Nat->Option Addr}{c:Nat->Nat}{G:List Nat}(cap:Nat)(h:gW w p g o B c G){B':Nat->Option Addr}{c':Nat->Nat}{G':List Nat}(cap':Nat)(h':gW w q g' o' B' c' G')(b:jv p q):Calls prog 17 #[gN p g o cap,gN q g' o' cap'] w λe w'=>e=.returned (.bool true)/\gf [] w w':=by
 have a:=sA cap h.raw cap' h'.raw;rw[Eg h.ok h'.ok b]at a;exact a
theorem Fi{w:World}{p q:gH}{B:Nat->Option Addr}{c:Nat->Nat}{G:List Nat}(cap:Nat)(h:gW w p g o B c G){B':Nat->Option Addr}{c':Nat->Nat}{G':List Nat}(cap':Nat)(h':gW w q g' o' B' c' G')(l:jv p q)(AM:Option Addr)(capM:Nat)(ms:List (Int × Int))(hM:gu (λv=>v) w AM (ms.flatMap lu))(hin:∀i,(-9223372036854775808<=(ms.getD i (0,0)).1/\(ms.getD i (0,0)).1<=9223372036854775807)/\-9223372036854775808<=(ms.getD i (0,0)).2/\(ms.getD i (0,0)).2<=9223372036854775807):Calls prog 19 #[gN p g o cap,gN q g' o' cap',.slice AM ms.length capM] w (tx w p q ms):=by
 have aO:=h.ok;have t:=h'.ok;have V:=λw' (hc:gf [] w w')=>xF cap (h.Y hc) cap' (h'.Y hc) l;have bc:=λw'=>uo t g' o' cap' w';have⟨ss,aX⟩:=zX (gZ q.W q.H 8);have aW:∀s∈ss,1<=s.w/\s.w<=8/\1<=s.h/\s.h<=8:=by rw[aX];exact pQ (by decide)
 have aP:∀s∈ss,lT p.W p.H s:=λs hs=>by
  rw[aX]at hs;obtain⟨a,b⟩:=o3 (by decide) s hs;exact⟨by rw[l.W];exact a,by rw[l.H];exact b⟩
 have fF:ss.length<=4096:=by rw[aX];exact ox t.w1 t.h1
 rw[<-aX]at bc;have⟨n,hn⟩:=zX ss.length;have ds:=r7 p q (ss:=ss) ms aW t.d0 t.d1 t.n1;have fW:0<n:=by
  rcases eq_zero_or_pos n with h0|h0
  .exfalso
   have S:=sE (w:=q.W) (h:=q.H) (s:=8) (by decide);rw[<-aX,eq_nil_of_length_eq_zero (show ss.length=0 by omega)]at S;have h2:=t.pos;simp[area]at S;omega
  .exact h0
 have bo:nL p q ms ↔ ms.length=n/\∀i,i<ms.length->iB p.W p.H (gC ss i) (ms.getD i (0,0)):=by unfold nL;rw[<-aX,hn]
 have aD:jy p q ms=iE (kT (iD p q ss ms n))++iK (lE (iE (kT (iD p q ss ms n))++iK (kw p))):=by rw[hn,aX];rfl
 have⟨a7,aj⟩:=zX (tx w p q ms);have bO:∀w',¬(ms.length=n/\∀i,i<ms.length->iB p.W p.H (gC ss i) (ms.getD i (0,0)))->gf [] w w'->a7 (.returned (.tuple #[.slice none 0 0,(6:Int)])) w':=λw' S h2=>by
  rw[aj];exact .inr ⟨λh=>S (bo.1 h),rfl,h2⟩
 have aU:∀w' v G9,ms.length=n->(∀i,i<ms.length->iB p.W p.H (gC ss i) (ms.getD i (0,0)))->gE w' 5 v G9 ((jy p q ms).map b8)->gf [] w w'->(∀x∈G9,w.heap.size<=x)->a7 (.returned (.tuple #[v,(0:Int)])) w':=λw' v G9 S h2 h3 h4 h5=>by
  rw[aj];exact .inl ⟨bo.2 ⟨S,h2⟩,v,G9,rfl,h3,h4,h5⟩
 rw[<-aj];have dC:0<ms.length->∃gm om,AM=some ⟨gm,om,none⟩/\gm<w.heap.size/\∀w',gf [] w w'->∀i,i<ms.length->w'.cell? ⟨gm,om+i*2,none⟩=some (.int .i64 (ms.getD i (0,0)).1)/\w'.cell? ⟨gm,om+i*2+1,none⟩=some (.int .i64 (ms.getD i (0,0)).2):=λh0=>by
  obtain⟨gm,om,e,bY,dn⟩:=hM.ex (by rw[tB];omega);refine⟨gm,om,e,bY,λw' hc i hi=>?_⟩;obtain⟨a,b⟩:=sk ms i hi;exact⟨(World.cell?_of_block (w:=w) (hc.block gm bY (by simp))).trans (dn _ _ a),(World.cell?_of_block (w:=w) (hc.block gm bY (by simp))).trans (by have:=dn _ _ b;rwa [<-Nat.add_assoc]at this)⟩
 have Y:∀w' i,i<n->_:=λw' i hi=>by
  have u:=aW _ (jK (i:=i) (ss:=ss) (by omega));have bZ:=aP _ (jK (i:=i) (ss:=ss) (by omega));have ci:=hin i
  have:=bZ.x
  have:=bZ.y
  have:=aO.w1
  have:=aO.h1
  exact Ey q.W q.H q.d q.P.length g' o' cap' (gC ss i) (ms.getD i (0,0)) w' t.w1 t.h1 (by omega) (by omega) (by omega) (by omega) ci.1.1 ci.1.2 ci.2.1 ci.2.2
 have J:∀w',gf [] w w'->∀i,i<n->iB p.W p.H (gC ss i) (ms.getD i (0,0))->_:=λw' hc i hi Z=>
  have u:=aW _ (jK (i:=i) (ss:=ss) (by omega))
  Dk cap (h.Y hc) cap' (h'.Y hc) l (gC ss i) (ms.getD i (0,0)) (aP _ (jK (by omega))) Z.fit u.1 u.2.2.1
 have b7:∀i s,jb (q.P.getD i []) p.W s.x s.y s.w s.h=gV q i s (0,0):=λi s=>by
  unfold gV;rw[l.W];simp
 have Q:∀w',gf [] w w'->∀i,i<n->iB p.W p.H (gC ss i) (ms.getD i (0,0))->∀k,k<q.P.length->Calls prog 44 #[.slice (B k) (p.W*p.H) (c k),.slice (B' k) (p.W*p.H) (c' k),p.W,iV (gC ss i),.int .i64 (ms.getD i (0,0)).1,.int .i64 (ms.getD i (0,0)).2] w' λe w2=>∃g c,e=.returned (.slice (some ⟨g,0,none⟩) ((gC ss i).h*(gC ss i).w) c)/\gv w2 3 (.slice (some ⟨g,0,none⟩) ((gC ss i).h*(gC ss i).w) c) g ((kg (gV q k (gC ss i) (0,0)) (gV p k (gC ss i) (ms.getD i (0,0)))).map vi)/\gf [] w' w2/\w'.heap.size<=g:=λw' hc i hi Z k f=>by
  have u:=aW _ (jK (i:=i) (ss:=ss) (by omega));have S:=EA w' (B k) (B' k) (c k) (c' k) (p.P.getD k []) (q.P.getD k []) p.W p.H p.d (gC ss i) (ms.getD i (0,0)) (h.len (by rw[l.n];exact f)) (by rw[l.W,l.H];exact h'.len f) aO.w1 aO.h1 (aP _ (jK (by omega))) Z.fit u.1 u.2.2.1 aO.d1 (aO.smp _ (mM (by rw[l.n];exact f))) (by rw[l.d];exact h'.ok.smp _ (mM f)) ((h.Y hc).cells k (by rw[l.n];exact f)) ((h'.Y hc).cells k f);have e1:(p.P.getD k []).length=p.W*p.H:=h.len (by rw[l.n];exact f);have e2:(q.P.getD k []).length=p.W*p.H:=by rw[l.W,l.H];exact h'.len f
  rw[e1,e2,b7]at S;exact S
 have bf:∀w',gf [] w w'->∀k,k<q.P.length->w'.cell? ⟨g,o+k,none⟩=some (.slice (B k) (p.W*p.H) (c k))/\w'.cell? ⟨g',o'+k,none⟩=some (.slice (B' k) (p.W*p.H) (c' k)):=λw' hc k f=>⟨(h.Y hc).X k (by rw[l.n];exact f),by rw[l.W,l.H];exact(h'.Y hc).X k f⟩;have cg:∀w',gf [] w w'->_:=λw' hc=>MV cap (h.Y hc);have bb:∀i,iT p q (gC ss i) (ms.getD i (0,0))=0 ↔ p9 p q (gC ss i) (ms.getD i (0,0))=true:=λi=>IU aO t l _ _;have aB:∀v w',_:=λv w'=>uE v q.d w' t.d0 t.d1;have W:∀i k,iM p q k (gC ss i) (ms.getD i (0,0))=(kg (gV q k (gC ss i) (0,0)) (gV p k (gC ss i) (ms.getD i (0,0)))).map λv=>iw v q.d:=λi k=>Km _ _ _;have aE:∀i k,(kg (gV q k (gC ss i) (0,0)) (gV p k (gC ss i) (ms.getD i (0,0)))).length=(gC ss i).h*(gC ss i).w:=λi k=>by rw[qw (by rw[ka,ka]),ka]
 have aF:∀(w':World) (A:Option Addr) (i k:Nat),i<n->gu vi w' A (iM p q k (gC ss i) (ms.getD i (0,0)))->ir w' (iM p q k (gC ss i) (ms.getD i (0,0))) A (gC ss i).w (gC ss i).h q.d:=λw' A i k hi hc=>by
  have u:=aW _ (jK (i:=i) (ss:=ss) (by omega));exact⟨u.1,by omega,u.2.2.1,by omega,t.d0,t.d1,q7 _ _ _ _ _,uu _ _ _,hc⟩
 have cb:∀i,i<n->(gC ss i).h*(gC ss i).w<=64:=λi hi=>by
  have u:=aW _ (jK (i:=i) (ss:=ss) (by omega));exact zL u.2.2.2 u.2.1
 have aM:∀i,i<n->∀k,(jq p q (gC ss i) (ms.getD i (0,0)) k).length<=200000*k:=λi hi k=>by
  have u:=aW _ (jK (i:=i) (ss:=ss) (by omega));exact tK p q _ u.1 u.2.2.1 u.2.1 u.2.2.2 t.d0 t.d1 k
 have H:∀i,kA p q (gC ss i) (ms.getD i (0,0))=if p9 p q (gC ss i) (ms.getD i (0,0))=true then(if ms.getD i (0,0)=(0,0)then gA 0 2 else gA 1 2++kC (ms.getD i (0,0)))else gA 2 2++(kC (ms.getD i (0,0))++jq p q (gC ss i) (ms.getD i (0,0)) q.P.length):=λi=>rfl;have cU:q.d<=16:=t.d1;have cZ:q.P.length<=4:=t.n1;unfold gN at V bc J cg⊢;unfold iV at Y J Q;rw[<-l.W,<-l.H]at V bc Y J⊢;have⟨nP,cj⟩:=zX q.P.length;have⟨d,hd⟩:=zX q.d;rw[<-cj]at V bc Y J Q bf H cZ⊢;rw[<-hd]at V bc Y J aB W aF cU⊢;have c2:p.P.length=nP:=by rw[cj];exact l.n
 rw[c2]at V J cg⊢;have⟨w1,br⟩:=zX (((w.alloc (.cells #[p.W,p.H,p.d,.slice (some ⟨g,o,none⟩) nP cap] 25)).alloc (.cells #[p.W,p.H,d,.slice (some ⟨g',o',none⟩) nP cap'] 25)));have cQ:gn w1 w.heap.size 25 #[p.W,p.H,p.d,.slice (some ⟨g,o,none⟩) nP cap]:=by rw[br];exact(gn.new w _ _).alloc _
 have dr:gn w1 (w.heap.size+1) 25 #[p.W,p.H,d,.slice (some ⟨g',o',none⟩) nP cap']:=by rw[br];exact gn.new2 w _ _ _
 have dl:gf [] w w1:=by rw[br];exact((zR [] w).alloc _).alloc _
 have fL:w1.heap.size=w.heap.size+1+1:=by rw[br,iO,iO]
 have bR:∀(E:List Nat) wz,(∀x∈E,w1.heap.size<=x)->gf E w1 wz->(wz.cell? ⟨w.heap.size,0,none⟩=some (.int .i64 p.W)/\wz.cell? ⟨w.heap.size,1,none⟩=some (.int .i64 p.H)/\wz.cell? ⟨w.heap.size,2,none⟩=some (.int .i64 p.d)/\wz.cell? ⟨w.heap.size,3,none⟩=some (.slice (some ⟨g,o,none⟩) nP cap)) /\
   (wz.cell? ⟨w.heap.size+1,0,none⟩=some (.int .i64 p.W)/\wz.cell? ⟨w.heap.size+1,1,none⟩=some (.int .i64 p.H)/\wz.cell? ⟨w.heap.size+1,2,none⟩=some (.int .i64 d)/\wz.cell? ⟨w.heap.size+1,3,none⟩=some (.slice (some ⟨g',o',none⟩) nP cap')):=λE wz hE hz=>by
  have e1:w.heap.size∉E:=λhm=>by have:=hE _ hm;omega
  have e2:w.heap.size+1∉E:=λhm=>by have:=hE _ hm;omega
  have k1:=cQ.Z hz e1;have k2:=dr.Z hz e2;exact⟨⟨k1.X 0,k1.X 1,k1.X 2,k1.X 3⟩,⟨k2.X 0,k2.X 1,k2.X 2,k2.X 3⟩⟩
 have⟨aH,bk,fl,dO⟩:=gz bR dl br V;have⟨d6,d9,d8,dU⟩:=gz bc dC Y J;have⟨fg,bI,d2,dY⟩:=gz Q bf cg bb;have⟨fp,dZ,fj,fk⟩:=gz aB W aE aF;have⟨fd,dT,dQ,de⟩:=gz cb aM H ds;have⟨dR,bu,bF,HN⟩:=gz aD bO aU hn;have⟨fO,HD⟩:=gy cj hd;have fG:n<=4096:=by omega
 have fH:=rg aO;clear bR dl br fL V bc dC Y J b7 Q bf cg bb aB W aE aF cb aM H ds aD bO aU hn cj hd cQ dr hM hin aO t h h' l aW aP aX bo aj fF fH;have⟨mN,cY⟩:=zX ms.length;rw[<-cY];have bG:=gd cY;clear cY;go_enter func19,ntmps19;go_wp2_with fail;rw[<-fl.o];refine(dO.o w1 bk.o).mono ?_;rintro e w2 ⟨rfl,cP⟩;obtain⟨⟨K,N,O,P⟩,⟨R,b1,b2,b3⟩⟩:=aH.o [] w2 (by simp) cP;have cv:=gd cP;clear cP;go_wp2_with fail;refine(d6.o w2).mono ?_;rintro e U ⟨v8,F8,rfl,dI,bm,fy⟩;obtain⟨A8,c8,rfl,fu,fv,du,-⟩:=ic.open_ dI;have⟨ac,dS⟩:=gy (cv.o.tq bm) du;rw[<-HN.o];clear dI bm fy du K N O P R b1 b2 b3 fu fv;by_cases hcount:mN=n
 .have fA:=hcount.symm
  subst fA;clear hcount;have t0:((n:Int) != (n:Int))=false:=by simp
  have⟨w4,ck⟩:=zX (U.alloc (.cells #[.slice none 0 0] 69));have⟨b,hb⟩:=zX U.heap.size;have fa:gh (hO w4 b [b] []):=gd (by rw[ck,hb];exact hO.new U);have dg:gh (gf [] U w4):=gd (by rw[ck];exact(zR [] U).alloc _);have dd:gh (U.heap.size<=b):=gd (by rw[hb];exact zQ _);have⟨fm,HB⟩:=gy ck hb;have dj:gh (w1.heap.size<=U.heap.size/\w.heap.size<=w1.heap.size):=gd ⟨ac.o.size,bk.o.size⟩;clear ck hb;go_wp2_with fail;rw[<-fm.o,<-HB.o]
  go_loopg [10,11,12,13,14,15,16,32] n (λj v10 v11 v12 v13 v14 v15 v16 v32 wr=>∃(i:Nat) (F:List Nat),v32=.int .i64 i/\i+j=n/\gh (hO wr b F (iD p q ss ms i))/\gh (gB [b] F w4 wr)/\gh (∀k,k<i->iB p.W p.H (gC ss k) (ms.getD k (0,0))))
  .exact⟨0,[b],rfl,by omega,gd (by simpa[iD]using fa.o),gd (gB.refl _ _),gd (λk f=>by omega)⟩
  obtain⟨i,F,rfl,fU,HQ,HG,dh⟩:=hrel;have dv:gf [] U wr:=dg.o.trans HG.o.Z (λx hx=>.inr (by simp at hx;have:=dd.o;omega));have dm:∀x∈F,U.heap.size<=x:=λx hx=>by
   rcases HG.o.new x hx with h|h
   .simp at h;have:=dd.o;omega
   .have:=dg.o.size;omega
  have⟨bx,cA⟩:=gy dv dm;clear dv dm;rcases gk with _|j
  .obtain rfl:i=n:=by omega
   have t1:decide (i<i)=false:=(by simp);have aK:∀k,k<ms.length->iB p.W p.H (gC ss k) (ms.getD k (0,0)):=λk f=>dh.o k (by rw[bG.o];exact f);have cn:=gd aK;have aL:=de.o i (by rw[<-HN.o];exact zQ _);have V:=JL wr b F _ HQ.o (by omega);have⟨T,hT⟩:=zX (kT (iD p q ss ms i));have dp:T.length<=4000000000:=by
    have:=rj (iD p q ss ms i)
    rw[hT];omega
   have aD:=dR.o;rw[<-hT]at V aD;have⟨bM,cp⟩:=gy dp aD;clear hT aD aL dp aK;go_wp2_with fail;refine V.mono ?_;rintro e w5 ⟨rfl,F5,bq,dy⟩;have ba:gf [] U w5:=bx.o.trans dy.Z (λx hx=>.inr (cA.o x hx));have da:gf [] w w5:=(bk.o.tq ac.o).tq ba;have⟨aJ,ae⟩:=zX (iE T);have⟨nb,b5⟩:=zX aJ.length;have b6:nb<=1000000000:=(by rw[b5,ae,mL];have:=bM.o;omega);have bP:=bq.bit;have bT:∀x∈aJ,x<256:=(by rw[ae];exact uh bP);have aD:=cp.o;rw[<-ae]at aD
   have bo:∀wz,gf [] w5 wz->Calls prog 48 #[.pointer b] wz λe w'=>∃A6 c6,e=.returned (.slice A6 nb c6)/\gu b8 w' A6 aJ/\gf [] wz w':=λwz hz=>
    (JM wz b F5 T (bq.Y hz) (by have:=bM.o;omega)).mono λe w' hh=>by
     obtain⟨v6,G6,he,cc,aC,fS⟩:=hh;rw[<-ae]at cc;obtain⟨A6,c6,rfl,fQ,fR,a9⟩:=cc.oq;exact⟨A6,c6,by rw[he,b5],a9,aC⟩
   have bW:∀wz,gf [] w5 wz->Calls prog 49 #[.agg #[.int .i64 p.W,.int .i64 p.H,.int .i64 p.d,.slice (some ⟨g,o,none⟩) nP cap]] wz λe w'=>∃A7 c7,e=.returned (.slice A7 4 c7)/\gu b8 w' A7 (iK (kw p))/\gf [] wz w':=λwz hz=>
    (d2.o wz (da.tq hz)).mono λe w' hh=>by
     obtain⟨g7,c7,he,db,bn,aN⟩:=hh;exact⟨_,c7,he,db.S.cells,bn⟩
   have dH:∀wz A c A' c',gf [] w5 wz->gu b8 wz A aJ->gu b8 wz A' (iK (kw p))->Calls prog 47 #[.slice A nb c,.slice A' 4 c'] wz λe w'=>∃v,e=.returned v/\a7 (.returned (.tuple #[v,(0:Int)])) w'/\gf [] wz w':=λwz A c A' c' hz S h2=>by
    have h3:=JI (cap:=c) (cap':=c') S h2 (λx hx=>by
     rcases zP.1 hx with h|h
     .exact bT x h
     .exact yR _ x h) (by rw[<-b5];exact b6) (by show 4<=1000000000;decide)
    rw[<-b5]at h3;refine h3.mono λe w' hh=>?_;obtain⟨v,G,he,own,ch,hG⟩:=hh;have dL:=da.tq hz;exact⟨v,he,bF.o w' v G bG.o.symm cn.o (by rw[aD];exact own) (dL.tq ch) (λx hx=>Nat.le_trans dL.size (hG x hx)),ch⟩
   have⟨df,bD,fi⟩:=gS bo bW dH;have cq:gh (∀wz,gf [] w5 wz->wz.cell? ⟨w.heap.size,0,none⟩=some (.int .i64 p.W)/\wz.cell? ⟨w.heap.size,1,none⟩=some (.int .i64 p.H)/\wz.cell? ⟨w.heap.size,2,none⟩=some (.int .i64 p.d)/\wz.cell? ⟨w.heap.size,3,none⟩=some (.slice (some ⟨g,o,none⟩) nP cap)):=gd λwz hz=>(aH.o [] wz (by simp) ((ac.o.tq ba).tq hz)).1;obtain⟨K,N,O,P⟩:=cq.o w5 (zR _ _);clear V bq dy ba da ae b5 b6 bP bT aD bo bW dH;go_wp2_with fail
   go_region_held3 (λw'=>w'.cell? ⟨w.heap.size,0,none⟩=some (.int .i64 p.W)/\w'.cell? ⟨w.heap.size,1,none⟩=some (.int .i64 p.H)/\w'.cell? ⟨w.heap.size,2,none⟩=some (.int .i64 p.d)/\w'.cell? ⟨w.heap.size,3,none⟩=some (.slice (some ⟨g,o,none⟩) nP cap))
    (first|(go_keep;done)|exact cq.o _ f|exact cq.o _ dA)
    (first
     | (go_at_call 48;refine(df.o _ cX).mono ?_;rintro e w6 ⟨A6,c6,rfl,a9,aC⟩;have f:gf [] w5 w6 := cX.tq aC;have cW := f;have bS := bS.Y aC)
     | (go_at_call 48;refine(df.o _ ((zR [] w5).drew)).mono ?_;rintro e w6 ⟨A6,c6,rfl,a9,aC⟩;have f:gf [] w5 w6 := ((zR [] w5).drew).tq aC;have cW := f)
     | (go_at_call 49;refine(bD.o _ cW).mono ?_;rintro e w7 ⟨A7,c7,rfl,bS,bn⟩;have f:gf [] w5 w7 := cW.tq bn;have cX := f;have a9 := a9.Y bn)
     | (go_at_call 49;refine(bD.o _ ((zR [] w5).drew)).mono ?_;rintro e w7 ⟨A7,c7,rfl,bS,bn⟩;have f:gf [] w5 w7 := ((zR [] w5).drew).tq bn;have cX := f)
     | (go_at_call 47;refine(fi.o _ _ _ _ _ f a9 bS).mono ?_;rintro e w9 ⟨v9,rfl,ca,dk⟩;have dA := f.tq dk))
   all_goals
    have bJ:=gd ca;clear ca f a9 bS dA dk;go_wp2;exact bJ.o
  .have hi:i<n:=by omega
   have fT:(0:Int)<=(i:Int):=(by omega);have cQ:(i:Int)<(n:Int):=(by omega);have fC:i<ss.length:=(by rw[<-HN.o];exact hi);obtain⟨g8,o8,fw,x0,x1,x2,x3⟩:=oE (dS.o.Y bx.o) fC;subst fw;have Y:=λwz=>d8.o wz i hi;have J:=λwz hc=>dU.o wz hc i hi;have Q:=λwz hc=>fg.o wz hc i hi;have bb:=dY.o i;have W:=dZ.o i;have aE:=fj.o i;have aF:=λwz A k=>fk.o wz A i k hi;have cb:=fd.o i hi;have aM:=dT.o i hi;have H:=dQ.o i;have aQ:=qg p q ss ms i;have aL:=de.o i (by omega);have be:iB p.W p.H (gC ss i) (ms.getD i (0,0))->∀k,k<i+1->iB p.W p.H (gC ss k) (ms.getD k (0,0)):=λhm k f=>by
    by_cases e:k=i
    .rw[e];exact hm
    .exact dh.o k (by omega)
   have bd:¬iB p.W p.H (gC ss i) (ms.getD i (0,0))->¬(ms.length=n/\∀i,i<ms.length->iB p.W p.H (gC ss i) (ms.getD i (0,0))):=λhm aK=>hm (aK.2 i (by omega));have⟨m,hm⟩:=zX (ms.getD i (0,0));have⟨s,hs⟩:=zX (gC ss i);simp only[<-hm,<-hs]at Y J Q bb W aE aF cb aM H aQ be bd x0 x1 x2 x3;have⟨bs,cR⟩:=zX (iD p q ss ms i);rw[<-cR]at aQ aL;have fz:bs.length<=3300000000:=(by omega);have⟨z,hz⟩:=zX (m7 p.W p.H s m);have⟨C,hC⟩:=zX (iT p q s m);simp only[<-hz]at Y;simp only[<-hC]at J bb;have fs:gh (z=true->iB p.W p.H s m):=gd λh=>(oD p.W p.H s m).1 (by rw[<-hz,h]);have fq:gh (z=false->¬iB p.W p.H s m):=gd λh h2=>by
    have:=(oD p.W p.H s m).2 h2
    rw[<-hz,h]at this;cases this
   clear hz hC;have⟨cC,cw,cI,bB⟩:=gz Y J Q bb;have⟨cy,cM,cN,ct⟩:=gz W aE aF aM;have⟨bv,a4,cE,cD⟩:=gz H aQ be bd;have di:gh (hO wr b F bs):=gd (by rw[cR];exact HQ.o);clear Y J Q bb W aE aF aM H aQ aL be bd cR hs;have cx:=gd ((bk.o.tq ac.o).tq bx.o);obtain⟨gm,om,fx,bY,b4⟩:=d9.o (by rw[<-bG.o];omega);obtain⟨m0,m1⟩:=b4 (wr.alloc (.cells #[.int .i64 s.x,.int .i64 s.y,.int .i64 s.w,.int .i64 s.h] 49)) (cx.o.alloc _) i (by rw[<-bG.o];exact hi);rw[<-hm]at m0 m1;clear hm;obtain⟨⟨K,N,O,P⟩,⟨R,b1,b2,b3⟩⟩:=aH.o [] wr (by simp) (ac.o.tq bx.o);have⟨sb,c4⟩:=zX wr.heap.size;have fo:gh (∀nq,gf [] wr ((wr.alloc (.cells #[.int .i64 s.x,.int .i64 s.y,.int .i64 s.w,.int .i64 s.h] 49)).drewN nq)):=gd λnq=>((zR [] wr).alloc _).drewN nq;have fh:gh (∀nq,gn ((wr.alloc (.cells #[.int .i64 s.x,.int .i64 s.y,.int .i64 s.w,.int .i64 s.h] 49)).drewN nq) sb 49 #[.int .i64 s.x,.int .i64 s.y,.int .i64 s.w,.int .i64 s.h]):=gd λnq=>by rw[c4];exact(gn.new wr _ _).drewN nq
   have bL:=gd c4;subst fx;clear c4 bY b4;go_wp2_with fail
   go_quiet (fail)
   rw[<-bL.o];have aA:=fo.o nq;have bh:=fh.o nq;have⟨wd,dJ⟩:=zX ((wr.alloc (.cells #[.int .i64 s.x,.int .i64 s.y,.int .i64 s.w,.int .i64 s.h] 49)).drewN nq);rw[<-dJ]at aA bh⊢;have dF:=di.o.Y aA;have cS:gf [] U wd:=bx.o.tq aA
   have aw:∀wz,gf F wd wz->((wz.cell? ⟨w.heap.size,0,none⟩=some (.int .i64 p.W)/\wz.cell? ⟨w.heap.size,1,none⟩=some (.int .i64 p.H)/\wz.cell? ⟨w.heap.size,2,none⟩=some (.int .i64 p.d)/\wz.cell? ⟨w.heap.size,3,none⟩=some (.slice (some ⟨g,o,none⟩) nP cap)) /\
     (wz.cell? ⟨w.heap.size+1,0,none⟩=some (.int .i64 p.W)/\wz.cell? ⟨w.heap.size+1,1,none⟩=some (.int .i64 p.H)/\wz.cell? ⟨w.heap.size+1,2,none⟩=some (.int .i64 d)/\wz.cell? ⟨w.heap.size+1,3,none⟩=some (.slice (some ⟨g',o',none⟩) nP cap'))) /\
     (wz.cell? sb=some (.int .i64 s.x)/\wz.cell? ⟨sb,1,none⟩=some (.int .i64 s.y)/\wz.cell? ⟨sb,2,none⟩=some (.int .i64 s.w)/\wz.cell? ⟨sb,3,none⟩=some (.int .i64 s.h)):=λwz hz=>by
    have fI:sb∉F:=λhm=>by have S:=di.o.lt sb hm;have h2:=bL.o;omega
    have k3:=bh.Z hz fI;exact⟨aH.o F wz (λx hx=>by have:=cA.o x hx;have:=dj.o;omega) (((gf.mono (ac.o) (by simp)).trans (gf.mono cS (by simp)) (λx hx=>.inl hx)).trans hz (λx hx=>.inl hx)),k3.X 0,k3.X 1,k3.X 2,k3.X 3⟩
   have dw:∀wz,gf F wd wz->gf [] w wz:=λwz hz=>((bk.o.tq ac.o).tq cS).trans hz (λx hx=>.inr (by have:=cA.o x hx;have:=dj.o;omega));have⟨ai,bA,fe,a6⟩:=gz aw dw dF aA;obtain⟨⟨⟨K,N,O,P⟩,⟨R,b1,b2,b3⟩⟩,s0,s1,s2,s3⟩:=aw wd (zR _ _);clear aA bh dJ dF cS aw dw m0 m1 x0 x1 x2 x3;go_wp2_with fail;refine(cC.o wd).mono ?_;rintro e w5 ⟨rfl,bN⟩;have cr:gh (gf F wd w5):=gd (bN.mono (by simp))
   cases z with
   | false=>
    have bJ:=gd (bu.o w5 (cD.o (fq.o rfl)) (bA.o w5 cr.o));clear bN;go_wp2;exact bJ.o
   | true=>
    have Z:=fs.o rfl;have bH:=gd Z;have dB:=And.intro Z.1 (And.intro Z.2.1 (And.intro Z.2.2.1 Z.2.2.2.1));have⟨aR,ao⟩:=gy dB (cE.o Z);obtain⟨⟨⟨K,N,O,P⟩,⟨R,b1,b2,b3⟩⟩,s0,s1,s2,s3⟩:=ai.o w5 cr.o;have bq:=fe.o.Y bN;have⟨fb,d4⟩:=gy bq bN;clear bN Z dB bq;go_wp2_with fail;refine(cw.o w5 (bA.o w5 cr.o) bH.o).mono ?_;rintro e w6 ⟨rfl,aC⟩;have cs:gh (gf [] wd w6):=gd (d4.o.tq aC);have cF:=gd (fb.o.Y aC);clear aC K N O P R b1 b2 b3 s0 s1 s2 s3;by_cases c0:C=0
    .have ag:=bB.o.1 c0
     have H:=bv.o;rw[if_pos ag]at H;have t2:((C:Int)==0)=true:=(by simp[c0]);have aG:=gd H;clear ag H c0;by_cases c1:m.1=0/\m.2=0
     .have dN:(m.1==0)=true:=by simpa using c1.1
      have fM:(m.2==0)=true:=(by simpa using c1.2);have a8:=aG.o;rw[if_pos (Prod.ext c1.1 c1.2)]at a8;have I:=jh w6 b F bs 0 2 cF.o (by decide) (by decide) (by omega);rw[<-a8,<-a4.o]at I;have ap:=gd I;clear c1 a8 I;go_wp2_with fail;refine ap.o.mono ?_;rintro e w7 ⟨rfl,F7,aV,aN⟩;have fc:=gd aV;have bE:gh (gB [b] F7 w4 w7):=gd (HG.o.trans (gB.pre a6.o (gB.pre cs.o aN)));clear aV aN;go_wp2_with fail
      go_roundg j
      .exact⟨i+1,F7,by go_num,by omega,fc,bE,ao⟩
      .omega
     .have dc:(m.1==0)=false\/((m.1==0)=true/\(m.2==0)=false):=by
       by_cases q1:m.1=0
       .right
        exact⟨by simpa using q1,by simpa using λq2=>c1 ⟨q1,q2⟩⟩
       .left;simpa using q1
      have a8:=aG.o;rw[if_neg (λe=>c1 (by rw[e];exact⟨rfl,rfl⟩))]at a8;have I:=jh w6 b F bs 1 2 cF.o (by decide) (by decide) (by omega);have⟨ap,dP⟩:=gy I a8;clear c1 a8 I;rcases dc with dN|⟨dN,fM⟩
      all_goals
       go_wp2_with fail;refine ap.o.mono ?_;rintro e w7 ⟨rfl,F7,aV,aN⟩;have az:=Cr w7 b F7 _ m aV aR.o.1 aR.o.2.1 aR.o.2.2.1 aR.o.2.2.2 (by rw[zC,gJ];omega);have⟨a5,bE⟩:=gy az aN;clear aV aN az;go_wp2_with fail;refine a5.o.mono ?_;rintro e w8 ⟨rfl,bj,am,av⟩;have aZ:gh (hO w8 b bj (iD p q ss ms (i+1))):=gd (by
        rw[a4.o,dP.o,<-zH];exact am)
       have aY:gh (gB [b] bj w4 w8):=gd (HG.o.trans (gB.pre a6.o (gB.pre cs.o (bE.o.trans av))));clear am av;go_wp2_with fail
       go_roundg j
       .exact⟨i+1,bj,by go_num,by omega,aZ,aY,ao⟩
       .omega
    .have ag:¬p9 p q s m=true:=λh=>c0 (bB.o.2 h)
     have H:=bv.o;rw[if_neg ag]at H;have t2:((C:Int)==0)=false:=(by simp[c0]);have aG:=gd H;have I:=jh w6 b F bs 2 2 cF.o (by decide) (by decide) (by omega);have ap:=gd I;clear ag H c0 I;go_wp2_with fail;refine ap.o.mono ?_;rintro e w7 ⟨rfl,F7,aV,aN⟩;have az:=Cr w7 b F7 _ m aV aR.o.1 aR.o.2.1 aR.o.2.2.1 aR.o.2.2.2 (by rw[zC,gJ];omega);have⟨a5,bE⟩:=gy az aN;clear aV aN az;go_wp2_with fail;refine a5.o.mono ?_;rintro e w8 ⟨rfl,bj,am,av⟩;have⟨aq,ak⟩:=zX (bs++gA 2 2++kC m);have bQ:aq.length=bs.length+10:=(by rw[ak,zC,zC,gJ,qU]);have bV:iD p q ss ms (i+1)=aq++jq p q s m nP:=(by rw[a4.o,aG.o,ak,zH,zH]);rw[<-ak]at am;have⟨cz,co,aZ⟩:=gS bV bQ am;have aY:gh (gB F bj wd w8):=gd (gB.pre cs.o (bE.o.trans av));clear am av bV bQ ak;go_wp2_with fail
     go_loopg [14,15,16] nP (λj2 v14 v15 v16 wk=>∃(k:Nat) (Fk:List Nat),v14=.int .i64 k/\k+j2=nP/\gh (hO wk b Fk (aq++jq p q s m k))/\gh (gB F Fk wd wk))
     .exact⟨0,bj,rfl,by omega,gd (by simpa[jq]using aZ.o),aY⟩
     obtain⟨k,Fk,rfl,fV,cH,bl⟩:=hrel;obtain⟨⟨⟨K,N,O,P⟩,⟨R,b1,b2,b3⟩⟩,s0,s1,s2,s3⟩:=ai.o wr bl.o.Z;rcases gk with _|j2
     .obtain rfl:k=nP:=by omega
      have t3:decide (k<k)=false:=(by simp);have cG:gh (hO wr b Fk (iD p q ss ms (i+1))):=gd (by rw[cz.o];exact cH.o);have cB:gh (gB [b] Fk w4 wr):=gd (HG.o.trans (gB.pre a6.o bl.o));clear K N O s0 s1 s2 s3 R b1 b2;go_wp2_with fail
      go_roundg j
      .exact⟨i+1,Fk,by go_num,by omega,cG,cB,ao⟩
      .omega
     .have f:k<nP:=by omega
      have fD:(0:Int)<=(k:Int):=(by omega);have fE:(k:Int)<(nP:Int):=(by omega);obtain⟨e1,e2⟩:=bI.o wr (bA.o wr bl.o.Z) k f;have HE:gh (∀wz,gf F wd wz->wz.cell? ⟨g,o+k,none⟩=some (.slice (B k) (p.W*p.H) (c k))/\wz.cell? ⟨g',o'+k,none⟩=some (.slice (B' k) (p.W*p.H) (c' k))):=gd λwz hz=>bI.o wz (bA.o wz hz) k f;have Q:=λwz (hz:gf F wd wz)=>cI.o wz (bA.o wz hz) bH.o k f;have W:=cy.o k;have aE:=cM.o k;have aF:=λwz A=>cN.o wz A k;have aM:=ct.o k;have bp:=rX p q s m k;have⟨D,hD⟩:=zX (kg (gV q k s (0,0)) (gV p k s m));have⟨L,hL⟩:=zX (p.W*p.H);have⟨M,hM⟩:=zX (s.h*s.w);simp only[<-hD,<-hM,<-hL]at Q W aE e1 e2;rw[<-hM]at cb;have fN:gh (∀wz,gf F wd wz->(wz.cell? ⟨w.heap.size,3,none⟩=some (.slice (some ⟨g,o,none⟩) nP cap)/\wz.cell? ⟨w.heap.size+1,0,none⟩=some (.int .i64 p.W)/\wz.cell? ⟨w.heap.size+1,3,none⟩=some (.slice (some ⟨g',o',none⟩) nP cap'))/\(wz.cell? sb=some (.int .i64 s.x)/\wz.cell? ⟨sb,1,none⟩=some (.int .i64 s.y)/\wz.cell? ⟨sb,2,none⟩=some (.int .i64 s.w)/\wz.cell? ⟨sb,3,none⟩=some (.int .i64 s.h))/\wz.cell? ⟨g,o+k,none⟩=some (.slice (B k) L (c k))/\wz.cell? ⟨g',o'+k,none⟩=some (.slice (B' k) L (c' k))):=gd λwz hz=>by
       obtain⟨⟨⟨K,N,O,P⟩,⟨R,b1,b2,b3⟩⟩,s0,s1,s2,s3⟩:=ai.o wz hz;obtain⟨e1,e2⟩:=HE.o wz hz;rw[<-hL]at e1 e2;exact⟨⟨P,R,b3⟩,⟨s0,s1,s2,s3⟩,e1,e2⟩
      have⟨cJ,bC,aI,cO⟩:=gz Q W aE aF;have⟨cu,dX⟩:=gy aM bp;clear Q W aE aF aM bp hD hM hL;go_wp2_with fail;refine jE 15 (by kernel_rfl) (by kernel_rfl) ?_;simp only[take_succ_cons,take_zero,drop_succ_cons,drop_zero]
      repeat(go_big_quiet_step (fail))
      refine wpQuiet_nil ?_;intro _ c9;obtain⟨cm,rfl⟩:=c9;have cT:gf F wd (wr.drewN cm):=bl.o.Z.drewN cm;have aS:=cJ.o (wr.drewN cm) cT;have⟨bw,dV⟩:=gy aS cT;clear aS cT;go_wp2_with fail;refine bw.o.mono ?_;rintro e w3' ⟨g3,c3,rfl,cd,bm,dx⟩;have dt:gf F wd w3':=dV.o.trans bm (by simp);have dW:gh (gf [] wr w3'):=gd (((zR [] wr).drewN cm).tq bm);have cV:wr.heap.size<=g3:=dx;have d3:gh (∀x∈Fk,x≠g3):=gd λx hx e=>by have:=cH.o.lt x hx;omega
      have d5:gh (wd.heap.size<=g3):=gd (by have:=bl.o.Z.size;omega);have ff:=gd cd;have d7:gh (∀wz,gf [g3] w3' wz->gf F wd wz):=gd λwz hz=>dt.trans hz (λx hx=>.inr (by rw[zU.1 hx];exact d5.o));have bz:gh (∀wz,gf [g3] w3' wz->gf [] wr wz):=gd λwz hz=>dW.o.trans hz (λx hx=>.inr (by rw[zU.1 hx];exact cV));clear dt bm dx cd e1 e2 K N O P R b1 b2 b3 s0 s1 s2 s3;go_wp2_with fail
      go_loopg [16] M (λj3 v16 wy=>∃y:Nat,v16=.int .i64 y/\y+j3=M/\gh (gv wy 3 (.slice g3 M c3) g3 ((nx D d y).map vi))/\gh (gf [g3] w3' wy))
      .exact⟨0,rfl,by omega,gd (by rw[LW];exact ff.o),gd (zR _ _)⟩
      obtain⟨y,rfl,fX,cK,cf⟩:=hrel;obtain⟨⟨⟨K,N,O,P⟩,⟨R,b1,b2,b3⟩⟩,s0,s1,s2,s3⟩:=ai.o wr (d7.o wr cf.o);rcases gk with _|j3
      .obtain rfl:y=M:=by omega
       have t4:decide (y<y)=false:=(by simp);have bg:=cK.o;rw[<-aI.o,LU,<-bC.o,aI.o]at bg;have b9:=bg.S;have c5:=cO.o wr _ b9.cells;have dG:=cH.o.Y (bz.o wr cf.o);have⟨X,hX⟩:=zX (iM p q k s m);have dq:X.length=y:=(by rw[hX,bC.o,zE,aI.o]);have bp:=dX.o;rw[<-hX]at c5 bp;have I:=M5 c3 c5 b Fk _ dG (λ_ ad e=>by
        injection e with e;subst e;exact λhm=>d3.o _ hm rfl) (by rw[zC,co.o];have:=cu.o;omega)
       rw[dq]at I;have dD:aq++jq p q s m (k+1)=(aq++jq p q s m k)++iz (kh X s.w s.h d) X s.w s.h d:=by
        rw[bp,<-HD.o,zH];rfl
       rw[<-dD]at I;have bK:=gd I;clear bg b9 c5 dG hX dq bp I dD;go_wp2_with fail;refine bK.o.mono ?_;rintro e w9 ⟨rfl,F9,dE,dz⟩;have cG:=gd dE;have cB:gh (gB F F9 wd w9):=gd (bl.o.trans (gB.pre (bz.o wr cf.o) dz));clear dE dz;go_wp2_with fail
       go_roundg j2
       .exact⟨k+1,F9,by go_num,by omega,cG,cB⟩
       .omega
      .have hy:y<M:=by omega
       have cl:y<D.length:=(by rw[aI.o];exact hy);obtain⟨ft,fB,_,_,aT,bX⟩:=cK.o.oq;have ce:=aT y _ (Op d cl);have fr:=bX y;have⟨x,hx⟩:=zX (D[y]);have bi:∀nq,gv ((wr.drewN nq).setCell ⟨g3,y,none⟩ (vi (iw x d))) 3 (.slice g3 M c3) g3 ((nx D d (y+1)).map vi):=λnq=>by
        have h9:=(cK.o.drewN nq).T (i:=y) (by rw[zE,No];exact cl) (vi (iw D[y] d));rw[<-map_set,Np d cl,<-hx]at h9;exact h9
       rw[<-hx]at ce;have fP:wr.cell? ⟨g3,y,none⟩=some (.int .i64 x):=ce;have dK:=λwz=>fp.o x wz;have⟨v,hv⟩:=zX (iw x d);rw[<-hv]at bi dK;have cL:=gd bi;have fJ:(0:Int)<=(y:Int):=(by omega);have fK:(y:Int)<(M:Int):=(by omega);clear fB aT bX ce bi hv hx cl K N O P R b1 b3 s0 s1 s2 s3;go_wp2_with fail;refine jE 10 (by kernel_rfl) (by kernel_rfl) ?_;simp only[take_succ_cons,take_zero,drop_succ_cons,drop_zero]
       repeat(go_big_quiet_step ((go_at_call 29;exact Calls.quiet_of_same ((dK _).mono (λ_ _ h=>⟨h.1,h.2.symm⟩)))))
       refine wpQuiet_nil ?_;intro _ c9;obtain⟨dM,rfl⟩:=c9;go_wp2_with fail
       go_roundg j3
       .exact⟨y+1,by go_num,by omega,gd (cL.o dM),gd ((cf.o.drewN dM).setCell (.inl (by simp)) _)⟩
       .omega
 .have t0:((mN:Int) != (n:Int))=true:=by simp;omega
  have ca:=bu.o U (λh=>hcount (by rw[bG.o];exact h.1)) (bk.o.tq ac.o);have bJ:=gd ca;clear hcount ca;go_wp2;exact bJ.o
theorem Ov{w:World}{p q:gH}{B:Nat->Option Addr}{c:Nat->Nat}{G:List Nat}(cap:Nat)(h:gW w p g o B c G){B':Nat->Option Addr}{c':Nat->Nat}{G':List Nat}(cap':Nat)(h':gW w q g' o' B' c' G')(K:jv p q)(L:Option Addr)(F:Nat)(ms:List (Int × Int))(hM:gu (λv=>v) w L (ms.flatMap lu))(S:∀i,(-9223372036854775808<=(ms.getD i (0,0)).1/\(ms.getD i (0,0)).1<=9223372036854775807)/\-9223372036854775808<=(ms.getD i (0,0)).2/\(ms.getD i (0,0)).2<=9223372036854775807)(t:¬nL p q ms):Calls prog 18 #[gN p g o cap,gN q g' o' cap',.slice L ms.length F] w λe w'=>e=.returned (.tuple #[.slice none 0 0,(6:Int)])/\gf [] w w':=by
 have E:=h.ok;have C:=h'.ok;have N:=λw' (hc:gf [] w w')=>sD cap (h.Y hc) cap' (h'.Y hc) K;have J:=λw'=>sS C g' o' cap' w';have⟨ss,ag⟩:=zX (gZ q.W q.H 8);have aQ:∀s∈ss,1<=s.w/\s.w<=8/\1<=s.h/\s.h<=8:=by rw[ag];exact pQ (by decide)
 have ar:∀s∈ss,lT p.W p.H s:=λs hs=>by
  rw[ag]at hs;obtain⟨a,b⟩:=o3 (by decide) s hs;exact⟨by rw[K.W];exact a,by rw[K.H];exact b⟩
 have a7:ss.length<=4096:=by rw[ag];exact ox C.w1 C.h1
 have al:nL p q ms ↔ ms.length=ss.length/\∀i,i<ms.length->iB p.W p.H (gC ss i) (ms.getD i (0,0)):=by unfold nL;rw[<-ag]
 rw[al]at t;rw[<-ag]at J;have⟨n,hn⟩:=zX ss.length;have be:0<n:=by
  rcases eq_zero_or_pos n with R|R
  .exfalso
   have h1:=sE (w:=q.W) (h:=q.H) (s:=8) (by decide);rw[<-ag,eq_nil_of_length_eq_zero (show ss.length=0 by omega)]at h1;have h2:=C.pos;simp[area]at h1;omega
  .exact R
 have aP:0<ms.length->∃d f,L=some ⟨d,f,none⟩/\∀w',gf [] w w'->∀i,i<ms.length->w'.cell? ⟨d,f+i*2,none⟩=some (.int .i64 (ms.getD i (0,0)).1)/\w'.cell? ⟨d,f+i*2+1,none⟩=some (.int .i64 (ms.getD i (0,0)).2):=λR=>by
  obtain⟨d,f,e,aN,Z⟩:=hM.ex (by rw[tB];omega);refine⟨d,f,e,λw' hc i hi=>?_⟩;obtain⟨a,b⟩:=sk ms i hi;exact⟨(World.cell?_of_block (w:=w) (hc.block d aN (by simp))).trans (Z _ _ a),(World.cell?_of_block (w:=w) (hc.block d aN (by simp))).trans (by have:=Z _ _ b;rwa [<-Nat.add_assoc]at this)⟩
 have l:∀w' i,i<n->Calls prog 35 #[.agg #[.int .i64 p.W,.int .i64 p.H,.int .i64 p.d,.slice (some ⟨g,o,none⟩) p.P.length cap],iV (gC ss i),.int .i64 (ms.getD i (0,0)).1,.int .i64 (ms.getD i (0,0)).2] w' λe w''=>e=.returned (.bool (m7 p.W p.H (gC ss i) (ms.getD i (0,0))))/\gf [] w' w'':=λw' i hi=>by
  have bd:=aQ _ (jK (i:=i) (ss:=ss) (by omega));have ao:=ar _ (jK (i:=i) (ss:=ss) (by omega))
  have:=ao.x
  have:=ao.y
  have:=E.w1
  have:=E.h1
  exact I7 p.W p.H p.d p.P.length g o cap (gC ss i) (ms.getD i (0,0)) w' E.w1 E.h1 (by omega) (by omega) (by omega) (by omega)
 unfold iV at l;unfold gN at N J⊢;have⟨w1,au⟩:=zX (((w.alloc (.cells #[p.W,p.H,p.d,.slice (some ⟨g,o,none⟩) p.P.length cap] 25)).alloc (.cells #[q.W,q.H,q.d,.slice (some ⟨g',o',none⟩) q.P.length cap'] 25)));have u:gn w1 w.heap.size 25 #[p.W,p.H,p.d,.slice (some ⟨g,o,none⟩) p.P.length cap]:=by rw[au];exact(gn.new w _ _).alloc _
 have D:gn w1 (w.heap.size+1) 25 #[q.W,q.H,q.d,.slice (some ⟨g',o',none⟩) q.P.length cap']:=by rw[au];exact gn.new2 w _ _ _
 have Y:gf [] w w1:=by rw[au];exact((zR [] w).alloc _).alloc _
 have am:=λwz (hc:gf [] w1 wz)=>And.intro (And.intro ((u.Z hc (by simp)).X 0) (And.intro ((u.Z hc (by simp)).X 1) (And.intro ((u.Z hc (by simp)).X 2) ((u.Z hc (by simp)).X 3)))) (And.intro ((D.Z hc (by simp)).X 0) (And.intro ((D.Z hc (by simp)).X 1) (And.intro ((D.Z hc (by simp)).X 2) ((D.Z hc (by simp)).X 3))));have⟨aY,av,aV,aS⟩:=gz au Y l N;have⟨aU,HN,ai,aW⟩:=gz J hn am aP;have a8:n<=4096:=by omega
 have aX:=gd t;clear l N J u D au Y aP hM aQ ar E C h h' K hn a7 am t ag S al;have⟨mN,aG⟩:=zX ms.length;rw[<-aG];have H:=gd aG;clear aG;go_enter func18,ntmps18;go_wp2_with fail;rw[<-aY.o];refine(aS.o w1 av.o).mono ?_;rintro e w2 ⟨rfl,M⟩;obtain⟨⟨a0,a1,a2,a3⟩,⟨b0,b1,b2,b3⟩⟩:=ai.o w2 M;have aA:=gd M;clear M;go_wp2_with fail;refine(aU.o w2).mono ?_;rintro e V ⟨v8,F8,rfl,aR,X,a5⟩;obtain⟨A8,c8,rfl,a9,ba,aL,-⟩:=ic.open_ aR;have⟨ac,aT⟩:=gy (aA.o.tq X) aL;rw[<-HN.o];clear aR X a5 aL a0 a1 a2 a3 b0 b1 b2 b3;by_cases hcount:mN=n
 .have a6:=hcount.symm
  subst a6;clear hcount;have t0:((n:Int) != (n:Int))=false:=by simp
  go_wp2_with fail
  go_loopg [9,10,28] n (λj v9 v10 v28 wr=>∃i:Nat,v28=.int .i64 i/\i+j=n/\gh (∀k,k<i->iB p.W p.H (gC ss k) (ms.getD k (0,0)))/\gh (gf [] V wr))
  .exact⟨0,rfl,by omega,gd (λk hk=>by omega),gd (zR _ _)⟩
  obtain⟨i,rfl,bc,W,Q⟩:=hrel;rcases gk with _|j
  .exact(aX.o ⟨by rw[<-H.o];exact HN.o,λk hk=>W.o k (by rw[<-H.o]at hk;omega)⟩).elim
  .have hi:i<n:=by omega
   have aO:i<ss.length:=(by rw[<-HN.o];exact hi);obtain⟨g8,o8,a4,x0,x1,x2,x3⟩:=oE (aT.o.Y Q.o) aO;subst a4;obtain⟨d,f,rfl,ap⟩:=aW.o (by rw[<-H.o];omega);have l:=λwz=>aV.o wz i hi;have P:iB p.W p.H (gC ss i) (ms.getD i (0,0))->∀k,k<i+1->iB p.W p.H (gC ss k) (ms.getD k (0,0)):=λhm k hk=>by
    by_cases e:k=i
    .rw[e];exact hm
    .exact W.o k (by omega)
   have⟨m,hm⟩:=zX (ms.getD i (0,0));have⟨s,hs⟩:=zX (gC ss i);have O:∀wz,gf [] (wr.alloc (.cells #[.int .i64 s.x,.int .i64 s.y,.int .i64 s.w,.int .i64 s.h] 49)) wz->wz.cell? ⟨w.heap.size,0,none⟩=some (.int .i64 p.W)/\wz.cell? ⟨w.heap.size,1,none⟩=some (.int .i64 p.H)/\wz.cell? ⟨w.heap.size,2,none⟩=some (.int .i64 p.d)/\wz.cell? ⟨w.heap.size,3,none⟩=some (.slice (some ⟨g,o,none⟩) p.P.length cap)/\wz.cell? ⟨wr.heap.size,0,none⟩=some (.int .i64 s.x)/\wz.cell? ⟨wr.heap.size,1,none⟩=some (.int .i64 s.y)/\wz.cell? ⟨wr.heap.size,2,none⟩=some (.int .i64 s.w)/\wz.cell? ⟨wr.heap.size,3,none⟩=some (.int .i64 s.h)/\wz.cell? ⟨d,f+i*2,none⟩=some (.int .i64 m.1)/\wz.cell? ⟨d,f+i*2+1,none⟩=some (.int .i64 m.2):=λwz hz=>by
    have aM:gf [] V wz:=(Q.o.alloc _).tq hz;obtain⟨⟨k0,k1,k2,k3⟩,-⟩:=ai.o wz (ac.o.tq aM);have k4:=(gn.new wr 49 #[.int .i64 s.x,.int .i64 s.y,.int .i64 s.w,.int .i64 s.h]).Z hz (by simp);obtain⟨T,U⟩:=ap wz ((av.o.tq ac.o).tq aM) i (by rw[<-H.o];exact hi);rw[<-hm]at T U;exact⟨k0,k1,k2,k3,k4.X 0,k4.X 1,k4.X 2,k4.X 3,T,U⟩
   simp only[<-hm,<-hs]at l P x0 x1 x2 x3;have⟨z,hz⟩:=zX (m7 p.W p.H s m);simp only[<-hz]at l;have aZ:gh (z=true->iB p.W p.H s m):=gd λh=>(oD p.W p.H s m).1 (by rw[<-hz,h]);obtain⟨k0,k1,k2,k3,s0,s1,s2,s3,T,U⟩:=O _ (zR _ _);have⟨ad,aB,aD⟩:=gS O l P;have bb:(0:Int)<=(i:Int):=(by omega);have u:(i:Int)<(n:Int):=(by omega);clear aO O l P hm hs hz ap;go_wp2_with fail
   go_region_held3 (λw'=>w'.cell? ⟨w.heap.size,0,none⟩=some (.int .i64 p.W)/\w'.cell? ⟨w.heap.size,1,none⟩=some (.int .i64 p.H)/\w'.cell? ⟨w.heap.size,2,none⟩=some (.int .i64 p.d)/\w'.cell? ⟨w.heap.size,3,none⟩=some (.slice (some ⟨g,o,none⟩) p.P.length cap)/\w'.cell? ⟨wr.heap.size,0,none⟩=some (.int .i64 s.x)/\w'.cell? ⟨wr.heap.size,1,none⟩=some (.int .i64 s.y)/\w'.cell? ⟨wr.heap.size,2,none⟩=some (.int .i64 s.w)/\w'.cell? ⟨wr.heap.size,3,none⟩=some (.int .i64 s.h)/\w'.cell? ⟨d,f+i*2,none⟩=some (.int .i64 m.1)/\w'.cell? ⟨d,f+i*2+1,none⟩=some (.int .i64 m.2)) (first|(go_keep;done)|exact ad.o _ (((zR [] _).drew).tq I)|exact ad.o _ I) (first|(go_at_call 35;refine(aB.o _).mono ?_;rintro e w6 ⟨rfl,I⟩))
   have an:gf [] V w6:=((Q.o.alloc (.cells #[.int .i64 s.x,.int .i64 s.y,.int .i64 s.w,.int .i64 s.h] 49)).drew).tq I;have aj:=gd an;clear an I
   cases z with
   | true=>
    have aC:=gd (aD.o (aZ.o rfl));go_wp2_with fail
    go_roundg j
    .exact⟨i+1,by go_num,by omega,aC,aj⟩
    .omega
   | false=>
    go_wp2;refine bodyPost_ret (v:=.tuple #[.slice none 0 0,(6:Int)]) (by simp[results,results18,go_sem]) rfl ?_;exact⟨rfl,(av.o.tq ac.o).tq aj.o⟩
 .have t0:((mN:Int) != (n:Int))=true:=by simp;omega
  clear hcount;go_wp2;refine bodyPost_ret (v:=.tuple #[.slice none 0 0,(6:Int)]) (by simp[results,results18,go_sem]) rfl ?_;exact⟨rfl,av.o.tq ac.o⟩
theorem Ou{w:World}{p q:gH}{B:Nat->Option Addr}{c:Nat->Nat}{G:List Nat}(cap:Nat)(h:gW w p g o B c G){B':Nat->Option Addr}{c':Nat->Nat}{G':List Nat}(cap':Nat)(h':gW w q g' o' B' c' G')(j:jv p q)(u:jJ w)(b:Option Addr)(a:Nat)(ms:List (Int × Int))(f:gu (λv=>v) w b (ms.flatMap lu))(d:∀i,(-9223372036854775808<=(ms.getD i (0,0)).1/\(ms.getD i (0,0)).1<=9223372036854775807)/\-9223372036854775808<=(ms.getD i (0,0)).2/\(ms.getD i (0,0)).2<=9223372036854775807):Calls prog 18 #[gN p g o cap,gN q g' o' cap',.slice b ms.length a] w (tx w p q ms):=by
 by_cases hb:nL p q ms
 .refine(FQ cap h cap' h' j u b a ms f hb.1 hb.2).mono λe w' hh=>?_
  obtain⟨v,k,l,m,n,t,-⟩:=hh;exact .inl ⟨hb,v,k,l,m,n,t⟩
 .exact(Ov cap h cap' h' j b a ms f d hb).mono λe w' hh=>.inr ⟨hb,hh⟩
theorem Lb{w:World}{p q:gH}{ms:List (Int × Int)}{f:FuncId}{a:Array Value}(i:nL p q ms)(h:Calls prog f a w (tx w p q ms)):Calls prog f a w λe w'=>∃v G9,e=.returned (.tuple #[v,(0:Int)])/\gE w' 5 v G9 ((jy p q ms).map b8)/\gf [] w w'/\∀x∈G9,w.heap.size<=x:=
 h.mono λe w' b=>by
  rcases b with⟨_,b⟩|⟨d,_⟩
  .exact b
  .exact absurd i d
def DJ(w:World)(p q:gH)(e:Ending)(w':World):Prop:=
 ∃v G9 ms,e=.returned (.tuple #[v,(0:Int)])/\gE w' 5 v G9 ((jy p q ms).map b8)/\ms.length=(gZ q.W q.H 8).length/\mP p q (gZ q.W q.H 8) ms (gZ q.W q.H 8).length/\gf [] w w'/\∀x∈G9,w.heap.size<=x
theorem Ir{w:World}{p q:gH}{B:Nat->Option Addr}{c:Nat->Nat}{G:List Nat}(cap:Nat)(h:gW w p g o B c G){B':Nat->Option Addr}{c':Nat->Nat}{G':List Nat}(cap':Nat)(h':gW w q g' o' B' c' G')(z:jv p q):Calls prog 15 #[gN p g o cap,gN q g' o' cap'] w (DJ w p q):=by
 have ad:=h'.ok;have U:=λw' (hc:gf [] w w')=>xF cap (h.Y hc) cap' (h'.Y hc) z;have K:=λw'=>uo ad g' o' cap' w';unfold DJ;have⟨ss,ak⟩:=zX (gZ q.W q.H 8);have ar:∀s∈ss,lT p.W p.H s:=λs hs=>by
  rw[ak]at hs;obtain⟨a,b⟩:=o3 (by decide) s hs;exact⟨by rw[z.W];exact a,by rw[z.H];exact b⟩
 have V:∀s∈ss,1<=s.w/\s.w<=8/\1<=s.h/\s.h<=8:=by rw[ak];exact pQ (by decide)
 have a6:ss.length<=4096:=by rw[ak];exact ox ad.w1 ad.h1
 have d:=λw' (hc:gf [] w w') O capM ms hM hin d=>Lb (p:=p) (q:=q) d (Fi cap (h.Y hc) cap' (h'.Y hc) z O capM ms hM hin);rw[<-ak]at K⊢;have⟨n,hn⟩:=zX ss.length;have m:∀w',gf [] w w'->∀i,i<n->_:=λw' hc i hi=>BG cap (h.Y hc) cap' (h'.Y hc) z (gC ss i) (ar _ (jK (by omega))) (V _ (jK (i:=i) (by omega))).1 (V _ (jK (i:=i) (by omega))).2.2.1;unfold gN iV at m;unfold gN at U K d⊢;have⟨w1,au⟩:=zX (((w.alloc (.cells #[p.W,p.H,p.d,.slice (some ⟨g,o,none⟩) p.P.length cap] 25)).alloc (.cells #[q.W,q.H,q.d,.slice (some ⟨g',o',none⟩) q.P.length cap'] 25)));have E:gn w1 w.heap.size 25 #[p.W,p.H,p.d,.slice (some ⟨g,o,none⟩) p.P.length cap]:=by rw[au];exact(gn.new w _ _).alloc _
 have H:gn w1 (w.heap.size+1) 25 #[q.W,q.H,q.d,.slice (some ⟨g',o',none⟩) q.P.length cap']:=by rw[au];exact gn.new2 w _ _ _
 have aF:gf [] w w1:=by rw[au];exact((zR [] w).alloc _).alloc _
 have ap:=λwz (hc:gf [] w1 wz)=>And.intro (And.intro ((E.Z hc (by simp)).X 0) (And.intro ((E.Z hc (by simp)).X 1) (And.intro ((E.Z hc (by simp)).X 2) ((E.Z hc (by simp)).X 3)))) (And.intro ((H.Z hc (by simp)).X 0) (And.intro ((H.Z hc (by simp)).X 1) (And.intro ((H.Z hc (by simp)).X 2) ((H.Z hc (by simp)).X 3))));have⟨aT,al,aK,aP⟩:=gz au aF U K;have⟨HN,aS,af,aM⟩:=gz hn ak ap d;have aR:=gd m;have a7:n<=4096:=by omega
 clear U K E H au aF ar V ad h h' z hn ak a6 ap d m;go_enter func15,ntmps15;go_wp2_with fail;rw[<-aT.o];refine(aK.o w1 al.o).mono ?_;rintro e w2 ⟨rfl,Y⟩;obtain⟨⟨P,Q,R,S⟩,⟨Z,b1,b2,b3⟩⟩:=af.o w2 Y;have ax:=gd Y;clear Y;go_wp2_with fail;refine(aP.o w2).mono ?_;rintro e N ⟨v8,F8,rfl,aJ,aE,aX⟩;obtain⟨A8,c8,rfl,a8,a9,aG,-⟩:=ic.open_ aJ;have⟨ab,aN⟩:=gy (ax.o.tq aE) aG;rw[<-HN.o];clear aJ aE aX aG P Q R S Z b1 b2 b3;go_wp2_with fail
 go_loopg [6,8,9,10,11,19] n (λj v6 v8 v9 v10 v11 v19 wr=>∃(i:Nat) (ms:List (Int × Int)) (F:List Nat),v19=.int .i64 i/\i+j=n/\gh (ic wr 48 2 v6 F i (ms.flatMap lu))/\gh (ms.length=i)/\gh (mP p q ss ms i)/\gh (gf [] N wr)/\gh (∀x∈F,N.heap.size<=x))
 .exact⟨0,[],[],rfl,by omega,gd (ic.nil _ _ _),gd rfl,gd (λk D=>by omega),gd (zR _ _),gd (by simp)⟩
 obtain⟨i,ms,F,rfl,ba,HO,l,I,f,HF⟩:=hrel;obtain⟨⟨P,Q,R,S⟩,⟨Z,b1,b2,b3⟩⟩:=af.o wr (ab.o.tq f.o);rcases gk with _|j
 .obtain rfl:i=n:=by omega
  have t1:decide (i<i)=false:=by simp
  obtain⟨O,cM,rfl,a4,a5,aH,-⟩:=HO.o.open_;have d:=aM.o wr ((al.o.tq ab.o).tq f.o) O cM ms aH (λk=>by
   rcases zZ k ms.length with D|D
   .obtain⟨c,C⟩:=I.o k (by rw[<-l.o];exact D)
    have:=C.ok
    unfold iB at this;simp only at this;omega
   .rw[zD,getElem?_eq_none D]
    decide) (by
   unfold nL;rw[<-aS.o];refine⟨by rw[l.o];exact HN.o,λk D=>?_⟩;obtain⟨c,C⟩:=I.o k (by rw[<-l.o];exact D);exact C.ok)
  rw[l.o]at d;have aw:=gd d;clear d a4 a5 aH;go_wp2_with fail;refine aw.o.mono ?_;rintro e w9 ⟨v9,G9,rfl,J,aV,aY⟩;go_wp2;refine bodyPost_ret (v:=.tuple #[v9,(0:Int)]) (by simp[results,results15,go_sem]) rfl ?_;refine⟨v9,G9,ms,rfl,J,by rw[l.o];exact HN.o,by rw[<-HN.o];exact I.o,((al.o.tq ab.o).tq f.o).tq aV,λx hx=>?_⟩;have h1:=aY x hx;have h2:=((al.o.tq ab.o).tq f.o).size;omega
 .have hi:i<n:=by omega
  have aI:i<ss.length:=by rw[<-HN.o];exact hi
  obtain⟨g8,o8,aW,x0,x1,x2,x3⟩:=oE (aN.o.Y f.o) aI;subst aW;have aZ:=af.o _ (((ab.o.tq f.o)).alloc (.cells #[.int .i64 ((gC ss i).x:Int),.int .i64 ((gC ss i).y:Int),.int .i64 ((gC ss i).w:Int),.int .i64 ((gC ss i).h:Int)] 49));obtain⟨⟨c0,c1,c2,c3⟩,⟨d0,d1,d2,d3⟩⟩:=aZ;have m:=aR.o _ ((((al.o.tq ab.o).tq f.o)).alloc (.cells #[.int .i64 ((gC ss i).x:Int),.int .i64 ((gC ss i).y:Int),.int .i64 ((gC ss i).w:Int),.int .i64 ((gC ss i).h:Int)] 49)) i hi;unfold qV at m;have ay:=gd m;clear m aI;go_wp2_with fail;refine ay.o.mono ?_;rintro e w5 ⟨L,M,cc,rfl,C,T⟩;have am:=gd ((f.o.alloc (.cells #[.int .i64 ((gC ss i).x:Int),.int .i64 ((gC ss i).y:Int),.int .i64 ((gC ss i).w:Int),.int .i64 ((gC ss i).h:Int)] 49)).tq T);have aq:=((HO.o.Y ((zR [] wr).alloc (.cells #[.int .i64 ((gC ss i).x:Int),.int .i64 ((gC ss i).y:Int),.int .i64 ((gC ss i).w:Int),.int .i64 ((gC ss i).h:Int)] 49))).Y T).Y ((zR [] w5).alloc (.cells #[L,M] 48));have W:=gn.new w5 48 #[L,M];have aL:=gd (I.o.snoc l.o C);clear C T P Q R S Z b1 b2 b3 c0 c1 c2 c3 d0 d1 d2 d3 x0 x1 x2 x3
  go_wp2_with(at_builtin;refine ou rfl rfl uP rfl (by decide) rfl aq [.int .i64 L,.int .i64 M] rfl rfl ?c1 ?c2 ?c3 ?c4 ?_)
  case c1=>
   intro q u t
   match q,t with
   | 0,t=>rw[<-t];exact W.X 0
   | 1,t=>rw[<-t];exact W.X 1
   | q+2,t=>simp at t
  case c2=>intro u hu;simp at hu;rcases hu with rfl|rfl<;>rfl
  case c3=>omega
  case c4=>omega
  intro g9 aU w9 J X;have aQ:=gd J;have aO:gh (gf [] N w9):=gd ((am.o.alloc _).trans X.Z (λx hx=>.inr (HF.o x hx)));have aC:gh (∀x∈[g9],N.heap.size<=x):=gd (λx hx=>by
   rcases X.new x hx with h|h
   .exact HF.o x h
   .have:=am.o.size;rw[iO]at h;omega)
  clear J X aq W;go_wp2_with fail
  go_roundg j
  .refine⟨i+1,ms++[(L,M)],[g9],by go_num,by omega,gd ?_,gd (by rw[zC,l.o];rfl),aL,aO,aC⟩
   rw[flatMap_append];exact aQ.o
  .omega
theorem JB{w:World}{p q:gH}{B:Nat->Option Addr}{c:Nat->Nat}{G:List Nat}(cap:Nat)(h:gW w p g o B c G){B':Nat->Option Addr}{c':Nat->Nat}{G':List Nat}(cap':Nat)(h':gW w q g' o' B' c' G')(m:jv p q)(x y:Int):Calls prog 23 #[gN p g o cap,gN q g' o' cap',x,y] w (sP w p q x y):=by
 have t:=h'.ok;have E:=λw' (hc:gf [] w w')=>xF cap (h.Y hc) cap' (h'.Y hc) m;have u:=λw'=>uo t g' o' cap' w';unfold sP;have⟨ss,aj⟩:=zX (gZ q.W q.H 8);have Q:∀s∈ss,lT p.W p.H s:=λs hs=>by
  rw[aj]at hs;obtain⟨a,b⟩:=o3 (by decide) s hs;exact⟨by rw[m.W];exact a,by rw[m.H];exact b⟩
 have F:∀s∈ss,1<=s.w/\s.w<=8/\1<=s.h/\s.h<=8:=by rw[aj];exact pQ (by decide)
 have aQ:ss.length<=4096:=by rw[aj];exact ox t.w1 t.h1
 rw[<-aj]at u⊢;have⟨n,hn⟩:=zX ss.length;have d:∀w',gf [] w w'->∀i,i<n->_:=λw' hc i hi=>BG cap (h.Y hc) cap' (h'.Y hc) m (gC ss i) (Q _ (jK (by omega))) (F _ (jK (i:=i) (by omega))).1 (F _ (jK (i:=i) (by omega))).2.2.1;unfold gN iV at d;unfold gN at E u⊢;have⟨w1,ak⟩:=zX (((w.alloc (.cells #[p.W,p.H,p.d,.slice (some ⟨g,o,none⟩) p.P.length cap] 25)).alloc (.cells #[q.W,q.H,q.d,.slice (some ⟨g',o',none⟩) q.P.length cap'] 25)));have f:gn w1 w.heap.size 25 #[p.W,p.H,p.d,.slice (some ⟨g,o,none⟩) p.P.length cap]:=by rw[ak];exact(gn.new w _ _).alloc _
 have l:gn w1 (w.heap.size+1) 25 #[q.W,q.H,q.d,.slice (some ⟨g',o',none⟩) q.P.length cap']:=by rw[ak];exact gn.new2 w _ _ _
 have T:gf [] w w1:=by rw[ak];exact((zR [] w).alloc _).alloc _
 have P:=λwz (hc:gf [] w1 wz)=>And.intro (And.intro ((f.Z hc (by simp)).X 0) (And.intro ((f.Z hc (by simp)).X 1) (And.intro ((f.Z hc (by simp)).X 2) ((f.Z hc (by simp)).X 3)))) (And.intro ((l.Z hc (by simp)).X 0) (And.intro ((l.Z hc (by simp)).X 1) (And.intro ((l.Z hc (by simp)).X 2) ((l.Z hc (by simp)).X 3))));have⟨aL,al,aE,aG⟩:=gz ak T E u;have⟨HN,ac,aK⟩:=gS hn P d;have aR:n<=4096:=by omega
 clear E u f l ak T Q F t h h' m hn aj aQ P d;go_enter func23,ntmps23;go_wp2_with fail;rw[<-aL.o];refine(aE.o w1 al.o).mono ?_;rintro e w2 ⟨rfl,D⟩;obtain⟨⟨H,I,J,K⟩,⟨U,V,W,X⟩⟩:=ac.o w2 D;have ao:=gd D;clear D;go_wp2_with fail;refine(aG.o w2).mono ?_;rintro e w3 ⟨v8,F8,rfl,O,S,aO⟩;obtain⟨A8,c8,rfl,aS,aT,L,-⟩:=ic.open_ O;have⟨aa,aF⟩:=gy (ao.o.tq S) L;rw[<-HN.o];clear O S aO L H I J K U V W X;go_wp2_with fail
 go_loopg [8,9,10,12,20] n (λj v8 v9 v10 v12 v20 wr=>∃i:Nat,v20=.int .i64 i/\i+j=n/\gh (∀k,k<i->¬(((gC ss k).x:Int)=x/\((gC ss k).y:Int)=y))/\gh (gf [] w3 wr))
 .exact⟨0,rfl,by omega,gd (λk C=>by omega),gd (zR _ _)⟩
 obtain⟨i,rfl,aU,R,ad⟩:=hrel;obtain⟨⟨H,I,J,K⟩,⟨U,V,W,X⟩⟩:=ac.o wr (aa.o.tq ad.o);rcases gk with _|j
 .obtain rfl:i=n:=by omega
  have t1:decide (i<i)=false:=by simp
  have M:∀s∈ss,¬((s.x:Int)=x/\(s.y:Int)=y):=λs hs=>by
   obtain⟨k,C,rfl⟩:=List.mem_iff_getElem.1 hs
   have:=R.o k (by rw[HN.o];exact C)
   unfold gC at this;rw[zD,zF C]at this;exact this
  have aI:=gd M;clear M;go_wp2;refine bodyPost_ret (v:=.tuple #[(0:Int),(0:Int),(0:Int)]) (by simp[results,results23,go_sem]) rfl ?_;exact⟨.inr ⟨aI.o,rfl⟩,(al.o.tq aa.o).tq ad.o⟩
 .have hi:i<n:=by omega
  have z:i<ss.length:=by rw[<-HN.o];exact hi
  obtain⟨g8,o8,aN,x0,x1,x2,x3⟩:=oE (aF.o.Y ad.o) z;subst aN;have aP:=ac.o _ (((aa.o.tq ad.o)).alloc (.cells #[.int .i64 ((gC ss i).x:Int),.int .i64 ((gC ss i).y:Int),.int .i64 ((gC ss i).w:Int),.int .i64 ((gC ss i).h:Int)] 49));obtain⟨⟨c0,c1,c2,c3⟩,⟨d0,d1,d2,d3⟩⟩:=aP;have d:=aK.o _ ((((al.o.tq aa.o).tq ad.o)).alloc (.cells #[.int .i64 ((gC ss i).x:Int),.int .i64 ((gC ss i).y:Int),.int .i64 ((gC ss i).w:Int),.int .i64 ((gC ss i).h:Int)] 49)) i hi;unfold qV at d;have ap:=gd d;clear d;by_cases hm:((gC ss i).x:Int)=x/\((gC ss i).y:Int)=y
  .have t2:(((gC ss i).x:Int)==x)=true:=by rw[beq_iff_eq];omega
   have t3:(((gC ss i).y:Int)==y)=true:=(by rw[beq_iff_eq];omega);have⟨aw,aH⟩:=gy hm z;clear hm z;go_wp2_with fail;refine ap.o.mono ?_;rintro e w5 ⟨Z,dy,Y,rfl,hb,aM⟩;go_wp2;refine bodyPost_ret (v:=.tuple #[Z,dy,Y]) (by simp[results,results23,go_sem]) rfl ?_;exact⟨.inl ⟨Z,dy,Y,gC ss i,rfl,jK aH.o,aw.o.1,aw.o.2,hb⟩,((((al.o.tq aa.o).tq ad.o)).alloc _).tq aM⟩
  .have N:∀k,k<i+1->¬(((gC ss k).x:Int)=x/\((gC ss k).y:Int)=y):=λk C=>by
    by_cases e:k=i
    .rw[e];exact hm
    .exact R.o k (by omega)
   have aJ:=gd N;have av:(((gC ss i).x:Int)==x)=false\/((((gC ss i).x:Int)==x)=true/\(((gC ss i).y:Int)==y)=false):=by
    by_cases q1:((gC ss i).x:Int)=x
    .right
     exact⟨by rw[beq_iff_eq];omega,by rw[beq_eq_false_iff_ne];intro q2;exact hm ⟨q1,q2⟩⟩
    .left
     rw[beq_eq_false_iff_ne];omega
   clear hm z N;rcases av with t2|⟨t2,t3⟩
   all_goals
    go_wp2_with fail
    go_roundg j
    .exact⟨i+1,by go_num,by omega,aJ,gd (ad.o.alloc _)⟩
    .omega
def pm(w':World)(v:Value)(ds:List Nat):Prop:=∀wz,gf [] w' wz->(Go.convert 40 9 v).run prog wz=.ok (.string (rR ds)) wz
theorem pm.own{v:Value}{G:List Nat}(h:gE w' 5 v G (ds.map b8))(a:0<ds.length):pm w' v ds:=λwz hz=>by
 obtain⟨A,c,rfl,d,e,b⟩:=h.oq;exact LF (b.Y hz) a rfl
theorem pm.nil(w':World):pm w' (.slice none 0 0) []:=λwz hz=>run_convert_bytes_nil wz 40 5 underlying40 underlying5 0 0 9 underlying9
theorem xf(p q:gH)(ms:List (Int × Int)):0<(jy p q ms).length:=by
 unfold jy;rw[zC,sY];omega
theorem mP.unique{p q:gH}{ss:List Sq}{ms ms':List (Int × Int)}(f:ms.length=ss.length)(e:ms'.length=ss.length)(h:mP p q ss ms ss.length)(h':mP p q ss ms' ss.length):ms=ms':=by
 refine ext_getElem (by omega) λi hi hi'=>?_;obtain⟨c,b⟩:=h i (by omega);obtain⟨c',d⟩:=h' i (by omega);have a:=b.least.unique d.least;rw[zD,zF hi,zD,zF hi']at a;exact a
def tE(r s:iH)(ds:List Nat)(er:Int):Prop:=
 (j9 r s=true/\er=0/\∃ms,ms.length=(gZ s.pic.W s.pic.H 8).length/\mP r.pic s.pic (gZ s.pic.W s.pic.H 8) ms (gZ s.pic.W s.pic.H 8).length/\ds=jy r.pic s.pic ms)\/(j9 r s=false/\er=1/\ds=[])
theorem tE.unique{r s:iH}(h:tE r s ds er)(h':tE r s ds' er'):ds=ds'/\er=er':=by
 rcases h with⟨a,b,ms,d,e,f⟩|⟨a,b,d⟩<;>rcases h' with⟨k1,k2,i,k3,k4,k5⟩|⟨k1,k2,k3⟩
 .exact⟨by rw[f,k5,e.unique d k3 k4],by rw[b,k2]⟩
 .rw[a]at k1;cases k1
 .rw[a]at k1;cases k1
 .exact⟨by rw[d,k3],by rw[b,k2]⟩
def rO(r s:iH)(ms:List (Int × Int))(ds:List Nat)(er:Int):Prop:=
 (j9 r s=true/\(nL r.pic s.pic ms/\er=0/\ds=jy r.pic s.pic ms\/¬nL r.pic s.pic ms/\er=6/\ds=[]))\/(j9 r s=false/\er=1/\ds=[])
theorem rO.unique{r s:iH}{ms:List (Int × Int)}(h:rO r s ms ds er)(h':rO r s ms ds' er'):ds=ds'/\er=er':=by
 rcases h with⟨e,⟨a,b,d⟩|⟨a,b,d⟩⟩|⟨e,b,d⟩<;>rcases h' with⟨k1,⟨k2,k3,k4⟩|⟨k2,k3,k4⟩⟩|⟨k1,k3,k4⟩<;>first
  | exact absurd a k2
  | exact absurd k2 a
  | exact absurd (e.symm.trans k1) (by decide)
  | (rw[d,k4,b,k3];exact⟨rfl,rfl⟩)
def rD(r s:iH)(x y dx dy c:Int):Prop:=
 (j9 r s=true/\((∃(n:Nat) (q:Sq),c=(n:Int)/\q∈gZ s.pic.W s.pic.H 8/\(q.x:Int)=x/\(q.y:Int)=y/\tD r.pic s.pic q (λ_=>True) dx dy n)\/(∀q∈gZ s.pic.W s.pic.H 8,¬((q.x:Int)=x/\(q.y:Int)=y))/\dx=0/\dy=0/\c=0))\/(j9 r s=false/\dx=0/\dy=0/\c=0)
theorem rD.unique{r s:iH}{D E c f i c':Int}(h:rD r s x y D E c)(h':rD r s x y f i c'):D=f/\E=i/\c=c':=by
 rcases h with⟨F,⟨n,q,v,j,k,l,H⟩|⟨v,j,k,l⟩⟩|⟨F,j,k,l⟩<;>rcases h' with⟨k1,⟨P,q',k2,k3,k4,k5,I⟩|⟨k2,k3,k4,k5⟩⟩|⟨k1,k3,k4,k5⟩
 case inl.inl.inl.inl=>
  have e:q=q':=by
   obtain⟨z,C⟩:=E5 q j;obtain⟨m,p⟩:=E5 q' k3;have t:q.x=q'.x:=(by omega);have u:q.y=q'.y:=(by omega);rw[<-t]at m;rw[<-u]at p;obtain⟨a,b,N,d⟩:=q;obtain⟨K,M,L,O⟩:=q';simp only at t u z C m p;subst t;subst u;rw[z,C,m,p]
  subst e;have J:=H.least.unique I.least;injection J with e1 e2;subst e1;subst e2;exact⟨rfl,rfl,by rw[v,k2,H.cost,I.cost]⟩
 all_goals first
  | exact absurd ⟨k,l⟩ (k2 q j)
  | exact absurd ⟨k4,k5⟩ (v q' k3)
  | exact absurd (F.symm.trans k1) (by decide)
  | (rw[j,k3,k,k4,l,k5];exact⟨rfl,rfl,rfl⟩)
section
variable {w:World} {r s:iH} {A:Option Addr} {B:Nat->Option Addr} {c:Nat->Nat} {G:List Nat} (cap:Nat) (h:jH w r A B c G) {A':Option Addr} {B':Nat->Option Addr} {c':Nat->Nat} {G':List Nat} (cap':Nat) (h':jH w s A' B' c' G')
include h h'
theorem rp(e:j9 r s=true):∃g o g' o',gW w r.pic g o B c G/\gW w s.pic g' o' B' c' G'/\jv r.pic s.pic/\ip r A cap=gN r.pic g o cap/\ip s A' cap'=gN s.pic g' o' cap':=by
 obtain⟨a,b,d⟩:=KD e;obtain⟨g,o,rfl,k1⟩:=h.pic a;obtain⟨g',o',rfl,k2⟩:=h'.pic b;exact⟨g,o,g',o',k1,k2,d,by rw[<-uM,(iH.ok a).2],by rw[<-uM,(iH.ok b).2]⟩
theorem NA(l:jJ w):Calls prog 14 #[ip r A cap,ip s A' cap'] w λe w'=>∃v ds er,e=.returned (.tuple #[v,.int .i64 er])/\tE r s ds er/\pm w' v ds/\gf [] w w':=by
 cases hl:j9 r s with
 | true=>
  obtain⟨g,o,g',o',k1,k2,k3,a,b⟩:=rp cap h cap' h' hl;rw[a,b];refine(xX cap k1 cap' k2 k3 l).mono λe w' hh=>?_;obtain⟨v,m,ms,d,f,i,j,k,-,-⟩:=hh;exact⟨v,_,0,d,.inl ⟨hl,rfl,ms,i,j,rfl⟩,.own f (xf _ _ _),k⟩
 | false=>
  refine(Ox cap h cap' h' hl).mono λe w' hh=>?_;exact⟨_,[],1,hh.1,.inr ⟨hl,rfl,rfl⟩,.nil _,hh.2⟩
theorem MT:Calls prog 15 #[ip r A cap,ip s A' cap'] w λe w'=>∃v ds er,e=.returned (.tuple #[v,.int .i64 er])/\tE r s ds er/\pm w' v ds/\gf [] w w':=by
 cases hl:j9 r s with
 | true=>
  obtain⟨g,o,g',o',k1,k2,k3,a,b⟩:=rp cap h cap' h' hl;rw[a,b];refine(Ir cap k1 cap' k2 k3).mono λe w' hh=>?_;obtain⟨v,l,ms,d,f,i,j,k,-⟩:=hh;exact⟨v,_,0,d,.inl ⟨hl,rfl,ms,i,j,rfl⟩,.own f (xf _ _ _),k⟩
 | false=>
  refine(NZ cap h cap' h' hl).mono λe w' hh=>?_;exact⟨_,[],1,hh.1,.inr ⟨hl,rfl,rfl⟩,.nil _,hh.2⟩
omit h h' in
theorem EY{e:Ending}{ms:List (Int × Int)}(f:j9 r s=true)(j:tx w1 r.pic s.pic ms e w'):∃v ds er,e=.returned (.tuple #[v,.int .i64 er])/\rO r s ms ds er/\pm w' v ds/\gf [] w1 w':=by
 rcases j with⟨a,v,k,b,d,i,-⟩|⟨a,b,d⟩
 .exact⟨v,_,0,b,.inl ⟨f,.inl ⟨a,rfl,rfl⟩⟩,.own d (xf _ _ _),i⟩
 .exact⟨_,[],6,b,.inl ⟨f,.inr ⟨a,rfl,rfl⟩⟩,.nil _,d⟩
theorem Ow(l:jJ w)(b:Option Addr)(a:Nat)(ms:List (Int × Int))(k:gu (λv=>v) w b (ms.flatMap lu))(d:∀i,(-9223372036854775808<=(ms.getD i (0,0)).1/\(ms.getD i (0,0)).1<=9223372036854775807)/\-9223372036854775808<=(ms.getD i (0,0)).2/\(ms.getD i (0,0)).2<=9223372036854775807):Calls prog 18 #[ip r A cap,ip s A' cap',.slice b ms.length a] w λe w'=>∃v ds er,e=.returned (.tuple #[v,.int .i64 er])/\rO r s ms ds er/\pm w' v ds/\gf [] w w':=by
 cases hl:j9 r s with
 | true=>
  obtain⟨g,o,g',o',k1,k2,k3,f,j⟩:=rp cap h cap' h' hl;rw[f,j];exact(Ou cap k1 cap' k2 k3 l b a ms k d).mono λe w' hh=>EY hl hh
 | false=>
  refine(OQ cap h cap' h' hl b _ a).mono λe w' hh=>?_;exact⟨_,[],1,hh.1,.inr ⟨hl,rfl,rfl⟩,.nil _,hh.2⟩
theorem NY(b:Option Addr)(a:Nat)(ms:List (Int × Int))(k:gu (λv=>v) w b (ms.flatMap lu))(d:∀i,(-9223372036854775808<=(ms.getD i (0,0)).1/\(ms.getD i (0,0)).1<=9223372036854775807)/\-9223372036854775808<=(ms.getD i (0,0)).2/\(ms.getD i (0,0)).2<=9223372036854775807):Calls prog 19 #[ip r A cap,ip s A' cap',.slice b ms.length a] w λe w'=>∃v ds er,e=.returned (.tuple #[v,.int .i64 er])/\rO r s ms ds er/\pm w' v ds/\gf [] w w':=by
 cases hl:j9 r s with
 | true=>
  obtain⟨g,o,g',o',k1,k2,k3,f,j⟩:=rp cap h cap' h' hl;rw[f,j];exact(Fi cap k1 cap' k2 k3 b a ms k d).mono λe w' hh=>EY hl hh
 | false=>
  refine(OH cap h cap' h' hl b _ a).mono λe w' hh=>?_;exact⟨_,[],1,hh.1,.inr ⟨hl,rfl,rfl⟩,.nil _,hh.2⟩
omit h h' in
theorem Dy{e:Ending}(j:j9 r s=true)(p:sP w1 r.pic s.pic x y e w'):∃a b cc:Int,e=.returned (.tuple #[a,b,cc])/\rD r s x y a b cc/\gf [] w1 w':=by
 rcases p with⟨⟨a,b,n,q,d,f,k,l,m⟩|⟨d,f⟩,i⟩
 .exact⟨a,b,n,d,.inl ⟨j,.inl ⟨n,q,rfl,f,k,l,m⟩⟩,i⟩
 .exact⟨0,0,0,f,.inl ⟨j,.inr ⟨d,rfl,rfl,rfl⟩⟩,i⟩
theorem Nf(x y:Int):Calls prog 22 #[ip r A cap,ip s A' cap',x,y] w λe w'=>∃dx dy cc:Int,e=.returned (.tuple #[dx,dy,cc])/\rD r s x y dx dy cc/\gf [] w w':=by
 cases hl:j9 r s with
 | true=>
  obtain⟨g,o,g',o',k1,k2,k3,a,b⟩:=rp cap h cap' h' hl;rw[a,b];exact(Db cap k1 cap' k2 k3 x y).mono λe w' hh=>Dy hl hh
 | false=>exact(Ob cap h cap' h' hl x y).mono λe w' hh=>⟨0,0,0,hh.1,.inr ⟨hl,rfl,rfl,rfl⟩,hh.2⟩
theorem Lq(x y:Int):Calls prog 23 #[ip r A cap,ip s A' cap',x,y] w λe w'=>∃dx dy cc:Int,e=.returned (.tuple #[dx,dy,cc])/\rD r s x y dx dy cc/\gf [] w w':=by
 cases hl:j9 r s with
 | true=>
  obtain⟨g,o,g',o',k1,k2,k3,a,b⟩:=rp cap h cap' h' hl;rw[a,b];exact(JB cap k1 cap' k2 k3 x y).mono λe w' hh=>Dy hl hh
 | false=>exact(M4 cap h cap' h' hl x y).mono λe w' hh=>⟨0,0,0,hh.1,.inr ⟨hl,rfl,rfl,rfl⟩,hh.2⟩
end
section
variable {w:World} {r s:iH} {A:Option Addr} {B:Nat->Option Addr} {c:Nat->Nat} {G:List Nat} (cap:Nat) (h:jH w r A B c G) {A':Option Addr} {B':Nat->Option Addr} {c':Nat->Nat} {G':List Nat} (cap':Nat) (h':jH w s A' B' c' G')
include h h'
theorem yT(F:jJ w)(j:Option Addr)(a:Nat)(ms:List (Int × Int))(u:gu (λv=>v) w j (ms.flatMap lu))(b:∀i,(-9223372036854775808<=(ms.getD i (0,0)).1/\(ms.getD i (0,0)).1<=9223372036854775807)/\-9223372036854775808<=(ms.getD i (0,0)).2/\(ms.getD i (0,0)).2<=9223372036854775807):Calls prog 7 #[ip r A cap,ip s A' cap',.slice j ms.length a] w λe w'=>e=.returned (.bool true)/\gf [] w w':=by
 have q:=λw' (hc:gf [] w w')=>Ow cap (h.Y hc) cap' (h'.Y hc) (F.Y hc) j a ms (u.Y hc) b;have t:=λw' (hc:gf [] w w')=>NY cap (h.Y hc) cap' (h'.Y hc) j a ms (u.Y hc) b;unfold ip at q t⊢;generalize ms.length=mN at *;generalize r.P.length=n at *;generalize s.P.length=m at *;have⟨w1,ae⟩:=zX ((w.alloc (.cells #[r.W,r.H,r.d,.slice A n cap] 25)).alloc (.cells #[s.W,s.H,s.d,.slice A' m cap'] 25));have k:gh (gf [] w w1):=gd (by rw[ae];exact((zR [] w).alloc _).alloc _);have d:gn w1 w.heap.size 25 #[r.W,r.H,r.d,.slice A n cap]:=by rw[ae];exact(gn.new w _ _).alloc _
 have f:gn w1 (w.heap.size+1) 25 #[s.W,s.H,s.d,.slice A' m cap']:=by rw[ae];exact gn.new2 w _ _ _
 have ad:=λwz (hc:gf [] w1 wz)=>And.intro (And.intro ((d.Z hc (by simp)).X 0) (And.intro ((d.Z hc (by simp)).X 1) (And.intro ((d.Z hc (by simp)).X 2) ((d.Z hc (by simp)).X 3)))) (And.intro ((f.Z hc (by simp)).X 0) (And.intro ((f.Z hc (by simp)).X 1) (And.intro ((f.Z hc (by simp)).X 2) ((f.Z hc (by simp)).X 3))));have⟨aw,ap,au,af⟩:=gz ae q t ad;clear ae q t d f ad h h' F u b;go_enter func7,ntmps7;go_wp2_with fail;rw[<-aw.o];refine(ap.o w1 k.o).mono ?_;rintro e H ⟨V,ds,er,rfl,z,D,l⟩;have⟨ar,av,aa⟩:=gS z D l;obtain⟨⟨J,K,L,M⟩,⟨O,P,Q,R⟩⟩:=af.o H l;clear z D l;go_wp2_with fail;refine(au.o H (k.o.tq aa.o)).mono ?_;rintro e I ⟨W,T,U,rfl,C,E,p⟩;obtain⟨rfl,rfl⟩:=ar.o.unique C;have k1:=av.o I p;have k2:=E I (zR _ _);have N:=gd ((k.o.tq aa.o).tq p);clear C E p J K L M O P Q R;generalize rR ds=S at *;go_wp2;go_ret;exact⟨rfl,N.o⟩
theorem xn(x y:Int):Calls prog 9 #[ip r A cap,ip s A' cap',x,y] w λe w'=>e=.returned (.bool true)/\gf [] w w':=by
 have i:=λw' (hc:gf [] w w')=>Nf cap (h.Y hc) cap' (h'.Y hc) x y;have j:=λw' (hc:gf [] w w')=>Lq cap (h.Y hc) cap' (h'.Y hc) x y;unfold ip at i j⊢;generalize r.P.length=n at *;generalize s.P.length=m at *;have⟨w1,ae⟩:=zX ((w.alloc (.cells #[r.W,r.H,r.d,.slice A n cap] 25)).alloc (.cells #[s.W,s.H,s.d,.slice A' m cap'] 25));have d:gh (gf [] w w1):=gd (by rw[ae];exact((zR [] w).alloc _).alloc _);have a:gn w1 w.heap.size 25 #[r.W,r.H,r.d,.slice A n cap]:=by rw[ae];exact(gn.new w _ _).alloc _
 have b:gn w1 (w.heap.size+1) 25 #[s.W,s.H,s.d,.slice A' m cap']:=by rw[ae];exact gn.new2 w _ _ _
 have ad:=λwz (hc:gf [] w1 wz)=>And.intro (And.intro ((a.Z hc (by simp)).X 0) (And.intro ((a.Z hc (by simp)).X 1) (And.intro ((a.Z hc (by simp)).X 2) ((a.Z hc (by simp)).X 3)))) (And.intro ((b.Z hc (by simp)).X 0) (And.intro ((b.Z hc (by simp)).X 1) (And.intro ((b.Z hc (by simp)).X 2) ((b.Z hc (by simp)).X 3))));have⟨ar,an,aq,af⟩:=gz ae i j ad;clear ae i j a b ad h h';go_enter func9,ntmps9;go_wp2_with fail;rw[<-ar.o];refine(an.o w1 d.o).mono ?_;rintro e q ⟨M,N,L,rfl,l,f⟩;have⟨ap,aa⟩:=gy l f;obtain⟨⟨t,u,v,z⟩,⟨D,E,F,H⟩⟩:=af.o q f;clear l f;go_wp2_with fail;refine(aq.o q (d.o.tq aa.o)).mono ?_;rintro e O ⟨J,K,I,rfl,p,k⟩;obtain⟨rfl,rfl,rfl⟩:=ap.o.unique p;have C:=gd ((d.o.tq aa.o).tq k);clear p k t u v z D E F H;go_wp2;go_ret;exact⟨rfl,C.o⟩
theorem xy(R:jJ w):Calls prog 6 #[ip r A cap,ip s A' cap'] w λe w'=>e=.returned (.bool true)/\gf [] w w':=by
 have u:=λw' (hc:gf [] w w')=>NA cap (h.Y hc) cap' (h'.Y hc) (R.Y hc);have C:=λw' (hc:gf [] w w')=>MT cap (h.Y hc) cap' (h'.Y hc);have f:=λw' (hc:gf [] w w')=>q6 cap (h.Y hc) cap' (h'.Y hc);have j:=λw' (hc:gf [] w w')=>sA cap (h.Y hc) cap' (h'.Y hc);have⟨z,hz⟩:=zX (j9 r s);rw[<-hz]at f j;unfold ip at u C f j⊢;generalize r.P.length=n at *;generalize s.P.length=m at *;have⟨w1,ag⟩:=zX ((w.alloc (.cells #[r.W,r.H,r.d,.slice A n cap] 25)).alloc (.cells #[s.W,s.H,s.d,.slice A' m cap'] 25));have p:gh (gf [] w w1):=gd (by rw[ag];exact((zR [] w).alloc _).alloc _);have ad:gn w1 w.heap.size 25 #[r.W,r.H,r.d,.slice A n cap]:=by rw[ag];exact(gn.new w _ _).alloc _
 have b:gn w1 (w.heap.size+1) 25 #[s.W,s.H,s.d,.slice A' m cap']:=by rw[ag];exact gn.new2 w _ _ _
 have I:=λwz (hc:gf [] w1 wz)=>And.intro (And.intro ((ad.Z hc (by simp)).X 0) (And.intro ((ad.Z hc (by simp)).X 1) (And.intro ((ad.Z hc (by simp)).X 2) ((ad.Z hc (by simp)).X 3)))) (And.intro ((b.Z hc (by simp)).X 0) (And.intro ((b.Z hc (by simp)).X 1) (And.intro ((b.Z hc (by simp)).X 2) ((b.Z hc (by simp)).X 3))));have⟨aE,az,aB,ay⟩:=gz ag u C f;have⟨aC,ac⟩:=gy j I;clear ag u C ad b I h h' f j hz R;go_enter func6,ntmps6;go_wp2_with fail;rw[<-aE.o];refine(az.o w1 p.o).mono ?_;rintro e V ⟨T,ds,er,rfl,J,L,t⟩;have⟨aA,aD,ab⟩:=gS J L t;obtain⟨⟨D,E,F,H⟩,⟨N,O,P,Q⟩⟩:=ac.o V t;clear J L t;go_wp2_with fail;refine(aB.o V (p.o.tq ab.o)).mono ?_;rintro e a ⟨U,Z,aI,rfl,K,M,d⟩;obtain⟨rfl,rfl⟩:=aA.o.unique K
 have l:∀wz,gf [] a wz->((wz.cell? ⟨w.heap.size,0,none⟩=some (.int .i64 r.W)/\wz.cell? ⟨w.heap.size,1,none⟩=some (.int .i64 r.H)/\wz.cell? ⟨w.heap.size,2,none⟩=some (.int .i64 r.d)/\wz.cell? ⟨w.heap.size,3,none⟩=some (.slice A n cap))/\(wz.cell? ⟨w.heap.size+1,0,none⟩=some (.int .i64 s.W)/\wz.cell? ⟨w.heap.size+1,1,none⟩=some (.int .i64 s.H)/\wz.cell? ⟨w.heap.size+1,2,none⟩=some (.int .i64 s.d)/\wz.cell? ⟨w.heap.size+1,3,none⟩=some (.slice A' m cap')))/\(Go.convert 40 9 T).run prog wz=.ok (.string (rR ds)) wz/\(Go.convert 40 9 U).run prog wz=.ok (.string (rR ds)) wz:=λwz hz=>
  ⟨ac.o wz ((ab.o.tq d).tq hz),aD.o wz (d.tq hz),M wz hz⟩
 have q:=gd ((p.o.tq ab.o).tq d);clear K M d D E F H N O P Q;generalize rR ds=S at *;obtain⟨⟨⟨D,E,F,H⟩,⟨N,O,P,Q⟩⟩,k1,k2⟩:=l a (zR _ _);have k:=gd l;clear l;go_wp2_with fail
 go_region_held3 (λw'=>((w'.cell? ⟨w.heap.size,0,none⟩=some (.int .i64 r.W)/\w'.cell? ⟨w.heap.size,1,none⟩=some (.int .i64 r.H)/\w'.cell? ⟨w.heap.size,2,none⟩=some (.int .i64 r.d)/\w'.cell? ⟨w.heap.size,3,none⟩=some (.slice A n cap))/\(w'.cell? ⟨w.heap.size+1,0,none⟩=some (.int .i64 s.W)/\w'.cell? ⟨w.heap.size+1,1,none⟩=some (.int .i64 s.H)/\w'.cell? ⟨w.heap.size+1,2,none⟩=some (.int .i64 s.d)/\w'.cell? ⟨w.heap.size+1,3,none⟩=some (.slice A' m cap')))/\(Go.convert 40 9 T).run prog w'=.ok (.string S) w'/\(Go.convert 40 9 U).run prog w'=.ok (.string S) w')
  (first|exact k.o _ v|exact k.o _ i|exact k.o _ ((zR [] a).drew)|(go_keep;done))
  (first
   | (go_at_call 16;refine(ay.o _ (q.o.tq ((zR [] a).drew))).mono ?_;rintro e w6 ⟨rfl,W⟩;have i:gf [] a w6 := ((zR [] a).drew).tq W)
   | (go_at_call 17;refine(aC.o _ (q.o.tq i)).mono ?_;rintro e w7 ⟨rfl,X⟩;have v:gf [] a w7 := i.tq X))
 have Y:=gd (q.o.tq v);clear i v;cases z
 all_goals
  go_wp2;go_ret;exact⟨rfl,Y.o⟩
end
end Go.Proofs.YtnepiccbpokmiaaGreatDoor
