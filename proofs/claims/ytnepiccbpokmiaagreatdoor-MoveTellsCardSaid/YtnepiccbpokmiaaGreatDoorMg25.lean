/- Lemmas. -/
import Derived.Deep.RegionLaw
import Derived.Test.YtnepiccbpokmiaaGreatDoorMg22
set_option linter.all false
set_option maxHeartbeats 2000000
set_option maxRecDepth 100000
namespace Go.Proofs.YtnepiccbpokmiaaGreatDoor
open Tryz List Nat Go.RowKit
theorem ui(o n warm:Nat)(l:List Int):(j6 o n warm l).length=(io o n warm).length:=by unfold j6;rw[zE,nR]
theorem Dg(o n warm:Nat)(l:List Int):qa (j6 o n warm l):=by
 intro k a;obtain⟨p,_,rfl⟩:=List.mem_map.1 a;exact B0 p
theorem MO(n warm most:Nat)(l:List Int)(Al:Option Addr)(a:Nat)(w:World)(O:1<=n)(z:n<=4096)(h3:warm<=n)(g:most<=8)(H:l.length=n-warm)(hw:∀x∈l,ib x)(F:gu vi w Al l)(b:l.length<=a)(d:a<=9223372036854775807):Calls prog 196 #[n,warm,most,.slice Al l.length a] w λe w'=>∃v G,e=.returned (.tuple #[.agg #[.int .i64 (jF n warm most l).order,v],(0:Int)])/\gE w' 3 v G ((jF n warm most l).ks.map i64)/\gf [] w w'/\∀x∈G,w.heap.size<=x:=by
 have⟨L,hL⟩:=zX l.length;have ai:=λw hc=>Ds n warm l Al a w O z h3 H hw hc;have av:=λo (ho:o<=8) w=>uN o n warm w ho O z h3;have R:=λo (ho:o<=8) (hne:io o n warm≠[]) A cap w hc F=>Et o n warm (j6 o n warm l) A cap l Al a w ho O z h3 hne (ui o n warm l) (Dg o n warm l) hc H hw F b d;rw[<-hL]at ai R H b⊢;have⟨aE,aF,aX,HW⟩:=gz ai av R hw;have⟨HL,b2⟩:=gy hL H;have b6:L<=4096:=by omega
 have ck:max (most:Int) 0=(most:Int):=by omega
 have cl:min (most:Int) 8=(most:Int):=by omega
 have X:jF n warm most l=mH n warm l (most+1):=by unfold jF;rw[Nat.min_eq_left g]
 have bZ:=gd X;clear ai av R hw hL H X;go_enter func196,ntmps196;go_wp2_with fail;have bG:gf [] w (w.alloc (.cells #[(0:Int),.slice none 0 0] 123)):=(zR [] w).alloc _;refine(aE.o _ (F.Y bG)).mono ?_;rintro e cE ⟨rfl,rfl⟩;go_wp2_with fail;have M:=(gn.new (w.alloc (.cells #[(0:Int),.slice none 0 0] 123)) 123 #[(0:Int),.slice none 0 0]);have bg:=(gn.new w 123 #[(0:Int),.slice none 0 0]).alloc (.cells #[(0:Int),.slice none 0 0] 123);have bu:gf [] w ((w.alloc (.cells #[(0:Int),.slice none 0 0] 123)).alloc (.cells #[(0:Int),.slice none 0 0] 123)):=((zR [] w).alloc _).alloc _;have aP:w.heap.size≠w.heap.size+1:=by omega
 have bd:(w.alloc (.cells #[(0:Int),.slice none 0 0] 123)).heap.size=w.heap.size+1:=by simp
 rw[bd]at M;generalize hwA:(w.alloc (.cells #[(0:Int),.slice none 0 0] 123)).alloc (.cells #[(0:Int),.slice none 0 0] 123)=wA at *;have⟨br,aK⟩:=zX w.heap.size;have⟨bb,aI⟩:=zX (w.heap.size+1);rw[<-aI]at aP M⊢;rw[<-aK]at aP bg⊢;have ci:=M.lt;have⟨b0,bE,bk⟩:=gS aK aI F;clear bd hwA aK aI bG F
 go_loopg [11,12] (most+1) (λj lv ov wr=>j<=most+1/\ov=.int .i64 ((most+1-j:Nat):Int)/\∃D t y v G,lv=.int .i64 ((y:Nat):Int)/\gh (mH n warm l (most+1-j)=⟨D,t,y⟩) /\
   gn wr bb 123 #[.int .i64 ((D:Nat):Int),v]/\gE wr 3 v G (t.map i64)/\gf [bb] wA wr/\∀x∈G,wA.heap.size<=x)
 .exact⟨zQ _,by simp,0,[],0,.slice none 0 0,[],rfl,gd (by simp[mH]),M,gE.nil _ _,zR _ _,by simp⟩
 obtain⟨hj,rfl,D,t,y,v,G,rfl,bq,az,al,aq,hG⟩:=hrel;have HG:=gd hG;obtain⟨V,am,rfl,-,-,-⟩:=al.oq;clear hG M;rcases gk with _|j
 .have t4:decide ((most:Int)+1<=(most:Int))=false:=zA (by omega)
  have ap:=bg.Z aq (by simpa using aP);have b7:=az.X 0;have b9:=az.X 1;have ca:=ap.X 0;have cb:=ap.X 1;have⟨cx,cy⟩:=pt ap 0 1;simp at b7 b9 ca cb;go_wp2_with fail;have hF:=(ap.T 0 (.int .i64 D)).T 1 (.slice V t.length am);have cm:=(al.R (p:=⟨br,0,none⟩) (λg=>by have u:=HG.o _ g;have Q:=bg.lt;simp at u;omega) (.int .i64 D)).R (p:=⟨br,1,none⟩) (λg=>by have u:=HG.o _ g;have Q:=bg.lt;simp at u;omega) (.slice V t.length am);have b5:gf [bb,br] wA ((wr.setCell br (.int .i64 D)).setCell ⟨br,1,none⟩ (.slice V t.length am)):=((aq.mono (by simp)).setCell (by simp) _).setCell (by simp) _;generalize hwF:(wr.setCell br (.int .i64 D)).setCell ⟨br,1,none⟩ (.slice V t.length am)=wF at *;have bI:=hF.X 0;have bJ:=hF.X 1;simp at bI bJ;have e1:jF n warm most l=⟨D,t,y⟩:=by rw[bZ.o,<-bq.o];rfl
  refine bodyPost_ret (v:=.tuple #[.agg #[.int .i64 D,.slice V t.length am],(0:Int)]) (by simp[results,results196,go_sem,bI,bJ]) rfl ⟨.slice V t.length am,G,?_,?_,?_,?_⟩
  .rw[e1]
  .rw[e1];exact cm
  .refine bu.trans b5 ?_
   intro x k;right
   have:=b0.o
   have:=bE.o
   simp at k;omega
  .intro x k
   have:=HG.o x k
   have:=bu.size
   omega
 .have⟨i,bN⟩:=zX (most+1-(j+1))
  rw[<-bN]at bq⊢;have cg:i<=most:=by omega
  have bO:most+1-j=i+1:=by omega
  have HI:=gd bO;have t4:decide (i<=most)=true:=zB cg;clear bN bO;have T:=uj n warm l i;rw[bq.o]at T;have bC:i<=8:=by omega
  go_wp2_with fail;refine(aF.o i bC _).mono ?_;rintro e w2 ⟨v2,G2,rfl,ak,S,cw⟩;obtain⟨A2,ax,rfl,aA,bB,-⟩:=ak.oq;by_cases hne:io i n warm=[]
  .have Z:mH n warm l (i+1)=⟨D,t,y⟩:=by rw[T,pM,if_pos hne]
   have aZ:=gd Z;rw[hne]at ak aA⊢;clear hne T Z;simp only[length_nil];go_wp2_with fail
   go_roundg j
   .rw[HI.o]
    exact⟨by omega,by go_num,D,t,y,_,G,rfl,aZ,az.Z S (by simp),al.Y S,aq.tq (S.mono (by simp)),HG.o⟩
   .omega
  .have hN:=pI hne
   have aS:=qZ hne;have⟨ss,bj⟩:=zX (io i n warm);have bz:2^i<=256:=Nat.pow_le_pow_right (n:=2) (j:=8) (by decide) bC;have bx:=Nat.two_pow_pos i;rw[<-hN]at bx bz;have aR:=aX.o i bC hne;rw[pM,if_neg hne]at T;rw[<-bj]at hN aS ak aA bx bz T aR⊢;have bc:j6 i n warm l=(ie ss l).map jx:=(by unfold j6;rw[<-bj]);have aB:=ui i n warm l;rw[<-bj]at aB;have⟨N,bw⟩:=zX ss.length;rw[<-bw]at bx bz aA aB⊢;have t5:((N:Int)==0)=false:=(by rw[beq_eq_false_iff_ne];omega);have⟨HN,a0,bn,bm⟩:=gz bw T aR bc;have⟨aY,bo⟩:=gy aB aS;clear hN aS bj T aR bc aB bw hne;go_wp2_with fail;have X:=gn.new w2 123 #[i,.slice none 0 0];have U:gf [bb] wA w2:=aq.tq (S.mono (by simp));have cd:gu i64 w2 A2 ss:=(by have:=ak.cells;exact this);have a5:=bk.o.Y (bu.trans U (by
    intro x k;right
    have:=bE.o
    simp at k;omega))
   have⟨bp,aJ⟩:=zX w2.heap.size;rw[<-aJ]at X⊢;have aD:=gd aJ;have b3:gh (L<=a):=gd b;have bl:=gd d;have bH:gf [] w2 (w2.alloc (.cells #[i,.slice none 0 0] 123)):=(zR [] w2).alloc _;clear aJ b d aA bB
   go_loopg [15,44] N (λq rv iv wx=>q<=N/\iv=.int .i64 ((N-q:Nat):Int)/\∃A' c' rest v G ks,rv=.slice A' rest.length c'/\gh (rest=l.drop (jz ss (N-q)))/\gu vi w2 A' rest/\rest.length<=c'/\c'<=9223372036854775807/\rest.length<=4096 /\
    gn wx bp 123 #[i,v]/\gE wx 3 v G (ks.map i64)/\gh (ks=((ie ss l).map jx).take (N-q))/\gf [] w2 wx/\∀x∈G,w2.heap.size<x)
   .refine⟨zQ _,by simp,Al,a,l,.slice none 0 0,[],[],?_,gd (by simp[jz]),a5,?_,bl.o,?_,X,gE.nil _ _,gd (by simp),bH,by simp⟩
    .rw[<-HL.o]
    .rw[<-HL.o];exact b3.o
    .rw[<-HL.o];exact b6
   obtain⟨hq,rfl,A',c',rest,vp,Gp,ks,rfl,aj,bA,cr,cz,cC,J,af,W,ar,bK⟩:=hrel;have K:=gd bK;clear bK X bH;obtain⟨I,ad,rfl,-,-,-⟩:=af.oq;rcases gk with _|q
   .have t7:decide (((N-0:Nat):Int)<(N:Int))=false:=by simp
    have bD:=J.X 0;have bi:=J.X 1;simp at bD bi;have e2:((ie ss l).map jx).take (N-0)=(ie ss l).map jx:=(by rw[Nat.sub_zero,HN.o,<-nR ss l,<-zE (f:=jx),zN]);have a9:ks.length=N:=(by rw[W.o,e2,<-bm.o,aY.o,HN.o]);have a4:gu i64 wr I (j6 i n warm l):=by
     have C:=af.cells;rw[W.o,e2,<-bm.o]at C;exact C
    have R:=bn.o I ad wr a4 (a5.Y ar);have e3:(j6 i n warm l).length=N:=(by rw[aY.o,HN.o]);rw[e3]at R;have⟨CC,bv⟩:=zX (j8 (j6 i n warm l) (ie ss l));rw[<-bv]at R;have Z:=a0.o;rw[<-bv]at Z;have aZ:=gd Z;rw[a9]at bi J af;have a1:gh (ks=j6 i n warm l):=gd (by rw[W.o,e2,bm.o]);clear e2 e3 bv Z a9 a4;go_wp2_with fail;refine R.mono ?_;rintro e w4 ⟨rfl,bs⟩;have aH:gf [] w2 w4:=ar.tq bs;have a3:=J.Z bs (by simp);have aC:=af.Y bs;have ag:=az.Z (S.tq aH) (by simp);have aQ:=al.Y (S.tq aH);have aM:gf [bb] wA w4:=aq.tq ((S.tq aH).mono (by simp));have bD:=a3.X 0;have bi:=a3.X 1;have cn:=ag.X 0;have co:=ag.X 1;have⟨cA,cB⟩:=pt ag 0 1;simp at bD bi cn co;clear R;by_cases hc0:y=0
    .have t8:((y:Int)==0)=true:=by rw[beq_iff_eq];omega
     have E:=aZ.o;rw[if_pos (.inl hc0)]at E;have ao:=gd E;clear E hc0;go_wp2_with fail
     go_roundg j
     .rw[HI.o]
      have O:=(ag.T 0 (.int .i64 i)).T 1 (.slice I N ad);have z:=(aC.R (p:=⟨bb,0,none⟩) (λg=>by have u:=K.o _ g;have Q:=U.size;simp at u;omega) (.int .i64 i)).R (p:=⟨bb,1,none⟩) (λg=>by have u:=K.o _ g;have Q:=U.size;simp at u;omega) (.slice I N ad);rw[a1.o]at z;refine⟨by omega,by go_num,i,j6 i n warm l,CC,.slice I N ad,Gp,rfl,ao,by simpa using O,z,(aM.setCell (by simp) _).setCell (by simp) _,λx k=>?_⟩;have u:=K.o x k;have Q:=U.size;omega
     .omega
    .have t8:((y:Int)==0)=false:=by rw[beq_eq_false_iff_ne];omega
     by_cases hc1:CC<y
     .have t9:decide (CC<y)=true:=by simpa using hc1
      have E:=aZ.o;rw[if_pos (.inr hc1)]at E;have ao:=gd E;clear E hc0;go_wp2_with fail
      go_roundg j
      .rw[HI.o]
       have O:=(ag.T 0 (.int .i64 i)).T 1 (.slice I N ad);have z:=(aC.R (p:=⟨bb,0,none⟩) (λg=>by have u:=K.o _ g;have Q:=U.size;simp at u;omega) (.int .i64 i)).R (p:=⟨bb,1,none⟩) (λg=>by have u:=K.o _ g;have Q:=U.size;simp at u;omega) (.slice I N ad);rw[a1.o]at z;refine⟨by omega,by go_num,i,j6 i n warm l,CC,.slice I N ad,Gp,rfl,ao,by simpa using O,z,(aM.setCell (by simp) _).setCell (by simp) _,λx k=>?_⟩;have u:=K.o x k;have Q:=U.size;omega
      .omega
     .have t9:decide (CC<y)=false:=by simpa using hc1
      have E:=aZ.o;rw[if_neg (by rintro(h|h);exact hc0 h;exact hc1 h)]at E;have ao:=gd E;clear E hc0;go_wp2_with fail
      go_roundg j
      .rw[HI.o]
       exact⟨by omega,by go_num,D,t,y,_,G,rfl,ao,ag,aQ,aM,HG.o⟩
      .omega
   .have⟨m,bS⟩:=zX (N-(q+1))
    rw[<-bS]at aj W⊢;have cj:m<N:=(by omega);have bT:N-q=m+1:=(by omega);have HM:=gd bT;have Y:m<ss.length:=(by rw[<-HN.o];exact cj);obtain⟨cv,cD,rfl,aL⟩:=(cd.Y ar).i64_at Y;have aO:=qp ss l m Y;have a8:=qS ss m Y;have bh:=vS l ss m Y;rw[<-aj.o]at aO bh;have bQ:m<((ie ss l).map jx).length:=(by rw[zE,nR];exact Y);have ba:=jd ((ie ss l).map jx) bQ;have bR:((ie ss l).map jx)[m]=jx (rest.take ss[m]):=by
     have C:((ie ss l).map jx)[m]?=some (jx (rest.take ss[m])):=(by rw[zW,aO];rfl);exact(List.getElem?_eq_some_iff.1 C).2
    rw[bR,<-W.o]at ba;have⟨s,hs⟩:=zX (ss[m]);rw[<-hs]at aL a8 bh ba;have ct:s<=rest.length:=by
     have:=bo.o
     have:=b2.o
     have:=HL.o
     rw[aj.o,zO];omega
    have bY:∀x∈rest.take s,ib x:=λx k=>HW.o x (by
     have:=mem_of_mem_take k
     rw[aj.o]at this;exact mem_of_mem_drop this)
    have bc:(rest.take s).length=s:=(by rw[zI];omega);have cc:=(bA.take s).Y ar;have aN:=Kd (rest.take s) A' c' wr.drew bY (cc.Y (zR [] wr).drew) (by omega);rw[bc]at aN;obtain⟨A3,bX,-,a7⟩:=sC (P:=prog) underlying22 oY A' rest.length c' s ct cr;have a6:=a7 Int vi w2 rest rfl bA;have bF:gh (rest.drop s=l.drop (jz ss (m+1))):=gd bh;have bM:rest.length-s=(rest.drop s).length:=(by rw[zO]);rw[bM]at bX;have bV:(rest.drop s).length<=4096:=(by rw[zO];omega);have bW:(rest.drop s).length<=c'-s:=(by rw[zO];omega);have⟨be,au⟩:=zX (rest.drop s);rw[<-au]at bX bV bW a6 bF;have cs:s<=c':=(by omega);have⟨kc,bP⟩:=zX (jx (rest.take s));rw[<-bP]at aN ba;have b1:=gd ba;have ch:ks.length<=256:=(by rw[W.o,zI];omega);have ce:=J.X 1;simp at ce;clear ba bR bQ aO bh hs bY a7 a8 bM au Y bS bT bA bc bP;have a2:bp∉Gp:=λg=>by have:=K.o _ g;have:=aD.o;omega
    have bL:=J.alloc (.cells #[kc] 3);have n1:(wr.alloc (Obj.cells #[kc] 3)).cell? ⟨bp,1,none⟩=some (.slice I ks.length ad):=(by simpa using bL.X 1);clear bL;go_wp2_with fail
    go_region_law (first|(refine oT (by rfl) (by rfl) iJ (by rfl) (by rfl) ((af.alloc (.cells #[kc] 3)).drew) (.int .i64 kc) (by rfl) (by simp[go_sem]) (by rfl) (by rw[zE];omega) (by rw[zE];omega) ?_;intro g2 ax w3 cp bf;have M:gn w3 bp 123 #[i,.slice I ks.length ad]:=((J.alloc (.cells #[kc] 3)).drew).Z bf.Z a2;have y1:=M.X 1;have z1:=M.V 1;simp at y1)|(go_simp;go_at_call 270;refine gx aN ?_))
    all_goals
     go_wp2_with fail
     go_roundg q
     .rw[HM.o]
      have O:=M.T 1 (.slice g2 (ks.length+1) ax);have cf:g2≠bp:=by
       intro he;rcases bf.new g2 (by simp)with C|C
       .exact a2 (he ▸ C)
       .have Q:=J.lt
        simp at C;omega
      have cq:=cp.R (p:=⟨bp,1,none⟩) cf (.slice g2 (ks.length+1) ax);have z:=cq.S;have e5:(map i64 ks).length=ks.length:=zE _;rw[e5]at z;have b4:gf [] w2 w3:=((ar.alloc (.cells #[kc] 3)).drew).trans bf.Z (λx k=>.inr (Nat.le_of_lt (K.o x k)));refine⟨by omega,by go_num,A3,_,be,.slice g2 (ks.length+1) ax,[g2],ks++[kc],rfl,bF,a6,bW,by omega,bV,?_,?_,gd ?_,?_,?_⟩
      .simpa using O
      .simpa[i64]using z
      .rw[b1.o]
      .exact b4.setCell (.inr (by have:=aD.o;simp;omega)) _
      .intro x k
       have cu:x=g2:=(by simpa using k);rcases bf.new x (by simp[cu])with C|C
       .exact K.o _ C
       .have Q:=J.lt
        have:=aD.o
        simp at C;omega
     .omega
theorem BZ{α:Type}{f:α->Value}{w:World}{A:Option Addr}{l:List α}{c lo hi m:Nat}(g:gu f w A l)(j:hi=lo+m)(h:hi<=l.length)(k:l.length<=c):gu f w (if c=lo then A else Option.map (λx=>x.add lo) A) ((l.drop lo).take m):=by
 refine⟨λh0=>?_⟩;rw[zI,zO]at h0;obtain⟨b,o,rfl,e,d⟩:=g.ex (by omega);rw[if_neg (by omega)];refine⟨b,o+lo,?_,e,λi a ha=>?_⟩
 .simp only[Option.map_some,Addr.add]
  split
  .rename_i h;subst h;rfl
  .rfl
 .rw[getElem?_take]at ha
  split at ha
  .rw[getElem?_drop]at ha
   have:=d (lo+i) a ha
   rwa [<-Nat.add_assoc]at this
  .cases ha
theorem Lm(o n warm:Nat)(w:World)(k:o<=8)(g:1<=n)(i:n<=4096)(j:warm<=n)(a:io o n warm=[]):Calls prog 219 #[.agg #[.int .i64 o,.slice none 0 0],n,warm] w λe w'=>e=.returned (.bool false)/\gf [] w w':=by
 have b:=λw'=>sM o n warm w' k g i j;rw[a]at b;go_enter func219,ntmps219;go_wp2_with fail;refine(b _).mono ?_;rintro e t ⟨v,G,rfl,f,ad,q⟩;obtain⟨l,m,rfl,d,p,-⟩:=f.oq;rw[length_nil]at d⊢;go_wp2;go_ret;exact⟨rfl,((zR [] w).alloc _).tq ad⟩
theorem JC(o n warm:Nat)(w:World)(L:Nat)(d:Option Addr)(a:Nat)(l:o<=8)(g:1<=n)(i:n<=4096)(j:warm<=n)(b:io o n warm=[]):Calls prog 146 #[.agg #[.int .i64 o,.slice none 0 0],n,warm,.slice d L a] w λe w'=>e=.returned (.int .i64 0)/\gf [] w w':=by
 have k:=λw'=>Lm o n warm w' l g i j b;clear b;go_enter func146,ntmps146;go_wp2_with fail;refine(k _).mono ?_;rintro e m ⟨rfl,f⟩;go_wp2;go_ret;exact⟨rfl,((zR [] w).alloc _).tq f⟩
theorem Lk(n warm most:Nat)(l:List Int)(K:Option Addr)(capl:Nat)(w:World)(I:1<=n)(t:n<=4096)(h3:warm<=n)(g:most<=8)(R:l.length=n-warm)(hw:∀x∈l,ib x)(E:gu vi w K l)(a:l.length<=capl)(D:capl<=9223372036854775807):Calls prog 105 #[n,warm,most,.slice K l.length capl] w λe J=>∃v G,e=.returned (.tuple #[.agg #[.int .i64 (jF n warm most l).order,v],(0:Int)])/\gE J 3 v G ((jF n warm most l).ks.map i64)/\gf [] w J/\∀x∈G,w.heap.size<=x:=by
 have⟨L,hL⟩:=zX l.length;have aj:=λw hc=>xj l K capl w hw hc (by omega);have ay:=λo (ho:o<=8) w=>sM o n warm w ho I t h3;have S:=λo (ho:o<=8) (hne:io o n warm≠[]) A cap w hc E=>Do o n warm (j6 o n warm l) A cap l K capl w ho I t h3 hne (ui o n warm l) (Dg o n warm l) hc R hw E a D;rw[<-hL]at aj S R a⊢;have aI:=gd aj;have bE:=λJ=>Dp n warm J I t h3;have bd:=λo (ho:o<=8) (hne:io o n warm=[]) J=>JC o n warm J L K capl ho I t h3 hne;have bo:=gd bd;have cI:(((L:Nat):Int) != (n:Int)-(warm:Int))=false:=by rw[bne_eq_false_iff_eq];omega
 have⟨aJ,aX,HW,HL⟩:=gz ay S hw hL;have ca:=gd R;have cB:L<=4096:=by omega
 have co:max (most:Int) 0=(most:Int):=by omega
 have cp:min (most:Int) 8=(most:Int):=by omega
 have O:jF n warm most l=mH n warm l (most+1):=by unfold jF;rw[Nat.min_eq_left g]
 have b2:=gd O;clear aj ay S hw hL R O bd;go_enter func105,ntmps105;have bH:gf [] w (w.alloc (.cells #[(0:Int),.slice none 0 0] 123)):=(zR [] w).alloc _;have bM:=aI.o _ (E.Y bH)
 go_wp2_with(first|(go_at_call 142;refine gx (bE _) ?_)|(go_at_call 143;refine gx bM ?_))
 clear bM;have M:=(gn.new (w.alloc (.cells #[(0:Int),.slice none 0 0] 123)) 123 #[(0:Int),.slice none 0 0]);have bj:=(gn.new w 123 #[(0:Int),.slice none 0 0]).alloc (.cells #[(0:Int),.slice none 0 0] 123);have bw:gf [] w ((w.alloc (.cells #[(0:Int),.slice none 0 0] 123)).alloc (.cells #[(0:Int),.slice none 0 0] 123)):=((zR [] w).alloc _).alloc _;have aR:w.heap.size≠w.heap.size+1:=by omega
 have bh:(w.alloc (.cells #[(0:Int),.slice none 0 0] 123)).heap.size=w.heap.size+1:=by simp
 rw[bh]at M;generalize hwA:(w.alloc (.cells #[(0:Int),.slice none 0 0] 123)).alloc (.cells #[(0:Int),.slice none 0 0] 123)=wA at *;have⟨br,aN⟩:=zX w.heap.size;have⟨bb,aL⟩:=zX (w.heap.size+1);rw[<-aL]at aR M⊢;rw[<-aN]at aR bj⊢;have cm:=M.lt;have⟨b3,bF,bn⟩:=gS aN aL E;clear bh hwA aN aL bH E
 go_loopg [11,12] (most+1) (λj lv ov wr=>j<=most+1/\ov=.int .i64 ((most+1-j:Nat):Int)/\∃z k y v G,lv=.int .i64 ((y:Nat):Int)/\gh (mH n warm l (most+1-j)=⟨z,k,y⟩) /\
   gn wr bb 123 #[.int .i64 ((z:Nat):Int),v]/\gE wr 3 v G (k.map i64)/\gf [bb] wA wr/\∀x∈G,wA.heap.size<=x)
 .exact⟨zQ _,by simp,0,[],0,.slice none 0 0,[],rfl,gd (by simp[mH]),M,gE.nil _ _,zR _ _,by simp⟩
 obtain⟨hj,rfl,z,k,y,v,G,rfl,bv,aC,al,ax,hG⟩:=hrel;have HG:=gd hG;obtain⟨Y,am,rfl,-,-,-⟩:=al.oq;clear hG M;rcases gk with _|j
 .have t4:decide ((most:Int)+1<=(most:Int))=false:=zA (by omega)
  have au:=bj.Z ax (by simpa using aR);have cf:=aC.X 0;have cg:=aC.X 1;have ch:=au.X 0;have ci:=au.X 1;have⟨cC,cD⟩:=pt au 0 1;simp at cf cg ch ci;go_wp2_with fail;have hF:=(au.T 0 (.int .i64 z)).T 1 (.slice Y k.length am);have cq:=(al.R (p:=⟨br,0,none⟩) (λg=>by have u:=HG.o _ g;have Q:=bj.lt;simp at u;omega) (.int .i64 z)).R (p:=⟨br,1,none⟩) (λg=>by have u:=HG.o _ g;have Q:=bj.lt;simp at u;omega) (.slice Y k.length am);have cc:gf [bb,br] wA ((wr.setCell br (.int .i64 z)).setCell ⟨br,1,none⟩ (.slice Y k.length am)):=((ax.mono (by simp)).setCell (by simp) _).setCell (by simp) _;generalize hwF:(wr.setCell br (.int .i64 z)).setCell ⟨br,1,none⟩ (.slice Y k.length am)=wF at *;have bJ:=hF.X 0;have bK:=hF.X 1;simp at bJ bK;have e1:jF n warm most l=⟨z,k,y⟩:=by rw[b2.o,<-bv.o];rfl
  refine bodyPost_ret (v:=.tuple #[.agg #[.int .i64 z,.slice Y k.length am],(0:Int)]) (by simp[results,results105,go_sem,bJ,bK]) rfl ⟨.slice Y k.length am,G,?_,?_,?_,?_⟩
  .rw[e1]
  .rw[e1];exact cq
  .refine bw.trans cc ?_
   intro x b;right
   have:=b3.o
   have:=bF.o
   simp at b;omega
  .intro x b
   have:=HG.o x b
   have:=bw.size
   omega
 .have⟨i,bS⟩:=zX (most+1-(j+1))
  rw[<-bS]at bv⊢;have ck:i<=most:=by omega
  have bT:most+1-j=i+1:=by omega
  have HI:=gd bT;have t4:decide (i<=most)=true:=zB ck;clear bS bT;have V:=uj n warm l i;rw[bv.o]at V;have bk:i<=8:=by omega
  go_wp2_with fail;refine(aJ.o i bk _).mono ?_;rintro e w2 ⟨v2,G2,rfl,ak,T,cA⟩;obtain⟨A2,ar,rfl,aE,bB,-⟩:=ak.oq;by_cases hne:io i n warm=[]
  .have aW:mH n warm l (i+1)=⟨z,k,y⟩:=by rw[V,pM,if_pos hne]
   have aZ:=gd aW;have bC:=bo.o i bk hne;rw[hne]at ak aE⊢;clear hne V aW;simp only[length_nil];go_wp2_with fail
   go_loopg [16] 0 (λq iv wx=>iv=.int .i64 0/\wx=w2.alloc (.cells #[i,.slice none 0 0] 123))
   .exact⟨rfl,rfl⟩
   obtain⟨rfl,rfl⟩:=hrel;have O:=gn.new w2 123 #[i,.slice none 0 0];have be:=O.X 0;have Z:=O.X 1;simp at be Z;have bC:=bC (w2.alloc (.cells #[i,.slice none 0 0] 123));go_wp2_with fail;refine bC.mono ?_;rintro e w4 ⟨rfl,a3⟩;have W:gf [] w2 w4:=((zR [] w2).alloc _).tq a3;go_wp2_with fail
   go_roundg j
   .rw[HI.o]
    exact⟨by omega,by go_num,z,k,y,_,G,rfl,aZ,(aC.Z T (by simp)).Z W (by simp),(al.Y T).Y W,(ax.tq (T.mono (by simp))).tq (W.mono (by simp)),HG.o⟩
   .omega
  .have hN:=pI hne
   have aU:=qZ hne;have⟨ss,bm⟩:=zX (io i n warm);have bA:2^i<=256:=Nat.pow_le_pow_right (n:=2) (j:=8) (by decide) bk;have bz:=Nat.two_pow_pos i;rw[<-hN]at bz bA;have aT:=aX.o i bk hne;rw[pM,if_neg hne]at V;rw[<-bm]at hN aU ak aE bz bA V aT⊢;have bf:j6 i n warm l=(ie ss l).map jx:=(by unfold j6;rw[<-bm]);have aG:=ui i n warm l;rw[<-bm]at aG;have⟨N,bx⟩:=zX ss.length;rw[<-bx]at bz bA aE aG⊢;have⟨HN,a0,bs,bq⟩:=gz bx V aT bf;have⟨aY,bu⟩:=gy aG aU;clear hN aU bm V aT bf aG bx hne;go_wp2_with fail;have O:=gn.new w2 123 #[i,.slice none 0 0];have X:gf [bb] wA w2:=ax.tq (T.mono (by simp));have bP:gu i64 w2 A2 ss:=(by have:=ak.cells;exact this);have a9:=bn.o.Y (bw.trans X (by
    intro x b;right
    have:=bF.o
    simp at b;omega))
   have⟨bp,aM⟩:=zX w2.heap.size;rw[<-aM]at O⊢;have aA:=gd aM;have bG:gh (L<=capl):=gd a;have a2:gf [] w2 (w2.alloc (.cells #[i,.slice none 0 0] 123)):=(zR [] w2).alloc _;clear aM a D aE bB
   go_loopg [14,16] N (λq av iv wx=>∃(m:Nat) (v:Value) (G:List Nat) (ks:List Nat),iv=.int .i64 m/\m+q=N/\av=.int .i64 ((jz ss m:Nat):Int) /\
    gn wx bp 123 #[i,v]/\gE wx 3 v G (ks.map i64)/\gh (ks=((ie ss l).map jx).take m)/\gf [] w2 wx/\∀x∈G,w2.heap.size<x)
   .exact⟨0,.slice none 0 0,[],[],rfl,by omega,by simp[jz],O,gE.nil _ _,gd (by simp),a2,by simp⟩
   obtain⟨m,vp,Gp,ks,rfl,cE,rfl,P,af,a1,ao,bL⟩:=hrel;have H:=gd bL;clear bL O a2;obtain⟨F,ad,rfl,-,-,-⟩:=af.oq;rcases gk with _|q
   .obtain rfl:m=N:=by omega
    have t7:decide (m<m)=false:=(by simp);have be:=P.X 0;have Z:=P.X 1;simp at be Z;have e2:((ie ss l).map jx).take (m)=(ie ss l).map jx:=(by rw[HN.o,<-nR ss l,<-zE (f:=jx),zN]);have bc:ks.length=m:=(by rw[a1.o,e2,<-bq.o,aY.o,HN.o]);have a8:gu i64 wr F (j6 i n warm l):=by
     have d:=af.cells;rw[a1.o,e2,<-bq.o]at d;exact d
    have S:=bs.o F ad wr a8 (a9.Y ao);have e3:(j6 i n warm l).length=m:=(by rw[aY.o,HN.o]);rw[e3]at S;have⟨CC,bi⟩:=zX (j8 (j6 i n warm l) (ie ss l));rw[<-bi]at S;have aW:=a0.o;rw[<-bi]at aW;have⟨aZ,b4⟩:=gy aW bi;rw[bc]at Z P af;have a5:gh (ks=j6 i n warm l):=gd (by rw[a1.o,e2,bq.o]);clear e2 e3 bi aW bc a8;go_wp2_with fail;refine S.mono ?_;rintro e w4 ⟨rfl,a3⟩;have W:gf [] w2 w4:=ao.tq a3;have a7:=P.Z a3 (by simp);have aH:=af.Y a3;have ah:=aC.Z (T.tq W) (by simp);have aS:=al.Y (T.tq W);have aO:gf [bb] wA w4:=ax.tq ((T.tq W).mono (by simp));have be:=a7.X 0;have Z:=a7.X 1;have cr:=ah.X 0;have cs:=ah.X 1;have⟨cF,cG⟩:=pt ah 0 1;simp at be Z cr cs;have cJ:decide (0<CC)=true:=zB (by rw[b4.o];have:=xT (j6 i n warm l) (ie ss l);omega);clear S;by_cases hc0:y=0
    .have t8:((y:Int)==0)=true:=by rw[beq_iff_eq];omega
     have C:=aZ.o;rw[if_pos (.inl hc0)]at C;have aq:=gd C;clear C hc0;go_wp2_with fail
     go_roundg j
     .rw[HI.o]
      have I:=(ah.T 0 (.int .i64 i)).T 1 (.slice F m ad);have t:=(aH.R (p:=⟨bb,0,none⟩) (λg=>by have u:=H.o _ g;have Q:=X.size;simp at u;omega) (.int .i64 i)).R (p:=⟨bb,1,none⟩) (λg=>by have u:=H.o _ g;have Q:=X.size;simp at u;omega) (.slice F m ad);rw[a5.o]at t;refine⟨by omega,by go_num,i,j6 i n warm l,CC,.slice F m ad,Gp,rfl,aq,by simpa using I,t,(aO.setCell (by simp) _).setCell (by simp) _,λx b=>?_⟩;have u:=H.o x b;have Q:=X.size;omega
     .omega
    .have t8:((y:Int)==0)=false:=by rw[beq_eq_false_iff_ne];omega
     by_cases hc1:CC<y
     .have t9:decide (CC<y)=true:=by simpa using hc1
      have C:=aZ.o;rw[if_pos (.inr hc1)]at C;have aq:=gd C;clear C hc0;go_wp2_with fail
      go_roundg j
      .rw[HI.o]
       have I:=(ah.T 0 (.int .i64 i)).T 1 (.slice F m ad);have t:=(aH.R (p:=⟨bb,0,none⟩) (λg=>by have u:=H.o _ g;have Q:=X.size;simp at u;omega) (.int .i64 i)).R (p:=⟨bb,1,none⟩) (λg=>by have u:=H.o _ g;have Q:=X.size;simp at u;omega) (.slice F m ad);rw[a5.o]at t;refine⟨by omega,by go_num,i,j6 i n warm l,CC,.slice F m ad,Gp,rfl,aq,by simpa using I,t,(aO.setCell (by simp) _).setCell (by simp) _,λx b=>?_⟩;have u:=H.o x b;have Q:=X.size;omega
      .omega
     .have t9:decide (CC<y)=false:=by simpa using hc1
      have C:=aZ.o;rw[if_neg (by rintro(h|h);exact hc0 h;exact hc1 h)]at C;have aq:=gd C;clear C hc0;go_wp2_with fail
      go_roundg j
      .rw[HI.o]
       exact⟨by omega,by go_num,z,k,y,_,G,rfl,aq,ah,aS,aO,HG.o⟩
      .omega
   .have cn:m<N:=by omega
    have U:m<ss.length:=(by rw[<-HN.o];exact cn);obtain⟨ce,cx,rfl,aw⟩:=(bP.Y ao).i64_at U;have aF:=qp ss l m U;have aP:=qS ss m U;have bg:=r8 ss m U;have bW:m<((ie ss l).map jx).length:=(by rw[zE,nR];exact U);have bl:=jd ((ie ss l).map jx) bW;have⟨s,hs⟩:=zX (ss[m]);have⟨lo,bY⟩:=zX (jz ss m);have⟨hi_,bD⟩:=zX (jz ss (m+1));rw[<-hs]at aw aP bg aF;rw[<-bY]at aF aP bg⊢;rw[<-bD]at bg;have bX:((ie ss l).map jx)[m]=jx ((l.drop lo).take s):=by
     have d:((ie ss l).map jx)[m]?=some (jx ((l.drop lo).take s)):=(by rw[zW,aF];rfl);exact(List.getElem?_eq_some_iff.1 d).2
    rw[bX,<-a1.o]at bl;have cv:hi_<=L:=by
     have:=bu.o
     have:=ca.o
     omega
    have b1:∀x∈(l.drop lo).take s,ib x:=λx b=>HW.o x (mem_of_mem_drop (mem_of_mem_take b));have bf:((l.drop lo).take s).length=s:=(by rw[zI,zO,<-HL.o];omega);have bO:gu vi wr.drew (if capl=lo then K else Option.map (λx=>x.add lo) K) ((l.drop lo).take s):=BZ ((a9.Y ao).drewN 1) bg (by rw[<-HL.o];exact cv) (by rw[<-HL.o];exact bG.o);have an:=Ju ((l.drop lo).take s) _ (capl-lo) wr.drew b1 bO (by omega);have b0:s=hi_-lo:=(by omega);rw[bf]at an;have cd:(lo:Int)+(s:Int)=(hi_:Int):=(by omega);have bZ:lo<=hi_:=(by omega);have d:hi_<=4096:=(by omega);have cz:hi_<=capl:=(by have:=bG.o;omega);have⟨kc,bV⟩:=zX (jx ((l.drop lo).take s));rw[<-bV]at an bl;rw[b0]at an;obtain⟨A3,bI⟩:∃A3,(if capl=lo then K else Option.map (λx=>x.add lo) K)=A3:=⟨_,rfl⟩;rw[bI]at an;have⟨b9,b5,b7⟩:=gS bl an bD;have bQ:∀J,gf [] w2 J->J.cell? ⟨ce,cx+m,none⟩=some (.int .i64 s):=λJ hc'=>by
     obtain⟨g9,o9,e9,d⟩:=(bP.Y hc').i64_at U;injection e9 with e9;injection e9 with e9 e10;subst e9;subst e10;rw[hs];exact d
    have b6:=gd bQ;have cl:ks.length<=256:=(by rw[a1.o,zI];omega);have bR:=P.X 1;simp at bR;clear bl bX bW aF hs b1 aP U bf bV an bO bg bY bD bQ b0;have a6:bp∉Gp:=λg=>by have:=H.o _ g;have:=aA.o;omega
    have bN:=P.alloc (.cells #[kc] 3);have n1:(wr.alloc (Obj.cells #[kc] 3)).cell? ⟨bp,1,none⟩=some (.slice F ks.length ad):=(by simpa using bN.X 1);have ba:=b5.o;have cy:IntKind.i64.wrap (hi_:Int)=(hi_:Int):=IntWalk.i64_in _ (by omega);clear bN;go_wp2_with fail
    go_region_law (first|(refine oT (by rfl) (by rfl) iJ (by rfl) (by rfl) ((af.alloc (.cells #[kc] 3)).drew) (.int .i64 kc) (by rfl) (by simp[go_sem]) (by rfl) (by rw[zE];omega) (by rw[zE];omega) ?_;intro g2 ar w3 ct a4;have M:gn w3 bp 123 #[i,.slice F ks.length ad]:=((P.alloc (.cells #[kc] 3)).drew).Z a4.Z a6;have y1:=M.X 1;have z1:=M.V 1;try simp at y1)|(go_simp;go_at_call 145;refine gx ba ?_))
    all_goals
     have a2:gf [] w2 w3:=((ao.alloc (.cells #[kc] 3)).drew).trans a4.Z (λx b=>.inr (Nat.le_of_lt (H.o x b)));have cH:=b6.o _ (a2.setCell (p:=⟨bp,1,none⟩) (.inr (by have:=aA.o;simp;omega)) (.slice g2 (ks.length+1) ar));clear aw bR a2 n1 ba bI;go_wp2_with fail
     go_roundg q
     .have I:=M.T 1 (.slice g2 (ks.length+1) ar)
      have cj:g2≠bp:=by
       intro he;rcases a4.new g2 (by simp)with d|d
       .exact a6 (he ▸ d)
       .have Q:=P.lt
        simp at d;omega
      have cu:=ct.R (p:=⟨bp,1,none⟩) cj (.slice g2 (ks.length+1) ar);have t:=cu.S;have e5:(map i64 ks).length=ks.length:=zE _
      try rw[e5]at t
      have cb:gf [] w2 w3:=((ao.alloc (.cells #[kc] 3)).drew).trans a4.Z (λx b=>.inr (Nat.le_of_lt (H.o x b)));refine⟨m+1,.slice g2 (ks.length+1) ar,[g2],ks++[kc],by go_num,by omega,by rw[<-b7.o],?_,?_,gd ?_,?_,?_⟩
      .simpa using I
      .simpa[i64]using t
      .rw[b9.o]
      .exact cb.setCell (.inr (by have:=aA.o;simp;omega)) _
      .intro x b
       have cw:x=g2:=(by simpa using b);rcases a4.new x (by simp[cw])with d|d
       .exact H.o _ d
       .have Q:=P.lt
        have:=aA.o
        simp at d;omega
     .omega
theorem sm(l:List Int)(A:Option Addr)(cap d:Nat)(w:World)(k:1<=d)(m:d<=16)(q:l.length<=1048576)(f:gU d l)(p:gu vi w A l):Calls prog 93 #[.slice A l.length cap,d] w λe w'=>e=.returned (.bool true)/\w=w':=by
 obtain⟨y,z⟩:=jl k m;have⟨n,hn⟩:=zX l.length;rw[<-hn]at q⊢;have⟨HN,HS⟩:=gy hn f;clear hn f;go_enter func93,ntmps93;go_wp2_with fail
 go_loopg [5] n (λj iv wr=>∃i:Nat,iv=.int .i64 i/\i+j=n/\w=wr)
 .exact⟨0,rfl,by omega,rfl⟩
 obtain⟨i,rfl,ad,rfl⟩:=hrel;rcases gk with _|j
 .obtain rfl:i=n:=by omega
  have C:decide (i<i)=false:=by simp
  go_wp2;go_ret;exact⟨rfl,rfl⟩
 .have hi:i<n:=by omega
  have b:i<l.length:=by rw[<-HN.o];exact hi
  obtain⟨g,o,rfl,a⟩:=p.at_ b;obtain⟨t,u⟩:=HS.o _ (zG b);have⟨x,hx⟩:=zX (l[i]);rw[<-hx]at a t u;have v:w.cell? ⟨g,o+i,none⟩=some (.int .i64 x):=a;have D:decide (x<0)=false:=zA (by omega);have E:decide ((2:Int)^d<=x)=false:=zA (by omega);clear a hx b;go_wp2
  go_roundg j
  .exact⟨i+1,by go_num,by omega,rfl⟩
  .omega
theorem ul(l:List Int)(A:Option Addr)(cap W H d:Nat)(w:World)(i:1<=W)(b:W<=64)(f:1<=H)(a:H<=64)(k:1<=d)(m:d<=16)(g:l.length=W*H)(p:gU d l)(o:gu vi w A l):Calls prog 66 #[.slice A l.length cap,W,H,d] w λe w'=>e=.returned (.bool true)/\w=w':=by
 have u:W*H<=4096:=zL b a;have ad:=qo W w i b;have t:=qo H w f a;have q:=pG d w k m;have j:=sm l A cap d w k m (by omega) p o;have⟨n,hn⟩:=zX l.length;rw[<-hn]at j g⊢;have v:(W:Int)*(H:Int)=(n:Int):=by rw[g];simp
 clear hn g p o;go_enter func66,ntmps66;go_wp2_with fail;refine gx ad ?_;go_wp2_with fail;refine gx t ?_
 go_wp2_with(first|(go_at_call 60;refine gx q ?_)|(go_at_call 93;refine gx j ?_))
 go_ret;exact⟨rfl,rfl⟩
theorem Jv(ks:List Nat)(A:Option Addr)(cap H:Nat)(w:World)(a:∀k∈ks,k<10)(hH:ks.length=H)(l:ks.length<=64)(f:gu i64 w A ks):Calls prog 213 #[.slice A ks.length cap,H] w λe w'=>e=.returned (.bool true)/\w=w':=by
 subst hH;have⟨n,hn⟩:=zX ks.length;rw[<-hn]at l⊢;have⟨HN,HS⟩:=gy hn a;clear hn a;go_enter func213,ntmps213;go_wp2_with fail
 go_loopg [5] n (λj iv wr=>∃i:Nat,iv=.int .i64 i/\i+j=n/\w=wr)
 .exact⟨0,rfl,by omega,rfl⟩
 obtain⟨i,rfl,p,rfl⟩:=hrel;rcases gk with _|j
 .obtain rfl:i=n:=by omega
  have q:decide (i<i)=false:=by simp
  go_wp2;go_ret;exact⟨rfl,rfl⟩
 .have hi:i<n:=by omega
  have b:i<ks.length:=by rw[<-HN.o];exact hi
  obtain⟨g,o,rfl,d⟩:=f.i64_at b;have m:=HS.o _ (zG b);have⟨x,hx⟩:=zX (ks[i]);rw[<-hx]at d m;have t:=gL x 0 (by omega);have u:=gL 9 x (by omega);clear hx b;go_wp2
  go_roundg j
  .exact⟨i+1,by go_num,by omega,rfl⟩
  .omega
theorem Fl(f:Nat)(g:ll)(d:Nat)(w:World)(N:f<10)(t:1<=d)(u:d<=16)(J:oI d g):Calls prog 215 #[f,g.w,g.n,g.nw,g.ne,d] w λe w'=>e=.returned (.int .i64 (jL f g d))/\gf [] w w':=by
 have O:=gL f 0 (by omega);have P:=gL 9 f (by omega);obtain⟨L,M⟩:=jl t u;obtain⟨a,b,c,e⟩:=g;obtain⟨⟨y,C⟩,⟨E,F⟩,⟨c1,c2⟩,⟨H,I⟩⟩:=J;simp only at y C E F c1 c2 H I⊢;have p:=λw'=>pG d w' t u;have n:=sm [a,b,c,e] (some ⟨w.heap.size,0,none⟩) 4 d (w.alloc (.cells #[a,b,c,.int .i64 e] 3)) t u (by simp) (by
  intro s x;simp at x;rcases x with rfl|rfl|rfl|rfl<;>omega) ((gv.made w 3 ([a,b,c,e].map vi) (by simp[maxLen])).S.cells)
 have m:gf [] w (w.alloc (.cells #[a,b,c,.int .i64 e] 3)):=(zR [] w).alloc _;simp only[zK,length_nil]at n;have k:=λw'=>uU (a-(a+b-c)) w' (by unfold jB;omega);have j:=λw'=>uU (b-(a+b-c)) w' (by unfold jB;omega);have l:=λw'=>uU (c-(a+b-c)) w' (by unfold jB;omega);have ad:=If (a+b-c) a b c;have q:0<=iA a (a+b-c)/\0<=iA b (a+b-c)/\0<=iA c (a+b-c):=by unfold iA;refine⟨?_,?_,?_⟩<;>split<;>omega
 rw[Kn]at k j l;have⟨da,af⟩:=zX (iA a (a+b-c));have⟨db,ag⟩:=zX (iA b (a+b-c));have⟨dc,ah⟩:=zX (iA c (a+b-c));rw[<-af]at k ad q;rw[<-ag]at j ad q;rw[<-ah]at l ad q;have o:=gd ad;clear af ag ah ad;obtain rfl|rfl|rfl|rfl|rfl|rfl|rfl|rfl|rfl|rfl:f=0\/f=1\/f=2\/f=3\/f=4\/f=5\/f=6\/f=7\/f=8\/f=9:=by omega
 case inr.inr.inr.inr.inr.inr.inl=>
  have D:jL 6 ⟨a,b,c,e⟩ d=pL (a+b-c) a b c:=rfl;rw[D];by_cases c1:da<=db
  .have K:decide (da<=db)=true:=zB c1
   by_cases c2:da<=dc
   .have v:decide (da<=dc)=true:=zB c2
    have i:=o.o;rw[if_pos ⟨c1,c2⟩]at i;rw[<-i];clear i c1 c2;go_enter func215,ntmps215
    go_wp2_with(first|(go_at_call 60;refine gx (p _) ?_)|(go_at_call 93;refine gx n ?_))
    refine gx (k _) ?_;go_wp2_with fail;refine gx (j _) ?_;go_wp2_with fail;refine gx (k _) ?_;go_wp2_with fail;refine gx (l _) ?_;go_wp2;go_ret;exact⟨rfl,m⟩
   .have v:decide (da<=dc)=false:=zA c2
    have Q:decide (db<=dc)=false:=zA (by omega);have i:=o.o;rw[if_neg (λh=>c2 h.2),if_neg (by omega)]at i;rw[<-i];clear i c1 c2;go_enter func215,ntmps215
    go_wp2_with(first|(go_at_call 60;refine gx (p _) ?_)|(go_at_call 93;refine gx n ?_))
    refine gx (k _) ?_;go_wp2_with fail;refine gx (j _) ?_;go_wp2_with fail;refine gx (k _) ?_;go_wp2_with fail;refine gx (l _) ?_;go_wp2_with fail;refine gx (j _) ?_;go_wp2_with fail;refine gx (l _) ?_;go_wp2;go_ret;exact⟨rfl,m⟩
  .have K:decide (da<=db)=false:=zA c1
   by_cases c2:db<=dc
   .have v:decide (db<=dc)=true:=zB c2
    have i:=o.o;rw[if_neg (λh=>c1 h.1),if_pos c2]at i;rw[<-i];clear i c1 c2;go_enter func215,ntmps215
    go_wp2_with(first|(go_at_call 60;refine gx (p _) ?_)|(go_at_call 93;refine gx n ?_))
    refine gx (k _) ?_;go_wp2_with fail;refine gx (j _) ?_;go_wp2_with fail;refine gx (j _) ?_;go_wp2_with fail;refine gx (l _) ?_;go_wp2;go_ret;exact⟨rfl,m⟩
   .have v:decide (db<=dc)=false:=zA c2
    have i:=o.o;rw[if_neg (λh=>c1 h.1),if_neg c2]at i;rw[<-i];clear i c1 c2;go_enter func215,ntmps215
    go_wp2_with(first|(go_at_call 60;refine gx (p _) ?_)|(go_at_call 93;refine gx n ?_))
    refine gx (k _) ?_;go_wp2_with fail;refine gx (j _) ?_;go_wp2_with fail;refine gx (j _) ?_;go_wp2_with fail;refine gx (l _) ?_;go_wp2;go_ret;exact⟨rfl,m⟩
 all_goals
  clear k j l q o;go_enter func215,ntmps215
  go_wp2_with(first|(go_at_call 60;refine gx (p _) ?_)|(go_at_call 93;refine gx n ?_))
  all_goals
   go_ret
   first
    | exact⟨rfl,m⟩
    | exact⟨congrArg (λz=>Ending.returned (.int .i64 z)) (show _=max (min a b) (min (max a b) (a+b-c))by omega),m⟩
    | exact⟨congrArg (λz=>Ending.returned (.int .i64 z)) (show _=min (max (a+b-c) 0) (2^d-1)by omega),m⟩
theorem Cs(l:List Int)(A:Option Addr)(cap d:Nat)(w:World)(k:1<=d)(y:d<=16)(K:l.length<=65536)(J:gu vi w A l):Calls prog 77 #[.slice A l.length cap,d] w λe w'=>e=.returned (.int .i64 (ji l d))/\w=w':=by
 have⟨n,hn⟩:=zX l.length;rw[<-hn]at K⊢;have m:=gd hn;clear hn;go_enter func77,ntmps77;go_wp2_with fail
 go_loopg [5,6] n (λj sv iv wr=>∃i:Nat,iv=.int .i64 i/\i+j=n/\sv=.int .i64 (ji (l.take i) d)/\w=wr)
 .exact⟨0,rfl,by omega,rfl,rfl⟩
 obtain⟨i,rfl,M,rfl,rfl⟩:=hrel;rcases gk with _|j
 .obtain rfl:i=n:=by omega
  have N:decide (i<i)=false:=by simp
  have C:l.take i=l:=by rw[m.o,zN]
  rw[C];clear C;go_wp2;go_ret;exact⟨rfl,rfl⟩
 .have hi:i<n:=by omega
  have u:i<l.length:=by rw[<-m.o];exact hi
  obtain⟨g,o,rfl,p⟩:=J.at_ u;have a:=Bf (l.take i) l[i] d;rw[<-jd l u]at a;obtain⟨I,v⟩:=CF k y (l.take i);obtain⟨D,k1⟩:=xr k y l[i];rw[zI]at v;have⟨x,hx⟩:=zX (l[i]);rw[<-hx]at p a D k1;have ad:w.cell? ⟨g,o+i,none⟩=some (.int .i64 x):=p;have z:=q8 x d w k y;obtain⟨f1,f2⟩:=ny x k;have H:(2:Int)^(d-1)<=32768:=pz (n:=15) (by omega);have t:=uU (ii x d) w (by unfold jB;omega);have b:nD d x=iA (ii x d) 0:=rfl;have⟨f,hf⟩:=zX (ii x d);rw[<-hf]at z t b;have⟨s,ah⟩:=zX (ji (l.take i) d);have⟨q,hq⟩:=zX (iA f 0);rw[<-hq]at t b;rw[b]at a D k1;rw[<-ah]at a I v⊢;have F:(min i l.length:Int)<=65536:=by have:=m.o;omega
  have L:s<=2147483648:=by omega
  have E:=gd a;clear p hx a hf ah hq b v f1 f2 H F u
  go_wp2_with(first|(go_at_call 101;refine gx z ?_)|(go_at_call 100;refine gx t ?_))
  go_roundg j
  .exact⟨i+1,by go_num,by omega,by rw[E.o],rfl⟩
  .omega
theorem BI(l:List Int)(A:Option Addr)(cap d:Nat)(w:World)(v:1<=d)(y:d<=16)(D:l.length<=1048576)(C:gu vi w A l):Calls prog 93 #[.slice A l.length cap,d] w λe w'=>e=.returned (.bool (decide (gU d l)))/\w=w':=by
 obtain⟨J,K⟩:=jl v y;have⟨n,hn⟩:=zX l.length;rw[<-hn]at D⊢;have k:=gd hn;have⟨z,a⟩:=zX (decide (gU d l));rw[<-a];have p:=gd a;clear hn a;go_enter func93,ntmps93;go_wp2_with fail
 go_loopg [5] n (λj iv wr=>∃i:Nat,iv=.int .i64 i/\i+j=n/\gh (∀q (h:q<l.length),q<i->0<=l[q]/\l[q]<2^d)/\w=wr)
 .exact⟨0,rfl,by omega,gd (λq _ h=>by omega),rfl⟩
 obtain⟨i,rfl,I,m,rfl⟩:=hrel;rcases gk with _|j
 .obtain rfl:i=n:=by omega
  have E:decide (i<i)=false:=by simp
  have a:z=true:=by
   rw[p.o];refine zB λs hs=>?_;obtain⟨q,t,rfl⟩:=List.mem_iff_getElem.1 hs;exact m.o q t (by rw[k.o];exact t)
  subst a;go_wp2;go_ret;exact⟨rfl,rfl⟩
 .have hi:i<n:=by omega
  have E:decide (i<n)=true:=zB hi;have f:i<l.length:=by rw[<-k.o];exact hi
  obtain⟨g,o,rfl,b⟩:=C.at_ f;have⟨x,hx⟩:=zX (l[i]);rw[<-hx]at b;have H:w.cell? ⟨g,o+i,none⟩=some (.int .i64 x):=b;by_cases hok:0<=x/\x<2^d
  .have u:decide (x<0)=false:=zA (by omega)
   have F:decide ((2:Int)^d<=x)=false:=zA (by omega);have ad:gh (∀q (h:q<l.length),q<i+1->0<=l[q]/\l[q]<2^d):=gd λq h h2=>by
    by_cases e:q=i
    .subst e
     rw[<-hx];exact hok
    .exact m.o q h (by omega)
   clear b hx f hok;go_wp2
   go_roundg j
   .exact⟨i+1,by go_num,by omega,ad,rfl⟩
   .omega
  .have a:z=false:=by
    rw[p.o];refine zA λh=>hok ?_;rw[hx];exact h _ (zG f)
   subst a;clear b hx f;by_cases h2:x<0
   .have u:decide (x<0)=true:=zB h2
    clear hok;go_wp2;go_ret;exact⟨rfl,rfl⟩
   .have u:decide (x<0)=false:=zA h2
    have F:decide ((2:Int)^d<=x)=true:=zB (by omega);clear hok h2;go_wp2;go_ret;exact⟨rfl,rfl⟩
theorem Cy(x:Int)(w:World):Calls prog 85 #[x] w λe w'=>e=.returned (.bool (decide (1<=x)&&decide (x<=64)))/\w=w':=by
 go_enter func85,ntmps85;go_wp2
 all_goals
  go_ret;refine⟨?_,rfl⟩
  first|(simp[*];done)|(simp[*];omega)
theorem H4(x:Int)(w:World):Calls prog 60 #[x] w λe w'=>e=.returned (.bool (decide (1<=x)&&decide (x<=16)))/\w=w':=by
 go_enter func60,ntmps60;go_wp2
 all_goals
  go_ret;refine⟨?_,rfl⟩
  first|(simp[*];done)|(simp[*];omega)
def qN(W H d:Int)(l:List Int):Bool:=(decide (1<=W)&&decide (W<=64))&&(decide (1<=H)&&decide (H<=64))&&(decide (1<=d)&&decide (d<=16))&&rG W H d l
theorem JF(W H d:Int)(l:List Int)(A:Option Addr)(cap:Nat)(w:World)(E:l.length<=9223372036854775807)(v:gu vi w A l):Calls prog 66 #[.slice A l.length cap,W,H,d] w λe w'=>e=.returned (.bool (qN W H d l))/\w=w':=by
 have⟨z1,ad⟩:=zX ((decide (1<=W)&&decide (W<=64)));have⟨z2,ae⟩:=zX ((decide (1<=H)&&decide (H<=64)));have⟨z3,af⟩:=zX ((decide (1<=d)&&decide (d<=16)));have b:=λw'=>Cy W w';have f:=λw'=>Cy H w';have g:=λw'=>H4 d w';unfold qN rG;rw[<-ad]at b⊢;rw[<-ae]at f⊢;rw[<-af]at g⊢;have⟨n,hn⟩:=zX l.length;have j:l.length<=4096->1<=d->d<=16->∀w',gu vi w' A l->Calls prog 93 #[.slice A l.length cap,d] w' λe w''=>e=.returned (.bool (decide (gU d.toNat l)))/\w'=w''  :=λhl4 h1 h2 w' hc'=>by
  obtain⟨i,rfl⟩:∃i:Nat,d=(i:Int):=⟨d.toNat,by omega⟩;exact BI l A cap i w' (by omega) (by omega) (by omega) hc'
 rw[<-hn]at j E⊢;have q:z1=true->1<=W/\W<=64:=λh=>by simpa[h]using ad
 have t:z2=true->1<=H/\H<=64:=λh=>by simpa[h]using ae
 have u:z3=true->1<=d/\d<=16:=λh=>by simpa[h]using af
 have⟨HB,HW,HC⟩:=gS (And.intro q (And.intro t u)) j v;generalize decide (gU d.toNat l)=z5 at *;obtain⟨N,a⟩:∃N:Int,N=W*H:=⟨_,rfl⟩;rw[<-a];have⟨z4,ag⟩:=zX (decide ((n:Int)=N));rw[<-ag];have K:W*H=N:=a.symm;have⟨HN,ah⟩:=gy a ag;clear ad ae af q t u hn j v a ag;go_enter func66,ntmps66;go_wp2_with fail;refine gx (b _) ?_
 cases z1 with
 | false=>
  go_wp2;go_ret;exact⟨rfl,rfl⟩
 | true=>
  obtain⟨x,k⟩:=HB.o.1 rfl;go_wp2_with fail;refine gx (f _) ?_
  cases z2 with
  | false=>
   go_wp2;go_ret;exact⟨rfl,rfl⟩
  | true=>
   obtain⟨y,m⟩:=HB.o.2.1 rfl;go_wp2_with fail;refine gx (g _) ?_
   cases z3 with
   | false=>
    go_wp2;go_ret;exact⟨rfl,rfl⟩
   | true=>
    obtain⟨o,p⟩:=HB.o.2.2 rfl;have D:0<=N/\N<=4096:=by
     rw[HN.o];exact⟨Int.mul_nonneg (by omega) (by omega),Int.mul_le_mul k m (by omega) (by omega)⟩
    obtain⟨I,J⟩:=D;have z:=gd (λh4=>HW.o h4 o p);clear x k y m o p b f g;by_cases hlen:(n:Int)=N
    .have C:=gd (z.o (by omega))
     have F:((n:Int)==N)=true:=(by simp[hlen]);obtain rfl:z4=true:=by rw[ah.o];exact zB hlen
     clear hlen;go_wp2_with fail;refine gx (C.o _ HC.o) ?_;go_wp2;go_ret;exact⟨rfl,rfl⟩
    .have F:((n:Int)==N)=false:=by simp[hlen]
     obtain rfl:z4=false:=by rw[ah.o];exact zA hlen
     clear hlen;go_wp2;go_ret;exact⟨rfl,rfl⟩
theorem iH.isB_iff(r:iH):r.isB=true ↔ (1<=r.P.length/\r.P.length<=4)/\∀i,i<r.P.length->qN r.W r.H r.d (r.P.getD i [])=true:=by
 obtain⟨W,H,d,P⟩:=r;have g:∀i (hi:i<P.length),P.getD i []=P[i]:=λi hi=>by rw[zD,zF hi];rfl
 simp only[iH.isB,Bool.and_eq_true,uz,all_eq_true,qN,decide_eq_true_eq];constructor
 .rintro⟨⟨e,f,a,k,m⟩,j⟩
  exact⟨⟨by omega,by omega⟩,λi hi=>⟨⟨⟨e,f⟩,a⟩,by rw[g i hi];exact j _ (zG hi)⟩⟩
 .rintro⟨⟨e,f⟩,a⟩
  have b:=(a 0 (by omega)).1;refine⟨⟨b.1.1,b.1.2,b.2,by omega,by omega⟩,λl hl=>?_⟩;obtain⟨i,hi,rfl⟩:=List.mem_iff_getElem.1 hl;rw[<-g i hi];exact(a i hi).2
theorem zc{w:World}{r:iH}{A:Option Addr}{B:Nat->Option Addr}{c:Nat->Nat}{G:List Nat}(cap:Nat)(h:jH w r A B c G):Calls prog 34 #[ip r A cap] w λe w'=>e=.returned (.bool r.isB)/\gf [] w w':=by
 have p:=r.isB_iff;generalize r.isB=z at *;obtain⟨W,H,d,P⟩:=r;unfold ip;simp only at p⊢;have⟨n,hn⟩:=zX P.length;have⟨w1,af⟩:=zX (w.alloc (.cells #[W,H,d,.slice A n cap] 25));have t:=jD af;have⟨bb,ah⟩:=zX w.heap.size;have F:=qd af ah;have⟨h1,av,ao,ae⟩:=gz (h.Y t) af ah t;have ad:=gd F;have T:n<=9223372036854775807:=by rw[hn];exact h.many
 rw[<-hn]at p⊢;have⟨HZ,HN⟩:=gy p hn;clear af ah F t h hn p;go_enter func34,ntmps34;go_wp2_with fail;rw[<-av.o,<-ao.o]
 go_loopg [3] n (λj iv wr=>∃i:Nat,iv=.int .i64 i/\i+j=n/\i<=4/\gh (∀q,q<i->qN W H d (P.getD q [])=true)/\gh (gf [] w1 wr))
 .exact⟨0,rfl,by omega,by omega,gd (λq h=>by omega),gd (zR _ _)⟩
 obtain⟨i,rfl,X,M,E,a⟩:=hrel;have N:=(ad.o.Z a.o (by simp)).X 0;have O:=(ad.o.Z a.o (by simp)).X 1;have Q:=(ad.o.Z a.o (by simp)).X 2;have R:=(ad.o.Z a.o (by simp)).X 3;simp at N O Q R;rcases gk with _|j
 .obtain rfl:i=n:=by omega
  have S:decide (i<i)=false:=by simp
  by_cases h0:1<=i
  .have D:=iI 1 i (by omega)
   obtain rfl:z=true:=HZ.o.2 ⟨⟨h0,M⟩,E.o⟩;clear h0;go_wp2;go_ret;exact⟨rfl,ae.o.tq a.o⟩
  .have D:=kK 1 i (by omega)
   obtain rfl:z=false:=by
    cases z with
    | false=>rfl
    | true=>exact absurd (HZ.o.1 rfl).1.1 h0
   clear h0;go_wp2;go_ret;exact⟨rfl,ae.o.tq a.o⟩
 .have hi:i<n:=by omega
  have S:decide (i<n)=true:=zB hi;have x:i<P.length:=by rw[<-HN.o];exact hi
  have f:=h1.o.Y a.o;obtain⟨g,o,rfl,Y,v⟩:=f.ex (by show 0<P.length;omega);have u:=v i x;have⟨l,hl⟩:=zX (P.getD i []);have b:=λw' hc'=>JF W H d l (B i) (c i) w' (by rw[hl];exact f.few x) hc';have J:gh (∀q,gu vi (wr.drewN q) (B i) l):=gd λq=>by rw[hl];exact(f.Y ((zR [] wr).drewN q)).cells i x
  simp only at u;rw[<-hl]at u;have⟨m,hm⟩:=zX l.length;rw[<-hm]at u b;have⟨y,hy⟩:=zX (qN W H d l);rw[<-hy]at b;have L:=gd b;by_cases h4:i=4
  .have D:=iI 4 i (by omega)
   obtain rfl:z=false:=by
    cases z with
    | false=>rfl
    | true=>exact absurd (HZ.o.1 rfl).1.2 (by omega)
   have k:gh (∀q,gf [] w (wr.drewN q)):=gd λq=>ae.o.tq (a.o.drewN q);clear b v f hl hm hy h4;go_wp2_with fail;refine jE 14 (by kernel_rfl) (by kernel_rfl) ?_;simp only[take_succ_cons,take_zero,drop_succ_cons,drop_zero]
   repeat(go_big_quiet_step (fail))
   refine wpQuiet_nil ?_;intro _ C;obtain⟨nq,rfl⟩:=C;go_wp2;go_ret;exact⟨rfl,k.o _⟩
  .have D:=kK 4 i (by omega)
   have U:(0:Int)<=(i:Int):=(by omega);have V:(i:Int)<(n:Int):=(by omega);have k:gh (∀q,gf [] w1 (wr.drewN q)):=gd λq=>a.o.drewN q;have K:gh (y=true->∀q,q<i+1->qN W H d (P.getD q [])=true):=gd λhs q hq=>by
    by_cases e:q=i
    .subst e
     rw[<-hl,<-hy];exact hs
    .exact E.o q (by omega)
   have I:gh (y=false->z=false):=gd λhs=>by
    cases hz:z with
    | false=>rfl
    | true=>
     have:=(HZ.o.1 hz).2 i hi
     rw[<-hl,<-hy,hs]at this;cases this
   clear b v f hl hm hy;go_wp2_with fail;refine jE 14 (by kernel_rfl) (by kernel_rfl) ?_;simp only[take_succ_cons,take_zero,drop_succ_cons,drop_zero]
   repeat(go_big_quiet_step (fail))
   refine wpQuiet_nil ?_;intro _ C;obtain⟨nq,rfl⟩:=C;go_wp2_with fail;refine(L.o _ (J.o nq)).mono ?_;rintro e _ ⟨rfl,rfl⟩
   cases y with
   | false=>
    obtain rfl:z=false:=I.o rfl;go_wp2;go_ret;exact⟨rfl,ae.o.tq (k.o _)⟩
   | true=>
    go_wp2
    go_roundg j
    .exact⟨i+1,by go_num,by omega,by omega,gd (K.o (by trivial)),gd (k.o _)⟩
    .omega
theorem sA{w:World}{r s:iH}{A:Option Addr}{B:Nat->Option Addr}{c:Nat->Nat}{G:List Nat}(cap:Nat)(h:jH w r A B c G){A':Option Addr}{B':Nat->Option Addr}{c':Nat->Nat}{G':List Nat}(cap':Nat)(h':jH w s A' B' c' G'):Calls prog 17 #[ip r A cap,ip s A' cap'] w λe w'=>e=.returned (.bool (j9 r s))/\gf [] w w':=by
 have i:=λw' (hc:gf [] w w')=>zc cap (h.Y hc);have j:=λw' (hc:gf [] w w')=>zc cap' (h'.Y hc);unfold j9;generalize r.isB=z1 at *;generalize s.isB=z2 at *;unfold ip at i j⊢;obtain⟨W,H,d,P⟩:=r;obtain⟨V,I,f,Q⟩:=s;simp only at i j⊢;have⟨n,hn⟩:=zX P.length;have⟨m,hm⟩:=zX Q.length;rw[<-hn]at i⊢;rw[<-hm]at j⊢;have⟨w1,ai⟩:=zX ((w.alloc (.cells #[W,H,d,.slice A n cap] 25)).alloc (.cells #[V,I,f,.slice A' m cap'] 25));have o:=rT ai;have⟨bb,ak⟩:=zX w.heap.size;have p:=FV ai ak;have l:gn w1 (bb+1) 25 #[V,I,f,.slice A' m cap']:=by rw[ai,ak];exact gn.new2 w _ _ _
 have⟨ar,al,aj,ac⟩:=gz ai ak p l;have⟨am,ap,aq⟩:=gS o i j;clear ai ak p l o h h' i j hn hm;go_enter func17,ntmps17;go_wp2_with fail;rw[<-ar.o];refine(ap.o w1 am.o).mono ?_;rintro e t ⟨rfl,a⟩;have ad:=gd (am.o.tq a)
 cases z1 with
 | false=>
  clear a;go_wp2;go_ret;exact⟨rfl,ad.o⟩
 | true=>
  have g:=(ac.o.Z a (by simp)).X 0;have d1:=(ac.o.Z a (by simp)).X 1;have d2:=(ac.o.Z a (by simp)).X 2;have d3:=(ac.o.Z a (by simp)).X 3;simp at g d1 d2 d3;rw[al.o]at g d1 d2 d3;go_wp2_with fail;refine(aq.o t ad.o).mono ?_;rintro e u ⟨rfl,b⟩;have k:=gd (ad.o.tq b)
  cases z2 with
  | false=>
   clear a b g d1 d2 d3;go_wp2;go_ret;exact⟨rfl,k.o⟩
  | true=>
   have q:=((aj.o.Z a (by simp)).Z b (by simp)).X 0;have c1:=((aj.o.Z a (by simp)).Z b (by simp)).X 1;have c2:=((aj.o.Z a (by simp)).Z b (by simp)).X 2;have c3:=((aj.o.Z a (by simp)).Z b (by simp)).X 3;have g:=((ac.o.Z a (by simp)).Z b (by simp)).X 0;have d1:=((ac.o.Z a (by simp)).Z b (by simp)).X 1;have d2:=((ac.o.Z a (by simp)).Z b (by simp)).X 2;have d3:=((ac.o.Z a (by simp)).Z b (by simp)).X 3;simp at q c1 c2 c3 g d1 d2 d3;rw[al.o]at q c1 c2 c3 g d1 d2 d3;clear a b;go_wp2
   all_goals
    go_ret;refine⟨?_,k.o⟩
    first|(simp[*];done)|(simp[*];rw[Bool.eq_iff_iff];simp;omega)
section
variable {w:World} {r s:iH} {A:Option Addr} {B:Nat->Option Addr} {c:Nat->Nat} {G:List Nat} (cap:Nat) (h:jH w r A B c G) {A':Option Addr} {B':Nat->Option Addr} {c':Nat->Nat} {G':List Nat} (cap':Nat) (h':jH w s A' B' c' G') (hno:j9 r s=false)
include h h' hno
theorem Ox:Calls prog 14 #[ip r A cap,ip s A' cap'] w λe w'=>e=.returned (.tuple #[.slice none 0 0,(1:Int)])/\gf [] w w':=by
 have a:=λw' (hc:gf [] w w')=>q6 cap (h.Y hc) cap' (h'.Y hc);rw[hno]at a;unfold ip at a⊢;generalize r.P.length=n at *;generalize s.P.length=m at *;have⟨w1,ab⟩:=zX ((w.alloc (.cells #[r.W,r.H,r.d,.slice A n cap] 25)).alloc (.cells #[s.W,s.H,s.d,.slice A' m cap'] 25));have b:gh (gf [] w w1):=gd (by rw[ab];exact((zR [] w).alloc _).alloc _);have⟨ag,ae⟩:=gy ab a;clear ab a h h' hno;go_enter func14,ntmps14;go_wp2_with fail;rw[<-ag.o];refine(ae.o w1 b.o).mono ?_;rintro e f ⟨rfl,ad⟩;have d:=gd (b.o.tq ad);clear ad;go_wp2;refine bodyPost_ret (v:=.tuple #[.slice none 0 0,(1:Int)]) (by simp[results,results14,go_sem]) rfl ?_;exact⟨rfl,d.o⟩
theorem OQ(f:Option Addr)(i a:Nat):Calls prog 18 #[ip r A cap,ip s A' cap',.slice f i a] w λe w'=>e=.returned (.tuple #[.slice none 0 0,(1:Int)])/\gf [] w w':=by
 have b:=λw' (hc:gf [] w w')=>q6 cap (h.Y hc) cap' (h'.Y hc);rw[hno]at b;unfold ip at b⊢;generalize r.P.length=n at *;generalize s.P.length=m at *;have⟨w1,ab⟩:=zX ((w.alloc (.cells #[r.W,r.H,r.d,.slice A n cap] 25)).alloc (.cells #[s.W,s.H,s.d,.slice A' m cap'] 25));have d:gh (gf [] w w1):=gd (by rw[ab];exact((zR [] w).alloc _).alloc _);have⟨ag,ae⟩:=gy ab b;clear ab b h h' hno;go_enter func18,ntmps18;go_wp2_with fail;rw[<-ag.o];refine(ae.o w1 d.o).mono ?_;rintro e j ⟨rfl,ad⟩;have g:=gd (d.o.tq ad);clear ad;go_wp2;refine bodyPost_ret (v:=.tuple #[.slice none 0 0,(1:Int)]) (by simp[results,results18,go_sem]) rfl ?_;exact⟨rfl,g.o⟩
theorem Ob(x y:Int):Calls prog 22 #[ip r A cap,ip s A' cap',x,y] w λe w'=>e=.returned (.tuple #[(0:Int),(0:Int),(0:Int)])/\gf [] w w':=by
 have a:=λw' (hc:gf [] w w')=>q6 cap (h.Y hc) cap' (h'.Y hc);rw[hno]at a;unfold ip at a⊢;generalize r.P.length=n at *;generalize s.P.length=m at *;have⟨w1,ab⟩:=zX ((w.alloc (.cells #[r.W,r.H,r.d,.slice A n cap] 25)).alloc (.cells #[s.W,s.H,s.d,.slice A' m cap'] 25));have b:gh (gf [] w w1):=gd (by rw[ab];exact((zR [] w).alloc _).alloc _);have⟨ag,ae⟩:=gy ab a;clear ab a h h' hno;go_enter func22,ntmps22;go_wp2_with fail;rw[<-ag.o];refine(ae.o w1 b.o).mono ?_;rintro e f ⟨rfl,ad⟩;have d:=gd (b.o.tq ad);clear ad;go_wp2;refine bodyPost_ret (v:=.tuple #[(0:Int),(0:Int),(0:Int)]) (by simp[results,results22,go_sem]) rfl ?_;exact⟨rfl,d.o⟩
theorem NZ:Calls prog 15 #[ip r A cap,ip s A' cap'] w λe w'=>e=.returned (.tuple #[.slice none 0 0,(1:Int)])/\gf [] w w':=by
 have a:=λw' (hc:gf [] w w')=>sA cap (h.Y hc) cap' (h'.Y hc);rw[hno]at a;unfold ip at a⊢;generalize r.P.length=n at *;generalize s.P.length=m at *;have⟨w1,ab⟩:=zX ((w.alloc (.cells #[r.W,r.H,r.d,.slice A n cap] 25)).alloc (.cells #[s.W,s.H,s.d,.slice A' m cap'] 25));have b:gh (gf [] w w1):=gd (by rw[ab];exact((zR [] w).alloc _).alloc _);have⟨ag,ae⟩:=gy ab a;clear ab a h h' hno;go_enter func15,ntmps15;go_wp2_with fail;rw[<-ag.o];refine(ae.o w1 b.o).mono ?_;rintro e f ⟨rfl,ad⟩;have d:=gd (b.o.tq ad);clear ad;go_wp2;refine bodyPost_ret (v:=.tuple #[.slice none 0 0,(1:Int)]) (by simp[results,results15,go_sem]) rfl ?_;exact⟨rfl,d.o⟩
theorem OH(f:Option Addr)(i a:Nat):Calls prog 19 #[ip r A cap,ip s A' cap',.slice f i a] w λe w'=>e=.returned (.tuple #[.slice none 0 0,(1:Int)])/\gf [] w w':=by
 have b:=λw' (hc:gf [] w w')=>sA cap (h.Y hc) cap' (h'.Y hc);rw[hno]at b;unfold ip at b⊢;generalize r.P.length=n at *;generalize s.P.length=m at *;have⟨w1,ab⟩:=zX ((w.alloc (.cells #[r.W,r.H,r.d,.slice A n cap] 25)).alloc (.cells #[s.W,s.H,s.d,.slice A' m cap'] 25));have d:gh (gf [] w w1):=gd (by rw[ab];exact((zR [] w).alloc _).alloc _);have⟨ag,ae⟩:=gy ab b;clear ab b h h' hno;go_enter func19,ntmps19;go_wp2_with fail;rw[<-ag.o];refine(ae.o w1 d.o).mono ?_;rintro e j ⟨rfl,ad⟩;have g:=gd (d.o.tq ad);clear ad;go_wp2;refine bodyPost_ret (v:=.tuple #[.slice none 0 0,(1:Int)]) (by simp[results,results19,go_sem]) rfl ?_;exact⟨rfl,g.o⟩
theorem M4(x y:Int):Calls prog 23 #[ip r A cap,ip s A' cap',x,y] w λe w'=>e=.returned (.tuple #[(0:Int),(0:Int),(0:Int)])/\gf [] w w':=by
 have a:=λw' (hc:gf [] w w')=>sA cap (h.Y hc) cap' (h'.Y hc);rw[hno]at a;unfold ip at a⊢;generalize r.P.length=n at *;generalize s.P.length=m at *;have⟨w1,ab⟩:=zX ((w.alloc (.cells #[r.W,r.H,r.d,.slice A n cap] 25)).alloc (.cells #[s.W,s.H,s.d,.slice A' m cap'] 25));have b:gh (gf [] w w1):=gd (by rw[ab];exact((zR [] w).alloc _).alloc _);have⟨ag,ae⟩:=gy ab a;clear ab a h h' hno;go_enter func23,ntmps23;go_wp2_with fail;rw[<-ag.o];refine(ae.o w1 b.o).mono ?_;rintro e f ⟨rfl,ad⟩;have d:=gd (b.o.tq ad);clear ad;go_wp2;refine bodyPost_ret (v:=.tuple #[(0:Int),(0:Int),(0:Int)]) (by simp[results,results23,go_sem]) rfl ?_;exact⟨rfl,d.o⟩
end
end Go.Proofs.YtnepiccbpokmiaaGreatDoor
