/- Lemmas. -/
import Derived.Deep.RegionLaw
import Derived.Test.YtifdlkoepaepiaaGreatDoorMh19
set_option linter.all false
set_option maxHeartbeats 4000000
set_option maxRecDepth 100000
namespace Go.Proofs.YtifdlkoepaepiaaGreatDoor
open Tryz List Nat Go.RowKit
variable {ps:List (List Int)}{ks:List Nat}{i:Nat}
theorem DO(o n warm:Nat)(l:List Int):(ml o n warm l).length=(iR o n warm).length:=by unfold ml;rw[zE,q4]
theorem MZ(o n warm:Nat)(l:List Int):sk (ml o n warm l):=by
 intro k a;obtain⟨p,_,rfl⟩:=List.mem_map.1 a;exact Dy p
theorem Ou(n warm most:Nat)(l:List Int)(Al:Option Addr)(a:Nat)(w:World)(J:1<=n)(u:n<=4096)(h3:warm<=n)(d:most<=8)(D:l.length=n-warm)(hw:∀x∈l,iy x)(C:gz vi w Al l)(b:l.length<=a)(c:a<=9223372036854775807):Calls prog 165 #[n,warm,most,.slice Al l.length a] w λe w'=>∃v G,e=.returned (.tuple #[.agg #[.int .i64 (jS n warm most l).order,v],(0:Int)])/\jj w' 3 v G ((jS n warm most l).ks.map i64)/\gg [] w w'/\∀x∈G,w.heap.size<=x:=by
 have⟨L,hL⟩:=zX l.length;have ai:=λw hc=>EE n warm l Al a w J u h3 D hw hc;have av:=λo (ho:o<=8) w=>uC o n warm w ho J u h3;have M:=λo (ho:o<=8) (hne:iR o n warm≠[]) A cap w hc C=>FG o n warm (ml o n warm l) A cap l Al a w ho J u h3 hne (DO o n warm l) (MZ o n warm l) hc D hw C b c;rw[<-hL]at ai M D b⊢;have⟨aE,aF,aX,HW⟩:=gu ai av M hw;have⟨HL,b1⟩:=gy hL D;have b5:L<=4096:=by omega
 have cj:max (most:Int) 0=(most:Int):=by omega
 have ck:min (most:Int) 8=(most:Int):=by omega
 have U:jS n warm most l=pg n warm l (most+1):=by unfold jS;rw[Nat.min_eq_left d]
 have bY:=gd U;clear ai av M hw hL D U;go_enter func165,ntmps165;go_wp2_with fail;have bG:gg [] w (w.alloc (.cells #[(0:Int),.slice none 0 0] 176)):=(zR [] w).alloc _;refine(aE.o _ (C.Y bG)).mono ?_;rintro e cD ⟨rfl,rfl⟩;go_wp2_with fail;have I:=(gn.new (w.alloc (.cells #[(0:Int),.slice none 0 0] 176)) 176 #[(0:Int),.slice none 0 0]);have bg:=(gn.new w 176 #[(0:Int),.slice none 0 0]).alloc (.cells #[(0:Int),.slice none 0 0] 176);have bu:gg [] w ((w.alloc (.cells #[(0:Int),.slice none 0 0] 176)).alloc (.cells #[(0:Int),.slice none 0 0] 176)):=((zR [] w).alloc _).alloc _;have aP:w.heap.size≠w.heap.size+1:=by omega
 have bd:(w.alloc (.cells #[(0:Int),.slice none 0 0] 176)).heap.size=w.heap.size+1:=by simp
 rw[bd]at I;generalize hwA:(w.alloc (.cells #[(0:Int),.slice none 0 0] 176)).alloc (.cells #[(0:Int),.slice none 0 0] 176)=wA at *;have⟨br,aK⟩:=zX w.heap.size;have⟨bb,aI⟩:=zX (w.heap.size+1);rw[<-aI]at aP I⊢;rw[<-aK]at aP bg⊢;have ch:=I.lt;have⟨bZ,bE,bk⟩:=Q9 aK aI C;clear bd hwA aK aI bG C
 go_loopg [11,12] (most+1) (λj lv ov wr=>j<=most+1/\ov=.int .i64 ((most+1-j:Nat):Int)/\∃z k t v G,lv=.int .i64 ((t:Nat):Int)/\gh (pg n warm l (most+1-j)=⟨z,k,t⟩) /\
   gn wr bb 176 #[.int .i64 ((z:Nat):Int),v]/\jj wr 3 v G (k.map i64)/\gg [bb] wA wr/\∀x∈G,wA.heap.size<=x)
 .exact⟨zQ _,by simp,0,[],0,.slice none 0 0,[],rfl,gd (by simp[pg]),I,jj.nil _ _,zR _ _,by simp⟩
 obtain⟨hj,rfl,z,k,t,v,G,rfl,bq,az,al,aq,hG⟩:=hrel;have HG:=gd hG;obtain⟨S,Y,rfl,-,-,-⟩:=al.T;clear hG I;rcases gk with _|j
 .have t4:decide ((most:Int)+1<=(most:Int))=false:=zA (by omega)
  have ap:=bg.Z aq (by simpa using aP);have b6:=az.X 0;have b7:=az.X 1;have b9:=ap.X 0;have ca:=ap.X 1;have⟨cw,cx⟩:=RL ap 0 1;simp at b6 b7 b9 ca;go_wp2_with fail;have hF:=(ap.S 0 (.int .i64 z)).S 1 (.slice S k.length Y);have cl:=(al.Q (p:=⟨br,0,none⟩) (λd=>by have r:=HG.o _ d;have K:=bg.lt;simp at r;omega) (.int .i64 z)).Q (p:=⟨br,1,none⟩) (λd=>by have r:=HG.o _ d;have K:=bg.lt;simp at r;omega) (.slice S k.length Y);have b4:gg [bb,br] wA ((wr.setCell br (.int .i64 z)).setCell ⟨br,1,none⟩ (.slice S k.length Y)):=((aq.mono (by simp)).setCell (by simp) _).setCell (by simp) _;generalize hwF:(wr.setCell br (.int .i64 z)).setCell ⟨br,1,none⟩ (.slice S k.length Y)=wF at *;have bI:=hF.X 0;have bJ:=hF.X 1;simp at bI bJ;have e1:jS n warm most l=⟨z,k,t⟩:=by rw[bY.o,<-bq.o];rfl
  refine bodyPost_ret (v:=.tuple #[.agg #[.int .i64 z,.slice S k.length Y],(0:Int)]) (by simp[results,results165,go_sem,bI,bJ]) rfl ⟨.slice S k.length Y,G,?_,?_,?_,?_⟩
  .rw[e1]
  .rw[e1];exact cl
  .refine bu.trans b4 ?_
   intro x g;right
   have:=bZ.o
   have:=bE.o
   simp at g;omega
  .intro x g
   have:=HG.o x g
   have:=bu.size
   omega
 .have⟨i,bN⟩:=zX (most+1-(j+1))
  rw[<-bN]at bq⊢;have cf:i<=most:=by omega
  have bO:most+1-j=i+1:=by omega
  have HI:=gd bO;have t4:decide (i<=most)=true:=zB cf;clear bN bO;have Q:=zl n warm l i;rw[bq.o]at Q;have bC:i<=8:=by omega
  go_wp2_with fail;refine(aF.o i bC _).mono ?_;rintro e w2 ⟨v2,G2,rfl,ak,O,cv⟩;obtain⟨A2,ax,rfl,aA,bB,-⟩:=ak.T;by_cases hne:iR i n warm=[]
  .have W:pg n warm l (i+1)=⟨z,k,t⟩:=by rw[Q,sU,if_pos hne]
   have aZ:=gd W;rw[hne]at ak aA⊢;clear hne Q W;simp only[length_nil];go_wp2_with fail
   go_roundg j
   .rw[HI.o]
    exact⟨by omega,by go_num,z,k,t,_,G,rfl,aZ,az.Z O (by simp),al.Y O,aq.tq (O.mono (by simp)),HG.o⟩
   .omega
  .have hN:=sJ hne
   have aS:=ug hne;have⟨ss,bj⟩:=zX (iR i n warm);have bz:2^i<=256:=Nat.pow_le_pow_right (n:=2) (j:=8) (by decide) bC;have bx:=Nat.two_pow_pos i;rw[<-hN]at bx bz;have aR:=aX.o i bC hne;rw[sU,if_neg hne]at Q;rw[<-bj]at hN aS ak aA bx bz Q aR⊢;have bc:ml i n warm l=(iQ ss l).map l4:=(by unfold ml;rw[<-bj]);have aB:=DO i n warm l;rw[<-bj]at aB;have⟨N,bw⟩:=zX ss.length;rw[<-bw]at bx bz aA aB⊢;have t5:((N:Int)==0)=false:=(by rw[beq_eq_false_iff_ne];omega);have⟨HN,a0,bn,bm⟩:=gu bw Q aR bc;have⟨aY,bo⟩:=gy aB aS;clear hN aS bj Q aR bc aB bw hne;go_wp2_with fail;have U:=gn.new w2 176 #[i,.slice none 0 0];have R:gg [bb] wA w2:=aq.tq (O.mono (by simp));have cc:gz i64 w2 A2 ss:=(by have:=ak.cells;exact this);have a5:=bk.o.Y (bu.trans R (by
    intro x g;right
    have:=bE.o
    simp at g;omega))
   have⟨bp,aJ⟩:=zX w2.heap.size;rw[<-aJ]at U⊢;have aD:=gd aJ;have b2:gh (L<=a):=gd b;have bl:=gd c;have bH:gg [] w2 (w2.alloc (.cells #[i,.slice none 0 0] 176)):=(zR [] w2).alloc _;clear aJ b c aA bB
   go_loopg [15,44] N (λq rv iv wx=>q<=N/\iv=.int .i64 ((N-q:Nat):Int)/\∃Z c' rest v G ks,rv=.slice Z rest.length c'/\gh (rest=l.drop (kh ss (N-q)))/\gz vi w2 Z rest/\rest.length<=c'/\c'<=9223372036854775807/\rest.length<=4096 /\
    gn wx bp 176 #[i,v]/\jj wx 3 v G (ks.map i64)/\gh (ks=((iQ ss l).map l4).take (N-q))/\gg [] w2 wx/\∀x∈G,w2.heap.size<x)
   .refine⟨zQ _,by simp,Al,a,l,.slice none 0 0,[],[],?_,gd (by simp[kh]),a5,?_,bl.o,?_,U,jj.nil _ _,gd (by simp),bH,by simp⟩
    .rw[<-HL.o]
    .rw[<-HL.o];exact b2.o
    .rw[<-HL.o];exact b5
   obtain⟨hq,rfl,Z,c',rest,vp,Gp,ks,rfl,aj,bA,cq,cy,cB,F,af,T,ar,bK⟩:=hrel;have H:=gd bK;clear bK U bH;obtain⟨E,ad,rfl,-,-,-⟩:=af.T;rcases gk with _|q
   .have t7:decide (((N-0:Nat):Int)<(N:Int))=false:=by simp
    have bD:=F.X 0;have bi:=F.X 1;simp at bD bi;have e2:((iQ ss l).map l4).take (N-0)=(iQ ss l).map l4:=(by rw[Nat.sub_zero,HN.o,<-q4 ss l,<-zE (f:=l4),zN]);have a9:ks.length=N:=(by rw[T.o,e2,<-bm.o,aY.o,HN.o]);have a4:gz i64 wr E (ml i n warm l):=by
     have y:=af.cells;rw[T.o,e2,<-bm.o]at y;exact y
    have M:=bn.o E ad wr a4 (a5.Y ar);have e3:(ml i n warm l).length=N:=(by rw[aY.o,HN.o]);rw[e3]at M;have⟨CC,bv⟩:=zX (lH (ml i n warm l) (iQ ss l));rw[<-bv]at M;have W:=a0.o;rw[<-bv]at W;have aZ:=gd W;rw[a9]at bi F af;have a1:gh (ks=ml i n warm l):=gd (by rw[T.o,e2,bm.o]);clear e2 e3 bv W a9 a4;go_wp2_with fail;refine M.mono ?_;rintro e w4 ⟨rfl,bs⟩;have aH:gg [] w2 w4:=ar.tq bs;have a3:=F.Z bs (by simp);have aC:=af.Y bs;have X:=az.Z (O.tq aH) (by simp);have aQ:=al.Y (O.tq aH);have aM:gg [bb] wA w4:=aq.tq ((O.tq aH).mono (by simp));have bD:=a3.X 0;have bi:=a3.X 1;have cm:=X.X 0;have cn:=X.X 1;have⟨cz,cA⟩:=RL X 0 1;simp at bD bi cm cn;clear M;by_cases hc0:t=0
    .have t8:((t:Int)==0)=true:=by rw[beq_iff_eq];omega
     have B:=aZ.o;rw[if_pos (.inl hc0)]at B;have ao:=gd B;clear B hc0;go_wp2_with fail
     go_roundg j
     .rw[HI.o]
      have J:=(X.S 0 (.int .i64 i)).S 1 (.slice E N ad);have u:=(aC.Q (p:=⟨bb,0,none⟩) (λd=>by have r:=H.o _ d;have K:=R.size;simp at r;omega) (.int .i64 i)).Q (p:=⟨bb,1,none⟩) (λd=>by have r:=H.o _ d;have K:=R.size;simp at r;omega) (.slice E N ad);rw[a1.o]at u;refine⟨by omega,by go_num,i,ml i n warm l,CC,.slice E N ad,Gp,rfl,ao,by simpa using J,u,(aM.setCell (by simp) _).setCell (by simp) _,λx g=>?_⟩;have r:=H.o x g;have K:=R.size;omega
     .omega
    .have t8:((t:Int)==0)=false:=by rw[beq_eq_false_iff_ne];omega
     by_cases hc1:CC<t
     .have t9:decide (CC<t)=true:=by simpa using hc1
      have B:=aZ.o;rw[if_pos (.inr hc1)]at B;have ao:=gd B;clear B hc0;go_wp2_with fail
      go_roundg j
      .rw[HI.o]
       have J:=(X.S 0 (.int .i64 i)).S 1 (.slice E N ad);have u:=(aC.Q (p:=⟨bb,0,none⟩) (λd=>by have r:=H.o _ d;have K:=R.size;simp at r;omega) (.int .i64 i)).Q (p:=⟨bb,1,none⟩) (λd=>by have r:=H.o _ d;have K:=R.size;simp at r;omega) (.slice E N ad);rw[a1.o]at u;refine⟨by omega,by go_num,i,ml i n warm l,CC,.slice E N ad,Gp,rfl,ao,by simpa using J,u,(aM.setCell (by simp) _).setCell (by simp) _,λx g=>?_⟩;have r:=H.o x g;have K:=R.size;omega
      .omega
     .have t9:decide (CC<t)=false:=by simpa using hc1
      have B:=aZ.o;rw[if_neg (by rintro(h|h);exact hc0 h;exact hc1 h)]at B;have ao:=gd B;clear B hc0;go_wp2_with fail
      go_roundg j
      .rw[HI.o]
       exact⟨by omega,by go_num,z,k,t,_,G,rfl,ao,X,aQ,aM,HG.o⟩
      .omega
   .have⟨m,bS⟩:=zX (N-(q+1))
    rw[<-bS]at aj T⊢;have ci:m<N:=(by omega);have bT:N-q=m+1:=(by omega);have HM:=gd bT;have V:m<ss.length:=(by rw[<-HN.o];exact ci);obtain⟨cu,cC,rfl,aL⟩:=(cc.Y ar).i64_at V;have aO:=ui ss l m V;have a8:=vO ss m V;have bh:=yI l ss m V;rw[<-aj.o]at aO bh;have bQ:m<((iQ ss l).map l4).length:=(by rw[zE,q4];exact V);have ba:=jD ((iQ ss l).map l4) bQ;have bR:((iQ ss l).map l4)[m]=l4 (rest.take ss[m]):=by
     have y:((iQ ss l).map l4)[m]?=some (l4 (rest.take ss[m])):=(by rw[zW,aO];rfl);exact(List.getElem?_eq_some_iff.1 y).2
    rw[bR,<-T.o]at ba;have⟨s,hs⟩:=zX (ss[m]);rw[<-hs]at aL a8 bh ba;have cs:s<=rest.length:=by
     have:=bo.o
     have:=b1.o
     have:=HL.o
     rw[aj.o,zO];omega
    have bX:∀x∈rest.take s,iy x:=λx g=>HW.o x (by
     have:=mem_of_mem_take g
     rw[aj.o]at this;exact mem_of_mem_drop this)
    have bc:(rest.take s).length=s:=(by rw[zI];omega);have cb:=(bA.take s).Y ar;have aN:=L6 (rest.take s) Z c' wr.drew bX (cb.Y (zR [] wr).drew) (by omega);rw[bc]at aN;obtain⟨A3,bW,-,a7⟩:=uh (P:=prog) underlying22 nP Z rest.length c' s cs cq;have a6:=a7 Int vi w2 rest rfl bA;have bF:gh (rest.drop s=l.drop (kh ss (m+1))):=gd bh;have bM:rest.length-s=(rest.drop s).length:=(by rw[zO]);rw[bM]at bW;have bU:(rest.drop s).length<=4096:=(by rw[zO];omega);have bV:(rest.drop s).length<=c'-s:=(by rw[zO];omega);have⟨be,au⟩:=zX (rest.drop s);rw[<-au]at bW bU bV a6 bF;have cr:s<=c':=(by omega);have⟨kc,bP⟩:=zX (l4 (rest.take s));rw[<-bP]at aN ba;have b0:=gd ba;have cg:ks.length<=256:=(by rw[T.o,zI];omega);have cd:=F.X 1;simp at cd;clear ba bR bQ aO bh hs bX a7 a8 bM au V bS bT bA bc bP;have a2:bp∉Gp:=λd=>by have:=H.o _ d;have:=aD.o;omega
    have bL:=F.alloc (.cells #[kc] 3);have n1:(wr.alloc (Obj.cells #[kc] 3)).cell? ⟨bp,1,none⟩=some (.slice E ks.length ad):=(by simpa using bL.X 1);clear bL;go_wp2_with fail
    go_region_law (first|(refine rL (by rfl) (by rfl) iO (by rfl) (by rfl) ((af.alloc (.cells #[kc] 3)).drew) (.int .i64 kc) (by rfl) (by simp[go_sem]) (by rfl) (by rw[zE];omega) (by rw[zE];omega) ?_;intro g2 ax w3 co bf;have I:gn w3 bp 176 #[i,.slice E ks.length ad]:=((F.alloc (.cells #[kc] 3)).drew).Z bf.Z a2;have y1:=I.X 1;have z1:=I.U 1;simp at y1)|(go_simp;go_at_call 220;refine gB aN ?_))
    all_goals
     go_wp2_with fail
     go_roundg q
     .rw[HM.o]
      have J:=I.S 1 (.slice g2 (ks.length+1) ax);have ce:g2≠bp:=by
       intro he;rcases bf.new g2 (by simp)with y|y
       .exact a2 (he ▸ y)
       .have K:=F.lt
        simp at y;omega
      have cp:=co.Q (p:=⟨bp,1,none⟩) ce (.slice g2 (ks.length+1) ax);have u:=cp.R;have e5:(map i64 ks).length=ks.length:=zE _;rw[e5]at u;have b3:gg [] w2 w3:=((ar.alloc (.cells #[kc] 3)).drew).trans bf.Z (λx g=>.inr (Nat.le_of_lt (H.o x g)));refine⟨by omega,by go_num,A3,_,be,.slice g2 (ks.length+1) ax,[g2],ks++[kc],rfl,bF,a6,bV,by omega,bU,?_,?_,gd ?_,?_,?_⟩
      .simpa using J
      .simpa[i64]using u
      .rw[b0.o]
      .exact b3.setCell (.inr (by have:=aD.o;simp;omega)) _
      .intro x g
       have ct:x=g2:=(by simpa using g);rcases bf.new x (by simp[ct])with y|y
       .exact H.o _ y
       .have K:=F.lt
        have:=aD.o
        simp at y;omega
     .omega
def qh(ks:List Nat)(ps:List (List Int))(i:Nat):List Nat:=((ks.zip ps).drop i).flatMap λp=>mV p.1 p.2
theorem KP{k:Nat}{q:List Int}(a:ks[i]?=some k)(b:ps[i]?=some q):qh ks ps i=mV k q++qh ks ps (i+1):=by
 have e:=(List.getElem?_eq_some_iff.1 a).1;have f:=(List.getElem?_eq_some_iff.1 b).1;have c:i<(ks.zip ps).length:=by rw[length_zip];omega
 have d:(ks.zip ps)[i]=(k,q):=by
  rw[getElem_zip,(List.getElem?_eq_some_iff.1 a).2,(List.getElem?_eq_some_iff.1 b).2]
 unfold qh;rw[drop_eq_getElem_cons c,flatMap_cons,d]
theorem Ni(h:ks.length<=i):qh ks ps i=[]:=by
 unfold qh;rw[drop_of_length_le (by rw[length_zip];omega)];rfl
theorem K5(o:Nat)(ks:List Nat)(ps:List (List Int)):m9 o ks ps=gx o 4++qh ks ps 0:=rfl
theorem Pd(w:World)(b:Nat)(F z:List Nat)(p o n warm:Nat)(ks:List Nat)(l:List Int)(h:gM w b F z p)(ho:o<=8)(h1:1<=n)(h2:n<=4096)(h3:warm<=n)(A:iR o n warm≠[])(c:ks.length=(iR o n warm).length)(X:sk ks)(M:l.length=n-warm)(hw:∀x∈l,iy x)(ha:ig z p (m9 o ks (iQ (iR o n warm) l))):Calls prog 135 #[.pointer b,n,warm] w λe g=>∃(B:Option Addr) (nk C:Nat) (v:Value) (G:List Nat),e=.returned (.tuple #[.agg #[.int .i64 o,.slice B nk C],v,(0:Int)])/\jj g 3 v G (l.map vi)/\gM g b F z (p+(m9 o ks (iQ (iR o n warm) l)).length)/\gg [b] w g/\∀x∈G,w.heap.size<=x:=by
 have bL:=ug A;have bb:=sJ A;rw[K5]at ha⊢;have bF:o<2^4:=by omega
 have cy:=λg=>uA n warm g h1 h2 h3;have bd:=λg (hr:gM g b F z p)=>iU g b F z p 4 o hr (by omega) bF ha.left;have V:=λg=>uC o n warm g ho h1 h2 h3;have bc:=ha.right;rw[gH]at bc;have⟨ss,a7⟩:=zX (iR o n warm);rw[<-a7]at bL bb c V bc A⊢;rw[zC,gH];have cB:=h.lt b h.mem;have aN:ss.length<=256:=by rw[bb];exact Nat.pow_le_pow_right (n:=2) (j:=8) (by decide) ho
 have cq:1<=ss.length:=by rw[bb];exact Nat.two_pow_pos o
 have⟨N,hN⟩:=zX ss.length;rw[<-hN]at aN cq c;have bO:=gd (bL.trans M.symm);have b0:l.length<=4096:=by rw[M];omega
 have⟨HN,HW,cf,bj⟩:=gu hN hw X c;have⟨HA,ch,bk⟩:=Q9 bc h.lt b0;have⟨br,bU⟩:=zX w.heap.size;have K:=gd bU;clear hN hw X c bc ha bL bb a7 A M b0 bU h1 h2 h3;go_enter func135,ntmps135
 go_wp2_with(go_at_call 187;refine gB (cy _) ?_)
 have⟨w0,be⟩:=zX (w.alloc (.cells #[(0:Int),.slice none 0 0] 176));have aQ:gn w0 br 176 #[(0:Int),.slice none 0 0]:=by rw[be,K.o];exact gn.new w _ _
 have bP:=H4 be;rw[<-be,<-K.o];have bd:=bd w0 (h.Y bP);clear be h;refine bd.mono ?_;rintro e w1 ⟨rfl,T,bQ⟩;have ct:b≠br:=by have:=K.o;omega
 have aR:=aQ.Z bQ (by simpa using ct.symm);have V:=V w1;have aU:gg [b] w w1:=(bP.mono (by simp)).tq bQ;clear bd aQ
 go_wp2_with(go_at_call 60;refine gB (iS _ b F z _ T) ?_)
 refine V.mono ?_;rintro e m ⟨v2,G2,rfl,an,bq,bR⟩;obtain⟨As,cs,rfl,cw,cx,bW⟩:=an.T;rw[<-HN.o];have t1:((N:Int)==0)=false:=by rw[beq_eq_false_iff_ne];omega
 have ay:ib As ss [b,m.heap.size]:=an.apt (λx a hm=>by
  have h5:=bR x a;have h6:=an.lt x a;have h7:=T.lt b T.mem;simp at hm;omega)
 have U:=T.Y bq;have az:=gn.Z aR bq (by simp);have aV:=aU.trans bq (by simp);clear an V T aR aU;have⟨bp,ap⟩:=zX m.heap.size;rw[<-ap]at ay;have⟨bg,bh⟩:=gy ay ap;clear ay;have cE:br<bp:=by rw[ap];exact az.lt
 have cu:b<bp:=by rw[ap];have:=U.lt b U.mem;exact this
 have ao:gn (m.alloc (.cells #[o,.slice none 0 0] 176)) bp 176 #[o,.slice none 0 0]:=by rw[ap];exact gn.new m _ _
 have b5:=U.Y ((zR [] m).alloc (.cells #[o,.slice none 0 0] 176));have aS:=gn.alloc az (.cells #[o,.slice none 0 0] 176);have bV:gg [] m (m.alloc (.cells #[o,.slice none 0 0] 176)):=(zR [] m).alloc _;have bM:(m.alloc (.cells #[o,.slice none 0 0] 176)).heap.size=bp+1:=by rw[ap];simp
 have aO:∀x∈F,x<bp:=λx a=>by rw[ap];exact U.lt x a
 have⟨av,cd,aW⟩:=Q9 aO bW aV;clear ap U az aV bM aO bW bR;go_wp2_with fail;rw[<-bh.o]
 go_loopg [12,14,15,16,17,44] N (λj vo va vb vc vd iv wr=>∃(i O:Nat) (vk:Value) (Gk Go:List Nat),iv=.int .i64 i/\i+j=N/\gn wr bp 176 #[o,vk]/\gn wr br 176 #[(0:Int),.slice none 0 0]/\jj wr 3 vk Gk ((ks.take i).map i64)/\jj wr 3 vo Go ((l.take (kh ss i)).map vi)/\gM wr b F z O/\gh (ig z O (qh ks (iQ ss l) i))/\gh (O+(qh ks (iQ ss l) i).length=p+4+(qh ks (iQ ss l) 0).length)/\gh (gg [b,bp] m wr)/\gh (∀x∈Gk,bp<x/\x∉Go)/\gh (∀x∈Go,bp<x))
 .exact⟨0,p+4,.slice none 0 0,[],[],rfl,by omega,ao,aS,jj.nil _ _,by simpa[kh]using jj.nil _ _,b5,HA,gd rfl,gd (bV.mono (by simp)),gd (by simp),gd (by simp)⟩
 clear ao b5 aS bV;obtain⟨i,O,vk,Gk,Go,rfl,cC,J,Q,E,H,bK,Ha,Hp,bi,r,t⟩:=hrel;rcases gk with _|j
 .obtain rfl:N=i:=by omega
  have t2:decide (N<N)=false:=by simp
  obtain⟨B,C,rfl,aA,aB,aC⟩:=E.T;obtain⟨Ao,co,rfl,bx,bz,bA⟩:=H.T;have⟨kk,D⟩:=zX ((ks.take N).length);rw[<-D]at J;have p0:=J.X 0;have p1:=J.X 1;have q0:=Q.X 0;have q1:=Q.X 1;have⟨z0,z1⟩:=RL Q 0 1;simp at p0 p1 q0 q1;have b9:kh ss N=l.length:=by unfold kh;rw[HN.o,zN];exact bO.o
  rw[b9,zN]at H⊢;have hp:=Hp.o;rw[Ni (by rw[bj.o];exact zQ _)]at hp;have b2:O=p+(4+(qh ks (iQ ss l) 0).length):=by
   rw[length_nil]at hp;omega
  have HP:=gd b2;have⟨wF,bf⟩:=zX ((wr.setCell br (.int .i64 o)).setCell ⟨br,1,none⟩ (.slice B kk C));have aD:gg [br] wr wF:=by rw[bf];exact((zR [br] wr).setCell (.inl (by simp)) _).setCell (.inl (by simp)) _
  have bu:gn wF br 176 #[o,.slice B kk C]:=by
   rw[bf]
   simpa using(Q.S 0 (.int .i64 o)).S 1 (.slice B kk C)
  have f0:=bu.X 0;have f1:=bu.X 1;simp at f0 f1;have cn:=gd bf;clear b9 hp b2 aA aB aC bx bz bA E Ha Hp D bf bu;go_wp2_with fail;rw[<-cn.o];refine bodyPost_ret (v:=.tuple #[.agg #[.int .i64 o,.slice B kk C],.slice Ao l.length co,(0:Int)]) (by simp[results,results135,go_sem,f0,f1]) rfl ?_;have aT:br∉Go:=λhm=>by have:=t.o _ hm;omega
  have bw:br∉F:=λhm=>by have:=ch.o _ hm;have:=K.o;omega
  refine⟨B,kk,C,_,Go,rfl,H.Z aD (λx a hm=>by simp at hm;exact aT (hm ▸ a)),(bK.cast HP.o).Z aD (λx a hm=>by simp at hm;exact bw (hm ▸ a)),?_,λx a=>by have:=t.o x a;have:=K.o;omega⟩;refine(aW.o.trans bi.o ?_).trans aD ?_
  .intro x a
   simp at a;rcases a with a|a
   .left;simp[a]
   .right;have:=K.o;omega
  .intro x a
   simp at a;right
   have:=K.o
   omega
 .have bY:i<N:=by omega
  have W:i<ss.length:=by rw[<-HN.o];exact bY
  obtain⟨gs,os,rfl,ar⟩:=(cd.o.N bg.o bi.o).i64_at W;have D:i<ks.length:=by rw[bj.o];exact bY
  have aX:=ui ss l i W;have al:=vO ss i W;have am:=yM ss i W;rw[bO.o]at al;have bD:=jD ks D;have I:=KP (ks:=ks) (zF D) aX;have bE:=cf.o ks[i] (zG D);have⟨k,bZ⟩:=zX (ks[i]);have⟨s,ca⟩:=zX (ss[i]);have⟨q,b4⟩:=zX (kh ss i);rw[<-ca]at ar I al am;rw[<-b4]at I al am H;rw[<-bZ]at bD I bE;have⟨part,a3⟩:=zX ((l.drop q).take s);have bJ:part.length=s:=by rw[a3,zI,zO];omega
  have cb:l.take (q+s)=l.take q++part:=by rw[a3,take_add]
  have b3:∀x∈part,iy x:=λx a=>HW.o x (mem_of_mem_drop (mem_of_mem_take (a3 ▸ a)));rw[<-a3]at I;have ba:=Ha.o;rw[I]at ba;have aH:=Pf wr b F z O k part bK bE b3 (by have:=bk.o;omega) ba.left;rw[bJ]at aH;have⟨cc,cj,cg,cm⟩:=gu ba.right I bD cb;have⟨cl,a9⟩:=gy am bJ;have cz:s<=4096:=by have:=bk.o;omega
  have cD:q<=4096:=by have:=bk.o;omega
  clear aX al am bD I bZ ca b4 a3 cb b3 ba bE D W bJ Ha;go_wp2_with fail;refine aH.mono ?_;rintro e R ⟨vp,Gp,rfl,b1,a6,P,bS⟩;obtain⟨B,C,rfl,aA,aB,aC⟩:=E.T;have c:(ks.take i).length=i:=by rw[zI,bj.o];omega
  rw[c]at E J;have⟨kd,aE⟩:=zX (ks.take i);rw[<-aE]at E c;have ce:=gd aE;clear aE;have bv:bp∉[b]:=by simp;omega
  have aZ:=E.lt;have a0:=H.lt;have Y:=J.Z P bv;have aq:=Q.Z P (by simp;omega);have bG:=E.Z P (λx a hm=>by have:=(r.o x a).1;simp at hm;omega);have a1:=H.Z P (λx a hm=>by have:=t.o x a;simp at hm;omega);have p1:=(gn.alloc Y (.cells #[k] 3)).X 1;simp at p1;have cA:=Y.X 1;simp at cA;have⟨bn,aL,aM,bo⟩:=gu a1 Y aq a6;have⟨ci,ae,bN,bl⟩:=gu b1 P bS aZ;have⟨bm,aj⟩:=gy a0 J.lt;clear H a1 J Y Q aq bK a6 b1 P bS aH aC aA aB aZ a0 ar
  go_wp2_with(at_builtin;refine ka rfl rfl iO rfl rfl (bG.alloc _) (.int .i64 k) rfl ?c1 ?c2 ?c3 ?c4 ?_)
  case c1=>simp[go_sem]
  case c2=>rfl
  case c3=>rw[zE,c];omega
  case c4=>rw[zE,c];omega
  intro g2 Z S b6 d;have cr:(R.alloc (.cells #[k] 3)).heap.size=R.heap.size+1:=by simp
  have af:=(aL.o.alloc (.cells #[k] 3)).Z d.Z (λhm=>by have:=(r.o _ hm).1;omega);have d1:=af.X 1;have z1:=af.U 1;simp at d1;have bX:g2≠bp:=λhe=>by
   rcases d.new g2 (by simp)with f|f
   .have:=(r.o _ f).1;omega
   .have:=ae.o.size;have:=aj.o;omega
  have ad:gg [bp] S (S.setCell ⟨bp,1,none⟩ (.slice g2 (i+1) Z)):=(zR [bp] S).setCell (.inl (by simp)) _;have bI:=((((ci.o.alloc (.cells #[k] 3))).Z d.Z (λx a hm=>by have:=bN.o x a;have:=bl.o x hm;omega))).Z ad (λx a hm=>by simp at hm;have:=bN.o x a;have:=aj.o;omega);have bH:=(((bn.o.alloc (.cells #[k] 3))).Z d.Z (λx a hm=>(r.o x hm).2 a)).Z ad (λx a hm=>by simp at hm;have:=t.o x a;omega);obtain⟨Ap,cp,rfl,bB,cv,bC,_⟩:=bI.open_;rw[zE,a9.o]at bB⊢
  go_wp2_with(at_builtin;refine ns rfl rfl iO rfl rfl bH (part.map vi) s rfl ?c1 bC ?c2 ?c3 ?c4 ?_)
  case c1=>rw[zE,a9.o]
  case c2=>intro u hu;obtain⟨y,_,rfl⟩:=List.mem_map.1 hu;rfl
  case c3=>rw[zE,zE,a9.o,zI];omega
  case c4=>rw[zE,zE,a9.o,zI];omega
  intro v' F' w6 a2 L;go_wp2_with fail
  go_roundg j
  .have h5:=af.S 1 (.slice g2 (i+1) Z)
   have bs:∀x,x∈Go->x<R.heap.size:=λx a=>by have:=bm.o x a;have:=ae.o.size;omega
   have au:g2∉Go:=λhm=>by
    rcases d.new g2 (by simp)with f|f
    .exact(r.o _ f).2 hm
    .have:=bs _ hm;omega
   have aP:bp<g2:=by
    rcases d.new g2 (by simp)with f|f
    .exact(r.o _ f).1
    .have:=ae.o.size;have:=aj.o;omega
   have cz:R.heap.size<=S.heap.size:=(by have:=d.size;omega);have b7:(S.setCell ⟨bp,1,none⟩ (.slice g2 (i+1) Z)).heap.size=S.heap.size:=(by simp);have bT:bp<R.heap.size:=(by have:=ae.o.size;have:=aj.o;omega);have h6:=gn.Z h5 L.Z (λhm=>by have:=t.o _ hm;omega);have h7:=((((aM.o.alloc (.cells #[k] 3)).Z d.Z (λhm=>by have:=(r.o _ hm).1;omega)).Z ad (by simp;omega)).Z L.Z (λhm=>by have:=t.o _ hm;omega));have h8:=((b6.R.Z ad (λx a hm=>by simp at a hm;omega)).Z L.Z (λx a hm=>by simp at a;exact au (a ▸ hm)));have f:=((((bo.o.Y ((zR [] R).alloc (.cells #[k] 3))).Z d.Z (λx a hm=>by have:=av.o x a;have:=(r.o _ hm).1;omega)).Z ad (λx a hm=>by simp at hm;have:=av.o x a;omega)).Z L.Z (λx a hm=>by have:=av.o x a;have:=t.o _ hm;omega));refine⟨i+1,O+(mV k part).length,.slice g2 (i+1) Z,[g2],F',by go_num,by omega,by simpa using h6,h7,?_,?_,f,cc,gd ?_,gd ?_,gd ?_,gd ?_⟩
   .rw[cg.o,<-ce.o,zM]
    exact h8
   .rw[cl.o,cm.o,zM,map_take]
    exact a2
   .have e1:=Hp.o
    rw[cj.o,zC]at e1;omega
   .refine(((((bi.o.trans ae.o (by simp)).alloc (.cells #[k] 3)).trans d.Z ?_).trans ad (by simp)).trans L.Z ?_)
    .intro x a
     right
     have:=(r.o x a).1
     have:=bh.o
     omega
    .intro x a
     right
     have:=t.o x a
     have:=bh.o
     omega
   .intro x a
    simp at a;subst a;refine⟨aP,L.o ?_ au⟩;rw[b7];exact b6.lt
   .intro x a
    rcases L.new x a with h|h
    .exact t.o x h
    .rw[b7]at h;omega
  .omega
end Go.Proofs.YtifdlkoepaepiaaGreatDoor
