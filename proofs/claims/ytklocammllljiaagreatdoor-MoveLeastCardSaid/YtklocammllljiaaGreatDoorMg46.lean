/- package move by its contracts: getBlock, a block whose planes are changed. Printed by wip/mkgb.py. -/
import Derived.Test.YtklocammllljiaaGreatDoorMg45
set_option linter.unusedVariables false
set_option linter.unusedSimpArgs false
set_option maxHeartbeats 4000000
set_option maxRecDepth 100000
namespace Go.Proofs.YtklocammllljiaaGreatDoor
open Go.RowKit
theorem getBlock_diff {w:World} {p q:PicD} {g o:Nat} {B:Nat->Option Addr} {c:Nat->Nat} {G:List Nat} {bs:List Sq} {s:Sq} {m:Int × Int} {b:Nat} {F ds:List Nat} {pos gP capP:Nat} {xs:List Value} {gs:List Nat} (cap:Nat)
  (h:GbIn w p q g o B c G bs s m b F ds pos gP capP xs gs) (hsame:sameB p q s m=false) (hah:Ahead ds pos (blockBits p q s m)) :
  Calls Tryz.prog 99 #[.pointer (some ⟨b,0,none⟩),picV p g o cap,picV (bwP p q bs s 0) gP 0 capP,sqV s] w (GbPost w p q bs s b F ds (pos+(blockBits p q s m).length) gP capP xs gs):=by
 have ag:=h.was.ok
 have ao:=h.qok
 have ha:=h.ha
 have hs:=h.hs
 have hm:=h.hm
 obtain ⟨cr,fr,cV,dO⟩:(1<=s.w/\s.w<=8/\1<=s.h/\s.h<=8):=⟨h.sw0,h.sw1,h.sh0,h.sh1⟩
 have dJ:s.x<=64:=by have:=hs.x;have:=ag.w1;omega
 have dz:s.y<=64:=by have:=hs.y;have:=ag.h1;omega
 have fu:=ag.w1
 have fM:=ag.h1
 have aO:=hm.fit
 have da:∀ k,w.heap.size<=k->k∉b::gs:=fun k hk aa=>by
  rcases zJ.1 aa with rfl | h1
  ·have:=h.rd.lt _ h.rd.mem;omega
  ·have:=h.now.pl.lt k h1;omega
 have bV:=ha.n
 obtain ⟨n,hn⟩:=zX (p.P.length)
 rw [<-hn] at bV
 obtain ⟨N,hN⟩:=zX (p.W*p.H)
 obtain ⟨M,hM⟩:=zX (s.h*s.w)
 have f1:M<=64:=by rw [hM];exact zL dO fr
 have fi:0<M:=by rw [hM];exact Nat.mul_pos cV cr
 have fZ:N<=4096:=by rw [hN];exact ag.area
 have fX:n<=4:=by rw [hn];exact ag.n1
 have bI:∀ w',Chg (b::gs) w w'->∀ i,i<n->_:=fun w' hc i hi=>part_ok cap (h.was.chg hc h.gG) i (by rw [<-hn];exact hi) s m aO.x0 aO.x1 aO.y0 aO.y1 dJ dz
 have bJ:=fun w'=>isMove_ok p.W p.H p.d n g o cap s m w' fu fM dJ dz (by omega) (by omega) (by have:=hm.1;omega) (by have:=hm.2.1;omega) (by have:=hm.2.2.1;omega) (by have:=hm.2.2.2.1;omega)
 rw [(mvB_iff p.W p.H s m).2 hm] at bJ
 have ck:=ag.d0
 have bU:=ag.d1
 have dv:∀ v w,_:=fun v w=>wrap_ok v p.d w ck bU
 unfold GbPost
 unfold picV sqV at bI ⊢
 unfold sqV at bJ
 rw [<-hn] at bI ⊢
 rw [bwP_len,<-hn]
 show Calls _ _ #[_,_,.agg #[.int .i64 p.W,.int .i64 p.H,.int .i64 p.d,.slice (some ⟨gP,0,none⟩) n capP],_] _ _
 obtain ⟨w1,ay⟩:=zX ((((w.alloc (.cells #[.int .i64 p.W,.int .i64 p.H,.int .i64 p.d,.slice (some ⟨g,o,none⟩) n cap] 25)).alloc (.cells #[.int .i64 p.W,.int .i64 p.H,.int .i64 p.d,.slice (some ⟨gP,0,none⟩) n capP] 25)).alloc (.cells #[.int .i64 s.x,.int .i64 s.y,.int .i64 s.w,.int .i64 s.h] 31)))
 have aY:Blk w1 w.heap.size 25 #[.int .i64 p.W,.int .i64 p.H,.int .i64 p.d,.slice (some ⟨g,o,none⟩) n cap]:=by rw [ay];exact ((Blk.new w _ _).alloc _).alloc _
 have cl:Blk w1 (w.heap.size+1) 25 #[.int .i64 p.W,.int .i64 p.H,.int .i64 p.d,.slice (some ⟨gP,0,none⟩) n capP]:=by rw [ay];exact (Blk.new2 w _ _ _).alloc _
 have aZ:Blk w1 (w.heap.size+1+1) 31 #[.int .i64 s.x,.int .i64 s.y,.int .i64 s.w,.int .i64 s.h]:=by rw [ay];exact Blk.new3 w _ _ _ _
 have bC:Chg [] w w1:=by rw [ay];exact (((zR [] w).alloc _).alloc _).alloc _
 have aA:∀ (E:List Nat) wr,Chg E w1 wr->(∀ k,w.heap.size<=k->k∉E)->(wr.cell? ⟨w.heap.size,0,none⟩=some (.int .i64 p.W)/\wr.cell? ⟨w.heap.size,1,none⟩=some (.int .i64 p.H)/\wr.cell? ⟨w.heap.size,2,none⟩=some (.int .i64 p.d)/\wr.cell? ⟨w.heap.size,3,none⟩=some (.slice (some ⟨g,o,none⟩) n cap)) /\
   (wr.cell? ⟨w.heap.size+1,0,none⟩=some (.int .i64 p.W)/\wr.cell? ⟨w.heap.size+1,3,none⟩=some (.slice (some ⟨gP,0,none⟩) n capP)) /\
   (wr.cell? ⟨w.heap.size+1+1,0,none⟩=some (.int .i64 s.x)/\wr.cell? ⟨w.heap.size+1+1,1,none⟩=some (.int .i64 s.y)/\wr.cell? ⟨w.heap.size+1+1,2,none⟩=some (.int .i64 s.w)/\wr.cell? ⟨w.heap.size+1+1,3,none⟩=some (.int .i64 s.h)):=fun E wr hc e =>
  ⟨⟨(aY.chg hc (e _ (by omega))).cell 0,(aY.chg hc (e _ (by omega))).cell 1,(aY.chg hc (e _ (by omega))).cell 2,(aY.chg hc (e _ (by omega))).cell 3⟩,⟨(cl.chg hc (e _ (by omega))).cell 0,(cl.chg hc (e _ (by omega))).cell 3⟩,⟨(aZ.chg hc (e _ (by omega))).cell 0,(aZ.chg hc (e _ (by omega))).cell 1,(aZ.chg hc (e _ (by omega))).cell 2,(aZ.chg hc (e _ (by omega))).cell 3⟩⟩
 have bM:gP∉b::gs:=fun aa=>by
  rcases zJ.1 aa with e | h1
  ·exact h.fG b h.rd.mem (by simp [e])
  ·obtain ⟨k,hk,e⟩:=List.getElem_of_mem h1
   have fD:k<(bwP p q bs s 0).P.length:=by rw [<-h.now.pl.lg];exact hk
   exact h.now.neP fD (zF hk) e.symm
 have aT:=h.rd.chg bC (by simp)
 have bn:∀ w2 pos',IsRd w2 b F ds pos'->Chg [b] w1 w2->GbSt w1 p q bs s b F ds pos' gP capP xs gs w2 0:=fun w2 pos' hr hc =>
  ⟨hr,(h.now.same bC).chg hc (by simpa using fun e=>bM (by simp [e])) (by
   intro x hx aa
   simp at aa
   subst aa
   exact h.fG _ h.rd.mem (by simp [hx])),hc.mono (by simp)⟩
 have bN:∀ w2,Chg (b::gs) w w2->Pts w2:=fun w2 hc=>h.pts.chg hc fun aa=>by
  rcases zJ.1 aa with e | h1
  ·exact h.f0 (by rw [e];exact h.rd.mem)
  ·exact h.g0 h1
 have cS:=h.fG
 have b7:=h.f0
 have db:=fun i=>oldB_zero ha i s
 have ba:∀ i,(oldB p i s m).length=M:=fun i=>by rw [oldB_len,hM]
 have a5:∀ i,i<n->(p.P.getD i []).length=N/\(q.P.getD i []).length=N:=fun i hi=>⟨by rw [hN];exact ag.len _ (plane_mem (by omega)),by rw [hN,ha.W,ha.H];exact ao.len _ (plane_mem (by omega))⟩
 have aB:∀ k,k<s.h->(s.y+k)*p.W+s.x+s.w<=N:=fun k hk=>by
  have h1:=hs.x
  have h2:s.y+k+1<=p.H:=by have:=hs.y;omega
  have h3:=Nat.mul_le_mul_right p.W h2
  rw [Nat.succ_mul,zY p.H,<-hN] at h3
  omega
 have bl:∀ k,k<s.h->k*s.w+s.w<=M:=fun k hk=>by
  have h3:=Nat.mul_le_mul_right s.w (show k+1<=s.h by omega)
  rw [Nat.succ_mul,<-hM] at h3
  exact h3
 have al:∀ i k,i<n->k<s.h->_:=fun i k hi hk=>copy_row_eq (q:=q.P.getD i []) (l:=p.P.getD i []) (W:=p.W) (H:=p.H) (bs:=bs) (sx:=s.x) (sy:=s.y) (sw:=s.w) (sh:=s.h) (k:=k) (by rw [(a5 i hi).1,(a5 i hi).2]) (by rw [(a5 i hi).1,hN]) hs.x hs.y hk
 have ca:∀ i,(diffB p q i s m).length=M:=fun i=>by rw [diffB_len,hM,zY]
 have co:∀ i,SmpOk p.d (diffB p q i s m):=fun i=>by rw [ha.d];exact diffW_smp _ _ _
 have c4:∀ i,i<n->SmpOk p.d (oldB p i s m):=fun i hi=>oldB_smp ag (by omega) s m
 have dC:∀ i k,i<n->k<M->(partF (q.P.getD i []) p.W s.x s.y s.w s.h)[k]?=some (wrapI ((oldB p i s m).getD k 0+(diffB p q i s m).getD k 0) p.d):=fun i k hi hk=>by
  rw [<-db i,ha.d]
  exact unD_get (oldB_smp ao (by omega) s (0,0)) (by rw [<-hM];exact hk)
 have cP:∀ i,(partF (q.P.getD i []) p.W s.x s.y s.w s.h).length=M:=fun i=>by rw [partF_len,hM]
 have ak:∀ i,i<n->bestKind (diffB p q i s m) s.w s.h p.d<=7/\mayB (bestKind (diffB p q i s m) s.w s.h p.d) (diffB p q i s m) s.w p.d=true:=fun i hi=>by
  have h1:=bestKind_ok (diffB p q i s m) s.w s.h p.d
  exact ⟨h1.1,h1.2.1⟩
 have du:∀ w' i pos',i<n->IsRd w' b F ds pos'->Chg (b::gs) w w'->Ahead ds pos' (tileBest (diffB p q i s m) s.w s.h p.d)->Calls Tryz.prog 128 #[.pointer (some ⟨b,0,none⟩),.int .i64 s.w,.int .i64 s.h,.int .i64 p.d] w' (GetPost w' b F ds pos' (diffB p q i s m) (tileBest (diffB p q i s m) s.w s.h p.d).length):=fun w' i pos' hi hr hc hah' =>
  tget_all hr cr (by omega) cV (by omega) ck bU (by rw [ca i,hM,zY]) (co i) (ak i hi).1 (bN w' hc) b7 (ak i hi).2 hah'
 have dt:blockBits p q s m=bitsOf 2 2++(vecBits m++changeBits p q s m n):=by
  unfold blockBits
  rw [if_neg (by rw [hsame];simp),bV]
 obtain ⟨e1,c8⟩:∃ e1:Nat,m.1+4=(e1:Int):=⟨(m.1+4).toNat,by have:=hm.1;omega⟩
 obtain ⟨e2,dq⟩:∃ e2:Nat,m.2+4=(e2:Int):=⟨(m.2+4).toNat,by have:=hm.2.2.1;omega⟩
 have f5:e1<=8:=by have:=hm.2.1;omega
 have fW:e2<=8:=by have:=hm.2.2.2.1;omega
 have aM:vecBits m=bitsOf e1 4++bitsOf e2 4:=by
  unfold vecBits
  rw [c8,dq]
  rfl
 have z1:(e1:Int)-4=m.1:=by omega
 have z2:(e2:Int)-4=m.2:=by omega
 have y1:IntKind.i64.wrap (e1:Int)=(e1:Int):=IntWalk.i64_in _ (by omega)
 have y2:IntKind.i64.wrap (e2:Int)=(e2:Int):=IntWalk.i64_in _ (by omega)
 have z3 : -4<=m.1:=by omega
 have z4:m.1<=4:=by omega
 have z5 : -4<=m.2:=by omega
 have z6:m.2<=4:=by omega
 have bw:=hid ay
 have fo:=hid bI
 have fa:=hid bJ
 have fy:=hid dv
 have ab:=hid aA
 have fl:=hid bn
 have fT:=hid bN
 have cU:=hid cS
 have aD:=hid ba
 have dD:=hid a5
 have fC:=hid aB
 have fB:=hid bl
 have dQ:=hid al
 have ce:=hid aM
 have fb:=hid bM
 have au:=hid da
 have dS:=hid aT
 have dE:=hid bC
 have fs:=hid ag
 have dR:=hid ao
 have HA:=hid ha
 have d3:=hid hah
 have HN:=hid hn
 have fH:=hid hN
 have HM:=hid hM
 have fS:=hid b7
 have cy:=hid ca
 have fO:=hid co
 have fq:=hid c4
 have dM:=hid dC
 have fg:=hid cP
 have d2:=hid du
 have fQ:=hid dt
 obtain ⟨⟨a0,a1,a2,a3⟩,⟨b0,b3⟩,⟨s0,s1,s2,s3⟩⟩:=aA [] w1 (zR _ _) (by simp)
 have H9:=hid (show m.1=0->m.2=0->m=(0,0) from fun a b=>Prod.ext a b)
 clear ay aY cl aZ bI bJ dv aA bn bN cS ba a5 aB bl al aM bM da aT bC ag ao ha hah hn hN hM b7 ca co c4 dC cP du dt db hs hm aO hsame bV c8 dq h ak
 have ai:blockBits p q s m=bitsOf 2 2++(vecBits m++changeBits p q s m n):=fQ.out
 have hh:=d3.out
 rw [ai] at hh
 have dr:=rget_ahead w1 b F ds pos 2 2 dS.out (by omega) (by decide) hh.left
 have bD:=hh.right
 rw [bitsOf_len] at bD
 have a4:=bD.right
 rw [vecBits_len] at a4
 have bF:=bD.left
 rw [ce.out] at bF
 have dk:=bF.left
 have cc:=bF.right
 rw [bitsOf_len] at cc
 obtain ⟨posE,cq⟩:=zX (pos+2+4+4)
 have be:pos+2+8=posE:=by omega
 rw [be] at a4
 have cx:Hid (pos+(blockBits p q s m).length=posE+(changeBits p q s m n).length):=hid (by rw [ai,zC,zC,bitsOf_len,vecBits_len,cq];omega)
 have cY:q.d=p.d:=HA.out.d.symm
 have dn:Hid (∀ i,changeBits p q s m (i+1)=changeBits p q s m i++tileBest (diffB p q i s m) s.w s.h p.d):=hid (fun i=>by rw [<-cY];exact changeBits_succ p q s m i)
 have aW:∀ k i,i+k=n->∃ rest,changeBits p q s m n=changeBits p q s m i++rest:=by
  intro k
  induction k with
  | zero=>intro i h;exact ⟨[],by rw [List.append_nil,show i=n by omega]⟩
  | succ k ih =>
   intro i h
   obtain ⟨r,hr⟩:=ih (i+1) (by omega)
   exact ⟨_,by rw [hr,changeBits_succ,zH]⟩
 have b9:Hid (∀ i,i<n->Ahead ds (posE+(changeBits p q s m i).length) (tileBest (diffB p q i s m) s.w s.h p.d)):=hid (fun i hi=>by
  obtain ⟨r,hr⟩:=aW (n-(i+1)) (i+1) (by omega)
  rw [hr,dn.out i,zH] at a4
  exact a4.right.left)
 clear a4 bF be cY aW
 have bf:=fun w' hr=>rget_ahead w' b F ds (pos+2) 4 e1 hr (by omega) (by omega) dk
 have aH:=fun w' hr=>rget_ahead w' b F ds (pos+2+4) 4 e2 hr (by omega) (by omega) cc
 rw [<-cq] at aH
 have fw:=hid bf
 have dN:=hid aH
 clear ai cq hh bD dk cc bf aH
 go_enter Tryz.func99,Tryz.ntmps99
 go_wp2_with fail
 rw [<-bw.out]
 refine dr.mono ?_
 rintro e w2 ⟨rfl,cN,c0⟩
 have ah:=err_ok w2 b F ds _ cN
 have bf:=fw.out w2 cN
 have cz:=hid c0
 clear dr cN c0
 go_wp2_with (go_at_call 84;refine ah.mono ?_;rintro e w' ⟨rfl,rfl⟩)
 refine bf.mono ?_
 rintro e w3 ⟨rfl,di,dc⟩
 have aH:=dN.out w3 di
 have ch:=hid (cz.out.trans_same dc)
 clear bf ah di dc
 go_wp2_with fail
 refine aH.mono ?_
 rintro e w4 ⟨rfl,bX,cR⟩
 have ah:=err_ok w4 b F ds _ bX
 have aV:=hid (ch.out.trans_same cR)
 have fK:=hid bX
 obtain ⟨⟨a0,a1,a2,a3⟩,⟨b0,b3⟩,⟨s0,s1,s2,s3⟩⟩:=ab.out [b] w4 aV.out (fun k hk aa=>au.out k hk (by simp at aa;simp [aa]))
 clear aH bX cR
 go_wp2_with (go_at_call 84;refine ah.mono ?_;rintro e w' ⟨rfl,rfl⟩)
 refine (fa.out _).mono ?_
 rintro e w5 ⟨rfl,an⟩
 have bg:=aV.out.trans_same (an.mono (F':=[b]) (by simp))
 have bH:=hid (fl.out w5 posE (fK.out.chg an (by simp)) bg)
 obtain ⟨⟨a0,a1,a2,a3⟩,⟨b0,b3⟩,⟨s0,s1,s2,s3⟩⟩:=ab.out (b::gs) w5 bH.out.chg au.out
 clear an bg ah
 go_wp2_with fail
 clear a0 a1 a2 a3 b0 b3 s0 s1 s2 s3
 have a7:=bH.out
 have bH:Hid (GbSt w1 p q bs s b F ds (posE+(changeBits p q s m 0).length) gP capP xs gs w5 0):=hid (by simpa [changeBits] using a7)
 clear a7
 go_loopg [14,15,16,17,18,19,67] n (fun j v14 v15 v16 v17 v18 v19 v67 wr=>∃ i:Nat,v67=.int .i64 i/\i+j=n/\Hid (GbSt w1 p q bs s b F ds (posE+(changeBits p q s m i).length) gP capP xs gs wr i))
 case atStart=>exact ⟨0,rfl,by omega,bH⟩
 case round =>
  obtain ⟨i,rfl,f4,HS⟩:=hrel
  rcases gk with _ | j
  ·obtain rfl:i=n:=by omega
   have t1:decide (i<i)=false:=by simp
   go_wp2_with fail
   go_ret
   have b1:=HS.out
   refine ⟨rfl,?_,?_,?_⟩
   ·rw [cx.out]
    exact b1.rd
   ·exact b1.now
   ·exact (dE.out.mono (by simp)).trans_same b1.chg
  ·have hi:i<n:=by omega
   have t1:decide (i<n)=true:=zB hi
   have bB:i<p.P.length:=by rw [<-HN.out];exact hi
   obtain ⟨wr0,rfl⟩:=zX (wr)
   have cn:Chg (b::gs) w wr0:=(dE.out.mono (by simp)).trans_same HS.out.chg
   obtain ⟨⟨a0,a1,a2,a3⟩,⟨b0,b3⟩,⟨s0,s1,s2,s3⟩⟩:=ab.out (b::gs) wr0 HS.out.chg au.out
   have cX:=fo.out wr0 cn i hi
   obtain ⟨gi,ci,bE,bY,af,ac⟩:=HS.out.now.plane (i:=i) (by rw [bwP_len];exact bB)
   have dd:(bwP p q bs s i).P.getD i []=mixF (q.P.getD i []) (p.P.getD i []) p.W bs:=by
    rw [zD,bwP_get bs s i bB,if_neg (by omega)]
    rfl
   rw [dd] at af
   change Row wr0 3 (.slice (some ⟨gi,0,none⟩) (p.W*p.H) ci) gi _ at af
   change wr0.cell? ⟨gP,i,none⟩=some (.slice (some ⟨gi,0,none⟩) (p.W*p.H) ci) at ac
   change xs[i]?=some (.slice (some ⟨gi,0,none⟩) (p.W*p.H) ci) at bE
   rw [<-fH.out] at af ac bE
   have bq:=HS.out.now.ltP
   have bm:gi∈gs:=List.mem_of_getElem? bY
   have a6:∀ wz,Chg (b::gs) wr0 wz->wz.cell? ⟨gP,i,none⟩=some (.slice (some ⟨gi,0,none⟩) N ci):=fun wz hz=>(World.cell?_of_block (w:=wr0) (hz.block gP bq fb.out)).trans ac
   have cF:N<=ci:=by
    obtain ⟨_,e,h1,_⟩:=af.open_
    injection e with _ e3 e4
    subst e4
    rw [zE,mixF_len,(dD.out i hi).1] at h1
    exact h1
   have fe:=hid bE
   have dT:=hid bY
   have dl:=hid af
   have fz:=hid a6
   have dj:=hid bm
   have dg:=hid cn
   have fk:=hid bB
   clear bE bY af ac a6 dd bq bm cn bB
   go_wp2_with fail
   refine cX.mono ?_
   rintro e w5 ⟨v5,F5,rfl,aQ,an,c1⟩
   clear cX
   rcases aQ.cases with ⟨_,he,_⟩ | ⟨g5,aj,bj⟩
   ·exfalso
    have:=aD.out i
    rw [List.map_eq_nil_iff.1 he] at this
    simp at this
    omega
   have aE:=aj
   obtain ⟨c5,rfl,dy,fE,ap,cC⟩:=aj.open_map
   have dp:wr0.heap.size<=g5:=c1 g5 (by rw [bj];simp)
   rw [aD.out i] at dy aE ⊢
   have dA:=hid aE
   have aK:=hid dp
   have fY:=hid an
   have bk:gi<wr0.heap.size:=dl.out.lt
   have bW:=hid bk
   clear aQ aj aE ap cC bj c1 dp bk fE a0 a1 a2 a3 b0 b3 s0 s1 s2 s3
   have aL:=HS.out.rd.chg an (by simp)
   have aN:=b9.out i hi
   have bh:Chg (b::gs) w w5:=dg.out.trans_same (an.mono (by simp))
   have aR:Chg (b::gs) w1 w5:=HS.out.chg.trans_same (an.mono (by simp))
   have aG:=d2.out w5 i _ hi aL bh aN
   unfold GetPost at aG
   obtain ⟨⟨a0,a1,a2,a3⟩,⟨b0,b3⟩,⟨s0,s1,s2,s3⟩⟩:=ab.out (b::gs) w5 aR au.out
   clear aL aN bh aR
   go_wp2_with fail
   refine aG.mono ?_
   rintro e w6 ⟨v7,F7,rfl,az,br,cm,dw⟩
   obtain ⟨A7,c7,rfl,dX,ft,b5⟩:=az.open_map
   have bR:=dA.out.lt
   have cH:g5≠b:=fun e=>by have:=aK.out;have:=HS.out.rd.lt b HS.out.rd.mem;omega
   have bo:=dA.out.chg cm (by simpa using cH)
   have bc:∀ ad,A7=some ad->ad.block≠g5:=fun ad e he=>by
    obtain ⟨b0,o0,e0,f6,_⟩:=b5.ex (by rw [cy.out i];exact fi)
    rw [e] at e0
    injection e0 with e0
    have cZ:=az.apt (F':=[g5]) (l':=[()]) (by
     intro x hx aa
     simp at aa
     subst aa
     have:=dw x hx
     omega) (by simp) ad e
    simp at cZ
    exact cZ he
   rw [cy.out i] at dX ⊢
   have bT:=hid br
   have cD:=hid bo
   have cf:=hid b5
   have b6:=hid bc
   have c9:Hid (Chg [b] wr0 w6):=hid ((an.mono (by simp)).trans_same cm)
   clear aG az br b5 bo bc dw cm an ft bR
   have ae:Chg (b::gs) w1 w6:=HS.out.chg.trans_same (c9.out.mono (by simp))
   obtain ⟨⟨a0,a1,a2,a3⟩,⟨b0,b3⟩,⟨s0,s1,s2,s3⟩⟩:=ab.out (b::gs) w6 ae au.out
   have a8:=hid ae
   obtain ⟨df,bG⟩:=zX (diffB p q i s m)
   obtain ⟨ax,bx⟩:=zX (oldB p i s m)
   obtain ⟨un,bv⟩:=zX (partF (q.P.getD i []) p.W s.x s.y s.w s.h)
   have av:=aD.out i
   have b4:=cy.out i
   have cK:=fg.out i
   have cL:=fO.out i
   have cJ:=fq.out i hi
   have cE:=fun k hk=>dM.out i k hi hk
   rw [<-bx] at av cJ
   rw [<-bG] at b4 cL
   rw [<-bv] at cK
   rw [<-bv,<-bx,<-bG] at cE
   have aC:=cf.out
   rw [<-bG] at aC
   have aS:Row w6 3 (.slice (some ⟨g5,0,none⟩) M c5) g5 ((mixD un ax 0).map vi):=by
    have h1:=cD.out
    rw [<-bx] at h1
    simpa [mixD] using h1
   have fp:=hid aS
   have cv:=hid aC
   have cw:=hid av
   have fJ:=hid b4
   have dL:=hid cK
   have fA:=hid cL
   have dZ:=hid cJ
   have d6:=hid cE
   have dU:=hid bv
   clear ae bG bx bv av b4 cK cL cJ cE aC aS
   go_wp2_with fail
   go_loopg [18,95] M (fun j2 v18 v95 wr2=>∃ k:Nat,v95=.int .i64 k/\k+j2=M/\Hid (Row wr2 3 (.slice (some ⟨g5,0,none⟩) M c5) g5 ((mixD un ax k).map vi))/\Hid (Chg [g5] w6 wr2))
   case atStart=>exact ⟨0,rfl,by omega,fp,hid (zR _ _)⟩
   case round =>
   obtain ⟨k,rfl,d7,aJ,am⟩:=hrel
   rcases gk with _ | j2
   case succ =>
    have hk:k<M:=by omega
    have t2:decide (k<M)=true:=zB hk
    have bA:k<ax.length:=by rw [cw.out];exact hk
    have cd:k<df.length:=by rw [fJ.out];exact hk
    have ar:un.length=ax.length:=by rw [dL.out,cw.out]
    have c2:=mixD_get ar bA
    obtain ⟨_,-,-,-,bd,dx⟩:=aJ.out.open_map
    have aI:=bd k _ c2
    have fR:=dx k
    have aX:Apt A7 df [g5]:=fun _ ad e aa=>b6.out ad e (by simpa using aa)
    obtain ⟨ga,oa,fP,bK⟩:=(cv.out.keep aX am.out).at_ cd
    subst fP
    obtain ⟨x,hx⟩:=zX (ax.getD k 0)
    obtain ⟨y,hy⟩:=zX (df.getD k 0)
    have cQ:df[k]=y:=by rw [hy,zD,zF cd];rfl
    rw [cQ] at bK
    rw [<-hx] at aI
    have cA:wr.cell? ⟨ga,oa+k,none⟩=some (.int .i64 y):=bK
    have cB:wr.cell? ⟨g5,k,none⟩=some (.int .i64 x):=aI
    obtain ⟨d9,dB⟩:=getD_smp dZ.out k
    obtain ⟨d5,dH⟩:=getD_smp fA.out k
    rw [<-hx] at d9 dB
    rw [<-hy] at d5 dH
    obtain ⟨cp,cj⟩:=pow_d ck bU
    have fV:x<65536:=by omega
    have f2:y<65536:=by omega
    have bu:=d6.out k hk
    rw [<-hx,<-hy] at bu
    have aF:=fy.out (x+y)
    obtain ⟨v,hv⟩:=zX (wrapI (x+y) p.d)
    rw [<-hv] at bu aF
    have fI:Hid (∀ w,Calls Tryz.prog 102 #[.int .i64 (x+y),.int .i64 p.d] w fun e w'=>e=.returned (.int .i64 v)/\w'=w):=hid (fun w=>(aF w).mono fun e w' h=>⟨h.1,h.2.symm⟩)
    have ay:IntKind.i64.wrap (x+y)=x+y:=IntWalk.i64_in _ (by omega)
    have cs:∀ k,k∈[g5]->w.heap.size<=k:=fun k hk=>by
     simp at hk
     have:=aK.out
     have:=dg.out.size
     omega
    obtain ⟨⟨a0,a1,a2,a3⟩,-,-⟩:=ab.out (b::gs) w6 a8.out au.out
    have aw:g5≠w.heap.size:=fun e=>by
     have:=aK.out
     have:=HS.out.chg.size
     have:=bw.out
     have hz:w1.heap.size=w.heap.size+1+1+1:=by rw [bw.out,alloc_size,alloc_size,alloc_size]
     omega
    have fx:w1.heap.size=w.heap.size+1+1+1:=by rw [bw.out,alloc_size,alloc_size,alloc_size]
    have bb:w.heap.size<w6.heap.size:=by have:=a8.out.size;omega
    have b2:wr.cell? ⟨w.heap.size,2,none⟩=some (.int .i64 p.d):=(World.cell?_of_block (w:=w6) (am.out.block w.heap.size bb (by simpa using aw.symm))).trans a2
    have bp:=mixD_set ar bA v bu
    have bL:=hid bp
    have dP:=hid bA
    have cg:=hid ar
    clear aI bK hx hy cQ bu aF hv bp bd dx c2 aX cd bA dB dH a0 a1 a2 a3 cs ar cp cj aw fx bb
    go_wp2_with fail
    refine wp_region_quiet_tail 15 (by kernel_rfl) (by kernel_rfl) ?_
    simp only [List.take_succ_cons,List.take_zero,List.drop_succ_cons,List.drop_zero]
    repeat (go_big_quiet_step ((go_at_call 102;exact Calls.quiet_of_same (fI.out _))))
    refine wpQuiet_nil ?_
    intro _ bS
    obtain ⟨nq,rfl⟩:=bS
    go_wp2_with fail
    go_roundg j2
    case measure=>omega
    case rel =>
     refine ⟨k+1,by go_num,by omega,hid ?_,hid ((am.out.drewN nq).setCell (p:=⟨g5,k,none⟩) (.inl (by simp)) _)⟩
     have h1:=(aJ.out.drewN nq).set_ (i:=k) (by rw [zE,mixD_len cg.out];exact dP.out) (.int .i64 v)
     have e:((mixD un ax k).map vi).set k (.int .i64 v)=(mixD un ax (k+1)).map vi:=by rw [<-bL.out,List.map_set];rfl
     rw [e] at h1
     exact h1
   obtain rfl:k=M:=by omega
   have t2:decide (k<k)=false:=by simp
   have bO:=aJ.out
   rw [show mixD un ax k=partF (q.P.getD i []) p.W s.x s.y s.w s.h by
    rw [<-dU.out]
    unfold mixD
    rw [zT (by rw [dL.out];exact zQ _),List.drop_of_length_le (by rw [cw.out];exact zQ _),List.append_nil]] at bO
   obtain ⟨w6',rfl⟩:=zX (wr)
   obtain ⟨M,rfl⟩:=zX (k)
   have aP:IsRd w6' b F ds (posE+(changeBits p q s m i).length+(tileBest (diffB p q i s m) s.w s.h p.d).length):=bT.out.chg am.out (fun x hx aa=>by
    simp at aa
    have:=aK.out
    have:=HS.out.rd.lt x hx
    omega)
   have bZ:=hid aP
   have aq:Hid (Chg [b] wr0 w6'):=hid (c9.out.trans am.out (fun x hx=>by
    simp at hx
    subst hx
    exact .inr aK.out))
   have ae:Chg (b::gs) w1 w6':=HS.out.chg.trans_same (aq.out.mono (by simp))
   obtain ⟨⟨a0,a1,a2,a3⟩,⟨b0,b3⟩,⟨s0,s1,s2,s3⟩⟩:=ab.out (b::gs) w6' ae au.out
   have fL:=hid bO
   clear bO aP ae
   have de:Row w6' 3 (.slice (some ⟨gi,0,none⟩) N ci) gi ((mixF (q.P.getD i []) (p.P.getD i []) p.W (bs++[⟨s.x,s.y,s.w,0⟩])).map vi):=by
    rw [mixF_flat _ _ _ _ _ rfl]
    refine dl.out.chg aq.out ?_
    intro aa
    simp at aa
    subst aa
    exact cU.out _ HS.out.rd.mem (by simp [dj.out])
   have fN:=hid de
   clear de
   go_wp2_with fail
   go_loopg [19,116] s.h (fun j2 v19 v116 wr2=>∃ k:Nat,v116=.int .i64 k/\k+j2=s.h/\Hid (Row wr2 3 (.slice (some ⟨gi,0,none⟩) N ci) gi ((mixF (q.P.getD i []) (p.P.getD i []) p.W (bs++[⟨s.x,s.y,s.w,k⟩])).map vi))/\Hid (Chg [gi] w6' wr2))
   case atStart=>exact ⟨0,rfl,by omega,fN,hid (zR _ _)⟩
   case round =>
    obtain ⟨k,rfl,d7,aJ,am⟩:=hrel
    have bz:Chg (b::gs) wr0 wr:=(aq.out.mono (F':=b::gs) (by simp)).trans am.out (fun x hx=>by
     simp at hx
     subst hx
     exact .inl (by simp [dj.out]))
    rcases gk with _ | j2
    ·have dI:k=s.h:=by omega
     have t2:decide (k<s.h)=false:=zA (by omega)
     have cI:=aJ.out
     rw [dI] at cI
     have bP:=HS.out.next fs.out dR.out HA.out fk.out cU.out (by rw [fe.out]) dT.out bZ.out aq.out am.out cI
     have bd:posE+(changeBits p q s m i).length+(tileBest (diffB p q i s m) s.w s.h p.d).length=posE+(changeBits p q s m (i+1)).length:=by rw [dn.out i,zC];omega
     rw [bd] at bP
     clear bd
     have fF:=hid bP
     clear cI bP dI bz
     go_wp2_with fail
     go_roundg j
     case measure=>omega
     case rel=>exact ⟨i+1,by go_num,by omega,fF⟩
    ·have hk:k<s.h:=by omega
     have t2:decide (k<s.h)=true:=zB hk
     obtain ⟨Yk,dG⟩:=zX (s.y+k)
     have eY:(s.y:Int)+(k:Int)=(Yk:Int):=by omega
     have aB:=fC.out k hk
     have bl:=fB.out k hk
     have al:=dQ.out i k hi hk
     rw [<-dG] at aB al
     obtain ⟨P0,cO⟩:=zX (Yk*p.W)
     have eP:(Yk:Int)*(p.W:Int)=(P0:Int):=by rw [cO];simp
     rw [<-cO] at aB al
     obtain ⟨at_,c3⟩:=zX (P0+s.x)
     have eQ:(P0:Int)+(s.x:Int)=(at_:Int):=by omega
     rw [<-c3] at aB al
     obtain ⟨lo,av⟩:=zX (k*s.w)
     have eL:(k:Int)*(s.w:Int)=(lo:Int):=by rw [av];simp
     rw [<-av] at bl al
     obtain ⟨k1,cT⟩:=zX (k+1)
     have eK:(k:Int)+1=(k1:Int):=by omega
     obtain ⟨cM,ct⟩:=zX (lo+s.w)
     have eH:(k1:Int)*(s.w:Int)=(cM:Int):=by rw [cT,ct,av];simp [Int.add_mul]
     have cb:at_<N:=by omega
     have fj:=slice_at (P:=Tryz.prog) Tryz.underlying22 size_int gi N ci at_ cb cF
     obtain ⟨A',fU,-,aI⟩:=slice_mid (P:=Tryz.prog) Tryz.underlying22 size_int (some ⟨g5,0,none⟩) M c5 lo s.w cM ct (by omega) dy
     have aU:g5∉[gi]:=fun aa=>by
      simp at aa
      have:=aK.out
      have:=bW.out
      omega
     have aE:=fL.out.chg am.out aU
     obtain ⟨_,-,-,-,ap,-⟩:=aE.open_map
     have c6:Cells vi wr (some ⟨g5,0,none⟩) (partF (q.P.getD i []) p.W s.x s.y s.w s.h):=⟨fun _=>⟨g5,0,rfl,aE.lt,fun k a hk=>by rw [Nat.zero_add];exact ap k a hk⟩⟩
     obtain ⟨R,hR⟩:=zX (((partF (q.P.getD i []) p.W s.x s.y s.w s.h).drop lo).take s.w)
     have cW:Cells vi wr A' R:=by rw [hR];exact aI Int vi wr _ (by rw [partF_len,HM.out]) c6
     have dK:R.length=s.w:=by rw [hR,zI,zO,partF_len,<-HM.out];omega
     rw [<-hR] at al
     have dm:((mixF (q.P.getD i []) (p.P.getD i []) p.W (bs++[⟨s.x,s.y,s.w,k⟩])).map vi).length=N:=by rw [zE,mixF_len,(dD.out i hi).1]
     have fm:=fz.out wr bz
     have bi:Chg (b::gs) w1 wr:=HS.out.chg.trans_same bz
     obtain ⟨⟨a0,a1,a2,a3⟩,⟨b0,b3⟩,⟨s0,s1,s2,s3⟩⟩:=ab.out (b::gs) wr bi au.out
     have bQ:=hid cW
     have cu:=hid al
     have fc:=hid dK
     have fv:=hid dm
     have fh:Yk<=72:=by omega
     have f3:P0<=4096:=by omega
     have d4:at_<=4096:=by omega
     have fd:lo<=64:=by omega
     have ff:cM<=64:=by omega
     have dY:k1<=8:=by omega
     have a9:Hid (at_+s.w<=N/\s.w<=N-at_):=hid ⟨by omega,by omega⟩
     clear dG cO c3 av cT ct aB bl al aI aU aE ap c6 hR cW dK dm bi bz a0 a1 a2 a3
     go_wp2_with fail
     refine wp_region_quiet_tail 27 (by kernel_rfl) (by kernel_rfl) ?_
     simp only [List.take_succ_cons,List.take_zero,List.drop_succ_cons,List.drop_zero]
     repeat (go_big_quiet_step (fail))
     refine wpQuiet_nil ?_
     intro _ bS
     obtain ⟨nq,rfl⟩:=bS
     have dh:=aJ.out.drewN nq
     go_wp2_with (refine wpList_copy_row rfl (.tmp 134) (.tmp 145) 22 22 rfl Tryz.underlying22 (by kernel_rfl) dh at_ (N-at_) (ci-at_) s.w (c5-lo) rfl rfl (R.map vi) ?n1 ?n2 ?n3 ?n4 ?n5 ?n6 ?_)
     case n1=>rw [zE];exact fc.out
     case n2=>exact cr
     case n3=>exact a9.out.2
     case n4 =>
      have h1:=bQ.out.drewN nq
      refine ⟨fun h0 => ?_⟩
      obtain ⟨b,o,e1,e2,e3⟩:=h1.ex (by simpa using h0)
      refine ⟨b,o,e1,e2,fun i a ha => ?_⟩
      rw [zW] at ha
      obtain ⟨x,hx,rfl⟩:=Option.map_eq_some_iff.1 ha
      exact e3 i x hx
     case n5=>rw [fv.out];exact a9.out.1
     case n6 =>
      intro u hu
      obtain ⟨x,_,rfl⟩:=List.mem_map.1 hu
      rfl
     intro w7 cG dF
     rw [<-zD,<-zD,cu.out] at cG
     have d8:=hid cG
     have cf:Hid (Chg [gi] w6' w7):=hid ((am.out.drewN nq).trans_same dF)
     clear cG dF dh
     go_wp2_with fail
     go_roundg j2
     case measure=>omega
     case rel=>exact ⟨k+1,by go_num,by omega,d8,cf⟩
theorem getBlock_ok {w:World} {p q:PicD} {g o:Nat} {B:Nat->Option Addr} {c:Nat->Nat} {G:List Nat} {bs:List Sq} {s:Sq} {m:Int × Int} {b:Nat} {F ds:List Nat} {pos gP capP:Nat} {xs:List Value} {gs:List Nat} (cap:Nat)
  (h:GbIn w p q g o B c G bs s m b F ds pos gP capP xs gs) (hah:Ahead ds pos (blockBits p q s m)) :
  Calls Tryz.prog 99 #[.pointer (some ⟨b,0,none⟩),picV p g o cap,picV (bwP p q bs s 0) gP 0 capP,sqV s] w (GbPost w p q bs s b F ds (pos+(blockBits p q s m).length) gP capP xs gs):=by
 cases hs:sameB p q s m with
 | true=>exact getBlock_same cap h hs hah
 | false=>exact getBlock_diff cap h hs hah
theorem size_u8 (w:World):(sizeOf 5).run Tryz.prog w=.ok 1 w:=by
 exact Tryz.sizeOf5 w
def sq0:Sq:=⟨0,0,0,0⟩
def DecPost (w:World) (q:PicD) (e:Ending) (w':World):Prop :=
 ∃ (gP capP:Nat) (xs:List Value) (gs:List Nat),e=.returned (.tuple #[picV q gP 0 capP,.int .i64 0])/\PicOwn w' q gP capP xs gs/\Chg [] w w'/\∀ x∈gP::gs,w.heap.size<=x
theorem decode_ok {w:World} {p q:PicD} {g o:Nat} {B:Nat->Option Addr} {c:Nat->Nat} {G:List Nat} (cap:Nat) (h:PicAt w p g o B c G) (hq:q.Ok) (ha:AlikeD p q) (hp:Pts w)
  (A:Option Addr) (capA:Nat) (ms:List (Int × Int)) (hml:ms.length=(gridL q.W q.H 8).length) (hmo:∀ i,i<ms.length->mvOk p.W p.H (sqAt (gridL q.W q.H 8) i) (ms.getD i (0,0))) (hbit:MvBits p q ms)
  (hc:Cells b8 w A (mvBytes p q ms)) (hcap:(mvBytes p q ms).length<=capA) (hcm:capA<=9223372036854775807) :
  Calls Tryz.prog 54 #[picV p g o cap,.slice A (mvBytes p q ms).length capA] w (DecPost w q):=by
 unfold DecPost
 have a9:=h.ok
 obtain ⟨ss,am⟩:=zX (gridL q.W q.H 8)
 have av:gridL p.W p.H 8=ss:=by rw [am,ha.W,ha.H]
 have aZ:∀ s∈ss,1<=s.w/\s.w<=8/\1<=s.h/\s.h<=8:=by rw [am];exact grid_ok (by decide)
 have aR:∀ s∈ss,SqIn p.W p.H s:=fun s hs=>by
  rw [am] at hs
  obtain ⟨a,b⟩:=grid_in (by decide) s hs
  exact ⟨by rw [ha.W];exact a,by rw [ha.H];exact b⟩
 have ct:ss.length<=4096:=by rw [am];exact grid8_len hq.w1 hq.h1
 rw [<-am] at hml hmo
 have af:∀ b∈moveBits p q ss ms ss.length,b<2:=by rw [am];exact hbit
 obtain ⟨n,hn⟩:=zX (ss.length)
 rw [<-hn] at af ct
 have cl:=moveBits_len p q (ss:=ss) ms aZ hq.d0 hq.d1 hq.n1 n (by omega)
 have co:0<n:=by
  rcases Nat.eq_zero_or_pos n with h0 | h0
  ·exfalso
   have h1:=area_grid (w:=q.W) (h:=q.H) (s:=8) (by decide)
   rw [<-am,List.eq_nil_of_length_eq_zero (show ss.length=0 by omega)] at h1
   have h2:=hq.pos
   simp [area] at h1
   omega
  ·exact h0
 have cx:=moveBits_pos p q ss ms n
 obtain ⟨body,ac⟩:=zX (packed (padF (moveBits p q ss ms n)))
 have a4:mvBytes p q ms=body++sumL p body:=by
  unfold mvBytes mvBody
  rw [<-am,<-hn,ac]
 have ay:∀ d∈body,d<256:=by rw [ac];exact packed_dig (mem_padF af)
 have al:body.length=(moveBits p q ss ms n).length / 8+(if (moveBits p q ss ms n).length%8=0 then 0 else 1):=by
  rw [ac,packed_len,padF_len]
  split<;>omega
 obtain ⟨m,hm⟩:=zX (body.length)
 have cL:0<m:=by rw [hm,al];split<;>omega
 have cI:m<=1000000000:=by rw [hm,al];split<;>omega
 obtain ⟨N,hN⟩:=zX ((mvBytes p q ms).length)
 have cg:N=m+4:=by rw [hN,a4,zC,sumL_len,hm]
 rw [<-hN] at hcap ⊢
 rw [a4] at hc
 have bB:Cells b8 w A body:=by
  have h1:=hc.take body.length
  rw [List.take_left] at h1
  exact h1
 have eN:(N:Int)-4=(m:Int):=by omega
 have cB:=fun w'=>slice_to (P:=Tryz.prog) Tryz.underlying52 A N capA m (by omega) hcap w' (size_u8 w')
 obtain ⟨A',bz,-,aP⟩:=slice_from (P:=Tryz.prog) Tryz.underlying52 size_u8 A N capA m (by omega) hcap
 have b2:N-m=4:=by omega
 rw [b2] at bz
 have bY:Cells b8 w A' (sumL p body):=by
  have h1:=aP Nat b8 w _ (by rw [<-a4];exact hN.symm) hc
  rw [hm,List.drop_left] at h1
  exact h1
 have aG:∀ w',Chg [] w w'->_:=fun w' (hc':Chg [] w w')=>checksum_ok cap (h.same hc') A capA body (bB.same hc') ay (by omega) (by omega)
 have bb:∀ w' g6 c6,Chg [] w w'->Cells b8 w' (some ⟨g6,0,none⟩) (sumL p body)->_:=fun w' g6 c6 hc' h6=>equal_b_ok w' A' (some ⟨g6,0,none⟩) (capA-m) c6 (sumL p body) (sumL p body) (bY.same hc') h6 rfl (by rw [sumL_len];omega)
 have aC:∀ w',Chg [] w w'->_:=fun w' (hc':Chg [] w w')=>rnew_ok w' A capA body (bB.same hc') ay (by omega) (by omega) hcm
 have a0:∀ w',Chg [] w w'->_:=fun w' (hc':Chg [] w w')=>is_yes cap (h.same hc')
 have au:∀ w',Chg [] w w'->_:=fun w' (hc':Chg [] w w')=>copy_ok cap (h.same hc')
 have aq:=fun w'=>mgrid_ok a9 g o cap w'
 rw [av] at aq
 rw [<-hm] at aG aC
 have bO:(sumL p body).length=4:=rfl
 rw [bO] at bb
 have ao:∀ w' i b F gP aa xs gs,i<n->Chg (b::gs) w w'->PicOwn w' (bwP p q (ss.take i) sq0 0) gP aa xs gs->IsRd w' b F body (moveBits p q ss ms i).length->(∀ x∈gP::gs,w.heap.size<=x)->(∀ x∈F,w.heap.size<=x)->(∀ x∈F,x∉gP::gs) ->
   Calls Tryz.prog 99 #[.pointer (some ⟨b,0,none⟩),picV p g o cap,.agg #[.int .i64 p.W,.int .i64 p.H,.int .i64 p.d,.slice (some ⟨gP,0,none⟩) p.P.length aa],sqV (sqAt ss i)] w' (fun e w''=>e=.returned (.int .i64 0)/\IsRd w'' b F body (moveBits p q ss ms (i+1)).length/\PicOwn w'' (bwP p q (ss.take (i+1)) sq0 0) gP aa xs gs/\Chg (b::gs) w' w''):=by
  intro w' i b F gP aa xs gs hi b4 ah aB hg hF ca
  have a5:=aZ _ (sqAt_mem (i:=i) (ss:=ss) (by omega))
  have bA:=aB.mem
  have cm:GbIn w' p q g o B c G (ss.take i) (sqAt ss i) (ms.getD i (0,0)) b F body (moveBits p q ss ms i).length gP aa xs gs:=by
   have cF:=hp.lt
   refine ⟨h.chg b4 ?_,by rw [bwP_any p q _ _ sq0];exact ah,aB,hq,ha,aR _ (sqAt_mem (by omega)),hmo i (by omega),a5.1,a5.2.1,a5.2.2.1,a5.2.2.2,hp.chg b4 ?_,?_,ca,?_,?_⟩
   ·intro x hx an
    have h1:=h.lt x hx
    rcases zJ.1 an with rfl | h2
    ·have:=hF _ bA;omega
    ·have:=hg x (by simp [h2]);omega
   ·intro an
    rcases zJ.1 an with e | h2
    ·have:=hF _ bA;omega
    ·have:=hg 0 (by simp [h2]);omega
   ·intro x hx an
    have h1:=h.lt x hx
    rcases zJ.1 an with rfl | h2
    ·have:=hF _ bA;omega
    ·have:=hg x (by simp [h2]);omega
   ·intro an
    have:=hF 0 an
    omega
   ·intro an
    have:=hg 0 (by simp [an])
    omega
  have cu:Ahead body (moveBits p q ss ms i).length (blockBits p q (sqAt ss i) (ms.getD i (0,0))):=by rw [ac];exact body_block af hi
  have h1:=getBlock_ok cap cm cu
  unfold picV at h1
  rw [bwP_len] at h1
  refine h1.mono ?_
  rintro e w'' ⟨rfl,h2,h3,h4⟩
  rw [<-zC,<-moveBits_succ] at h2
  rw [bwP_end p q _ _ sq0,<-take_sq (by omega)] at h3
  exact ⟨rfl,h2,h3,h4⟩
 have aV:bwP p q (ss.take n) sq0 0=q:=by
  rw [hn,zN,<-av]
  exact bwP_all a9 hq ha sq0
 have bZ:bwP p q (ss.take 0) sq0 0=p:=by rw [List.take_zero];exact bwP_start sq0
 have ak:8*body.length-(moveBits p q ss ms n).length=(8-(moveBits p q ss ms n).length%8)%8:=by rw [ac];exact body_left _
 obtain ⟨L,hL⟩:=zX ((8-(moveBits p q ss ms n).length%8)%8)
 have cG:L<=7:=by omega
 have aK:Ahead body (moveBits p q ss ms n).length (bitsOf 0 L):=by rw [ac,hL];exact body_rest af
 rw [<-hL] at ak
 have bS:picV q=fun gP o' cap' => .agg #[.int .i64 p.W,.int .i64 p.H,.int .i64 p.d,.slice (some ⟨gP,o',none⟩) p.P.length cap']:=by
  funext gP o' cap'
  unfold picV
  rw [ha.W,ha.H,ha.d,ha.n]
 rw [bS]
 unfold picV at a0 aG au aq ao ⊢
 unfold sqV at ao
 obtain ⟨k,hk⟩:=zX (p.P.length)
 rw [<-hk] at a0 aG au aq ao ⊢
 have cQ:k<=4:=by rw [hk];exact a9.n1
 obtain ⟨w1,aA⟩:=zX (((w.alloc (.cells #[.int .i64 p.W,.int .i64 p.H,.int .i64 p.d,.slice (some ⟨g,o,none⟩) k cap] 25)).alloc (.cells #[.int .i64 0,.int .i64 0,.int .i64 0,.slice none 0 0] 25)))
 have aS:Blk w1 w.heap.size 25 #[.int .i64 p.W,.int .i64 p.H,.int .i64 p.d,.slice (some ⟨g,o,none⟩) k cap]:=by rw [aA];exact (Blk.new w _ _).alloc _
 have b3:Blk w1 (w.heap.size+1) 25 #[.int .i64 0,.int .i64 0,.int .i64 0,.slice none 0 0]:=by rw [aA];exact Blk.new2 w _ _ _
 have bL:Chg [] w w1:=by rw [aA];exact ((zR [] w).alloc _).alloc _
 have bR:w1.heap.size=w.heap.size+1+1:=by rw [aA,alloc_size,alloc_size]
 have ap:∀ (E:List Nat) wz,Chg E w1 wz->w.heap.size∉E->wz.cell? ⟨w.heap.size,0,none⟩=some (.int .i64 p.W)/\wz.cell? ⟨w.heap.size,1,none⟩=some (.int .i64 p.H)/\wz.cell? ⟨w.heap.size,2,none⟩=some (.int .i64 p.d)/\wz.cell? ⟨w.heap.size,3,none⟩=some (.slice (some ⟨g,o,none⟩) k cap):=fun E wz hz hE =>
  ⟨(aS.chg hz hE).cell 0,(aS.chg hz hE).cell 1,(aS.chg hz hE).cell 2,(aS.chg hz hE).cell 3⟩
 have cv:∀ {α:Type} [DecidableEq α] (x:α),decide (x=x)=true:=by intros;simp
 have aF:∀ w' g6 c6,Chg [] w w'->Cells b8 w' (some ⟨g6,0,none⟩) (sumL p body)->Calls Tryz.prog 97 #[.slice A' 4 (capA-m),.slice (some ⟨g6,0,none⟩) 4 c6] w' fun e w''=>e=.returned (.bool true)/\Chg [] w' w'':=fun w' g6 c6 a b=>(bb w' g6 c6 a b).mono fun e w'' h=>⟨by rw [h.1];simp,h.2⟩
 have cp:=hid aA
 have bs:=hid bL
 have HZ:=hid bR
 have HK:=hid ap
 have ce:=hid b3
 have cy:=hid aF
 have b6:=hid aG
 have cc:=hid aC
 have b5:=hid a0
 have ci:=hid au
 have cA:=hid aq
 have cs:=hid ao
 have bm:=hid aV
 have cE:=hid bZ
 have aU:=hid ak
 have bj:=hid aK
 have HN:=hid hn
 have cR:=hid hk
 have HM:=hid hm
 have t0:decide ((N:Int)<4)=false:=zA (by omega)
 have cH:N<=1000000004:=by omega
 clear aA bL bR ap b3 bb aF aG aC a0 au aq ao aV bZ ak aK hn hk hm bS hL aS av am aZ aR hml hmo af cl co cx ac a4 ay al hN cg bB aP bY bO a9 h hq ha hp hc hbit cv b2
 go_enter Tryz.func54,Tryz.ntmps54
 go_wp2_with fail
 rw [<-cp.out]
 obtain ⟨k0,k1,k2,k3⟩:=HK.out [] w1 (zR _ _) (by simp)
 go_wp2_with fail
 refine (b5.out w1 bs.out).mono ?_
 rintro e w2 ⟨rfl,aJ⟩
 have cq:=hid aJ
 obtain ⟨k0,k1,k2,k3⟩:=HK.out [] w2 aJ (by simp)
 have E2:Chg [] w1 w2.drew:=aJ.drew
 have D2:Chg [] w w2.drew:=(bs.out.trans_same aJ).drew
 clear aJ
 go_wp2_with fail
 go_region_held3 (fun w'=>w'.cell? ⟨w.heap.size,0,none⟩=some (.int .i64 p.W)/\w'.cell? ⟨w.heap.size,1,none⟩=some (.int .i64 p.H)/\w'.cell? ⟨w.heap.size,2,none⟩=some (.int .i64 p.d)/\w'.cell? ⟨w.heap.size,3,none⟩=some (.slice (some ⟨g,o,none⟩) k cap))
  (first | (go_keep;done) | exact HK.out [] _ (by first | exact E2.trans_same az | exact (E2.trans_same az).trans_same a3) (by simp) | trivial)
  (first
   | (go_at_call 98;refine (b6.out _ D2).mono ?_;rintro e w6 ⟨g6,c6,rfl,ar,az,b7⟩)
   | (go_at_call 97;refine (cy.out _ _ _ (D2.trans_same az) (by obtain ⟨c',e',_,_,h6⟩ := Row.cells_b8 ar;exact h6)).mono ?_;rintro e w7 ⟨rfl,a3⟩))
 have b1:=hid ((D2.trans_same az).trans_same a3)
 have bn:=hid ((E2.trans_same az).trans_same a3)
 have aC:=cc.out w7 b1.out
 clear k0 k1 k2 k3 D2 E2 az a3 ar b7
 go_wp2_with fail
 refine aC.mono ?_
 rintro e w8 ⟨b,F,rfl,aB,bf,hF⟩
 have aW:=hid (b1.out.trans_same bf)
 have a2:=hid (bn.out.trans_same bf)
 have au:=ci.out w8 aW.out
 obtain ⟨k0,k1,k2,k3⟩:=HK.out [] w8 a2.out (by simp)
 have bg:=hid aB
 have a7:Hid (∀ x∈F,w1.heap.size<=x/\x<w8.heap.size):=hid (fun x hx=>⟨by have:=hF x hx;have:=bn.out.size;omega,aB.lt x hx⟩)
 clear aC aB bf hF
 go_wp2_with fail
 refine au.mono ?_
 rintro e w9 ⟨gP,aa,xs,gs,rfl,ah,aL,bP⟩
 have cd:=hid (aW.out.trans_same aL)
 have bJ:=hid (a2.out.trans_same aL)
 have aN:=hid aL.size
 have bx:=hid (bg.out.chg aL (by simp))
 have bu:=hid ah
 have aO:Hid (∀ x∈gP::gs,w8.heap.size<=x/\x<w9.heap.size):=hid (fun x hx=>⟨bP x hx,by
  rcases zJ.1 hx with rfl | h1
  ·exact ah.ltP
  ·exact ah.pl.lt x h1⟩)
 clear au ah aL bP k0 k1 k2 k3
 obtain ⟨nb,a6⟩:=zX (w9.heap.size)
 obtain ⟨wA,a1⟩:=zX (w9.alloc (.cells #[.int .i64 p.W,.int .i64 p.H,.int .i64 p.d,.slice (some ⟨gP,0,none⟩) k aa] 25))
 have aM:Chg [] w9 wA:=by rw [a1];exact (zR [] w9).alloc _
 have bN:Blk wA nb 25 #[.int .i64 p.W,.int .i64 p.H,.int .i64 p.d,.slice (some ⟨gP,0,none⟩) k aa]:=by rw [a1,a6];exact Blk.new w9 _ _
 have bw:=hid a1
 have ba:=hid a6
 have ck:=hid bN
 have cb:=hid (cd.out.trans_same aM)
 have bD:=hid (bJ.out.trans_same aM)
 have bd:=hid (bx.out.chg aM (by simp))
 have br:Hid (PicOwn wA (bwP p q (ss.take 0) sq0 0) gP aa xs gs):=hid (by rw [cE.out];exact bu.out.same aM)
 obtain ⟨k0,k1,k2,k3⟩:=HK.out [] wA bD.out (by simp)
 rw [bw.out] at k0 k1 k2 k3
 have aq:=cA.out wA
 clear a1 a6 bN aM
 go_wp2_with fail
 rw [<-bw.out,<-ba.out]
 refine aq.mono ?_
 rintro e wB ⟨v8,F8,rfl,bK,aD,bG⟩
 obtain ⟨A8,c8,rfl,cO,cP,aQ,bV⟩:=OwnK.open_ bK
 have be:=hid aQ
 have bF:=hid (cb.out.trans_same aD)
 have cr:=hid (bD.out.trans_same aD)
 have bh:=hid (bd.out.chg aD (by simp))
 have bv:=hid (br.out.same aD)
 have bE:=ck.out.chg aD (by simp)
 have bi:=hid bE
 have b9:Hid (∀ ad,A8=some ad->wA.heap.size<=ad.block):=hid (fun ad e=>by
  obtain ⟨g8,rfl,hf,_⟩:=bV ad e
  exact bG g8 (by rw [hf];simp))
 rw [<-HN.out]
 clear aq bK aD bG aQ bV k0 k1 k2 k3 bE
 go_wp2_with fail
 have aH:∀ x∈b::(F++gs),w1.heap.size<=x/\x<nb:=by
  have cM:=bn.out.size
  have aZ:=a2.out.size
  have cN:=bJ.out.size
  have a6:=ba.out
  intro x hx
  have bU:∀ y∈F,w1.heap.size<=y/\y<nb:=fun y hy=>by
   have:=a7.out y hy
   have:=aN.out
   omega
  rcases zJ.1 hx with rfl | hx
  ·exact bU _ bg.out.mem
  ·rcases zP.1 hx with hx | hx
   ·exact bU x hx
   ·have:=aO.out x (by simp [hx])
    have:=aN.out
    omega
 have ab:=hid aH
 clear aH
 go_loopg [10,11,43] n (fun j v10 v11 v43 wr=>∃ i:Nat,v43=.int .i64 i/\i+j=n/\Hid (IsRd wr b F body (moveBits p q ss ms i).length)/\Hid (PicOwn wr (bwP p q (ss.take i) sq0 0) gP aa xs gs)/\Hid (Chg (b::gs) wB wr))
 case atStart=>exact ⟨0,rfl,by omega,hid (by simpa [moveBits] using bh.out),bv,hid (zR _ _)⟩
 case round =>
  obtain ⟨i,rfl,cJ,HR,HO,aE⟩:=hrel
  have cf:Hid (Chg (b::gs) w wr):=hid ((bF.out.mono (by simp)).trans_same aE.out)
  have bk:Hid (Chg (b::gs) w1 wr):=hid ((cr.out.mono (by simp)).trans_same aE.out)
  have aj:∀ y,y<w1.heap.size->y∉b::gs:=fun y hy hm=>by
   rcases zJ.1 hm with e | h1
   ·have:=ab.out b (by simp);omega
   ·have:=ab.out y (by simp [h1]);omega
  obtain ⟨k0,k1,k2,k3⟩:=HK.out (b::gs) wr bk.out (aj _ (by have:=HZ.out;omega))
  have aw:nb∉b::gs:=fun hm=>by
   rcases zJ.1 hm with e | h1
   ·have:=ab.out b (by simp);omega
   ·have:=ab.out nb (by simp [h1]);omega
  have ae:=bi.out.chg aE.out aw
  have n0:=ae.cell 0
  have n1:=ae.cell 1
  have n2:=ae.cell 2
  have n3:=ae.cell 3
  simp at n0 n1 n2 n3
  rcases gk with _ | j
  ·obtain rfl:i=n:=by omega
   have t1:decide (i<i)=false:=by simp
   have bC:=left_ok wr b F body _ HR.out
   rw [aU.out] at bC
   have bc:=hid ae
   have bp:=hid (ce.out.chg bk.out (aj _ (by have:=HZ.out;omega)))
   clear ae aw aj
   go_wp2_with fail
   refine bC.mono ?_
   rintro e wC ⟨rfl,nq,rfl⟩
   have t5:decide ((8:Int)<=(L:Int))=false:=zA (by omega)
   have bQ:=rget_ahead _ b F body _ L 0 (HR.out.chg ((zR [] wr).drewN nq) (by simp)) (by omega) (Nat.two_pow_pos L) bj.out
   clear bC
   go_wp2_with fail
   refine bQ.mono ?_
   rintro e wD ⟨rfl,cn,bT⟩
   have aY:Chg [b] wr wD:=(((zR [] wr).drewN nq).mono (by simp)).trans_same bT
   have aT:=bc.out.chg aY (fun hm=>by
    simp at hm
    have:=ab.out b (by simp)
    omega)
   have n0:=aT.cell 0
   have n1:=aT.cell 1
   have n2:=aT.cell 2
   have n3:=aT.cell 3
   simp at n0 n1 n2 n3
   have ag:=bp.out.chg aY (fun hm=>by
    simp at hm
    have:=ab.out b (by simp)
    have:=HZ.out
    omega)
   have z0:=ag.frozen 0
   have z1:=ag.frozen 1
   have z2:=ag.frozen 2
   have z3:=ag.frozen 3
   have r0:=ag.cell 0
   have r1:=ag.cell 1
   have r2:=ag.cell 2
   have r3:=ag.cell 3
   simp at r0 r1 r2 r3
   have cK:nb≠w.heap.size+1:=by have:=HZ.out;have:=ab.out b (by simp);omega
   have bl:=hid ag
   have aI:=hid aY
   clear bQ cn bT aT ag k0 k1 k2 k3 aY
   go_wp2_with fail
   obtain ⟨rb,cw⟩:=zX (w.heap.size+1)
   have ag:=bl.out
   rw [<-cw] at ag ⊢
   obtain ⟨wE,bq⟩:=zX ((((wD.setCell ⟨rb,0,none⟩ (.int .i64 p.W)).setCell ⟨rb,1,none⟩ (.int .i64 p.H)).setCell ⟨rb,2,none⟩ (.int .i64 p.d)).setCell ⟨rb,3,none⟩ (.slice (some ⟨gP,0,none⟩) k aa))
   have a8:Blk wE rb 25 #[.int .i64 p.W,.int .i64 p.H,.int .i64 p.d,.slice (some ⟨gP,0,none⟩) k aa]:=by
    rw [bq]
    have:=(((ag.set_ 0 (.int .i64 p.W)).set_ 1 (.int .i64 p.H)).set_ 2 (.int .i64 p.d)).set_ 3 (.slice (some ⟨gP,0,none⟩) k aa)
    simpa using this
   have bM:Chg [rb] wD wE:=by
    rw [bq]
    exact ((((zR [rb] wD).setCell (p:=⟨rb,0,none⟩) (.inl (by simp)) _).setCell (p:=⟨rb,1,none⟩) (.inl (by simp)) _).setCell (p:=⟨rb,2,none⟩) (.inl (by simp)) _).setCell (p:=⟨rb,3,none⟩) (.inl (by simp)) _
   have g0:=a8.cell 0
   have g1:=a8.cell 1
   have g2:=a8.cell 2
   have g3:=a8.cell 3
   simp at g0 g1 g2 g3
   rw [<-bq]
   refine bodyPost_ret (v:=.tuple #[.agg #[.int .i64 p.W,.int .i64 p.H,.int .i64 p.d,.slice (some ⟨gP,0,none⟩) k aa],.int .i64 0]) (by simp [results,Tryz.results54,go_sem,g0,g1,g2,g3]) rfl ?_
   have aX:∀ x∈gP::gs,x∉[b]/\x∉[rb]:=fun x hx=>by
    have h1:=aO.out x hx
    have h2:=a7.out b bg.out.mem
    have h3:=HZ.out
    have h4:=a2.out.size
    refine ⟨?_,?_⟩
    ·simp
     omega
    ·simp
     omega
   have bI:=HO.out
   rw [bm.out] at bI
   refine ⟨gP,aa,xs,gs,rfl,?_,?_,fun x hx => ?_⟩
   ·exact (bI.chg aI.out (aX gP (by simp)).1 (fun x hx=>(aX x (by simp [hx])).1)).chg bM (aX gP (by simp)).2 (fun x hx=>(aX x (by simp [hx])).2)
   ·refine (bF.out.trans (aE.out.trans_same (aI.out.mono (by simp))) ?_).trans bM ?_
    ·intro x hx
     right
     have h1:=HZ.out
     rcases zJ.1 hx with rfl | h2
     ·have:=ab.out x (by simp);omega
     ·have:=ab.out x (by simp [h2]);omega
    ·intro x hx
     simp at hx
     right
     omega
   ·have h1:=aO.out x hx
    have h2:=aW.out.size
    omega
  ·have hi:i<n:=by omega
   have t1:decide (i<n)=true:=zB hi
   have bH:i<ss.length:=by rw [<-HN.out];exact hi
   have aQ:Cells (fun v=>v) wr A8 (ss.flatMap sqCells):=be.out.chg aE.out (fun ad e hm=>by
    have h1:=b9.out ad e
    have h2:=ba.out
    have h3:wA.heap.size=nb+1:=by rw [bw.out,alloc_size,<-h2]
    rcases zJ.1 hm with e2 | h4
    ·have:=ab.out b (by simp);omega
    ·have:=ab.out ad.block (by simp [h4]);omega)
   obtain ⟨g8,o8,cC,x0,x1,x2,x3⟩:=sq_cell aQ bH
   subst cC
   have ax:Chg [] wr (wr.alloc (.cells #[.int .i64 ((sqAt ss i).x:Int),.int .i64 ((sqAt ss i).y:Int),.int .i64 ((sqAt ss i).w:Int),.int .i64 ((sqAt ss i).h:Int)] 31)):=(zR [] wr).alloc _
   obtain ⟨c0,c1,c2,c3⟩:=HK.out (b::gs) _ (bk.out.trans_same (ax.mono (by simp))) (aj _ (by have:=HZ.out;omega))
   have ai:=ae.chg ax (by simp)
   have d0:=ai.cell 0
   have d1:=ai.cell 1
   have d2:=ai.cell 2
   have d3:=ai.cell 3
   simp at d0 d1 d2 d3
   have ao:=cs.out _ i b F gP aa xs gs hi (cf.out.trans_same (ax.mono (by simp))) (HO.out.same ax) (HR.out.chg ax (by simp)) (fun x hx=>by have:=aO.out x hx;have:=aW.out.size;omega) (fun x hx=>by have:=a7.out x hx;have:=bs.out.size;omega) (fun x hx hm=>by have:=a7.out x hx;have:=aO.out x hm;omega)
   have bo:=hid ao
   have cD:=hid ax
   clear ao ax ai ae aw aj aQ bH
   go_wp2_with fail
   refine bo.out.mono ?_
   rintro e w5 ⟨rfl,b0,bW,bX⟩
   have cj:=hid b0
   have ch:=hid bW
   have cz:Hid (Chg (b::gs) wB w5):=hid ((aE.out.trans_same (cD.out.mono (by simp))).trans_same bX)
   clear b0 bW bX k0 k1 k2 k3 n0 n1 n2 n3 c0 c1 c2 c3 d0 d1 d2 d3 x0 x1 x2 x3
   go_wp2_with fail
   go_roundg j
   case measure=>omega
   case rel=>exact ⟨i+1,by go_num,by omega,cj,ch,cz⟩
theorem decode_sum {w:World} {p:PicD} {g o:Nat} {B:Nat->Option Addr} {c:Nat->Nat} {G:List Nat} (cap:Nat) (h:PicAt w p g o B c G)
  (A:Option Addr) (capA:Nat) (body tail:List Nat) (hdig:∀ d∈body,d<256) (hb0:0<body.length) (hb1:body.length<=1000000000) (ht:tail.length=4) (hne:tail≠sumL p body)
  (hc:Cells b8 w A (body++tail)) (hcap:(body++tail).length<=capA) (hcm:capA<=9223372036854775807) :
  Calls Tryz.prog 54 #[picV p g o cap,.slice A (body++tail).length capA] w fun e w'=>e=.returned (.tuple #[.agg #[.int .i64 0,.int .i64 0,.int .i64 0,.slice none 0 0],.int .i64 5])/\Chg [] w w':=by
 have aA:=h.ok
 obtain ⟨m,hm⟩:=zX (body.length)
 have aQ:0<m:=by omega
 have aP:m<=1000000000:=by omega
 obtain ⟨N,hN⟩:=zX ((body++tail).length)
 have aC:N=m+4:=by rw [hN,zC,ht,hm]
 rw [<-hN] at hcap ⊢
 have ax:Cells b8 w A body:=by
  have h1:=hc.take body.length
  rw [List.take_left] at h1
  exact h1
 have eN:(N:Int)-4=(m:Int):=by omega
 have aJ:=fun w'=>slice_to (P:=Tryz.prog) Tryz.underlying52 A N capA m (by omega) hcap w' (size_u8 w')
 obtain ⟨A',ao,-,ai⟩:=slice_from (P:=Tryz.prog) Tryz.underlying52 size_u8 A N capA m (by omega) hcap
 have av:N-m=4:=by omega
 rw [av] at ao
 have aq:Cells b8 w A' tail:=by
  have h1:=ai Nat b8 w _ hN.symm hc
  rw [hm,List.drop_left] at h1
  exact h1
 have ag:∀ w',Chg [] w w'->_:=fun w' (hc':Chg [] w w')=>checksum_ok cap (h.same hc') A capA body (ax.same hc') hdig (by omega) (by omega)
 have an:∀ w' g6 c6,Chg [] w w'->Cells b8 w' (some ⟨g6,0,none⟩) (sumL p body)->_:=fun w' g6 c6 hc' h6=>equal_b_ok w' A' (some ⟨g6,0,none⟩) (capA-m) c6 tail (sumL p body) (aq.same hc') h6 (by rw [ht];rfl) (by rw [ht];omega)
 have al:∀ w',Chg [] w w'->_:=fun w' (hc':Chg [] w w')=>is_yes cap (h.same hc')
 rw [<-hm] at ag
 have az:(sumL p body).length=4:=rfl
 rw [az,ht] at an
 unfold picV at al ag ⊢
 obtain ⟨k,hk⟩:=zX (p.P.length)
 rw [<-hk] at al ag ⊢
 have aR:k<=4:=by rw [hk];exact aA.n1
 obtain ⟨w1,ae⟩:=zX (((w.alloc (.cells #[.int .i64 p.W,.int .i64 p.H,.int .i64 p.d,.slice (some ⟨g,o,none⟩) k cap] 25)).alloc (.cells #[.int .i64 0,.int .i64 0,.int .i64 0,.slice none 0 0] 25)))
 have hb1:Blk w1 w.heap.size 25 #[.int .i64 p.W,.int .i64 p.H,.int .i64 p.d,.slice (some ⟨g,o,none⟩) k cap]:=by rw [ae];exact (Blk.new w _ _).alloc _
 have ay:Blk w1 (w.heap.size+1) 25 #[.int .i64 0,.int .i64 0,.int .i64 0,.slice none 0 0]:=by rw [ae];exact Blk.new2 w _ _ _
 have aw:Chg [] w w1:=by rw [ae];exact ((zR [] w).alloc _).alloc _
 have au:w1.heap.size=w.heap.size+1+1:=by rw [ae,alloc_size,alloc_size]
 have ac:∀ (E:List Nat) wz,Chg E w1 wz->w.heap.size∉E->wz.cell? ⟨w.heap.size,0,none⟩=some (.int .i64 p.W)/\wz.cell? ⟨w.heap.size,1,none⟩=some (.int .i64 p.H)/\wz.cell? ⟨w.heap.size,2,none⟩=some (.int .i64 p.d)/\wz.cell? ⟨w.heap.size,3,none⟩=some (.slice (some ⟨g,o,none⟩) k cap):=fun E wz hz hE =>
  ⟨(hb1.chg hz hE).cell 0,(hb1.chg hz hE).cell 1,(hb1.chg hz hE).cell 2,(hb1.chg hz hE).cell 3⟩
 have af:∀ w' g6 c6,Chg [] w w'->Cells b8 w' (some ⟨g6,0,none⟩) (sumL p body)->Calls Tryz.prog 97 #[.slice A' 4 (capA-m),.slice (some ⟨g6,0,none⟩) 4 c6] w' fun e w''=>e=.returned (.bool false)/\Chg [] w' w'':=fun w' g6 c6 a b=>(an w' g6 c6 a b).mono fun e w'' h=>⟨by rw [h.1,zA hne],h.2⟩
 have aE:=hid ae
 have ar:=hid aw
 have HZ:=hid au
 have HK:=hid ac
 have aM:=hid ay
 have aB:=hid af
 have aF:=hid ag
 have aD:=hid al
 have t0:decide ((N:Int)<4)=false:=zA (by omega)
 have aO:N<=1000000004:=by omega
 clear ae aw au ac ay an af ag al hk hm hb1 hN aC ax ai aq az aA h hc av hdig ht hne
 go_enter Tryz.func54,Tryz.ntmps54
 go_wp2_with fail
 rw [<-aE.out]
 obtain ⟨k0,k1,k2,k3⟩:=HK.out [] w1 (zR _ _) (by simp)
 go_wp2_with fail
 refine (aD.out w1 ar.out).mono ?_
 rintro e w2 ⟨rfl,ah⟩
 have aG:=hid ah
 obtain ⟨k0,k1,k2,k3⟩:=HK.out [] w2 ah (by simp)
 have E2:Chg [] w1 w2.drew:=ah.drew
 have D2:Chg [] w w2.drew:=(ar.out.trans_same ah).drew
 clear ah
 go_wp2_with fail
 go_region_held3 (fun w'=>w'.cell? ⟨w.heap.size,0,none⟩=some (.int .i64 p.W)/\w'.cell? ⟨w.heap.size,1,none⟩=some (.int .i64 p.H)/\w'.cell? ⟨w.heap.size,2,none⟩=some (.int .i64 p.d)/\w'.cell? ⟨w.heap.size,3,none⟩=some (.slice (some ⟨g,o,none⟩) k cap))
  (first | (go_keep;done) | exact HK.out [] _ (by first | exact E2.trans_same ad | exact (E2.trans_same ad).trans_same ak) (by simp) | trivial)
  (first
   | (go_at_call 98;refine (aF.out _ D2).mono ?_;rintro e w6 ⟨g6,c6,rfl,ab,ad,aI⟩)
   | (go_at_call 97;refine (aB.out _ _ _ (D2.trans_same ad) (by obtain ⟨c',e',_,_,h6⟩ := Row.cells_b8 ab;exact h6)).mono ?_;rintro e w7 ⟨rfl,ak⟩))
 have aH:=hid ((D2.trans_same ad).trans_same ak)
 have aK:=hid ((E2.trans_same ad).trans_same ak)
 clear k0 k1 k2 k3 D2 E2 ad ak ab aI
 have aa:=aM.out.chg aK.out (by simp)
 have z0:=aa.frozen 0
 have z1:=aa.frozen 1
 have z2:=aa.frozen 2
 have z3:=aa.frozen 3
 have r0:=aa.cell 0
 have r1:=aa.cell 1
 have r2:=aa.cell 2
 have r3:=aa.cell 3
 simp at r0 r1 r2 r3
 have am:=hid aa
 clear aa
 go_wp2_with fail
 obtain ⟨rb,aN⟩:=zX (w.heap.size+1)
 have aa:=am.out
 rw [<-aN] at aa ⊢
 obtain ⟨wE,ap⟩:=zX ((((w7.setCell ⟨rb,0,none⟩ (.int .i64 0)).setCell ⟨rb,1,none⟩ (.int .i64 0)).setCell ⟨rb,2,none⟩ (.int .i64 0)).setCell ⟨rb,3,none⟩ (.slice none 0 0))
 have aj:Blk wE rb 25 #[.int .i64 0,.int .i64 0,.int .i64 0,.slice none 0 0]:=by
  rw [ap]
  have:=(((aa.set_ 0 (.int .i64 0)).set_ 1 (.int .i64 0)).set_ 2 (.int .i64 0)).set_ 3 (.slice none 0 0)
  simpa using this
 have aL:Chg [rb] w7 wE:=by
  rw [ap]
  exact ((((zR [rb] w7).setCell (p:=⟨rb,0,none⟩) (.inl (by simp)) _).setCell (p:=⟨rb,1,none⟩) (.inl (by simp)) _).setCell (p:=⟨rb,2,none⟩) (.inl (by simp)) _).setCell (p:=⟨rb,3,none⟩) (.inl (by simp)) _
 have g0:=aj.cell 0
 have g1:=aj.cell 1
 have g2:=aj.cell 2
 have g3:=aj.cell 3
 simp at g0 g1 g2 g3
 rw [<-ap]
 refine bodyPost_ret (v:=.tuple #[.agg #[.int .i64 0,.int .i64 0,.int .i64 0,.slice none 0 0],.int .i64 5]) (by simp [results,Tryz.results54,go_sem,g0,g1,g2,g3]) rfl ?_
 exact ⟨rfl,aH.out.trans aL (fun x hx=>by
  simp at hx
  right
  omega)⟩
def MSearchPost (w:World) (p q:PicD) (x y:Nat) (e:Ending) (w':World):Prop :=
 ∃ (dx dy:Int) (c:Nat) (s:Sq),e=.returned (.tuple #[.int .i64 dx,.int .i64 dy,.int .i64 c])/\s∈gridL q.W q.H 8/\s.x=x/\s.y=y/\BestM p q s (fun _=>True) dx dy c/\Chg [] w w'
theorem msearch_ok {w:World} {p q:PicD} {g o:Nat} {B:Nat->Option Addr} {c:Nat->Nat} {G:List Nat} (cap:Nat) (h:PicAt w p g o B c G)
  {g' o':Nat} {B':Nat->Option Addr} {c':Nat->Nat} {G':List Nat} (cap':Nat) (h':PicAt w q g' o' B' c' G') (ha:AlikeD p q) (k0:Nat) (hk0:k0<(gridL q.W q.H 8).length) (x y:Nat) (hx:(sqAt (gridL q.W q.H 8) k0).x=x) (hy:(sqAt (gridL q.W q.H 8) k0).y=y) :
  Calls Tryz.prog 17 #[picV p g o cap,picV q g' o' cap',.int .i64 x,.int .i64 y] w (MSearchPost w p q x y):=by
 have ak:=h.ok
 have ab:=h'.ok
 have ao:=fun w' (hc:Chg [] w w')=>alike_yes cap (h.same hc) cap' (h'.same hc) ha
 have al:=fun w'=>mgrid_ok ab g' o' cap' w'
 unfold MSearchPost
 obtain ⟨ss,an⟩:=zX (gridL q.W q.H 8)
 have aa:∀ s∈ss,SqIn p.W p.H s:=fun s hs=>by
  rw [an] at hs
  obtain ⟨a,b⟩:=grid_in (by decide) s hs
  exact ⟨by rw [ha.W];exact a,by rw [ha.H];exact b⟩
 have aM:ss.length<=4096:=by rw [an];exact grid8_len ab.w1 ab.h1
 rw [<-an] at al hk0 hx hy ⊢
 obtain ⟨n,hn⟩:=zX (ss.length)
 have ae:∀ w',Chg [] w w'->∀ i,i<n->_:=fun w' hc i hi=>search_ok cap (h.same hc) cap' (h'.same hc) ha (sqAt ss i) (aa _ (sqAt_mem (by omega)))
 unfold picV sqV at ae
 unfold picV at ao al ⊢
 obtain ⟨w1,ag⟩:=zX (((w.alloc (.cells #[.int .i64 p.W,.int .i64 p.H,.int .i64 p.d,.slice (some ⟨g,o,none⟩) p.P.length cap] 25)).alloc (.cells #[.int .i64 q.W,.int .i64 q.H,.int .i64 q.d,.slice (some ⟨g',o',none⟩) q.P.length cap'] 25)))
 have ah:Blk w1 w.heap.size 25 #[.int .i64 p.W,.int .i64 p.H,.int .i64 p.d,.slice (some ⟨g,o,none⟩) p.P.length cap]:=by rw [ag];exact (Blk.new w _ _).alloc _
 have aj:Blk w1 (w.heap.size+1) 25 #[.int .i64 q.W,.int .i64 q.H,.int .i64 q.d,.slice (some ⟨g',o',none⟩) q.P.length cap']:=by rw [ag];exact Blk.new2 w _ _ _
 have az:Chg [] w w1:=by rw [ag];exact ((zR [] w).alloc _).alloc _
 have ai:=fun wz (hc:Chg [] w1 wz)=>And.intro (And.intro ((ah.chg hc (by simp)).cell 0) (And.intro ((ah.chg hc (by simp)).cell 1) (And.intro ((ah.chg hc (by simp)).cell 2) ((ah.chg hc (by simp)).cell 3)))) (And.intro ((aj.chg hc (by simp)).cell 0) (And.intro ((aj.chg hc (by simp)).cell 1) (And.intro ((aj.chg hc (by simp)).cell 2) ((aj.chg hc (by simp)).cell 3))))
 have aE:=hid ag
 have aq:=hid az
 have aL:=hid ao
 have aH:=hid al
 have HN:=hid hn
 have ad:=hid ai
 have aN:=hid ae
 have aO:n<=4096:=by omega
 have aT:x<=64:=by have h1:=(aa _ (sqAt_mem hk0)).x;have h2:=ak.w1;omega
 have aR:y<=64:=by have h1:=(aa _ (sqAt_mem hk0)).y;have h2:=ak.h1;omega
 have aC:∀ k,k<n->(sqAt ss k).x<=64/\(sqAt ss k).y<=64:=fun k hk=>by have h1:=(aa _ (sqAt_mem (i:=k) (ss:=ss) (by omega))).x;have h2:=ak.w1;have h3:=(aa _ (sqAt_mem (i:=k) (ss:=ss) (by omega))).y;have h4:=ak.h1;omega
 have aP:=hid aC
 have au:=hid (And.intro hk0 (And.intro hx hy))
 clear aC hk0 hx hy
 clear ao al ah aj ag az aa ak ab h h' ha hn an aM ai ae
 go_enter Tryz.func17,Tryz.ntmps17
 go_wp2_with fail
 rw [<-aE.out]
 refine (aL.out w1 aq.out).mono ?_
 rintro e w2 ⟨rfl,av⟩
 obtain ⟨⟨a0,a1,a2,a3⟩,⟨b0,b1,b2,b3⟩⟩:=ad.out w2 av
 have ar:=hid av
 clear av
 go_wp2_with fail
 refine (aH.out w2).mono ?_
 rintro e w3 ⟨v8,F8,rfl,aA,ay,aF⟩
 obtain ⟨A8,c8,rfl,aX,aU,ax,-⟩:=OwnK.open_ aA
 have ac:=hid (ar.out.trans_same ay)
 have aG:=hid ax
 rw [<-HN.out]
 clear aA ay aF ax a0 a1 a2 a3 b0 b1 b2 b3
 go_wp2_with fail
 go_loopg [8,9,10,12,20] n (fun j v8 v9 v10 v12 v20 wr=>∃ i:Nat,v20=.int .i64 i/\i+j=n/\i<=k0/\Hid (Chg [] w3 wr))
 case atStart=>exact ⟨0,rfl,by omega,Nat.zero_le _,hid (zR _ _)⟩
 case round =>
  obtain ⟨i,rfl,aV,aW,af⟩:=hrel
  obtain ⟨⟨a0,a1,a2,a3⟩,⟨b0,b1,b2,b3⟩⟩:=ad.out wr (ac.out.trans_same af.out)
  rcases gk with _ | j
  ·exfalso
   have:=au.out.1
   have:=HN.out
   omega
  ·have hi:i<n:=by omega
   have t1:decide (i<n)=true:=zB hi
   have am:i<ss.length:=by rw [<-HN.out];exact hi
   obtain ⟨g8,o8,aK,x0,x1,x2,x3⟩:=sq_cell (aG.out.same af.out) am
   subst aK
   have aJ:=ad.out _ (((ac.out.trans_same af.out)).alloc (.cells #[.int .i64 ((sqAt ss i).x:Int),.int .i64 ((sqAt ss i).y:Int),.int .i64 ((sqAt ss i).w:Int),.int .i64 ((sqAt ss i).h:Int)] 31))
   obtain ⟨⟨c0,c1,c2,c3⟩,⟨d0,d1,d2,d3⟩⟩:=aJ
   have ae:=aN.out _ ((((aq.out.trans_same ac.out).trans_same af.out)).alloc (.cells #[.int .i64 ((sqAt ss i).x:Int),.int .i64 ((sqAt ss i).y:Int),.int .i64 ((sqAt ss i).w:Int),.int .i64 ((sqAt ss i).h:Int)] 31)) i hi
   unfold SearchPost at ae
   have aw:=hid ae
   obtain ⟨bx,aS⟩:=aP.out i hi
   clear ae
   by_cases hm:(sqAt ss i).x=x/\(sqAt ss i).y=y
   ·have t2:(((sqAt ss i).x:Int)==(x:Int))=true:=by rw [beq_iff_eq];omega
    have t3:(((sqAt ss i).y:Int)==(y:Int))=true:=by rw [beq_iff_eq];omega
    have aB:=hid hm
    have aI:=hid am
    clear hm am
    go_wp2_with fail
    refine aw.out.mono ?_
    rintro e w5 ⟨dx,dy,cc,rfl,hb,aD⟩
    go_wp2
    refine bodyPost_ret (v:=.tuple #[.int .i64 dx,.int .i64 dy,.int .i64 cc]) (by simp [results,Tryz.results17,go_sem]) rfl ?_
    exact ⟨dx,dy,cc,sqAt ss i,rfl,sqAt_mem aI.out,aB.out.1,aB.out.2,hb,((((aq.out.trans_same ac.out).trans_same af.out)).alloc _).trans_same aD⟩
   ·have aQ:i<k0:=by
     rcases zZ i k0 with h1 | h1
     ·exact h1
     ·exfalso
      obtain rfl:i=k0:=by omega
      exact hm ⟨au.out.2.1,au.out.2.2⟩
    have ap:(((sqAt ss i).x:Int)==(x:Int))=false\/((((sqAt ss i).x:Int)==(x:Int))=true/\(((sqAt ss i).y:Int)==(y:Int))=false):=by
     by_cases q1:(sqAt ss i).x=x
     ·right
      exact ⟨by rw [beq_iff_eq];omega,by rw [beq_eq_false_iff_ne];intro q2;exact hm ⟨q1,by omega⟩⟩
     ·left
      rw [beq_eq_false_iff_ne]
      omega
    clear hm am
    rcases ap with t2 | ⟨t2,t3⟩
    all_goals
     go_wp2_with fail
     go_roundg j
     case measure=>omega
     case rel=>exact ⟨i+1,by go_num,by omega,by omega,hid (af.out.alloc _)⟩
def pA:PicD:=⟨3,1,4,[[7,0,0]]⟩
def pB:PicD:=⟨3,1,4,[[0,7,0]]⟩
theorem lit_ok (l:List Int) (h:l.length=3) (hs:SmpOk 4 l):PicD.Ok ⟨3,1,4,[l]⟩ where
 w0:=by simp
 w1:=by simp
 h0:=by simp
 h1:=by simp
 d0:=by simp
 d1:=by simp
 n0:=by simp
 n1:=by simp
 len:=fun x hx=>by simp at hx;subst hx;exact h
 smp:=fun x hx=>by simp at hx;subst hx;exact hs
theorem pA_ok:pA.Ok:=lit_ok _ rfl (fun v hv=>by simp at hv;rcases hv with rfl | rfl | rfl<;>decide)
theorem pB_ok:pB.Ok:=lit_ok _ rfl (fun v hv=>by simp at hv;rcases hv with rfl | rfl | rfl<;>decide)
theorem pAB:AlikeD pA pB:=⟨rfl,rfl,rfl,rfl⟩
theorem pAA:AlikeD pA pA:=⟨rfl,rfl,rfl,rfl⟩
theorem grid_lit:gridL 3 1 8=[⟨0,0,3,1⟩]:=by rfl
theorem mv_lit {m:Int × Int} (h:mvOk 3 1 ⟨0,0,3,1⟩ m):m=(0,0):=by
 obtain ⟨a,b⟩:=m
 obtain ⟨_,_,_,_,h1,h2,h3,h4⟩:=h
 simp only at h1 h2 h3 h4
 have e1:a=0:=by omega
 have e2:b=0:=by omega
 rw [e1,e2]
theorem ms_lit {p q:PicD} (hp1:p.W=3) (hp2:p.H=1) (hq1:q.W=3) (hq2:q.H=1) {ms:List (Int × Int)} (hl:ms.length=(gridL q.W q.H 8).length) (hb:BestMs p q (gridL q.W q.H 8) ms (gridL q.W q.H 8).length):ms=[(0,0)]:=by
 rw [hq1,hq2,grid_lit] at hl hb
 obtain ⟨c,h⟩:=hb 0 (by simp)
 have h1:=h.ok
 rw [hp1,hp2] at h1
 have h2:=mv_lit h1
 match ms,hl with
 | [m],_=>rw [show ([m]:List (Int × Int)).getD 0 (0,0)=m from rfl] at h2;rw [show m=(m.1,m.2) from rfl,h2]
theorem best_ok {p q:PicD} {ms:List (Int × Int)} (hl:ms.length=(gridL q.W q.H 8).length) (hb:BestMs p q (gridL q.W q.H 8) ms (gridL q.W q.H 8).length):∀ i,i<ms.length->mvOk p.W p.H (sqAt (gridL q.W q.H 8) i) (ms.getD i (0,0)):=fun i hi=>by
 obtain ⟨c,h⟩:=hb i (by omega)
 exact h.ok
theorem body_AA:mvBody pA pA [(0,0)]=[0]:=by kernel_rfl
theorem cost_AB:costB pA pB ⟨0,0,3,1⟩ (0,0)=14:=by kernel_rfl
theorem sums_AB:picSum pA≠picSum pB:=by decide +kernel
theorem sum_other {body:List Nat} (hb:∀ d∈body,d<256):sumL pA body≠sumL pB body:=fun h=>by
 unfold sumL at h
 have hlt:∀ p:PicD,p.Ok->∀ d∈body++big4 (picSum p),d<256:=fun p hp d hd=>by
  rcases zP.1 hd with h1 | h1
  ·exact hb d h1
  ·exact big4_lt _ d h1
 have h1:=big4_inj (crcN_lt (hlt pA pA_ok)) (crcN_lt (hlt pB pB_ok)) h
 have h2:big4 (picSum pA)=big4 (picSum pB):=by
  have k:=crc_last hb (Nat.mod_lt _ (by decide)) (Nat.mod_lt _ (by decide)) (Nat.mod_lt _ (by decide)) (Nat.mod_lt _ (by decide)) (Nat.mod_lt _ (by decide)) (Nat.mod_lt _ (by decide)) (Nat.mod_lt _ (by decide)) (Nat.mod_lt _ (by decide)) h1
  unfold big4
  rw [k.1,k.2.1,k.2.2.1,k.2.2.2]
 exact sums_AB (big4_inj (picSum_lt pA_ok) (picSum_lt pB_ok) h2)
theorem body_bounds {p q:PicD} (hq:q.Ok) {ms:List (Int × Int)} (hbit:MvBits p q ms):0<(mvBody p q ms).length/\(mvBody p q ms).length<=1000000000/\∀ d∈mvBody p q ms,d<256:=by
 have ab:∀ s∈gridL q.W q.H 8,1<=s.w/\s.w<=8/\1<=s.h/\s.h<=8:=grid_ok (by decide)
 have ae:=grid8_len hq.w1 hq.h1
 have af:=moveBits_len p q (ss:=gridL q.W q.H 8) ms ab hq.d0 hq.d1 hq.n1 _ (zQ _)
 have ad:=moveBits_pos p q (gridL q.W q.H 8) ms (gridL q.W q.H 8).length
 have ac:0<(gridL q.W q.H 8).length:=by
  rcases Nat.eq_zero_or_pos (gridL q.W q.H 8).length with h0 | h0
  ·exfalso
   have h1:=area_grid (w:=q.W) (h:=q.H) (s:=8) (by decide)
   rw [List.eq_nil_of_length_eq_zero h0] at h1
   have h2:=hq.pos
   simp [area] at h1
   omega
  ·exact h0
 have aa:(mvBody p q ms).length=((moveBits p q (gridL q.W q.H 8) ms (gridL q.W q.H 8).length).length+7) / 8:=by
  unfold mvBody
  rw [packed_len,padF_len]
  omega
 refine ⟨by omega,by omega,?_⟩
 unfold mvBody
 exact packed_dig (mem_padF hbit)
theorem lit_at {w:World} {s t:Nat} {l:List Int} (hl:l.length=3) (hok:PicD.Ok ⟨3,1,4,[l]⟩) (h1:Blk w s 3 (l.map vi).toArray) (h2:Blk w t 22 #[.slice (some ⟨s,0,none⟩) 3 3]) :
  PicAt w ⟨3,1,4,[l]⟩ t 0 (fun _=>some ⟨s,0,none⟩) (fun _=>3) [s,t] where
 ok:=hok
 gG:=by simp
 lt:=fun x hx=>by simp at hx;rcases hx with rfl | rfl;exact h1.lt;exact h2.lt
 cell:=fun i hi=>by
  simp at hi
  subst hi
  exact h2.cell 0
 cells:=fun i hi=>by
  simp at hi
  subst hi
  refine ⟨fun _=>⟨s,0,rfl,h1.lt,fun k a hk => ?_⟩⟩
  rw [Nat.zero_add,h1.cell k]
  have aa:l[k]?=some a:=by simpa using hk
  simp [aa]
 blk:=fun i hi ad e=>by injection e with e;subst e;simp
 cap:=fun i hi=>by simp
def litV (a c:Nat):Value:=.agg #[.int .i64 3,.int .i64 1,.int .i64 4,.slice (some ⟨a,0,none⟩) 1 c]
theorem litV_A (a c:Nat):picV pA a 0 c=litV a c:=by simp [picV,pA,litV]
theorem litV_B (a c:Nat):picV pB a 0 c=litV a c:=by simp [picV,pB,litV]
section
variable {w:World} {a a':Nat} {B B':Nat->Option Addr} {c c':Nat->Nat} {G G':List Nat}
theorem kn_encA (hA:PicAt w pA a 0 B c G) (hp:Pts w):Calls Tryz.prog 53 #[litV a 1,litV a 1] w (EncPost w pA pA):=by
 have h:=encode_ok 1 hA 1 hA pAA hp
 rw [litV_A] at h
 exact h
theorem kn_encB (hA:PicAt w pA a 0 B c G) (hB:PicAt w pB a' 0 B' c' G') (hp:Pts w):Calls Tryz.prog 53 #[litV a 1,litV a' 1] w (EncPost w pA pB):=by
 have h:=encode_ok 1 hA 1 hB pAB hp
 rw [litV_A,litV_B] at h
 exact h
theorem kn_decA (hA:PicAt w pA a 0 B c G) (hp:Pts w) {A:Option Addr} {capA:Nat} {ms:List (Int × Int)} (h1:ms.length=(gridL pB.W pB.H 8).length) (h2:BestMs pA pB (gridL pB.W pB.H 8) ms (gridL pB.W pB.H 8).length) (h3:MvBits pA pB ms) (h4:Cells b8 w A (mvBytes pA pB ms)) (h5:(mvBytes pA pB ms).length<=capA) (h6:capA<=9223372036854775807) :
  Calls Tryz.prog 54 #[litV a 1,.slice A (mvBytes pA pB ms).length capA] w fun e w'=>∃ gP capP xs gs,e=.returned (.tuple #[litV gP capP,.int .i64 0])/\PicOwn w' pB gP capP xs gs/\Chg [] w w':=by
 have h:=decode_ok 1 hA pB_ok pAB hp A capA ms h1 (best_ok h1 h2) h3 h4 h5 h6
 rw [litV_A] at h
 refine Calls.mono h ?_
 rintro e w' ⟨gP,capP,xs,gs,rfl,ho,ch,_⟩
 exact ⟨gP,capP,xs,gs,by rw [litV_B],ho,ch⟩
theorem kn_decB (hB:PicAt w pB a' 0 B' c' G') {A:Option Addr} {capA:Nat} {ms:List (Int × Int)} (h3:MvBits pA pB ms) (h4:Cells b8 w A (mvBytes pA pB ms)) (h5:(mvBytes pA pB ms).length<=capA) (h6:capA<=9223372036854775807) :
  Calls Tryz.prog 54 #[litV a' 1,.slice A (mvBytes pA pB ms).length capA] w fun e w'=>e=.returned (.tuple #[.agg #[.int .i64 0,.int .i64 0,.int .i64 0,.slice none 0 0],.int .i64 5])/\Chg [] w w':=by
 obtain ⟨k1,k2,k3⟩:=body_bounds pB_ok h3
 have e:mvBytes pA pB ms=mvBody pA pB ms++sumL pA (mvBody pA pB ms):=by unfold mvBytes;rfl
 rw [e] at h4 h5 ⊢
 have h:=decode_sum 1 hB A capA (mvBody pA pB ms) (sumL pA (mvBody pA pB ms)) k3 k1 k2 (sumL_len _ _) (sum_other k3) h4 h5 h6
 rw [litV_B] at h
 exact h
theorem kn_search (hA:PicAt w pA a 0 B c G) (hB:PicAt w pB a' 0 B' c' G'):Calls Tryz.prog 17 #[litV a 1,litV a' 1,.int .i64 0,.int .i64 0] w fun e w'=>e=.returned (.tuple #[.int .i64 0,.int .i64 0,.int .i64 14])/\Chg [] w w':=by
 have hg:gridL pB.W pB.H 8=[⟨0,0,3,1⟩]:=grid_lit
 have h1:=msearch_ok 1 hA 1 hB pAB 0 (by rw [hg];exact Nat.zero_lt_one) 0 0 (by rw [hg];rfl) (by rw [hg];rfl)
 rw [litV_A,litV_B] at h1
 refine Calls.mono h1 ?_
 rintro e w' ⟨dx,dy,c,s,rfl,hs,hx,hy,hb,ch⟩
 rw [hg] at hs
 simp at hs
 subst hs
 have hm:=mv_lit hb.ok
 have e1:dx=0:=congrArg Prod.fst hm
 have e2:dy=0:=congrArg Prod.snd hm
 subst e1
 subst e2
 have hc:=hb.cost
 rw [cost_AB] at hc
 subst hc
 exact ⟨rfl,ch⟩
theorem kn_alike (hA:PicAt w pA a 0 B c G) (hB:PicAt w pB a' 0 B' c' G'):Calls Tryz.prog 50 #[litV a 1,litV a' 1] w fun e w'=>e=.returned (.bool true)/\Chg [] w w':=by
 have h:=alike_yes 1 hA 1 hB pAB
 rw [litV_A,litV_B] at h
 exact h
theorem kn_none (hA:PicAt w pA a 0 B c G):Calls Tryz.prog 50 #[litV a 1,.agg #[.int .i64 0,.int .i64 0,.int .i64 0,.slice none 0 0]] w fun e w'=>e=.returned (.bool false)/\Chg [] w w':=by
 have h:=alike_zero 1 hA
 rw [litV_A] at h
 exact h
theorem kn_same {gP capP:Nat} {xs:List Value} {gs:List Nat} (ho:PicOwn w pB gP capP xs gs) (hB:PicAt w pB a' 0 B' c' G'):Calls Tryz.prog 35 #[litV gP capP,litV a' 1] w fun e w'=>e=.returned (.bool true)/\Chg [] w w':=by
 have h:=picSame_ok capP ho.at_ 1 hB rfl rfl rfl rfl
 rw [litV_B,litV_B] at h
 exact h
theorem bytes_AA:(mvBytes pA pA [(0,0)]).length=5:=by
 unfold mvBytes
 rw [body_AA,zC,sumL_len]
 rfl
theorem bytes_A0:(mvBytes pA pA [(0,0)])[0]?=some 0:=by
 unfold mvBytes
 rw [body_AA]
 rfl
end
theorem mknown_ok (w:World) (hp:Pts w):Calls Tryz.prog 18 #[] w fun e w'=>e=.returned (.bool true)/\Chg [] w w':=by
 obtain ⟨u1,ah⟩:=zX (w.alloc (.cells #[.int .i64 7,.int .i64 0,.int .i64 0] 3))
 obtain ⟨u2,au⟩:=zX (u1.alloc (.cells #[.slice (some ⟨w.heap.size,0,none⟩) 3 3] 22))
 obtain ⟨u3,ac⟩:=zX (u2.alloc (.cells #[.int .i64 3,.int .i64 1,.int .i64 4,.slice (some ⟨w.heap.size+1,0,none⟩) 1 1] 25))
 obtain ⟨u4,af⟩:=zX (u3.alloc (.cells #[.int .i64 0,.int .i64 7,.int .i64 0] 3))
 obtain ⟨u5,aq⟩:=zX (u4.alloc (.cells #[.slice (some ⟨w.heap.size+1+1+1,0,none⟩) 3 3] 22))
 obtain ⟨u6,ao⟩:=zX (u5.alloc (.cells #[.int .i64 3,.int .i64 1,.int .i64 4,.slice (some ⟨w.heap.size+1+1+1+1,0,none⟩) 1 1] 25))
 have z1:u1.heap.size=w.heap.size+1:=by rw [ah,alloc_size]
 have z2:u2.heap.size=w.heap.size+1+1:=by rw [au,alloc_size,z1]
 have z3:u3.heap.size=w.heap.size+1+1+1:=by rw [ac,alloc_size,z2]
 have z4:u4.heap.size=w.heap.size+1+1+1+1:=by rw [af,alloc_size,z3]
 have z5:u5.heap.size=w.heap.size+1+1+1+1+1:=by rw [aq,alloc_size,z4]
 have z6:u6.heap.size=w.heap.size+1+1+1+1+1+1:=by rw [ao,alloc_size,z5]
 have c1:Chg [] w u1:=by rw [ah];exact (zR [] w).alloc _
 have c2:Chg [] u1 u2:=by rw [au];exact (zR [] u1).alloc _
 have c3:Chg [] u2 u3:=by rw [ac];exact (zR [] u2).alloc _
 have c4:Chg [] u3 u4:=by rw [af];exact (zR [] u3).alloc _
 have c5:Chg [] u4 u5:=by rw [aq];exact (zR [] u4).alloc _
 have c6:Chg [] u5 u6:=by rw [ao];exact (zR [] u5).alloc _
 have b1:Blk u6 (w.heap.size) 3 (#[.int .i64 7,.int .i64 0,.int .i64 0]):=((((((show Blk u1 (w.heap.size) 3 (#[.int .i64 7,.int .i64 0,.int .i64 0]) from by rw [ah];exact Blk.new _ _ _).chg c2 (by simp)).chg c3 (by simp)).chg c4 (by simp)).chg c5 (by simp)).chg c6 (by simp))
 have b2:Blk u6 (w.heap.size+1) 22 (#[.slice (some ⟨w.heap.size,0,none⟩) 3 3]):=(((((show Blk u2 (w.heap.size+1) 22 (#[.slice (some ⟨w.heap.size,0,none⟩) 3 3]) from by rw [au,<-z1];exact Blk.new _ _ _).chg c3 (by simp)).chg c4 (by simp)).chg c5 (by simp)).chg c6 (by simp))
 have b3:Blk u6 (w.heap.size+1+1) 25 (#[.int .i64 3,.int .i64 1,.int .i64 4,.slice (some ⟨w.heap.size+1,0,none⟩) 1 1]):=((((show Blk u3 (w.heap.size+1+1) 25 (#[.int .i64 3,.int .i64 1,.int .i64 4,.slice (some ⟨w.heap.size+1,0,none⟩) 1 1]) from by rw [ac,<-z2];exact Blk.new _ _ _).chg c4 (by simp)).chg c5 (by simp)).chg c6 (by simp))
 have b4:Blk u6 (w.heap.size+1+1+1) 3 (#[.int .i64 0,.int .i64 7,.int .i64 0]):=(((show Blk u4 (w.heap.size+1+1+1) 3 (#[.int .i64 0,.int .i64 7,.int .i64 0]) from by rw [af,<-z3];exact Blk.new _ _ _).chg c5 (by simp)).chg c6 (by simp))
 have b5:Blk u6 (w.heap.size+1+1+1+1) 22 (#[.slice (some ⟨w.heap.size+1+1+1,0,none⟩) 3 3]):=((show Blk u5 (w.heap.size+1+1+1+1) 22 (#[.slice (some ⟨w.heap.size+1+1+1,0,none⟩) 3 3]) from by rw [aq,<-z4];exact Blk.new _ _ _).chg c6 (by simp))
 have b6:Blk u6 (w.heap.size+1+1+1+1+1) 25 (#[.int .i64 3,.int .i64 1,.int .i64 4,.slice (some ⟨w.heap.size+1+1+1+1,0,none⟩) 1 1]):=(show Blk u6 (w.heap.size+1+1+1+1+1) 25 (#[.int .i64 3,.int .i64 1,.int .i64 4,.slice (some ⟨w.heap.size+1+1+1+1,0,none⟩) 1 1]) from by rw [ao,<-z5];exact Blk.new _ _ _)
 have av:Chg [] w u6:=(((((c1.trans_same c2).trans_same c3).trans_same c4).trans_same c5).trans_same c6)
 have hA:PicAt u6 pA (w.heap.size+1) 0 (fun _=>some ⟨w.heap.size,0,none⟩) (fun _=>3) [w.heap.size,w.heap.size+1]:=lit_at rfl pA_ok b1 b2
 have hB:PicAt u6 pB (w.heap.size+1+1+1+1) 0 (fun _=>some ⟨w.heap.size+1+1+1,0,none⟩) (fun _=>3) [w.heap.size+1+1+1,w.heap.size+1+1+1+1]:=lit_at rfl pB_ok b4 b5
 have ag:∀ wz,Chg [] u6 wz->(wz.cell? ⟨w.heap.size+1+1,0,none⟩=some (.int .i64 3)/\wz.cell? ⟨w.heap.size+1+1,1,none⟩=some (.int .i64 1)/\wz.cell? ⟨w.heap.size+1+1,2,none⟩=some (.int .i64 4)/\wz.cell? ⟨w.heap.size+1+1,3,none⟩=some (.slice (some ⟨w.heap.size+1,0,none⟩) 1 1)) /\
   (wz.cell? ⟨w.heap.size+1+1+1+1+1,0,none⟩=some (.int .i64 3)/\wz.cell? ⟨w.heap.size+1+1+1+1+1,1,none⟩=some (.int .i64 1)/\wz.cell? ⟨w.heap.size+1+1+1+1+1,2,none⟩=some (.int .i64 4)/\wz.cell? ⟨w.heap.size+1+1+1+1+1,3,none⟩=some (.slice (some ⟨w.heap.size+1+1+1+1,0,none⟩) 1 1)):=fun wz hz =>
  ⟨⟨(b3.chg hz (by simp)).cell 0,(b3.chg hz (by simp)).cell 1,(b3.chg hz (by simp)).cell 2,(b3.chg hz (by simp)).cell 3⟩,⟨(b6.chg hz (by simp)).cell 0,(b6.chg hz (by simp)).cell 1,(b6.chg hz (by simp)).cell 2,(b6.chg hz (by simp)).cell 3⟩⟩
 have aM:=fun wz (hz:Chg [] u6 wz)=>kn_encA (hA.same hz) ((hp.same av).same hz)
 have ay:=fun wz (hz:Chg [] u6 wz)=>kn_encB (hA.same hz) (hB.same hz) ((hp.same av).same hz)
 have aP:=fun wz (hz:Chg [] u6 wz) (A:Option Addr) (capA:Nat) (ms:List (Int × Int)) h1 h2 h3 h4 h5 h6=>kn_decA (hA.same hz) ((hp.same av).same hz) (A:=A) (capA:=capA) (ms:=ms) h1 h2 h3 h4 h5 h6
 have aI:=fun wz (hz:Chg [] u6 wz) (A:Option Addr) (capA:Nat) (ms:List (Int × Int)) h3 h4 h5 h6=>kn_decB (hB.same hz) (A:=A) (capA:=capA) (ms:=ms) h3 h4 h5 h6
 have aX:=fun wz (hz:Chg [] u6 wz)=>kn_search (hA.same hz) (hB.same hz)
 have a4:=fun wz (hz:Chg [] u6 wz)=>kn_alike (hA.same hz) (hB.same hz)
 have aQ:=fun wz (hz:Chg [] u6 wz)=>kn_none (hA.same hz)
 have aR:=fun wz gP ab xs gs (hz:Chg [] u6 wz) (ho:PicOwn wz pB gP ab xs gs)=>kn_same ho (hB.same hz)
 unfold litV at aM ay aP aI aX a4 aQ aR
 have bA:Hid (u6=(((((w.alloc (.cells #[.int .i64 7,.int .i64 0,.int .i64 0] 3)).alloc (.cells #[.slice (some ⟨w.heap.size,0,none⟩) 3 3] 22)).alloc (.cells #[.int .i64 3,.int .i64 1,.int .i64 4,.slice (some ⟨w.heap.size+1,0,none⟩) 1 1] 25)).alloc (.cells #[.int .i64 0,.int .i64 7,.int .i64 0] 3)).alloc (.cells #[.slice (some ⟨w.heap.size+1+1+1,0,none⟩) 3 3] 22)).alloc (.cells #[.int .i64 3,.int .i64 1,.int .i64 4,.slice (some ⟨w.heap.size+1+1+1+1,0,none⟩) 1 1] 25)):=hid (by rw [ao,aq,af,ac,au,ah])
 have bv:=hid av
 have aa:=hid ag
 have a5:=hid aM
 have aZ:=hid ay
 have aS:=hid aP
 have aG:=hid aI
 have aE:=hid aX
 have aH:=hid a4
 have aU:=hid aQ
 have ax:=hid aR
 clear ah au ac af aq ao z1 z2 z3 z4 z5 z6 c1 c2 c3 c4 c5 c6 b1 b2 b3 b4 b5 b6 av hA hB ag aM ay aP aI aX a4 aQ aR hp
 go_enter Tryz.func18,Tryz.ntmps18
 go_wp2_with fail
 rw [<-bA.out]
 refine (a5.out u6 (zR _ _)).mono ?_
 rintro e w7 ⟨v3,G3,bL,rfl,al,bh,bi,aB,bD,bq⟩
 have bd:=hid aB
 obtain ⟨⟨a0,a1,a2,a3⟩,⟨d0,d1,d2,d3⟩⟩:=aa.out w7 aB
 obtain rfl:=ms_lit rfl rfl rfl rfl bh bi
 have h5:(mvBytes pA pA [(0,0)]).length=5:=bytes_AA
 obtain ⟨g3,c3,rfl,ad,-⟩:=own_row (N:=5) al (by rw [zE];exact h5) (by decide)
 have bB:=hid ad
 clear al bh bi aB bD bq ad h5
 go_wp2_with fail
 refine (aZ.out w7 bd.out).mono ?_
 rintro e w8 ⟨v5,G5,aO,rfl,ar,be,bb,aL,bn,aD⟩
 have ae:=hid (bd.out.trans_same aL)
 obtain ⟨⟨a0,a1,a2,a3⟩,⟨d0,d1,d2,d3⟩⟩:=aa.out w8 ae.out
 obtain ⟨A5,c5,rfl,aV,az,aA⟩:=ar.open_map
 have bf:=hid (aS.out w8 ae.out A5 c5 aO be bb aD aA aV az)
 have a9:=hid (fun wz (hz:Chg [] w8 wz)=>aG.out wz (ae.out.trans_same hz) A5 c5 aO aD (aA.same hz) aV az)
 have aJ:=hid (bB.out.chg aL (by simp))
 obtain ⟨N5,bk⟩:=zX ((mvBytes pA pB aO).length)
 rw [<-bk] at bf a9 ⊢
 clear ar be bb aL bn aD aA aV az bk
 go_wp2_with fail
 refine bf.out.mono ?_
 rintro e w9 ⟨gP,ab,xs,gs,rfl,am,a6⟩
 have bo:=hid am
 have bs:=hid a6
 obtain ⟨⟨a0,a1,a2,a3⟩,⟨d0,d1,d2,d3⟩⟩:=aa.out _ ((ae.out.trans_same a6).alloc (.cells #[.int .i64 3,.int .i64 1,.int .i64 4,.slice (some ⟨gP,0,none⟩) 1 ab] 25))
 clear am a6
 obtain ⟨ob,aF⟩:=zX (w9.heap.size)
 obtain ⟨wP,an⟩:=zX (w9.alloc (.cells #[.int .i64 3,.int .i64 1,.int .i64 4,.slice (some ⟨gP,0,none⟩) 1 ab] 25))
 have bj:Blk wP ob 25 #[.int .i64 3,.int .i64 1,.int .i64 4,.slice (some ⟨gP,0,none⟩) 1 ab]:=by rw [an,aF];exact Blk.new w9 _ _
 have a8:Chg [] w8 wP:=by rw [an];exact bs.out.alloc _
 have bx:Hid (PicOwn wP pB gP ab xs gs):=hid (bo.out.same (by rw [an];exact (zR [] w9).alloc _))
 have br:=hid bj
 have aT:=hid a8
 have bF:=hid an
 have bu:=hid aF
 clear bj a8 an aF
 go_wp2_with fail
 rw [<-bF.out,<-bu.out]
 refine (a9.out wP aT.out).mono ?_
 rintro e wQ ⟨rfl,aj⟩
 have bI:=hid (ae.out.trans_same (aT.out.trans_same aj))
 have bw:=hid (bx.out.same aj)
 have bm:=hid (br.out.chg aj (by simp))
 have bz:=hid (aJ.out.chg (aT.out.trans_same aj) (by simp))
 obtain ⟨wR,aw⟩:=zX (wQ.alloc (.cells #[.int .i64 0,.int .i64 0,.int .i64 0,.slice none 0 0] 25))
 have ai:Chg [] wQ wR:=by rw [aw];exact (zR [] wQ).alloc _
 have aK:=hid (bI.out.trans_same ai)
 have bC:=hid (bw.out.same ai)
 have bH:=hid (bm.out.chg ai (by simp))
 have bJ:=hid (bz.out.chg ai (by simp))
 obtain ⟨⟨a0,a1,a2,a3⟩,⟨d0,d1,d2,d3⟩⟩:=aa.out wR aK.out
 rw [aw] at a0 a1 a2 a3 d0 d1 d2 d3
 have bE:=hid aw
 clear aj ai aw
 go_wp2_with fail
 rw [<-bE.out]
 refine (aE.out wR aK.out).mono ?_
 rintro e wS ⟨rfl,ak⟩
 have aY:=hid (aK.out.trans_same ak)
 have bp:=hid (bC.out.same ak)
 have ap:=bH.out.chg ak (by simp)
 have a7:=bJ.out.chg ak (by simp)
 obtain ⟨⟨a0,a1,a2,a3⟩,⟨d0,d1,d2,d3⟩⟩:=aa.out wS aY.out
 have p0:=ap.cell 0
 have p1:=ap.cell 1
 have p2:=ap.cell 2
 have p3:=ap.cell 3
 simp at p0 p1 p2 p3
 have x0:wS.cell? ⟨g3,0,none⟩=some (.int .u8 0):=by
  obtain ⟨_,_,_,_,bG,_⟩:=a7.open_map
  exact bG 0 0 bytes_A0
 have bg:=ax.out wS gP ab xs gs aY.out bp.out
 clear ap a7 ak
 go_wp2_with fail
 refine bg.mono ?_
 rintro e wT ⟨rfl,bl⟩
 have aW:=hid (aY.out.trans_same bl)
 obtain ⟨⟨a0,a1,a2,a3⟩,⟨d0,d1,d2,d3⟩⟩:=aa.out wT aW.out
 have bc:=aH.out wT aW.out
 clear bg bl x0 p0 p1 p2 p3
 go_wp2_with fail
 refine bc.mono ?_
 rintro e wU ⟨rfl,ba⟩
 have aC:=hid (aW.out.trans_same ba)
 obtain ⟨⟨a0,a1,a2,a3⟩,⟨d0,d1,d2,d3⟩⟩:=aa.out wU aC.out
 have aN:=aU.out wU aC.out
 clear bc ba
 go_wp2_with fail
 refine aN.mono ?_
 rintro e wV ⟨rfl,bK⟩
 go_wp2_with fail
 go_ret
 exact ⟨rfl,bv.out.trans_same (aC.out.trans_same bK)⟩
theorem blocks_ok {p:PicD} (hok:p.Ok) (g o cap:Nat) (w:World) :
  Calls Tryz.prog 11 #[picV p g o cap] w fun e w'=>∃ v F,e=.returned v/\SqOwn w' v F (gridL p.W p.H 8)/\Chg [] w w'/\∀ x∈F,w.heap.size<=x:=by
 have aa:=fun w'=>rgrid_ok p.W p.H 8 w' hok.w0 hok.w1 hok.h0 hok.h1 (by decide) (by decide)
 unfold picV
 have HT:=hid aa
 clear aa
 go_enter Tryz.func11,Tryz.ntmps11
 go_wp2_with fail
 refine (HT.out _).mono ?_
 rintro e w2 ⟨v,F,rfl,ab,ac,hF⟩
 go_wp2
 go_ret
 refine ⟨v,F,rfl,ab,((zR [] w).alloc _).trans_same ac,fun x hx => ?_⟩
 have:=hF x hx
 rw [alloc_size] at this
 omega
end Go.Proofs.YtklocammllljiaaGreatDoor
