/- parts.Best by its contract. -/
import Derived.Test.YtepjepkgcdfboaaGreatDoorMg18
import Derived.Deep.RegionLaw
import Derived.Test.YtepjepkgcdfboaaGreatDoorMg34
set_option linter.unusedVariables false
set_option linter.unusedSimpArgs false
set_option maxHeartbeats 4000000
set_option maxRecDepth 100000
namespace Go.Proofs.YtepjepkgcdfboaaGreatDoor
open Go.RowKit
theorem c5o (o n warm:Nat) (l:List Int):(a6s o n warm l).length=(a1q o n warm).length:=by unfold a6s;rw [zE,a5h]
theorem e4s (o n warm:Nat) (l:List Int):f1c (a6s o n warm l):=by
 intro k hk
 obtain ⟨p,_,rfl⟩:=List.mem_map.1 hk
 exact c4w p
theorem e9j (n warm most:Nat) (l:List Int) (Al:Option Addr) (capl:Nat) (w:World) (h1:1<=n) (h2:n<=4096) (h3:warm<=n) (hm:most<=8) (hll:l.length=n-warm) (hw:∀ x∈l,a2e x) (hcl:a0d vi w Al l) (hcap1:l.length<=capl) (hcap2:capl<=9223372036854775807) :
  Calls Tryz.prog 150 #[.int .i64 n,.int .i64 warm,.int .i64 most,.slice Al l.length capl] w fun e w'=>∃ v G,e=.returned (.tuple #[.agg #[.int .i64 (a1f n warm most l).order,v],.int .i64 0])/\Own w' 3 v G ((a1f n warm most l).ks.map i64)/\Chg [] w w'/\∀ x∈G,w.heap.size<=x:=by
 obtain ⟨L,hL⟩:=zX (l.length)
 have ah:=fun w hc=>d1r n warm l Al capl w h1 h2 h3 hll hw hc
 have au:=fun o (ho:o<=8) w=>b6b o n warm w ho h1 h2 h3
 have aa:=fun o (ho:o<=8) (hne:a1q o n warm≠[]) A cap w hc hcl=>d7d o n warm (a6s o n warm l) A cap l Al capl w ho h1 h2 h3 hne (c5o o n warm l) (e4s o n warm l) hc hll hw hcl hcap1 hcap2
 rw [<-hL] at ah aa hll hcap1 ⊢
 have aE:=hid ah
 have aG:=hid au
 have a5:=hid aa
 have HW:=hid hw
 have HL:=hid hL
 have cs:=hid hll
 have ce:L<=4096:=by omega
 have cg:max (most:Int) 0=(most:Int):=by omega
 have cq:min (most:Int) 8=(most:Int):=by omega
 have aV:a1f n warm most l=c2g n warm l (most+1):=by unfold a1f;rw [Nat.min_eq_left hm]
 have cd:=hid aV
 clear ah au aa hw hL hll aV
 go_enter Tryz.func150,Tryz.ntmps150
 go_wp2_with fail
 have bV:Chg [] w (w.alloc (.cells #[.int .i64 0,.slice none 0 0] 188)):=(zR [] w).alloc _
 refine (aE.out _ (hcl.same bV)).mono ?_
 rintro e cI ⟨rfl,rfl⟩
 go_wp2_with fail
 have ax:=(Blk.new (w.alloc (.cells #[.int .i64 0,.slice none 0 0] 188)) 188 #[.int .i64 0,.slice none 0 0])
 have bl:=(Blk.new w 188 #[.int .i64 0,.slice none 0 0]).alloc (.cells #[.int .i64 0,.slice none 0 0] 188)
 have bj:Chg [] w ((w.alloc (.cells #[.int .i64 0,.slice none 0 0] 188)).alloc (.cells #[.int .i64 0,.slice none 0 0] 188)):=((zR [] w).alloc _).alloc _
 have aP:w.heap.size≠w.heap.size+1:=by omega
 have aZ:(w.alloc (.cells #[.int .i64 0,.slice none 0 0] 188)).heap.size=w.heap.size+1:=by simp
 rw [aZ] at ax
 generalize hwA:(w.alloc (.cells #[.int .i64 0,.slice none 0 0] 188)).alloc (.cells #[.int .i64 0,.slice none 0 0] 188)=wA at *
 obtain ⟨br,aT⟩:=zX (w.heap.size)
 obtain ⟨bb,aR⟩:=zX (w.heap.size+1)
 rw [<-aR] at aP ax ⊢
 rw [<-aT] at aP bl ⊢
 have b4:=ax.lt
 have cn:=hid aT
 have bW:=hid aR
 have cF:=hcl.same bj
 have cC:=hid hwA
 have bs:=hid hcl
 clear aZ hwA aT aR bV hcl
 go_loopg [11,12] (most+1) (fun j lv ov wr=>j<=most+1/\ov=.int .i64 ((most+1-j:Nat):Int)/\∃ so an sc v G,lv=.int .i64 ((sc:Nat):Int)/\Hid (c2g n warm l (most+1-j)=⟨so,an,sc⟩) /\
   Blk wr bb 188 #[.int .i64 ((so:Nat):Int),v]/\Own wr 3 v G (an.map i64)/\Chg [bb] wA wr/\∀ x∈G,wA.heap.size<=x)
 case atStart=>exact ⟨zQ _,by simp,0,[],0,.slice none 0 0,[],rfl,hid (by simp [c2g]),ax,Own.nil _ _,zR _ _,by simp⟩
 case round =>
  obtain ⟨hj,rfl,so,an,sc,v,G,rfl,bz,ay,ak,ao,hG⟩:=hrel
  have HG:=hid hG
  obtain ⟨Av,am,rfl,-,-,-⟩:=ak.oq
  clear hG ax
  rcases gk with _ | j
  ·have t4:decide ((most:Int)+1<=(most:Int))=false:=zA (by omega)
   have av:=bl.chg ao (by simpa using aP)
   have cf:=ay.cell 0
   have b6:=ay.cell 1
   have b1:=av.cell 0
   have ct:=av.cell 1
   have cB:=av.frozen 0
   have cv:=av.frozen 1
   simp at cf b6 b1 ct
   go_wp2_with fail
   have hF:=(av.set_ 0 (.int .i64 so)).set_ 1 (.slice Av an.length am)
   have ci:=(ak.far (p:=⟨br,0,none⟩) (fun hm=>by have h7:=HG.out _ hm;have h8:=bl.lt;simp at h7;omega) (.int .i64 so)).far (p:=⟨br,1,none⟩) (fun hm=>by have h7:=HG.out _ hm;have h8:=bl.lt;simp at h7;omega) (.slice Av an.length am)
   have b7:Chg [bb,br] wA ((wr.setCell ⟨br,0,none⟩ (.int .i64 so)).setCell ⟨br,1,none⟩ (.slice Av an.length am)):=((ao.mono (by simp)).setCell (by simp) _).setCell (by simp) _
   generalize hwF:(wr.setCell ⟨br,0,none⟩ (.int .i64 so)).setCell ⟨br,1,none⟩ (.slice Av an.length am)=wF at *
   have bH:=hF.cell 0
   have bF:=hF.cell 1
   simp at bH bF
   have e1:a1f n warm most l=⟨so,an,sc⟩:=by rw [cd.out,<-bz.out];rfl
   refine bodyPost_ret (v:=.tuple #[.agg #[.int .i64 so,.slice Av an.length am],.int .i64 0]) (by simp [results,Tryz.results150,go_sem,bH,bF]) rfl ⟨.slice Av an.length am,G,?_,?_,?_,?_⟩
   ·rw [e1]
   ·rw [e1];exact ci
   ·refine bj.trans b7 ?_
    intro x hx
    right
    have:=cn.out
    have:=bW.out
    simp at hx
    omega
   ·intro x hx
    have:=HG.out x hx
    have:=bj.size
    omega
  ·obtain ⟨i,bQ⟩:=zX (most+1-(j+1))
   rw [<-bQ] at bz ⊢
   have cm:i<=most:=by omega
   have bE:most+1-j=i+1:=by omega
   have HI:=hid bE
   have t4:decide (i<=most)=true:=zB cm
   clear bQ bE
   have ab:=b7f n warm l i
   rw [bz.out] at ab
   have bv:i<=8:=by omega
   go_wp2_with fail
   refine (aG.out i bv _).mono ?_
   rintro e w2 ⟨v2,G2,rfl,al,aS,cD⟩
   obtain ⟨A2,az,rfl,aw,bn,-⟩:=al.oq
   by_cases hne:a1q i n warm=[]
   ·have aW:c2g n warm l (i+1)=⟨so,an,sc⟩:=by rw [ab,b3b,if_pos hne]
    have a6:=hid aW
    rw [hne] at al aw ⊢
    clear hne ab aW
    simp only [List.length_nil]
    go_wp2_with fail
    go_roundg j
    case measure=>omega
    case rel =>
     rw [HI.out]
     exact ⟨by omega,by go_num,so,an,sc,_,G,rfl,a6,ay.chg aS (by simp),ak.same aS,ao.tq (aS.mono (by simp)),HG.out⟩
   ·have hN:=a7o hne
    have aK:=a9y hne
    obtain ⟨ss,bd⟩:=zX (a1q i n warm)
    have bu:2^i<=256:=Nat.pow_le_pow_right (n:=2) (j:=8) (by decide) bv
    have bD:=Nat.two_pow_pos i
    rw [<-hN] at bD bu
    have aH:=a5.out i bv hne
    rw [b3b,if_neg hne] at ab
    rw [<-bd] at hN aK al aw bD bu ab aH ⊢
    have a7:a6s i n warm l=(a1k ss l).map a4a:=by unfold a6s;rw [<-bd]
    have aB:=c5o i n warm l
    rw [<-bd] at aB
    obtain ⟨N,bx⟩:=zX (ss.length)
    rw [<-bx] at bD bu aw aB ⊢
    have t5:((N:Int)==0)=false:=by rw [beq_eq_false_iff_ne];omega
    have HN:=hid bx
    have aY:=hid ab
    have bm:=hid aH
    have bA:=hid a7
    have a1:=hid aB
    have cE:=hid bd
    have bq:=hid aK
    clear hN aK bd ab aH a7 aB bx hne
    go_wp2_with fail
    have aV:=Blk.new w2 188 #[.int .i64 i,.slice none 0 0]
    have ai:Chg [bb] wA w2:=ao.tq (aS.mono (by simp))
    have cu:a0d i64 w2 A2 ss:=by have:=al.cells;exact this
    have bc:=bs.out.same (bj.trans ai (by
     intro x hx
     right
     have:=bW.out
     simp at hx
     omega))
    obtain ⟨bp,aJ⟩:=zX (w2.heap.size)
    rw [<-aJ] at aV ⊢
    have aD:=hid aJ
    have b2:Hid (L<=capl):=hid hcap1
    have bo:=hid hcap2
    have bM:Chg [] w2 (w2.alloc (.cells #[.int .i64 i,.slice none 0 0] 188)):=(zR [] w2).alloc _
    clear aJ hcap1 hcap2 aw bn
    go_loopg [15,44] N (fun q rv iv wx=>q<=N/\iv=.int .i64 ((N-q:Nat):Int)/\∃ A' c' rest v G ks,rv=.slice A' rest.length c'/\Hid (rest=l.drop (a2m ss (N-q)))/\a0d vi w2 A' rest/\rest.length<=c'/\c'<=9223372036854775807/\rest.length<=4096 /\
     Blk wx bp 188 #[.int .i64 i,v]/\Own wx 3 v G (ks.map i64)/\Hid (ks=((a1k ss l).map a4a).take (N-q))/\Chg [] w2 wx/\∀ x∈G,w2.heap.size<x)
    case atStart =>
     refine ⟨zQ _,by simp,Al,capl,l,.slice none 0 0,[],[],?_,hid (by simp [a2m]),bc,?_,bo.out,?_,aV,Own.nil _ _,hid (by simp),bM,by simp⟩
     ·rw [<-HL.out]
     ·rw [<-HL.out];exact b2.out
     ·rw [<-HL.out];exact ce
    case round =>
     obtain ⟨hq,rfl,A',c',rest,vp,Gp,ks,rfl,aj,bC,co,cJ,cA,ad,af,aU,ar,bJ⟩:=hrel
     have aA:=hid bJ
     clear bJ aV bM
     obtain ⟨Ap,ae,rfl,-,-,-⟩:=af.oq
     rcases gk with _ | q
     ·have t7:decide (((N-0:Nat):Int)<(N:Int))=false:=by simp
      have bB:=ad.cell 0
      have bi:=ad.cell 1
      simp at bB bi
      have e2:((a1k ss l).map a4a).take (N-0)=(a1k ss l).map a4a:=by rw [Nat.sub_zero,HN.out,<-a5h ss l,<-zE (f:=a4a),zN]
      have aF:ks.length=N:=by rw [aU.out,e2,<-bA.out,a1.out,HN.out]
      have a0:a0d i64 wr Ap (a6s i n warm l):=by
       have h9:=af.cells
       rw [aU.out,e2,<-bA.out] at h9
       exact h9
      have aa:=bm.out Ap ae wr a0 (bc.same ar)
      have e3:(a6s i n warm l).length=N:=by rw [a1.out,HN.out]
      rw [e3] at aa
      obtain ⟨CC,bh⟩:=zX (a9m (a6s i n warm l) (a1k ss l))
      rw [<-bh] at aa
      have aW:=aY.out
      rw [<-bh] at aW
      have a6:=hid aW
      have cG:=hid bh
      have cp:=hid aF
      rw [aF] at bi ad af
      have ba:Hid (ks=a6s i n warm l):=hid (by rw [aU.out,e2,bA.out])
      clear e2 e3 bh aW aF a0
      go_wp2_with fail
      refine aa.mono ?_
      rintro e w4 ⟨rfl,bw⟩
      have aO:Chg [] w2 w4:=ar.tq bw
      have a8:=ad.chg bw (by simp)
      have aC:=af.same bw
      have ag:=ay.chg (aS.tq aO) (by simp)
      have aM:=ak.same (aS.tq aO)
      have aQ:Chg [bb] wA w4:=ao.tq ((aS.tq aO).mono (by simp))
      have bB:=a8.cell 0
      have bi:=a8.cell 1
      have bZ:=ag.cell 0
      have cj:=ag.cell 1
      have cz:=ag.frozen 0
      have cx:=ag.frozen 1
      simp at bB bi bZ cj
      clear aa
      by_cases hc0:sc=0
      ·have t8:((sc:Int)==0)=true:=by rw [beq_iff_eq];omega
       have ac:=a6.out
       rw [if_pos (.inl hc0)] at ac
       have aq:=hid ac
       clear ac hc0
       go_wp2_with fail
       go_roundg j
       case measure=>omega
       case rel =>
        rw [HI.out]
        have h1:=(ag.set_ 0 (.int .i64 i)).set_ 1 (.slice Ap N ae)
        have h2:=(aC.far (p:=⟨bb,0,none⟩) (fun hm=>by have h7:=aA.out _ hm;have h8:=ai.size;simp at h7;omega) (.int .i64 i)).far (p:=⟨bb,1,none⟩) (fun hm=>by have h7:=aA.out _ hm;have h8:=ai.size;simp at h7;omega) (.slice Ap N ae)
        rw [ba.out] at h2
        refine ⟨by omega,by go_num,i,a6s i n warm l,CC,.slice Ap N ae,Gp,rfl,aq,by simpa using h1,h2,(aQ.setCell (by simp) _).setCell (by simp) _,fun x hx => ?_⟩
        have h7:=aA.out x hx
        have h8:=ai.size
        omega
      ·have t8:((sc:Int)==0)=false:=by rw [beq_eq_false_iff_ne];omega
       by_cases hc1:CC<sc
       ·have t9:decide (CC<sc)=true:=by simpa using hc1
        have ac:=a6.out
        rw [if_pos (.inr hc1)] at ac
        have aq:=hid ac
        clear ac hc0
        go_wp2_with fail
        go_roundg j
        case measure=>omega
        case rel =>
         rw [HI.out]
         have h1:=(ag.set_ 0 (.int .i64 i)).set_ 1 (.slice Ap N ae)
         have h2:=(aC.far (p:=⟨bb,0,none⟩) (fun hm=>by have h7:=aA.out _ hm;have h8:=ai.size;simp at h7;omega) (.int .i64 i)).far (p:=⟨bb,1,none⟩) (fun hm=>by have h7:=aA.out _ hm;have h8:=ai.size;simp at h7;omega) (.slice Ap N ae)
         rw [ba.out] at h2
         refine ⟨by omega,by go_num,i,a6s i n warm l,CC,.slice Ap N ae,Gp,rfl,aq,by simpa using h1,h2,(aQ.setCell (by simp) _).setCell (by simp) _,fun x hx => ?_⟩
         have h7:=aA.out x hx
         have h8:=ai.size
         omega
       ·have t9:decide (CC<sc)=false:=by simpa using hc1
        have ac:=a6.out
        rw [if_neg (by rintro (h | h);exact hc0 h;exact hc1 h)] at ac
        have aq:=hid ac
        clear ac hc0
        go_wp2_with fail
        go_roundg j
        case measure=>omega
        case rel =>
         rw [HI.out]
         exact ⟨by omega,by go_num,so,an,sc,_,G,rfl,aq,ag,aM,aQ,HG.out⟩
     ·obtain ⟨m,bO⟩:=zX (N-(q+1))
      rw [<-bO] at aj aU ⊢
      have cb:m<N:=by omega
      have bX:N-q=m+1:=by omega
      have HM:=hid bX
      have aX:m<ss.length:=by rw [<-HN.out];exact cb
      obtain ⟨cw,cy,rfl,aI⟩:=(cu.same ar).i64_at aX
      have aN:=b0a ss l m aX
      have be:=b0r ss m aX
      have bk:=b1q l ss m aX
      rw [<-aj.out] at aN bk
      have bP:m<((a1k ss l).map a4a).length:=by rw [zE,a5h];exact aX
      have a4:=a0o ((a1k ss l).map a4a) bP
      have bI:((a1k ss l).map a4a)[m]=a4a (rest.take ss[m]):=by
       have h9:((a1k ss l).map a4a)[m]?=some (a4a (rest.take ss[m])):=by rw [zW,aN];rfl
       exact (List.getElem?_eq_some_iff.1 h9).2
      rw [bI,<-aU.out] at a4
      obtain ⟨s,hs⟩:=zX (ss[m])
      rw [<-hs] at aI be bk a4
      have b3:s<=rest.length:=by
       have:=bq.out
       have:=cs.out
       have:=HL.out
       rw [aj.out,zO]
       omega
      have bG:∀ x∈rest.take s,a2e x:=fun x hx=>HW.out x (by
       have:=List.mem_of_mem_take hx
       rw [aj.out] at this
       exact List.mem_of_mem_drop this)
      have a7:(rest.take s).length=s:=by rw [zI];omega
      have ch:=(bC.take s).same ar
      have aL:=e1n (rest.take s) A' c' wr.drew bG (ch.same (zR [] wr).drew) (by omega)
      rw [a7] at aL
      obtain ⟨A3,bL,-,a9⟩:=a9z (P:=Tryz.prog) Tryz.underlying22 a8q A' rest.length c' s b3 co
      have bf:=a9 Int vi w2 rest rfl bC
      have bK:Hid (rest.drop s=l.drop (a2m ss (m+1))):=hid bk
      have bR:rest.length-s=(rest.drop s).length:=by rw [zO]
      rw [bR] at bL
      have bU:(rest.drop s).length<=4096:=by rw [zO];omega
      have bT:(rest.drop s).length<=c'-s:=by rw [zO];omega
      obtain ⟨a3,ap⟩:=zX (rest.drop s)
      rw [<-ap] at bL bU bT bf bK
      have b5:s<=c':=by omega
      obtain ⟨kc,bS⟩:=zX (a4a (rest.take s))
      rw [<-bS] at aL a4
      have ca:=hid a4
      have bY:ks.length<=256:=by rw [aU.out,zI];omega
      have ck:=ad.cell 1
      have cH:=ad.frozen 1
      simp at ck
      clear a4 bI bP aN bk hs bG a9 be bR ap aX bO bX bC a7 bS
      have a2:bp∉Gp:=fun hm=>by have:=aA.out _ hm;have:=aD.out;omega
      have bN:=ad.alloc (.cells #[.int .i64 kc] 3)
      have n1:(wr.alloc (Obj.cells #[.int .i64 kc] 3)).cell? ⟨bp,1,none⟩=some (.slice Ap ks.length ae):=by simpa using bN.cell 1
      clear bN
      go_wp2_with fail
      go_region_law (first | (refine a3x (by rfl) (by rfl) a0p (by rfl) (by rfl) ((af.alloc (.cells #[.int .i64 kc] 3)).drew) (.int .i64 kc) (by rfl) (by simp [go_sem]) (by rfl) (by rw [zE];omega) (by rw [zE];omega) ?_;intro g2 az w3 cl bg;have ax:Blk w3 bp 188 #[.int .i64 i,.slice Ap ks.length ae]:=((ad.alloc (.cells #[.int .i64 kc] 3)).drew).chg bg.chg a2;have y1:=ax.cell 1;have z1:=ax.frozen 1;simp at y1) | (go_simp;go_at_call 200;refine aL.mono ?_;rintro e w' ⟨rfl,rfl⟩))
      all_goals
       go_wp2_with fail
       go_roundg q
       case measure=>omega
       case rel =>
        rw [HM.out]
        have h1:=ax.set_ 1 (.slice (some ⟨g2,0,none⟩) (ks.length+1) az)
        have b9:g2≠bp:=by
         intro he
         rcases bg.new g2 (by simp) with h9 | h9
         ·exact a2 (he ▸ h9)
         ·have h8:=ad.lt
          simp at h9
          omega
        have cr:=cl.far (p:=⟨bp,1,none⟩) b9 (.slice (some ⟨g2,0,none⟩) (ks.length+1) az)
        have h2:=cr.toOwn
        have e5:(List.map i64 ks).length=ks.length:=zE _
        rw [e5] at h2
        have b0:Chg [] w2 w3:=((ar.alloc (.cells #[.int .i64 kc] 3)).drew).trans bg.chg (fun x hx => .inr (Nat.le_of_lt (aA.out x hx)))
        refine ⟨by omega,by go_num,A3,_,a3,.slice (some ⟨g2,0,none⟩) (ks.length+1) az,[g2],ks++[kc],rfl,bK,bf,bT,by omega,bU,?_,?_,hid ?_,?_,?_⟩
        ·simpa using h1
        ·simpa [i64] using h2
        ·rw [ca.out]
        ·exact b0.setCell (.inr (by have:=aD.out;simp;omega)) _
        ·intro x hx
         have cc:x=g2:=by simpa using hx
         rcases bg.new x (by simp [cc]) with h9 | h9
         ·exact aA.out _ h9
         ·have h8:=ad.lt
          have:=aD.out
          simp at h9
          omega
def c4i (ks:List Nat) (ps:List (List Int)) (i:Nat):List Nat:=((ks.zip ps).drop i).flatMap fun p=>a3r p.1 p.2
theorem d4u {ks:List Nat} {ps:List (List Int)} {i k:Nat} {q:List Int} (hk:ks[i]?=some k) (hq:ps[i]?=some q):c4i ks ps i=a3r k q++c4i ks ps (i+1):=by
 have ab:=(List.getElem?_eq_some_iff.1 hk).1
 have aa:=(List.getElem?_eq_some_iff.1 hq).1
 have hl:i<(ks.zip ps).length:=by rw [List.length_zip];omega
 have hz:(ks.zip ps)[i]=(k,q):=by
  rw [List.getElem_zip,(List.getElem?_eq_some_iff.1 hk).2,(List.getElem?_eq_some_iff.1 hq).2]
 unfold c4i
 rw [List.drop_eq_getElem_cons hl,List.flatMap_cons,hz]
theorem e5x {ks:List Nat} {ps:List (List Int)} {i:Nat} (h:ks.length<=i):c4i ks ps i=[]:=by
 unfold c4i
 rw [List.drop_of_length_le (by rw [List.length_zip];omega)]
 rfl
theorem d8g (o:Nat) (ks:List Nat) (ps:List (List Int)):b3t o ks ps=a0b o 4++c4i ks ps 0:=rfl
theorem f2e (w:World) (b:Nat) (F ds:List Nat) (p o n warm:Nat) (ks:List Nat) (l:List Int) (h:a1r w b F ds p) (ho:o<=8) (h1:1<=n) (h2:n<=4096) (h3:warm<=n) (hne:a1q o n warm≠[]) (hkl:ks.length=(a1q o n warm).length) (hks:f1c ks)
  (hll:l.length=n-warm) (hw:∀ x∈l,a2e x) (ha:a0y ds p (b3t o ks (a1k (a1q o n warm) l))) :
  Calls Tryz.prog 225 #[.pointer (some ⟨b,0,none⟩),.int .i64 n,.int .i64 warm] w fun e w'=>∃ (Ak:Option Addr) (nk ck:Nat) (v:Value) (G:List Nat),e=.returned (.tuple #[.agg #[.int .i64 o,.slice Ak nk ck],v,.int .i64 0])/\Own w' 3 v G (l.map vi)/\a1r w' b F ds (p+(b3t o ks (a1k (a1q o n warm) l)).length)/\Chg [b] w w'/\∀ x∈G,w.heap.size<=x:=by
 have bK:=a9y hne
 have bd:=a7o hne
 rw [d8g] at ha ⊢
 have bi:o<2^4:=by omega
 have ce:=fun w'=>b5y n warm w' h1 h2 h3
 have bb:=fun w' (hr:a1r w' b F ds p)=>a0j w' b F ds p 4 o hr (by omega) bi ha.left
 have aW:=fun w'=>b6b o n warm w' ho h1 h2 h3
 have ba:=ha.right
 rw [a0a] at ba
 obtain ⟨ss,aZ⟩:=zX (a1q o n warm)
 rw [<-aZ] at bK bd hkl aW ba hne ⊢
 rw [zC,a0a]
 have cH:=h.lt b h.mem
 have aM:ss.length<=256:=by rw [bd];exact Nat.pow_le_pow_right (n:=2) (j:=8) (by decide) ho
 have cm:1<=ss.length:=by rw [bd];exact Nat.two_pow_pos o
 obtain ⟨N,hN⟩:=zX (ss.length)
 rw [<-hN] at aM cm hkl
 have b0:=hid (bK.trans hll.symm)
 have bQ:l.length<=4096:=by rw [hll];omega
 have HN:=hid hN
 have HW:=hid hw
 have cn:=hid hks
 have bI:=hid hkl
 have HA:=hid ba
 have cu:=hid h.lt
 have bq:=hid bQ
 obtain ⟨br,b9⟩:=zX (w.heap.size)
 have aG:=hid b9
 have h':=h
 clear hN hw hks hkl ba ha bK bd aZ hne hll bQ b9 h1 h2 h3
 go_enter Tryz.func225,Tryz.ntmps225
 go_wp2_with (go_at_call 248;refine (ce _).mono ?_;rintro e w' ⟨rfl,rfl⟩)
 obtain ⟨w0,bc⟩:=zX (w.alloc (.cells #[.int .i64 0,.slice none 0 0] 188))
 have aN:Blk w0 br 188 #[.int .i64 0,.slice none 0 0]:=by rw [bc,aG.out];exact Blk.new w _ _
 have b6:Chg [] w w0:=by rw [bc];exact (zR [] w).alloc _
 rw [<-bc,<-aG.out]
 have bb:=bb w0 (h.same b6)
 clear bc h
 refine bb.mono ?_
 rintro e w1 ⟨rfl,a5,bR⟩
 have cq:b≠br:=by have:=aG.out;omega
 have aT:=aN.chg bR (by simpa using cq.symm)
 have aW:=aW w1
 have aX:Chg [b] w w1:=(b6.mono (by simp)).tq bR
 clear bb aN
 go_wp2_with (go_at_call 69;refine (a2b _ b F ds _ a5).mono ?_;rintro e w' ⟨rfl,rfl⟩)
 refine aW.mono ?_
 rintro e w2 ⟨v2,G2,rfl,ah,bM,bZ⟩
 obtain ⟨As,cs,rfl,cy,cA,ca⟩:=ah.oq
 rw [<-HN.out]
 have t1:((N:Int)==0)=false:=by rw [beq_eq_false_iff_ne];omega
 have aC:Apt As ss [b,w2.heap.size]:=ah.apt (fun x hx hm=>by
  have h5:=bZ x hx
  have h6:=ah.lt x hx
  have h7:=a5.lt b a5.mem
  simp at hm
  omega)
 have a0:=a5.same bM
 have aw:=Blk.chg aT bM (by simp)
 have aA:=aX.trans bM (by simp)
 clear ah aW a5 aT aX
 obtain ⟨bp,ap⟩:=zX (w2.heap.size)
 rw [<-ap] at aC
 have bk:=hid aC
 have bj:=hid ap
 clear aC
 have cF:br<bp:=by rw [ap];exact aw.lt
 have cz:b<bp:=by rw [ap];have:=a0.lt b a0.mem;exact this
 have au:Blk (w2.alloc (.cells #[.int .i64 o,.slice none 0 0] 188)) bp 188 #[.int .i64 o,.slice none 0 0]:=by rw [ap];exact Blk.new w2 _ _
 have bS:=a0.same ((zR [] w2).alloc (.cells #[.int .i64 o,.slice none 0 0] 188))
 have aR:=Blk.alloc aw (.cells #[.int .i64 o,.slice none 0 0] 188)
 have ct:=aA.alloc (.cells #[.int .i64 o,.slice none 0 0] 188)
 have b1:Chg [] w2 (w2.alloc (.cells #[.int .i64 o,.slice none 0 0] 188)):=(zR [] w2).alloc _
 have a7:(w2.alloc (.cells #[.int .i64 o,.slice none 0 0] 188)).heap.size=bp+1:=by rw [ap];simp
 have a3:∀ x∈F,x<bp:=fun x hx=>by rw [ap];exact a0.lt x hx
 have aH:=hid a3
 have cd:=hid a7
 have cc:=hid ca
 have a6:=hid aA
 clear ap a0 aw aA a7 a3 ca bZ
 go_wp2_with fail
 rw [<-bj.out]
 go_loopg [12,14,15,16,17,44] N (fun j vo va vb vc vd iv wr=>∃ (i p':Nat) (vk:Value) (Gk Go:List Nat),iv=.int .i64 i/\i+j=N/\Blk wr bp 188 #[.int .i64 o,vk]/\Blk wr br 188 #[.int .i64 0,.slice none 0 0]/\Own wr 3 vk Gk ((ks.take i).map i64)/\Own wr 3 vo Go ((l.take (a2m ss i)).map vi)/\a1r wr b F ds p'/\Hid (a0y ds p' (c4i ks (a1k ss l) i))/\Hid (p'+(c4i ks (a1k ss l) i).length=p+4+(c4i ks (a1k ss l) 0).length)/\Hid (Chg [b,bp] w2 wr)/\Hid (∀ x∈Gk,bp<x/\x∉Go)/\Hid (∀ x∈Go,bp<x))
 case atStart =>
  exact ⟨0,p+4,.slice none 0 0,[],[],rfl,by omega,au,aR,Own.nil _ _,by simpa [a2m] using Own.nil _ _,bS,HA,hid rfl,hid (b1.mono (by simp)),hid (by simp),hid (by simp)⟩
 case round =>
  clear au bS aR b1
  obtain ⟨i,p',vk,Gk,Go,rfl,cG,aa,ab,aB,aF,bC,Ha,Hp,bA,al,ai⟩:=hrel
  rcases gk with _ | j
  ·obtain rfl:N=i:=by omega
   have t2:decide (N<N)=false:=by simp
   obtain ⟨Ak,ck,rfl,aJ,aD,aE⟩:=aB.oq
   obtain ⟨Ao,co,rfl,bw,bF,bE⟩:=aF.oq
   obtain ⟨kk,aI⟩:=zX ((ks.take N).length)
   rw [<-aI] at aa
   have p0:=aa.cell 0
   have p1:=aa.cell 1
   have q0:=ab.cell 0
   have q1:=ab.cell 1
   have z0:=ab.frozen 0
   have z1:=ab.frozen 1
   simp at p0 p1 q0 q1
   have cb:a2m ss N=l.length:=by unfold a2m;rw [HN.out,zN];exact b0.out
   rw [cb,zN] at aF ⊢
   have hp:=Hp.out
   rw [e5x (by rw [bI.out];exact zQ _)] at hp
   have b4:p'=p+(4+(c4i ks (a1k ss l) 0).length):=by
    rw [List.length_nil] at hp
    omega
   have HP:=hid b4
   have cj:bp≠br:=by omega
   obtain ⟨wF,bg⟩:=zX ((wr.setCell ⟨br,0,none⟩ (.int .i64 o)).setCell ⟨br,1,none⟩ (.slice Ak kk ck))
   have az:Chg [br] wr wF:=by rw [bg];exact ((zR [br] wr).setCell (.inl (by simp)) _).setCell (.inl (by simp)) _
   have bO:Blk wF br 188 #[.int .i64 o,.slice Ak kk ck]:=by
    rw [bg]
    simpa using (ab.set_ 0 (.int .i64 o)).set_ 1 (.slice Ak kk ck)
   have f0:=bO.cell 0
   have f1:=bO.cell 1
   simp at f0 f1
   have cD:=hid bg
   clear cb hp b4 aJ aD aE bw bF bE aB Ha Hp aI bg bO
   go_wp2_with fail
   rw [<-cD.out]
   refine bodyPost_ret (v:=.tuple #[.agg #[.int .i64 o,.slice Ak kk ck],.slice Ao l.length co,.int .i64 0]) (by simp [results,Tryz.results225,go_sem,f0,f1]) rfl ?_
   have aP:br∉Go:=fun hm=>by have:=ai.out _ hm;omega
   have bh:br∉F:=fun hm=>by have:=cu.out _ hm;have:=aG.out;omega
   refine ⟨Ak,kk,ck,_,Go,rfl,aF.chg az (fun x hx hm=>by simp at hm;exact aP (hm ▸ hx)),(bC.cast HP.out).chg az (fun x hx hm=>by simp at hm;exact bh (hm ▸ hx)),?_,fun x hx=>by have:=ai.out x hx;have:=aG.out;omega⟩
   refine (a6.out.trans bA.out ?_).trans az ?_
   ·intro x hx
    simp at hx
    rcases hx with hx | hx
    ·left;simp [hx]
    ·right;have:=aG.out;omega
   ·intro x hx
    simp at hx
    right
    have:=aG.out
    omega
  ·have bx:i<N:=by omega
   have t2:decide (i<N)=true:=zB bx
   have a8:i<ss.length:=by rw [<-HN.out];exact bx
   obtain ⟨gs,os,rfl,ar⟩:=(cc.out.keep bk.out bA.out).i64_at a8
   have aI:i<ks.length:=by rw [bI.out];exact bx
   have aQ:=b0a ss l i a8
   have an:=b0r ss i a8
   have aj:=b2e ss i a8
   rw [b0.out] at an
   have bn:=a0o ks aI
   have ax:=d4u (ks:=ks) (zF aI) aQ
   have bz:=cn.out ks[i] (zG aI)
   obtain ⟨k,b7⟩:=zX (ks[i])
   obtain ⟨s,bP⟩:=zX (ss[i])
   obtain ⟨q,bG⟩:=zX (a2m ss i)
   rw [<-bP] at ar ax an aj
   rw [<-bG] at ax an aj aF
   rw [<-b7] at bn ax bz
   obtain ⟨part,a4⟩:=zX ((l.drop q).take s)
   have bs:part.length=s:=by rw [a4,zI,zO];omega
   have bW:l.take (q+s)=l.take q++part:=by rw [a4,List.take_add]
   have bU:∀ x∈part,a2e x:=fun x hx=>HW.out x (List.mem_of_mem_drop (List.mem_of_mem_take (a4 ▸ hx)))
   rw [<-a4] at ax
   have be:=Ha.out
   rw [ax] at be
   have ay:=f2g wr b F ds p' k part bC bz bU (by have:=bq.out;omega) be.left
   rw [bs] at ay
   have cE:=hid be.right
   have cC:k<32:=by omega
   have cg:=hid ax
   have cl:=hid bn
   have cx:=hid bW
   have cw:=hid aj
   have HQ:=hid bG
   have bf:=hid bs
   have cB:s<=4096:=by have:=bq.out;omega
   have cI:q<=4096:=by have:=bq.out;omega
   clear aQ an aj bn ax b7 bP bG a4 bW bU be bz aI a8 bs Ha
   go_wp2_with fail
   refine ay.mono ?_
   rintro e w3 ⟨vp,Gp,rfl,bY,a9,aL,bX⟩
   obtain ⟨Ak,ck,rfl,aJ,aD,aE⟩:=aB.oq
   have hkl:(ks.take i).length=i:=by rw [zI,bI.out];omega
   rw [hkl] at aB aa
   obtain ⟨kd,aK⟩:=zX (ks.take i)
   rw [<-aK] at aB hkl
   have ci:=hid aK
   clear aK
   have bo:bp∉[b]:=by simp;omega
   have a2:=aB.lt
   have aU:=aF.lt
   have ac:=aa.chg aL bo
   have aq:=ab.chg aL (by simp;omega)
   have bL:=aB.chg aL (fun x hx hm=>by have:=(al.out x hx).1;simp at hm;omega)
   have aS:=aF.chg aL (fun x hx hm=>by have:=ai.out x hx;simp at hm;omega)
   have p1:=(Blk.alloc ac (.cells #[.int .i64 k] 3)).cell 1
   simp at p1
   have cr:=ac.cell 1
   simp at cr
   have bv:=hid aS
   have aO:=hid ac
   have a1:=hid aq
   have bN:=hid a9
   have ch:=hid bY
   have ae:=hid aL
   have b5:=hid bX
   have bB:=hid a2
   have bu:=hid aU
   have ak:=hid aa.lt
   clear aF aS aa ac ab aq bC a9 bY aL bX ay aE aJ aD a2 aU ar
   go_wp2_with (at_builtin;refine a0f rfl rfl a0p rfl rfl (bL.alloc _) (.int .i64 k) rfl ?c1 ?c2 ?c3 ?c4 ?_)
   case c1=>simp [go_sem]
   case c2=>rfl
   case c3=>rw [zE,hkl];omega
   case c4=>rw [zE,hkl];omega
   intro g2 am w4 bV ag
   have cf:(w3.alloc (.cells #[.int .i64 k] 3)).heap.size=w3.heap.size+1:=by simp
   have af:=(aO.out.alloc (.cells #[.int .i64 k] 3)).chg ag.chg (fun hm=>by have:=(al.out _ hm).1;omega)
   have d1:=af.cell 1
   have z1:=af.frozen 1
   simp at d1
   have b3:g2≠bp:=fun he=>by
    rcases ag.new g2 (by simp) with h9 | h9
    ·have:=(al.out _ h9).1;omega
    ·have:=ae.out.size;have:=ak.out;omega
   have ad:Chg [bp] w4 (w4.setCell ⟨bp,1,none⟩ (.slice (some ⟨g2,0,none⟩) (i+1) am)):=(zR [bp] w4).setCell (.inl (by simp)) _
   have bJ:=((((ch.out.alloc (.cells #[.int .i64 k] 3))).chg ag.chg (fun x hx hm=>by have:=b5.out x hx;have:=bB.out x hm;omega))).chg ad (fun x hx hm=>by simp at hm;have:=b5.out x hx;have:=ak.out;omega)
   have bD:=(((bv.out.alloc (.cells #[.int .i64 k] 3))).chg ag.chg (fun x hx hm=>(al.out x hm).2 hx)).chg ad (fun x hx hm=>by simp at hm;have:=ai.out x hx;omega)
   obtain ⟨Ap,cp,rfl,bH,cv,bl,_⟩:=bJ.open_
   rw [zE,bf.out] at bH ⊢
   go_wp2_with (at_builtin;refine a1m rfl rfl a0p rfl rfl bD (part.map vi) s rfl ?c1 bl ?c2 ?c3 ?c4 ?_)
   case c1=>rw [zE,bf.out]
   case c2=>intro u hu;obtain ⟨y,_,rfl⟩ := List.mem_map.1 hu;rfl
   case c3=>rw [zE,zE,bf.out,zI];omega
   case c4=>rw [zE,zE,bf.out,zI];omega
   intro v' F' w6 aV av
   go_wp2_with fail
   go_roundg j
   case measure=>omega
   case rel =>
    have h5:=af.set_ 1 (.slice (some ⟨g2,0,none⟩) (i+1) am)
    have bm:∀ x,x∈Go->x<w3.heap.size:=fun x hx=>by have:=bu.out x hx;have:=ae.out.size;omega
    have ao:g2∉Go:=fun hm=>by
     rcases ag.new g2 (by simp) with h9 | h9
     ·exact (al.out _ h9).2 hm
     ·have:=bm _ hm;omega
    have aY:bp<g2:=by
     rcases ag.new g2 (by simp) with h9 | h9
     ·exact (al.out _ h9).1
     ·have:=ae.out.size;have:=ak.out;omega
    have cB:w3.heap.size<=w4.heap.size:=by have:=ag.size;omega
    have b2:(w4.setCell ⟨bp,1,none⟩ (.slice (some ⟨g2,0,none⟩) (i+1) am)).heap.size=w4.heap.size:=by simp
    have bT:bp<w3.heap.size:=by have:=ae.out.size;have:=ak.out;omega
    have h6:=Blk.chg h5 av.chg (fun hm=>by have:=ai.out _ hm;omega)
    have h7:=((((a1.out.alloc (.cells #[.int .i64 k] 3)).chg ag.chg (fun hm=>by have:=(al.out _ hm).1;omega)).chg ad (by simp;omega)).chg av.chg (fun hm=>by have:=ai.out _ hm;omega))
    have h8:=((bV.toOwn.chg ad (fun x hx hm=>by simp at hx hm;omega)).chg av.chg (fun x hx hm=>by simp at hx;exact ao (hx ▸ hm)))
    have h9:=((((bN.out.same ((zR [] w3).alloc (.cells #[.int .i64 k] 3))).chg ag.chg (fun x hx hm=>by have:=aH.out x hx;have:=(al.out _ hm).1;omega)).chg ad (fun x hx hm=>by simp at hm;have:=aH.out x hx;omega)).chg av.chg (fun x hx hm=>by have:=aH.out x hx;have:=ai.out _ hm;omega))
    refine ⟨i+1,p'+(a3r k part).length,.slice (some ⟨g2,0,none⟩) (i+1) am,[g2],F',by go_num,by omega,by simpa using h6,h7,?_,?_,h9,cE,hid ?_,hid ?_,hid ?_,hid ?_⟩
    ·rw [cl.out,<-ci.out,zM]
     exact h8
    ·rw [cw.out,cx.out,zM,List.map_take]
     exact aV
    ·have e1:=Hp.out
     rw [cg.out,zC] at e1
     omega
    ·refine (((((bA.out.trans ae.out (by simp)).alloc (.cells #[.int .i64 k] 3)).trans ag.chg ?_).trans ad (by simp)).trans av.chg ?_)
     ·intro x hx
      right
      have:=(al.out x hx).1
      have:=bj.out
      omega
     ·intro x hx
      right
      have:=ai.out x hx
      have:=bj.out
      omega
    ·intro x hx
     simp at hx
     subst hx
     refine ⟨aY,av.out ?_ ao⟩
     rw [b2]
     exact bV.lt
    ·intro x hx
     rcases av.new x hx with h | h
     ·exact ai.out x h
     ·rw [b2] at h;omega
end Go.Proofs.YtepjepkgcdfboaaGreatDoor
