/- parts.Best by its contract. -/
import Derived.Test.YtepjepkgcdfboaaGreatDoorMg18
import Derived.Deep.RegionLaw
import Derived.Test.YtepjepkgcdfboaaGreatDoorMg34
set_option linter.unusedVariables false
set_option linter.unusedSimpArgs false
set_option maxHeartbeats 4000000
set_option maxRecDepth 100000
namespace Go.Proofs.YtepjepkgcdfboaaGreatDoor
open Go.RowKit
theorem planOf_len (o n warm:Nat) (l:List Int):(planOf o n warm l).length=(sizesL o n warm).length:=by unfold planOf;rw [zE,splitL_len]
theorem planOf_ok (o n warm:Nat) (l:List Int):KsOk (planOf o n warm l):=by
 intro k hk
 obtain ⟨p,_,rfl⟩:=List.mem_map.1 hk
 exact chooseK_ok p
theorem pbest_ok (n warm most:Nat) (l:List Int) (Al:Option Addr) (capl:Nat) (w:World) (h1:1<=n) (h2:n<=4096) (h3:warm<=n) (hm:most<=8) (hll:l.length=n-warm) (hw:∀ x∈l,wideP x) (hcl:Cells vi w Al l) (hcap1:l.length<=capl) (hcap2:capl<=9223372036854775807) :
  Calls Tryz.prog 150 #[.int .i64 n,.int .i64 warm,.int .i64 most,.slice Al l.length capl] w fun e w'=>∃ v G,e=.returned (.tuple #[.agg #[.int .i64 (bestPlan n warm most l).order,v],.int .i64 0])/\Own w' 3 v G ((bestPlan n warm most l).ks.map i64)/\Chg [] w w'/\∀ x∈G,w.heap.size<=x:=by
 obtain ⟨L,hL⟩:=zX (l.length)
 have ah:=fun w hc=>right_yes n warm l Al capl w h1 h2 h3 hll hw hc
 have ar:=fun o (ho:o<=8) w=>sizes_ok o n warm w ho h1 h2 h3
 have aa:=fun o (ho:o<=8) (hne:sizesL o n warm≠[]) A cap w hc hcl=>pcost_ok o n warm (planOf o n warm l) A cap l Al capl w ho h1 h2 h3 hne (planOf_len o n warm l) (planOf_ok o n warm l) hc hll hw hcl hcap1 hcap2
 rw [<-hL] at ah aa hll hcap1 ⊢
 have aQ:=hid ah
 have aL:=hid ar
 have a5:=hid aa
 have HW:=hid hw
 have HL:=hid hL
 have cb:=hid hll
 have cl:L<=4096:=by omega
 have b1:max (most:Int) 0=(most:Int):=by omega
 have cu:min (most:Int) 8=(most:Int):=by omega
 have aV:bestPlan n warm most l=plans n warm l (most+1):=by unfold bestPlan;rw [Nat.min_eq_left hm]
 have b5:=hid aV
 clear ah ar aa hw hL hll aV
 go_enter Tryz.func150,Tryz.ntmps150
 go_wp2_with fail
 have bL:Chg [] w (w.alloc (.cells #[.int .i64 0,.slice none 0 0] 188)):=(zR [] w).alloc _
 refine (aQ.out _ (hcl.same bL)).mono ?_
 rintro e cx ⟨rfl,rfl⟩
 go_wp2_with fail
 have az:=(Blk.new (w.alloc (.cells #[.int .i64 0,.slice none 0 0] 188)) 188 #[.int .i64 0,.slice none 0 0])
 have bg:=(Blk.new w 188 #[.int .i64 0,.slice none 0 0]).alloc (.cells #[.int .i64 0,.slice none 0 0] 188)
 have bj:Chg [] w ((w.alloc (.cells #[.int .i64 0,.slice none 0 0] 188)).alloc (.cells #[.int .i64 0,.slice none 0 0] 188)):=((zR [] w).alloc _).alloc _
 have aE:w.heap.size≠w.heap.size+1:=by omega
 have a8:(w.alloc (.cells #[.int .i64 0,.slice none 0 0] 188)).heap.size=w.heap.size+1:=by simp
 rw [a8] at az
 generalize hwA:(w.alloc (.cells #[.int .i64 0,.slice none 0 0] 188)).alloc (.cells #[.int .i64 0,.slice none 0 0] 188)=wA at *
 obtain ⟨br,aO⟩:=zX (w.heap.size)
 obtain ⟨bb,aG⟩:=zX (w.heap.size+1)
 rw [<-aG] at aE az ⊢
 rw [<-aO] at aE bg ⊢
 have cf:=az.lt
 have co:=hid aO
 have bH:=hid aG
 have cv:=hcl.same bj
 have cz:=hid hwA
 have bu:=hid hcl
 clear a8 hwA aO aG bL hcl
 go_loopg [11,12] (most+1) (fun j lv ov wr=>j<=most+1/\ov=.int .i64 ((most+1-j:Nat):Int)/\∃ so an sc v G,lv=.int .i64 ((sc:Nat):Int)/\Hid (plans n warm l (most+1-j)=⟨so,an,sc⟩) /\
   Blk wr bb 188 #[.int .i64 ((so:Nat):Int),v]/\Own wr 3 v G (an.map i64)/\Chg [bb] wA wr/\∀ x∈G,wA.heap.size<=x)
 case atStart=>exact ⟨zQ _,by simp,0,[],0,.slice none 0 0,[],rfl,hid (by simp [plans]),az,Own.nil _ _,zR _ _,by simp⟩
 case round =>
  obtain ⟨hj,rfl,so,an,sc,v,G,rfl,bo,aA,ak,ao,hG⟩:=hrel
  have HG:=hid hG
  obtain ⟨Av,am,rfl,-,-,-⟩:=ak.open_map
  clear hG az
  rcases gk with _ | j
  ·have t4:decide ((most:Int)+1<=(most:Int))=false:=zA (by omega)
   have ap:=bg.chg ao (by simpa using aE)
   have bY:=aA.cell 0
   have bZ:=aA.cell 1
   have b0:=ap.cell 0
   have ce:=ap.cell 1
   have cA:=ap.frozen 0
   have cF:=ap.frozen 1
   simp at bY bZ b0 ce
   go_wp2_with fail
   have hF:=(ap.set_ 0 (.int .i64 so)).set_ 1 (.slice Av an.length am)
   have cp:=(ak.far (p:=⟨br,0,none⟩) (fun hm=>by have h7:=HG.out _ hm;have h8:=bg.lt;simp at h7;omega) (.int .i64 so)).far (p:=⟨br,1,none⟩) (fun hm=>by have h7:=HG.out _ hm;have h8:=bg.lt;simp at h7;omega) (.slice Av an.length am)
   have cg:Chg [bb,br] wA ((wr.setCell ⟨br,0,none⟩ (.int .i64 so)).setCell ⟨br,1,none⟩ (.slice Av an.length am)):=((ao.mono (by simp)).setCell (by simp) _).setCell (by simp) _
   generalize hwF:(wr.setCell ⟨br,0,none⟩ (.int .i64 so)).setCell ⟨br,1,none⟩ (.slice Av an.length am)=wF at *
   have bV:=hF.cell 0
   have bE:=hF.cell 1
   simp at bV bE
   have e1:bestPlan n warm most l=⟨so,an,sc⟩:=by rw [b5.out,<-bo.out];rfl
   refine bodyPost_ret (v:=.tuple #[.agg #[.int .i64 so,.slice Av an.length am],.int .i64 0]) (by simp [results,Tryz.results150,go_sem,bV,bE]) rfl ⟨.slice Av an.length am,G,?_,?_,?_,?_⟩
   ·rw [e1]
   ·rw [e1];exact cp
   ·refine bj.trans cg ?_
    intro x hx
    right
    have:=co.out
    have:=bH.out
    simp at hx
    omega
   ·intro x hx
    have:=HG.out x hx
    have:=bj.size
    omega
  ·obtain ⟨i,bP⟩:=zX (most+1-(j+1))
   rw [<-bP] at bo ⊢
   have b9:i<=most:=by omega
   have bS:most+1-j=i+1:=by omega
   have HI:=hid bS
   have t4:decide (i<=most)=true:=zB b9
   clear bP bS
   have ab:=plans_succ n warm l i
   rw [bo.out] at ab
   have bz:i<=8:=by omega
   go_wp2_with fail
   refine (aL.out i bz _).mono ?_
   rintro e w2 ⟨v2,G2,rfl,al,aI,cG⟩
   obtain ⟨A2,aw,rfl,ax,bs,-⟩:=al.open_map
   by_cases hne:sizesL i n warm=[]
   ·have aX:plans n warm l (i+1)=⟨so,an,sc⟩:=by rw [ab,planStep,if_pos hne]
    have be:=hid aX
    rw [hne] at al ax ⊢
    clear hne ab aX
    simp only [List.length_nil]
    go_wp2_with fail
    go_roundg j
    case measure=>omega
    case rel =>
     rw [HI.out]
     exact ⟨by omega,by go_num,so,an,sc,_,G,rfl,be,aA.chg aI (by simp),ak.same aI,ao.trans_same (aI.mono (by simp)),HG.out⟩
   ·have hN:=sizesL_len hne
    have aR:=sizesL_sum hne
    obtain ⟨ss,ba⟩:=zX (sizesL i n warm)
    have bD:2^i<=256:=Nat.pow_le_pow_right (n:=2) (j:=8) (by decide) bz
    have bv:=Nat.two_pow_pos i
    rw [<-hN] at bv bD
    have aS:=a5.out i bz hne
    rw [planStep,if_neg hne] at ab
    rw [<-ba] at hN aR al ax bv bD ab aS ⊢
    have a1:planOf i n warm l=(splitL ss l).map chooseK:=by unfold planOf;rw [<-ba]
    have ay:=planOf_len i n warm l
    rw [<-ba] at ay
    obtain ⟨N,bB⟩:=zX (ss.length)
    rw [<-bB] at bv bD ax ay ⊢
    have t5:((N:Int)==0)=false:=by rw [beq_eq_false_iff_ne];omega
    have HN:=hid bB
    have a7:=hid ab
    have bn:=hid aS
    have bA:=hid a1
    have a9:=hid ay
    have cw:=hid ba
    have bq:=hid aR
    clear hN aR ba ab aS a1 ay bB hne
    go_wp2_with fail
    have aV:=Blk.new w2 188 #[.int .i64 i,.slice none 0 0]
    have ai:Chg [bb] wA w2:=ao.trans_same (aI.mono (by simp))
    have ck:Cells i64 w2 A2 ss:=by have:=al.cells;exact this
    have a0:=bu.out.same (bj.trans ai (by
     intro x hx
     right
     have:=bH.out
     simp at hx
     omega))
    obtain ⟨bp,aK⟩:=zX (w2.heap.size)
    rw [<-aK] at aV ⊢
    have aN:=hid aK
    have b6:Hid (L<=capl):=hid hcap1
    have bw:=hid hcap2
    have bU:Chg [] w2 (w2.alloc (.cells #[.int .i64 i,.slice none 0 0] 188)):=(zR [] w2).alloc _
    clear aK hcap1 hcap2 ax bs
    go_loopg [15,44] N (fun q rv iv wx=>q<=N/\iv=.int .i64 ((N-q:Nat):Int)/\∃ A' c' rest v G ks,rv=.slice A' rest.length c'/\Hid (rest=l.drop (startOf ss (N-q)))/\Cells vi w2 A' rest/\rest.length<=c'/\c'<=9223372036854775807/\rest.length<=4096 /\
     Blk wx bp 188 #[.int .i64 i,v]/\Own wx 3 v G (ks.map i64)/\Hid (ks=((splitL ss l).map chooseK).take (N-q))/\Chg [] w2 wx/\∀ x∈G,w2.heap.size<x)
    case atStart =>
     refine ⟨zQ _,by simp,Al,capl,l,.slice none 0 0,[],[],?_,hid (by simp [startOf]),a0,?_,bw.out,?_,aV,Own.nil _ _,hid (by simp),bU,by simp⟩
     ·rw [<-HL.out]
     ·rw [<-HL.out];exact b6.out
     ·rw [<-HL.out];exact cl
    case round =>
     obtain ⟨hq,rfl,A',c',rest,vp,Gp,ks,rfl,aj,bm,b4,cH,cD,ad,af,aW,aq,bQ⟩:=hrel
     have aB:=hid bQ
     clear bQ aV bU
     obtain ⟨Ap,ae,rfl,-,-,-⟩:=af.open_map
     rcases gk with _ | q
     ·have t7:decide (((N-0:Nat):Int)<(N:Int))=false:=by simp
      have bx:=ad.cell 0
      have bh:=ad.cell 1
      simp at bx bh
      have e2:((splitL ss l).map chooseK).take (N-0)=(splitL ss l).map chooseK:=by rw [Nat.sub_zero,HN.out,<-splitL_len ss l,<-zE (f:=chooseK),zN]
      have aJ:ks.length=N:=by rw [aW.out,e2,<-bA.out,a9.out,HN.out]
      have a4:Cells i64 wr Ap (planOf i n warm l):=by
       have h9:=af.cells
       rw [aW.out,e2,<-bA.out] at h9
       exact h9
      have aa:=bn.out Ap ae wr a4 (a0.same aq)
      have e3:(planOf i n warm l).length=N:=by rw [a9.out,HN.out]
      rw [e3] at aa
      obtain ⟨CC,bl⟩:=zX (costP (planOf i n warm l) (splitL ss l))
      rw [<-bl] at aa
      have aX:=a7.out
      rw [<-bl] at aX
      have be:=hid aX
      have cJ:=hid bl
      have b3:=hid aJ
      rw [aJ] at bh ad af
      have a6:Hid (ks=planOf i n warm l):=hid (by rw [aW.out,e2,bA.out])
      clear e2 e3 bl aX aJ a4
      go_wp2_with fail
      refine aa.mono ?_
      rintro e w4 ⟨rfl,bC⟩
      have aF:Chg [] w2 w4:=aq.trans_same bC
      have bc:=ad.chg bC (by simp)
      have aC:=af.same bC
      have ag:=aA.chg (aI.trans_same aF) (by simp)
      have aH:=ak.same (aI.trans_same aF)
      have aT:Chg [bb] wA w4:=ao.trans_same ((aI.trans_same aF).mono (by simp))
      have bx:=bc.cell 0
      have bh:=bc.cell 1
      have b7:=ag.cell 0
      have ch:=ag.cell 1
      have cy:=ag.frozen 0
      have cE:=ag.frozen 1
      simp at bx bh b7 ch
      clear aa
      by_cases hc0:sc=0
      ·have t8:((sc:Int)==0)=true:=by rw [beq_iff_eq];omega
       have ac:=be.out
       rw [if_pos (.inl hc0)] at ac
       have av:=hid ac
       clear ac hc0
       go_wp2_with fail
       go_roundg j
       case measure=>omega
       case rel =>
        rw [HI.out]
        have h1:=(ag.set_ 0 (.int .i64 i)).set_ 1 (.slice Ap N ae)
        have h2:=(aC.far (p:=⟨bb,0,none⟩) (fun hm=>by have h7:=aB.out _ hm;have h8:=ai.size;simp at h7;omega) (.int .i64 i)).far (p:=⟨bb,1,none⟩) (fun hm=>by have h7:=aB.out _ hm;have h8:=ai.size;simp at h7;omega) (.slice Ap N ae)
        rw [a6.out] at h2
        refine ⟨by omega,by go_num,i,planOf i n warm l,CC,.slice Ap N ae,Gp,rfl,av,by simpa using h1,h2,(aT.setCell (by simp) _).setCell (by simp) _,fun x hx => ?_⟩
        have h7:=aB.out x hx
        have h8:=ai.size
        omega
      ·have t8:((sc:Int)==0)=false:=by rw [beq_eq_false_iff_ne];omega
       by_cases hc1:CC<sc
       ·have t9:decide (CC<sc)=true:=by simpa using hc1
        have ac:=be.out
        rw [if_pos (.inr hc1)] at ac
        have av:=hid ac
        clear ac hc0
        go_wp2_with fail
        go_roundg j
        case measure=>omega
        case rel =>
         rw [HI.out]
         have h1:=(ag.set_ 0 (.int .i64 i)).set_ 1 (.slice Ap N ae)
         have h2:=(aC.far (p:=⟨bb,0,none⟩) (fun hm=>by have h7:=aB.out _ hm;have h8:=ai.size;simp at h7;omega) (.int .i64 i)).far (p:=⟨bb,1,none⟩) (fun hm=>by have h7:=aB.out _ hm;have h8:=ai.size;simp at h7;omega) (.slice Ap N ae)
         rw [a6.out] at h2
         refine ⟨by omega,by go_num,i,planOf i n warm l,CC,.slice Ap N ae,Gp,rfl,av,by simpa using h1,h2,(aT.setCell (by simp) _).setCell (by simp) _,fun x hx => ?_⟩
         have h7:=aB.out x hx
         have h8:=ai.size
         omega
       ·have t9:decide (CC<sc)=false:=by simpa using hc1
        have ac:=be.out
        rw [if_neg (by rintro (h | h);exact hc0 h;exact hc1 h)] at ac
        have av:=hid ac
        clear ac hc0
        go_wp2_with fail
        go_roundg j
        case measure=>omega
        case rel =>
         rw [HI.out]
         exact ⟨by omega,by go_num,so,an,sc,_,G,rfl,av,ag,aH,aT,HG.out⟩
     ·obtain ⟨m,bJ⟩:=zX (N-(q+1))
      rw [<-bJ] at aj aW ⊢
      have cs:m<N:=by omega
      have bX:N-q=m+1:=by omega
      have HM:=hid bX
      have aU:m<ss.length:=by rw [<-HN.out];exact cs
      obtain ⟨cI,cC,rfl,aD⟩:=(ck.same aq).i64_at aU
      have aP:=splitL_get ss l m aU
      have aY:=startOf_fit ss m aU
      have bi:=drop_startOf l ss m aU
      rw [<-aj.out] at aP bi
      have bM:m<((splitL ss l).map chooseK).length:=by rw [zE,splitL_len];exact aU
      have aZ:=take_snoc' ((splitL ss l).map chooseK) bM
      have bO:((splitL ss l).map chooseK)[m]=chooseK (rest.take ss[m]):=by
       have h9:((splitL ss l).map chooseK)[m]?=some (chooseK (rest.take ss[m])):=by rw [zW,aP];rfl
       exact (List.getElem?_eq_some_iff.1 h9).2
      rw [bO,<-aW.out] at aZ
      obtain ⟨s,hs⟩:=zX (ss[m])
      rw [<-hs] at aD aY bi aZ
      have ca:s<=rest.length:=by
       have:=bq.out
       have:=cb.out
       have:=HL.out
       rw [aj.out,zO]
       omega
      have bW:∀ x∈rest.take s,wideP x:=fun x hx=>HW.out x (by
       have:=List.mem_of_mem_take hx
       rw [aj.out] at this
       exact List.mem_of_mem_drop this)
      have a1:(rest.take s).length=s:=by rw [zI];omega
      have cd:=(bm.take s).same aq
      have aM:=choose_ok (rest.take s) A' c' wr.drew bW (cd.same (zR [] wr).drew) (by omega)
      rw [a1] at aM
      obtain ⟨A3,bN,-,a2⟩:=slice_from (P:=Tryz.prog) Tryz.underlying22 size_int A' rest.length c' s ca b4
      have a3:=a2 Int vi w2 rest rfl bm
      have bG:Hid (rest.drop s=l.drop (startOf ss (m+1))):=hid bi
      have bI:rest.length-s=(rest.drop s).length:=by rw [zO]
      rw [bI] at bN
      have bR:(rest.drop s).length<=4096:=by rw [zO];omega
      have bK:(rest.drop s).length<=c'-s:=by rw [zO];omega
      obtain ⟨bf,au⟩:=zX (rest.drop s)
      rw [<-au] at bN bR bK a3 bG
      have ci:s<=c':=by omega
      obtain ⟨kc,bT⟩:=zX (chooseK (rest.take s))
      rw [<-bT] at aM aZ
      have cc:=hid aZ
      have ct:ks.length<=256:=by rw [aW.out,zI];omega
      have cj:=ad.cell 1
      have cB:=ad.frozen 1
      simp at cj
      clear aZ bO bM aP bi hs bW a2 aY bI au aU bJ bX bm a1 bT
      have bd:bp∉Gp:=fun hm=>by have:=aB.out _ hm;have:=aN.out;omega
      have bF:=ad.alloc (.cells #[.int .i64 kc] 3)
      have n1:(wr.alloc (Obj.cells #[.int .i64 kc] 3)).cell? ⟨bp,1,none⟩=some (.slice Ap ks.length ae):=by simpa using bF.cell 1
      clear bF
      go_wp2_with fail
      go_region_law (first | (refine step_append_o1 (by rfl) (by rfl) int_elem (by rfl) (by rfl) ((af.alloc (.cells #[.int .i64 kc] 3)).drew) (.int .i64 kc) (by rfl) (by simp [go_sem]) (by rfl) (by rw [zE];omega) (by rw [zE];omega) ?_;intro g2 aw w3 cr bk;have az:Blk w3 bp 188 #[.int .i64 i,.slice Ap ks.length ae]:=((ad.alloc (.cells #[.int .i64 kc] 3)).drew).chg bk.chg bd;have y1:=az.cell 1;have z1:=az.frozen 1;simp at y1) | (go_simp;go_at_call 200;refine aM.mono ?_;rintro e w' ⟨rfl,rfl⟩))
      all_goals
       go_wp2_with fail
       go_roundg q
       case measure=>omega
       case rel =>
        rw [HM.out]
        have h1:=az.set_ 1 (.slice (some ⟨g2,0,none⟩) (ks.length+1) aw)
        have b2:g2≠bp:=by
         intro he
         rcases bk.new g2 (by simp) with h9 | h9
         ·exact bd (he ▸ h9)
         ·have h8:=ad.lt
          simp at h9
          omega
        have cq:=cr.far (p:=⟨bp,1,none⟩) b2 (.slice (some ⟨g2,0,none⟩) (ks.length+1) aw)
        have h2:=cq.toOwn
        have e5:(List.map i64 ks).length=ks.length:=zE _
        rw [e5] at h2
        have cm:Chg [] w2 w3:=((aq.alloc (.cells #[.int .i64 kc] 3)).drew).trans bk.chg (fun x hx => .inr (Nat.le_of_lt (aB.out x hx)))
        refine ⟨by omega,by go_num,A3,_,bf,.slice (some ⟨g2,0,none⟩) (ks.length+1) aw,[g2],ks++[kc],rfl,bG,a3,bK,by omega,bR,?_,?_,hid ?_,?_,?_⟩
        ·simpa using h1
        ·simpa [i64] using h2
        ·rw [cc.out]
        ·exact cm.setCell (.inr (by have:=aN.out;simp;omega)) _
        ·intro x hx
         have cn:x=g2:=by simpa using hx
         rcases bk.new x (by simp [cn]) with h9 | h9
         ·exact aB.out _ h9
         ·have h8:=ad.lt
          have:=aN.out
          simp at h9
          omega
def tailP (ks:List Nat) (ps:List (List Int)) (i:Nat):List Nat:=((ks.zip ps).drop i).flatMap fun p=>partBits p.1 p.2
theorem tailP_split {ks:List Nat} {ps:List (List Int)} {i k:Nat} {q:List Int} (hk:ks[i]?=some k) (hq:ps[i]?=some q):tailP ks ps i=partBits k q++tailP ks ps (i+1):=by
 have aa:=(List.getElem?_eq_some_iff.1 hk).1
 have ab:=(List.getElem?_eq_some_iff.1 hq).1
 have hl:i<(ks.zip ps).length:=by rw [List.length_zip];omega
 have hz:(ks.zip ps)[i]=(k,q):=by
  rw [List.getElem_zip,(List.getElem?_eq_some_iff.1 hk).2,(List.getElem?_eq_some_iff.1 hq).2]
 unfold tailP
 rw [List.drop_eq_getElem_cons hl,List.flatMap_cons,hz]
theorem tailP_end {ks:List Nat} {ps:List (List Int)} {i:Nat} (h:ks.length<=i):tailP ks ps i=[]:=by
 unfold tailP
 rw [List.drop_of_length_le (by rw [List.length_zip];omega)]
 rfl
theorem bitsP_tail (o:Nat) (ks:List Nat) (ps:List (List Int)):bitsP o ks ps=bitsOf o 4++tailP ks ps 0:=rfl
theorem pget_ok (w:World) (b:Nat) (F ds:List Nat) (p o n warm:Nat) (ks:List Nat) (l:List Int) (h:IsRd w b F ds p) (ho:o<=8) (h1:1<=n) (h2:n<=4096) (h3:warm<=n) (hne:sizesL o n warm≠[]) (hkl:ks.length=(sizesL o n warm).length) (hks:KsOk ks)
  (hll:l.length=n-warm) (hw:∀ x∈l,wideP x) (ha:Ahead ds p (bitsP o ks (splitL (sizesL o n warm) l))) :
  Calls Tryz.prog 225 #[.pointer (some ⟨b,0,none⟩),.int .i64 n,.int .i64 warm] w fun e w'=>∃ (Ak:Option Addr) (nk ck:Nat) (v:Value) (G:List Nat),e=.returned (.tuple #[.agg #[.int .i64 o,.slice Ak nk ck],v,.int .i64 0])/\Own w' 3 v G (l.map vi)/\IsRd w' b F ds (p+(bitsP o ks (splitL (sizesL o n warm) l)).length)/\Chg [b] w w'/\∀ x∈G,w.heap.size<=x:=by
 have bB:=sizesL_sum hne
 have bb:=sizesL_len hne
 rw [bitsP_tail] at ha ⊢
 have bl:o<2^4:=by omega
 have cw:=fun w'=>prow_yes n warm w' h1 h2 h3
 have bf:=fun w' (hr:IsRd w' b F ds p)=>rget_ahead w' b F ds p 4 o hr (by omega) bl ha.left
 have a1:=fun w'=>sizes_ok o n warm w' ho h1 h2 h3
 have ba:=ha.right
 rw [bitsOf_len] at ba
 obtain ⟨ss,aY⟩:=zX (sizesL o n warm)
 rw [<-aY] at bB bb hkl a1 ba hne ⊢
 rw [zC,bitsOf_len]
 have cF:=h.lt b h.mem
 have aP:ss.length<=256:=by rw [bb];exact Nat.pow_le_pow_right (n:=2) (j:=8) (by decide) ho
 have cA:1<=ss.length:=by rw [bb];exact Nat.two_pow_pos o
 obtain ⟨N,hN⟩:=zX (ss.length)
 rw [<-hN] at aP cA hkl
 have bR:=hid (bB.trans hll.symm)
 have cb:l.length<=4096:=by rw [hll];omega
 have HN:=hid hN
 have HW:=hid hw
 have cq:=hid hks
 have bu:=hid hkl
 have HA:=hid ba
 have cu:=hid h.lt
 have bF:=hid cb
 obtain ⟨br,bP⟩:=zX (w.heap.size)
 have aH:=hid bP
 have h':=h
 clear hN hw hks hkl ba ha bB bb aY hne hll cb bP h1 h2 h3
 go_enter Tryz.func225,Tryz.ntmps225
 go_wp2_with (go_at_call 248;refine (cw _).mono ?_;rintro e w' ⟨rfl,rfl⟩)
 obtain ⟨w0,bd⟩:=zX (w.alloc (.cells #[.int .i64 0,.slice none 0 0] 188))
 have aR:Blk w0 br 188 #[.int .i64 0,.slice none 0 0]:=by rw [bd,aH.out];exact Blk.new w _ _
 have bW:Chg [] w w0:=by rw [bd];exact (zR [] w).alloc _
 rw [<-bd,<-aH.out]
 have bf:=bf w0 (h.same bW)
 clear bd h
 refine bf.mono ?_
 rintro e w1 ⟨rfl,aU,bU⟩
 have cB:b≠br:=by have:=aH.out;omega
 have aW:=aR.chg bU (by simpa using cB.symm)
 have a1:=a1 w1
 have aS:Chg [b] w w1:=(bW.mono (by simp)).trans_same bU
 clear bf aR
 go_wp2_with (go_at_call 69;refine (err_ok _ b F ds _ aU).mono ?_;rintro e w' ⟨rfl,rfl⟩)
 refine a1.mono ?_
 rintro e w2 ⟨v2,G2,rfl,am,bv,b5⟩
 obtain ⟨As,cs,rfl,cz,ce,b3⟩:=am.open_map
 rw [<-HN.out]
 have t1:((N:Int)==0)=false:=by rw [beq_eq_false_iff_ne];omega
 have ax:Apt As ss [b,w2.heap.size]:=am.apt (fun x hx hm=>by
  have h5:=b5 x hx
  have h6:=am.lt x hx
  have h7:=aU.lt b aU.mem
  simp at hm
  omega)
 have a4:=aU.same bv
 have ay:=Blk.chg aW bv (by simp)
 have az:=aS.trans bv (by simp)
 clear am a1 aU aW aS
 obtain ⟨bp,ao⟩:=zX (w2.heap.size)
 rw [<-ao] at ax
 have bG:=hid ax
 have bn:=hid ao
 clear ax
 have cH:br<bp:=by rw [ao];exact ay.lt
 have cD:b<bp:=by rw [ao];have:=a4.lt b a4.mem;exact this
 have ap:Blk (w2.alloc (.cells #[.int .i64 o,.slice none 0 0] 188)) bp 188 #[.int .i64 o,.slice none 0 0]:=by rw [ao];exact Blk.new w2 _ _
 have b9:=a4.same ((zR [] w2).alloc (.cells #[.int .i64 o,.slice none 0 0] 188))
 have aT:=Blk.alloc ay (.cells #[.int .i64 o,.slice none 0 0] 188)
 have ci:=az.alloc (.cells #[.int .i64 o,.slice none 0 0] 188)
 have bQ:Chg [] w2 (w2.alloc (.cells #[.int .i64 o,.slice none 0 0] 188)):=(zR [] w2).alloc _
 have a0:(w2.alloc (.cells #[.int .i64 o,.slice none 0 0] 188)).heap.size=bp+1:=by rw [ao];simp
 have a3:∀ x∈F,x<bp:=fun x hx=>by rw [ao];exact a4.lt x hx
 have aB:=hid a3
 have ch:=hid a0
 have cc:=hid b3
 have a6:=hid az
 clear ao a4 ay az a0 a3 b3 b5
 go_wp2_with fail
 rw [<-bn.out]
 go_loopg [12,14,15,16,17,44] N (fun j vo va vb vc vd iv wr=>∃ (i p':Nat) (vk:Value) (Gk Go:List Nat),iv=.int .i64 i/\i+j=N/\Blk wr bp 188 #[.int .i64 o,vk]/\Blk wr br 188 #[.int .i64 0,.slice none 0 0]/\Own wr 3 vk Gk ((ks.take i).map i64)/\Own wr 3 vo Go ((l.take (startOf ss i)).map vi)/\IsRd wr b F ds p'/\Hid (Ahead ds p' (tailP ks (splitL ss l) i))/\Hid (p'+(tailP ks (splitL ss l) i).length=p+4+(tailP ks (splitL ss l) 0).length)/\Hid (Chg [b,bp] w2 wr)/\Hid (∀ x∈Gk,bp<x/\x∉Go)/\Hid (∀ x∈Go,bp<x))
 case atStart =>
  exact ⟨0,p+4,.slice none 0 0,[],[],rfl,by omega,ap,aT,Own.nil _ _,by simpa [startOf] using Own.nil _ _,b9,HA,hid rfl,hid (bQ.mono (by simp)),hid (by simp),hid (by simp)⟩
 case round =>
  clear ap b9 aT bQ
  obtain ⟨i,p',vk,Gk,Go,rfl,cI,ab,aa,aK,aF,bq,Ha,Hp,bO,ak,al⟩:=hrel
  rcases gk with _ | j
  ·obtain rfl:N=i:=by omega
   have t2:decide (N<N)=false:=by simp
   obtain ⟨Ak,ck,rfl,aE,aG,aD⟩:=aK.open_map
   obtain ⟨Ao,co,rfl,bM,bD,bL⟩:=aF.open_map
   obtain ⟨kk,av⟩:=zX ((ks.take N).length)
   rw [<-av] at ab
   have p0:=ab.cell 0
   have p1:=ab.cell 1
   have q0:=aa.cell 0
   have q1:=aa.cell 1
   have z0:=aa.frozen 0
   have z1:=aa.frozen 1
   simp at p0 p1 q0 q1
   have bS:startOf ss N=l.length:=by unfold startOf;rw [HN.out,zN];exact bR.out
   rw [bS,zN] at aF ⊢
   have hp:=Hp.out
   rw [tailP_end (by rw [bu.out];exact zQ _)] at hp
   have b0:p'=p+(4+(tailP ks (splitL ss l) 0).length):=by
    rw [List.length_nil] at hp
    omega
   have HP:=hid b0
   have cx:bp≠br:=by omega
   obtain ⟨wF,be⟩:=zX ((wr.setCell ⟨br,0,none⟩ (.int .i64 o)).setCell ⟨br,1,none⟩ (.slice Ak kk ck))
   have aA:Chg [br] wr wF:=by rw [be];exact ((zR [br] wr).setCell (.inl (by simp)) _).setCell (.inl (by simp)) _
   have bm:Blk wF br 188 #[.int .i64 o,.slice Ak kk ck]:=by
    rw [be]
    simpa using (aa.set_ 0 (.int .i64 o)).set_ 1 (.slice Ak kk ck)
   have f0:=bm.cell 0
   have f1:=bm.cell 1
   simp at f0 f1
   have cy:=hid be
   clear bS hp b0 aE aG aD bM bD bL aK Ha Hp av be bm
   go_wp2_with fail
   rw [<-cy.out]
   refine bodyPost_ret (v:=.tuple #[.agg #[.int .i64 o,.slice Ak kk ck],.slice Ao l.length co,.int .i64 0]) (by simp [results,Tryz.results225,go_sem,f0,f1]) rfl ?_
   have aO:br∉Go:=fun hm=>by have:=al.out _ hm;omega
   have bw:br∉F:=fun hm=>by have:=cu.out _ hm;have:=aH.out;omega
   refine ⟨Ak,kk,ck,_,Go,rfl,aF.chg aA (fun x hx hm=>by simp at hm;exact aO (hm ▸ hx)),(bq.cast HP.out).chg aA (fun x hx hm=>by simp at hm;exact bw (hm ▸ hx)),?_,fun x hx=>by have:=al.out x hx;have:=aH.out;omega⟩
   refine (a6.out.trans bO.out ?_).trans aA ?_
   ·intro x hx
    simp at hx
    rcases hx with hx | hx
    ·left;simp [hx]
    ·right;have:=aH.out;omega
   ·intro x hx
    simp at hx
    right
    have:=aH.out
    omega
  ·have bI:i<N:=by omega
   have t2:decide (i<N)=true:=zB bI
   have aM:i<ss.length:=by rw [<-HN.out];exact bI
   obtain ⟨gs,os,rfl,au⟩:=(cc.out.keep bG.out bO.out).i64_at aM
   have av:i<ks.length:=by rw [bu.out];exact bI
   have a2:=splitL_get ss l i aM
   have ah:=startOf_fit ss i aM
   have aj:=startOf_succ ss i aM
   rw [bR.out] at ah
   have bi:=take_snoc' ks av
   have aC:=tailP_split (ks:=ks) (zF av) a2
   have bK:=cq.out ks[i] (zG av)
   obtain ⟨k,b7⟩:=zX (ks[i])
   obtain ⟨s,b4⟩:=zX (ss[i])
   obtain ⟨q,bo⟩:=zX (startOf ss i)
   rw [<-b4] at au aC ah aj
   rw [<-bo] at aC ah aj aF
   rw [<-b7] at bi aC bK
   obtain ⟨part,aV⟩:=zX ((l.drop q).take s)
   have bk:part.length=s:=by rw [aV,zI,zO];omega
   have bX:l.take (q+s)=l.take q++part:=by rw [aV,List.take_add]
   have b2:∀ x∈part,wideP x:=fun x hx=>HW.out x (List.mem_of_mem_drop (List.mem_of_mem_take (aV ▸ hx)))
   rw [<-aV] at aC
   have bc:=Ha.out
   rw [aC] at bc
   have aw:=pone_ok wr b F ds p' k part bq bK b2 (by have:=bF.out;omega) bc.left
   rw [bk] at aw
   have cn:=hid bc.right
   have cg:k<32:=by omega
   have ct:=hid aC
   have cr:=hid bi
   have cj:=hid bX
   have cE:=hid aj
   have HQ:=hid bo
   have bg:=hid bk
   have cv:s<=4096:=by have:=bF.out;omega
   have cG:q<=4096:=by have:=bF.out;omega
   clear a2 ah aj bi aC b7 b4 bo aV bX b2 bc bK av aM bk Ha
   go_wp2_with fail
   refine aw.mono ?_
   rintro e w3 ⟨vp,Gp,rfl,bV,aQ,aL,bY⟩
   obtain ⟨Ak,ck,rfl,aE,aG,aD⟩:=aK.open_map
   have hkl:(ks.take i).length=i:=by rw [zI,bu.out];omega
   rw [hkl] at aK ab
   obtain ⟨kd,aJ⟩:=zX (ks.take i)
   rw [<-aJ] at aK hkl
   have cd:=hid aJ
   clear aJ
   have bH:bp∉[b]:=by simp;omega
   have a7:=aK.lt
   have a8:=aF.lt
   have ac:=ab.chg aL bH
   have aq:=aa.chg aL (by simp;omega)
   have bC:=aK.chg aL (fun x hx hm=>by have:=(ak.out x hx).1;simp at hm;omega)
   have a9:=aF.chg aL (fun x hx hm=>by have:=al.out x hx;simp at hm;omega)
   have p1:=(Blk.alloc ac (.cells #[.int .i64 k] 3)).cell 1
   simp at p1
   have cl:=ac.cell 1
   simp at cl
   have bN:=hid a9
   have a5:=hid ac
   have aN:=hid aq
   have bJ:=hid aQ
   have cC:=hid bV
   have ae:=hid aL
   have b6:=hid bY
   have bj:=hid a7
   have bz:=hid a8
   have an:=hid ab.lt
   clear aF a9 ab ac aa aq bq aQ bV aL bY aw aD aE aG a7 a8 au
   go_wp2_with (at_builtin;refine wpList_append_o1 rfl rfl int_elem rfl rfl (bC.alloc _) (.int .i64 k) rfl ?c1 ?c2 ?c3 ?c4 ?_)
   case c1=>simp [go_sem]
   case c2=>rfl
   case c3=>rw [zE,hkl];omega
   case c4=>rw [zE,hkl];omega
   intro g2 ai w4 b1 ag
   have cm:(w3.alloc (.cells #[.int .i64 k] 3)).heap.size=w3.heap.size+1:=by simp
   have af:=(a5.out.alloc (.cells #[.int .i64 k] 3)).chg ag.chg (fun hm=>by have:=(ak.out _ hm).1;omega)
   have d1:=af.cell 1
   have z1:=af.frozen 1
   simp at d1
   have ca:g2≠bp:=fun he=>by
    rcases ag.new g2 (by simp) with h9 | h9
    ·have:=(ak.out _ h9).1;omega
    ·have:=ae.out.size;have:=an.out;omega
   have ad:Chg [bp] w4 (w4.setCell ⟨bp,1,none⟩ (.slice (some ⟨g2,0,none⟩) (i+1) ai)):=(zR [bp] w4).setCell (.inl (by simp)) _
   have bE:=((((cC.out.alloc (.cells #[.int .i64 k] 3))).chg ag.chg (fun x hx hm=>by have:=b6.out x hx;have:=bj.out x hm;omega))).chg ad (fun x hx hm=>by simp at hm;have:=b6.out x hx;have:=an.out;omega)
   have bh:=(((bN.out.alloc (.cells #[.int .i64 k] 3))).chg ag.chg (fun x hx hm=>(ak.out x hm).2 hx)).chg ad (fun x hx hm=>by simp at hm;have:=al.out x hx;omega)
   obtain ⟨Ap,cp,rfl,bs,cf,bA,_⟩:=bE.open_
   rw [zE,bg.out] at bs ⊢
   go_wp2_with (at_builtin;refine wpList_append_s rfl rfl int_elem rfl rfl bh (part.map vi) s rfl ?c1 bA ?c2 ?c3 ?c4 ?_)
   case c1=>rw [zE,bg.out]
   case c2=>intro u hu;obtain ⟨y,_,rfl⟩ := List.mem_map.1 hu;rfl
   case c3=>rw [zE,zE,bg.out,zI];omega
   case c4=>rw [zE,zE,bg.out,zI];omega
   intro v' F' w6 aX aI
   go_wp2_with fail
   go_roundg j
   case measure=>omega
   case rel =>
    have h5:=af.set_ 1 (.slice (some ⟨g2,0,none⟩) (i+1) ai)
    have bx:∀ x,x∈Go->x<w3.heap.size:=fun x hx=>by have:=bz.out x hx;have:=ae.out.size;omega
    have ar:g2∉Go:=fun hm=>by
     rcases ag.new g2 (by simp) with h9 | h9
     ·exact (ak.out _ h9).2 hm
     ·have:=bx _ hm;omega
    have aZ:bp<g2:=by
     rcases ag.new g2 (by simp) with h9 | h9
     ·exact (ak.out _ h9).1
     ·have:=ae.out.size;have:=an.out;omega
    have cv:w3.heap.size<=w4.heap.size:=by have:=ag.size;omega
    have bZ:(w4.setCell ⟨bp,1,none⟩ (.slice (some ⟨g2,0,none⟩) (i+1) ai)).heap.size=w4.heap.size:=by simp
    have bT:bp<w3.heap.size:=by have:=ae.out.size;have:=an.out;omega
    have h6:=Blk.chg h5 aI.chg (fun hm=>by have:=al.out _ hm;omega)
    have h7:=((((aN.out.alloc (.cells #[.int .i64 k] 3)).chg ag.chg (fun hm=>by have:=(ak.out _ hm).1;omega)).chg ad (by simp;omega)).chg aI.chg (fun hm=>by have:=al.out _ hm;omega))
    have h8:=((b1.toOwn.chg ad (fun x hx hm=>by simp at hx hm;omega)).chg aI.chg (fun x hx hm=>by simp at hx;exact ar (hx ▸ hm)))
    have h9:=((((bJ.out.same ((zR [] w3).alloc (.cells #[.int .i64 k] 3))).chg ag.chg (fun x hx hm=>by have:=aB.out x hx;have:=(ak.out _ hm).1;omega)).chg ad (fun x hx hm=>by simp at hm;have:=aB.out x hx;omega)).chg aI.chg (fun x hx hm=>by have:=aB.out x hx;have:=al.out _ hm;omega))
    refine ⟨i+1,p'+(partBits k part).length,.slice (some ⟨g2,0,none⟩) (i+1) ai,[g2],F',by go_num,by omega,by simpa using h6,h7,?_,?_,h9,cn,hid ?_,hid ?_,hid ?_,hid ?_⟩
    ·rw [cr.out,<-cd.out,zM]
     exact h8
    ·rw [cE.out,cj.out,zM,List.map_take]
     exact aX
    ·have e1:=Hp.out
     rw [ct.out,zC] at e1
     omega
    ·refine (((((bO.out.trans ae.out (by simp)).alloc (.cells #[.int .i64 k] 3)).trans ag.chg ?_).trans ad (by simp)).trans aI.chg ?_)
     ·intro x hx
      right
      have:=(ak.out x hx).1
      have:=bn.out
      omega
     ·intro x hx
      right
      have:=al.out x hx
      have:=bn.out
      omega
    ·intro x hx
     simp at hx
     subst hx
     refine ⟨aZ,aI.out ?_ ar⟩
     rw [bZ]
     exact b1.lt
    ·intro x hx
     rcases aI.new x hx with h | h
     ·exact al.out x h
     ·rw [bZ] at h;omega
end Go.Proofs.YtepjepkgcdfboaaGreatDoor
