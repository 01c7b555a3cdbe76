/- parts.Best by its contract. -/
import Derived.Test.YtklocammllljiaaGreatDoorMg20
import Derived.Deep.RegionLaw
import Derived.Test.YtklocammllljiaaGreatDoorMg33
set_option linter.unusedVariables false
set_option linter.unusedSimpArgs false
set_option maxHeartbeats 4000000
set_option maxRecDepth 100000
namespace Go.Proofs.YtklocammllljiaaGreatDoor
open Go.RowKit
theorem planOf_len (o n warm:Nat) (l:List Int):(planOf o n warm l).length=(sizesL o n warm).length:=by unfold planOf;rw [zE,splitL_len]
theorem planOf_ok (o n warm:Nat) (l:List Int):KsOk (planOf o n warm l):=by
 intro k hk
 obtain ⟨p,_,rfl⟩:=List.mem_map.1 hk
 exact chooseK_ok p
theorem pbest_ok (n warm most:Nat) (l:List Int) (Al:Option Addr) (capl:Nat) (w:World) (h1:1<=n) (h2:n<=4096) (h3:warm<=n) (hm:most<=8) (hll:l.length=n-warm) (hw:∀ x∈l,wideP x) (hcl:Cells vi w Al l) (hcap1:l.length<=capl) (hcap2:capl<=9223372036854775807) :
  Calls Tryz.prog 172 #[.int .i64 n,.int .i64 warm,.int .i64 most,.slice Al l.length capl] w fun e w'=>∃ v G,e=.returned (.tuple #[.agg #[.int .i64 (bestPlan n warm most l).order,v],.int .i64 0])/\Own w' 3 v G ((bestPlan n warm most l).ks.map i64)/\Chg [] w w'/\∀ x∈G,w.heap.size<=x:=by
 obtain ⟨L,hL⟩:=zX (l.length)
 have ag:=fun w hc=>right_yes n warm l Al capl w h1 h2 h3 hll hw hc
 have au:=fun o (ho:o<=8) w=>sizes_ok o n warm w ho h1 h2 h3
 have aa:=fun o (ho:o<=8) (hne:sizesL o n warm≠[]) A cap w hc hcl=>pcost_ok o n warm (planOf o n warm l) A cap l Al capl w ho h1 h2 h3 hne (planOf_len o n warm l) (planOf_ok o n warm l) hc hll hw hcl hcap1 hcap2
 rw [<-hL] at ag aa hll hcap1 ⊢
 have aI:=hid ag
 have aK:=hid au
 have bc:=hid aa
 have HW:=hid hw
 have HL:=hid hL
 have b9:=hid hll
 have cb:L<=4096:=by omega
 have b1:max (most:Int) 0=(most:Int):=by omega
 have cu:min (most:Int) 8=(most:Int):=by omega
 have aX:bestPlan n warm most l=plans n warm l (most+1):=by unfold bestPlan;rw [Nat.min_eq_left hm]
 have b6:=hid aX
 clear ag au aa hw hL hll aX
 go_enter Tryz.func172,Tryz.ntmps172
 go_wp2_with fail
 have bO:Chg [] w (w.alloc (.cells #[.int .i64 0,.slice none 0 0] 198)):=(zR [] w).alloc _
 refine (aI.out _ (hcl.same bO)).mono ?_
 rintro e cy ⟨rfl,rfl⟩
 go_wp2_with fail
 have ax:=(Blk.new (w.alloc (.cells #[.int .i64 0,.slice none 0 0] 198)) 198 #[.int .i64 0,.slice none 0 0])
 have bi:=(Blk.new w 198 #[.int .i64 0,.slice none 0 0]).alloc (.cells #[.int .i64 0,.slice none 0 0] 198)
 have bl:Chg [] w ((w.alloc (.cells #[.int .i64 0,.slice none 0 0] 198)).alloc (.cells #[.int .i64 0,.slice none 0 0] 198)):=((zR [] w).alloc _).alloc _
 have aQ:w.heap.size≠w.heap.size+1:=by omega
 have bd:(w.alloc (.cells #[.int .i64 0,.slice none 0 0] 198)).heap.size=w.heap.size+1:=by simp
 rw [bd] at ax
 generalize hwA:(w.alloc (.cells #[.int .i64 0,.slice none 0 0] 198)).alloc (.cells #[.int .i64 0,.slice none 0 0] 198)=wA at *
 obtain ⟨br,aS⟩:=zX (w.heap.size)
 obtain ⟨bb,aP⟩:=zX (w.heap.size+1)
 rw [<-aP] at aQ ax ⊢
 rw [<-aS] at aQ bi ⊢
 have ce:=ax.lt
 have cd:=hid aS
 have bX:=hid aP
 have cv:=hcl.same bl
 have cH:=hid hwA
 have bq:=hid hcl
 clear bd hwA aS aP bO hcl
 go_loopg [11,12] (most+1) (fun j lv ov wr=>j<=most+1/\ov=.int .i64 ((most+1-j:Nat):Int)/\∃ so an sc v G,lv=.int .i64 ((sc:Nat):Int)/\Hid (plans n warm l (most+1-j)=⟨so,an,sc⟩) /\
   Blk wr bb 198 #[.int .i64 ((so:Nat):Int),v]/\Own wr 3 v G (an.map i64)/\Chg [bb] wA wr/\∀ x∈G,wA.heap.size<=x)
 case atStart=>exact ⟨zQ _,by simp,0,[],0,.slice none 0 0,[],rfl,hid (by simp [plans]),ax,Own.nil _ _,zR _ _,by simp⟩
 case round =>
  obtain ⟨hj,rfl,so,an,sc,v,G,rfl,bx,ay,aj,ao,hG⟩:=hrel
  have HG:=hid hG
  obtain ⟨Av,am,rfl,-,-,-⟩:=aj.open_map
  clear hG ax
  rcases gk with _ | j
  ·have t4:decide ((most:Int)+1<=(most:Int))=false:=zA (by omega)
   have av:=bi.chg ao (by simpa using aQ)
   have cj:=ay.cell 0
   have cl:=ay.cell 1
   have cp:=av.cell 0
   have co:=av.cell 1
   have cG:=av.frozen 0
   have cI:=av.frozen 1
   simp at cj cl cp co
   go_wp2_with fail
   have hF:=(av.set_ 0 (.int .i64 so)).set_ 1 (.slice Av an.length am)
   have bZ:=(aj.far (p:=⟨br,0,none⟩) (fun hm=>by have h7:=HG.out _ hm;have h8:=bi.lt;simp at h7;omega) (.int .i64 so)).far (p:=⟨br,1,none⟩) (fun hm=>by have h7:=HG.out _ hm;have h8:=bi.lt;simp at h7;omega) (.slice Av an.length am)
   have ck:Chg [bb,br] wA ((wr.setCell ⟨br,0,none⟩ (.int .i64 so)).setCell ⟨br,1,none⟩ (.slice Av an.length am)):=((ao.mono (by simp)).setCell (by simp) _).setCell (by simp) _
   generalize hwF:(wr.setCell ⟨br,0,none⟩ (.int .i64 so)).setCell ⟨br,1,none⟩ (.slice Av an.length am)=wF at *
   have bR:=hF.cell 0
   have bV:=hF.cell 1
   simp at bR bV
   have e1:bestPlan n warm most l=⟨so,an,sc⟩:=by rw [b6.out,<-bx.out];rfl
   refine bodyPost_ret (v:=.tuple #[.agg #[.int .i64 so,.slice Av an.length am],.int .i64 0]) (by simp [results,Tryz.results172,go_sem,bR,bV]) rfl ⟨.slice Av an.length am,G,?_,?_,?_,?_⟩
   ·rw [e1]
   ·rw [e1];exact bZ
   ·refine bl.trans ck ?_
    intro x hx
    right
    have:=cd.out
    have:=bX.out
    simp at hx
    omega
   ·intro x hx
    have:=HG.out x hx
    have:=bl.size
    omega
  ·obtain ⟨i,bJ⟩:=zX (most+1-(j+1))
   rw [<-bJ] at bx ⊢
   have cn:i<=most:=by omega
   have bP:most+1-j=i+1:=by omega
   have HI:=hid bP
   have t4:decide (i<=most)=true:=zB cn
   clear bJ bP
   have ab:=plans_succ n warm l i
   rw [bx.out] at ab
   have bv:i<=8:=by omega
   go_wp2_with fail
   refine (aK.out i bv _).mono ?_
   rintro e w2 ⟨v2,G2,rfl,al,aG,cC⟩
   obtain ⟨A2,aB,rfl,aA,bB,-⟩:=al.open_map
   by_cases hne:sizesL i n warm=[]
   ·have aW:plans n warm l (i+1)=⟨so,an,sc⟩:=by rw [ab,planStep,if_pos hne]
    have bf:=hid aW
    rw [hne] at al aA ⊢
    clear hne ab aW
    simp only [List.length_nil]
    go_wp2_with fail
    go_roundg j
    case measure=>omega
    case rel =>
     rw [HI.out]
     exact ⟨by omega,by go_num,so,an,sc,_,G,rfl,bf,ay.chg aG (by simp),aj.same aG,ao.trans_same (aG.mono (by simp)),HG.out⟩
   ·have hN:=sizesL_len hne
    have aN:=sizesL_sum hne
    obtain ⟨ss,aZ⟩:=zX (sizesL i n warm)
    have bC:2^i<=256:=Nat.pow_le_pow_right (n:=2) (j:=8) (by decide) bv
    have bD:=Nat.two_pow_pos i
    rw [<-hN] at bD bC
    have aJ:=bc.out i bv hne
    rw [planStep,if_neg hne] at ab
    rw [<-aZ] at hN aN al aA bD bC ab aJ ⊢
    have aY:planOf i n warm l=(splitL ss l).map chooseK:=by unfold planOf;rw [<-aZ]
    have aw:=planOf_len i n warm l
    rw [<-aZ] at aw
    obtain ⟨N,bz⟩:=zX (ss.length)
    rw [<-bz] at bD bC aA aw ⊢
    have t5:((N:Int)==0)=false:=by rw [beq_eq_false_iff_ne];omega
    have HN:=hid bz
    have a5:=hid ab
    have bs:=hid aJ
    have bA:=hid aY
    have a2:=hid aw
    have cD:=hid aZ
    have bn:=hid aN
    clear hN aN aZ ab aJ aY aw bz hne
    go_wp2_with fail
    have aX:=Blk.new w2 198 #[.int .i64 i,.slice none 0 0]
    have ah:Chg [bb] wA w2:=ao.trans_same (aG.mono (by simp))
    have cc:Cells i64 w2 A2 ss:=by have:=al.cells;exact this
    have a7:=bq.out.same (bl.trans ah (by
     intro x hx
     right
     have:=bX.out
     simp at hx
     omega))
    obtain ⟨bp,aF⟩:=zX (w2.heap.size)
    rw [<-aF] at aX ⊢
    have aH:=hid aF
    have b7:Hid (L<=capl):=hid hcap1
    have bw:=hid hcap2
    have bW:Chg [] w2 (w2.alloc (.cells #[.int .i64 i,.slice none 0 0] 198)):=(zR [] w2).alloc _
    clear aF hcap1 hcap2 aA bB
    go_loopg [15,44] N (fun q rv iv wx=>q<=N/\iv=.int .i64 ((N-q:Nat):Int)/\∃ A' c' rest v G ks,rv=.slice A' rest.length c'/\Hid (rest=l.drop (startOf ss (N-q)))/\Cells vi w2 A' rest/\rest.length<=c'/\c'<=9223372036854775807/\rest.length<=4096 /\
     Blk wx bp 198 #[.int .i64 i,v]/\Own wx 3 v G (ks.map i64)/\Hid (ks=((splitL ss l).map chooseK).take (N-q))/\Chg [] w2 wx/\∀ x∈G,w2.heap.size<x)
    case atStart =>
     refine ⟨zQ _,by simp,Al,capl,l,.slice none 0 0,[],[],?_,hid (by simp [startOf]),a7,?_,bw.out,?_,aX,Own.nil _ _,hid (by simp),bW,by simp⟩
     ·rw [<-HL.out]
     ·rw [<-HL.out];exact b7.out
     ·rw [<-HL.out];exact cb
    case round =>
     obtain ⟨hq,rfl,A',c',rest,vp,Gp,ks,rfl,ak,bu,b5,cE,cB,ad,af,aU,ap,bS⟩:=hrel
     have az:=hid bS
     clear bS aX bW
     obtain ⟨Ap,ae,rfl,-,-,-⟩:=af.open_map
     rcases gk with _ | q
     ·have t7:decide (((N-0:Nat):Int)<(N:Int))=false:=by simp
      have bm:=ad.cell 0
      have bg:=ad.cell 1
      simp at bm bg
      have e2:((splitL ss l).map chooseK).take (N-0)=(splitL ss l).map chooseK:=by rw [Nat.sub_zero,HN.out,<-splitL_len ss l,<-zE (f:=chooseK),zN]
      have aM:ks.length=N:=by rw [aU.out,e2,<-bA.out,a2.out,HN.out]
      have a4:Cells i64 wr Ap (planOf i n warm l):=by
       have h9:=af.cells
       rw [aU.out,e2,<-bA.out] at h9
       exact h9
      have aa:=bs.out Ap ae wr a4 (a7.same ap)
      have e3:(planOf i n warm l).length=N:=by rw [a2.out,HN.out]
      rw [e3] at aa
      obtain ⟨CC,bh⟩:=zX (costP (planOf i n warm l) (splitL ss l))
      rw [<-bh] at aa
      have aW:=a5.out
      rw [<-bh] at aW
      have bf:=hid aW
      have cJ:=hid bh
      have b3:=hid aM
      rw [aM] at bg ad af
      have ba:Hid (ks=planOf i n warm l):=hid (by rw [aU.out,e2,bA.out])
      clear e2 e3 bh aW aM a4
      go_wp2_with fail
      refine aa.mono ?_
      rintro e w4 ⟨rfl,bo⟩
      have aT:Chg [] w2 w4:=ap.trans_same bo
      have a6:=ad.chg bo (by simp)
      have aC:=af.same bo
      have ai:=ay.chg (aG.trans_same aT) (by simp)
      have aE:=aj.same (aG.trans_same aT)
      have aR:Chg [bb] wA w4:=ao.trans_same ((aG.trans_same aT).mono (by simp))
      have bm:=a6.cell 0
      have bg:=a6.cell 1
      have cs:=ai.cell 0
      have bY:=ai.cell 1
      have cz:=ai.frozen 0
      have cx:=ai.frozen 1
      simp at bm bg cs bY
      clear aa
      by_cases hc0:sc=0
      ·have t8:((sc:Int)==0)=true:=by rw [beq_iff_eq];omega
       have ac:=bf.out
       rw [if_pos (.inl hc0)] at ac
       have ar:=hid ac
       clear ac hc0
       go_wp2_with fail
       go_roundg j
       case measure=>omega
       case rel =>
        rw [HI.out]
        have h1:=(ai.set_ 0 (.int .i64 i)).set_ 1 (.slice Ap N ae)
        have h2:=(aC.far (p:=⟨bb,0,none⟩) (fun hm=>by have h7:=az.out _ hm;have h8:=ah.size;simp at h7;omega) (.int .i64 i)).far (p:=⟨bb,1,none⟩) (fun hm=>by have h7:=az.out _ hm;have h8:=ah.size;simp at h7;omega) (.slice Ap N ae)
        rw [ba.out] at h2
        refine ⟨by omega,by go_num,i,planOf i n warm l,CC,.slice Ap N ae,Gp,rfl,ar,by simpa using h1,h2,(aR.setCell (by simp) _).setCell (by simp) _,fun x hx => ?_⟩
        have h7:=az.out x hx
        have h8:=ah.size
        omega
      ·have t8:((sc:Int)==0)=false:=by rw [beq_eq_false_iff_ne];omega
       by_cases hc1:CC<sc
       ·have t9:decide (CC<sc)=true:=by simpa using hc1
        have ac:=bf.out
        rw [if_pos (.inr hc1)] at ac
        have ar:=hid ac
        clear ac hc0
        go_wp2_with fail
        go_roundg j
        case measure=>omega
        case rel =>
         rw [HI.out]
         have h1:=(ai.set_ 0 (.int .i64 i)).set_ 1 (.slice Ap N ae)
         have h2:=(aC.far (p:=⟨bb,0,none⟩) (fun hm=>by have h7:=az.out _ hm;have h8:=ah.size;simp at h7;omega) (.int .i64 i)).far (p:=⟨bb,1,none⟩) (fun hm=>by have h7:=az.out _ hm;have h8:=ah.size;simp at h7;omega) (.slice Ap N ae)
         rw [ba.out] at h2
         refine ⟨by omega,by go_num,i,planOf i n warm l,CC,.slice Ap N ae,Gp,rfl,ar,by simpa using h1,h2,(aR.setCell (by simp) _).setCell (by simp) _,fun x hx => ?_⟩
         have h7:=az.out x hx
         have h8:=ah.size
         omega
       ·have t9:decide (CC<sc)=false:=by simpa using hc1
        have ac:=bf.out
        rw [if_neg (by rintro (h | h);exact hc0 h;exact hc1 h)] at ac
        have ar:=hid ac
        clear ac hc0
        go_wp2_with fail
        go_roundg j
        case measure=>omega
        case rel =>
         rw [HI.out]
         exact ⟨by omega,by go_num,so,an,sc,_,G,rfl,ar,ai,aE,aR,HG.out⟩
     ·obtain ⟨m,bE⟩:=zX (N-(q+1))
      rw [<-bE] at ak aU ⊢
      have ci:m<N:=by omega
      have bQ:N-q=m+1:=by omega
      have HM:=hid bQ
      have aV:m<ss.length:=by rw [<-HN.out];exact ci
      obtain ⟨cF,cw,rfl,aL⟩:=(cc.same ap).i64_at aV
      have aD:=splitL_get ss l m aV
      have a0:=startOf_fit ss m aV
      have bj:=drop_startOf l ss m aV
      rw [<-ak.out] at aD bj
      have bF:m<((splitL ss l).map chooseK).length:=by rw [zE,splitL_len];exact aV
      have a8:=take_snoc' ((splitL ss l).map chooseK) bF
      have bN:((splitL ss l).map chooseK)[m]=chooseK (rest.take ss[m]):=by
       have h9:((splitL ss l).map chooseK)[m]?=some (chooseK (rest.take ss[m])):=by rw [zW,aD];rfl
       exact (List.getElem?_eq_some_iff.1 h9).2
      rw [bN,<-aU.out] at a8
      obtain ⟨s,hs⟩:=zX (ss[m])
      rw [<-hs] at aL a0 bj a8
      have cr:s<=rest.length:=by
       have:=bn.out
       have:=b9.out
       have:=HL.out
       rw [ak.out,zO]
       omega
      have bH:∀ x∈rest.take s,wideP x:=fun x hx=>HW.out x (by
       have:=List.mem_of_mem_take hx
       rw [ak.out] at this
       exact List.mem_of_mem_drop this)
      have aY:(rest.take s).length=s:=by rw [zI];omega
      have cq:=(bu.take s).same ap
      have aO:=choose_ok (rest.take s) A' c' wr.drew bH (cq.same (zR [] wr).drew) (by omega)
      rw [aY] at aO
      obtain ⟨A3,bG,-,a1⟩:=slice_from (P:=Tryz.prog) Tryz.underlying22 size_int A' rest.length c' s cr b5
      have be:=a1 Int vi w2 rest rfl bu
      have bK:Hid (rest.drop s=l.drop (startOf ss (m+1))):=hid bj
      have bT:rest.length-s=(rest.drop s).length:=by rw [zO]
      rw [bT] at bG
      have bM:(rest.drop s).length<=4096:=by rw [zO];omega
      have bU:(rest.drop s).length<=c'-s:=by rw [zO];omega
      obtain ⟨a9,aq⟩:=zX (rest.drop s)
      rw [<-aq] at bG bM bU be bK
      have cg:s<=c':=by omega
      obtain ⟨kc,bL⟩:=zX (chooseK (rest.take s))
      rw [<-bL] at aO a8
      have b4:=hid a8
      have cf:ks.length<=256:=by rw [aU.out,zI];omega
      have ca:=ad.cell 1
      have cA:=ad.frozen 1
      simp at ca
      clear a8 bN bF aD bj hs bH a1 a0 bT aq aV bE bQ bu aY bL
      have a3:bp∉Gp:=fun hm=>by have:=az.out _ hm;have:=aH.out;omega
      have bI:=ad.alloc (.cells #[.int .i64 kc] 3)
      have n1:(wr.alloc (Obj.cells #[.int .i64 kc] 3)).cell? ⟨bp,1,none⟩=some (.slice Ap ks.length ae):=by simpa using bI.cell 1
      clear bI
      go_wp2_with fail
      go_region_law (first | (refine step_append_o1 (by rfl) (by rfl) int_elem (by rfl) (by rfl) ((af.alloc (.cells #[.int .i64 kc] 3)).drew) (.int .i64 kc) (by rfl) (by simp [go_sem]) (by rfl) (by rw [zE];omega) (by rw [zE];omega) ?_;intro g2 aB w3 ct bk;have ax:Blk w3 bp 198 #[.int .i64 i,.slice Ap ks.length ae]:=((ad.alloc (.cells #[.int .i64 kc] 3)).drew).chg bk.chg a3;have y1:=ax.cell 1;have z1:=ax.frozen 1;simp at y1) | (go_simp;go_at_call 222;refine aO.mono ?_;rintro e w' ⟨rfl,rfl⟩))
      all_goals
       go_wp2_with fail
       go_roundg q
       case measure=>omega
       case rel =>
        rw [HM.out]
        have h1:=ax.set_ 1 (.slice (some ⟨g2,0,none⟩) (ks.length+1) aB)
        have b2:g2≠bp:=by
         intro he
         rcases bk.new g2 (by simp) with h9 | h9
         ·exact a3 (he ▸ h9)
         ·have h8:=ad.lt
          simp at h9
          omega
        have cm:=ct.far (p:=⟨bp,1,none⟩) b2 (.slice (some ⟨g2,0,none⟩) (ks.length+1) aB)
        have h2:=cm.toOwn
        have e5:(List.map i64 ks).length=ks.length:=zE _
        rw [e5] at h2
        have ch:Chg [] w2 w3:=((ap.alloc (.cells #[.int .i64 kc] 3)).drew).trans bk.chg (fun x hx => .inr (Nat.le_of_lt (az.out x hx)))
        refine ⟨by omega,by go_num,A3,_,a9,.slice (some ⟨g2,0,none⟩) (ks.length+1) aB,[g2],ks++[kc],rfl,bK,be,bU,by omega,bM,?_,?_,hid ?_,?_,?_⟩
        ·simpa using h1
        ·simpa [i64] using h2
        ·rw [b4.out]
        ·exact ch.setCell (.inr (by have:=aH.out;simp;omega)) _
        ·intro x hx
         have b0:x=g2:=by simpa using hx
         rcases bk.new x (by simp [b0]) with h9 | h9
         ·exact az.out _ h9
         ·have h8:=ad.lt
          have:=aH.out
          simp at h9
          omega
def tailP (ks:List Nat) (ps:List (List Int)) (i:Nat):List Nat:=((ks.zip ps).drop i).flatMap fun p=>partBits p.1 p.2
theorem tailP_split {ks:List Nat} {ps:List (List Int)} {i k:Nat} {q:List Int} (hk:ks[i]?=some k) (hq:ps[i]?=some q):tailP ks ps i=partBits k q++tailP ks ps (i+1):=by
 have ab:=(List.getElem?_eq_some_iff.1 hk).1
 have aa:=(List.getElem?_eq_some_iff.1 hq).1
 have hl:i<(ks.zip ps).length:=by rw [List.length_zip];omega
 have hz:(ks.zip ps)[i]=(k,q):=by
  rw [List.getElem_zip,(List.getElem?_eq_some_iff.1 hk).2,(List.getElem?_eq_some_iff.1 hq).2]
 unfold tailP
 rw [List.drop_eq_getElem_cons hl,List.flatMap_cons,hz]
theorem tailP_end {ks:List Nat} {ps:List (List Int)} {i:Nat} (h:ks.length<=i):tailP ks ps i=[]:=by
 unfold tailP
 rw [List.drop_of_length_le (by rw [List.length_zip];omega)]
 rfl
theorem bitsP_tail (o:Nat) (ks:List Nat) (ps:List (List Int)):bitsP o ks ps=bitsOf o 4++tailP ks ps 0:=rfl
theorem pget_ok (w:World) (b:Nat) (F ds:List Nat) (p o n warm:Nat) (ks:List Nat) (l:List Int) (h:IsRd w b F ds p) (ho:o<=8) (h1:1<=n) (h2:n<=4096) (h3:warm<=n) (hne:sizesL o n warm≠[]) (hkl:ks.length=(sizesL o n warm).length) (hks:KsOk ks)
  (hll:l.length=n-warm) (hw:∀ x∈l,wideP x) (ha:Ahead ds p (bitsP o ks (splitL (sizesL o n warm) l))) :
  Calls Tryz.prog 199 #[.pointer (some ⟨b,0,none⟩),.int .i64 n,.int .i64 warm] w fun e w'=>∃ (Ak:Option Addr) (nk ck:Nat) (v:Value) (G:List Nat),e=.returned (.tuple #[.agg #[.int .i64 o,.slice Ak nk ck],v,.int .i64 0])/\Own w' 3 v G (l.map vi)/\IsRd w' b F ds (p+(bitsP o ks (splitL (sizesL o n warm) l)).length)/\Chg [b] w w'/\∀ x∈G,w.heap.size<=x:=by
 have bl:=sizesL_sum hne
 have bd:=sizesL_len hne
 rw [bitsP_tail] at ha ⊢
 have bi:o<2^4:=by omega
 have cu:=fun w'=>prow_yes n warm w' h1 h2 h3
 have ba:=fun w' (hr:IsRd w' b F ds p)=>rget_ahead w' b F ds p 4 o hr (by omega) bi ha.left
 have aN:=fun w'=>sizes_ok o n warm w' ho h1 h2 h3
 have bb:=ha.right
 rw [bitsOf_len] at bb
 obtain ⟨ss,aX⟩:=zX (sizesL o n warm)
 rw [<-aX] at bl bd hkl aN bb hne ⊢
 rw [zC,bitsOf_len]
 have cG:=h.lt b h.mem
 have a0:ss.length<=256:=by rw [bd];exact Nat.pow_le_pow_right (n:=2) (j:=8) (by decide) ho
 have cz:1<=ss.length:=by rw [bd];exact Nat.two_pow_pos o
 obtain ⟨N,hN⟩:=zX (ss.length)
 rw [<-hN] at a0 cz hkl
 have bZ:=hid (bl.trans hll.symm)
 have b4:l.length<=4096:=by rw [hll];omega
 have HN:=hid hN
 have HW:=hid hw
 have ct:=hid hks
 have bo:=hid hkl
 have HA:=hid bb
 have cm:=hid h.lt
 have bk:=hid b4
 obtain ⟨br,bR⟩:=zX (w.heap.size)
 have aC:=hid bR
 have h':=h
 clear hN hw hks hkl bb ha bl bd aX hne hll b4 bR h1 h2 h3
 go_enter Tryz.func199,Tryz.ntmps199
 go_wp2_with (go_at_call 248;refine (cu _).mono ?_;rintro e w' ⟨rfl,rfl⟩)
 obtain ⟨w0,bc⟩:=zX (w.alloc (.cells #[.int .i64 0,.slice none 0 0] 198))
 have a1:Blk w0 br 198 #[.int .i64 0,.slice none 0 0]:=by rw [bc,aC.out];exact Blk.new w _ _
 have b1:Chg [] w w0:=by rw [bc];exact (zR [] w).alloc _
 rw [<-bc,<-aC.out]
 have ba:=ba w0 (h.same b1)
 clear bc h
 refine ba.mono ?_
 rintro e w1 ⟨rfl,a4,bT⟩
 have cj:b≠br:=by have:=aC.out;omega
 have aS:=a1.chg bT (by simpa using cj.symm)
 have aN:=aN w1
 have aO:Chg [b] w w1:=(b1.mono (by simp)).trans_same bT
 clear ba a1
 go_wp2_with (go_at_call 84;refine (err_ok _ b F ds _ a4).mono ?_;rintro e w' ⟨rfl,rfl⟩)
 refine aN.mono ?_
 rintro e w2 ⟨v2,G2,rfl,ak,bx,bW⟩
 obtain ⟨As,cs,rfl,cl,cg,bY⟩:=ak.open_map
 rw [<-HN.out]
 have t1:((N:Int)==0)=false:=by rw [beq_eq_false_iff_ne];omega
 have aI:Apt As ss [b,w2.heap.size]:=ak.apt (fun x hx hm=>by
  have h5:=bW x hx
  have h6:=ak.lt x hx
  have h7:=a4.lt b a4.mem
  simp at hm
  omega)
 have a9:=a4.same bx
 have aB:=Blk.chg aS bx (by simp)
 have ay:=aO.trans bx (by simp)
 clear ak aN a4 aS aO
 obtain ⟨bp,ar⟩:=zX (w2.heap.size)
 rw [<-ar] at aI
 have bH:=hid aI
 have bq:=hid ar
 clear aI
 have cH:br<bp:=by rw [ar];exact aB.lt
 have cx:b<bp:=by rw [ar];have:=a9.lt b a9.mem;exact this
 have au:Blk (w2.alloc (.cells #[.int .i64 o,.slice none 0 0] 198)) bp 198 #[.int .i64 o,.slice none 0 0]:=by rw [ar];exact Blk.new w2 _ _
 have ca:=a9.same ((zR [] w2).alloc (.cells #[.int .i64 o,.slice none 0 0] 198))
 have a6:=Blk.alloc aB (.cells #[.int .i64 o,.slice none 0 0] 198)
 have cw:=ay.alloc (.cells #[.int .i64 o,.slice none 0 0] 198)
 have bQ:Chg [] w2 (w2.alloc (.cells #[.int .i64 o,.slice none 0 0] 198)):=(zR [] w2).alloc _
 have aU:(w2.alloc (.cells #[.int .i64 o,.slice none 0 0] 198)).heap.size=bp+1:=by rw [ar];simp
 have aV:∀ x∈F,x<bp:=fun x hx=>by rw [ar];exact a9.lt x hx
 have aA:=hid aV
 have cf:=hid aU
 have cC:=hid bY
 have a5:=hid ay
 clear ar a9 aB ay aU aV bY bW
 go_wp2_with fail
 rw [<-bq.out]
 go_loopg [12,14,15,16,17,44] N (fun j vo va vb vc vd iv wr=>∃ (i p':Nat) (vk:Value) (Gk Go:List Nat),iv=.int .i64 i/\i+j=N/\Blk wr bp 198 #[.int .i64 o,vk]/\Blk wr br 198 #[.int .i64 0,.slice none 0 0]/\Own wr 3 vk Gk ((ks.take i).map i64)/\Own wr 3 vo Go ((l.take (startOf ss i)).map vi)/\IsRd wr b F ds p'/\Hid (Ahead ds p' (tailP ks (splitL ss l) i))/\Hid (p'+(tailP ks (splitL ss l) i).length=p+4+(tailP ks (splitL ss l) 0).length)/\Hid (Chg [b,bp] w2 wr)/\Hid (∀ x∈Gk,bp<x/\x∉Go)/\Hid (∀ x∈Go,bp<x))
 case atStart =>
  exact ⟨0,p+4,.slice none 0 0,[],[],rfl,by omega,au,a6,Own.nil _ _,by simpa [startOf] using Own.nil _ _,ca,HA,hid rfl,hid (bQ.mono (by simp)),hid (by simp),hid (by simp)⟩
 case round =>
  clear au ca a6 bQ
  obtain ⟨i,p',vk,Gk,Go,rfl,cF,ab,aa,aw,aK,bI,Ha,Hp,bN,am,aj⟩:=hrel
  rcases gk with _ | j
  ·obtain rfl:N=i:=by omega
   have t2:decide (N<N)=false:=by simp
   obtain ⟨Ak,ck,rfl,ax,aJ,aD⟩:=aw.open_map
   obtain ⟨Ao,co,rfl,bB,bj,bn⟩:=aK.open_map
   obtain ⟨kk,av⟩:=zX ((ks.take N).length)
   rw [<-av] at ab
   have p0:=ab.cell 0
   have p1:=ab.cell 1
   have q0:=aa.cell 0
   have q1:=aa.cell 1
   have z0:=aa.frozen 0
   have z1:=aa.frozen 1
   simp at p0 p1 q0 q1
   have b5:startOf ss N=l.length:=by unfold startOf;rw [HN.out,zN];exact bZ.out
   rw [b5,zN] at aK ⊢
   have hp:=Hp.out
   rw [tailP_end (by rw [bo.out];exact zQ _)] at hp
   have b0:p'=p+(4+(tailP ks (splitL ss l) 0).length):=by
    rw [List.length_nil] at hp
    omega
   have HP:=hid b0
   have cq:bp≠br:=by omega
   obtain ⟨wF,bf⟩:=zX ((wr.setCell ⟨br,0,none⟩ (.int .i64 o)).setCell ⟨br,1,none⟩ (.slice Ak kk ck))
   have aG:Chg [br] wr wF:=by rw [bf];exact ((zR [br] wr).setCell (.inl (by simp)) _).setCell (.inl (by simp)) _
   have bD:Blk wF br 198 #[.int .i64 o,.slice Ak kk ck]:=by
    rw [bf]
    simpa using (aa.set_ 0 (.int .i64 o)).set_ 1 (.slice Ak kk ck)
   have f0:=bD.cell 0
   have f1:=bD.cell 1
   simp at f0 f1
   have cB:=hid bf
   clear b5 hp b0 ax aJ aD bB bj bn aw Ha Hp av bf bD
   go_wp2_with fail
   rw [<-cB.out]
   refine bodyPost_ret (v:=.tuple #[.agg #[.int .i64 o,.slice Ak kk ck],.slice Ao l.length co,.int .i64 0]) (by simp [results,Tryz.results199,go_sem,f0,f1]) rfl ?_
   have aR:br∉Go:=fun hm=>by have:=aj.out _ hm;omega
   have bG:br∉F:=fun hm=>by have:=cm.out _ hm;have:=aC.out;omega
   refine ⟨Ak,kk,ck,_,Go,rfl,aK.chg aG (fun x hx hm=>by simp at hm;exact aR (hm ▸ hx)),(bI.cast HP.out).chg aG (fun x hx hm=>by simp at hm;exact bG (hm ▸ hx)),?_,fun x hx=>by have:=aj.out x hx;have:=aC.out;omega⟩
   refine (a5.out.trans bN.out ?_).trans aG ?_
   ·intro x hx
    simp at hx
    rcases hx with hx | hx
    ·left;simp [hx]
    ·right;have:=aC.out;omega
   ·intro x hx
    simp at hx
    right
    have:=aC.out
    omega
  ·have bE:i<N:=by omega
   have t2:decide (i<N)=true:=zB bE
   have aW:i<ss.length:=by rw [<-HN.out];exact bE
   obtain ⟨gs,os,rfl,ap⟩:=(cC.out.keep bH.out bN.out).i64_at aW
   have av:i<ks.length:=by rw [bo.out];exact bE
   have aM:=splitL_get ss l i aW
   have ai:=startOf_fit ss i aW
   have ah:=startOf_succ ss i aW
   rw [bZ.out] at ai
   have bK:=take_snoc' ks av
   have aF:=tailP_split (ks:=ks) (zF av) aM
   have bm:=ct.out ks[i] (zG av)
   obtain ⟨k,b9⟩:=zX (ks[i])
   obtain ⟨s,cb⟩:=zX (ss[i])
   obtain ⟨q,bw⟩:=zX (startOf ss i)
   rw [<-cb] at ap aF ai ah
   rw [<-bw] at aF ai ah aK
   rw [<-b9] at bK aF bm
   obtain ⟨part,aP⟩:=zX ((l.drop q).take s)
   have bh:part.length=s:=by rw [aP,zI,zO];omega
   have bS:l.take (q+s)=l.take q++part:=by rw [aP,List.take_add]
   have b7:∀ x∈part,wideP x:=fun x hx=>HW.out x (List.mem_of_mem_drop (List.mem_of_mem_take (aP ▸ hx)))
   rw [<-aP] at aF
   have bg:=Ha.out
   rw [aF] at bg
   have az:=pone_ok wr b F ds p' k part bI bm b7 (by have:=bk.out;omega) bg.left
   rw [bh] at az
   have ch:=hid bg.right
   have cA:k<32:=by omega
   have cd:=hid aF
   have ce:=hid bK
   have cD:=hid bS
   have cc:=hid ah
   have HQ:=hid bw
   have be:=hid bh
   have cn:s<=4096:=by have:=bk.out;omega
   have cI:q<=4096:=by have:=bk.out;omega
   clear aM ai ah bK aF b9 cb bw aP bS b7 bg bm av aW bh Ha
   go_wp2_with fail
   refine az.mono ?_
   rintro e w3 ⟨vp,Gp,rfl,b3,a3,aL,b6⟩
   obtain ⟨Ak,ck,rfl,ax,aJ,aD⟩:=aw.open_map
   have hkl:(ks.take i).length=i:=by rw [zI,bo.out];omega
   rw [hkl] at aw ab
   obtain ⟨kd,aE⟩:=zX (ks.take i)
   rw [<-aE] at aw hkl
   have cE:=hid aE
   clear aE
   have bL:bp∉[b]:=by simp;omega
   have aQ:=aw.lt
   have a2:=aK.lt
   have ac:=ab.chg aL bL
   have aq:=aa.chg aL (by simp;omega)
   have bM:=aw.chg aL (fun x hx hm=>by have:=(am.out x hx).1;simp at hm;omega)
   have aT:=aK.chg aL (fun x hx hm=>by have:=aj.out x hx;simp at hm;omega)
   have p1:=(Blk.alloc ac (.cells #[.int .i64 k] 3)).cell 1
   simp at p1
   have cy:=ac.cell 1
   simp at cy
   have bA:=hid aT
   have aZ:=hid ac
   have a7:=hid aq
   have bs:=hid a3
   have ci:=hid b3
   have af:=hid aL
   have b2:=hid b6
   have bF:=hid aQ
   have bv:=hid a2
   have al:=hid ab.lt
   clear aK aT ab ac aa aq bI a3 b3 aL b6 az aD ax aJ aQ a2 ap
   go_wp2_with (at_builtin;refine wpList_append_o1 rfl rfl int_elem rfl rfl (bM.alloc _) (.int .i64 k) rfl ?c1 ?c2 ?c3 ?c4 ?_)
   case c1=>simp [go_sem]
   case c2=>rfl
   case c3=>rw [zE,hkl];omega
   case c4=>rw [zE,hkl];omega
   intro g2 an w4 bU ag
   have cr:(w3.alloc (.cells #[.int .i64 k] 3)).heap.size=w3.heap.size+1:=by simp
   have ae:=(aZ.out.alloc (.cells #[.int .i64 k] 3)).chg ag.chg (fun hm=>by have:=(am.out _ hm).1;omega)
   have d1:=ae.cell 1
   have z1:=ae.frozen 1
   simp at d1
   have bP:g2≠bp:=fun he=>by
    rcases ag.new g2 (by simp) with h9 | h9
    ·have:=(am.out _ h9).1;omega
    ·have:=af.out.size;have:=al.out;omega
   have ad:Chg [bp] w4 (w4.setCell ⟨bp,1,none⟩ (.slice (some ⟨g2,0,none⟩) (i+1) an)):=(zR [bp] w4).setCell (.inl (by simp)) _
   have bC:=((((ci.out.alloc (.cells #[.int .i64 k] 3))).chg ag.chg (fun x hx hm=>by have:=b2.out x hx;have:=bF.out x hm;omega))).chg ad (fun x hx hm=>by simp at hm;have:=b2.out x hx;have:=al.out;omega)
   have bJ:=(((bA.out.alloc (.cells #[.int .i64 k] 3))).chg ag.chg (fun x hx hm=>(am.out x hm).2 hx)).chg ad (fun x hx hm=>by simp at hm;have:=aj.out x hx;omega)
   obtain ⟨Ap,cp,rfl,bz,cv,bu,_⟩:=bC.open_
   rw [zE,be.out] at bz ⊢
   go_wp2_with (at_builtin;refine wpList_append_s rfl rfl int_elem rfl rfl bJ (part.map vi) s rfl ?c1 bu ?c2 ?c3 ?c4 ?_)
   case c1=>rw [zE,be.out]
   case c2=>intro u hu;obtain ⟨y,_,rfl⟩ := List.mem_map.1 hu;rfl
   case c3=>rw [zE,zE,be.out,zI];omega
   case c4=>rw [zE,zE,be.out,zI];omega
   intro v' F' w6 a8 aH
   go_wp2_with fail
   go_roundg j
   case measure=>omega
   case rel =>
    have h5:=ae.set_ 1 (.slice (some ⟨g2,0,none⟩) (i+1) an)
    have bO:∀ x,x∈Go->x<w3.heap.size:=fun x hx=>by have:=bv.out x hx;have:=af.out.size;omega
    have ao:g2∉Go:=fun hm=>by
     rcases ag.new g2 (by simp) with h9 | h9
     ·exact (am.out _ h9).2 hm
     ·have:=bO _ hm;omega
    have aY:bp<g2:=by
     rcases ag.new g2 (by simp) with h9 | h9
     ·exact (am.out _ h9).1
     ·have:=af.out.size;have:=al.out;omega
    have cn:w3.heap.size<=w4.heap.size:=by have:=ag.size;omega
    have bV:(w4.setCell ⟨bp,1,none⟩ (.slice (some ⟨g2,0,none⟩) (i+1) an)).heap.size=w4.heap.size:=by simp
    have bX:bp<w3.heap.size:=by have:=af.out.size;have:=al.out;omega
    have h6:=Blk.chg h5 aH.chg (fun hm=>by have:=aj.out _ hm;omega)
    have h7:=((((a7.out.alloc (.cells #[.int .i64 k] 3)).chg ag.chg (fun hm=>by have:=(am.out _ hm).1;omega)).chg ad (by simp;omega)).chg aH.chg (fun hm=>by have:=aj.out _ hm;omega))
    have h8:=((bU.toOwn.chg ad (fun x hx hm=>by simp at hx hm;omega)).chg aH.chg (fun x hx hm=>by simp at hx;exact ao (hx ▸ hm)))
    have h9:=((((bs.out.same ((zR [] w3).alloc (.cells #[.int .i64 k] 3))).chg ag.chg (fun x hx hm=>by have:=aA.out x hx;have:=(am.out _ hm).1;omega)).chg ad (fun x hx hm=>by simp at hm;have:=aA.out x hx;omega)).chg aH.chg (fun x hx hm=>by have:=aA.out x hx;have:=aj.out _ hm;omega))
    refine ⟨i+1,p'+(partBits k part).length,.slice (some ⟨g2,0,none⟩) (i+1) an,[g2],F',by go_num,by omega,by simpa using h6,h7,?_,?_,h9,ch,hid ?_,hid ?_,hid ?_,hid ?_⟩
    ·rw [ce.out,<-cE.out,zM]
     exact h8
    ·rw [cc.out,cD.out,zM,List.map_take]
     exact a8
    ·have e1:=Hp.out
     rw [cd.out,zC] at e1
     omega
    ·refine (((((bN.out.trans af.out (by simp)).alloc (.cells #[.int .i64 k] 3)).trans ag.chg ?_).trans ad (by simp)).trans aH.chg ?_)
     ·intro x hx
      right
      have:=(am.out x hx).1
      have:=bq.out
      omega
     ·intro x hx
      right
      have:=aj.out x hx
      have:=bq.out
      omega
    ·intro x hx
     simp at hx
     subst hx
     refine ⟨aY,aH.out ?_ ao⟩
     rw [bV]
     exact bU.lt
    ·intro x hx
     rcases aH.new x hx with h | h
     ·exact aj.out x h
     ·rw [bV] at h;omega
end Go.Proofs.YtklocammllljiaaGreatDoor
