/- parts.Best by its contract. -/
import Derived.Test.YtijpbkakncglgaaGreatDoorMg20
import Derived.Deep.RegionLaw
set_option linter.unusedVariables false
set_option linter.unusedSimpArgs false
set_option maxHeartbeats 4000000
set_option maxRecDepth 100000
namespace Go.Proofs.YtijpbkakncglgaaGreatDoor
open Go.RowKit
theorem planOf_len (o n warm:Nat) (l:List Int):(planOf o n warm l).length=(sizesL o n warm).length:=by unfold planOf;rw [zE,splitL_len]
theorem planOf_ok (o n warm:Nat) (l:List Int):KsOk (planOf o n warm l):=by
 intro k hk
 obtain ⟨p,_,rfl⟩:=List.mem_map.1 hk
 exact chooseK_ok p
theorem pbest_ok (n warm most:Nat) (l:List Int) (Al:Option Addr) (capl:Nat) (w:World) (h1:1≤n) (h2:n≤4096) (h3:warm≤n) (hm:most≤8) (hll:l.length=n-warm) (hw:∀ x∈l,wideP x) (hcl:Cells vi w Al l) (hcap1:l.length≤capl) (hcap2:capl≤9223372036854775807) :
  Calls Tryz.prog 120 #[.int .i64 n,.int .i64 warm,.int .i64 most,.slice Al l.length capl] w fun e w'=>∃ v G,e=.returned (.tuple #[.agg #[.int .i64 (bestPlan n warm most l).order,v],.int .i64 0])∧Own w' 3 v G ((bestPlan n warm most l).ks.map i64)∧Chg [] w w'∧∀ x∈G,w.heap.size≤x:=by
 obtain ⟨L,hL⟩:∃ L,L=l.length:=⟨_,rfl⟩
 have hright:=fun w hc=>right_yes n warm l Al capl w h1 h2 h3 hll hw hc
 have hsizes:=fun o (ho:o≤8) w=>sizes_ok o n warm w ho h1 h2 h3
 have hcost:=fun o (ho:o≤8) (hne:sizesL o n warm≠[]) A cap w hc hcl=>pcost_ok o n warm (planOf o n warm l) A cap l Al capl w ho h1 h2 h3 hne (planOf_len o n warm l) (planOf_ok o n warm l) hc hll hw hcl hcap1 hcap2
 rw [←hL] at hright hcost hll hcap1 ⊢
 have HRight:=hid hright
 have HSizes:=hid hsizes
 have HCost:=hid hcost
 have HW:=hid hw
 have HL:=hid hL
 have HLL:=hid hll
 have hL4:L≤4096:=by omega
 have hmax:max (most:Int) 0=(most:Int):=by omega
 have hmin:min (most:Int) 8=(most:Int):=by omega
 have hbp:bestPlan n warm most l=plans n warm l (most+1):=by unfold bestPlan;rw [Nat.min_eq_left hm]
 have HBP:=hid hbp
 clear hright hsizes hcost hw hL hll hbp
 go_enter Tryz.func120,Tryz.ntmps120
 go_wp2_with fail
 have ch0:Chg [] w (w.alloc (.cells #[.int .i64 0,.slice none 0 0] 121)):=(Chg.refl [] w).alloc _
 refine (HRight.out _ (hcl.same ch0)).mono ?_
 rintro e w1' ⟨rfl,rfl⟩
 go_wp2_with fail
 have hbb:=(Blk.new (w.alloc (.cells #[.int .i64 0,.slice none 0 0] 121)) 121 #[.int .i64 0,.slice none 0 0])
 have hbr:=(Blk.new w 121 #[.int .i64 0,.slice none 0 0]).alloc (.cells #[.int .i64 0,.slice none 0 0] 121)
 have chA:Chg [] w ((w.alloc (.cells #[.int .i64 0,.slice none 0 0] 121)).alloc (.cells #[.int .i64 0,.slice none 0 0] 121)):=((Chg.refl [] w).alloc _).alloc _
 have hne0:w.heap.size≠w.heap.size+1:=by omega
 have hsz1:(w.alloc (.cells #[.int .i64 0,.slice none 0 0] 121)).heap.size=w.heap.size+1:=by simp
 rw [hsz1] at hbb
 generalize hwA:(w.alloc (.cells #[.int .i64 0,.slice none 0 0] 121)).alloc (.cells #[.int .i64 0,.slice none 0 0] 121)=wA at *
 obtain ⟨br,hbrd⟩:∃ x,x=w.heap.size:=⟨_,rfl⟩
 obtain ⟨bb,hbbd⟩:∃ x,x=w.heap.size+1:=⟨_,rfl⟩
 rw [←hbbd] at hne0 hbb ⊢
 rw [←hbrd] at hne0 hbr ⊢
 have hltb:=hbb.lt
 have HBR:=hid hbrd
 have HBB:=hid hbbd
 have hcA:=hcl.same chA
 have HWA:=hid hwA
 have HCLW:=hid hcl
 clear hsz1 hwA hbrd hbbd ch0 hcl
 go_loopg [11,12] (most+1) (fun j lv ov wr=>j≤most+1∧ov=.int .i64 ((most+1-j:Nat):Int)∧∃ so sks sc v G,lv=.int .i64 ((sc:Nat):Int)∧Hid (plans n warm l (most+1-j)=⟨so,sks,sc⟩) ∧
   Blk wr bb 121 #[.int .i64 ((so:Nat):Int),v]∧Own wr 3 v G (sks.map i64)∧Chg [bb] wA wr∧∀ x∈G,wA.heap.size≤x)
 case atStart=>exact ⟨Nat.le_refl _,by simp,0,[],0,.slice none 0 0,[],rfl,hid (by simp [plans]),hbb,Own.nil _ _,Chg.refl _ _,by simp⟩
 case round =>
  obtain ⟨hj,rfl,so,sks,sc,v,G,rfl,Hpl,hbbr,hownr,hchr,hG⟩:=hrel
  have HG:=hid hG
  obtain ⟨Av,capv,rfl,-,-,-⟩:=hownr.open_map
  clear hG hbb
  rcases gk with _ | j
  ·have t4:decide ((most:Int)+1≤(most:Int))=false:=zA (by omega)
   have hbrr:=hbr.chg hchr (by simpa using hne0)
   have hb0:=hbbr.cell 0
   have hb1:=hbbr.cell 1
   have hb2:=hbrr.cell 0
   have hb3:=hbrr.cell 1
   have hb4:=hbrr.frozen 0
   have hb5:=hbrr.frozen 1
   simp at hb0 hb1 hb2 hb3
   go_wp2_with fail
   have hF:=(hbrr.set_ 0 (.int .i64 so)).set_ 1 (.slice Av sks.length capv)
   have hoF:=(hownr.far (p:=⟨br,0,none⟩) (fun hm=>by have h7:=HG.out _ hm;have h8:=hbr.lt;simp at h7;omega) (.int .i64 so)).far (p:=⟨br,1,none⟩) (fun hm=>by have h7:=HG.out _ hm;have h8:=hbr.lt;simp at h7;omega) (.slice Av sks.length capv)
   have chF:Chg [bb,br] wA ((wr.setCell ⟨br,0,none⟩ (.int .i64 so)).setCell ⟨br,1,none⟩ (.slice Av sks.length capv)):=((hchr.mono (by simp)).setCell (by simp) _).setCell (by simp) _
   generalize hwF:(wr.setCell ⟨br,0,none⟩ (.int .i64 so)).setCell ⟨br,1,none⟩ (.slice Av sks.length capv)=wF at *
   have hF0:=hF.cell 0
   have hF1:=hF.cell 1
   simp at hF0 hF1
   have e1:bestPlan n warm most l=⟨so,sks,sc⟩:=by rw [HBP.out,←Hpl.out];rfl
   refine bodyPost_ret (v:=.tuple #[.agg #[.int .i64 so,.slice Av sks.length capv],.int .i64 0]) (by simp [results,Tryz.results120,go_sem,hF0,hF1]) rfl ⟨.slice Av sks.length capv,G,?_,?_,?_,?_⟩
   ·rw [e1]
   ·rw [e1];exact hoF
   ·refine chA.trans chF ?_
    intro x hx
    right
    have:=HBR.out
    have:=HBB.out
    simp at hx
    omega
   ·intro x hx
    have:=HG.out x hx
    have:=chA.size
    omega
  ·obtain ⟨i,hi1⟩:∃ i,i=most+1-(j+1):=⟨_,rfl⟩
   rw [←hi1] at Hpl ⊢
   have hi2:i≤most:=by omega
   have hi3:most+1-j=i+1:=by omega
   have HI:=hid hi3
   have t4:decide (i≤most)=true:=zB hi2
   clear hi1 hi3
   have hstep:=plans_succ n warm l i
   rw [Hpl.out] at hstep
   have hi8:i≤8:=by omega
   go_wp2_with fail
   refine (HSizes.out i hi8 _).mono ?_
   rintro e w2 ⟨v2,G2,rfl,hown2,ch2,hG2⟩
   obtain ⟨A2,cap2,rfl,hcl2,hcm2,-⟩:=hown2.open_map
   by_cases hne:sizesL i n warm=[]
   ·have hst:plans n warm l (i+1)=⟨so,sks,sc⟩:=by rw [hstep,planStep,if_pos hne]
    have HST:=hid hst
    rw [hne] at hown2 hcl2 ⊢
    clear hne hstep hst
    simp only [List.length_nil]
    go_wp2_with fail
    go_roundg j
    case measure=>omega
    case rel =>
     rw [HI.out]
     exact ⟨by omega,by go_num,so,sks,sc,_,G,rfl,HST,hbbr.chg ch2 (by simp),hownr.same ch2,hchr.trans_same (ch2.mono (by simp)),HG.out⟩
   ·have hN:=sizesL_len hne
    have hsum:=sizesL_sum hne
    obtain ⟨ss,hss⟩:∃ ss,ss=sizesL i n warm:=⟨_,rfl⟩
    have hP2:2^i≤256:=Nat.pow_le_pow_right (n:=2) (j:=8) (by decide) hi8
    have hP1:=Nat.two_pow_pos i
    rw [←hN] at hP1 hP2
    have hstc:=HCost.out i hi8 hne
    rw [planStep,if_neg hne] at hstep
    rw [←hss] at hN hsum hown2 hcl2 hP1 hP2 hstep hstc ⊢
    have hpl:planOf i n warm l=(splitL ss l).map chooseK:=by unfold planOf;rw [←hss]
    have hpll:=planOf_len i n warm l
    rw [←hss] at hpll
    obtain ⟨N,hNd⟩:∃ N,N=ss.length:=⟨_,rfl⟩
    rw [←hNd] at hP1 hP2 hcl2 hpll ⊢
    have t5:((N:Int)==0)=false:=by rw [beq_eq_false_iff_ne];omega
    have HN:=hid hNd
    have HStep:=hid hstep
    have HStc:=hid hstc
    have HPL:=hid hpl
    have HPLL:=hid hpll
    have HSS:=hid hss
    have HSum:=hid hsum
    clear hN hsum hss hstep hstc hpl hpll hNd hne
    go_wp2_with fail
    have hbp:=Blk.new w2 121 #[.int .i64 i,.slice none 0 0]
    have hch2:Chg [bb] wA w2:=hchr.trans_same (ch2.mono (by simp))
    have hcS:Cells i64 w2 A2 ss:=by have:=hown2.cells;exact this
    have hcL2:=HCLW.out.same (chA.trans hch2 (by
     intro x hx
     right
     have:=HBB.out
     simp at hx
     omega))
    obtain ⟨bp,hbpd⟩:∃ x,x=w2.heap.size:=⟨_,rfl⟩
    rw [←hbpd] at hbp ⊢
    have HBP2:=hid hbpd
    have HLe:Hid (L≤capl):=hid hcap1
    have HLe2:=hid hcap2
    have ch3:Chg [] w2 (w2.alloc (.cells #[.int .i64 i,.slice none 0 0] 121)):=(Chg.refl [] w2).alloc _
    clear hbpd hcap1 hcap2 hcl2 hcm2
    go_loopg [15,44] N (fun q rv iv wx=>q≤N∧iv=.int .i64 ((N-q:Nat):Int)∧∃ A' c' rest v G ks,rv=.slice A' rest.length c'∧Hid (rest=l.drop (startOf ss (N-q)))∧Cells vi w2 A' rest∧rest.length≤c'∧c'≤9223372036854775807∧rest.length≤4096 ∧
     Blk wx bp 121 #[.int .i64 i,v]∧Own wx 3 v G (ks.map i64)∧Hid (ks=((splitL ss l).map chooseK).take (N-q))∧Chg [] w2 wx∧∀ x∈G,w2.heap.size<x)
    case atStart =>
     refine ⟨Nat.le_refl _,by simp,Al,capl,l,.slice none 0 0,[],[],?_,hid (by simp [startOf]),hcL2,?_,HLe2.out,?_,hbp,Own.nil _ _,hid (by simp),ch3,by simp⟩
     ·rw [←HL.out]
     ·rw [←HL.out];exact HLe.out
     ·rw [←HL.out];exact hL4
    case round =>
     obtain ⟨hq,rfl,A',c',rest,vp,Gp,ks,rfl,Hrest,hcR,hrc,hcm,hr4,hbpx,hownp,Hks,hchx,hGp⟩:=hrel
     have HGp:=hid hGp
     clear hGp hbp ch3
     obtain ⟨Ap,capp,rfl,-,-,-⟩:=hownp.open_map
     rcases gk with _ | q
     ·have t7:decide (((N-0:Nat):Int)<(N:Int))=false:=by simp
      have hp0:=hbpx.cell 0
      have hp1:=hbpx.cell 1
      simp at hp0 hp1
      have e2:((splitL ss l).map chooseK).take (N-0)=(splitL ss l).map chooseK:=by rw [Nat.sub_zero,HN.out,←splitL_len ss l,←zE (f:=chooseK),List.take_length]
      have hksN:ks.length=N:=by rw [Hks.out,e2,←HPL.out,HPLL.out,HN.out]
      have hcKs:Cells i64 wr Ap (planOf i n warm l):=by
       have h9:=hownp.cells
       rw [Hks.out,e2,←HPL.out] at h9
       exact h9
      have hcost:=HStc.out Ap capp wr hcKs (hcL2.same hchx)
      have e3:(planOf i n warm l).length=N:=by rw [HPLL.out,HN.out]
      rw [e3] at hcost
      obtain ⟨CC,hCC⟩:∃ C,C=costP (planOf i n warm l) (splitL ss l):=⟨_,rfl⟩
      rw [←hCC] at hcost
      have hst:=HStep.out
      rw [←hCC] at hst
      have HST:=hid hst
      have HCC:=hid hCC
      have HKSN:=hid hksN
      rw [hksN] at hp1 hbpx hownp
      have hHks:Hid (ks=planOf i n warm l):=hid (by rw [Hks.out,e2,HPL.out])
      clear e2 e3 hCC hst hksN hcKs
      go_wp2_with fail
      refine hcost.mono ?_
      rintro e w4 ⟨rfl,ch4⟩
      have ch4':Chg [] w2 w4:=hchx.trans_same ch4
      have hbp4:=hbpx.chg ch4 (by simp)
      have hown4:=hownp.same ch4
      have hbb4:=hbbr.chg (ch2.trans_same ch4') (by simp)
      have hownr4:=hownr.same (ch2.trans_same ch4')
      have hch4:Chg [bb] wA w4:=hchr.trans_same ((ch2.trans_same ch4').mono (by simp))
      have hp0:=hbp4.cell 0
      have hp1:=hbp4.cell 1
      have hq0:=hbb4.cell 0
      have hq1:=hbb4.cell 1
      have hq2:=hbb4.frozen 0
      have hq3:=hbb4.frozen 1
      simp at hp0 hp1 hq0 hq1
      clear hcost
      by_cases hc0:sc=0
      ·have t8:((sc:Int)==0)=true:=by rw [beq_iff_eq];omega
       have hres:=HST.out
       rw [if_pos (.inl hc0)] at hres
       have HRES:=hid hres
       clear hres hc0
       go_wp2_with fail
       go_roundg j
       case measure=>omega
       case rel =>
        rw [HI.out]
        have h1:=(hbb4.set_ 0 (.int .i64 i)).set_ 1 (.slice Ap N capp)
        have h2:=(hown4.far (p:=⟨bb,0,none⟩) (fun hm=>by have h7:=HGp.out _ hm;have h8:=hch2.size;simp at h7;omega) (.int .i64 i)).far (p:=⟨bb,1,none⟩) (fun hm=>by have h7:=HGp.out _ hm;have h8:=hch2.size;simp at h7;omega) (.slice Ap N capp)
        rw [hHks.out] at h2
        refine ⟨by omega,by go_num,i,planOf i n warm l,CC,.slice Ap N capp,Gp,rfl,HRES,by simpa using h1,h2,(hch4.setCell (by simp) _).setCell (by simp) _,fun x hx => ?_⟩
        have h7:=HGp.out x hx
        have h8:=hch2.size
        omega
      ·have t8:((sc:Int)==0)=false:=by rw [beq_eq_false_iff_ne];omega
       by_cases hc1:CC<sc
       ·have t9:decide (CC<sc)=true:=by simpa using hc1
        have hres:=HST.out
        rw [if_pos (.inr hc1)] at hres
        have HRES:=hid hres
        clear hres hc0
        go_wp2_with fail
        go_roundg j
        case measure=>omega
        case rel =>
         rw [HI.out]
         have h1:=(hbb4.set_ 0 (.int .i64 i)).set_ 1 (.slice Ap N capp)
         have h2:=(hown4.far (p:=⟨bb,0,none⟩) (fun hm=>by have h7:=HGp.out _ hm;have h8:=hch2.size;simp at h7;omega) (.int .i64 i)).far (p:=⟨bb,1,none⟩) (fun hm=>by have h7:=HGp.out _ hm;have h8:=hch2.size;simp at h7;omega) (.slice Ap N capp)
         rw [hHks.out] at h2
         refine ⟨by omega,by go_num,i,planOf i n warm l,CC,.slice Ap N capp,Gp,rfl,HRES,by simpa using h1,h2,(hch4.setCell (by simp) _).setCell (by simp) _,fun x hx => ?_⟩
         have h7:=HGp.out x hx
         have h8:=hch2.size
         omega
       ·have t9:decide (CC<sc)=false:=by simpa using hc1
        have hres:=HST.out
        rw [if_neg (by rintro (h | h);exact hc0 h;exact hc1 h)] at hres
        have HRES:=hid hres
        clear hres hc0
        go_wp2_with fail
        go_roundg j
        case measure=>omega
        case rel =>
         rw [HI.out]
         exact ⟨by omega,by go_num,so,sks,sc,_,G,rfl,HRES,hbb4,hownr4,hch4,HG.out⟩
     ·obtain ⟨m,hm1⟩:∃ m,m=N-(q+1):=⟨_,rfl⟩
      rw [←hm1] at Hrest Hks ⊢
      have hm2:m<N:=by omega
      have hm3:N-q=m+1:=by omega
      have HM:=hid hm3
      have his:m<ss.length:=by rw [←HN.out];exact hm2
      obtain ⟨gs_,os_,rfl,hcells⟩:=(hcS.same hchx).i64_at his
      have hget:=splitL_get ss l m his
      have hfit:=startOf_fit ss m his
      have hdr:=drop_startOf l ss m his
      rw [←Hrest.out] at hget hdr
      have hkl:m<((splitL ss l).map chooseK).length:=by rw [zE,splitL_len];exact his
      have hkt:=take_snoc' ((splitL ss l).map chooseK) hkl
      have hkm:((splitL ss l).map chooseK)[m]=chooseK (rest.take ss[m]):=by
       have h9:((splitL ss l).map chooseK)[m]?=some (chooseK (rest.take ss[m])):=by rw [List.getElem?_map,hget];rfl
       exact (List.getElem?_eq_some_iff.1 h9).2
      rw [hkm,←Hks.out] at hkt
      obtain ⟨s,hs⟩:∃ s,s=ss[m]:=⟨_,rfl⟩
      rw [←hs] at hcells hfit hdr hkt
      have hsr:s≤rest.length:=by
       have:=HSum.out
       have:=HLL.out
       have:=HL.out
       rw [Hrest.out,List.length_drop]
       omega
      have hwp:∀ x∈rest.take s,wideP x:=fun x hx=>HW.out x (by
       have:=List.mem_of_mem_take hx
       rw [Hrest.out] at this
       exact List.mem_of_mem_drop this)
      have hpl:(rest.take s).length=s:=by rw [List.length_take];omega
      have hcP:=(hcR.take s).same hchx
      have hch_:=choose_ok (rest.take s) A' c' wr.drew hwp (hcP.same (Chg.refl [] wr).drew) (by omega)
      rw [hpl] at hch_
      obtain ⟨A3,hsl,-,hcl3⟩:=slice_from (P:=Tryz.prog) Tryz.underlying22 size_int A' rest.length c' s hsr hrc
      have hcR3:=hcl3 Int vi w2 rest rfl hcR
      have HDR:Hid (rest.drop s=l.drop (startOf ss (m+1))):=hid hdr
      have hdl:rest.length-s=(rest.drop s).length:=by rw [List.length_drop]
      rw [hdl] at hsl
      have hs4:(rest.drop s).length≤4096:=by rw [List.length_drop];omega
      have hsc:(rest.drop s).length≤c'-s:=by rw [List.length_drop];omega
      obtain ⟨rest2,hrest2⟩:∃ r,r=rest.drop s:=⟨_,rfl⟩
      rw [←hrest2] at hsl hs4 hsc hcR3 HDR
      have hsc':s≤c':=by omega
      obtain ⟨kc,hkc⟩:∃ r,r=chooseK (rest.take s):=⟨_,rfl⟩
      rw [←hkc] at hch_ hkt
      have HKT:=hid hkt
      have hksl:ks.length≤256:=by rw [Hks.out,List.length_take];omega
      have hd1:=hbpx.cell 1
      have hf1:=hbpx.frozen 1
      simp at hd1
      clear hkt hkm hkl hget hdr hs hwp hcl3 hfit hdl hrest2 his hm1 hm3 hcR hpl hkc
      have hbGp:bp∉Gp:=fun hm=>by have:=HGp.out _ hm;have:=HBP2.out;omega
      have hba:=hbpx.alloc (.cells #[.int .i64 kc] 3)
      have n1:(wr.alloc (Obj.cells #[.int .i64 kc] 3)).cell? ⟨bp,1,none⟩=some (.slice Ap ks.length capp):=by simpa using hba.cell 1
      clear hba
      go_wp2_with fail
      go_region_law (first | (refine step_append_o1 (by rfl) (by rfl) int_elem (by rfl) (by rfl) ((hownp.alloc (.cells #[.int .i64 kc] 3)).drew) (.int .i64 kc) (by rfl) (by simp [go_sem]) (by rfl) (by rw [zE];omega) (by rw [zE];omega) ?_;intro g2 cap2 w3 hr2 gr2;have hbb:Blk w3 bp 121 #[.int .i64 i,.slice Ap ks.length capp]:=((hbpx.alloc (.cells #[.int .i64 kc] 3)).drew).chg gr2.chg hbGp;have y1:=hbb.cell 1;have z1:=hbb.frozen 1;simp at y1) | (go_simp;go_at_call 170;refine hch_.mono ?_;rintro e w' ⟨rfl,rfl⟩))
      all_goals
       go_wp2_with fail
       go_roundg q
       case measure=>omega
       case rel =>
        rw [HM.out]
        have h1:=hbb.set_ 1 (.slice (some ⟨g2,0,none⟩) (ks.length+1) cap2)
        have hgb:g2≠bp:=by
         intro he
         rcases gr2.new g2 (by simp) with h9 | h9
         ·exact hbGp (he ▸ h9)
         ·have h8:=hbpx.lt
          simp at h9
          omega
        have hr3:=hr2.far (p:=⟨bp,1,none⟩) hgb (.slice (some ⟨g2,0,none⟩) (ks.length+1) cap2)
        have h2:=hr3.toOwn
        have e5:(List.map i64 ks).length=ks.length:=zE _
        rw [e5] at h2
        have ch5:Chg [] w2 w3:=((hchx.alloc (.cells #[.int .i64 kc] 3)).drew).trans gr2.chg (fun x hx => .inr (Nat.le_of_lt (HGp.out x hx)))
        refine ⟨by omega,by go_num,A3,_,rest2,.slice (some ⟨g2,0,none⟩) (ks.length+1) cap2,[g2],ks++[kc],rfl,HDR,hcR3,hsc,by omega,hs4,?_,?_,hid ?_,?_,?_⟩
        ·simpa using h1
        ·simpa [i64] using h2
        ·rw [HKT.out]
        ·exact ch5.setCell (.inr (by have:=HBP2.out;simp;omega)) _
        ·intro x hx
         have hx':x=g2:=by simpa using hx
         rcases gr2.new x (by simp [hx']) with h9 | h9
         ·exact HGp.out _ h9
         ·have h8:=hbpx.lt
          have:=HBP2.out
          simp at h9
          omega
def tailP (ks:List Nat) (ps:List (List Int)) (i:Nat):List Nat:=((ks.zip ps).drop i).flatMap fun p=>partBits p.1 p.2
theorem tailP_split {ks:List Nat} {ps:List (List Int)} {i k:Nat} {q:List Int} (hk:ks[i]?=some k) (hq:ps[i]?=some q):tailP ks ps i=partBits k q++tailP ks ps (i+1):=by
 have hkl:=(List.getElem?_eq_some_iff.1 hk).1
 have hql:=(List.getElem?_eq_some_iff.1 hq).1
 have hl:i<(ks.zip ps).length:=by rw [List.length_zip];omega
 have hz:(ks.zip ps)[i]=(k,q):=by
  rw [List.getElem_zip,(List.getElem?_eq_some_iff.1 hk).2,(List.getElem?_eq_some_iff.1 hq).2]
 unfold tailP
 rw [List.drop_eq_getElem_cons hl,List.flatMap_cons,hz]
theorem tailP_end {ks:List Nat} {ps:List (List Int)} {i:Nat} (h:ks.length≤i):tailP ks ps i=[]:=by
 unfold tailP
 rw [List.drop_of_length_le (by rw [List.length_zip];omega)]
 rfl
theorem bitsP_tail (o:Nat) (ks:List Nat) (ps:List (List Int)):bitsP o ks ps=bitsOf o 4++tailP ks ps 0:=rfl
theorem pget_ok (w:World) (b:Nat) (F ds:List Nat) (p o n warm:Nat) (ks:List Nat) (l:List Int) (h:IsRd w b F ds p) (ho:o≤8) (h1:1≤n) (h2:n≤4096) (h3:warm≤n) (hne:sizesL o n warm≠[]) (hkl:ks.length=(sizesL o n warm).length) (hks:KsOk ks)
  (hll:l.length=n-warm) (hw:∀ x∈l,wideP x) (ha:Ahead ds p (bitsP o ks (splitL (sizesL o n warm) l))) :
  Calls Tryz.prog 97 #[.pointer (some ⟨b,0,none⟩),.int .i64 n,.int .i64 warm] w fun e w'=>∃ (Ak:Option Addr) (nk ck:Nat) (v:Value) (G:List Nat),e=.returned (.tuple #[.agg #[.int .i64 o,.slice Ak nk ck],v,.int .i64 0])∧Own w' 3 v G (l.map vi)∧IsRd w' b F ds (p+(bitsP o ks (splitL (sizesL o n warm) l)).length)∧Chg [b] w w'∧∀ x∈G,w.heap.size≤x:=by
 have hss:=sizesL_sum hne
 have hN2:=sizesL_len hne
 rw [bitsP_tail] at ha ⊢
 have ho16:o<2^4:=by omega
 have hpr:=fun w'=>prow_yes n warm w' h1 h2 h3
 have hg1:=fun w' (hr:IsRd w' b F ds p)=>rget_ahead w' b F ds p 4 o hr (by omega) ho16 ha.left
 have hsz:=fun w'=>sizes_ok o n warm w' ho h1 h2 h3
 have ha1:=ha.right
 rw [bitsOf_len] at ha1
 obtain ⟨ss,hsse⟩:∃ ss,ss=sizesL o n warm:=⟨_,rfl⟩
 rw [←hsse] at hss hN2 hkl hsz ha1 hne ⊢
 rw [zC,bitsOf_len]
 have hbl:=h.lt b h.mem
 have hN256:ss.length≤256:=by rw [hN2];exact Nat.pow_le_pow_right (n:=2) (j:=8) (by decide) ho
 have hN1:1≤ss.length:=by rw [hN2];exact Nat.two_pow_pos o
 obtain ⟨N,hN⟩:∃ N,N=ss.length:=⟨_,rfl⟩
 rw [←hN] at hN256 hN1 hkl
 have HSS:=hid (hss.trans hll.symm)
 have hl4:l.length≤4096:=by rw [hll];omega
 have HN:=hid hN
 have HW:=hid hw
 have HKS:=hid hks
 have HKL:=hid hkl
 have HA:=hid ha1
 have HLT:=hid h.lt
 have HL4:=hid hl4
 obtain ⟨br,hbr⟩:∃ br,br=w.heap.size:=⟨_,rfl⟩
 have HBR:=hid hbr
 have h':=h
 clear hN hw hks hkl ha1 ha hss hN2 hsse hne hll hl4 hbr h1 h2 h3
 go_enter Tryz.func97,Tryz.ntmps97
 go_wp2_with (go_at_call 139;refine (hpr _).mono ?_;rintro e w' ⟨rfl,rfl⟩)
 obtain ⟨w0,hw0⟩:∃ w0,w0=w.alloc (.cells #[.int .i64 0,.slice none 0 0] 121):=⟨_,rfl⟩
 have hbr0:Blk w0 br 121 #[.int .i64 0,.slice none 0 0]:=by rw [hw0,HBR.out];exact Blk.new w _ _
 have ch0:Chg [] w w0:=by rw [hw0];exact (Chg.refl [] w).alloc _
 rw [←hw0,←HBR.out]
 have hg1:=hg1 w0 (h.same ch0)
 clear hw0 h
 refine hg1.mono ?_
 rintro e w1 ⟨rfl,hr1,ch1⟩
 have hbb:b≠br:=by have:=HBR.out;omega
 have hbr1:=hbr0.chg ch1 (by simpa using hbb.symm)
 have hsz:=hsz w1
 have hch1:Chg [b] w w1:=(ch0.mono (by simp)).trans_same ch1
 clear hg1 hbr0
 go_wp2_with (go_at_call 60;refine (err_ok _ b F ds _ hr1).mono ?_;rintro e w' ⟨rfl,rfl⟩)
 refine hsz.mono ?_
 rintro e w2 ⟨v2,G2,rfl,own2,ch2,hG2⟩
 obtain ⟨As,cs,rfl,hcs1,hcs2,hcS⟩:=own2.open_map
 rw [←HN.out]
 have t1:((N:Int)==0)=false:=by rw [beq_eq_false_iff_ne];omega
 have hapS:Apt As ss [b,w2.heap.size]:=own2.apt (fun x hx hm=>by
  have h5:=hG2 x hx
  have h6:=own2.lt x hx
  have h7:=hr1.lt b hr1.mem
  simp at hm
  omega)
 have hr2:=hr1.same ch2
 have hbr2:=Blk.chg hbr1 ch2 (by simp)
 have hch2:=hch1.trans ch2 (by simp)
 clear own2 hsz hr1 hbr1 hch1
 obtain ⟨bp,hbp⟩:∃ bp,bp=w2.heap.size:=⟨_,rfl⟩
 rw [←hbp] at hapS
 have HAPS:=hid hapS
 have HBP:=hid hbp
 clear hapS
 have hrp:br<bp:=by rw [hbp];exact hbr2.lt
 have hbbp:b<bp:=by rw [hbp];have:=hr2.lt b hr2.mem;exact this
 have hblk0:Blk (w2.alloc (.cells #[.int .i64 o,.slice none 0 0] 121)) bp 121 #[.int .i64 o,.slice none 0 0]:=by rw [hbp];exact Blk.new w2 _ _
 have hr0:=hr2.same ((Chg.refl [] w2).alloc (.cells #[.int .i64 o,.slice none 0 0] 121))
 have hbrA:=Blk.alloc hbr2 (.cells #[.int .i64 o,.slice none 0 0] 121)
 have hchA:=hch2.alloc (.cells #[.int .i64 o,.slice none 0 0] 121)
 have hcA:Chg [] w2 (w2.alloc (.cells #[.int .i64 o,.slice none 0 0] 121)):=(Chg.refl [] w2).alloc _
 have hszA:(w2.alloc (.cells #[.int .i64 o,.slice none 0 0] 121)).heap.size=bp+1:=by rw [hbp];simp
 have hbpF:∀ x∈F,x<bp:=fun x hx=>by rw [hbp];exact hr2.lt x hx
 have HBPF:=hid hbpF
 have HSZA:=hid hszA
 have HCS:=hid hcS
 have hch2':=hid hch2
 clear hbp hr2 hbr2 hch2 hszA hbpF hcS hG2
 go_wp2_with fail
 rw [←HBP.out]
 go_loopg [12,14,15,16,17,44] N (fun j vo va vb vc vd iv wr=>∃ (i p':Nat) (vk:Value) (Gk Go:List Nat),iv=.int .i64 i∧i+j=N∧Blk wr bp 121 #[.int .i64 o,vk]∧Blk wr br 121 #[.int .i64 0,.slice none 0 0]∧Own wr 3 vk Gk ((ks.take i).map i64)∧Own wr 3 vo Go ((l.take (startOf ss i)).map vi)∧IsRd wr b F ds p'∧Hid (Ahead ds p' (tailP ks (splitL ss l) i))∧Hid (p'+(tailP ks (splitL ss l) i).length=p+4+(tailP ks (splitL ss l) 0).length)∧Hid (Chg [b,bp] w2 wr)∧Hid (∀ x∈Gk,bp<x∧x∉Go)∧Hid (∀ x∈Go,bp<x))
 case atStart =>
  exact ⟨0,p+4,.slice none 0 0,[],[],rfl,by omega,hblk0,hbrA,Own.nil _ _,by simpa [startOf] using Own.nil _ _,hr0,HA,hid rfl,hid (hcA.mono (by simp)),hid (by simp),hid (by simp)⟩
 case round =>
  clear hblk0 hr0 hbrA hcA
  obtain ⟨i,p',vk,Gk,Go,rfl,hij,hblk,hbrr,hok,hoo,hrd,Ha,Hp,HCH,HGk,HGo⟩:=hrel
  rcases gk with _ | j
  ·obtain rfl:N=i:=by omega
   have t2:decide (N<N)=false:=by simp
   obtain ⟨Ak,ck,rfl,hck1,hck2,hckc⟩:=hok.open_map
   obtain ⟨Ao,co,rfl,hco1,hco2,hcoc⟩:=hoo.open_map
   obtain ⟨kk,hkk⟩:∃ kk,kk=(ks.take N).length:=⟨_,rfl⟩
   rw [←hkk] at hblk
   have p0:=hblk.cell 0
   have p1:=hblk.cell 1
   have q0:=hbrr.cell 0
   have q1:=hbrr.cell 1
   have z0:=hbrr.frozen 0
   have z1:=hbrr.frozen 1
   simp at p0 p1 q0 q1
   have hsN:startOf ss N=l.length:=by unfold startOf;rw [HN.out,List.take_length];exact HSS.out
   rw [hsN,List.take_length] at hoo ⊢
   have hp:=Hp.out
   rw [tailP_end (by rw [HKL.out];exact Nat.le_refl _)] at hp
   have hp':p'=p+(4+(tailP ks (splitL ss l) 0).length):=by
    rw [List.length_nil] at hp
    omega
   have HP:=hid hp'
   have hneq:bp≠br:=by omega
   obtain ⟨wF,hwF⟩:∃ wF,wF=(wr.setCell ⟨br,0,none⟩ (.int .i64 o)).setCell ⟨br,1,none⟩ (.slice Ak kk ck):=⟨_,rfl⟩
   have hfar:Chg [br] wr wF:=by rw [hwF];exact ((Chg.refl [br] wr).setCell (.inl (by simp)) _).setCell (.inl (by simp)) _
   have hbF:Blk wF br 121 #[.int .i64 o,.slice Ak kk ck]:=by
    rw [hwF]
    simpa using (hbrr.set_ 0 (.int .i64 o)).set_ 1 (.slice Ak kk ck)
   have f0:=hbF.cell 0
   have f1:=hbF.cell 1
   simp at f0 f1
   have HWF:=hid hwF
   clear hsN hp hp' hck1 hck2 hckc hco1 hco2 hcoc hok Ha Hp hkk hwF hbF
   go_wp2_with fail
   rw [←HWF.out]
   refine bodyPost_ret (v:=.tuple #[.agg #[.int .i64 o,.slice Ak kk ck],.slice Ao l.length co,.int .i64 0]) (by simp [results,Tryz.results97,go_sem,f0,f1]) rfl ?_
   have hbrGo:br∉Go:=fun hm=>by have:=HGo.out _ hm;omega
   have hbrF:br∉F:=fun hm=>by have:=HLT.out _ hm;have:=HBR.out;omega
   refine ⟨Ak,kk,ck,_,Go,rfl,hoo.chg hfar (fun x hx hm=>by simp at hm;exact hbrGo (hm ▸ hx)),(hrd.cast HP.out).chg hfar (fun x hx hm=>by simp at hm;exact hbrF (hm ▸ hx)),?_,fun x hx=>by have:=HGo.out x hx;have:=HBR.out;omega⟩
   refine (hch2'.out.trans HCH.out ?_).trans hfar ?_
   ·intro x hx
    simp at hx
    rcases hx with hx | hx
    ·left;simp [hx]
    ·right;have:=HBR.out;omega
   ·intro x hx
    simp at hx
    right
    have:=HBR.out
    omega
  ·have hiN:i<N:=by omega
   have t2:decide (i<N)=true:=zB hiN
   have his:i<ss.length:=by rw [←HN.out];exact hiN
   obtain ⟨gs,os,rfl,hcell⟩:=(HCS.out.keep HAPS.out HCH.out).i64_at his
   have hkk:i<ks.length:=by rw [HKL.out];exact hiN
   have hget:=splitL_get ss l i his
   have hfit:=startOf_fit ss i his
   have hsuc:=startOf_succ ss i his
   rw [HSS.out] at hfit
   have hkt:=take_snoc' ks hkk
   have hsp:=tailP_split (ks:=ks) (zF hkk) hget
   have hkv:=HKS.out ks[i] (zG hkk)
   obtain ⟨k,hkd⟩:∃ k,k=ks[i]:=⟨_,rfl⟩
   obtain ⟨s,hsd⟩:∃ s,s=ss[i]:=⟨_,rfl⟩
   obtain ⟨q,hqd⟩:∃ q,q=startOf ss i:=⟨_,rfl⟩
   rw [←hsd] at hcell hsp hfit hsuc
   rw [←hqd] at hsp hfit hsuc hoo
   rw [←hkd] at hkt hsp hkv
   obtain ⟨part,hpd⟩:∃ part,part=(l.drop q).take s:=⟨_,rfl⟩
   have hpl:part.length=s:=by rw [hpd,List.length_take,List.length_drop];omega
   have hta:l.take (q+s)=l.take q++part:=by rw [hpd,List.take_add]
   have hpw:∀ x∈part,wideP x:=fun x hx=>HW.out x (List.mem_of_mem_drop (List.mem_of_mem_take (hpd ▸ hx)))
   rw [←hpd] at hsp
   have hA1:=Ha.out
   rw [hsp] at hA1
   have hone:=pone_ok wr b F ds p' k part hrd hkv hpw (by have:=HL4.out;omega) hA1.left
   rw [hpl] at hone
   have HA2:=hid hA1.right
   have hk32:k<32:=by omega
   have HSP:=hid hsp
   have HKT:=hid hkt
   have HTA:=hid hta
   have HSU:=hid hsuc
   have HQ:=hid hqd
   have HPL:=hid hpl
   have hs4:s≤4096:=by have:=HL4.out;omega
   have hq4:q≤4096:=by have:=HL4.out;omega
   clear hget hfit hsuc hkt hsp hkd hsd hqd hpd hta hpw hA1 hkv hkk his hpl Ha
   go_wp2_with fail
   refine hone.mono ?_
   rintro e w3 ⟨vp,Gp,rfl,hop,hrd3,ch3,hGp⟩
   obtain ⟨Ak,ck,rfl,hck1,hck2,hckc⟩:=hok.open_map
   have hkl:(ks.take i).length=i:=by rw [List.length_take,HKL.out];omega
   rw [hkl] at hok hblk
   obtain ⟨kd,hkd2⟩:∃ kd,kd=ks.take i:=⟨_,rfl⟩
   rw [←hkd2] at hok hkl
   have HKD:=hid hkd2
   clear hkd2
   have hbpb:bp∉[b]:=by simp;omega
   have hltk:=hok.lt
   have hlto:=hoo.lt
   have hblk3:=hblk.chg ch3 hbpb
   have hbrr3:=hbrr.chg ch3 (by simp;omega)
   have hok3:=hok.chg ch3 (fun x hx hm=>by have:=(HGk.out x hx).1;simp at hm;omega)
   have hoo3:=hoo.chg ch3 (fun x hx hm=>by have:=HGo.out x hx;simp at hm;omega)
   have p1:=(Blk.alloc hblk3 (.cells #[.int .i64 k] 3)).cell 1
   simp at p1
   have p1':=hblk3.cell 1
   simp at p1'
   have HOO3:=hid hoo3
   have HBLK3:=hid hblk3
   have HBRR3:=hid hbrr3
   have HRD3:=hid hrd3
   have HOP:=hid hop
   have HCH3:=hid ch3
   have HGP:=hid hGp
   have HLTK:=hid hltk
   have HLTO:=hid hlto
   have HWRS:=hid hblk.lt
   clear hoo hoo3 hblk hblk3 hbrr hbrr3 hrd hrd3 hop ch3 hGp hone hckc hck1 hck2 hltk hlto hcell
   go_wp2_with (at_builtin;refine wpList_append_o1 rfl rfl int_elem rfl rfl (hok3.alloc _) (.int .i64 k) rfl ?c1 ?c2 ?c3 ?c4 ?_)
   case c1=>simp [go_sem]
   case c2=>rfl
   case c3=>rw [zE,hkl];omega
   case c4=>rw [zE,hkl];omega
   intro g2 cap2 w4 hr4 gr4
   have halS:(w3.alloc (.cells #[.int .i64 k] 3)).heap.size=w3.heap.size+1:=by simp
   have hblk4:=(HBLK3.out.alloc (.cells #[.int .i64 k] 3)).chg gr4.chg (fun hm=>by have:=(HGk.out _ hm).1;omega)
   have d1:=hblk4.cell 1
   have z1:=hblk4.frozen 1
   simp at d1
   have hg2bp:g2≠bp:=fun he=>by
    rcases gr4.new g2 (by simp) with h9 | h9
    ·have:=(HGk.out _ h9).1;omega
    ·have:=HCH3.out.size;have:=HWRS.out;omega
   have hset:Chg [bp] w4 (w4.setCell ⟨bp,1,none⟩ (.slice (some ⟨g2,0,none⟩) (i+1) cap2)):=(Chg.refl [bp] w4).setCell (.inl (by simp)) _
   have hop5:=((((HOP.out.alloc (.cells #[.int .i64 k] 3))).chg gr4.chg (fun x hx hm=>by have:=HGP.out x hx;have:=HLTK.out x hm;omega))).chg hset (fun x hx hm=>by simp at hm;have:=HGP.out x hx;have:=HWRS.out;omega)
   have hoo5:=(((HOO3.out.alloc (.cells #[.int .i64 k] 3))).chg gr4.chg (fun x hx hm=>(HGk.out x hm).2 hx)).chg hset (fun x hx hm=>by simp at hm;have:=HGo.out x hx;omega)
   obtain ⟨Ap,cp,rfl,hcp1,hcp2,hcpc,_⟩:=hop5.open_
   rw [zE,HPL.out] at hcp1 ⊢
   go_wp2_with (at_builtin;refine wpList_append_s rfl rfl int_elem rfl rfl hoo5 (part.map vi) s rfl ?c1 hcpc ?c2 ?c3 ?c4 ?_)
   case c1=>rw [zE,HPL.out]
   case c2=>intro u hu;obtain ⟨y,_,rfl⟩ := List.mem_map.1 hu;rfl
   case c3=>rw [zE,zE,HPL.out,List.length_take];omega
   case c4=>rw [zE,zE,HPL.out,List.length_take];omega
   intro v' F' w6 hown6 gr6
   go_wp2_with fail
   go_roundg j
   case measure=>omega
   case rel =>
    have h5:=hblk4.set_ 1 (.slice (some ⟨g2,0,none⟩) (i+1) cap2)
    have hGof:∀ x,x∈Go→x<w3.heap.size:=fun x hx=>by have:=HLTO.out x hx;have:=HCH3.out.size;omega
    have hg2Go:g2∉Go:=fun hm=>by
     rcases gr4.new g2 (by simp) with h9 | h9
     ·exact (HGk.out _ h9).2 hm
     ·have:=hGof _ hm;omega
    have hbpg2:bp<g2:=by
     rcases gr4.new g2 (by simp) with h9 | h9
     ·exact (HGk.out _ h9).1
     ·have:=HCH3.out.size;have:=HWRS.out;omega
    have hs4:w3.heap.size≤w4.heap.size:=by have:=gr4.size;omega
    have hs5:(w4.setCell ⟨bp,1,none⟩ (.slice (some ⟨g2,0,none⟩) (i+1) cap2)).heap.size=w4.heap.size:=by simp
    have hbpw3:bp<w3.heap.size:=by have:=HCH3.out.size;have:=HWRS.out;omega
    have h6:=Blk.chg h5 gr6.chg (fun hm=>by have:=HGo.out _ hm;omega)
    have h7:=((((HBRR3.out.alloc (.cells #[.int .i64 k] 3)).chg gr4.chg (fun hm=>by have:=(HGk.out _ hm).1;omega)).chg hset (by simp;omega)).chg gr6.chg (fun hm=>by have:=HGo.out _ hm;omega))
    have h8:=((hr4.toOwn.chg hset (fun x hx hm=>by simp at hx hm;omega)).chg gr6.chg (fun x hx hm=>by simp at hx;exact hg2Go (hx ▸ hm)))
    have h9:=((((HRD3.out.same ((Chg.refl [] w3).alloc (.cells #[.int .i64 k] 3))).chg gr4.chg (fun x hx hm=>by have:=HBPF.out x hx;have:=(HGk.out _ hm).1;omega)).chg hset (fun x hx hm=>by simp at hm;have:=HBPF.out x hx;omega)).chg gr6.chg (fun x hx hm=>by have:=HBPF.out x hx;have:=HGo.out _ hm;omega))
    refine ⟨i+1,p'+(partBits k part).length,.slice (some ⟨g2,0,none⟩) (i+1) cap2,[g2],F',by go_num,by omega,by simpa using h6,h7,?_,?_,h9,HA2,hid ?_,hid ?_,hid ?_,hid ?_⟩
    ·rw [HKT.out,←HKD.out,List.map_append]
     exact h8
    ·rw [HSU.out,HTA.out,List.map_append,List.map_take]
     exact hown6
    ·have e1:=Hp.out
     rw [HSP.out,zC] at e1
     omega
    ·refine (((((HCH.out.trans HCH3.out (by simp)).alloc (.cells #[.int .i64 k] 3)).trans gr4.chg ?_).trans hset (by simp)).trans gr6.chg ?_)
     ·intro x hx
      right
      have:=(HGk.out x hx).1
      have:=HBP.out
      omega
     ·intro x hx
      right
      have:=HGo.out x hx
      have:=HBP.out
      omega
    ·intro x hx
     simp at hx
     subst hx
     refine ⟨hbpg2,gr6.out ?_ hg2Go⟩
     rw [hs5]
     exact hr4.lt
    ·intro x hx
     rcases gr6.new x hx with h | h
     ·exact HGo.out x h
     ·rw [hs5] at h;omega
end Go.Proofs.YtijpbkakncglgaaGreatDoor
