/- parts.Best by its contract. -/
import Derived.Test.YtepjepkgcdfboaaGreatDoorMg18
import Derived.Deep.RegionLaw
import Derived.Test.YtepjepkgcdfboaaGreatDoorMg34
set_option linter.unusedVariables false
set_option linter.unusedSimpArgs false
set_option maxHeartbeats 4000000
set_option maxRecDepth 100000
namespace Go.Proofs.YtepjepkgcdfboaaGreatDoor
open Go.RowKit
theorem c5o (o n warm:Nat) (l:List Int):(a6s o n warm l).length=(a1q o n warm).length:=by unfold a6s;rw [zE,a5h]
theorem e4s (o n warm:Nat) (l:List Int):f1c (a6s o n warm l):=by
 intro k hk
 obtain ⟨p,_,rfl⟩:=List.mem_map.1 hk
 exact c4w p
theorem e9j (n warm most:Nat) (l:List Int) (Al:Option Addr) (capl:Nat) (w:World) (h1:1<=n) (h2:n<=4096) (h3:warm<=n) (hm:most<=8) (hll:l.length=n-warm) (hw:∀ x∈l,a2e x) (hcl:a0d vi w Al l) (hcap1:l.length<=capl) (hcap2:capl<=9223372036854775807) :
  Calls Tryz.prog 150 #[.int .i64 n,.int .i64 warm,.int .i64 most,.slice Al l.length capl] w fun e w'=>∃ v G,e=.returned (.tuple #[.agg #[.int .i64 (a1f n warm most l).order,v],.int .i64 0])/\Own w' 3 v G ((a1f n warm most l).ks.map i64)/\Chg [] w w'/\∀ x∈G,w.heap.size<=x:=by
 obtain ⟨L,hL⟩:=zX (l.length)
 have ah:=fun w hc=>d1r n warm l Al capl w h1 h2 h3 hll hw hc
 have aq:=fun o (ho:o<=8) w=>b6b o n warm w ho h1 h2 h3
 have aa:=fun o (ho:o<=8) (hne:a1q o n warm≠[]) A cap w hc hcl=>d7d o n warm (a6s o n warm l) A cap l Al capl w ho h1 h2 h3 hne (c5o o n warm l) (e4s o n warm l) hc hll hw hcl hcap1 hcap2
 rw [<-hL] at ah aa hll hcap1 ⊢
 have aS:=hid ah
 have aO:=hid aq
 have bf:=hid aa
 have HW:=hid hw
 have HL:=hid hL
 have ck:=hid hll
 have cf:L<=4096:=by omega
 have ca:max (most:Int) 0=(most:Int):=by omega
 have cb:min (most:Int) 8=(most:Int):=by omega
 have aW:a1f n warm most l=c2g n warm l (most+1):=by unfold a1f;rw [Nat.min_eq_left hm]
 have cc:=hid aW
 clear ah aq aa hw hL hll aW
 go_enter Tryz.func150,Tryz.ntmps150
 go_wp2_with fail
 have bH:Chg [] w (w.alloc (.cells #[.int .i64 0,.slice none 0 0] 188)):=(zR [] w).alloc _
 refine (aS.out _ (hcl.same bH)).mono ?_
 rintro e cH ⟨rfl,rfl⟩
 go_wp2_with fail
 have az:=(Blk.new (w.alloc (.cells #[.int .i64 0,.slice none 0 0] 188)) 188 #[.int .i64 0,.slice none 0 0])
 have bg:=(Blk.new w 188 #[.int .i64 0,.slice none 0 0]).alloc (.cells #[.int .i64 0,.slice none 0 0] 188)
 have bj:Chg [] w ((w.alloc (.cells #[.int .i64 0,.slice none 0 0] 188)).alloc (.cells #[.int .i64 0,.slice none 0 0] 188)):=((zR [] w).alloc _).alloc _
 have aJ:w.heap.size≠w.heap.size+1:=by omega
 have a1:(w.alloc (.cells #[.int .i64 0,.slice none 0 0] 188)).heap.size=w.heap.size+1:=by simp
 rw [a1] at az
 generalize hwA:(w.alloc (.cells #[.int .i64 0,.slice none 0 0] 188)).alloc (.cells #[.int .i64 0,.slice none 0 0] 188)=wA at *
 obtain ⟨br,aQ⟩:=zX (w.heap.size)
 obtain ⟨bb,aI⟩:=zX (w.heap.size+1)
 rw [<-aI] at aJ az ⊢
 rw [<-aQ] at aJ bg ⊢
 have b9:=az.lt
 have b1:=hid aQ
 have bV:=hid aI
 have cw:=hcl.same bj
 have cA:=hid hwA
 have bm:=hid hcl
 clear a1 hwA aQ aI bH hcl
 go_loopg [11,12] (most+1) (fun j lv ov wr=>j<=most+1/\ov=.int .i64 ((most+1-j:Nat):Int)/\∃ so an sc v G,lv=.int .i64 ((sc:Nat):Int)/\Hid (c2g n warm l (most+1-j)=⟨so,an,sc⟩) /\
   Blk wr bb 188 #[.int .i64 ((so:Nat):Int),v]/\Own wr 3 v G (an.map i64)/\Chg [bb] wA wr/\∀ x∈G,wA.heap.size<=x)
 case atStart=>exact ⟨zQ _,by simp,0,[],0,.slice none 0 0,[],rfl,hid (by simp [c2g]),az,Own.nil _ _,zR _ _,by simp⟩
 case round =>
  obtain ⟨hj,rfl,so,an,sc,v,G,rfl,bC,ax,aj,ap,hG⟩:=hrel
  have HG:=hid hG
  obtain ⟨Av,am,rfl,-,-,-⟩:=aj.oq
  clear hG az
  rcases gk with _ | j
  ·have t4:decide ((most:Int)+1<=(most:Int))=false:=zA (by omega)
   have av:=bg.chg ap (by simpa using aJ)
   have cq:=ax.cell 0
   have b0:=ax.cell 1
   have b6:=av.cell 0
   have co:=av.cell 1
   have cF:=av.frozen 0
   have cx:=av.frozen 1
   simp at cq b0 b6 co
   go_wp2_with fail
   have hF:=(av.set_ 0 (.int .i64 so)).set_ 1 (.slice Av an.length am)
   have cm:=(aj.far (p:=⟨br,0,none⟩) (fun hm=>by have h7:=HG.out _ hm;have h8:=bg.lt;simp at h7;omega) (.int .i64 so)).far (p:=⟨br,1,none⟩) (fun hm=>by have h7:=HG.out _ hm;have h8:=bg.lt;simp at h7;omega) (.slice Av an.length am)
   have cg:Chg [bb,br] wA ((wr.setCell ⟨br,0,none⟩ (.int .i64 so)).setCell ⟨br,1,none⟩ (.slice Av an.length am)):=((ap.mono (by simp)).setCell (by simp) _).setCell (by simp) _
   generalize hwF:(wr.setCell ⟨br,0,none⟩ (.int .i64 so)).setCell ⟨br,1,none⟩ (.slice Av an.length am)=wF at *
   have bS:=hF.cell 0
   have bU:=hF.cell 1
   simp at bS bU
   have e1:a1f n warm most l=⟨so,an,sc⟩:=by rw [cc.out,<-bC.out];rfl
   refine bodyPost_ret (v:=.tuple #[.agg #[.int .i64 so,.slice Av an.length am],.int .i64 0]) (by simp [results,Tryz.results150,go_sem,bS,bU]) rfl ⟨.slice Av an.length am,G,?_,?_,?_,?_⟩
   ·rw [e1]
   ·rw [e1];exact cm
   ·refine bj.trans cg ?_
    intro x hx
    right
    have:=b1.out
    have:=bV.out
    simp at hx
    omega
   ·intro x hx
    have:=HG.out x hx
    have:=bj.size
    omega
  ·obtain ⟨i,bK⟩:=zX (most+1-(j+1))
   rw [<-bK] at bC ⊢
   have b2:i<=most:=by omega
   have bF:most+1-j=i+1:=by omega
   have HI:=hid bF
   have t4:decide (i<=most)=true:=zB b2
   clear bK bF
   have ac:=b7f n warm l i
   rw [bC.out] at ac
   have bx:i<=8:=by omega
   go_wp2_with fail
   refine (aO.out i bx _).mono ?_
   rintro e w2 ⟨v2,G2,rfl,al,aN,cC⟩
   obtain ⟨A2,aB,rfl,ay,bz,-⟩:=al.oq
   by_cases hne:a1q i n warm=[]
   ·have aU:c2g n warm l (i+1)=⟨so,an,sc⟩:=by rw [ac,b3b,if_pos hne]
    have bd:=hid aU
    rw [hne] at al ay ⊢
    clear hne ac aU
    simp only [List.length_nil]
    go_wp2_with fail
    go_roundg j
    case measure=>omega
    case rel =>
     rw [HI.out]
     exact ⟨by omega,by go_num,so,an,sc,_,G,rfl,bd,ax.chg aN (by simp),aj.same aN,ap.tq (aN.mono (by simp)),HG.out⟩
   ·have hN:=a7o hne
    have aK:=a9y hne
    obtain ⟨ss,a9⟩:=zX (a1q i n warm)
    have bq:2^i<=256:=Nat.pow_le_pow_right (n:=2) (j:=8) (by decide) bx
    have bs:=Nat.two_pow_pos i
    rw [<-hN] at bs bq
    have aP:=bf.out i bx hne
    rw [b3b,if_neg hne] at ac
    rw [<-a9] at hN aK al ay bs bq ac aP ⊢
    have a7:a6s i n warm l=(a1k ss l).map a4a:=by unfold a6s;rw [<-a9]
    have aA:=c5o i n warm l
    rw [<-a9] at aA
    obtain ⟨N,bA⟩:=zX (ss.length)
    rw [<-bA] at bs bq ay aA ⊢
    have t5:((N:Int)==0)=false:=by rw [beq_eq_false_iff_ne];omega
    have HN:=hid bA
    have aY:=hid ac
    have bn:=hid aP
    have bo:=hid a7
    have a4:=hid aA
    have cy:=hid a9
    have bD:=hid aK
    clear hN aK a9 ac aP a7 aA bA hne
    go_wp2_with fail
    have aW:=Blk.new w2 188 #[.int .i64 i,.slice none 0 0]
    have ai:Chg [bb] wA w2:=ap.tq (aN.mono (by simp))
    have cr:a0d i64 w2 A2 ss:=by have:=al.cells;exact this
    have a6:=bm.out.same (bj.trans ai (by
     intro x hx
     right
     have:=bV.out
     simp at hx
     omega))
    obtain ⟨bp,aE⟩:=zX (w2.heap.size)
    rw [<-aE] at aW ⊢
    have aL:=hid aE
    have b5:Hid (L<=capl):=hid hcap1
    have bw:=hid hcap2
    have bR:Chg [] w2 (w2.alloc (.cells #[.int .i64 i,.slice none 0 0] 188)):=(zR [] w2).alloc _
    clear aE hcap1 hcap2 ay bz
    go_loopg [15,44] N (fun q rv iv wx=>q<=N/\iv=.int .i64 ((N-q:Nat):Int)/\∃ A' c' rest v G ks,rv=.slice A' rest.length c'/\Hid (rest=l.drop (a2m ss (N-q)))/\a0d vi w2 A' rest/\rest.length<=c'/\c'<=9223372036854775807/\rest.length<=4096 /\
     Blk wx bp 188 #[.int .i64 i,v]/\Own wx 3 v G (ks.map i64)/\Hid (ks=((a1k ss l).map a4a).take (N-q))/\Chg [] w2 wx/\∀ x∈G,w2.heap.size<x)
    case atStart =>
     refine ⟨zQ _,by simp,Al,capl,l,.slice none 0 0,[],[],?_,hid (by simp [a2m]),a6,?_,bw.out,?_,aW,Own.nil _ _,hid (by simp),bR,by simp⟩
     ·rw [<-HL.out]
     ·rw [<-HL.out];exact b5.out
     ·rw [<-HL.out];exact cf
    case round =>
     obtain ⟨hq,rfl,A',c',rest,vp,Gp,ks,rfl,ak,bu,b3,cB,cv,ad,af,aX,au,bO⟩:=hrel
     have aw:=hid bO
     clear bO aW bR
     obtain ⟨Ap,ae,rfl,-,-,-⟩:=af.oq
     rcases gk with _ | q
     ·have t7:decide (((N-0:Nat):Int)<(N:Int))=false:=by simp
      have bv:=ad.cell 0
      have bl:=ad.cell 1
      simp at bv bl
      have e2:((a1k ss l).map a4a).take (N-0)=(a1k ss l).map a4a:=by rw [Nat.sub_zero,HN.out,<-a5h ss l,<-zE (f:=a4a),zN]
      have aD:ks.length=N:=by rw [aX.out,e2,<-bo.out,a4.out,HN.out]
      have a8:a0d i64 wr Ap (a6s i n warm l):=by
       have h9:=af.cells
       rw [aX.out,e2,<-bo.out] at h9
       exact h9
      have aa:=bn.out Ap ae wr a8 (a6.same au)
      have e3:(a6s i n warm l).length=N:=by rw [a4.out,HN.out]
      rw [e3] at aa
      obtain ⟨CC,bi⟩:=zX (a9m (a6s i n warm l) (a1k ss l))
      rw [<-bi] at aa
      have aU:=aY.out
      rw [<-bi] at aU
      have bd:=hid aU
      have cD:=hid bi
      have bY:=hid aD
      rw [aD] at bl ad af
      have a5:Hid (ks=a6s i n warm l):=hid (by rw [aX.out,e2,bo.out])
      clear e2 e3 bi aU aD a8
      go_wp2_with fail
      refine aa.mono ?_
      rintro e w4 ⟨rfl,bB⟩
      have aM:Chg [] w2 w4:=au.tq bB
      have a3:=ad.chg bB (by simp)
      have aC:=af.same bB
      have ag:=ax.chg (aN.tq aM) (by simp)
      have aR:=aj.same (aN.tq aM)
      have aG:Chg [bb] wA w4:=ap.tq ((aN.tq aM).mono (by simp))
      have bv:=a3.cell 0
      have bl:=a3.cell 1
      have bZ:=ag.cell 0
      have cp:=ag.cell 1
      have cG:=ag.frozen 0
      have cz:=ag.frozen 1
      simp at bv bl bZ cp
      clear aa
      by_cases hc0:sc=0
      ·have t8:((sc:Int)==0)=true:=by rw [beq_iff_eq];omega
       have ab:=bd.out
       rw [if_pos (.inl hc0)] at ab
       have ao:=hid ab
       clear ab hc0
       go_wp2_with fail
       go_roundg j
       case measure=>omega
       case rel =>
        rw [HI.out]
        have h1:=(ag.set_ 0 (.int .i64 i)).set_ 1 (.slice Ap N ae)
        have h2:=(aC.far (p:=⟨bb,0,none⟩) (fun hm=>by have h7:=aw.out _ hm;have h8:=ai.size;simp at h7;omega) (.int .i64 i)).far (p:=⟨bb,1,none⟩) (fun hm=>by have h7:=aw.out _ hm;have h8:=ai.size;simp at h7;omega) (.slice Ap N ae)
        rw [a5.out] at h2
        refine ⟨by omega,by go_num,i,a6s i n warm l,CC,.slice Ap N ae,Gp,rfl,ao,by simpa using h1,h2,(aG.setCell (by simp) _).setCell (by simp) _,fun x hx => ?_⟩
        have h7:=aw.out x hx
        have h8:=ai.size
        omega
      ·have t8:((sc:Int)==0)=false:=by rw [beq_eq_false_iff_ne];omega
       by_cases hc1:CC<sc
       ·have t9:decide (CC<sc)=true:=by simpa using hc1
        have ab:=bd.out
        rw [if_pos (.inr hc1)] at ab
        have ao:=hid ab
        clear ab hc0
        go_wp2_with fail
        go_roundg j
        case measure=>omega
        case rel =>
         rw [HI.out]
         have h1:=(ag.set_ 0 (.int .i64 i)).set_ 1 (.slice Ap N ae)
         have h2:=(aC.far (p:=⟨bb,0,none⟩) (fun hm=>by have h7:=aw.out _ hm;have h8:=ai.size;simp at h7;omega) (.int .i64 i)).far (p:=⟨bb,1,none⟩) (fun hm=>by have h7:=aw.out _ hm;have h8:=ai.size;simp at h7;omega) (.slice Ap N ae)
         rw [a5.out] at h2
         refine ⟨by omega,by go_num,i,a6s i n warm l,CC,.slice Ap N ae,Gp,rfl,ao,by simpa using h1,h2,(aG.setCell (by simp) _).setCell (by simp) _,fun x hx => ?_⟩
         have h7:=aw.out x hx
         have h8:=ai.size
         omega
       ·have t9:decide (CC<sc)=false:=by simpa using hc1
        have ab:=bd.out
        rw [if_neg (by rintro (h | h);exact hc0 h;exact hc1 h)] at ab
        have ao:=hid ab
        clear ab hc0
        go_wp2_with fail
        go_roundg j
        case measure=>omega
        case rel =>
         rw [HI.out]
         exact ⟨by omega,by go_num,so,an,sc,_,G,rfl,ao,ag,aR,aG,HG.out⟩
     ·obtain ⟨m,bQ⟩:=zX (N-(q+1))
      rw [<-bQ] at ak aX ⊢
      have ce:m<N:=by omega
      have bP:N-q=m+1:=by omega
      have HM:=hid bP
      have aV:m<ss.length:=by rw [<-HN.out];exact ce
      obtain ⟨cJ,cI,rfl,aF⟩:=(cr.same au).i64_at aV
      have aT:=b0a ss l m aV
      have be:=b0r ss m aV
      have bk:=b1q l ss m aV
      rw [<-ak.out] at aT bk
      have bI:m<((a1k ss l).map a4a).length:=by rw [zE,a5h];exact aV
      have a2:=a0o ((a1k ss l).map a4a) bI
      have bM:((a1k ss l).map a4a)[m]=a4a (rest.take ss[m]):=by
       have h9:((a1k ss l).map a4a)[m]?=some (a4a (rest.take ss[m])):=by rw [zW,aT];rfl
       exact (List.getElem?_eq_some_iff.1 h9).2
      rw [bM,<-aX.out] at a2
      obtain ⟨s,hs⟩:=zX (ss[m])
      rw [<-hs] at aF be bk a2
      have ch:s<=rest.length:=by
       have:=bD.out
       have:=ck.out
       have:=HL.out
       rw [ak.out,zO]
       omega
      have bE:∀ x∈rest.take s,a2e x:=fun x hx=>HW.out x (by
       have:=List.mem_of_mem_take hx
       rw [ak.out] at this
       exact List.mem_of_mem_drop this)
      have a7:(rest.take s).length=s:=by rw [zI];omega
      have ci:=(bu.take s).same au
      have aH:=e1n (rest.take s) A' c' wr.drew bE (ci.same (zR [] wr).drew) (by omega)
      rw [a7] at aH
      obtain ⟨A3,bG,-,bc⟩:=a9z (P:=Tryz.prog) Tryz.underlying22 a8q A' rest.length c' s ch b3
      have aZ:=bc Int vi w2 rest rfl bu
      have bN:Hid (rest.drop s=l.drop (a2m ss (m+1))):=hid bk
      have bT:rest.length-s=(rest.drop s).length:=by rw [zO]
      rw [bT] at bG
      have bL:(rest.drop s).length<=4096:=by rw [zO];omega
      have bX:(rest.drop s).length<=c'-s:=by rw [zO];omega
      obtain ⟨ba,ar⟩:=zX (rest.drop s)
      rw [<-ar] at bG bL bX aZ bN
      have cj:s<=c':=by omega
      obtain ⟨kc,bJ⟩:=zX (a4a (rest.take s))
      rw [<-bJ] at aH a2
      have cd:=hid a2
      have cn:ks.length<=256:=by rw [aX.out,zI];omega
      have b7:=ad.cell 1
      have cE:=ad.frozen 1
      simp at b7
      clear a2 bM bI aT bk hs bE bc be bT ar aV bQ bP bu a7 bJ
      have a0:bp∉Gp:=fun hm=>by have:=aw.out _ hm;have:=aL.out;omega
      have bW:=ad.alloc (.cells #[.int .i64 kc] 3)
      have n1:(wr.alloc (Obj.cells #[.int .i64 kc] 3)).cell? ⟨bp,1,none⟩=some (.slice Ap ks.length ae):=by simpa using bW.cell 1
      clear bW
      go_wp2_with fail
      go_region_law (first | (refine a3x (by rfl) (by rfl) a0p (by rfl) (by rfl) ((af.alloc (.cells #[.int .i64 kc] 3)).drew) (.int .i64 kc) (by rfl) (by simp [go_sem]) (by rfl) (by rw [zE];omega) (by rw [zE];omega) ?_;intro g2 aB w3 cs bh;have az:Blk w3 bp 188 #[.int .i64 i,.slice Ap ks.length ae]:=((ad.alloc (.cells #[.int .i64 kc] 3)).drew).chg bh.chg a0;have y1:=az.cell 1;have z1:=az.frozen 1;simp at y1) | (go_simp;go_at_call 200;refine aH.mono ?_;rintro e w' ⟨rfl,rfl⟩))
      all_goals
       go_wp2_with fail
       go_roundg q
       case measure=>omega
       case rel =>
        rw [HM.out]
        have h1:=az.set_ 1 (.slice (some ⟨g2,0,none⟩) (ks.length+1) aB)
        have cl:g2≠bp:=by
         intro he
         rcases bh.new g2 (by simp) with h9 | h9
         ·exact a0 (he ▸ h9)
         ·have h8:=ad.lt
          simp at h9
          omega
        have b4:=cs.far (p:=⟨bp,1,none⟩) cl (.slice (some ⟨g2,0,none⟩) (ks.length+1) aB)
        have h2:=b4.toOwn
        have e5:(List.map i64 ks).length=ks.length:=zE _
        rw [e5] at h2
        have ct:Chg [] w2 w3:=((au.alloc (.cells #[.int .i64 kc] 3)).drew).trans bh.chg (fun x hx => .inr (Nat.le_of_lt (aw.out x hx)))
        refine ⟨by omega,by go_num,A3,_,ba,.slice (some ⟨g2,0,none⟩) (ks.length+1) aB,[g2],ks++[kc],rfl,bN,aZ,bX,by omega,bL,?_,?_,hid ?_,?_,?_⟩
        ·simpa using h1
        ·simpa [i64] using h2
        ·rw [cd.out]
        ·exact ct.setCell (.inr (by have:=aL.out;simp;omega)) _
        ·intro x hx
         have cu:x=g2:=by simpa using hx
         rcases bh.new x (by simp [cu]) with h9 | h9
         ·exact aw.out _ h9
         ·have h8:=ad.lt
          have:=aL.out
          simp at h9
          omega
def c4i (ks:List Nat) (ps:List (List Int)) (i:Nat):List Nat:=((ks.zip ps).drop i).flatMap fun p=>a3r p.1 p.2
theorem d4u {ks:List Nat} {ps:List (List Int)} {i k:Nat} {q:List Int} (hk:ks[i]?=some k) (hq:ps[i]?=some q):c4i ks ps i=a3r k q++c4i ks ps (i+1):=by
 have ab:=(List.getElem?_eq_some_iff.1 hk).1
 have aa:=(List.getElem?_eq_some_iff.1 hq).1
 have hl:i<(ks.zip ps).length:=by rw [List.length_zip];omega
 have hz:(ks.zip ps)[i]=(k,q):=by
  rw [List.getElem_zip,(List.getElem?_eq_some_iff.1 hk).2,(List.getElem?_eq_some_iff.1 hq).2]
 unfold c4i
 rw [List.drop_eq_getElem_cons hl,List.flatMap_cons,hz]
theorem e5x {ks:List Nat} {ps:List (List Int)} {i:Nat} (h:ks.length<=i):c4i ks ps i=[]:=by
 unfold c4i
 rw [List.drop_of_length_le (by rw [List.length_zip];omega)]
 rfl
theorem d8g (o:Nat) (ks:List Nat) (ps:List (List Int)):b3t o ks ps=a0b o 4++c4i ks ps 0:=rfl
theorem f2e (w:World) (b:Nat) (F ds:List Nat) (p o n warm:Nat) (ks:List Nat) (l:List Int) (h:a1r w b F ds p) (ho:o<=8) (h1:1<=n) (h2:n<=4096) (h3:warm<=n) (hne:a1q o n warm≠[]) (hkl:ks.length=(a1q o n warm).length) (hks:f1c ks)
  (hll:l.length=n-warm) (hw:∀ x∈l,a2e x) (ha:a0y ds p (b3t o ks (a1k (a1q o n warm) l))) :
  Calls Tryz.prog 225 #[.pointer (some ⟨b,0,none⟩),.int .i64 n,.int .i64 warm] w fun e w'=>∃ (Ak:Option Addr) (nk ck:Nat) (v:Value) (G:List Nat),e=.returned (.tuple #[.agg #[.int .i64 o,.slice Ak nk ck],v,.int .i64 0])/\Own w' 3 v G (l.map vi)/\a1r w' b F ds (p+(b3t o ks (a1k (a1q o n warm) l)).length)/\Chg [b] w w'/\∀ x∈G,w.heap.size<=x:=by
 have bI:=a9y hne
 have bg:=a7o hne
 rw [d8g] at ha ⊢
 have bB:o<2^4:=by omega
 have cu:=fun w'=>b5y n warm w' h1 h2 h3
 have bb:=fun w' (hr:a1r w' b F ds p)=>a0j w' b F ds p 4 o hr (by omega) bB ha.left
 have a1:=fun w'=>b6b o n warm w' ho h1 h2 h3
 have be:=ha.right
 rw [a0a] at be
 obtain ⟨ss,aO⟩:=zX (a1q o n warm)
 rw [<-aO] at bI bg hkl a1 be hne ⊢
 rw [zC,a0a]
 have cI:=h.lt b h.mem
 have aU:ss.length<=256:=by rw [bg];exact Nat.pow_le_pow_right (n:=2) (j:=8) (by decide) ho
 have cw:1<=ss.length:=by rw [bg];exact Nat.two_pow_pos o
 obtain ⟨N,hN⟩:=zX (ss.length)
 rw [<-hN] at aU cw hkl
 have bX:=hid (bI.trans hll.symm)
 have b0:l.length<=4096:=by rw [hll];omega
 have HN:=hid hN
 have HW:=hid hw
 have cE:=hid hks
 have bA:=hid hkl
 have HA:=hid be
 have cg:=hid h.lt
 have bk:=hid b0
 obtain ⟨br,bW⟩:=zX (w.heap.size)
 have aw:=hid bW
 have h':=h
 clear hN hw hks hkl be ha bI bg aO hne hll b0 bW h1 h2 h3
 go_enter Tryz.func225,Tryz.ntmps225
 go_wp2_with (go_at_call 248;refine (cu _).mono ?_;rintro e w' ⟨rfl,rfl⟩)
 obtain ⟨w0,ba⟩:=zX (w.alloc (.cells #[.int .i64 0,.slice none 0 0] 188))
 have aY:Blk w0 br 188 #[.int .i64 0,.slice none 0 0]:=by rw [ba,aw.out];exact Blk.new w _ _
 have bS:Chg [] w w0:=by rw [ba];exact (zR [] w).alloc _
 rw [<-ba,<-aw.out]
 have bb:=bb w0 (h.same bS)
 clear ba h
 refine bb.mono ?_
 rintro e w1 ⟨rfl,aQ,b6⟩
 have cl:b≠br:=by have:=aw.out;omega
 have a0:=aY.chg b6 (by simpa using cl.symm)
 have a1:=a1 w1
 have a7:Chg [b] w w1:=(bS.mono (by simp)).tq b6
 clear bb aY
 go_wp2_with (go_at_call 69;refine (a2b _ b F ds _ aQ).mono ?_;rintro e w' ⟨rfl,rfl⟩)
 refine a1.mono ?_
 rintro e w2 ⟨v2,G2,rfl,ah,bz,bY⟩
 obtain ⟨As,cs,rfl,cn,cD,cb⟩:=ah.oq
 rw [<-HN.out]
 have t1:((N:Int)==0)=false:=by rw [beq_eq_false_iff_ne];omega
 have aH:Apt As ss [b,w2.heap.size]:=ah.apt (fun x hx hm=>by
  have h5:=bY x hx
  have h6:=ah.lt x hx
  have h7:=aQ.lt b aQ.mem
  simp at hm
  omega)
 have a8:=aQ.same bz
 have aB:=Blk.chg a0 bz (by simp)
 have aF:=a7.trans bz (by simp)
 clear ah a1 aQ a0 a7
 obtain ⟨bp,ar⟩:=zX (w2.heap.size)
 rw [<-ar] at aH
 have bo:=hid aH
 have bw:=hid ar
 clear aH
 have cF:br<bp:=by rw [ar];exact aB.lt
 have cy:b<bp:=by rw [ar];have:=a8.lt b a8.mem;exact this
 have aq:Blk (w2.alloc (.cells #[.int .i64 o,.slice none 0 0] 188)) bp 188 #[.int .i64 o,.slice none 0 0]:=by rw [ar];exact Blk.new w2 _ _
 have b7:=a8.same ((zR [] w2).alloc (.cells #[.int .i64 o,.slice none 0 0] 188))
 have aT:=Blk.alloc aB (.cells #[.int .i64 o,.slice none 0 0] 188)
 have cf:=aF.alloc (.cells #[.int .i64 o,.slice none 0 0] 188)
 have bU:Chg [] w2 (w2.alloc (.cells #[.int .i64 o,.slice none 0 0] 188)):=(zR [] w2).alloc _
 have a5:(w2.alloc (.cells #[.int .i64 o,.slice none 0 0] 188)).heap.size=bp+1:=by rw [ar];simp
 have aR:∀ x∈F,x<bp:=fun x hx=>by rw [ar];exact a8.lt x hx
 have aJ:=hid aR
 have ch:=hid a5
 have cA:=hid cb
 have aW:=hid aF
 clear ar a8 aB aF a5 aR cb bY
 go_wp2_with fail
 rw [<-bw.out]
 go_loopg [12,14,15,16,17,44] N (fun j vo va vb vc vd iv wr=>∃ (i p':Nat) (vk:Value) (Gk Go:List Nat),iv=.int .i64 i/\i+j=N/\Blk wr bp 188 #[.int .i64 o,vk]/\Blk wr br 188 #[.int .i64 0,.slice none 0 0]/\Own wr 3 vk Gk ((ks.take i).map i64)/\Own wr 3 vo Go ((l.take (a2m ss i)).map vi)/\a1r wr b F ds p'/\Hid (a0y ds p' (c4i ks (a1k ss l) i))/\Hid (p'+(c4i ks (a1k ss l) i).length=p+4+(c4i ks (a1k ss l) 0).length)/\Hid (Chg [b,bp] w2 wr)/\Hid (∀ x∈Gk,bp<x/\x∉Go)/\Hid (∀ x∈Go,bp<x))
 case atStart =>
  exact ⟨0,p+4,.slice none 0 0,[],[],rfl,by omega,aq,aT,Own.nil _ _,by simpa [a2m] using Own.nil _ _,b7,HA,hid rfl,hid (bU.mono (by simp)),hid (by simp),hid (by simp)⟩
 case round =>
  clear aq b7 aT bU
  obtain ⟨i,p',vk,Gk,Go,rfl,cG,aa,ab,aE,aK,bu,Ha,Hp,bJ,ak,al⟩:=hrel
  rcases gk with _ | j
  ·obtain rfl:N=i:=by omega
   have t2:decide (N<N)=false:=by simp
   obtain ⟨Ak,ck,rfl,aI,ay,az⟩:=aE.oq
   obtain ⟨Ao,co,rfl,bN,bl,bm⟩:=aK.oq
   obtain ⟨kk,aC⟩:=zX ((ks.take N).length)
   rw [<-aC] at aa
   have p0:=aa.cell 0
   have p1:=aa.cell 1
   have q0:=ab.cell 0
   have q1:=ab.cell 1
   have z0:=ab.frozen 0
   have z1:=ab.frozen 1
   simp at p0 p1 q0 q1
   have b4:a2m ss N=l.length:=by unfold a2m;rw [HN.out,zN];exact bX.out
   rw [b4,zN] at aK ⊢
   have hp:=Hp.out
   rw [e5x (by rw [bA.out];exact zQ _)] at hp
   have bV:p'=p+(4+(c4i ks (a1k ss l) 0).length):=by
    rw [List.length_nil] at hp
    omega
   have HP:=hid bV
   have ce:bp≠br:=by omega
   obtain ⟨wF,bd⟩:=zX ((wr.setCell ⟨br,0,none⟩ (.int .i64 o)).setCell ⟨br,1,none⟩ (.slice Ak kk ck))
   have aG:Chg [br] wr wF:=by rw [bd];exact ((zR [br] wr).setCell (.inl (by simp)) _).setCell (.inl (by simp)) _
   have bC:Blk wF br 188 #[.int .i64 o,.slice Ak kk ck]:=by
    rw [bd]
    simpa using (ab.set_ 0 (.int .i64 o)).set_ 1 (.slice Ak kk ck)
   have f0:=bC.cell 0
   have f1:=bC.cell 1
   simp at f0 f1
   have cC:=hid bd
   clear b4 hp bV aI ay az bN bl bm aE Ha Hp aC bd bC
   go_wp2_with fail
   rw [<-cC.out]
   refine bodyPost_ret (v:=.tuple #[.agg #[.int .i64 o,.slice Ak kk ck],.slice Ao l.length co,.int .i64 0]) (by simp [results,Tryz.results225,go_sem,f0,f1]) rfl ?_
   have aS:br∉Go:=fun hm=>by have:=al.out _ hm;omega
   have bM:br∉F:=fun hm=>by have:=cg.out _ hm;have:=aw.out;omega
   refine ⟨Ak,kk,ck,_,Go,rfl,aK.chg aG (fun x hx hm=>by simp at hm;exact aS (hm ▸ hx)),(bu.cast HP.out).chg aG (fun x hx hm=>by simp at hm;exact bM (hm ▸ hx)),?_,fun x hx=>by have:=al.out x hx;have:=aw.out;omega⟩
   refine (aW.out.trans bJ.out ?_).trans aG ?_
   ·intro x hx
    simp at hx
    rcases hx with hx | hx
    ·left;simp [hx]
    ·right;have:=aw.out;omega
   ·intro x hx
    simp at hx
    right
    have:=aw.out
    omega
  ·have bE:i<N:=by omega
   have t2:decide (i<N)=true:=zB bE
   have a3:i<ss.length:=by rw [<-HN.out];exact bE
   obtain ⟨gs,os,rfl,au⟩:=(cA.out.keep bo.out bJ.out).i64_at a3
   have aC:i<ks.length:=by rw [bA.out];exact bE
   have a6:=b0a ss l i a3
   have an:=b0r ss i a3
   have aj:=b2e ss i a3
   rw [bX.out] at an
   have bn:=a0o ks aC
   have av:=d4u (ks:=ks) (zF aC) a6
   have bG:=cE.out ks[i] (zG aC)
   obtain ⟨k,b2⟩:=zX (ks[i])
   obtain ⟨s,bT⟩:=zX (ss[i])
   obtain ⟨q,bO⟩:=zX (a2m ss i)
   rw [<-bT] at au av an aj
   rw [<-bO] at av an aj aK
   rw [<-b2] at bn av bG
   obtain ⟨part,aM⟩:=zX ((l.drop q).take s)
   have bF:part.length=s:=by rw [aM,zI,zO];omega
   have b3:l.take (q+s)=l.take q++part:=by rw [aM,List.take_add]
   have bQ:∀ x∈part,a2e x:=fun x hx=>HW.out x (List.mem_of_mem_drop (List.mem_of_mem_take (aM ▸ hx)))
   rw [<-aM] at av
   have bf:=Ha.out
   rw [av] at bf
   have ax:=f2g wr b F ds p' k part bu bG bQ (by have:=bk.out;omega) bf.left
   rw [bF] at ax
   have ct:=hid bf.right
   have cc:k<32:=by omega
   have cj:=hid av
   have cm:=hid bn
   have cB:=hid b3
   have cq:=hid aj
   have HQ:=hid bO
   have bc:=hid bF
   have ci:s<=4096:=by have:=bk.out;omega
   have cH:q<=4096:=by have:=bk.out;omega
   clear a6 an aj bn av b2 bT bO aM b3 bQ bf bG aC a3 bF Ha
   go_wp2_with fail
   refine ax.mono ?_
   rintro e w3 ⟨vp,Gp,rfl,bZ,aX,aL,b1⟩
   obtain ⟨Ak,ck,rfl,aI,ay,az⟩:=aE.oq
   have hkl:(ks.take i).length=i:=by rw [zI,bA.out];omega
   rw [hkl] at aE aa
   obtain ⟨kd,aA⟩:=zX (ks.take i)
   rw [<-aA] at aE hkl
   have cz:=hid aA
   clear aA
   have bH:bp∉[b]:=by simp;omega
   have aP:=aE.lt
   have a4:=aK.lt
   have ac:=aa.chg aL bH
   have ao:=ab.chg aL (by simp;omega)
   have bh:=aE.chg aL (fun x hx hm=>by have:=(ak.out x hx).1;simp at hm;omega)
   have a9:=aK.chg aL (fun x hx hm=>by have:=al.out x hx;simp at hm;omega)
   have p1:=(Blk.alloc ac (.cells #[.int .i64 k] 3)).cell 1
   simp at p1
   have cr:=ac.cell 1
   simp at cr
   have bi:=hid a9
   have aV:=hid ac
   have aN:=hid ao
   have bs:=hid aX
   have cx:=hid bZ
   have ae:=hid aL
   have b9:=hid b1
   have bL:=hid aP
   have bD:=hid a4
   have ai:=hid aa.lt
   clear aK a9 aa ac ab ao bu aX bZ aL b1 ax az aI ay aP a4 au
   go_wp2_with (at_builtin;refine a0f rfl rfl a0p rfl rfl (bh.alloc _) (.int .i64 k) rfl ?c1 ?c2 ?c3 ?c4 ?_)
   case c1=>simp [go_sem]
   case c2=>rfl
   case c3=>rw [zE,hkl];omega
   case c4=>rw [zE,hkl];omega
   intro g2 am w4 bR ag
   have cv:(w3.alloc (.cells #[.int .i64 k] 3)).heap.size=w3.heap.size+1:=by simp
   have af:=(aV.out.alloc (.cells #[.int .i64 k] 3)).chg ag.chg (fun hm=>by have:=(ak.out _ hm).1;omega)
   have d1:=af.cell 1
   have z1:=af.frozen 1
   simp at d1
   have ca:g2≠bp:=fun he=>by
    rcases ag.new g2 (by simp) with h9 | h9
    ·have:=(ak.out _ h9).1;omega
    ·have:=ae.out.size;have:=ai.out;omega
   have ad:Chg [bp] w4 (w4.setCell ⟨bp,1,none⟩ (.slice (some ⟨g2,0,none⟩) (i+1) am)):=(zR [bp] w4).setCell (.inl (by simp)) _
   have bq:=((((cx.out.alloc (.cells #[.int .i64 k] 3))).chg ag.chg (fun x hx hm=>by have:=b9.out x hx;have:=bL.out x hm;omega))).chg ad (fun x hx hm=>by simp at hm;have:=b9.out x hx;have:=ai.out;omega)
   have bv:=(((bi.out.alloc (.cells #[.int .i64 k] 3))).chg ag.chg (fun x hx hm=>(ak.out x hm).2 hx)).chg ad (fun x hx hm=>by simp at hm;have:=al.out x hx;omega)
   obtain ⟨Ap,cp,rfl,bj,cd,bx,_⟩:=bq.open_
   rw [zE,bc.out] at bj ⊢
   go_wp2_with (at_builtin;refine a1m rfl rfl a0p rfl rfl bv (part.map vi) s rfl ?c1 bx ?c2 ?c3 ?c4 ?_)
   case c1=>rw [zE,bc.out]
   case c2=>intro u hu;obtain ⟨y,_,rfl⟩ := List.mem_map.1 hu;rfl
   case c3=>rw [zE,zE,bc.out,zI];omega
   case c4=>rw [zE,zE,bc.out,zI];omega
   intro v' F' w6 a2 aD
   go_wp2_with fail
   go_roundg j
   case measure=>omega
   case rel =>
    have h5:=af.set_ 1 (.slice (some ⟨g2,0,none⟩) (i+1) am)
    have bK:∀ x,x∈Go->x<w3.heap.size:=fun x hx=>by have:=bD.out x hx;have:=ae.out.size;omega
    have ap:g2∉Go:=fun hm=>by
     rcases ag.new g2 (by simp) with h9 | h9
     ·exact (ak.out _ h9).2 hm
     ·have:=bK _ hm;omega
    have aZ:bp<g2:=by
     rcases ag.new g2 (by simp) with h9 | h9
     ·exact (ak.out _ h9).1
     ·have:=ae.out.size;have:=ai.out;omega
    have ci:w3.heap.size<=w4.heap.size:=by have:=ag.size;omega
    have bP:(w4.setCell ⟨bp,1,none⟩ (.slice (some ⟨g2,0,none⟩) (i+1) am)).heap.size=w4.heap.size:=by simp
    have b5:bp<w3.heap.size:=by have:=ae.out.size;have:=ai.out;omega
    have h6:=Blk.chg h5 aD.chg (fun hm=>by have:=al.out _ hm;omega)
    have h7:=((((aN.out.alloc (.cells #[.int .i64 k] 3)).chg ag.chg (fun hm=>by have:=(ak.out _ hm).1;omega)).chg ad (by simp;omega)).chg aD.chg (fun hm=>by have:=al.out _ hm;omega))
    have h8:=((bR.toOwn.chg ad (fun x hx hm=>by simp at hx hm;omega)).chg aD.chg (fun x hx hm=>by simp at hx;exact ap (hx ▸ hm)))
    have h9:=((((bs.out.same ((zR [] w3).alloc (.cells #[.int .i64 k] 3))).chg ag.chg (fun x hx hm=>by have:=aJ.out x hx;have:=(ak.out _ hm).1;omega)).chg ad (fun x hx hm=>by simp at hm;have:=aJ.out x hx;omega)).chg aD.chg (fun x hx hm=>by have:=aJ.out x hx;have:=al.out _ hm;omega))
    refine ⟨i+1,p'+(a3r k part).length,.slice (some ⟨g2,0,none⟩) (i+1) am,[g2],F',by go_num,by omega,by simpa using h6,h7,?_,?_,h9,ct,hid ?_,hid ?_,hid ?_,hid ?_⟩
    ·rw [cm.out,<-cz.out,zM]
     exact h8
    ·rw [cq.out,cB.out,zM,List.map_take]
     exact a2
    ·have e1:=Hp.out
     rw [cj.out,zC] at e1
     omega
    ·refine (((((bJ.out.trans ae.out (by simp)).alloc (.cells #[.int .i64 k] 3)).trans ag.chg ?_).trans ad (by simp)).trans aD.chg ?_)
     ·intro x hx
      right
      have:=(ak.out x hx).1
      have:=bw.out
      omega
     ·intro x hx
      right
      have:=al.out x hx
      have:=bw.out
      omega
    ·intro x hx
     simp at hx
     subst hx
     refine ⟨aZ,aD.out ?_ ap⟩
     rw [bP]
     exact bR.lt
    ·intro x hx
     rcases aD.new x hx with h | h
     ·exact al.out x h
     ·rw [bP] at h;omega
end Go.Proofs.YtepjepkgcdfboaaGreatDoor
