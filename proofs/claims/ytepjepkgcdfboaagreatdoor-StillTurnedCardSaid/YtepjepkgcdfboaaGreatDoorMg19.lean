/- parts.Best by its contract. -/
import Derived.Test.YtepjepkgcdfboaaGreatDoorMg18
import Derived.Deep.RegionLaw
import Derived.Test.YtepjepkgcdfboaaGreatDoorMg34
set_option linter.unusedVariables false
set_option linter.unusedSimpArgs false
set_option maxHeartbeats 4000000
set_option maxRecDepth 100000
namespace Go.Proofs.YtepjepkgcdfboaaGreatDoor
open Go.RowKit
theorem c5o (o n warm:Nat) (l:List Int):(a6s o n warm l).length=(a1q o n warm).length:=by unfold a6s;rw [zE,a5h]
theorem e4s (o n warm:Nat) (l:List Int):f1c (a6s o n warm l):=by
 intro k hk
 obtain ⟨p,_,rfl⟩:=List.mem_map.1 hk
 exact c4w p
theorem e9j (n warm most:Nat) (l:List Int) (Al:Option Addr) (capl:Nat) (w:World) (h1:1<=n) (h2:n<=4096) (h3:warm<=n) (hm:most<=8) (hll:l.length=n-warm) (hw:∀ x∈l,a2e x) (hcl:a0d vi w Al l) (hcap1:l.length<=capl) (hcap2:capl<=9223372036854775807) :
  Calls Tryz.prog 150 #[.int .i64 n,.int .i64 warm,.int .i64 most,.slice Al l.length capl] w fun e w'=>∃ v G,e=.returned (.tuple #[.agg #[.int .i64 (a1f n warm most l).order,v],.int .i64 0])/\Own w' 3 v G ((a1f n warm most l).ks.map i64)/\Chg [] w w'/\∀ x∈G,w.heap.size<=x:=by
 obtain ⟨L,hL⟩:=zX (l.length)
 have ah:=fun w hc=>d1r n warm l Al capl w h1 h2 h3 hll hw hc
 have ar:=fun o (ho:o<=8) w=>b6b o n warm w ho h1 h2 h3
 have aa:=fun o (ho:o<=8) (hne:a1q o n warm≠[]) A cap w hc hcl=>d7d o n warm (a6s o n warm l) A cap l Al capl w ho h1 h2 h3 hne (c5o o n warm l) (e4s o n warm l) hc hll hw hcl hcap1 hcap2
 rw [<-hL] at ah aa hll hcap1 ⊢
 have aD:=hid ah
 have aN:=hid ar
 have aY:=hid aa
 have HW:=hid hw
 have HL:=hid hL
 have b2:=hid hll
 have cg:L<=4096:=by omega
 have cu:max (most:Int) 0=(most:Int):=by omega
 have b9:min (most:Int) 8=(most:Int):=by omega
 have aW:a1f n warm most l=c2g n warm l (most+1):=by unfold a1f;rw [Nat.min_eq_left hm]
 have cq:=hid aW
 clear ah ar aa hw hL hll aW
 go_enter Tryz.func150,Tryz.ntmps150
 go_wp2_with fail
 have bM:Chg [] w (w.alloc (.cells #[.int .i64 0,.slice none 0 0] 188)):=(zR [] w).alloc _
 refine (aD.out _ (hcl.same bM)).mono ?_
 rintro e cz ⟨rfl,rfl⟩
 go_wp2_with fail
 have az:=(Blk.new (w.alloc (.cells #[.int .i64 0,.slice none 0 0] 188)) 188 #[.int .i64 0,.slice none 0 0])
 have bl:=(Blk.new w 188 #[.int .i64 0,.slice none 0 0]).alloc (.cells #[.int .i64 0,.slice none 0 0] 188)
 have bj:Chg [] w ((w.alloc (.cells #[.int .i64 0,.slice none 0 0] 188)).alloc (.cells #[.int .i64 0,.slice none 0 0] 188)):=((zR [] w).alloc _).alloc _
 have aO:w.heap.size≠w.heap.size+1:=by omega
 have bd:(w.alloc (.cells #[.int .i64 0,.slice none 0 0] 188)).heap.size=w.heap.size+1:=by simp
 rw [bd] at az
 generalize hwA:(w.alloc (.cells #[.int .i64 0,.slice none 0 0] 188)).alloc (.cells #[.int .i64 0,.slice none 0 0] 188)=wA at *
 obtain ⟨br,aL⟩:=zX (w.heap.size)
 obtain ⟨bb,aK⟩:=zX (w.heap.size+1)
 rw [<-aK] at aO az ⊢
 rw [<-aL] at aO bl ⊢
 have b6:=az.lt
 have b3:=hid aL
 have bE:=hid aK
 have cv:=hcl.same bj
 have cA:=hid hwA
 have bz:=hid hcl
 clear bd hwA aL aK bM hcl
 go_loopg [11,12] (most+1) (fun j lv ov wr=>j<=most+1/\ov=.int .i64 ((most+1-j:Nat):Int)/\∃ so am sc v G,lv=.int .i64 ((sc:Nat):Int)/\Hid (c2g n warm l (most+1-j)=⟨so,am,sc⟩) /\
   Blk wr bb 188 #[.int .i64 ((so:Nat):Int),v]/\Own wr 3 v G (am.map i64)/\Chg [bb] wA wr/\∀ x∈G,wA.heap.size<=x)
 case atStart=>exact ⟨zQ _,by simp,0,[],0,.slice none 0 0,[],rfl,hid (by simp [c2g]),az,Own.nil _ _,zR _ _,by simp⟩
 case round =>
  obtain ⟨hj,rfl,so,am,sc,v,G,rfl,bx,ay,al,ao,hG⟩:=hrel
  have HG:=hid hG
  obtain ⟨Av,an,rfl,-,-,-⟩:=al.oq
  clear hG az
  rcases gk with _ | j
  ·have t4:decide ((most:Int)+1<=(most:Int))=false:=zA (by omega)
   have au:=bl.chg ao (by simpa using aO)
   have bZ:=ay.cell 0
   have cr:=ay.cell 1
   have b4:=au.cell 0
   have b1:=au.cell 1
   have cw:=au.frozen 0
   have cI:=au.frozen 1
   simp at bZ cr b4 b1
   go_wp2_with fail
   have hF:=(au.set_ 0 (.int .i64 so)).set_ 1 (.slice Av am.length an)
   have cb:=(al.far (p:=⟨br,0,none⟩) (fun hm=>by have h7:=HG.out _ hm;have h8:=bl.lt;simp at h7;omega) (.int .i64 so)).far (p:=⟨br,1,none⟩) (fun hm=>by have h7:=HG.out _ hm;have h8:=bl.lt;simp at h7;omega) (.slice Av am.length an)
   have ce:Chg [bb,br] wA ((wr.setCell ⟨br,0,none⟩ (.int .i64 so)).setCell ⟨br,1,none⟩ (.slice Av am.length an)):=((ao.mono (by simp)).setCell (by simp) _).setCell (by simp) _
   generalize hwF:(wr.setCell ⟨br,0,none⟩ (.int .i64 so)).setCell ⟨br,1,none⟩ (.slice Av am.length an)=wF at *
   have bI:=hF.cell 0
   have bV:=hF.cell 1
   simp at bI bV
   have e1:a1f n warm most l=⟨so,am,sc⟩:=by rw [cq.out,<-bx.out];rfl
   refine bodyPost_ret (v:=.tuple #[.agg #[.int .i64 so,.slice Av am.length an],.int .i64 0]) (by simp [results,Tryz.results150,go_sem,bI,bV]) rfl ⟨.slice Av am.length an,G,?_,?_,?_,?_⟩
   ·rw [e1]
   ·rw [e1];exact cb
   ·refine bj.trans ce ?_
    intro x hx
    right
    have:=b3.out
    have:=bE.out
    simp at hx
    omega
   ·intro x hx
    have:=HG.out x hx
    have:=bj.size
    omega
  ·obtain ⟨i,bU⟩:=zX (most+1-(j+1))
   rw [<-bU] at bx ⊢
   have b5:i<=most:=by omega
   have bO:most+1-j=i+1:=by omega
   have HI:=hid bO
   have t4:decide (i<=most)=true:=zB b5
   clear bU bO
   have ab:=b7f n warm l i
   rw [bx.out] at ab
   have bv:i<=8:=by omega
   go_wp2_with fail
   refine (aN.out i bv _).mono ?_
   rintro e w2 ⟨v2,G2,rfl,aj,aQ,cE⟩
   obtain ⟨A2,aB,rfl,aw,bu,-⟩:=aj.oq
   by_cases hne:a1q i n warm=[]
   ·have aU:c2g n warm l (i+1)=⟨so,am,sc⟩:=by rw [ab,b3b,if_pos hne]
    have ba:=hid aU
    rw [hne] at aj aw ⊢
    clear hne ab aU
    simp only [List.length_nil]
    go_wp2_with fail
    go_roundg j
    case measure=>omega
    case rel =>
     rw [HI.out]
     exact ⟨by omega,by go_num,so,am,sc,_,G,rfl,ba,ay.chg aQ (by simp),al.same aQ,ao.tq (aQ.mono (by simp)),HG.out⟩
   ·have hN:=a7o hne
    have aF:=a9y hne
    obtain ⟨ss,a3⟩:=zX (a1q i n warm)
    have bm:2^i<=256:=Nat.pow_le_pow_right (n:=2) (j:=8) (by decide) bv
    have bB:=Nat.two_pow_pos i
    rw [<-hN] at bB bm
    have aT:=aY.out i bv hne
    rw [b3b,if_neg hne] at ab
    rw [<-a3] at hN aF aj aw bB bm ab aT ⊢
    have bc:a6s i n warm l=(a1k ss l).map a4a:=by unfold a6s;rw [<-a3]
    have aA:=c5o i n warm l
    rw [<-a3] at aA
    obtain ⟨N,bC⟩:=zX (ss.length)
    rw [<-bC] at bB bm aw aA ⊢
    have t5:((N:Int)==0)=false:=by rw [beq_eq_false_iff_ne];omega
    have HN:=hid bC
    have a1:=hid ab
    have bD:=hid aT
    have bo:=hid bc
    have a8:=hid aA
    have cH:=hid a3
    have bq:=hid aF
    clear hN aF a3 ab aT bc aA bC hne
    go_wp2_with fail
    have aW:=Blk.new w2 188 #[.int .i64 i,.slice none 0 0]
    have ag:Chg [bb] wA w2:=ao.tq (aQ.mono (by simp))
    have cj:a0d i64 w2 A2 ss:=by have:=aj.cells;exact this
    have aZ:=bz.out.same (bj.trans ag (by
     intro x hx
     right
     have:=bE.out
     simp at hx
     omega))
    obtain ⟨bp,aI⟩:=zX (w2.heap.size)
    rw [<-aI] at aW ⊢
    have aM:=hid aI
    have cn:Hid (L<=capl):=hid hcap1
    have bA:=hid hcap2
    have bL:Chg [] w2 (w2.alloc (.cells #[.int .i64 i,.slice none 0 0] 188)):=(zR [] w2).alloc _
    clear aI hcap1 hcap2 aw bu
    go_loopg [15,44] N (fun q rv iv wx=>q<=N/\iv=.int .i64 ((N-q:Nat):Int)/\∃ A' c' rest v G ks,rv=.slice A' rest.length c'/\Hid (rest=l.drop (a2m ss (N-q)))/\a0d vi w2 A' rest/\rest.length<=c'/\c'<=9223372036854775807/\rest.length<=4096 /\
     Blk wx bp 188 #[.int .i64 i,v]/\Own wx 3 v G (ks.map i64)/\Hid (ks=((a1k ss l).map a4a).take (N-q))/\Chg [] w2 wx/\∀ x∈G,w2.heap.size<x)
    case atStart =>
     refine ⟨zQ _,by simp,Al,capl,l,.slice none 0 0,[],[],?_,hid (by simp [a2m]),aZ,?_,bA.out,?_,aW,Own.nil _ _,hid (by simp),bL,by simp⟩
     ·rw [<-HL.out]
     ·rw [<-HL.out];exact cn.out
     ·rw [<-HL.out];exact cg
    case round =>
     obtain ⟨hq,rfl,A',c',rest,vp,Gp,ks,rfl,ak,bn,b7,cy,cD,ad,af,aX,av,bJ⟩:=hrel
     have ax:=hid bJ
     clear bJ aW bL
     obtain ⟨Ap,ae,rfl,-,-,-⟩:=af.oq
     rcases gk with _ | q
     ·have t7:decide (((N-0:Nat):Int)<(N:Int))=false:=by simp
      have bw:=ad.cell 0
      have bi:=ad.cell 1
      simp at bw bi
      have e2:((a1k ss l).map a4a).take (N-0)=(a1k ss l).map a4a:=by rw [Nat.sub_zero,HN.out,<-a5h ss l,<-zE (f:=a4a),zN]
      have aS:ks.length=N:=by rw [aX.out,e2,<-bo.out,a8.out,HN.out]
      have a5:a0d i64 wr Ap (a6s i n warm l):=by
       have h9:=af.cells
       rw [aX.out,e2,<-bo.out] at h9
       exact h9
      have aa:=bD.out Ap ae wr a5 (aZ.same av)
      have e3:(a6s i n warm l).length=N:=by rw [a8.out,HN.out]
      rw [e3] at aa
      obtain ⟨CC,bh⟩:=zX (a9m (a6s i n warm l) (a1k ss l))
      rw [<-bh] at aa
      have aU:=a1.out
      rw [<-bh] at aU
      have ba:=hid aU
      have cJ:=hid bh
      have cc:=hid aS
      rw [aS] at bi ad af
      have a0:Hid (ks=a6s i n warm l):=hid (by rw [aX.out,e2,bo.out])
      clear e2 e3 bh aU aS a5
      go_wp2_with fail
      refine aa.mono ?_
      rintro e w4 ⟨rfl,bs⟩
      have aG:Chg [] w2 w4:=av.tq bs
      have a4:=ad.chg bs (by simp)
      have aC:=af.same bs
      have ai:=ay.chg (aQ.tq aG) (by simp)
      have aR:=al.same (aQ.tq aG)
      have aP:Chg [bb] wA w4:=ao.tq ((aQ.tq aG).mono (by simp))
      have bw:=a4.cell 0
      have bi:=a4.cell 1
      have cp:=ai.cell 0
      have ci:=ai.cell 1
      have cB:=ai.frozen 0
      have cC:=ai.frozen 1
      simp at bw bi cp ci
      clear aa
      by_cases hc0:sc=0
      ·have t8:((sc:Int)==0)=true:=by rw [beq_iff_eq];omega
       have ac:=ba.out
       rw [if_pos (.inl hc0)] at ac
       have ap:=hid ac
       clear ac hc0
       go_wp2_with fail
       go_roundg j
       case measure=>omega
       case rel =>
        rw [HI.out]
        have h1:=(ai.set_ 0 (.int .i64 i)).set_ 1 (.slice Ap N ae)
        have h2:=(aC.far (p:=⟨bb,0,none⟩) (fun hm=>by have h7:=ax.out _ hm;have h8:=ag.size;simp at h7;omega) (.int .i64 i)).far (p:=⟨bb,1,none⟩) (fun hm=>by have h7:=ax.out _ hm;have h8:=ag.size;simp at h7;omega) (.slice Ap N ae)
        rw [a0.out] at h2
        refine ⟨by omega,by go_num,i,a6s i n warm l,CC,.slice Ap N ae,Gp,rfl,ap,by simpa using h1,h2,(aP.setCell (by simp) _).setCell (by simp) _,fun x hx => ?_⟩
        have h7:=ax.out x hx
        have h8:=ag.size
        omega
      ·have t8:((sc:Int)==0)=false:=by rw [beq_eq_false_iff_ne];omega
       by_cases hc1:CC<sc
       ·have t9:decide (CC<sc)=true:=by simpa using hc1
        have ac:=ba.out
        rw [if_pos (.inr hc1)] at ac
        have ap:=hid ac
        clear ac hc0
        go_wp2_with fail
        go_roundg j
        case measure=>omega
        case rel =>
         rw [HI.out]
         have h1:=(ai.set_ 0 (.int .i64 i)).set_ 1 (.slice Ap N ae)
         have h2:=(aC.far (p:=⟨bb,0,none⟩) (fun hm=>by have h7:=ax.out _ hm;have h8:=ag.size;simp at h7;omega) (.int .i64 i)).far (p:=⟨bb,1,none⟩) (fun hm=>by have h7:=ax.out _ hm;have h8:=ag.size;simp at h7;omega) (.slice Ap N ae)
         rw [a0.out] at h2
         refine ⟨by omega,by go_num,i,a6s i n warm l,CC,.slice Ap N ae,Gp,rfl,ap,by simpa using h1,h2,(aP.setCell (by simp) _).setCell (by simp) _,fun x hx => ?_⟩
         have h7:=ax.out x hx
         have h8:=ag.size
         omega
       ·have t9:decide (CC<sc)=false:=by simpa using hc1
        have ac:=ba.out
        rw [if_neg (by rintro (h | h);exact hc0 h;exact hc1 h)] at ac
        have ap:=hid ac
        clear ac hc0
        go_wp2_with fail
        go_roundg j
        case measure=>omega
        case rel =>
         rw [HI.out]
         exact ⟨by omega,by go_num,so,am,sc,_,G,rfl,ap,ai,aR,aP,HG.out⟩
     ·obtain ⟨m,bN⟩:=zX (N-(q+1))
      rw [<-bN] at ak aX ⊢
      have cm:m<N:=by omega
      have bP:N-q=m+1:=by omega
      have HM:=hid bP
      have aV:m<ss.length:=by rw [<-HN.out];exact cm
      obtain ⟨cG,cF,rfl,aJ⟩:=(cj.same av).i64_at aV
      have aE:=b0a ss l m aV
      have be:=b0r ss m aV
      have bg:=b1q l ss m aV
      rw [<-ak.out] at aE bg
      have bH:m<((a1k ss l).map a4a).length:=by rw [zE,a5h];exact aV
      have a9:=a0o ((a1k ss l).map a4a) bH
      have bG:((a1k ss l).map a4a)[m]=a4a (rest.take ss[m]):=by
       have h9:((a1k ss l).map a4a)[m]?=some (a4a (rest.take ss[m])):=by rw [zW,aE];rfl
       exact (List.getElem?_eq_some_iff.1 h9).2
      rw [bG,<-aX.out] at a9
      obtain ⟨s,hs⟩:=zX (ss[m])
      rw [<-hs] at aJ be bg a9
      have ch:s<=rest.length:=by
       have:=bq.out
       have:=b2.out
       have:=HL.out
       rw [ak.out,zO]
       omega
      have bS:∀ x∈rest.take s,a2e x:=fun x hx=>HW.out x (by
       have:=List.mem_of_mem_take hx
       rw [ak.out] at this
       exact List.mem_of_mem_drop this)
      have bc:(rest.take s).length=s:=by rw [zI];omega
      have cs:=(bn.take s).same av
      have aH:=e1n (rest.take s) A' c' wr.drew bS (cs.same (zR [] wr).drew) (by omega)
      rw [bc] at aH
      obtain ⟨A3,bR,-,a6⟩:=a9z (P:=Tryz.prog) Tryz.underlying22 a8q A' rest.length c' s ch b7
      have a7:=a6 Int vi w2 rest rfl bn
      have bX:Hid (rest.drop s=l.drop (a2m ss (m+1))):=hid bg
      have bT:rest.length-s=(rest.drop s).length:=by rw [zO]
      rw [bT] at bR
      have bW:(rest.drop s).length<=4096:=by rw [zO];omega
      have bK:(rest.drop s).length<=c'-s:=by rw [zO];omega
      obtain ⟨bf,aq⟩:=zX (rest.drop s)
      rw [<-aq] at bR bW bK a7 bX
      have ca:s<=c':=by omega
      obtain ⟨kc,bQ⟩:=zX (a4a (rest.take s))
      rw [<-bQ] at aH a9
      have cl:=hid a9
      have ct:ks.length<=256:=by rw [aX.out,zI];omega
      have bY:=ad.cell 1
      have cx:=ad.frozen 1
      simp at bY
      clear a9 bG bH aE bg hs bS a6 be bT aq aV bN bP bn bc bQ
      have a2:bp∉Gp:=fun hm=>by have:=ax.out _ hm;have:=aM.out;omega
      have bF:=ad.alloc (.cells #[.int .i64 kc] 3)
      have n1:(wr.alloc (Obj.cells #[.int .i64 kc] 3)).cell? ⟨bp,1,none⟩=some (.slice Ap ks.length ae):=by simpa using bF.cell 1
      clear bF
      go_wp2_with fail
      go_region_law (first | (refine a3x (by rfl) (by rfl) a0p (by rfl) (by rfl) ((af.alloc (.cells #[.int .i64 kc] 3)).drew) (.int .i64 kc) (by rfl) (by simp [go_sem]) (by rfl) (by rw [zE];omega) (by rw [zE];omega) ?_;intro g2 aB w3 b0 bk;have az:Blk w3 bp 188 #[.int .i64 i,.slice Ap ks.length ae]:=((ad.alloc (.cells #[.int .i64 kc] 3)).drew).chg bk.chg a2;have y1:=az.cell 1;have z1:=az.frozen 1;simp at y1) | (go_simp;go_at_call 200;refine aH.mono ?_;rintro e w' ⟨rfl,rfl⟩))
      all_goals
       go_wp2_with fail
       go_roundg q
       case measure=>omega
       case rel =>
        rw [HM.out]
        have h1:=az.set_ 1 (.slice (some ⟨g2,0,none⟩) (ks.length+1) aB)
        have cd:g2≠bp:=by
         intro he
         rcases bk.new g2 (by simp) with h9 | h9
         ·exact a2 (he ▸ h9)
         ·have h8:=ad.lt
          simp at h9
          omega
        have cf:=b0.far (p:=⟨bp,1,none⟩) cd (.slice (some ⟨g2,0,none⟩) (ks.length+1) aB)
        have h2:=cf.toOwn
        have e5:(List.map i64 ks).length=ks.length:=zE _
        rw [e5] at h2
        have co:Chg [] w2 w3:=((av.alloc (.cells #[.int .i64 kc] 3)).drew).trans bk.chg (fun x hx => .inr (Nat.le_of_lt (ax.out x hx)))
        refine ⟨by omega,by go_num,A3,_,bf,.slice (some ⟨g2,0,none⟩) (ks.length+1) aB,[g2],ks++[kc],rfl,bX,a7,bK,by omega,bW,?_,?_,hid ?_,?_,?_⟩
        ·simpa using h1
        ·simpa [i64] using h2
        ·rw [cl.out]
        ·exact co.setCell (.inr (by have:=aM.out;simp;omega)) _
        ·intro x hx
         have ck:x=g2:=by simpa using hx
         rcases bk.new x (by simp [ck]) with h9 | h9
         ·exact ax.out _ h9
         ·have h8:=ad.lt
          have:=aM.out
          simp at h9
          omega
def c4i (ks:List Nat) (ps:List (List Int)) (i:Nat):List Nat:=((ks.zip ps).drop i).flatMap fun p=>a3r p.1 p.2
theorem d4u {ks:List Nat} {ps:List (List Int)} {i k:Nat} {q:List Int} (hk:ks[i]?=some k) (hq:ps[i]?=some q):c4i ks ps i=a3r k q++c4i ks ps (i+1):=by
 have ab:=(List.getElem?_eq_some_iff.1 hk).1
 have aa:=(List.getElem?_eq_some_iff.1 hq).1
 have hl:i<(ks.zip ps).length:=by rw [List.length_zip];omega
 have hz:(ks.zip ps)[i]=(k,q):=by
  rw [List.getElem_zip,(List.getElem?_eq_some_iff.1 hk).2,(List.getElem?_eq_some_iff.1 hq).2]
 unfold c4i
 rw [List.drop_eq_getElem_cons hl,List.flatMap_cons,hz]
theorem e5x {ks:List Nat} {ps:List (List Int)} {i:Nat} (h:ks.length<=i):c4i ks ps i=[]:=by
 unfold c4i
 rw [List.drop_of_length_le (by rw [List.length_zip];omega)]
 rfl
theorem d8g (o:Nat) (ks:List Nat) (ps:List (List Int)):b3t o ks ps=a0b o 4++c4i ks ps 0:=rfl
theorem f2e (w:World) (b:Nat) (F ds:List Nat) (p o n warm:Nat) (ks:List Nat) (l:List Int) (h:a1r w b F ds p) (ho:o<=8) (h1:1<=n) (h2:n<=4096) (h3:warm<=n) (hne:a1q o n warm≠[]) (hkl:ks.length=(a1q o n warm).length) (hks:f1c ks)
  (hll:l.length=n-warm) (hw:∀ x∈l,a2e x) (ha:a0y ds p (b3t o ks (a1k (a1q o n warm) l))) :
  Calls Tryz.prog 225 #[.pointer (some ⟨b,0,none⟩),.int .i64 n,.int .i64 warm] w fun e w'=>∃ (Ak:Option Addr) (nk ck:Nat) (v:Value) (G:List Nat),e=.returned (.tuple #[.agg #[.int .i64 o,.slice Ak nk ck],v,.int .i64 0])/\Own w' 3 v G (l.map vi)/\a1r w' b F ds (p+(b3t o ks (a1k (a1q o n warm) l)).length)/\Chg [b] w w'/\∀ x∈G,w.heap.size<=x:=by
 have bj:=a9y hne
 have be:=a7o hne
 rw [d8g] at ha ⊢
 have bo:o<2^4:=by omega
 have cB:=fun w'=>b5y n warm w' h1 h2 h3
 have bg:=fun w' (hr:a1r w' b F ds p)=>a0j w' b F ds p 4 o hr (by omega) bo ha.left
 have a7:=fun w'=>b6b o n warm w' ho h1 h2 h3
 have ba:=ha.right
 rw [a0a] at ba
 obtain ⟨ss,aS⟩:=zX (a1q o n warm)
 rw [<-aS] at bj be hkl a7 ba hne ⊢
 rw [zC,a0a]
 have cH:=h.lt b h.mem
 have a9:ss.length<=256:=by rw [be];exact Nat.pow_le_pow_right (n:=2) (j:=8) (by decide) ho
 have cz:1<=ss.length:=by rw [be];exact Nat.two_pow_pos o
 obtain ⟨N,hN⟩:=zX (ss.length)
 rw [<-hN] at a9 cz hkl
 have b9:=hid (bj.trans hll.symm)
 have ca:l.length<=4096:=by rw [hll];omega
 have HN:=hid hN
 have HW:=hid hw
 have cf:=hid hks
 have bC:=hid hkl
 have HA:=hid ba
 have cj:=hid h.lt
 have bn:=hid ca
 obtain ⟨br,cb⟩:=zX (w.heap.size)
 have aw:=hid cb
 have h':=h
 clear hN hw hks hkl ba ha bj be aS hne hll ca cb h1 h2 h3
 go_enter Tryz.func225,Tryz.ntmps225
 go_wp2_with (go_at_call 248;refine (cB _).mono ?_;rintro e w' ⟨rfl,rfl⟩)
 obtain ⟨w0,bf⟩:=zX (w.alloc (.cells #[.int .i64 0,.slice none 0 0] 188))
 have aT:Blk w0 br 188 #[.int .i64 0,.slice none 0 0]:=by rw [bf,aw.out];exact Blk.new w _ _
 have bV:Chg [] w w0:=by rw [bf];exact (zR [] w).alloc _
 rw [<-bf,<-aw.out]
 have bg:=bg w0 (h.same bV)
 clear bf h
 refine bg.mono ?_
 rintro e w1 ⟨rfl,aW,bS⟩
 have ct:b≠br:=by have:=aw.out;omega
 have aR:=aT.chg bS (by simpa using ct.symm)
 have a7:=a7 w1
 have a6:Chg [b] w w1:=(bV.mono (by simp)).tq bS
 clear bg aT
 go_wp2_with (go_at_call 69;refine (a2b _ b F ds _ aW).mono ?_;rintro e w' ⟨rfl,rfl⟩)
 refine a7.mono ?_
 rintro e w2 ⟨v2,G2,rfl,an,bK,b1⟩
 obtain ⟨As,cs,rfl,ce,cx,b7⟩:=an.oq
 rw [<-HN.out]
 have t1:((N:Int)==0)=false:=by rw [beq_eq_false_iff_ne];omega
 have aH:Apt As ss [b,w2.heap.size]:=an.apt (fun x hx hm=>by
  have h5:=b1 x hx
  have h6:=an.lt x hx
  have h7:=aW.lt b aW.mem
  simp at hm
  omega)
 have aM:=aW.same bK
 have az:=Blk.chg aR bK (by simp)
 have ax:=a6.trans bK (by simp)
 clear an a7 aW aR a6
 obtain ⟨bp,ap⟩:=zX (w2.heap.size)
 rw [<-ap] at aH
 have bm:=hid aH
 have bI:=hid ap
 clear aH
 have cF:br<bp:=by rw [ap];exact az.lt
 have cv:b<bp:=by rw [ap];have:=aM.lt b aM.mem;exact this
 have ao:Blk (w2.alloc (.cells #[.int .i64 o,.slice none 0 0] 188)) bp 188 #[.int .i64 o,.slice none 0 0]:=by rw [ap];exact Blk.new w2 _ _
 have bX:=aM.same ((zR [] w2).alloc (.cells #[.int .i64 o,.slice none 0 0] 188))
 have aZ:=Blk.alloc az (.cells #[.int .i64 o,.slice none 0 0] 188)
 have cq:=ax.alloc (.cells #[.int .i64 o,.slice none 0 0] 188)
 have bP:Chg [] w2 (w2.alloc (.cells #[.int .i64 o,.slice none 0 0] 188)):=(zR [] w2).alloc _
 have aV:(w2.alloc (.cells #[.int .i64 o,.slice none 0 0] 188)).heap.size=bp+1:=by rw [ap];simp
 have a3:∀ x∈F,x<bp:=fun x hx=>by rw [ap];exact aM.lt x hx
 have aK:=hid a3
 have ch:=hid aV
 have cw:=hid b7
 have a5:=hid ax
 clear ap aM az ax aV a3 b7 b1
 go_wp2_with fail
 rw [<-bI.out]
 go_loopg [12,14,15,16,17,44] N (fun j vo va vb vc vd iv wr=>∃ (i p':Nat) (vk:Value) (Gk Go:List Nat),iv=.int .i64 i/\i+j=N/\Blk wr bp 188 #[.int .i64 o,vk]/\Blk wr br 188 #[.int .i64 0,.slice none 0 0]/\Own wr 3 vk Gk ((ks.take i).map i64)/\Own wr 3 vo Go ((l.take (a2m ss i)).map vi)/\a1r wr b F ds p'/\Hid (a0y ds p' (c4i ks (a1k ss l) i))/\Hid (p'+(c4i ks (a1k ss l) i).length=p+4+(c4i ks (a1k ss l) 0).length)/\Hid (Chg [b,bp] w2 wr)/\Hid (∀ x∈Gk,bp<x/\x∉Go)/\Hid (∀ x∈Go,bp<x))
 case atStart =>
  exact ⟨0,p+4,.slice none 0 0,[],[],rfl,by omega,ao,aZ,Own.nil _ _,by simpa [a2m] using Own.nil _ _,bX,HA,hid rfl,hid (bP.mono (by simp)),hid (by simp),hid (by simp)⟩
 case round =>
  clear ao bX aZ bP
  obtain ⟨i,p',vk,Gk,Go,rfl,cI,aa,ab,aE,aA,bE,Ha,Hp,bM,ai,aj⟩:=hrel
  rcases gk with _ | j
  ·obtain rfl:N=i:=by omega
   have t2:decide (N<N)=false:=by simp
   obtain ⟨Ak,ck,rfl,ay,aG,aI⟩:=aE.oq
   obtain ⟨Ao,co,rfl,bx,bF,bv⟩:=aA.oq
   obtain ⟨kk,aJ⟩:=zX ((ks.take N).length)
   rw [<-aJ] at aa
   have p0:=aa.cell 0
   have p1:=aa.cell 1
   have q0:=ab.cell 0
   have q1:=ab.cell 1
   have z0:=ab.frozen 0
   have z1:=ab.frozen 1
   simp at p0 p1 q0 q1
   have b6:a2m ss N=l.length:=by unfold a2m;rw [HN.out,zN];exact b9.out
   rw [b6,zN] at aA ⊢
   have hp:=Hp.out
   rw [e5x (by rw [bC.out];exact zQ _)] at hp
   have bR:p'=p+(4+(c4i ks (a1k ss l) 0).length):=by
    rw [List.length_nil] at hp
    omega
   have HP:=hid bR
   have cr:bp≠br:=by omega
   obtain ⟨wF,bc⟩:=zX ((wr.setCell ⟨br,0,none⟩ (.int .i64 o)).setCell ⟨br,1,none⟩ (.slice Ak kk ck))
   have aC:Chg [br] wr wF:=by rw [bc];exact ((zR [br] wr).setCell (.inl (by simp)) _).setCell (.inl (by simp)) _
   have bu:Blk wF br 188 #[.int .i64 o,.slice Ak kk ck]:=by
    rw [bc]
    simpa using (ab.set_ 0 (.int .i64 o)).set_ 1 (.slice Ak kk ck)
   have f0:=bu.cell 0
   have f1:=bu.cell 1
   simp at f0 f1
   have cy:=hid bc
   clear b6 hp bR ay aG aI bx bF bv aE Ha Hp aJ bc bu
   go_wp2_with fail
   rw [<-cy.out]
   refine bodyPost_ret (v:=.tuple #[.agg #[.int .i64 o,.slice Ak kk ck],.slice Ao l.length co,.int .i64 0]) (by simp [results,Tryz.results225,go_sem,f0,f1]) rfl ?_
   have a1:br∉Go:=fun hm=>by have:=aj.out _ hm;omega
   have bD:br∉F:=fun hm=>by have:=cj.out _ hm;have:=aw.out;omega
   refine ⟨Ak,kk,ck,_,Go,rfl,aA.chg aC (fun x hx hm=>by simp at hm;exact a1 (hm ▸ hx)),(bE.cast HP.out).chg aC (fun x hx hm=>by simp at hm;exact bD (hm ▸ hx)),?_,fun x hx=>by have:=aj.out x hx;have:=aw.out;omega⟩
   refine (a5.out.trans bM.out ?_).trans aC ?_
   ·intro x hx
    simp at hx
    rcases hx with hx | hx
    ·left;simp [hx]
    ·right;have:=aw.out;omega
   ·intro x hx
    simp at hx
    right
    have:=aw.out
    omega
  ·have bO:i<N:=by omega
   have t2:decide (i<N)=true:=zB bO
   have a0:i<ss.length:=by rw [<-HN.out];exact bO
   obtain ⟨gs,os,rfl,au⟩:=(cw.out.keep bm.out bM.out).i64_at a0
   have aJ:i<ks.length:=by rw [bC.out];exact bO
   have aQ:=b0a ss l i a0
   have am:=b0r ss i a0
   have ah:=b2e ss i a0
   rw [b9.out] at am
   have bw:=a0o ks aJ
   have av:=d4u (ks:=ks) (zF aJ) aQ
   have bJ:=cf.out ks[i] (zG aJ)
   obtain ⟨k,bZ⟩:=zX (ks[i])
   obtain ⟨s,b5⟩:=zX (ss[i])
   obtain ⟨q,bk⟩:=zX (a2m ss i)
   rw [<-b5] at au av am ah
   rw [<-bk] at av am ah aA
   rw [<-bZ] at bw av bJ
   obtain ⟨part,aN⟩:=zX ((l.drop q).take s)
   have bB:part.length=s:=by rw [aN,zI,zO];omega
   have bY:l.take (q+s)=l.take q++part:=by rw [aN,List.take_add]
   have b3:∀ x∈part,a2e x:=fun x hx=>HW.out x (List.mem_of_mem_drop (List.mem_of_mem_take (aN ▸ hx)))
   rw [<-aN] at av
   have bd:=Ha.out
   rw [av] at bd
   have aB:=f2g wr b F ds p' k part bE bJ b3 (by have:=bn.out;omega) bd.left
   rw [bB] at aB
   have cm:=hid bd.right
   have cD:k<32:=by omega
   have cd:=hid av
   have cA:=hid bw
   have ci:=hid bY
   have cl:=hid ah
   have HQ:=hid bk
   have bb:=hid bB
   have cE:s<=4096:=by have:=bn.out;omega
   have cG:q<=4096:=by have:=bn.out;omega
   clear aQ am ah bw av bZ b5 bk aN bY b3 bd bJ aJ a0 bB Ha
   go_wp2_with fail
   refine aB.mono ?_
   rintro e w3 ⟨vp,Gp,rfl,b4,aX,aL,bQ⟩
   obtain ⟨Ak,ck,rfl,ay,aG,aI⟩:=aE.oq
   have hkl:(ks.take i).length=i:=by rw [zI,bC.out];omega
   rw [hkl] at aE aa
   obtain ⟨kd,aF⟩:=zX (ks.take i)
   rw [<-aF] at aE hkl
   have cc:=hid aF
   clear aF
   have bN:bp∉[b]:=by simp;omega
   have aO:=aE.lt
   have a8:=aA.lt
   have ac:=aa.chg aL bN
   have aq:=ab.chg aL (by simp;omega)
   have bz:=aE.chg aL (fun x hx hm=>by have:=(ai.out x hx).1;simp at hm;omega)
   have aY:=aA.chg aL (fun x hx hm=>by have:=aj.out x hx;simp at hm;omega)
   have p1:=(Blk.alloc ac (.cells #[.int .i64 k] 3)).cell 1
   simp at p1
   have cu:=ac.cell 1
   simp at cu
   have bL:=hid aY
   have a2:=hid ac
   have aU:=hid aq
   have bq:=hid aX
   have cg:=hid b4
   have ae:=hid aL
   have b0:=hid bQ
   have bA:=hid aO
   have bH:=hid a8
   have al:=hid aa.lt
   clear aA aY aa ac ab aq bE aX b4 aL bQ aB aI ay aG aO a8 au
   go_wp2_with (at_builtin;refine a0f rfl rfl a0p rfl rfl (bz.alloc _) (.int .i64 k) rfl ?c1 ?c2 ?c3 ?c4 ?_)
   case c1=>simp [go_sem]
   case c2=>rfl
   case c3=>rw [zE,hkl];omega
   case c4=>rw [zE,hkl];omega
   intro g2 ak w4 bT ag
   have cn:(w3.alloc (.cells #[.int .i64 k] 3)).heap.size=w3.heap.size+1:=by simp
   have af:=(a2.out.alloc (.cells #[.int .i64 k] 3)).chg ag.chg (fun hm=>by have:=(ai.out _ hm).1;omega)
   have d1:=af.cell 1
   have z1:=af.frozen 1
   simp at d1
   have bW:g2≠bp:=fun he=>by
    rcases ag.new g2 (by simp) with h9 | h9
    ·have:=(ai.out _ h9).1;omega
    ·have:=ae.out.size;have:=al.out;omega
   have ad:Chg [bp] w4 (w4.setCell ⟨bp,1,none⟩ (.slice (some ⟨g2,0,none⟩) (i+1) ak)):=(zR [bp] w4).setCell (.inl (by simp)) _
   have bG:=((((cg.out.alloc (.cells #[.int .i64 k] 3))).chg ag.chg (fun x hx hm=>by have:=b0.out x hx;have:=bA.out x hm;omega))).chg ad (fun x hx hm=>by simp at hm;have:=b0.out x hx;have:=al.out;omega)
   have bi:=(((bL.out.alloc (.cells #[.int .i64 k] 3))).chg ag.chg (fun x hx hm=>(ai.out x hm).2 hx)).chg ad (fun x hx hm=>by simp at hm;have:=aj.out x hx;omega)
   obtain ⟨Ap,cp,rfl,bl,cC,bh,_⟩:=bG.open_
   rw [zE,bb.out] at bl ⊢
   go_wp2_with (at_builtin;refine a1m rfl rfl a0p rfl rfl bi (part.map vi) s rfl ?c1 bh ?c2 ?c3 ?c4 ?_)
   case c1=>rw [zE,bb.out]
   case c2=>intro u hu;obtain ⟨y,_,rfl⟩ := List.mem_map.1 hu;rfl
   case c3=>rw [zE,zE,bb.out,zI];omega
   case c4=>rw [zE,zE,bb.out,zI];omega
   intro v' F' w6 a4 aD
   go_wp2_with fail
   go_roundg j
   case measure=>omega
   case rel =>
    have h5:=af.set_ 1 (.slice (some ⟨g2,0,none⟩) (i+1) ak)
    have bs:∀ x,x∈Go->x<w3.heap.size:=fun x hx=>by have:=bH.out x hx;have:=ae.out.size;omega
    have ar:g2∉Go:=fun hm=>by
     rcases ag.new g2 (by simp) with h9 | h9
     ·exact (ai.out _ h9).2 hm
     ·have:=bs _ hm;omega
    have aP:bp<g2:=by
     rcases ag.new g2 (by simp) with h9 | h9
     ·exact (ai.out _ h9).1
     ·have:=ae.out.size;have:=al.out;omega
    have cE:w3.heap.size<=w4.heap.size:=by have:=ag.size;omega
    have bU:(w4.setCell ⟨bp,1,none⟩ (.slice (some ⟨g2,0,none⟩) (i+1) ak)).heap.size=w4.heap.size:=by simp
    have b2:bp<w3.heap.size:=by have:=ae.out.size;have:=al.out;omega
    have h6:=Blk.chg h5 aD.chg (fun hm=>by have:=aj.out _ hm;omega)
    have h7:=((((aU.out.alloc (.cells #[.int .i64 k] 3)).chg ag.chg (fun hm=>by have:=(ai.out _ hm).1;omega)).chg ad (by simp;omega)).chg aD.chg (fun hm=>by have:=aj.out _ hm;omega))
    have h8:=((bT.toOwn.chg ad (fun x hx hm=>by simp at hx hm;omega)).chg aD.chg (fun x hx hm=>by simp at hx;exact ar (hx ▸ hm)))
    have h9:=((((bq.out.same ((zR [] w3).alloc (.cells #[.int .i64 k] 3))).chg ag.chg (fun x hx hm=>by have:=aK.out x hx;have:=(ai.out _ hm).1;omega)).chg ad (fun x hx hm=>by simp at hm;have:=aK.out x hx;omega)).chg aD.chg (fun x hx hm=>by have:=aK.out x hx;have:=aj.out _ hm;omega))
    refine ⟨i+1,p'+(a3r k part).length,.slice (some ⟨g2,0,none⟩) (i+1) ak,[g2],F',by go_num,by omega,by simpa using h6,h7,?_,?_,h9,cm,hid ?_,hid ?_,hid ?_,hid ?_⟩
    ·rw [cA.out,<-cc.out,zM]
     exact h8
    ·rw [cl.out,ci.out,zM,List.map_take]
     exact a4
    ·have e1:=Hp.out
     rw [cd.out,zC] at e1
     omega
    ·refine (((((bM.out.trans ae.out (by simp)).alloc (.cells #[.int .i64 k] 3)).trans ag.chg ?_).trans ad (by simp)).trans aD.chg ?_)
     ·intro x hx
      right
      have:=(ai.out x hx).1
      have:=bI.out
      omega
     ·intro x hx
      right
      have:=aj.out x hx
      have:=bI.out
      omega
    ·intro x hx
     simp at hx
     subst hx
     refine ⟨aP,aD.out ?_ ar⟩
     rw [bU]
     exact bT.lt
    ·intro x hx
     rcases aD.new x hx with h | h
     ·exact aj.out x h
     ·rw [bU] at h;omega
end Go.Proofs.YtepjepkgcdfboaaGreatDoor
