/- package prefix by its contracts: GetTable. -/
import Derived.Test.YtepjepkgcdfboaaGreatDoorMg27
import Derived.Test.YtepjepkgcdfboaaGreatDoorMg35
set_option linter.unusedVariables false
set_option linter.unusedSimpArgs false
set_option maxHeartbeats 4000000
set_option maxRecDepth 100000
namespace Go.Proofs.YtepjepkgcdfboaaGreatDoor
open Go.RowKit
theorem c8k (w:World) (b:Nat) (F ds:List Nat) (p n v:Nat) (bx:Nat) (sb:Nat) (FS S:List Nat) (h:a1r w b F ds p) (hn:n<=16) (hv:v<2^n) (ha:a0y ds p (a0b v n)) (hs:a2n w sb FS S) (hS:S.length<137438953472)
  (hx:w.cell? ⟨bx,0,none⟩=some (.pointer (some ⟨b,0,none⟩))) (hbx:bx≠b) (hd:∀ x∈F,x∉FS) :
  Calls Tryz.prog 265 #[.int .i64 n,.pointer (some ⟨bx,0,none⟩),.pointer (some ⟨sb,0,none⟩)] w fun e w'=>e=.returned (.int .i64 v)/\a1r w' b F ds (p+n)/\∃ FS',a2n w' sb FS' (S++a0b v n)/\Chg (b::FS) w w'/\∀ x∈FS',x∈FS\/w.heap.size<=x:=by
 have hg:=a0j w b F ds p n v h (by omega) hv ha
 have af:v<65536:=Nat.lt_of_lt_of_le hv (show 2^n<=2^16 from Nat.pow_le_pow_right (by decide) hn)
 have ai:IntKind.i64.wrap (v:Int)=(v:Int):=IntWalk.i64_in _ (by omega)
 have ac:=h.mem
 have HD:=hid hd
 have HV:=hid hv
 clear ha h hd
 go_enter Tryz.func265,Tryz.ntmps265
 go_wp2_with fail
 refine hg.mono ?_
 rintro e w1 ⟨rfl,ad,aa⟩
 have ae:=hs.chg aa (fun x hx hm=>by simp at hm;exact HD.out b ac (hm ▸ hx))
 clear hg hs
 go_wp2_with fail
 refine (a0t w1 sb FS S v n ae (by omega) HV.out (by omega)).mono ?_
 rintro e w2 ⟨rfl,ag,ah,ab⟩
 go_wp2
 go_ret
 refine ⟨rfl,ad.chg ab.chg HD.out,ag,ah,?_,fun x hx => ?_⟩
 ·exact (aa.mono (fun x hx _=>by simp at hx;simp [hx])).trans ab.chg (fun x hx => .inl (by simp [hx]))
 ·rcases ab.new x hx with h9 | h9
  ·exact .inl h9
  ·right;have:=aa.size;omega
theorem e0r (lens:List Nat) (i:Nat):lens.take (i+zr 66 (lens.drop i))=lens.take i++List.replicate (zr 66 (lens.drop i)) 0:=by
 rw [List.take_add]
 congr 1
 have hl:=d2j 66 (lens.drop i)
 refine List.eq_replicate_iff.2 ⟨by rw [zI];omega,fun x hx => ?_⟩
 obtain ⟨q,hq,rfl⟩:=List.getElem_of_mem hx
 rw [zI] at hq
 have h2:=e6n 66 (lens.drop i) q (by omega)
 rw [List.getElem_take]
 rw [zD,zF (by omega)] at h2
 simpa using h2
theorem d3l (w:World) (b:Nat) (F ds:List Nat) (p:Nat) (lens:List Nat) (h:a1r w b F ds p) (hf:b3p lens) (ha:a0y ds p (a3u lens)) :
  Calls Tryz.prog 235 #[.pointer (some ⟨b,0,none⟩)] w fun e w'=>∃ v G,e=.returned (.tuple #[v,.int .i64 0])/\Own w' 3 v G (lens.map i64)/\a1r w' b F ds (p+(a3u lens).length)/\Chg [b] w w'/\∀ x∈G,w.heap.size<=x:=by
 have c7:=hf.n1
 have cT:=hf.n2
 have cv:=hf.le
 have aS:=b8q lens
 have cz:=b0s lens
 obtain ⟨T,hT⟩:=zX (a3u lens)
 rw [<-hT] at ha aS cz ⊢
 obtain ⟨N,hN⟩:=zX (lens.length)
 rw [<-hN] at c7 cT aS cz
 obtain ⟨N1,cA⟩:=zX (N-1)
 have eN:(N1:Int)+1=(N:Int):=by omega
 rw [<-cA] at aS
 have bs:=ha
 rw [aS] at bs
 have bL:=bs.right
 rw [a0a] at bL
 have dh:=h.lt b h.mem
 have bS:=h.lt
 have dc:=h.mem
 obtain ⟨bx,bw⟩:=zX (w.heap.size)
 obtain ⟨w1,aT⟩:=zX (w.alloc (.cells #[.pointer (some ⟨b,0,none⟩)] 113))
 obtain ⟨w2,bu⟩:=zX (w1.alloc (.cells #[.slice none 0 0,.int .i64 0] 89))
 have aJ:Blk w1 bx 113 #[.pointer (some ⟨b,0,none⟩)]:=by rw [aT,bw];exact Blk.new w _ _
 have bO:Chg [] w w1:=by rw [aT];exact (zR [] w).alloc _
 have bC:Chg [] w1 w2:=by rw [bu];exact (zR [] w1).alloc _
 have b7:w1.heap.size=bx+1:=by rw [aT,bw];simp
 have bb:a2n w2 (bx+1) [bx+1] []:=by
  have:=a2n.new w1
  rw [<-bu,b7] at this
  exact this
 have az:=aJ.chg bC (by simp)
 have bY:=h.same bO
 have cb:=bY.same bC
 have c2:=az.cell 0
 simp at c2
 have c1:=aJ.cell 0
 simp at c1
 have aG:=c8k w2 b F ds p 10 N1 bx (bx+1) [bx+1] [] cb (by omega) (by omega) bs.left bb (by simp) c2 (by omega) (fun x hx hm=>by simp at hm;have:=bS x hx;omega)
 have HF:=hid hf
 have HN:=hid hN
 have HT:=hid hT
 have cB:=hid aS
 have c6:=hid cv
 have HA:=hid bL
 have bz:=hid bS
 have cF:=hid aT
 have cY:=hid bu
 have ai:=hid bw
 have cL:=hid (bO.tq bC)
 have cO:=hid b7
 clear hN hT aS cv ha bs bL bS aT bu bw bO bC cA h bb hf b7 aJ
 go_enter Tryz.func235,Tryz.ntmps235
 go_wp2_with fail
 rw [<-ai.out,<-cF.out]
 refine (a2b w1 b F ds p bY).mono ?_
 rintro e wx ⟨rfl,rfl⟩
 go_wp2_with fail
 rw [cO.out,<-cY.out]
 refine aG.mono ?_
 rintro e w3 ⟨rfl,cs,cD,aM,bR,aX⟩
 rw [List.nil_append] at aM
 have dj:b<bx:=by have:=ai.out;omega
 have bp:=az.chg bR (by simp;omega)
 have cU:bx<w2.heap.size:=az.lt
 have bk:∀ x∈cD,bx<x:=fun x hx=>by
  rcases aX x hx with h9 | h9
  ·simp at h9;omega
  ·omega
 have cj:Chg [b] w w3:=(cL.out.mono (by simp)).trans bR (fun x hx=>by simp at hx;rcases hx with hx | hx;left;simp [hx];right;have:=ai.out;omega)
 have bP:(a0b N1 10).length=10:=a0a _ _
 clear aG bY cb az c1 c2 bR aX cU
 go_wp2_with fail
 go_loopg [7,8] N (fun j vl va wr=>∃ (i p':Nat) (FS S G:List Nat),i<=N/\N<=i+j/\Own wr 3 vl G ((lens.take i).map i64)/\a1r wr b F ds p'/\Hid (a0y ds p' (a3m lens i))/\Hid (p'+(a3m lens i).length=p+T.length)/\a2n wr (bx+1) FS S/\Hid (S++a3m lens i=T)/\Blk wr bx 113 #[.pointer (some ⟨b,0,none⟩)]/\Hid (∀ x∈FS,bx<x)/\Hid (∀ x∈G,bx<x/\x∉FS)/\Hid (Chg [b] w wr))
 case atStart=>exact ⟨0,p+10,cD,a0b N1 10,[],by omega,by omega,Own.nil _ _,cs,HA,hid (by rw [cB.out,zC,a0a];omega),aM,hid cB.out.symm,bp,hid bk,hid (by simp),hid cj⟩
 case round =>
  clear cs aM bp bk cj bP
  obtain ⟨i,p',FS,S,G,dk,di,ac,ax,cq,HP,aQ,HS,aH,aR,HG,bD⟩:=hrel
  have cx:=aH.cell 0
  simp at cx
  have aP:(lens.take i).length=i:=by rw [zI,<-HN.out];omega
  obtain ⟨kd,bX⟩:=zX (lens.take i)
  rw [<-bX] at ac aP
  have bE:=hid bX
  clear bX
  obtain ⟨Al,cl,rfl,bW,cK,ae⟩:=ac.oq
  rw [aP] at bW ⊢
  have ad:=ac
  rw [aP] at ad
  by_cases hi:N<=i
  ·obtain rfl:N=i:=by omega
   have t1:decide (N<N)=false:=by simp
   have e0:a3m lens N=[]:=by rw [HN.out];exact b7x lens
   have hp:=HP.out
   rw [e0,List.length_nil] at hp
   have cp:=HS.out
   rw [e0,List.append_nil] at cp
   subst cp
   have br:kd=lens:=by rw [bE.out,HN.out,zN]
   have df:=hid br
   have t2:((N:Int) != (N:Int))=false:=by simp
   have ag:a0d i64 wr Al lens:=by rw [<-br];exact ae
   have ar:=ac
   rw [br,<-HN.out] at ar
   obtain ⟨ab,b9⟩:=zX (wr.heap.size)
   obtain ⟨w8,bB⟩:=zX (wr.alloc (.cells #[.slice none 0 0,.int .i64 0] 89))
   have a3:Chg [] wr w8:=by rw [bB];exact (zR [] wr).alloc _
   have cg:a2n w8 ab [ab] []:=by rw [bB,b9];exact a2n.new wr
   have bM:=aQ.lt
   have aV:=ac.lt
   have be:Apt Al lens [ab]:=ac.apt (fun x hx hm=>by simp at hm;have:=aV x hx;omega)
   have b5:=c2l w8 ab [ab] [] lens Al cl cg HF.out (ag.same a3) be (by simp)
   rw [List.nil_append,<-HT.out,<-HN.out] at b5
   have el:=a2b wr b F ds p' ax
   have a6:=hid b9
   have cS:=hid bB
   have bh:=ax.same a3
   have a4:=aQ.same a3
   have aE:=ar.same a3
   have bl:=bD.out.trans a3 (by simp)
   have bT:=ax.lt
   have cG:=hid hp
   clear e0 br ag ae ac ad ar b9 bB cg be hp aH aQ
   go_wp2_with (go_at_call 69;refine el.mono ?_;rintro e w' ⟨rfl,rfl⟩)
   rw [<-a6.out,<-cS.out]
   refine b5.mono ?_
   rintro e w9 ⟨rfl,F9,aK,bn⟩
   have bF:=a4.chg bn.chg (fun x hx hm=>by simp at hm;have:=bM x hx;have:=a6.out;omega)
   have bo:=bh.chg bn.chg (fun x hx hm=>by simp at hm;have:=bT x hx;have:=a6.out;omega)
   have aB:=aE.chg bn.chg (fun x hx hm=>by simp at hm;have:=aV x hx;have:=a6.out;omega)
   have a5:=bl.trans bn.chg (fun x hx => .inr (by simp at hx;have:=a6.out;have:=bD.out.size;omega))
   have b4:=c8t w9 ab F9 S aK
   have b2:=c8t w9 (bx+1) FS S bF
   have a7:=c3c w9 ab F9 S aK (by omega)
   have a8:=fun wz hz=>c3c wz (bx+1) FS S (bF.same hz:a2n wz (bx+1) FS S) (by omega)
   obtain ⟨sl,cr⟩:=zX (S.length)
   rw [<-cr] at b4 b2
   have t3:((sl:Int) != (sl:Int))=false:=by simp
   have cM:=hid a8
   clear b5 bh a4 aE bl aK bF bn a8 cr
   go_wp2_with fail
   refine b4.mono ?_
   rintro e w' ⟨rfl,rfl⟩
   go_wp2_with fail
   refine b2.mono ?_
   rintro e w' ⟨rfl,rfl⟩
   clear b4 b2
   go_wp2_with fail
   refine a7.mono ?_
   rintro e cJ ⟨da,c8,rfl,aA,ao,bI⟩
   obtain ⟨cW,cZ,rfl,_,_,ba⟩:=aA.oq
   clear a7
   go_wp2_with fail
   refine (cM.out cJ ao).mono ?_
   rintro e c0 ⟨c9,de,rfl,aC,au,ca⟩
   obtain ⟨cV,cQ,rfl,_,_,bi⟩:=aC.oq
   have bN:∀ {wz:World} {A:Option Addr},a0d b8 wz A (a1n S)->Lib.BytesIn wz A (a1n S).length ((a1n S).map Int.ofNat):=by
    intro wz A hc hn
    obtain ⟨g,o,e1,_,bq⟩:=hc.ex hn
    refine ⟨g,o,e1,fun i hi => ?_⟩
    rw [bq i _ (zF hi)]
    have e:((a1n S).map Int.ofNat).getD i 0=((a1n S)[i]:Nat):=by
     rw [zD,zW,zF hi]
     rfl
    rw [e]
    rfl
   have cd:=Tryz.bytes_Equal_all cW cV (a1n S).length cZ (a1n S).length cQ ((a1n S).map Int.ofNat) ((a1n S).map Int.ofNat) c0 (by simp) (by simp) (bN (ba.same au)) (bN bi)
   have et:(Lib.bytesOf ((a1n S).map Int.ofNat)==Lib.bytesOf ((a1n S).map Int.ofNat))=true:=by simp
   rw [et] at cd
   have aW:=(bo.same ao).same au
   have aL:=(aB.same ao).same au
   have a1:=(a5.trans ao (by simp)).trans au (by simp)
   clear aA aC ba bi bN et ao au bI ca bo aB a5
   go_wp2_with fail
   refine cd.mono ?_
   rintro e w' ⟨rfl,rfl⟩
   go_wp2
   go_ret2
   exact ⟨_,G,rfl,by rw [HN.out] at *; exact aL,aW.cast cG.out,a1,fun x hx=>by have:=(HG.out x hx).1;have:=ai.out;omega⟩
  ·rcases gk with _ | j
   ·exfalso;omega
   have ci:i<N:=by omega
   have a9:i<lens.length:=by rw [<-HN.out];exact ci
   have t1:decide (i<N)=true:=zB ci
   have dd:decide ((i:Int)<(N:Int))=true:=zB (by omega)
   have dg:S.length<=20000:=by
    have:=congrArg List.length HS.out
    rw [zC] at this
    omega
   have aI:∀ x∈F,x∉FS:=fun x hx hm=>by have:=bz.out x hx;have:=aR.out x hm;have:=ai.out;omega
   by_cases hz:zr 66 (lens.drop i)<3
   ·have ay:=b7y a9 hz
    have aw:=cq.out
    rw [ay] at aw
    have cI:a0g lens i<=24:=by
     unfold a0g
     rw [zD,zF a9]
     exact c6.out _ (zG _)
    have af:=a0o lens a9
    have cu:lens[i]=a0g lens i:=by unfold a0g;rw [zD,zF a9];rfl
    rw [cu] at af
    generalize a0g lens i=v at *
    have aU:=c8k wr b F ds p' 5 v bx (bx+1) FS S ax (by omega) (by omega) aw.left aQ (by omega) cx (by omega) aI
    have bU:=hid aw.right
    have bf:=hid ay
    have b3:=hid af
    have t2:((v:Int) != 31)=true:=by rw [bne_iff_ne];omega
    have bQ:=aH.lt
    have bg:=(a2b wr b F ds p' ax)
    clear aw ay af cu ax aQ
    go_wp2_with (go_at_call 69;refine bg.mono ?_;rintro e w' ⟨rfl,rfl⟩)
    refine aU.mono ?_
    rintro e w4 ⟨rfl,bv,FS4,an,ap,aN⟩
    have aa:=ac.lt
    have ak:=ad.chg ap (fun x hx hm=>by
     rcases zJ.1 hm with hm | hm
     ·have:=(HG.out x hx).1;omega
     ·exact (HG.out x hx).2 hm)
    have aO:=aH.chg ap (fun hm=>by
     rcases zJ.1 hm with hm | hm
     ·omega
     ·have:=aR.out _ hm;omega)
    have bA:=aO.cell 0
    simp at bA
    have c5:=ap.size
    have aq:∀ x∈FS4,bx<x:=fun x hx=>by
     rcases aN x hx with h9 | h9
     ·exact aR.out x h9
     ·omega
    have aZ:∀ x∈G,bx<x/\x∉FS4:=fun x hx=>⟨(HG.out x hx).1,fun hm=>by
     rcases aN x hm with h9 | h9
     ·exact (HG.out x hx).2 h9
     ·have:=aa x hx;omega⟩
    have a0:Chg [b] w w4:=bD.out.trans ap (fun x hx=>by
     rcases zJ.1 hx with hx | hx
     ·left;simp [hx]
     ·right;have:=aR.out x hx;have:=ai.out;omega)
    have bV:=hid aa
    have aj:=hid aq
    have av:=hid aZ
    have bH:=hid a0
    have am:Chg [] w4 (w4.alloc (.cells #[.int .i64 v] 3)):=(zR [] w4).alloc _
    have bZ:=ak.same am
    clear ac ad ae aH aN aa aq aZ a0 ap aU bg ak
    go_wp2_with (at_builtin;refine a0f rfl rfl a0p rfl rfl bZ (.int .i64 v) rfl ?c1 ?c2 ?c3 ?c4 ?_)
    case c1=>simp [go_sem]
    case c2=>rfl
    case c3=>rw [zE,aP];omega
    case c4=>rw [zE,aP];omega
    intro g2 cX w5 ck al
    obtain ⟨G5,cC⟩:=zX ([g2])
    have ah:=ck.toOwn
    rw [<-cC] at al ah
    clear ck cC
    have bK:=an.lt
    go_wp2_with fail
    go_roundg j
    case measure=>omega
    case rel =>
     refine ⟨i+1,p'+5,FS4,S++a0b v 5,G5,by omega,by omega,?_,(bv.same am).chg al.chg (fun x hx hm=>by have:=bz.out x hx;have:=(av.out x hm).1;have:=ai.out;omega),bU,hid ?_,(an.same am).chg al.chg (fun x hx hm=>(av.out x hm).2 hx),hid ?_,(aO.chg am (by simp)).chg al.chg (fun hm=>by have:=(av.out _ hm).1;omega),aj,hid ?_,hid ?_⟩
     ·rw [b3.out,<-bE.out,zM]
      exact ah
     ·have:=HP.out
      rw [bf.out] at this
      simp only [zC,a0a] at this
      omega
     ·rw [<-HS.out,bf.out]
      simp only [zH]
     ·intro x hx
      rcases al.new x hx with h9 | h9
      ·exact av.out x h9
      ·have:=am.size
       exact ⟨by omega,fun hm=>by have:=bK x hm;omega⟩
     ·exact (bH.out.trans am (by simp)).trans al.chg (fun x hx => .inr (by have:=(av.out x hx).1;have:=ai.out;omega))
   ·have ay:=b4w a9 hz
    have cm:=d2j 66 (lens.drop i)
    have cR:=f4s 66 (lens.drop i)
    have af:=e0r lens i
    rw [zO,<-HN.out] at cm
    obtain ⟨z,co⟩:=zX (zr 66 (lens.drop i))
    rw [<-co] at ay hz cm cR af
    obtain ⟨z0,cy⟩:=zX (z-3)
    have ez:(z0:Int)+3=(z:Int):=by omega
    rw [<-cy] at ay
    have aw:=cq.out
    rw [ay] at aw
    have aU:=c8k wr b F ds p' 5 31 bx (bx+1) FS S ax (by omega) (by omega) aw.left aQ (by omega) cx (by omega) aI
    have b6:=aw.right
    rw [a0a] at b6
    have ch:=hid b6
    have bf:=hid ay
    have b3:=hid af
    have t2:(((31:Nat):Int) != 31)=false:=rfl
    have bQ:=aH.lt
    have bg:=(a2b wr b F ds p' ax)
    clear aw b6 ay af ax aQ co cy
    go_wp2_with (go_at_call 69;refine bg.mono ?_;rintro e w' ⟨rfl,rfl⟩)
    refine aU.mono ?_
    rintro e w4 ⟨rfl,bv,FS4,an,ap,aN⟩
    have aa:=ac.lt
    have ak:=ad.chg ap (fun x hx hm=>by
     rcases zJ.1 hm with hm | hm
     ·have:=(HG.out x hx).1;omega
     ·exact (HG.out x hx).2 hm)
    have aO:=aH.chg ap (fun hm=>by
     rcases zJ.1 hm with hm | hm
     ·omega
     ·have:=aR.out _ hm;omega)
    have bA:=aO.cell 0
    simp at bA
    have c5:=ap.size
    have aq:∀ x∈FS4,bx<x:=fun x hx=>by
     rcases aN x hx with h9 | h9
     ·exact aR.out x h9
     ·omega
    have aZ:∀ x∈G,bx<x/\x∉FS4:=fun x hx=>⟨(HG.out x hx).1,fun hm=>by
     rcases aN x hm with h9 | h9
     ·exact (HG.out x hx).2 h9
     ·have:=aa x hx;omega⟩
    have a0:Chg [b] w w4:=bD.out.trans ap (fun x hx=>by
     rcases zJ.1 hx with hx | hx
     ·left;simp [hx]
     ·right;have:=aR.out x hx;have:=ai.out;omega)
    have bV:=hid aa
    have aj:=hid aq
    have av:=hid aZ
    have bH:=hid a0
    have aF:∀ x∈F,x∉FS4:=fun x hx hm=>by have:=bz.out x hx;have:=aj.out x hm;have:=ai.out;omega
    have a2:=c8k w4 b F ds (p'+5) 6 z0 bx (bx+1) FS4 (S++a0b 31 5) bv (by omega) (by omega) ch.out.left an (by rw [zC,a0a];omega) bA (by omega) aF
    have bU:=hid ch.out.right
    have aD:=hid ak
    have bJ:=hid aO
    have cn:=aO.lt
    have ce:Hid (∀ x∈G,x<w4.heap.size):=hid ak.lt
    clear ac ad ae aH aN aa aq aZ a0 ap aU bg ak aO bv an aI aF
    go_wp2_with fail
    refine a2.mono ?_
    rintro e w6 ⟨rfl,cN,FS6,bc,bd,bG⟩
    have aa:=aD.out.lt
    have aY:=aD.out.chg bd (fun x hx hm=>by
     rcases zJ.1 hm with hm | hm
     ·have:=(av.out x hx).1;omega
     ·exact (av.out x hx).2 hm)
    have cw:=bJ.out.chg bd (fun hm=>by
     rcases zJ.1 hm with hm | hm
     ·omega
     ·have:=aj.out _ hm;omega)
    have cH:=cw.cell 0
    simp at cH
    have db:=bd.size
    have bm:∀ x∈FS6,bx<x:=fun x hx=>by
     rcases bG x hx with h9 | h9
     ·exact aj.out x h9
     ·omega
    have cE:∀ x∈G,bx<x/\x∉FS6:=fun x hx=>⟨(av.out x hx).1,fun hm=>by
     rcases bG x hm with h9 | h9
     ·exact (av.out x hx).2 h9
     ·have:=aa x hx;omega⟩
    have cc:Chg [b] w w6:=bH.out.trans bd (fun x hx=>by
     rcases zJ.1 hx with hx | hx
     ·left;simp [hx]
     ·right;have:=aj.out x hx;have:=ai.out;omega)
    have ct:=hid aa
    have b1:=hid bm
    have bj:=hid cE
    have cP:=hid cc
    have am:Chg [] w6 w6:=zR _ _
    have cf:=hid aY
    clear bG aa bm cE cc bd a2
    go_wp2_with (at_builtin;refine b4o rfl rfl a0p rfl rfl Tryz.underlying3 rfl aY z rfl ?c1 ?c2 ?c3 ?_)
    case c1=>omega
    case c2=>rw [zE,aP];omega
    case c3=>rw [zE,aP];omega
    intro v5 G5 w5 ah al
    have b0:=bc.lt
    go_wp2_with fail
    go_roundg j
    case measure=>omega
    case rel =>
     refine ⟨i+z,p'+5+6,FS6,S++a0b 31 5++a0b z0 6,G5,by omega,by omega,?_,(cN.same am).chg al.chg (fun x hx hm=>by have:=bz.out x hx;have:=(bj.out x hm).1;have:=ai.out;omega),bU,hid ?_,(bc.same am).chg al.chg (fun x hx hm=>(bj.out x hm).2 hx),hid ?_,(cw.chg am (by simp)).chg al.chg (fun hm=>by have:=(bj.out _ hm).1;omega),b1,hid ?_,hid ?_⟩
     ·rw [b3.out,<-bE.out,zM]
      have:=ah
      simpa [i64] using this
     ·have:=HP.out
      rw [bf.out] at this
      simp only [zC,a0a] at this
      omega
     ·rw [<-HS.out,bf.out]
      simp only [zH]
     ·intro x hx
      rcases al.new x hx with h9 | h9
      ·exact bj.out x h9
      ·have:=am.size
       exact ⟨by omega,fun hm=>by have:=b0 x hm;omega⟩
     ·exact (cP.out.trans am (by simp)).trans al.chg (fun x hx => .inr (by have:=(bj.out x hx).1;have:=ai.out;omega))
structure a5l (w:World) (tb:Nat) (lens:List Nat) (kl kf ks:Nat) (C:Array Value) (vs:Nat->Value) (Fs:Nat->List Nat):Prop where
 blk:Blk w tb 316 C
 size:C.size=51
 long:C[0]?=some (.int .i64 (b8d lens kl:Nat))
 first:∀ n,n<25->C[1+n]?=some (.int .u64 (a2f lens kf n:Nat))
 syms:∀ n,n<25->C[26+n]?=some (vs n)
 own:∀ n,n<25->Own w 3 (vs n) (Fs n) ((a2j lens ks n).map i64)
 new:∀ n,∀ x∈Fs n,tb<x
 apart:∀ n m,n<25->m<25->n≠m->∀ x∈Fs n,x∉Fs m
abbrev d7x (w:World) (tb:Nat) (lens:List Nat) (k:Nat) (C:Array Value) (vs:Nat->Value) (Fs:Nat->List Nat):Prop:=a5l w tb lens k k k C vs Fs
variable {w:World} {tb:Nat} {lens:List Nat} {kl kf ks:Nat} {C:Array Value} {vs:Nat->Value} {Fs:Nat->List Nat}
theorem a5l.same (h:a5l w tb lens kl kf ks C vs Fs) {w':World} (hc:Chg [] w w'):a5l w' tb lens kl kf ks C vs Fs :=
 { h with blk:=h.blk.chg hc (by simp),own:=fun n hn=>(h.own n hn).same hc }
theorem a5l.chg (h:a5l w tb lens kl kf ks C vs Fs) {w':World} {G:List Nat} (hc:Chg G w w') (hG:∀ x∈G,x<tb):a5l w' tb lens kl kf ks C vs Fs :=
 { h with blk:=h.blk.chg hc (fun hm=>by have:=hG tb hm;omega),own:=fun n hn=>(h.own n hn).chg hc fun x hx hm=>by have:=h.new n x hx;have:=hG x hm;omega }
theorem a5l.first_new (h:a5l w tb lens kl ks ks C vs Fs) {n:Nat} (hn:n<25) {wd:Nat}
  (hs:a2f lens (ks+1) n=wd) (ho:∀ m,n≠m->a2f lens (ks+1) m=a2f lens ks m) :
  a5l (w.setCell ⟨tb,1+n,none⟩ (.int .u64 wd)) tb lens kl (ks+1) ks (C.setIfInBounds (1+n) (.int .u64 wd)) vs Fs where
 blk:=h.blk.set_ _ _
 size:=by rw [Array.size_setIfInBounds];exact h.size
 long:=by rw [Array.getElem?_setIfInBounds,if_neg (by omega)];exact h.long
 first m hm:=by
  by_cases e:n=m
  ·subst e
   rw [Array.getElem?_setIfInBounds,if_pos rfl,if_pos (by rw [h.size];omega),hs]
  ·rw [Array.getElem?_setIfInBounds,if_neg (by omega),ho m e];exact h.first m hm
 syms m hm:=by rw [Array.getElem?_setIfInBounds,if_neg (by omega)];exact h.syms m hm
 own m hm:=(h.own m hm).far (fun hx=>by have:=h.new m _ hx;simp at this) _
 new:=h.new
 apart:=h.apart
theorem a5l.first_old (h:a5l w tb lens kl ks ks C vs Fs) (ho:∀ m,a2f lens (ks+1) m=a2f lens ks m) :
  a5l w tb lens kl (ks+1) ks C vs Fs:={ h with first:=fun m hm=>by rw [ho];exact h.first m hm }
theorem a5l.long_new (h:a5l w tb lens kl kf ks C vs Fs) {n k:Nat} (hs:b8d lens k=n) :
  a5l (w.setCell ⟨tb,0,none⟩ (.int .i64 n)) tb lens k kf ks (C.setIfInBounds 0 (.int .i64 n)) vs Fs where
 blk:=h.blk.set_ _ _
 size:=by rw [Array.size_setIfInBounds];exact h.size
 long:=by rw [Array.getElem?_setIfInBounds,if_pos rfl,if_pos (by rw [h.size];omega),hs]
 first m hm:=by rw [Array.getElem?_setIfInBounds,if_neg (by omega)];exact h.first m hm
 syms m hm:=by rw [Array.getElem?_setIfInBounds,if_neg (by omega)];exact h.syms m hm
 own m hm:=(h.own m hm).far (fun hx=>by have:=h.new m _ hx;simp at this) _
 new:=h.new
 apart:=h.apart
theorem a5l.syms_new (h:a5l w tb lens kl kf ks C vs Fs) {n:Nat} (hn:n<25) {w':World} {g:Nat} {v:Value} {s:Nat}
  (hg:a0u (Fs n) [g] w w') (ht:tb<w.heap.size) (hr:Own w' 3 v [g] ((a2j lens ks n).map i64++[i64 s]))
  (hs:a2j lens (ks+1) n=a2j lens ks n++[s]) (ho:∀ m,n≠m->a2j lens (ks+1) m=a2j lens ks m) :
  a5l (w'.setCell ⟨tb,26+n,none⟩ v) tb lens kl kf (ks+1) (C.setIfInBounds (26+n) v) (fun m=>if m=n then v else vs m) (fun m=>if m=n then [g] else Fs m):=by
 have ab:tb∉Fs n:=fun hm=>by have:=h.new n _ hm;omega
 have ac:tb<g:=by
  rcases hg.new g (by simp) with h1 | h1
  ·exact h.new n _ h1
  ·omega
 have aa:∀ m,m<25->m≠n->∀ x∈Fs m,x≠g:=fun m hm hmn x hx he=>by
  subst he
  rcases hg.new x (by simp) with h1 | h1
  ·exact h.apart m n hm hn hmn x hx h1
  ·have:=(h.own m hm).lt x hx;omega
 refine ⟨(h.blk.chg hg.chg ab).set_ _ _,by rw [Array.size_setIfInBounds];exact h.size,by rw [Array.getElem?_setIfInBounds,if_neg (by omega)];exact h.long,fun m hm=>by rw [Array.getElem?_setIfInBounds,if_neg (by omega)];exact h.first m hm,fun m hm => ?_,fun m hm => ?_,fun m x hx => ?_,fun a b ha hb hab x hx hx' => ?_⟩
 ·rw [Array.getElem?_setIfInBounds]
  by_cases e:m=n
  ·subst e;rw [if_pos rfl,if_pos (by rw [h.size];omega),if_pos rfl]
  ·rw [if_neg (by omega),if_neg e];exact h.syms m hm
 ·by_cases e:m=n
  ·subst e
   simp only [if_pos rfl]
   rw [hs,zM]
   exact hr.far (by simp;omega) _
  ·simp only [if_neg e]
   rw [ho m (fun hh=>e hh.symm)]
   refine ((h.own m hm).chg hg.chg fun x hx hm'=>h.apart m n hm hn e x hx hm').far (fun hx=>by have:=h.new m _ hx;simp at this) _
 ·by_cases e:m=n
  ·rw [if_pos e] at hx;simp at hx;omega
  ·rw [if_neg e] at hx;exact h.new m x hx
 ·by_cases e:a=n
  ·rw [if_pos e] at hx
   rw [if_neg (fun hh=>hab (e.trans hh.symm))] at hx'
   simp at hx
   exact aa b hb (fun hh=>hab (e.trans hh.symm)) x hx' hx
  ·rw [if_neg e] at hx
   by_cases e2:b=n
   ·rw [if_pos e2] at hx'
    simp at hx'
    exact aa a ha e x hx hx'
   ·rw [if_neg e2] at hx'
    exact h.apart a b ha hb hab x hx hx'
def f2x:Array Value:=#[.int .i64 0,.int .u64 0,.int .u64 0,.int .u64 0,.int .u64 0,.int .u64 0,.int .u64 0,.int .u64 0,.int .u64 0,.int .u64 0,.int .u64 0,.int .u64 0,.int .u64 0,.int .u64 0,.int .u64 0,.int .u64 0,.int .u64 0,.int .u64 0,.int .u64 0,.int .u64 0,.int .u64 0,.int .u64 0,.int .u64 0,.int .u64 0,.int .u64 0,.int .u64 0,.slice none 0 0,.slice none 0 0,.slice none 0 0,.slice none 0 0,.slice none 0 0,.slice none 0 0,.slice none 0 0,.slice none 0 0,.slice none 0 0,.slice none 0 0,.slice none 0 0,.slice none 0 0,.slice none 0 0,.slice none 0 0,.slice none 0 0,.slice none 0 0,.slice none 0 0,.slice none 0 0,.slice none 0 0,.slice none 0 0,.slice none 0 0,.slice none 0 0,.slice none 0 0,.slice none 0 0,.slice none 0 0]
theorem e5w:f2x=(Value.int .i64 0::(List.replicate 25 (Value.int .u64 0)++List.replicate 25 (Value.slice none 0 0))).toArray:=rfl
theorem f2y (w:World) (lens:List Nat):d7x (w.alloc (.cells f2x 316)) w.heap.size lens 0 f2x (fun _ => .slice none 0 0) (fun _=>[]):=by
 refine ⟨Blk.new w _ _,rfl,rfl,fun n hn => ?_,fun n hn => ?_,fun n _ => ?_,fun _ x hx=>by simp at hx,fun _ _ _ _ _ x hx=>by simp at hx⟩
 ·have e:a2f lens 0 n=0:=by simp [a2f,a2j]
  rw [e,e5w,List.getElem?_toArray,Nat.add_comm,List.getElem?_cons_succ,List.getElem?_append_left (by simpa using hn),List.getElem?_replicate,if_pos hn]
  rfl
 ·rw [e5w,List.getElem?_toArray,show 26+n=(25+n)+1 by omega,List.getElem?_cons_succ,zS (by simp),zV,show 25+n-25=n by omega,List.getElem?_replicate,if_pos hn]
 ·have e:a2j lens 0 n=[]:=by simp [a2j]
  rw [e]
  exact Own.nil _ _
theorem f1q (lens : List Nat) (A B : Option Addr) (ca cb : Nat) (w : World) (hf : b3p lens) (hA : a0d i64 w A lens) (hB : a0d f3b w B (b0d lens)) (hBl : (b0d lens).length = lens.length) :
    Calls Tryz.prog 267 #[.slice A lens.length ca,.slice B (b0d lens).length cb] w fun e w'=>∃ tb C vs Fs,e=.returned (.pointer (some ⟨tb,0,none⟩))/\d7x w' tb lens (a0q lens).length C vs Fs/\Chg [] w w'/\w.heap.size<=tb:=by
  have a7:=fun wz hc=>d1p lens A ca wz hf.n2 hc
  have bu:=b9n lens 24
  have ay:(a0q lens).length<=lens.length:=bu
  have bD:=hf.n2
  rw [hBl]
  obtain ⟨N,hN⟩:=zX (lens.length)
  rw [<-hN] at a7 ay bD hBl ⊢
  obtain ⟨M,hM⟩:=zX ((a0q lens).length)
  rw [<-hM] at ay ⊢
  have HN:=hid hN
  have HM:=hid hM
  have be:=hid hBl
  have HA:=hid hA
  have HB:=hid hB
  have aV:=hid a7
  have HF:=hid hf
  clear hN hM hBl hA hB a7 bu hf
  go_enter Tryz.func267,Tryz.ntmps267
  go_wp2_with fail
  obtain ⟨tb,bb⟩:=zX (w.heap.size)
  obtain ⟨w1,aA⟩:=zX (w.alloc (.cells f2x 316))
  have ac:d7x w1 tb lens 0 f2x (fun _ => .slice none 0 0) (fun _=>[]):=by rw [aA,bb];exact f2y w lens
  have aC:Chg [] w w1:=by rw [aA];exact (zR [] w).alloc _
  have aI:=hid bb
  have bG:=hid aA
  have a5:Hid (w1=w.alloc (.cells #[.int .i64 0,.int .u64 0,.int .u64 0,.int .u64 0,.int .u64 0,.int .u64 0,.int .u64 0,.int .u64 0,.int .u64 0,.int .u64 0,.int .u64 0,.int .u64 0,.int .u64 0,.int .u64 0,.int .u64 0,.int .u64 0,.int .u64 0,.int .u64 0,.int .u64 0,.int .u64 0,.int .u64 0,.int .u64 0,.int .u64 0,.int .u64 0,.int .u64 0,.int .u64 0,.slice none 0 0,.slice none 0 0,.slice none 0 0,.slice none 0 0,.slice none 0 0,.slice none 0 0,.slice none 0 0,.slice none 0 0,.slice none 0 0,.slice none 0 0,.slice none 0 0,.slice none 0 0,.slice none 0 0,.slice none 0 0,.slice none 0 0,.slice none 0 0,.slice none 0 0,.slice none 0 0,.slice none 0 0,.slice none 0 0,.slice none 0 0,.slice none 0 0,.slice none 0 0,.slice none 0 0,.slice none 0 0] 316)):=hid aA
  clear aA bb
  rw [<-aI.out,<-a5.out]
  refine (aV.out w1 (HA.out.same aC)).mono ?_
  rintro e w2 ⟨v2,F2,rfl,av,ax,bh⟩
  obtain ⟨Ar,cr,rfl,a6,a1,bj⟩:=av.oq
  rw [<-HM.out]
  have a2:=ac.blk.lt
  have bq:=(HA.out.same aC).same ax
  have bl:=(HB.out.same aC).same ax
  have bo:d7x w2 tb lens 0 f2x (fun _ => .slice none 0 0) (fun _=>[]):=ac.same ax
  have aZ:=hid (aC.tq ax)
  have aE:Apt A lens [tb]:=Apt.fresh HA.out (F:=[tb]) (by simp;exact Nat.le_of_eq aI.out.symm)
  have aH:Apt B (b0d lens) [tb]:=Apt.fresh HB.out (F:=[tb]) (by simp;exact Nat.le_of_eq aI.out.symm)
  have aM:Apt Ar (a0q lens) [tb]:=av.apt (fun x hx hm=>by have:=bh x hx;simp at hm;omega)
  have aL:=hid (And.intro aE (And.intro aH aM))
  have aX:=hid bq
  have a3:=hid bl
  have aU:=hid bj
  have bC:tb<w2.heap.size:=by have:=ax.size;omega
  clear a2 ac aC ax av bh a6 a1 bq bl bj aE aH aM
  go_wp2_with fail
  go_loopg [7,8,14] M (fun j va vb iv wr=>∃ (k:Nat) (C:Array Value) (vs:Nat->Value) (Fs:Nat->List Nat),iv=.int .i64 k/\k+j=M/\Hid (d7x wr tb lens k C vs Fs)/\Hid (Chg [tb] w2 wr)/\Hid (∀ n,∀ x∈Fs n,w2.heap.size<=x))
  case atStart=>exact ⟨0,f2x,_,_,rfl,by omega,hid bo,hid (zR _ _),hid (by simp)⟩
  case round =>
    clear bo
    obtain ⟨k,C,vs,Fs,rfl,bI,HT,aN,aw⟩:=hrel
    rcases gk with _ | j
    · obtain rfl:M=k:=by omega
      have u1:decide (M<M)=false:=by simp
      have bE:decide ((M:Int)<(M:Int))=false:=by simp
      go_wp2_with fail
      go_ret
      exact ⟨tb,C,vs,Fs,rfl,HT.out,aZ.out.trans aN.out (fun x hx => .inr (by simp at hx;have:=aI.out;omega)),by have:=aI.out;omega⟩
    · have bm:k<M:=by omega
      have ak:k<(a0q lens).length:=by rw [<-HM.out];exact bm
      have u1:decide (k<M)=true:=zB bm
      have bE:decide ((k:Int)<(M:Int))=true:=zB (by omega)
      obtain ⟨bs,aF,aG⟩:=a4q ak
      have aB:(a0q lens)[k]=(a0q lens).getD k 0:=by rw [zD,zF ak];rfl
      have bB:=fun n=>b4n ak n
      have aO:=fun n hn=>b8o (n:=n) ak hn
      have al:=b4m ak rfl
      have aj:=fun n hn=>c6v (n:=n) ak hn
      have ah:=fun he=>d3f ak rfl he
      have aa:=fun he=>d3g ak rfl he
      have ai:b8d lens (k+1)=a0g lens ((a0q lens).getD k 0):=rfl
      obtain ⟨gr,bF,rfl,aS⟩:=(aU.out.keep aL.out.2.2 aN.out).at_ ak
      rw [aB] at aS
      obtain ⟨s,hs⟩:=zX ((a0q lens).getD k 0)
      rw [<-hs] at bs aF aG aO al aj ah aa ai aS
      obtain ⟨n,hn⟩:=zX (a0g lens s)
      rw [<-hn] at bs aF aO al aj ah aa ai
      obtain ⟨ga,oa,rfl,a4⟩:=(aX.out.keep aL.out.1 aN.out).at_ aG
      have bv:lens[s]=n:=by rw [hn];unfold a0g;rw [zD,zF aG];rfl
      rw [bv] at a4
      have bd:s<(b0d lens).length:=by rw [be.out,HN.out];exact aG
      obtain ⟨gw,ow,rfl,aP⟩:=(a3.out.keep aL.out.2.1 aN.out).at_ bd
      have bi:(b0d lens)[s]=a5i lens s:=by unfold a5i;rw [zD,zF bd];rfl
      rw [bi] at aP
      obtain ⟨wd,bf⟩:=zX (a5i lens s)
      rw [<-bf] at aP ah
      have d1:wr.cell? ⟨gr,bF+k,none⟩=some (.int .i64 s):=aS
      have d2:wr.cell? ⟨ga,oa+s,none⟩=some (.int .i64 n):=a4
      have d3:wr.cell? ⟨gw,ow+s,none⟩=some (.int .u64 wd):=aP
      have ab:n<25:=by omega
      have af:=HT.out.blk
      have d4:wr.cell? ⟨tb,26+n,none⟩=some (vs n):=by rw [af.cell];exact HT.out.syms n ab
      have au:=HT.out.own n ab
      have aR:=c5w lens k n
      have bk:=HN.out
      obtain ⟨Av,cv,aQ,aq,aK,aY⟩:=au.oq
      obtain ⟨q,hq⟩:=zX ((a2j lens k n).length)
      rw [<-hq] at aQ aq aR
      have bH:q<=1024:=by rw [<-bk] at aR;omega
      rw [aQ] at d4
      have bz:s<N:=by omega
      have aT:=hid (And.intro aO (And.intro al (And.intro aj (And.intro ah (And.intro aa ai)))))
      have HQ:=hid hq
      have bn:=hid aQ
      have bw:=hid af
      have bJ:=hid (And.intro hs hn)
      clear aS a4 aP aB bB aO al aj ah aa ai hs hn bv bi bf bd aG ak hq aQ aY bk
      have am:=aN.out
      have bp:=af.frozen (1+n)
      have bg:=af.frozen (26+n)
      have br:wr.cell? ⟨tb,1+n,none⟩=some (.int .u64 (a2f lens k n:Int)):=by rw [af.cell];exact HT.out.first n ab
      by_cases hq0:q=0
      · subst hq0
        go_wp2_with fail
        refine a0c 9 (by kernel_rfl) (by kernel_rfl) ?_
        simp only [List.take_succ_cons,List.take_zero,List.drop_succ_cons,List.drop_zero]
        repeat (go_big_quiet_step (fail))
        refine wpQuiet_nil ?_
        intro _ bx
        obtain ⟨nq,rfl⟩:=bx
        go_wp2_with fail
        obtain ⟨ho,al,aj,ah,aa,ai⟩:=aT.out
        have he:a2j lens k n=[]:=List.eq_nil_of_length_eq_zero HQ.out.symm
        have ac:=(HT.out.same ((zR [] wr).drewN nq)).first_new ab (ah he) (fun m e=>aj m e)
        have ar:Chg [tb] w2 ((wr.drewN nq).setCell ⟨tb,1+n,none⟩ (.int .u64 wd)):=(am.drewN nq).setCell (.inl (by simp)) _
        generalize (wr.drewN nq).setCell ⟨tb,1+n,none⟩ (.int .u64 wd)=wq at ac ar ⊢
        generalize C.setIfInBounds (1+n) (.int .u64 wd)=C1 at ac
        have aD:=bn.out
        have aJ:(n:Int)<25:=by omega
        have ae:=ac.own n ab
        rw [aD] at ae
        have ag:=ac.blk
        have ap:=ac.syms n ab
        rw [aD] at ap
        have bA:=ag.lt
        have n0:wq.cell? ⟨tb,26+n,none⟩=some (.slice Av 0 cv):=by rw [ag.cell];exact ap
        have ba:tb∉Fs n:=fun hm=>by have:=ac.new n _ hm;omega
        have n1:(wq.alloc (.cells #[.int .i64 s] 3)).cell? ⟨tb,26+n,none⟩=some (.slice Av 0 cv):=by rw [(ag.alloc _).cell];exact ap
        have ad:(List.map i64 (a2j lens k n)).length=0:=by rw [zE];exact HQ.out.symm
        clear aR am br bp bg aq aK d1 d2 d3 d4 aU aX a3 HA HB aV HF be aL HT af bw au
        go_region_law (refine a3x (by rfl) (by rfl) a0p (by rfl) (by rfl) ((ae.alloc (.cells #[.int .i64 (s : Int)] 3)).drew) (.int .i64 (s : Int)) (by rfl) (by simp [go_sem]) (by rfl) (by rw [ad]; omega) (by rw [ad]; omega) ?_; intro g2 bc w3 az ao; have an := ((ag.alloc (.cells #[.int .i64 (s : Int)] 3)).drew).chg ao.chg ba; have y1 : w3.cell? ⟨tb, 26 + n, none⟩ = some (.slice Av 0 cv) := by rw [an.cell]; exact ap
                       have z1:=an.frozen (26+n);rw [ad])
        all_goals
          have y0:w3.cell? ⟨tb,0,none⟩=some (.int .i64 (b8d lens k:Int)):=by rw [an.cell];exact ac.long
          have z0:=an.frozen 0
          go_wp2_with fail
          rw [ad] at az
          go_roundg j
          case measure=>omega
          case rel =>
            obtain ⟨ho,al,aj,ah,aa,ai⟩:=aT.out
            have a8:tb<(wq.alloc (.cells #[.int .i64 s] 3)).drew.heap.size:=((ag.alloc (.cells #[.int .i64 s] 3)).drew).lt
            have aW:=(((ac.same (((zR [] wq).alloc (.cells #[.int .i64 s] 3)).drew)).syms_new ab ao a8 az.toOwn al ho).long_new ai)
            have a0:Chg [tb] w2 w3:=(ar.alloc (.cells #[.int .i64 s] 3)).drew.trans ao.chg (fun x hx => .inr (aw.out n x hx))
            refine ⟨k+1,_,_,_,by go_num,by omega,hid aW,hid ((a0.setCell (.inl (by simp)) _).setCell (.inl (by simp)) _),hid ?_⟩
            intro m x hx
            by_cases e:m=n
            · rw [if_pos e] at hx
              have a9:x=g2:=by simpa using hx
              subst a9
              rcases ao.new x (by simp) with h1 | h1
              · exact aw.out n x h1
              · exact Nat.le_trans ((ar.alloc (.cells #[.int .i64 s] 3)).drew.size) h1
            · rw [if_neg e] at hx
              exact aw.out m x hx
      · have u2:((q:Int)==0)=false:=by rw [beq_eq_false_iff_ne];omega
        go_wp2_with fail
        obtain ⟨ho,al,aj,ah,aa,ai⟩:=aT.out
        have he:a2j lens k n≠[]:=fun hh=>hq0 (by rw [HQ.out,hh];rfl)
        have ac:=HT.out.first_old (fun m=>by
          by_cases e:n=m
          · subst e;exact aa he
          · exact aj m e)
        have ar:Chg [tb] w2 wr:=am
        generalize wr=wq at ac ar ⊢
        generalize C=C1 at ac
        have aD:=bn.out
        have aJ:(n:Int)<25:=by omega
        have ae:=ac.own n ab
        rw [aD] at ae
        have ag:=ac.blk
        have ap:=ac.syms n ab
        rw [aD] at ap
        have bA:=ag.lt
        have n0:wq.cell? ⟨tb,26+n,none⟩=some (.slice Av q cv):=by rw [ag.cell];exact ap
        have ba:tb∉Fs n:=fun hm=>by have:=ac.new n _ hm;omega
        have n1:(wq.alloc (.cells #[.int .i64 s] 3)).cell? ⟨tb,26+n,none⟩=some (.slice Av q cv):=by rw [(ag.alloc _).cell];exact ap
        have ad:(List.map i64 (a2j lens k n)).length=q:=by rw [zE];exact HQ.out.symm
        clear aR am br bp bg aq aK d1 d2 d3 d4 aU aX a3 HA HB aV HF be aL HT af bw au
        go_region_law (refine a3x (by rfl) (by rfl) a0p (by rfl) (by rfl) ((ae.alloc (.cells #[.int .i64 (s : Int)] 3)).drew) (.int .i64 (s : Int)) (by rfl) (by simp [go_sem]) (by rfl) (by rw [ad]; omega) (by rw [ad]; omega) ?_; intro g2 bc w3 az ao; have an := ((ag.alloc (.cells #[.int .i64 (s : Int)] 3)).drew).chg ao.chg ba; have y1 : w3.cell? ⟨tb, 26 + n, none⟩ = some (.slice Av q cv) := by rw [an.cell]; exact ap
                       have z1:=an.frozen (26+n);rw [ad])
        all_goals
          have y0:w3.cell? ⟨tb,0,none⟩=some (.int .i64 (b8d lens k:Int)):=by rw [an.cell];exact ac.long
          have z0:=an.frozen 0
          go_wp2_with fail
          rw [ad] at az
          go_roundg j
          case measure=>omega
          case rel =>
            obtain ⟨ho,al,aj,ah,aa,ai⟩:=aT.out
            have a8:tb<(wq.alloc (.cells #[.int .i64 s] 3)).drew.heap.size:=((ag.alloc (.cells #[.int .i64 s] 3)).drew).lt
            have aW:=(((ac.same (((zR [] wq).alloc (.cells #[.int .i64 s] 3)).drew)).syms_new ab ao a8 az.toOwn al ho).long_new ai)
            have a0:Chg [tb] w2 w3:=(ar.alloc (.cells #[.int .i64 s] 3)).drew.trans ao.chg (fun x hx => .inr (aw.out n x hx))
            refine ⟨k+1,_,_,_,by go_num,by omega,hid aW,hid ((a0.setCell (.inl (by simp)) _).setCell (.inl (by simp)) _),hid ?_⟩
            intro m x hx
            by_cases e:m=n
            · rw [if_pos e] at hx
              have a9:x=g2:=by simpa using hx
              subst a9
              rcases ao.new x (by simp) with h1 | h1
              · exact aw.out n x h1
              · exact Nat.le_trans ((ar.alloc (.cells #[.int .i64 s] 3)).drew.size) h1
            · rw [if_neg e] at hx
              exact aw.out m x hx
theorem e7f {W j y:Nat} (h:W / 2^j%2=y):2*(W / 2^(j+1))+y=W / 2^j:=by
 rw [Nat.pow_succ,<-Nat.div_div_eq_div_mul]
 omega
theorem f0e (w:World) (b:Nat) (F ds:List Nat) (p:Nat) (lens:List Nat) (s tb:Nat) (C:Array Value) (vs:Nat->Value) (Fs:Nat->List Nat) (h:a1r w b F ds p) (hf:b3p lens) (hs:0<a0g lens s)
  (ht:d7x w tb lens (b1s lens) C vs Fs) (hb:b<tb) (ha:a0y ds p (b2f lens s)) :
  Calls Tryz.prog 268 #[.pointer (some ⟨tb,0,none⟩),.pointer (some ⟨b,0,none⟩)] w fun e w'=>e=.returned (.tuple #[.int .i64 s,.int .i64 0])/\a1r w' b F ds (p+a0g lens s)/\Chg [b] w w':=by
 have av:=hf.le
 have aD:=e3k av hs
 have hW:=d2h hf hs
 have aa:=fun n h0 hn=>e5c av (s:=s) (n:=n) hs h0 hn
 have ab:=e9t av hs
 have az:=ha.le h.at_le
 unfold b2f at ha az
 rw [a0a] at az
 have a0:=hf.n2
 obtain ⟨L,hL⟩:=zX (a0g lens s)
 rw [<-hL] at hs aD hW aa ab ha az ⊢
 obtain ⟨W,aN⟩:=zX (a5i lens s)
 rw [<-aN] at hW aa ab ha
 obtain ⟨K,hK⟩:=zX (b1s lens)
 rw [<-hK] at aD aa ab ht
 obtain ⟨lo,af⟩:=zX (b8d lens K)
 have aA:L<=24:=by omega
 have an:W<16777216:=Nat.lt_of_lt_of_le hW (show 2^L<=2^24 from Nat.pow_le_pow_right (by decide) aA)
 have aU:=hid af
 rw [<-af] at aD
 have HP:=hid aa
 have HH:=hid ab
 have HA:=hid ha
 have HW:=hid hW
 have HT:=hid ht
 clear av aa ab ha ht hL aN hK af hf
 go_enter Tryz.func268,Tryz.ntmps268
 go_wp2_with fail
 go_loopg [6,7,8] (L-1) (fun j va vb vc wr=>∃ n:Nat,0<n/\n+j=L/\vb=.int .i64 n/\va=.int .u64 (W / 2^(j+1):Nat)/\a1r wr b F ds (p+(n-1))/\Hid (Chg [b] w wr))
 case atStart =>
  refine ⟨1,by omega,by omega,rfl,?_,h,hid (zR _ _)⟩
  rw [show L-1+1=L by omega,Nat.div_eq_of_lt HW.out]
  rfl
 case round =>
  obtain ⟨n,aT,a2,rfl,rfl,aK,aO⟩:=hrel
  obtain ⟨j,hj⟩:=zX (gk)
  have ap:=hid (HT.out.chg aO.out (fun x hx=>by simp at hx;omega))
  have d0:wr.cell? ⟨tb,0,none⟩=some (.int .i64 lo):=by rw [ap.out.blk.cell,aU.out];exact ap.out.long
  have u1:decide ((n:Int)<=(lo:Int))=true:=zB (by omega)
  have ac:=e5g wr b F ds (p+(n-1)) 1 aK (by omega) (by omega)
  have aj:=c6e ds (p+(n-1))
  have aS:W / 2^gk%2=a8h ds (p+(n-1)):=by
   have h1:=HA.out.get (b2r W L (n-1) (by omega))
   rw [show L-1-(n-1)=gk by omega] at h1
   exact h1.symm
  rw [show b4j ds (p+(n-1)) 1=a8h ds (p+(n-1)) by simp [b4j],show p+(n-1)+1=p+n by omega] at ac
  have al:=e7f aS
  obtain ⟨y,hy⟩:=zX (a8h ds (p+(n-1)))
  rw [<-hy] at ac aj al
  obtain ⟨v,hv⟩:=zX (W / 2^(gk+1))
  obtain ⟨v1,aq⟩:=zX (W / 2^gk)
  have aW:v<16777216:=by rw [hv];exact Nat.lt_of_le_of_lt (Nat.div_le_self _ _) an
  have aM:v1<16777216:=by rw [aq];exact Nat.lt_of_le_of_lt (Nat.div_le_self _ _) an
  rw [<-hv] at al ⊢
  rw [<-aq] at al
  have aY:bits BinOp.or IntKind.u64 ((v:Int)*2) (y:Int)=(v1:Int):=by
   have:=c0d (v:=v) (b:=y) (by omega) aj
   rw [al] at this
   rw [<-this]
   congr 1
   omega
  have ar:=hid aq
  clear aS al hy hv aq hj
  go_wp2_with fail
  refine ac.mono ?_
  rintro e w1 ⟨rfl,aw,aP⟩
  clear ac
  have ak:=a2b w1 b F ds _ aw
  have ai:=ap.out.chg aP (fun x hx=>by simp at hx;omega)
  have ad:=hid (aO.out.trans aP (fun x hx => .inl hx))
  have ag:n<25:=by omega
  have aL:(n:Int)<25:=by omega
  obtain ⟨fi,ay⟩:=zX (a2f lens K n)
  have d1:w1.cell? ⟨tb,1+n,none⟩=some (.int .u64 fi):=by rw [ai.blk.cell,ay];exact ai.first n ag
  have d2:w1.cell? ⟨tb,26+n,none⟩=some (vs n):=by rw [ai.blk.cell];exact ai.syms n ag
  obtain ⟨Av,cv,aF,-,-,aR⟩:=(ai.own n ag).oq
  have aJ:=c5w lens K n
  obtain ⟨q,hq⟩:=zX ((a2j lens K n).length)
  rw [<-hq] at aF aJ
  rw [aF] at d2
  have a1:q<=1024:=by omega
  have HQ:=hid hq
  have aC:=hid ay
  have aV:=hid aR
  clear aJ hq ay aR aF ai ap aK d0
  go_wp2_with fail
  refine ak.mono ?_
  rintro e aZ ⟨rfl,rfl⟩
  clear ak
  rcases gk with _ | j
  ·obtain rfl:n=L:=by omega
   obtain ⟨aQ,au,am⟩:=HH.out
   have aE:v1=W:=by rw [ar.out];simp
   rw [<-aE,<-aC.out,<-HQ.out] at au
   rw [<-aE,<-aC.out] at aQ am
   obtain ⟨ix,ax⟩:=zX (v1-fi)
   rw [<-ax] at au am
   have aB:(v1:Int)-(fi:Int)=(ix:Int):=by omega
   have ae:ix<(a2j lens K n).length:=by rw [<-HQ.out];exact au
   obtain ⟨ga,oa,rfl,aG⟩:=aV.out.at_ ae
   rw [zD,zF ae] at am
   have ao:(a2j lens K n)[ix]=s:=am
   rw [ao] at aG
   have d3:w1.cell? ⟨ga,oa+ix,none⟩=some (.int .i64 s):=aG
   have t1:decide (v1<fi)=false:=zA (by omega)
   have aI:decide ((v1:Int)<(fi:Int))=false:=zA (by omega)
   have t2:decide (ix<q)=true:=zB au
   have aX:decide ((ix:Int)<(q:Int))=true:=zB (by omega)
   have aH:ix<1024:=by omega
   clear aQ am ao aG ax aE ae HH
   go_wp2_with fail
   go_ret2
   exact ⟨rfl,aw,ad.out⟩
  ·have ah:=HP.out n aT (by omega)
   rw [show L-n=j+1 by omega,<-ar.out,<-aC.out,<-HQ.out] at ah
   rcases ah with ah | ah
   ·have t1:decide (v1<fi)=true:=zB ah
    have aI:decide ((v1:Int)<(fi:Int))=true:=zB (by omega)
    go_wp2_with fail
    go_roundg j
    case measure=>omega
    case rel=>exact ⟨n+1,by omega,by omega,by go_num,by rw [ar.out],by simpa using aw,ad⟩
   ·obtain ⟨ix,ax⟩:=zX (v1-fi)
    have aB:(v1:Int)-(fi:Int)=(ix:Int):=by omega
    have t1:decide (v1<fi)=false:=zA (by omega)
    have aI:decide ((v1:Int)<(fi:Int))=false:=zA (by omega)
    have t2:decide (ix<q)=false:=zA (by omega)
    have aX:decide ((ix:Int)<(q:Int))=false:=zA (by omega)
    have aH:ix<16777216:=by omega
    clear ax ah
    go_wp2_with fail
    go_roundg j
    case measure=>omega
    case rel=>exact ⟨n+1,by omega,by omega,by go_num,by rw [ar.out],by simpa using aw,ad⟩
theorem d4t {lens l:List Nat} {i:Nat} (h:i<l.length):a1z lens (l.drop i)=b2f lens l[i]++a1z lens (l.drop (i+1)):=by
 rw [List.drop_eq_getElem_cons h]
 rfl
theorem b4l (lens:List Nat) (s:Nat):(b2f lens s).length=a0g lens s:=a0a _ _
theorem e9k (w:World) (b:Nat) (F ds:List Nat) (p:Nat) (lens l:List Nat) (A:Option Addr) (cap:Nat) (h:a1r w b F ds p) (hf:b3p lens) (hc:a0d i64 w A lens) (hl:l.length<=4096)
  (hs:∀ s∈l,s<lens.length/\0<a0g lens s) (ha:a0y ds p (a1z lens l)) :
  Calls Tryz.prog 236 #[.pointer (some ⟨b,0,none⟩),.slice A lens.length cap,.int .i64 l.length] w fun e w'=>∃ v G,e=.returned (.tuple #[v,.int .i64 0])/\Own w' 3 v G (l.map i64)/\a1r w' b F ds (p+(a1z lens l).length)/\Chg [b] w w'/\∀ x∈G,w.heap.size<=x:=by
 have ar:=d5j lens A cap w hf hc
 have ae:=fun B cb w' hA' hB=>f1q lens A B cap cb w' hf hA' hB (a3s lens _)
 have aX:=h.lt b h.mem
 have al:(b0d lens).length=lens.length:=a3s lens _
 obtain ⟨n,hn⟩:=zX (lens.length)
 obtain ⟨m,hm⟩:=zX (l.length)
 have aT:=hf.n1
 have aN:=hf.n2
 rw [<-hn] at ar ae hs aT aN al ⊢
 rw [<-hm] at hl ⊢
 rw [al] at ae
 have HN:=hid hn
 have HM:=hid hm
 have HS:=hid hs
 have HF:=hid hf
 have HA:=hid ha
 have HC:=hid hc
 have aR:=hid ae
 have aI:=hid al
 have t1:decide ((m:Int)<0)=false:=by simp
 have t2:decide ((4194304:Int)<(m:Int))=false:=zA (by omega)
 clear hn hm hs hf ha hc ae al
 go_enter Tryz.func236,Tryz.ntmps236
 go_wp2_with fail
 refine ar.mono ?_
 rintro e w1 ⟨vw,gw,rfl,aG,ao,aY⟩
 have ac:=aG.toOwn
 obtain ⟨cw,rfl,av,aK,ay,_⟩:=aG.oq
 have aa:=ac.cells
 rw [aI.out] at av ⊢
 have ax:=h.same ao
 have ae:=aR.out (some ⟨gw,0,none⟩) cw w1 (HC.out.same ao) aa
 clear ar ay h ac aa
 go_wp2_with (go_at_call 69;refine (a2b _ b F ds _ ax).mono ?_;rintro e w' ⟨rfl,rfl⟩)
 refine ae.mono ?_
 rintro e w2 ⟨tb,C,vs,Fs,rfl,aC,aF,aV⟩
 have aD:=ax.same aF
 have af:=ao.tq aF
 have aM:b<tb:=by have:=ao.size;omega
 have aS:=hid aC
 clear ae aC ax
 have ai:=aD.lt
 have ag:=hid ai
 clear ai
 go_wp2_with fail
 go_loopg [11,12,13,38] m (fun j va vb vc iv wr=>∃ (i p':Nat) (G:List Nat),iv=.int .i64 i/\i+j=m/\Own wr 3 va G ((l.take i).map i64)/\a1r wr b F ds p'/\Hid (a0y ds p' (a1z lens (l.drop i)))/\Hid (p'+(a1z lens (l.drop i)).length=p+(a1z lens l).length)/\Hid (Chg [b] w2 wr)/\Hid (∀ x∈G,w2.heap.size<=x))
 case atStart=>exact ⟨0,p,[],rfl,by omega,Own.nil _ _,aD,HA,hid rfl,hid (zR _ _),hid (by simp)⟩
 case round =>
  obtain ⟨i,p',G,rfl,aW,ab,aB,Ha,Hp,am,HG⟩:=hrel
  rcases gk with _ | j
  ·obtain rfl:i=m:=by omega
   have t3:decide ((i:Int)<(i:Int))=false:=by simp
   go_wp2_with fail
   go_ret2
   have e1:l.take i=l:=by rw [HM.out,zN]
   have e2:p'=p+(a1z lens l).length:=by have:=Hp.out;rw [HM.out,List.drop_length] at this;simpa [a1z] using this
   rw [e1] at ab
   refine ⟨_,G,rfl,ab,e2 ▸ aB,(af.mono (by simp)).tq am.out,fun x hx=>Nat.le_trans af.size (HG.out x hx)⟩
  ·have aO:i<m:=by omega
   have aA:i<l.length:=by rw [<-HM.out];exact aO
   have t3:decide ((i:Int)<(m:Int))=true:=zB (by omega)
   obtain ⟨s,aq⟩:=zX (l[i])
   have hs:=HS.out l[i] (zG aA)
   have ak:=d4t (lens:=lens) aA
   rw [<-aq] at hs ak
   have aj:=Ha.out
   rw [ak] at aj
   have aL:=hid aj.right
   have aw:=a0o l aA
   rw [<-aq] at aw
   have ah:=f0e wr b F ds p' lens s tb C vs Fs aB HF.out hs.2 (aS.out.chg am.out (fun x hx=>by simp at hx;omega)) aM aj.left
   have aQ:=hid ak
   have aP:=hid aw
   clear hs ak aj aw aq
   go_wp2_with fail
   refine ah.mono ?_
   rintro e w3 ⟨rfl,aE,ap⟩
   have ad:=ab.chg ap (fun x hx hm=>by simp at hm;have:=HG.out x hx;have:=ag.out b aE.mem;omega)
   have an:Chg [] w3 (w3.alloc (.cells #[.int .i64 s] 3)):=(zR [] w3).alloc _
   have au:=ad.same an
   have aH:(l.take i).length=i:=by rw [zI];omega
   clear ab ad ah
   go_wp2_with (at_builtin;refine a0f rfl rfl a0p rfl rfl au (.int .i64 s) rfl ?c1 ?c2 ?c3 ?c4 ?_)
   case c1=>simp [go_sem]
   case c2=>rfl
   case c3=>rw [zE,aH];omega
   case c4=>rw [zE,aH];omega
   intro g2 aJ w4 aU az
   go_wp2_with fail
   go_roundg j
   case measure=>omega
   case rel =>
    refine ⟨i+1,p'+a0g lens s,[g2],by go_num,by omega,?_,(aE.same an).chg az.chg (fun x hx hm=>by have:=HG.out x hm;have:=ag.out x hx;omega),?_,hid ?_,hid ?_,hid ?_⟩
    ·have h9:=aU.toOwn
     rw [aP.out,zM]
     simpa [i64] using h9
    ·have:=aL.out
     rw [b4l] at this
     exact hid this
    ·have:=Hp.out
     rw [aQ.out,zC,b4l] at this
     omega
    ·exact ((am.out.trans ap (fun x hx => .inl hx)).trans an (by simp)).trans az.chg (fun x hx => .inr (HG.out x hx))
    ·intro x hx
     rcases az.new x hx with h9 | h9
     ·exact HG.out x h9
     ·have:=am.out.size;have:=ap.size;have:=an.size;omega
theorem d9l {freq:List Nat} (h2:freq.length<=256) (hpos:0<(a0v freq freq.length).length):d5d freq (a7d freq):=by
 rcases zZ (a0v freq freq.length).length 2 with h | h
 ·obtain ⟨e,he⟩:=List.length_eq_one_iff.1 (show (a0v freq freq.length).length=1 by omega)
  obtain ⟨s,hs,_,rfl⟩:=a7z (show e∈a0v freq freq.length by rw [he];simp)
  have h3:=d6p (by omega) he
  rw [c5j he]
  exact h3.2
 ·have aa:=b3u freq freq.length
  obtain ⟨f1,f2,f3⟩:=b8c (freq:=freq) (by omega) h (b7j _ 11)
  rw [c1k h]
  refine ⟨a7m _ _,f1,f2,fun n hn => ?_⟩
  obtain ⟨s,_,rfl⟩:=List.mem_map.1 hn
  exact f3 s
theorem e4u {l:List Int} {W d:Nat} (hl0:0<l.length) (hmx:b3k (a1w l W d)<256):b3p (a6i l W d)/\∀ s∈a1w l W d,s<(a6i l W d).length/\0<a0g (a6i l W d) s:=by
 have ac:a1w l W d≠[]:=fun e=>by have:=a7y l W d;rw [e] at this;simp at this;omega
 have aa:=d9l (freq:=a6o (a1w l W d)) (by rw [b1r];omega) (c0w ac)
 refine ⟨aa.full,fun s hs => ?_⟩
 have hm:=c1n hs
 have ab:s<(a6o (a1w l W d)).length:=by rw [b1r];omega
 refine ⟨by unfold a6i;rw [aa.len];exact ab,(aa.used s ab).2 ?_⟩
 rw [b6w hm]
 exact List.count_pos_iff.2 hs
theorem d8t {l:List Int} {W d i:Nat} (h:i<l.length):(a1w l W d)[i]?=some (a3c l W d i):=by
 simp [a1w,h]
theorem c3s (w:World) (b:Nat) (F ds:List Nat) (p:Nat) (l:List Int) (W H d:Nat) (h:a1r w b F ds p) (hw0:1<=W) (hw1:W<=16) (hh0:1<=H) (hh1:H<=16) (h0:1<=d) (h1:d<=16) (hl:l.length=W*H) (hs:a1u d l) (hmx:b3k (a1w l W d)<256) (ha:a0y ds p (a6h l W d)) :
  Calls Tryz.prog 183 #[.pointer (some ⟨b,0,none⟩),.int .i64 W,.int .i64 H,.int .i64 d] w fun e w'=>∃ v g,e=.returned (.tuple #[v,.int .i64 0])/\Row w' 3 v g (l.map vi)/\a1r w' b F ds (p+(a6h l W d).length)/\Chg [b] w w'/\w.heap.size<=g:=by
 obtain ⟨n,hn⟩:=zX (l.length)
 have aT:=zL hw1 hh1
 have aL:=zL hw0 hh0
 have aY:n<=256:=by rw [hn,hl];exact aT
 have a2:0<l.length:=by rw [hl];omega
 have bF:n<=64*W:=by rw [hn,hl,zY];exact Nat.mul_le_mul_right W (by omega)
 have bH:(W:Int)*(H:Int)=(n:Int):=by rw [hn,hl];simp
 obtain ⟨aa,ag⟩:=e4u a2 hmx
 unfold a6h at ha ⊢
 rw [zC]
 have ab:=a7y l W d
 have ax:=fun i (hi:i<l.length)=>d8t (W:=W) (d:=d) hi
 have aP:∀ x∈a1w l W d,x<256:=fun x hx=>by have:=c1n hx;omega
 obtain ⟨f,hf⟩:=zX (a1w l W d)
 obtain ⟨lens,a5⟩:=zX (a6i l W d)
 rw [<-a5] at aa ag ha ⊢
 rw [<-hf] at ag ha ab ax aP ⊢
 rw [<-hn] at ab ax
 have a1:=d3l w b F ds p lens h aa ha.left
 have af:=fun i=>a9o l W h0 i
 have ak:=fun i=>d0i hs W i
 have bE:=a1p (P:=Tryz.prog) a0p rfl .i64 .i64 n (by omega) (by omega)
 have bG:=h.lt b h.mem
 have HN:=hid hn
 have HA:=hid ha.right
 have bp:=hid aa
 have be:=hid ag
 have aB:=hid ab
 have bb:=hid ax
 have aH:=hid af
 have bq:=hid ak
 have br:=hid aP
 have HS:=hid hs
 have bB:=hid h.lt
 clear hn ha aa ag ab ax af ak aP hs hl h hf a5 hmx a2 aT aL
 go_enter Tryz.func183,Tryz.ntmps183
 go_wp2_with fail
 refine a1.mono ?_
 rintro e w1 ⟨v1,G1,rfl,an,aZ,aU,bC⟩
 obtain ⟨A1,c1,rfl,bv,bf,a4⟩:=an.oq
 have aQ:=e9k w1 b F ds _ lens f A1 c1 aZ bp.out a4 (by rw [aB.out];omega) be.out HA.out
 rw [aB.out] at aQ
 clear a1 an a4 aZ
 go_wp2_with fail
 refine aQ.mono ?_
 rintro e w3 ⟨v2,G2,rfl,ah,ao,bs,bh⟩
 obtain ⟨A2,c2,rfl,aI,bg,a6⟩:=ah.oq
 rw [aB.out] at aI ⊢
 have aV:=aU.tq bs
 obtain ⟨G,hG⟩:=zX (w3.heap.size)
 obtain ⟨w4,aA⟩:=zX (w3.alloc (.cells (Array.replicate n (Value.int .i64 0)) 3))
 have aj:Row w4 3 (.slice (some ⟨G,0,none⟩) n n) G ((a1a ([]:List Int) n).map vi):=by
  have h9:=Row.zeros w3 n (by omega)
  rw [<-hG] at h9
  rw [aA]
  exact h9
 have az:Chg [] w3 w4:=by rw [aA];exact (zR [] w3).alloc _
 have aN:=ao.same az
 have aR:=aV.trans az (by simp)
 have aq:=a6.same az
 have bJ:=ao.lt b ao.mem
 have ap:Apt A2 f [b,G]:=ah.apt (fun x hx hm=>by
  have h5:=bh x hx
  have h6:=ah.lt x hx
  have h7:=aU.size
  simp at hm
  omega)
 have bz:=aV.size
 have ba:=hid ao.lt
 have HG:=hid hG
 have bn:=hid ap
 have bi:=hid aq
 have a9:Hid (p+(a3u lens).length+(a1z lens f).length=p+((a3u lens).length+(a1z lens f).length)):=hid (by omega)
 have bk:=hid aA
 clear aQ ao az hG ap a6 aq ah aA
 go_wp2_with fail
 rw [<-bk.out,<-HG.out]
 go_loopg [14,15,16,17,44] n (fun j va vb vc vd iv wr=>∃ (i:Nat),iv=.int .i64 i/\i+j=n/\Row wr 3 (.slice (some ⟨G,0,none⟩) n n) G ((a1a (l.take i) n).map vi)/\Hid (Chg [G] w4 wr))
 case atStart=>exact ⟨0,rfl,by omega,by simpa using aj,hid (zR _ _)⟩
 case round =>
  clear aj
  obtain ⟨i,rfl,bI,ac,aC⟩:=hrel
  rcases gk with _ | j
  ·obtain rfl:n=i:=by omega
   have u2:decide ((n:Int)<(n:Int))=false:=by simp
   have bd:decide (n<n)=false:=by simp
   have e:a1a (l.take n) n=l:=by
    have:=b5h l
    rw [<-HN.out] at this
    exact this
   rw [e] at ac
   clear e
   go_wp2_with fail
   go_ret2
   refine ⟨_,G,rfl,ac,(aN.chg aC.out (fun z hz hm=>by simp at hm;have:=ba.out z hz;have:=HG.out;omega)).cast a9.out,aR.trans aC.out (fun z hz => .inr (by simp at hz;have:=HG.out;omega)),by have:=HG.out;omega⟩
  ·have am:i<n:=by omega
   have u2:decide ((i:Int)<(n:Int))=true:=zB (by omega)
   have bd:decide (i<n)=true:=zB am
   have aK:i<l.length:=by rw [<-HN.out];exact am
   have ay:i<f.length:=by rw [aB.out];exact am
   have aD:=bb.out i (by omega)
   have aX:=br.out f[i] (zG ay)
   rw [zF ay] at aD
   have aW:f[i]=a3c l W d i:=by injection aD
   obtain ⟨gf,of,rfl,aw⟩:=(bi.out.keep bn.out (aC.out.mono (fun x hx _=>by simp at hx;simp [hx]))).at_ ay
   rw [aW] at aw aX
   have aJ:=c5m (l:=l) hw0 (i:=i) (by omega)
   rw [<-HN.out] at aJ
   have ai:(a1a (l.take i) n).length=n:=a4g (by rw [zI];omega)
   have au:=b9q (a1a (l.take i) n) (some ⟨G,0,none⟩) n W d i wr h0 h1 hw0 (by omega) (by rw [ai];omega) (by omega) (d0h HS.out i n) ac.toOwn.cells (by rw [ai];omega)
   have ak:=bq.out i
   have af:=aH.out i
   have bA:2^d<=65536:=Nat.pow_le_pow_right (n:=2) (by decide) h1
   have bu:=Nat.two_pow_pos d
   rw [aJ,ai] at au
   have av:=a9p (d:=d) (g:=a8a l W i) (b5s HS.out W _ _) 7
   obtain ⟨gs,a0⟩:=zX (a3d 7 (a8a l W i) d)
   rw [<-a0] at au av ak
   obtain ⟨fi,al⟩:=zX (a3c l W d i)
   rw [<-al] at aw aX ak af
   have bo:wr.cell? ⟨gf,of+i,none⟩=some (.int .i64 fi):=aw
   generalize b3h (a8a l W i) d=cl at au
   have ar:gs<65536:=by
    have e:((2^d:Nat):Int)=(2:Int)^d:=by simp
    have:=av.2
    omega
   have aE:=fun w'=>c3b gs fi d w' h0 h1 av.1 ar (by omega)
   rw [ak] at aE
   have aO:=a0o l aK
   have a7:l[i]=l.getD i 0:=by rw [zD,zF aK];rfl
   rw [a7] at aO
   generalize l.getD i 0=xv at *
   have a8:(l.take i).length=i:=by rw [zI];omega
   have bD:((2^d:Nat):Int)=(2:Int)^d:=by simp
   have bx:IntKind.i64.wrap ((2:Int)^d)=(2:Int)^d:=IntWalk.i64_in _ (by omega)
   have t5:decide ((256:Int)<=(fi:Int))=false:=zA (by omega)
   have t6:decide ((2:Int)^d<=(fi:Int))=false:=zA (by omega)
   have bj:=hid aO
   have aS:=hid a8
   have bl:=hid aE
   have aM:=hid ac
   clear aJ ai ak a0 al aE aO a7 a8 ac aK av aD aW ay aw
   go_wp2_with fail
   refine au.mono ?_
   rintro e w6 ⟨rfl,a3⟩
   have aG:=hid (aC.out.trans a3 (by simp))
   have ad:=aM.out.chg a3 (by simp)
   obtain ⟨bm,bc⟩:=ad.fill_cell (by rw [aS.out];exact am)
   have ae:=ad.fill (by rw [aS.out];exact am) xv
   rw [aS.out] at bm bc ae
   have bw:=hid ae
   have aF:=bl.out w6
   clear au ad ae
   go_wp2_with fail
   refine aF.mono ?_
   rintro e w7 ⟨rfl,rfl⟩
   go_wp2_with fail
   go_roundg j
   case measure=>omega
   case rel =>
    refine ⟨i+1,by go_num,by omega,?_,hid (aG.out.setCell (.inl (by simp)) _)⟩
    rw [bj.out]
    exact bw.out
end Go.Proofs.YtepjepkgcdfboaaGreatDoor
