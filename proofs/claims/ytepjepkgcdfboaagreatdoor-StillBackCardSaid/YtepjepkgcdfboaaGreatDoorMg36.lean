/- package prefix by its contracts: GetTable. -/
import Derived.Test.YtepjepkgcdfboaaGreatDoorMg27
import Derived.Test.YtepjepkgcdfboaaGreatDoorMg35
set_option linter.unusedVariables false
set_option linter.unusedSimpArgs false
set_option maxHeartbeats 4000000
set_option maxRecDepth 100000
namespace Go.Proofs.YtepjepkgcdfboaaGreatDoor
open Go.RowKit
theorem c8k (w:World) (b:Nat) (F ds:List Nat) (p n v:Nat) (bx:Nat) (sb:Nat) (FS S:List Nat) (h:a1r w b F ds p) (hn:n<=16) (hv:v<2^n) (ha:a0y ds p (a0b v n)) (hs:a2n w sb FS S) (hS:S.length<137438953472)
  (hx:w.cell? ⟨bx,0,none⟩=some (.pointer (some ⟨b,0,none⟩))) (hbx:bx≠b) (hd:∀ x∈F,x∉FS) :
  Calls Tryz.prog 265 #[.int .i64 n,.pointer (some ⟨bx,0,none⟩),.pointer (some ⟨sb,0,none⟩)] w fun e w'=>e=.returned (.int .i64 v)/\a1r w' b F ds (p+n)/\∃ FS',a2n w' sb FS' (S++a0b v n)/\Chg (b::FS) w w'/\∀ x∈FS',x∈FS\/w.heap.size<=x:=by
 have hg:=a0j w b F ds p n v h (by omega) hv ha
 have ag:v<65536:=Nat.lt_of_lt_of_le hv (show 2^n<=2^16 from Nat.pow_le_pow_right (by decide) hn)
 have ai:IntKind.i64.wrap (v:Int)=(v:Int):=IntWalk.i64_in _ (by omega)
 have ad:=h.mem
 have HD:=hid hd
 have HV:=hid hv
 clear ha h hd
 go_enter Tryz.func265,Tryz.ntmps265
 go_wp2_with fail
 refine hg.mono ?_
 rintro e w1 ⟨rfl,ah,aa⟩
 have af:=hs.chg aa (fun x hx hm=>by simp at hm;exact HD.out b ad (hm ▸ hx))
 clear hg hs
 go_wp2_with fail
 refine (a0t w1 sb FS S v n af (by omega) HV.out (by omega)).mono ?_
 rintro e w2 ⟨rfl,ae,ac,ab⟩
 go_wp2
 go_ret
 refine ⟨rfl,ah.chg ab.chg HD.out,ae,ac,?_,fun x hx => ?_⟩
 ·exact (aa.mono (fun x hx _=>by simp at hx;simp [hx])).trans ab.chg (fun x hx => .inl (by simp [hx]))
 ·rcases ab.new x hx with h9 | h9
  ·exact .inl h9
  ·right;have:=aa.size;omega
theorem e0r (lens:List Nat) (i:Nat):lens.take (i+zr 66 (lens.drop i))=lens.take i++List.replicate (zr 66 (lens.drop i)) 0:=by
 rw [List.take_add]
 congr 1
 have hl:=d2j 66 (lens.drop i)
 refine List.eq_replicate_iff.2 ⟨by rw [zI];omega,fun x hx => ?_⟩
 obtain ⟨q,hq,rfl⟩:=List.getElem_of_mem hx
 rw [zI] at hq
 have h2:=e6n 66 (lens.drop i) q (by omega)
 rw [List.getElem_take]
 rw [zD,zF (by omega)] at h2
 simpa using h2
theorem d3l (w:World) (b:Nat) (F ds:List Nat) (p:Nat) (lens:List Nat) (h:a1r w b F ds p) (hf:b3p lens) (ha:a0y ds p (a3u lens)) :
  Calls Tryz.prog 235 #[.pointer (some ⟨b,0,none⟩)] w fun e w'=>∃ v G,e=.returned (.tuple #[v,.int .i64 0])/\Own w' 3 v G (lens.map i64)/\a1r w' b F ds (p+(a3u lens).length)/\Chg [b] w w'/\∀ x∈G,w.heap.size<=x:=by
 have cS:=hf.n1
 have cX:=hf.n2
 have ch:=hf.le
 have aS:=b8q lens
 have cA:=b0s lens
 obtain ⟨T,hT⟩:=zX (a3u lens)
 rw [<-hT] at ha aS cA ⊢
 obtain ⟨N,hN⟩:=zX (lens.length)
 rw [<-hN] at cS cX aS cA
 obtain ⟨N1,cj⟩:=zX (N-1)
 have eN:(N1:Int)+1=(N:Int):=by omega
 rw [<-cj] at aS
 have br:=ha
 rw [aS] at br
 have bO:=br.right
 rw [a0a] at bO
 have dg:=h.lt b h.mem
 have b6:=h.lt
 have dk:=h.mem
 obtain ⟨bx,bv⟩:=zX (w.heap.size)
 obtain ⟨w1,a2⟩:=zX (w.alloc (.cells #[.pointer (some ⟨b,0,none⟩)] 113))
 obtain ⟨w2,bC⟩:=zX (w1.alloc (.cells #[.slice none 0 0,.int .i64 0] 89))
 have aP:Blk w1 bx 113 #[.pointer (some ⟨b,0,none⟩)]:=by rw [a2,bv];exact Blk.new w _ _
 have bJ:Chg [] w w1:=by rw [a2];exact (zR [] w).alloc _
 have bB:Chg [] w1 w2:=by rw [bC];exact (zR [] w1).alloc _
 have bW:w1.heap.size=bx+1:=by rw [a2,bv];simp
 have bc:a2n w2 (bx+1) [bx+1] []:=by
  have:=a2n.new w1
  rw [<-bC,bW] at this
  exact this
 have az:=aP.chg bB (by simp)
 have b5:=h.same bJ
 have cu:=b5.same bB
 have c2:=az.cell 0
 simp at c2
 have c1:=aP.cell 0
 simp at c1
 have aC:=c8k w2 b F ds p 10 N1 bx (bx+1) [bx+1] [] cu (by omega) (by omega) br.left bc (by simp) c2 (by omega) (fun x hx hm=>by simp at hm;have:=b6 x hx;omega)
 have HF:=hid hf
 have HN:=hid hN
 have HT:=hid hT
 have co:=hid aS
 have c7:=hid ch
 have HA:=hid bO
 have bu:=hid b6
 have c5:=hid a2
 have cK:=hid bC
 have ai:=hid bv
 have cY:=hid (bJ.tq bB)
 have cI:=hid bW
 clear hN hT aS ch ha br bO b6 a2 bC bv bJ bB cj h bc hf bW aP
 go_enter Tryz.func235,Tryz.ntmps235
 go_wp2_with fail
 rw [<-ai.out,<-c5.out]
 refine (a2b w1 b F ds p b5).mono ?_
 rintro e wx ⟨rfl,rfl⟩
 go_wp2_with fail
 rw [cI.out,<-cK.out]
 refine aC.mono ?_
 rintro e w3 ⟨rfl,cC,ci,aM,bT,aV⟩
 rw [List.nil_append] at aM
 have dc:b<bx:=by have:=ai.out;omega
 have ba:=az.chg bT (by simp;omega)
 have cT:bx<w2.heap.size:=az.lt
 have bj:∀ x∈ci,bx<x:=fun x hx=>by
  rcases aV x hx with h9 | h9
  ·simp at h9;omega
  ·omega
 have cf:Chg [b] w w3:=(cY.out.mono (by simp)).trans bT (fun x hx=>by simp at hx;rcases hx with hx | hx;left;simp [hx];right;have:=ai.out;omega)
 have bQ:(a0b N1 10).length=10:=a0a _ _
 clear aC b5 cu az c1 c2 bT aV cT
 go_wp2_with fail
 go_loopg [7,8] N (fun j vl va wr=>∃ (i p':Nat) (FS S G:List Nat),i<=N/\N<=i+j/\Own wr 3 vl G ((lens.take i).map i64)/\a1r wr b F ds p'/\Hid (a0y ds p' (a3m lens i))/\Hid (p'+(a3m lens i).length=p+T.length)/\a2n wr (bx+1) FS S/\Hid (S++a3m lens i=T)/\Blk wr bx 113 #[.pointer (some ⟨b,0,none⟩)]/\Hid (∀ x∈FS,bx<x)/\Hid (∀ x∈G,bx<x/\x∉FS)/\Hid (Chg [b] w wr))
 case atStart=>exact ⟨0,p+10,ci,a0b N1 10,[],by omega,by omega,Own.nil _ _,cC,HA,hid (by rw [co.out,zC,a0a];omega),aM,hid co.out.symm,ba,hid bj,hid (by simp),hid cf⟩
 case round =>
  clear cC aM ba bj cf bQ
  obtain ⟨i,p',FS,S,G,de,da,aa,ay,cv,HP,aK,HS,aB,aN,HG,bz⟩:=hrel
  have cx:=aB.cell 0
  simp at cx
  have aR:(lens.take i).length=i:=by rw [zI,<-HN.out];omega
  obtain ⟨kd,b3⟩:=zX (lens.take i)
  rw [<-b3] at aa aR
  have bM:=hid b3
  clear b3
  obtain ⟨Al,cl,rfl,b0,cH,ae⟩:=aa.oq
  rw [aR] at b0 ⊢
  have ad:=aa
  rw [aR] at ad
  by_cases hi:N<=i
  ·obtain rfl:N=i:=by omega
   have t1:decide (N<N)=false:=by simp
   have e0:a3m lens N=[]:=by rw [HN.out];exact b7x lens
   have hp:=HP.out
   rw [e0,List.length_nil] at hp
   have cr:=HS.out
   rw [e0,List.append_nil] at cr
   subst cr
   have bw:kd=lens:=by rw [bM.out,HN.out,zN]
   have dh:=hid bw
   have t2:((N:Int) != (N:Int))=false:=by simp
   have ag:a0d i64 wr Al lens:=by rw [<-bw];exact ae
   have ar:=aa
   rw [bw,<-HN.out] at ar
   obtain ⟨ab,bH⟩:=zX (wr.heap.size)
   obtain ⟨w8,bD⟩:=zX (wr.alloc (.cells #[.slice none 0 0,.int .i64 0] 89))
   have a3:Chg [] wr w8:=by rw [bD];exact (zR [] wr).alloc _
   have cs:a2n w8 ab [ab] []:=by rw [bD,bH];exact a2n.new wr
   have bI:=aK.lt
   have bh:=aa.lt
   have bg:Apt Al lens [ab]:=aa.apt (fun x hx hm=>by simp at hm;have:=bh x hx;omega)
   have bX:=c2l w8 ab [ab] [] lens Al cl cs HF.out (ag.same a3) bg (by simp)
   rw [List.nil_append,<-HT.out,<-HN.out] at bX
   have el:=a2b wr b F ds p' ay
   have bd:=hid bH
   have cP:=hid bD
   have be:=ay.same a3
   have a6:=aK.same a3
   have aG:=ar.same a3
   have a5:=bz.out.trans a3 (by simp)
   have ca:=ay.lt
   have cR:=hid hp
   clear e0 bw ag ae aa ad ar bH bD cs bg hp aB aK
   go_wp2_with (go_at_call 69;refine el.mono ?_;rintro e w' ⟨rfl,rfl⟩)
   rw [<-bd.out,<-cP.out]
   refine bX.mono ?_
   rintro e w9 ⟨rfl,F9,aL,aX⟩
   have bG:=a6.chg aX.chg (fun x hx hm=>by simp at hm;have:=bI x hx;have:=bd.out;omega)
   have a9:=be.chg aX.chg (fun x hx hm=>by simp at hm;have:=ca x hx;have:=bd.out;omega)
   have aH:=aG.chg aX.chg (fun x hx hm=>by simp at hm;have:=bh x hx;have:=bd.out;omega)
   have aW:=a5.trans aX.chg (fun x hx => .inr (by simp at hx;have:=bd.out;have:=bz.out.size;omega))
   have b9:=c8t w9 ab F9 S aL
   have bZ:=c8t w9 (bx+1) FS S bG
   have bk:=c3c w9 ab F9 S aL (by omega)
   have a1:=fun wz hz=>c3c wz (bx+1) FS S (bG.same hz:a2n wz (bx+1) FS S) (by omega)
   obtain ⟨sl,cg⟩:=zX (S.length)
   rw [<-cg] at b9 bZ
   have t3:((sl:Int) != (sl:Int))=false:=by simp
   have cL:=hid a1
   clear bX be a6 aG a5 aL bG aX a1 cg
   go_wp2_with fail
   refine b9.mono ?_
   rintro e w' ⟨rfl,rfl⟩
   go_wp2_with fail
   refine bZ.mono ?_
   rintro e w' ⟨rfl,rfl⟩
   clear b9 bZ
   go_wp2_with fail
   refine bk.mono ?_
   rintro e cM ⟨db,dj,rfl,aD,an,bL⟩
   obtain ⟨cF,c6,rfl,_,_,bm⟩:=aD.oq
   clear bk
   go_wp2_with fail
   refine (cL.out cM an).mono ?_
   rintro e cU ⟨c8,df,rfl,aF,au,bP⟩
   obtain ⟨cG,cN,rfl,_,_,bl⟩:=aF.oq
   have b4:∀ {wz:World} {A:Option Addr},a0d b8 wz A (a1n S)->Lib.BytesIn wz A (a1n S).length ((a1n S).map Int.ofNat):=by
    intro wz A hc hn
    obtain ⟨g,o,e1,_,bf⟩:=hc.ex hn
    refine ⟨g,o,e1,fun i hi => ?_⟩
    rw [bf i _ (zF hi)]
    have e:((a1n S).map Int.ofNat).getD i 0=((a1n S)[i]:Nat):=by
     rw [zD,zW,zF hi]
     rfl
    rw [e]
    rfl
   have cp:=Tryz.bytes_Equal_all cF cG (a1n S).length c6 (a1n S).length cN ((a1n S).map Int.ofNat) ((a1n S).map Int.ofNat) cU (by simp) (by simp) (b4 (bm.same au)) (b4 bl)
   have et:(Lib.bytesOf ((a1n S).map Int.ofNat)==Lib.bytesOf ((a1n S).map Int.ofNat))=true:=by simp
   rw [et] at cp
   have bb:=(a9.same an).same au
   have aO:=(aH.same an).same au
   have bi:=(aW.trans an (by simp)).trans au (by simp)
   clear aD aF bm bl b4 et an au bL bP a9 aH aW
   go_wp2_with fail
   refine cp.mono ?_
   rintro e w' ⟨rfl,rfl⟩
   go_wp2
   go_ret2
   exact ⟨_,G,rfl,by rw [HN.out] at *; exact aO,bb.cast cR.out,bi,fun x hx=>by have:=(HG.out x hx).1;have:=ai.out;omega⟩
  ·rcases gk with _ | j
   ·exfalso;omega
   have ce:i<N:=by omega
   have a8:i<lens.length:=by rw [<-HN.out];exact ce
   have t1:decide (i<N)=true:=zB ce
   have dd:decide ((i:Int)<(N:Int))=true:=zB (by omega)
   have di:S.length<=20000:=by
    have:=congrArg List.length HS.out
    rw [zC] at this
    omega
   have aI:∀ x∈F,x∉FS:=fun x hx hm=>by have:=bu.out x hx;have:=aN.out x hm;have:=ai.out;omega
   by_cases hz:zr 66 (lens.drop i)<3
   ·have aw:=b7y a8 hz
    have ax:=cv.out
    rw [aw] at ax
    have cQ:a0g lens i<=24:=by
     unfold a0g
     rw [zD,zF a8]
     exact c7.out _ (zG _)
    have af:=a0o lens a8
    have cm:lens[i]=a0g lens i:=by unfold a0g;rw [zD,zF a8];rfl
    rw [cm] at af
    generalize a0g lens i=v at *
    have a0:=c8k wr b F ds p' 5 v bx (bx+1) FS S ay (by omega) (by omega) ax.left aK (by omega) cx (by omega) aI
    have b7:=hid ax.right
    have bq:=hid aw
    have b1:=hid af
    have t2:((v:Int) != 31)=true:=by rw [bne_iff_ne];omega
    have bS:=aB.lt
    have a4:=(a2b wr b F ds p' ay)
    clear ax aw af cm ay aK
    go_wp2_with (go_at_call 69;refine a4.mono ?_;rintro e w' ⟨rfl,rfl⟩)
    refine a0.mono ?_
    rintro e w4 ⟨rfl,bs,FS4,ao,aq,aJ⟩
    have ac:=aa.lt
    have aj:=ad.chg aq (fun x hx hm=>by
     rcases zJ.1 hm with hm | hm
     ·have:=(HG.out x hx).1;omega
     ·exact (HG.out x hx).2 hm)
    have aQ:=aB.chg aq (fun hm=>by
     rcases zJ.1 hm with hm | hm
     ·omega
     ·have:=aN.out _ hm;omega)
    have bA:=aQ.cell 0
    simp at bA
    have cZ:=aq.size
    have ap:∀ x∈FS4,bx<x:=fun x hx=>by
     rcases aJ x hx with h9 | h9
     ·exact aN.out x h9
     ·omega
    have a7:∀ x∈G,bx<x/\x∉FS4:=fun x hx=>⟨(HG.out x hx).1,fun hm=>by
     rcases aJ x hm with h9 | h9
     ·exact (HG.out x hx).2 h9
     ·have:=ac x hx;omega⟩
    have bn:Chg [b] w w4:=bz.out.trans aq (fun x hx=>by
     rcases zJ.1 hx with hx | hx
     ·left;simp [hx]
     ·right;have:=aN.out x hx;have:=ai.out;omega)
    have bU:=hid ac
    have ak:=hid ap
    have av:=hid a7
    have bE:=hid bn
    have al:Chg [] w4 (w4.alloc (.cells #[.int .i64 v] 3)):=(zR [] w4).alloc _
    have bK:=aj.same al
    clear aa ad ae aB aJ ac ap a7 bn aq a0 a4 aj
    go_wp2_with (at_builtin;refine a0f rfl rfl a0p rfl rfl bK (.int .i64 v) rfl ?c1 ?c2 ?c3 ?c4 ?_)
    case c1=>simp [go_sem]
    case c2=>rfl
    case c3=>rw [zE,aR];omega
    case c4=>rw [zE,aR];omega
    intro g2 cO w5 cq am
    obtain ⟨G5,cz⟩:=zX ([g2])
    have ah:=cq.toOwn
    rw [<-cz] at am ah
    clear cq cz
    have b2:=ao.lt
    go_wp2_with fail
    go_roundg j
    case measure=>omega
    case rel =>
     refine ⟨i+1,p'+5,FS4,S++a0b v 5,G5,by omega,by omega,?_,(bs.same al).chg am.chg (fun x hx hm=>by have:=bu.out x hx;have:=(av.out x hm).1;have:=ai.out;omega),b7,hid ?_,(ao.same al).chg am.chg (fun x hx hm=>(av.out x hm).2 hx),hid ?_,(aQ.chg al (by simp)).chg am.chg (fun hm=>by have:=(av.out _ hm).1;omega),ak,hid ?_,hid ?_⟩
     ·rw [b1.out,<-bM.out,zM]
      exact ah
     ·have:=HP.out
      rw [bq.out] at this
      simp only [zC,a0a] at this
      omega
     ·rw [<-HS.out,bq.out]
      simp only [zH]
     ·intro x hx
      rcases am.new x hx with h9 | h9
      ·exact av.out x h9
      ·have:=al.size
       exact ⟨by omega,fun hm=>by have:=b2 x hm;omega⟩
     ·exact (bE.out.trans al (by simp)).trans am.chg (fun x hx => .inr (by have:=(av.out x hx).1;have:=ai.out;omega))
   ·have aw:=b4w a8 hz
    have ct:=d2j 66 (lens.drop i)
    have cV:=f4s 66 (lens.drop i)
    have af:=e0r lens i
    rw [zO,<-HN.out] at ct
    obtain ⟨z,cy⟩:=zX (zr 66 (lens.drop i))
    rw [<-cy] at aw hz ct cV af
    obtain ⟨z0,cb⟩:=zX (z-3)
    have ez:(z0:Int)+3=(z:Int):=by omega
    rw [<-cb] at aw
    have ax:=cv.out
    rw [aw] at ax
    have a0:=c8k wr b F ds p' 5 31 bx (bx+1) FS S ay (by omega) (by omega) ax.left aK (by omega) cx (by omega) aI
    have bN:=ax.right
    rw [a0a] at bN
    have ck:=hid bN
    have bq:=hid aw
    have b1:=hid af
    have t2:(((31:Nat):Int) != 31)=false:=rfl
    have bS:=aB.lt
    have a4:=(a2b wr b F ds p' ay)
    clear ax bN aw af ay aK cy cb
    go_wp2_with (go_at_call 69;refine a4.mono ?_;rintro e w' ⟨rfl,rfl⟩)
    refine a0.mono ?_
    rintro e w4 ⟨rfl,bs,FS4,ao,aq,aJ⟩
    have ac:=aa.lt
    have aj:=ad.chg aq (fun x hx hm=>by
     rcases zJ.1 hm with hm | hm
     ·have:=(HG.out x hx).1;omega
     ·exact (HG.out x hx).2 hm)
    have aQ:=aB.chg aq (fun hm=>by
     rcases zJ.1 hm with hm | hm
     ·omega
     ·have:=aN.out _ hm;omega)
    have bA:=aQ.cell 0
    simp at bA
    have cZ:=aq.size
    have ap:∀ x∈FS4,bx<x:=fun x hx=>by
     rcases aJ x hx with h9 | h9
     ·exact aN.out x h9
     ·omega
    have a7:∀ x∈G,bx<x/\x∉FS4:=fun x hx=>⟨(HG.out x hx).1,fun hm=>by
     rcases aJ x hm with h9 | h9
     ·exact (HG.out x hx).2 h9
     ·have:=ac x hx;omega⟩
    have bn:Chg [b] w w4:=bz.out.trans aq (fun x hx=>by
     rcases zJ.1 hx with hx | hx
     ·left;simp [hx]
     ·right;have:=aN.out x hx;have:=ai.out;omega)
    have bU:=hid ac
    have ak:=hid ap
    have av:=hid a7
    have bE:=hid bn
    have aE:∀ x∈F,x∉FS4:=fun x hx hm=>by have:=bu.out x hx;have:=ak.out x hm;have:=ai.out;omega
    have aZ:=c8k w4 b F ds (p'+5) 6 z0 bx (bx+1) FS4 (S++a0b 31 5) bs (by omega) (by omega) ck.out.left ao (by rw [zC,a0a];omega) bA (by omega) aE
    have b7:=hid ck.out.right
    have aA:=hid aj
    have bR:=hid aQ
    have cd:=aQ.lt
    have cw:Hid (∀ x∈G,x<w4.heap.size):=hid aj.lt
    clear aa ad ae aB aJ ac ap a7 bn aq a0 a4 aj aQ bs ao aI aE
    go_wp2_with fail
    refine aZ.mono ?_
    rintro e w6 ⟨rfl,c0,FS6,aU,bo,bY⟩
    have ac:=aA.out.lt
    have bp:=aA.out.chg bo (fun x hx hm=>by
     rcases zJ.1 hm with hm | hm
     ·have:=(av.out x hx).1;omega
     ·exact (av.out x hx).2 hm)
    have cc:=bR.out.chg bo (fun hm=>by
     rcases zJ.1 hm with hm | hm
     ·omega
     ·have:=ak.out _ hm;omega)
    have cJ:=cc.cell 0
    simp at cJ
    have c9:=bo.size
    have aY:∀ x∈FS6,bx<x:=fun x hx=>by
     rcases bY x hx with h9 | h9
     ·exact ak.out x h9
     ·omega
    have cE:∀ x∈G,bx<x/\x∉FS6:=fun x hx=>⟨(av.out x hx).1,fun hm=>by
     rcases bY x hm with h9 | h9
     ·exact (av.out x hx).2 h9
     ·have:=ac x hx;omega⟩
    have cB:Chg [b] w w6:=bE.out.trans bo (fun x hx=>by
     rcases zJ.1 hx with hx | hx
     ·left;simp [hx]
     ·right;have:=ak.out x hx;have:=ai.out;omega)
    have cn:=hid ac
    have bF:=hid aY
    have aT:=hid cE
    have cW:=hid cB
    have al:Chg [] w6 w6:=zR _ _
    have cD:=hid bp
    clear bY ac aY cE cB bo aZ
    go_wp2_with (at_builtin;refine b4o rfl rfl a0p rfl rfl Tryz.underlying3 rfl bp z rfl ?c1 ?c2 ?c3 ?_)
    case c1=>omega
    case c2=>rw [zE,aR];omega
    case c3=>rw [zE,aR];omega
    intro v5 G5 w5 ah am
    have bV:=aU.lt
    go_wp2_with fail
    go_roundg j
    case measure=>omega
    case rel =>
     refine ⟨i+z,p'+5+6,FS6,S++a0b 31 5++a0b z0 6,G5,by omega,by omega,?_,(c0.same al).chg am.chg (fun x hx hm=>by have:=bu.out x hx;have:=(aT.out x hm).1;have:=ai.out;omega),b7,hid ?_,(aU.same al).chg am.chg (fun x hx hm=>(aT.out x hm).2 hx),hid ?_,(cc.chg al (by simp)).chg am.chg (fun hm=>by have:=(aT.out _ hm).1;omega),bF,hid ?_,hid ?_⟩
     ·rw [b1.out,<-bM.out,zM]
      have:=ah
      simpa [i64] using this
     ·have:=HP.out
      rw [bq.out] at this
      simp only [zC,a0a] at this
      omega
     ·rw [<-HS.out,bq.out]
      simp only [zH]
     ·intro x hx
      rcases am.new x hx with h9 | h9
      ·exact aT.out x h9
      ·have:=al.size
       exact ⟨by omega,fun hm=>by have:=bV x hm;omega⟩
     ·exact (cW.out.trans al (by simp)).trans am.chg (fun x hx => .inr (by have:=(aT.out x hx).1;have:=ai.out;omega))
structure a5l (w:World) (tb:Nat) (lens:List Nat) (kl kf ks:Nat) (C:Array Value) (vs:Nat->Value) (Fs:Nat->List Nat):Prop where
 blk:Blk w tb 316 C
 size:C.size=51
 long:C[0]?=some (.int .i64 (b8d lens kl:Nat))
 first:∀ n,n<25->C[1+n]?=some (.int .u64 (a2f lens kf n:Nat))
 syms:∀ n,n<25->C[26+n]?=some (vs n)
 own:∀ n,n<25->Own w 3 (vs n) (Fs n) ((a2j lens ks n).map i64)
 new:∀ n,∀ x∈Fs n,tb<x
 apart:∀ n m,n<25->m<25->n≠m->∀ x∈Fs n,x∉Fs m
abbrev d7x (w:World) (tb:Nat) (lens:List Nat) (k:Nat) (C:Array Value) (vs:Nat->Value) (Fs:Nat->List Nat):Prop:=a5l w tb lens k k k C vs Fs
variable {w:World} {tb:Nat} {lens:List Nat} {kl kf ks:Nat} {C:Array Value} {vs:Nat->Value} {Fs:Nat->List Nat}
theorem a5l.same (h:a5l w tb lens kl kf ks C vs Fs) {w':World} (hc:Chg [] w w'):a5l w' tb lens kl kf ks C vs Fs :=
 { h with blk:=h.blk.chg hc (by simp),own:=fun n hn=>(h.own n hn).same hc }
theorem a5l.chg (h:a5l w tb lens kl kf ks C vs Fs) {w':World} {G:List Nat} (hc:Chg G w w') (hG:∀ x∈G,x<tb):a5l w' tb lens kl kf ks C vs Fs :=
 { h with blk:=h.blk.chg hc (fun hm=>by have:=hG tb hm;omega),own:=fun n hn=>(h.own n hn).chg hc fun x hx hm=>by have:=h.new n x hx;have:=hG x hm;omega }
theorem a5l.first_new (h:a5l w tb lens kl ks ks C vs Fs) {n:Nat} (hn:n<25) {wd:Nat}
  (hs:a2f lens (ks+1) n=wd) (ho:∀ m,n≠m->a2f lens (ks+1) m=a2f lens ks m) :
  a5l (w.setCell ⟨tb,1+n,none⟩ (.int .u64 wd)) tb lens kl (ks+1) ks (C.setIfInBounds (1+n) (.int .u64 wd)) vs Fs where
 blk:=h.blk.set_ _ _
 size:=by rw [Array.size_setIfInBounds];exact h.size
 long:=by rw [Array.getElem?_setIfInBounds,if_neg (by omega)];exact h.long
 first m hm:=by
  by_cases e:n=m
  ·subst e
   rw [Array.getElem?_setIfInBounds,if_pos rfl,if_pos (by rw [h.size];omega),hs]
  ·rw [Array.getElem?_setIfInBounds,if_neg (by omega),ho m e];exact h.first m hm
 syms m hm:=by rw [Array.getElem?_setIfInBounds,if_neg (by omega)];exact h.syms m hm
 own m hm:=(h.own m hm).far (fun hx=>by have:=h.new m _ hx;simp at this) _
 new:=h.new
 apart:=h.apart
theorem a5l.first_old (h:a5l w tb lens kl ks ks C vs Fs) (ho:∀ m,a2f lens (ks+1) m=a2f lens ks m) :
  a5l w tb lens kl (ks+1) ks C vs Fs:={ h with first:=fun m hm=>by rw [ho];exact h.first m hm }
theorem a5l.long_new (h:a5l w tb lens kl kf ks C vs Fs) {n k:Nat} (hs:b8d lens k=n) :
  a5l (w.setCell ⟨tb,0,none⟩ (.int .i64 n)) tb lens k kf ks (C.setIfInBounds 0 (.int .i64 n)) vs Fs where
 blk:=h.blk.set_ _ _
 size:=by rw [Array.size_setIfInBounds];exact h.size
 long:=by rw [Array.getElem?_setIfInBounds,if_pos rfl,if_pos (by rw [h.size];omega),hs]
 first m hm:=by rw [Array.getElem?_setIfInBounds,if_neg (by omega)];exact h.first m hm
 syms m hm:=by rw [Array.getElem?_setIfInBounds,if_neg (by omega)];exact h.syms m hm
 own m hm:=(h.own m hm).far (fun hx=>by have:=h.new m _ hx;simp at this) _
 new:=h.new
 apart:=h.apart
theorem a5l.syms_new (h:a5l w tb lens kl kf ks C vs Fs) {n:Nat} (hn:n<25) {w':World} {g:Nat} {v:Value} {s:Nat}
  (hg:a0u (Fs n) [g] w w') (ht:tb<w.heap.size) (hr:Own w' 3 v [g] ((a2j lens ks n).map i64++[i64 s]))
  (hs:a2j lens (ks+1) n=a2j lens ks n++[s]) (ho:∀ m,n≠m->a2j lens (ks+1) m=a2j lens ks m) :
  a5l (w'.setCell ⟨tb,26+n,none⟩ v) tb lens kl kf (ks+1) (C.setIfInBounds (26+n) v) (fun m=>if m=n then v else vs m) (fun m=>if m=n then [g] else Fs m):=by
 have ab:tb∉Fs n:=fun hm=>by have:=h.new n _ hm;omega
 have ac:tb<g:=by
  rcases hg.new g (by simp) with h1 | h1
  ·exact h.new n _ h1
  ·omega
 have aa:∀ m,m<25->m≠n->∀ x∈Fs m,x≠g:=fun m hm hmn x hx he=>by
  subst he
  rcases hg.new x (by simp) with h1 | h1
  ·exact h.apart m n hm hn hmn x hx h1
  ·have:=(h.own m hm).lt x hx;omega
 refine ⟨(h.blk.chg hg.chg ab).set_ _ _,by rw [Array.size_setIfInBounds];exact h.size,by rw [Array.getElem?_setIfInBounds,if_neg (by omega)];exact h.long,fun m hm=>by rw [Array.getElem?_setIfInBounds,if_neg (by omega)];exact h.first m hm,fun m hm => ?_,fun m hm => ?_,fun m x hx => ?_,fun a b ha hb hab x hx hx' => ?_⟩
 ·rw [Array.getElem?_setIfInBounds]
  by_cases e:m=n
  ·subst e;rw [if_pos rfl,if_pos (by rw [h.size];omega),if_pos rfl]
  ·rw [if_neg (by omega),if_neg e];exact h.syms m hm
 ·by_cases e:m=n
  ·subst e
   simp only [if_pos rfl]
   rw [hs,zM]
   exact hr.far (by simp;omega) _
  ·simp only [if_neg e]
   rw [ho m (fun hh=>e hh.symm)]
   refine ((h.own m hm).chg hg.chg fun x hx hm'=>h.apart m n hm hn e x hx hm').far (fun hx=>by have:=h.new m _ hx;simp at this) _
 ·by_cases e:m=n
  ·rw [if_pos e] at hx;simp at hx;omega
  ·rw [if_neg e] at hx;exact h.new m x hx
 ·by_cases e:a=n
  ·rw [if_pos e] at hx
   rw [if_neg (fun hh=>hab (e.trans hh.symm))] at hx'
   simp at hx
   exact aa b hb (fun hh=>hab (e.trans hh.symm)) x hx' hx
  ·rw [if_neg e] at hx
   by_cases e2:b=n
   ·rw [if_pos e2] at hx'
    simp at hx'
    exact aa a ha e x hx hx'
   ·rw [if_neg e2] at hx'
    exact h.apart a b ha hb hab x hx hx'
def f2x:Array Value:=#[.int .i64 0,.int .u64 0,.int .u64 0,.int .u64 0,.int .u64 0,.int .u64 0,.int .u64 0,.int .u64 0,.int .u64 0,.int .u64 0,.int .u64 0,.int .u64 0,.int .u64 0,.int .u64 0,.int .u64 0,.int .u64 0,.int .u64 0,.int .u64 0,.int .u64 0,.int .u64 0,.int .u64 0,.int .u64 0,.int .u64 0,.int .u64 0,.int .u64 0,.int .u64 0,.slice none 0 0,.slice none 0 0,.slice none 0 0,.slice none 0 0,.slice none 0 0,.slice none 0 0,.slice none 0 0,.slice none 0 0,.slice none 0 0,.slice none 0 0,.slice none 0 0,.slice none 0 0,.slice none 0 0,.slice none 0 0,.slice none 0 0,.slice none 0 0,.slice none 0 0,.slice none 0 0,.slice none 0 0,.slice none 0 0,.slice none 0 0,.slice none 0 0,.slice none 0 0,.slice none 0 0,.slice none 0 0]
theorem e5w:f2x=(Value.int .i64 0::(List.replicate 25 (Value.int .u64 0)++List.replicate 25 (Value.slice none 0 0))).toArray:=rfl
theorem f2y (w:World) (lens:List Nat):d7x (w.alloc (.cells f2x 316)) w.heap.size lens 0 f2x (fun _ => .slice none 0 0) (fun _=>[]):=by
 refine ⟨Blk.new w _ _,rfl,rfl,fun n hn => ?_,fun n hn => ?_,fun n _ => ?_,fun _ x hx=>by simp at hx,fun _ _ _ _ _ x hx=>by simp at hx⟩
 ·have e:a2f lens 0 n=0:=by simp [a2f,a2j]
  rw [e,e5w,List.getElem?_toArray,Nat.add_comm,List.getElem?_cons_succ,List.getElem?_append_left (by simpa using hn),List.getElem?_replicate,if_pos hn]
  rfl
 ·rw [e5w,List.getElem?_toArray,show 26+n=(25+n)+1 by omega,List.getElem?_cons_succ,zS (by simp),zV,show 25+n-25=n by omega,List.getElem?_replicate,if_pos hn]
 ·have e:a2j lens 0 n=[]:=by simp [a2j]
  rw [e]
  exact Own.nil _ _
theorem f1q (lens : List Nat) (A B : Option Addr) (ca cb : Nat) (w : World) (hf : b3p lens) (hA : a0d i64 w A lens) (hB : a0d f3b w B (b0d lens)) (hBl : (b0d lens).length = lens.length) :
    Calls Tryz.prog 267 #[.slice A lens.length ca,.slice B (b0d lens).length cb] w fun e w'=>∃ tb C vs Fs,e=.returned (.pointer (some ⟨tb,0,none⟩))/\d7x w' tb lens (a0q lens).length C vs Fs/\Chg [] w w'/\w.heap.size<=tb:=by
  have aV:=fun wz hc=>d1p lens A ca wz hf.n2 hc
  have br:=b9n lens 24
  have aA:(a0q lens).length<=lens.length:=br
  have bD:=hf.n2
  rw [hBl]
  obtain ⟨N,hN⟩:=zX (lens.length)
  rw [<-hN] at aV aA bD hBl ⊢
  obtain ⟨M,hM⟩:=zX ((a0q lens).length)
  rw [<-hM] at aA ⊢
  have HN:=hid hN
  have HM:=hid hM
  have aX:=hid hBl
  have HA:=hid hA
  have HB:=hid hB
  have a2:=hid aV
  have HF:=hid hf
  clear hN hM hBl hA hB aV br hf
  go_enter Tryz.func267,Tryz.ntmps267
  go_wp2_with fail
  obtain ⟨tb,aY⟩:=zX (w.heap.size)
  obtain ⟨w1,aD⟩:=zX (w.alloc (.cells f2x 316))
  have ac:d7x w1 tb lens 0 f2x (fun _ => .slice none 0 0) (fun _=>[]):=by rw [aD,aY];exact f2y w lens
  have aB:Chg [] w w1:=by rw [aD];exact (zR [] w).alloc _
  have aJ:=hid aY
  have bI:=hid aD
  have a3:Hid (w1=w.alloc (.cells #[.int .i64 0,.int .u64 0,.int .u64 0,.int .u64 0,.int .u64 0,.int .u64 0,.int .u64 0,.int .u64 0,.int .u64 0,.int .u64 0,.int .u64 0,.int .u64 0,.int .u64 0,.int .u64 0,.int .u64 0,.int .u64 0,.int .u64 0,.int .u64 0,.int .u64 0,.int .u64 0,.int .u64 0,.int .u64 0,.int .u64 0,.int .u64 0,.int .u64 0,.int .u64 0,.slice none 0 0,.slice none 0 0,.slice none 0 0,.slice none 0 0,.slice none 0 0,.slice none 0 0,.slice none 0 0,.slice none 0 0,.slice none 0 0,.slice none 0 0,.slice none 0 0,.slice none 0 0,.slice none 0 0,.slice none 0 0,.slice none 0 0,.slice none 0 0,.slice none 0 0,.slice none 0 0,.slice none 0 0,.slice none 0 0,.slice none 0 0,.slice none 0 0,.slice none 0 0,.slice none 0 0,.slice none 0 0] 316)):=hid aD
  clear aD aY
  rw [<-aJ.out,<-a3.out]
  refine (a2.out w1 (HA.out.same aB)).mono ?_
  rintro e w2 ⟨v2,F2,rfl,ar,ax,bf⟩
  obtain ⟨Ar,cr,rfl,aU,bb,bk⟩:=ar.oq
  rw [<-HM.out]
  have ba:=ac.blk.lt
  have bl:=(HA.out.same aB).same ax
  have bw:=(HB.out.same aB).same ax
  have bu:d7x w2 tb lens 0 f2x (fun _ => .slice none 0 0) (fun _=>[]):=ac.same ax
  have a5:=hid (aB.tq ax)
  have aF:Apt A lens [tb]:=Apt.fresh HA.out (F:=[tb]) (by simp;exact Nat.le_of_eq aJ.out.symm)
  have aG:Apt B (b0d lens) [tb]:=Apt.fresh HB.out (F:=[tb]) (by simp;exact Nat.le_of_eq aJ.out.symm)
  have aI:Apt Ar (a0q lens) [tb]:=ar.apt (fun x hx hm=>by have:=bf x hx;simp at hm;omega)
  have az:=hid (And.intro aF (And.intro aG aI))
  have aW:=hid bl
  have aZ:=hid bw
  have a8:=hid bk
  have bC:tb<w2.heap.size:=by have:=ax.size;omega
  clear ba ac aB ax ar bf aU bb bl bw bk aF aG aI
  go_wp2_with fail
  go_loopg [7,8,14] M (fun j va vb iv wr=>∃ (k:Nat) (C:Array Value) (vs:Nat->Value) (Fs:Nat->List Nat),iv=.int .i64 k/\k+j=M/\Hid (d7x wr tb lens k C vs Fs)/\Hid (Chg [tb] w2 wr)/\Hid (∀ n,∀ x∈Fs n,w2.heap.size<=x))
  case atStart=>exact ⟨0,f2x,_,_,rfl,by omega,hid bu,hid (zR _ _),hid (by simp)⟩
  case round =>
    clear bu
    obtain ⟨k,C,vs,Fs,rfl,bJ,HT,aL,aw⟩:=hrel
    rcases gk with _ | j
    · obtain rfl:M=k:=by omega
      have u1:decide (M<M)=false:=by simp
      have bx:decide ((M:Int)<(M:Int))=false:=by simp
      go_wp2_with fail
      go_ret
      exact ⟨tb,C,vs,Fs,rfl,HT.out,a5.out.trans aL.out (fun x hx => .inr (by simp at hx;have:=aJ.out;omega)),by have:=aJ.out;omega⟩
    · have bs:k<M:=by omega
      have ai:k<(a0q lens).length:=by rw [<-HM.out];exact bs
      have u1:decide (k<M)=true:=zB bs
      have bx:decide ((k:Int)<(M:Int))=true:=zB (by omega)
      obtain ⟨bp,ay,aN⟩:=a4q ai
      have aH:(a0q lens)[k]=(a0q lens).getD k 0:=by rw [zD,zF ai];rfl
      have bF:=fun n=>b4n ai n
      have aR:=fun n hn=>b8o (n:=n) ai hn
      have aj:=b4m ai rfl
      have ak:=fun n hn=>c6v (n:=n) ai hn
      have ah:=fun he=>d3f ai rfl he
      have aa:=fun he=>d3g ai rfl he
      have al:b8d lens (k+1)=a0g lens ((a0q lens).getD k 0):=rfl
      obtain ⟨gr,bz,rfl,aS⟩:=(a8.out.keep az.out.2.2 aL.out).at_ ai
      rw [aH] at aS
      obtain ⟨s,hs⟩:=zX ((a0q lens).getD k 0)
      rw [<-hs] at bp ay aN aR aj ak ah aa al aS
      obtain ⟨n,hn⟩:=zX (a0g lens s)
      rw [<-hn] at bp ay aR aj ak ah aa al
      obtain ⟨ga,oa,rfl,bc⟩:=(aW.out.keep az.out.1 aL.out).at_ aN
      have bm:lens[s]=n:=by rw [hn];unfold a0g;rw [zD,zF aN];rfl
      rw [bm] at bc
      have be:s<(b0d lens).length:=by rw [aX.out,HN.out];exact aN
      obtain ⟨gw,ow,rfl,aO⟩:=(aZ.out.keep az.out.2.1 aL.out).at_ be
      have bo:(b0d lens)[s]=a5i lens s:=by unfold a5i;rw [zD,zF be];rfl
      rw [bo] at aO
      obtain ⟨wd,bj⟩:=zX (a5i lens s)
      rw [<-bj] at aO ah
      have d1:wr.cell? ⟨gr,bz+k,none⟩=some (.int .i64 s):=aS
      have d2:wr.cell? ⟨ga,oa+s,none⟩=some (.int .i64 n):=bc
      have d3:wr.cell? ⟨gw,ow+s,none⟩=some (.int .u64 wd):=aO
      have ab:n<25:=by omega
      have af:=HT.out.blk
      have d4:wr.cell? ⟨tb,26+n,none⟩=some (vs n):=by rw [af.cell];exact HT.out.syms n ab
      have au:=HT.out.own n ab
      have aQ:=c5w lens k n
      have bh:=HN.out
      obtain ⟨Av,cv,aP,av,aC,bd⟩:=au.oq
      obtain ⟨q,hq⟩:=zX ((a2j lens k n).length)
      rw [<-hq] at aP av aQ
      have bH:q<=1024:=by rw [<-bh] at aQ;omega
      rw [aP] at d4
      have bB:s<N:=by omega
      have aT:=hid (And.intro aR (And.intro aj (And.intro ak (And.intro ah (And.intro aa al)))))
      have HQ:=hid hq
      have bv:=hid aP
      have bq:=hid af
      have bG:=hid (And.intro hs hn)
      clear aS bc aO aH bF aR aj ak ah aa al hs hn bm bo bj be aN ai hq aP bd bh
      have ap:=aL.out
      have bg:=af.frozen (1+n)
      have bn:=af.frozen (26+n)
      have bi:wr.cell? ⟨tb,1+n,none⟩=some (.int .u64 (a2f lens k n:Int)):=by rw [af.cell];exact HT.out.first n ab
      by_cases hq0:q=0
      · subst hq0
        go_wp2_with fail
        refine a0c 9 (by kernel_rfl) (by kernel_rfl) ?_
        simp only [List.take_succ_cons,List.take_zero,List.drop_succ_cons,List.drop_zero]
        repeat (go_big_quiet_step (fail))
        refine wpQuiet_nil ?_
        intro _ bE
        obtain ⟨nq,rfl⟩:=bE
        go_wp2_with fail
        obtain ⟨ho,aj,ak,ah,aa,al⟩:=aT.out
        have he:a2j lens k n=[]:=List.eq_nil_of_length_eq_zero HQ.out.symm
        have ac:=(HT.out.same ((zR [] wr).drewN nq)).first_new ab (ah he) (fun m e=>ak m e)
        have aq:Chg [tb] w2 ((wr.drewN nq).setCell ⟨tb,1+n,none⟩ (.int .u64 wd)):=(ap.drewN nq).setCell (.inl (by simp)) _
        generalize (wr.drewN nq).setCell ⟨tb,1+n,none⟩ (.int .u64 wd)=wq at ac aq ⊢
        generalize C.setIfInBounds (1+n) (.int .u64 wd)=C1 at ac
        have aE:=bv.out
        have aK:(n:Int)<25:=by omega
        have ae:=ac.own n ab
        rw [aE] at ae
        have ag:=ac.blk
        have an:=ac.syms n ab
        rw [aE] at an
        have bA:=ag.lt
        have n0:wq.cell? ⟨tb,26+n,none⟩=some (.slice Av 0 cv):=by rw [ag.cell];exact an
        have a6:tb∉Fs n:=fun hm=>by have:=ac.new n _ hm;omega
        have n1:(wq.alloc (.cells #[.int .i64 s] 3)).cell? ⟨tb,26+n,none⟩=some (.slice Av 0 cv):=by rw [(ag.alloc _).cell];exact an
        have ad:(List.map i64 (a2j lens k n)).length=0:=by rw [zE];exact HQ.out.symm
        clear aQ ap bi bg bn av aC d1 d2 d3 d4 a8 aW aZ HA HB a2 HF aX az HT af bq au
        go_region_law (refine a3x (by rfl) (by rfl) a0p (by rfl) (by rfl) ((ae.alloc (.cells #[.int .i64 (s : Int)] 3)).drew) (.int .i64 (s : Int)) (by rfl) (by simp [go_sem]) (by rfl) (by rw [ad]; omega) (by rw [ad]; omega) ?_; intro g2 a4 w3 aM am; have ao := ((ag.alloc (.cells #[.int .i64 (s : Int)] 3)).drew).chg am.chg a6; have y1 : w3.cell? ⟨tb, 26 + n, none⟩ = some (.slice Av 0 cv) := by rw [ao.cell]; exact an
                       have z1:=ao.frozen (26+n);rw [ad])
        all_goals
          have y0:w3.cell? ⟨tb,0,none⟩=some (.int .i64 (b8d lens k:Int)):=by rw [ao.cell];exact ac.long
          have z0:=ao.frozen 0
          go_wp2_with fail
          rw [ad] at aM
          go_roundg j
          case measure=>omega
          case rel =>
            obtain ⟨ho,aj,ak,ah,aa,al⟩:=aT.out
            have a7:tb<(wq.alloc (.cells #[.int .i64 s] 3)).drew.heap.size:=((ag.alloc (.cells #[.int .i64 s] 3)).drew).lt
            have a9:=(((ac.same (((zR [] wq).alloc (.cells #[.int .i64 s] 3)).drew)).syms_new ab am a7 aM.toOwn aj ho).long_new al)
            have a1:Chg [tb] w2 w3:=(aq.alloc (.cells #[.int .i64 s] 3)).drew.trans am.chg (fun x hx => .inr (aw.out n x hx))
            refine ⟨k+1,_,_,_,by go_num,by omega,hid a9,hid ((a1.setCell (.inl (by simp)) _).setCell (.inl (by simp)) _),hid ?_⟩
            intro m x hx
            by_cases e:m=n
            · rw [if_pos e] at hx
              have a0:x=g2:=by simpa using hx
              subst a0
              rcases am.new x (by simp) with h1 | h1
              · exact aw.out n x h1
              · exact Nat.le_trans ((aq.alloc (.cells #[.int .i64 s] 3)).drew.size) h1
            · rw [if_neg e] at hx
              exact aw.out m x hx
      · have u2:((q:Int)==0)=false:=by rw [beq_eq_false_iff_ne];omega
        go_wp2_with fail
        obtain ⟨ho,aj,ak,ah,aa,al⟩:=aT.out
        have he:a2j lens k n≠[]:=fun hh=>hq0 (by rw [HQ.out,hh];rfl)
        have ac:=HT.out.first_old (fun m=>by
          by_cases e:n=m
          · subst e;exact aa he
          · exact ak m e)
        have aq:Chg [tb] w2 wr:=ap
        generalize wr=wq at ac aq ⊢
        generalize C=C1 at ac
        have aE:=bv.out
        have aK:(n:Int)<25:=by omega
        have ae:=ac.own n ab
        rw [aE] at ae
        have ag:=ac.blk
        have an:=ac.syms n ab
        rw [aE] at an
        have bA:=ag.lt
        have n0:wq.cell? ⟨tb,26+n,none⟩=some (.slice Av q cv):=by rw [ag.cell];exact an
        have a6:tb∉Fs n:=fun hm=>by have:=ac.new n _ hm;omega
        have n1:(wq.alloc (.cells #[.int .i64 s] 3)).cell? ⟨tb,26+n,none⟩=some (.slice Av q cv):=by rw [(ag.alloc _).cell];exact an
        have ad:(List.map i64 (a2j lens k n)).length=q:=by rw [zE];exact HQ.out.symm
        clear aQ ap bi bg bn av aC d1 d2 d3 d4 a8 aW aZ HA HB a2 HF aX az HT af bq au
        go_region_law (refine a3x (by rfl) (by rfl) a0p (by rfl) (by rfl) ((ae.alloc (.cells #[.int .i64 (s : Int)] 3)).drew) (.int .i64 (s : Int)) (by rfl) (by simp [go_sem]) (by rfl) (by rw [ad]; omega) (by rw [ad]; omega) ?_; intro g2 a4 w3 aM am; have ao := ((ag.alloc (.cells #[.int .i64 (s : Int)] 3)).drew).chg am.chg a6; have y1 : w3.cell? ⟨tb, 26 + n, none⟩ = some (.slice Av q cv) := by rw [ao.cell]; exact an
                       have z1:=ao.frozen (26+n);rw [ad])
        all_goals
          have y0:w3.cell? ⟨tb,0,none⟩=some (.int .i64 (b8d lens k:Int)):=by rw [ao.cell];exact ac.long
          have z0:=ao.frozen 0
          go_wp2_with fail
          rw [ad] at aM
          go_roundg j
          case measure=>omega
          case rel =>
            obtain ⟨ho,aj,ak,ah,aa,al⟩:=aT.out
            have a7:tb<(wq.alloc (.cells #[.int .i64 s] 3)).drew.heap.size:=((ag.alloc (.cells #[.int .i64 s] 3)).drew).lt
            have a9:=(((ac.same (((zR [] wq).alloc (.cells #[.int .i64 s] 3)).drew)).syms_new ab am a7 aM.toOwn aj ho).long_new al)
            have a1:Chg [tb] w2 w3:=(aq.alloc (.cells #[.int .i64 s] 3)).drew.trans am.chg (fun x hx => .inr (aw.out n x hx))
            refine ⟨k+1,_,_,_,by go_num,by omega,hid a9,hid ((a1.setCell (.inl (by simp)) _).setCell (.inl (by simp)) _),hid ?_⟩
            intro m x hx
            by_cases e:m=n
            · rw [if_pos e] at hx
              have a0:x=g2:=by simpa using hx
              subst a0
              rcases am.new x (by simp) with h1 | h1
              · exact aw.out n x h1
              · exact Nat.le_trans ((aq.alloc (.cells #[.int .i64 s] 3)).drew.size) h1
            · rw [if_neg e] at hx
              exact aw.out m x hx
theorem e7f {W j y:Nat} (h:W / 2^j%2=y):2*(W / 2^(j+1))+y=W / 2^j:=by
 rw [Nat.pow_succ,<-Nat.div_div_eq_div_mul]
 omega
theorem f0e (w:World) (b:Nat) (F ds:List Nat) (p:Nat) (lens:List Nat) (s tb:Nat) (C:Array Value) (vs:Nat->Value) (Fs:Nat->List Nat) (h:a1r w b F ds p) (hf:b3p lens) (hs:0<a0g lens s)
  (ht:d7x w tb lens (b1s lens) C vs Fs) (hb:b<tb) (ha:a0y ds p (b2f lens s)) :
  Calls Tryz.prog 268 #[.pointer (some ⟨tb,0,none⟩),.pointer (some ⟨b,0,none⟩)] w fun e w'=>e=.returned (.tuple #[.int .i64 s,.int .i64 0])/\a1r w' b F ds (p+a0g lens s)/\Chg [b] w w':=by
 have ar:=hf.le
 have aG:=e3k ar hs
 have hW:=d2h hf hs
 have aa:=fun n h0 hn=>e5c ar (s:=s) (n:=n) hs h0 hn
 have ab:=e9t ar hs
 have az:=ha.le h.at_le
 unfold b2f at ha az
 rw [a0a] at az
 have a0:=hf.n2
 obtain ⟨L,hL⟩:=zX (a0g lens s)
 rw [<-hL] at hs aG hW aa ab ha az ⊢
 obtain ⟨W,aP⟩:=zX (a5i lens s)
 rw [<-aP] at hW aa ab ha
 obtain ⟨K,hK⟩:=zX (b1s lens)
 rw [<-hK] at aG aa ab ht
 obtain ⟨lo,ad⟩:=zX (b8d lens K)
 have aF:L<=24:=by omega
 have ak:W<16777216:=Nat.lt_of_lt_of_le hW (show 2^L<=2^24 from Nat.pow_le_pow_right (by decide) aF)
 have aW:=hid ad
 rw [<-ad] at aG
 have HP:=hid aa
 have HH:=hid ab
 have HA:=hid ha
 have HW:=hid hW
 have HT:=hid ht
 clear ar aa ab ha ht hL aP hK ad hf
 go_enter Tryz.func268,Tryz.ntmps268
 go_wp2_with fail
 go_loopg [6,7,8] (L-1) (fun j va vb vc wr=>∃ n:Nat,0<n/\n+j=L/\vb=.int .i64 n/\va=.int .u64 (W / 2^(j+1):Nat)/\a1r wr b F ds (p+(n-1))/\Hid (Chg [b] w wr))
 case atStart =>
  refine ⟨1,by omega,by omega,rfl,?_,h,hid (zR _ _)⟩
  rw [show L-1+1=L by omega,Nat.div_eq_of_lt HW.out]
  rfl
 case round =>
  obtain ⟨n,aV,aZ,rfl,rfl,aO,aM⟩:=hrel
  obtain ⟨j,hj⟩:=zX (gk)
  have au:=hid (HT.out.chg aM.out (fun x hx=>by simp at hx;omega))
  have d0:wr.cell? ⟨tb,0,none⟩=some (.int .i64 lo):=by rw [au.out.blk.cell,aW.out];exact au.out.long
  have u1:decide ((n:Int)<=(lo:Int))=true:=zB (by omega)
  have ac:=e5g wr b F ds (p+(n-1)) 1 aO (by omega) (by omega)
  have an:=c6e ds (p+(n-1))
  have aQ:W / 2^gk%2=a8h ds (p+(n-1)):=by
   have h1:=HA.out.get (b2r W L (n-1) (by omega))
   rw [show L-1-(n-1)=gk by omega] at h1
   exact h1.symm
  rw [show b4j ds (p+(n-1)) 1=a8h ds (p+(n-1)) by simp [b4j],show p+(n-1)+1=p+n by omega] at ac
  have am:=e7f aQ
  obtain ⟨y,hy⟩:=zX (a8h ds (p+(n-1)))
  rw [<-hy] at ac an am
  obtain ⟨v,hv⟩:=zX (W / 2^(gk+1))
  obtain ⟨v1,ap⟩:=zX (W / 2^gk)
  have aX:v<16777216:=by rw [hv];exact Nat.lt_of_le_of_lt (Nat.div_le_self _ _) ak
  have aI:v1<16777216:=by rw [ap];exact Nat.lt_of_le_of_lt (Nat.div_le_self _ _) ak
  rw [<-hv] at am ⊢
  rw [<-ap] at am
  have aY:bits BinOp.or IntKind.u64 ((v:Int)*2) (y:Int)=(v1:Int):=by
   have:=c0d (v:=v) (b:=y) (by omega) an
   rw [am] at this
   rw [<-this]
   congr 1
   omega
  have ax:=hid ap
  clear aQ am hy hv ap hj
  go_wp2_with fail
  refine ac.mono ?_
  rintro e w1 ⟨rfl,av,aN⟩
  clear ac
  have al:=a2b w1 b F ds _ av
  have ah:=au.out.chg aN (fun x hx=>by simp at hx;omega)
  have af:=hid (aM.out.trans aN (fun x hx => .inl hx))
  have ae:n<25:=by omega
  have aJ:(n:Int)<25:=by omega
  obtain ⟨fi,aB⟩:=zX (a2f lens K n)
  have d1:w1.cell? ⟨tb,1+n,none⟩=some (.int .u64 fi):=by rw [ah.blk.cell,aB];exact ah.first n ae
  have d2:w1.cell? ⟨tb,26+n,none⟩=some (vs n):=by rw [ah.blk.cell];exact ah.syms n ae
  obtain ⟨Av,cv,aD,-,-,aS⟩:=(ah.own n ae).oq
  have aL:=c5w lens K n
  obtain ⟨q,hq⟩:=zX ((a2j lens K n).length)
  rw [<-hq] at aD aL
  rw [aD] at d2
  have a2:q<=1024:=by omega
  have HQ:=hid hq
  have aC:=hid aB
  have aT:=hid aS
  clear aL hq aB aS aD ah au aO d0
  go_wp2_with fail
  refine al.mono ?_
  rintro e a1 ⟨rfl,rfl⟩
  clear al
  rcases gk with _ | j
  ·obtain rfl:n=L:=by omega
   obtain ⟨aR,aq,aj⟩:=HH.out
   have aE:v1=W:=by rw [ax.out];simp
   rw [<-aE,<-aC.out,<-HQ.out] at aq
   rw [<-aE,<-aC.out] at aR aj
   obtain ⟨ix,aw⟩:=zX (v1-fi)
   rw [<-aw] at aq aj
   have ay:(v1:Int)-(fi:Int)=(ix:Int):=by omega
   have ag:ix<(a2j lens K n).length:=by rw [<-HQ.out];exact aq
   obtain ⟨ga,oa,rfl,aH⟩:=aT.out.at_ ag
   rw [zD,zF ag] at aj
   have ao:(a2j lens K n)[ix]=s:=aj
   rw [ao] at aH
   have d3:w1.cell? ⟨ga,oa+ix,none⟩=some (.int .i64 s):=aH
   have t1:decide (v1<fi)=false:=zA (by omega)
   have aK:decide ((v1:Int)<(fi:Int))=false:=zA (by omega)
   have t2:decide (ix<q)=true:=zB aq
   have aU:decide ((ix:Int)<(q:Int))=true:=zB (by omega)
   have aA:ix<1024:=by omega
   clear aR aj ao aH aw aE ag HH
   go_wp2_with fail
   go_ret2
   exact ⟨rfl,av,af.out⟩
  ·have ai:=HP.out n aV (by omega)
   rw [show L-n=j+1 by omega,<-ax.out,<-aC.out,<-HQ.out] at ai
   rcases ai with ai | ai
   ·have t1:decide (v1<fi)=true:=zB ai
    have aK:decide ((v1:Int)<(fi:Int))=true:=zB (by omega)
    go_wp2_with fail
    go_roundg j
    case measure=>omega
    case rel=>exact ⟨n+1,by omega,by omega,by go_num,by rw [ax.out],by simpa using av,af⟩
   ·obtain ⟨ix,aw⟩:=zX (v1-fi)
    have ay:(v1:Int)-(fi:Int)=(ix:Int):=by omega
    have t1:decide (v1<fi)=false:=zA (by omega)
    have aK:decide ((v1:Int)<(fi:Int))=false:=zA (by omega)
    have t2:decide (ix<q)=false:=zA (by omega)
    have aU:decide ((ix:Int)<(q:Int))=false:=zA (by omega)
    have aA:ix<16777216:=by omega
    clear aw ai
    go_wp2_with fail
    go_roundg j
    case measure=>omega
    case rel=>exact ⟨n+1,by omega,by omega,by go_num,by rw [ax.out],by simpa using av,af⟩
theorem d4t {lens l:List Nat} {i:Nat} (h:i<l.length):a1z lens (l.drop i)=b2f lens l[i]++a1z lens (l.drop (i+1)):=by
 rw [List.drop_eq_getElem_cons h]
 rfl
theorem b4l (lens:List Nat) (s:Nat):(b2f lens s).length=a0g lens s:=a0a _ _
theorem e9k (w:World) (b:Nat) (F ds:List Nat) (p:Nat) (lens l:List Nat) (A:Option Addr) (cap:Nat) (h:a1r w b F ds p) (hf:b3p lens) (hc:a0d i64 w A lens) (hl:l.length<=4096)
  (hs:∀ s∈l,s<lens.length/\0<a0g lens s) (ha:a0y ds p (a1z lens l)) :
  Calls Tryz.prog 236 #[.pointer (some ⟨b,0,none⟩),.slice A lens.length cap,.int .i64 l.length] w fun e w'=>∃ v G,e=.returned (.tuple #[v,.int .i64 0])/\Own w' 3 v G (l.map i64)/\a1r w' b F ds (p+(a1z lens l).length)/\Chg [b] w w'/\∀ x∈G,w.heap.size<=x:=by
 have aw:=d5j lens A cap w hf hc
 have ae:=fun B cb w' hA' hB=>f1q lens A B cap cb w' hf hA' hB (a3s lens _)
 have aX:=h.lt b h.mem
 have aj:(b0d lens).length=lens.length:=a3s lens _
 obtain ⟨n,hn⟩:=zX (lens.length)
 obtain ⟨m,hm⟩:=zX (l.length)
 have aI:=hf.n1
 have aP:=hf.n2
 rw [<-hn] at aw ae hs aI aP aj ⊢
 rw [<-hm] at hl ⊢
 rw [aj] at ae
 have HN:=hid hn
 have HM:=hid hm
 have HS:=hid hs
 have HF:=hid hf
 have HA:=hid ha
 have HC:=hid hc
 have aJ:=hid ae
 have aN:=hid aj
 have t1:decide ((m:Int)<0)=false:=by simp
 have t2:decide ((4194304:Int)<(m:Int))=false:=zA (by omega)
 clear hn hm hs hf ha hc ae aj
 go_enter Tryz.func236,Tryz.ntmps236
 go_wp2_with fail
 refine aw.mono ?_
 rintro e w1 ⟨vw,gw,rfl,aB,am,aY⟩
 have ad:=aB.toOwn
 obtain ⟨cw,rfl,ap,aO,ax,_⟩:=aB.oq
 have aa:=ad.cells
 rw [aN.out] at ap ⊢
 have ar:=h.same am
 have ae:=aJ.out (some ⟨gw,0,none⟩) cw w1 (HC.out.same am) aa
 clear aw ax h ad aa
 go_wp2_with (go_at_call 69;refine (a2b _ b F ds _ ar).mono ?_;rintro e w' ⟨rfl,rfl⟩)
 refine ae.mono ?_
 rintro e w2 ⟨tb,C,vs,Fs,rfl,aH,aE,aV⟩
 have aG:=ar.same aE
 have ag:=am.tq aE
 have aS:b<tb:=by have:=am.size;omega
 have aK:=hid aH
 clear ae aH ar
 have ai:=aG.lt
 have af:=hid ai
 clear ai
 go_wp2_with fail
 go_loopg [11,12,13,38] m (fun j va vb vc iv wr=>∃ (i p':Nat) (G:List Nat),iv=.int .i64 i/\i+j=m/\Own wr 3 va G ((l.take i).map i64)/\a1r wr b F ds p'/\Hid (a0y ds p' (a1z lens (l.drop i)))/\Hid (p'+(a1z lens (l.drop i)).length=p+(a1z lens l).length)/\Hid (Chg [b] w2 wr)/\Hid (∀ x∈G,w2.heap.size<=x))
 case atStart=>exact ⟨0,p,[],rfl,by omega,Own.nil _ _,aG,HA,hid rfl,hid (zR _ _),hid (by simp)⟩
 case round =>
  obtain ⟨i,p',G,rfl,aW,ab,aF,Ha,Hp,al,HG⟩:=hrel
  rcases gk with _ | j
  ·obtain rfl:i=m:=by omega
   have t3:decide ((i:Int)<(i:Int))=false:=by simp
   go_wp2_with fail
   go_ret2
   have e1:l.take i=l:=by rw [HM.out,zN]
   have e2:p'=p+(a1z lens l).length:=by have:=Hp.out;rw [HM.out,List.drop_length] at this;simpa [a1z] using this
   rw [e1] at ab
   refine ⟨_,G,rfl,ab,e2 ▸ aF,(ag.mono (by simp)).tq al.out,fun x hx=>Nat.le_trans ag.size (HG.out x hx)⟩
  ·have aT:i<m:=by omega
   have av:i<l.length:=by rw [<-HM.out];exact aT
   have t3:decide ((i:Int)<(m:Int))=true:=zB (by omega)
   obtain ⟨s,aA⟩:=zX (l[i])
   have hs:=HS.out l[i] (zG av)
   have an:=d4t (lens:=lens) av
   rw [<-aA] at hs an
   have ao:=Ha.out
   rw [an] at ao
   have aM:=hid ao.right
   have ay:=a0o l av
   rw [<-aA] at ay
   have ah:=f0e wr b F ds p' lens s tb C vs Fs aF HF.out hs.2 (aK.out.chg al.out (fun x hx=>by simp at hx;omega)) aS ao.left
   have aL:=hid an
   have aQ:=hid ay
   clear hs an ao ay aA
   go_wp2_with fail
   refine ah.mono ?_
   rintro e w3 ⟨rfl,aD,au⟩
   have ac:=ab.chg au (fun x hx hm=>by simp at hm;have:=HG.out x hx;have:=af.out b aD.mem;omega)
   have ak:Chg [] w3 (w3.alloc (.cells #[.int .i64 s] 3)):=(zR [] w3).alloc _
   have az:=ac.same ak
   have aC:(l.take i).length=i:=by rw [zI];omega
   clear ab ac ah
   go_wp2_with (at_builtin;refine a0f rfl rfl a0p rfl rfl az (.int .i64 s) rfl ?c1 ?c2 ?c3 ?c4 ?_)
   case c1=>simp [go_sem]
   case c2=>rfl
   case c3=>rw [zE,aC];omega
   case c4=>rw [zE,aC];omega
   intro g2 aR w4 aU aq
   go_wp2_with fail
   go_roundg j
   case measure=>omega
   case rel =>
    refine ⟨i+1,p'+a0g lens s,[g2],by go_num,by omega,?_,(aD.same ak).chg aq.chg (fun x hx hm=>by have:=HG.out x hm;have:=af.out x hx;omega),?_,hid ?_,hid ?_,hid ?_⟩
    ·have h9:=aU.toOwn
     rw [aQ.out,zM]
     simpa [i64] using h9
    ·have:=aM.out
     rw [b4l] at this
     exact hid this
    ·have:=Hp.out
     rw [aL.out,zC,b4l] at this
     omega
    ·exact ((al.out.trans au (fun x hx => .inl hx)).trans ak (by simp)).trans aq.chg (fun x hx => .inr (HG.out x hx))
    ·intro x hx
     rcases aq.new x hx with h9 | h9
     ·exact HG.out x h9
     ·have:=al.out.size;have:=au.size;have:=ak.size;omega
theorem d9l {freq:List Nat} (h2:freq.length<=256) (hpos:0<(a0v freq freq.length).length):d5d freq (a7d freq):=by
 rcases zZ (a0v freq freq.length).length 2 with h | h
 ·obtain ⟨e,he⟩:=List.length_eq_one_iff.1 (show (a0v freq freq.length).length=1 by omega)
  obtain ⟨s,hs,_,rfl⟩:=a7z (show e∈a0v freq freq.length by rw [he];simp)
  have h3:=d6p (by omega) he
  rw [c5j he]
  exact h3.2
 ·have aa:=b3u freq freq.length
  obtain ⟨f1,f2,f3⟩:=b8c (freq:=freq) (by omega) h (b7j _ 11)
  rw [c1k h]
  refine ⟨a7m _ _,f1,f2,fun n hn => ?_⟩
  obtain ⟨s,_,rfl⟩:=List.mem_map.1 hn
  exact f3 s
theorem e4u {l:List Int} {W d:Nat} (hl0:0<l.length) (hmx:b3k (a1w l W d)<256):b3p (a6i l W d)/\∀ s∈a1w l W d,s<(a6i l W d).length/\0<a0g (a6i l W d) s:=by
 have ac:a1w l W d≠[]:=fun e=>by have:=a7y l W d;rw [e] at this;simp at this;omega
 have aa:=d9l (freq:=a6o (a1w l W d)) (by rw [b1r];omega) (c0w ac)
 refine ⟨aa.full,fun s hs => ?_⟩
 have hm:=c1n hs
 have ab:s<(a6o (a1w l W d)).length:=by rw [b1r];omega
 refine ⟨by unfold a6i;rw [aa.len];exact ab,(aa.used s ab).2 ?_⟩
 rw [b6w hm]
 exact List.count_pos_iff.2 hs
theorem d8t {l:List Int} {W d i:Nat} (h:i<l.length):(a1w l W d)[i]?=some (a3c l W d i):=by
 simp [a1w,h]
theorem c3s (w:World) (b:Nat) (F ds:List Nat) (p:Nat) (l:List Int) (W H d:Nat) (h:a1r w b F ds p) (hw0:1<=W) (hw1:W<=16) (hh0:1<=H) (hh1:H<=16) (h0:1<=d) (h1:d<=16) (hl:l.length=W*H) (hs:a1u d l) (hmx:b3k (a1w l W d)<256) (ha:a0y ds p (a6h l W d)) :
  Calls Tryz.prog 183 #[.pointer (some ⟨b,0,none⟩),.int .i64 W,.int .i64 H,.int .i64 d] w fun e w'=>∃ v g,e=.returned (.tuple #[v,.int .i64 0])/\Row w' 3 v g (l.map vi)/\a1r w' b F ds (p+(a6h l W d).length)/\Chg [b] w w'/\w.heap.size<=g:=by
 obtain ⟨n,hn⟩:=zX (l.length)
 have a7:=zL hw1 hh1
 have aG:=zL hw0 hh0
 have a3:n<=256:=by rw [hn,hl];exact a7
 have a5:0<l.length:=by rw [hl];omega
 have bH:n<=64*W:=by rw [hn,hl,zY];exact Nat.mul_le_mul_right W (by omega)
 have bD:(W:Int)*(H:Int)=(n:Int):=by rw [hn,hl];simp
 obtain ⟨aa,ag⟩:=e4u a5 hmx
 unfold a6h at ha ⊢
 rw [zC]
 have ab:=a7y l W d
 have aC:=fun i (hi:i<l.length)=>d8t (W:=W) (d:=d) hi
 have aJ:∀ x∈a1w l W d,x<256:=fun x hx=>by have:=c1n hx;omega
 obtain ⟨f,hf⟩:=zX (a1w l W d)
 obtain ⟨lens,aX⟩:=zX (a6i l W d)
 rw [<-aX] at aa ag ha ⊢
 rw [<-hf] at ag ha ab aC aJ ⊢
 rw [<-hn] at ab aC
 have aW:=d3l w b F ds p lens h aa ha.left
 have ah:=fun i=>a9o l W h0 i
 have ak:=fun i=>d0i hs W i
 have bx:=a1p (P:=Tryz.prog) a0p rfl .i64 .i64 n (by omega) (by omega)
 have bI:=h.lt b h.mem
 have HN:=hid hn
 have HA:=hid ha.right
 have bq:=hid aa
 have bg:=hid ag
 have aA:=hid ab
 have br:=hid aC
 have aQ:=hid ah
 have bd:=hid ak
 have bw:=hid aJ
 have HS:=hid hs
 have bC:=hid h.lt
 clear hn ha aa ag ab aC ah ak aJ hs hl h hf aX hmx a5 a7 aG
 go_enter Tryz.func183,Tryz.ntmps183
 go_wp2_with fail
 refine aW.mono ?_
 rintro e w1 ⟨v1,G1,rfl,ap,a4,aU,bB⟩
 obtain ⟨A1,c1,rfl,bc,bn,a0⟩:=ap.oq
 have aR:=e9k w1 b F ds _ lens f A1 c1 a4 bq.out a0 (by rw [aA.out];omega) bg.out HA.out
 rw [aA.out] at aR
 clear aW ap a0 a4
 go_wp2_with fail
 refine aR.mono ?_
 rintro e w3 ⟨v2,G2,rfl,af,au,bs,bh⟩
 obtain ⟨A2,c2,rfl,aK,bk,a2⟩:=af.oq
 rw [aA.out] at aK ⊢
 have aY:=aU.tq bs
 obtain ⟨G,hG⟩:=zX (w3.heap.size)
 obtain ⟨w4,ay⟩:=zX (w3.alloc (.cells (Array.replicate n (Value.int .i64 0)) 3))
 have aj:Row w4 3 (.slice (some ⟨G,0,none⟩) n n) G ((a1a ([]:List Int) n).map vi):=by
  have h9:=Row.zeros w3 n (by omega)
  rw [<-hG] at h9
  rw [ay]
  exact h9
 have aw:Chg [] w3 w4:=by rw [ay];exact (zR [] w3).alloc _
 have aO:=au.same aw
 have aM:=aY.trans aw (by simp)
 have aq:=a2.same aw
 have bE:=au.lt b au.mem
 have an:Apt A2 f [b,G]:=af.apt (fun x hx hm=>by
  have h5:=bh x hx
  have h6:=af.lt x hx
  have h7:=aU.size
  simp at hm
  omega)
 have bG:=aY.size
 have bf:=hid au.lt
 have HG:=hid hG
 have bb:=hid an
 have ba:=hid aq
 have bj:Hid (p+(a3u lens).length+(a1z lens f).length=p+((a3u lens).length+(a1z lens f).length)):=hid (by omega)
 have bl:=hid ay
 clear aR au aw hG an a2 aq af ay
 go_wp2_with fail
 rw [<-bl.out,<-HG.out]
 go_loopg [14,15,16,17,44] n (fun j va vb vc vd iv wr=>∃ (i:Nat),iv=.int .i64 i/\i+j=n/\Row wr 3 (.slice (some ⟨G,0,none⟩) n n) G ((a1a (l.take i) n).map vi)/\Hid (Chg [G] w4 wr))
 case atStart=>exact ⟨0,rfl,by omega,by simpa using aj,hid (zR _ _)⟩
 case round =>
  clear aj
  obtain ⟨i,rfl,bz,ac,az⟩:=hrel
  rcases gk with _ | j
  ·obtain rfl:n=i:=by omega
   have u2:decide ((n:Int)<(n:Int))=false:=by simp
   have a9:decide (n<n)=false:=by simp
   have e:a1a (l.take n) n=l:=by
    have:=b5h l
    rw [<-HN.out] at this
    exact this
   rw [e] at ac
   clear e
   go_wp2_with fail
   go_ret2
   refine ⟨_,G,rfl,ac,(aO.chg az.out (fun z hz hm=>by simp at hm;have:=bf.out z hz;have:=HG.out;omega)).cast bj.out,aM.trans az.out (fun z hz => .inr (by simp at hz;have:=HG.out;omega)),by have:=HG.out;omega⟩
  ·have al:i<n:=by omega
   have u2:decide ((i:Int)<(n:Int))=true:=zB (by omega)
   have a9:decide (i<n)=true:=zB al
   have aF:i<l.length:=by rw [<-HN.out];exact al
   have ax:i<f.length:=by rw [aA.out];exact al
   have aE:=br.out i (by omega)
   have aZ:=bw.out f[i] (zG ax)
   rw [zF ax] at aE
   have aV:f[i]=a3c l W d i:=by injection aE
   obtain ⟨gf,of,rfl,aB⟩:=(ba.out.keep bb.out (az.out.mono (fun x hx _=>by simp at hx;simp [hx]))).at_ ax
   rw [aV] at aB aZ
   have aL:=c5m (l:=l) hw0 (i:=i) (by omega)
   rw [<-HN.out] at aL
   have ai:(a1a (l.take i) n).length=n:=a4g (by rw [zI];omega)
   have ao:=b9q (a1a (l.take i) n) (some ⟨G,0,none⟩) n W d i wr h0 h1 hw0 (by omega) (by rw [ai];omega) (by omega) (d0h HS.out i n) ac.toOwn.cells (by rw [ai];omega)
   have ak:=bd.out i
   have ah:=aQ.out i
   have bJ:2^d<=65536:=Nat.pow_le_pow_right (n:=2) (by decide) h1
   have bm:=Nat.two_pow_pos d
   rw [aL,ai] at ao
   have av:=a9p (d:=d) (g:=a8a l W i) (b5s HS.out W _ _) 7
   obtain ⟨gs,aT⟩:=zX (a3d 7 (a8a l W i) d)
   rw [<-aT] at ao av ak
   obtain ⟨fi,ar⟩:=zX (a3c l W d i)
   rw [<-ar] at aB aZ ak ah
   have bu:wr.cell? ⟨gf,of+i,none⟩=some (.int .i64 fi):=aB
   generalize b3h (a8a l W i) d=cl at ao
   have am:gs<65536:=by
    have e:((2^d:Nat):Int)=(2:Int)^d:=by simp
    have:=av.2
    omega
   have aH:=fun w'=>c3b gs fi d w' h0 h1 av.1 am (by omega)
   rw [ak] at aH
   have aS:=a0o l aF
   have a8:l[i]=l.getD i 0:=by rw [zD,zF aF];rfl
   rw [a8] at aS
   generalize l.getD i 0=xv at *
   have a1:(l.take i).length=i:=by rw [zI];omega
   have bF:((2^d:Nat):Int)=(2:Int)^d:=by simp
   have bA:IntKind.i64.wrap ((2:Int)^d)=(2:Int)^d:=IntWalk.i64_in _ (by omega)
   have t5:decide ((256:Int)<=(fi:Int))=false:=zA (by omega)
   have t6:decide ((2:Int)^d<=(fi:Int))=false:=zA (by omega)
   have bo:=hid aS
   have aP:=hid a1
   have bi:=hid aH
   have aD:=hid ac
   clear aL ai ak aT ar aH aS a8 a1 ac aF av aE aV ax aB
   go_wp2_with fail
   refine ao.mono ?_
   rintro e w6 ⟨rfl,a6⟩
   have aN:=hid (az.out.trans a6 (by simp))
   have ae:=aD.out.chg a6 (by simp)
   obtain ⟨be,bp⟩:=ae.fill_cell (by rw [aP.out];exact al)
   have ad:=ae.fill (by rw [aP.out];exact al) xv
   rw [aP.out] at be bp ad
   have bv:=hid ad
   have aI:=bi.out w6
   clear ao ae ad
   go_wp2_with fail
   refine aI.mono ?_
   rintro e w7 ⟨rfl,rfl⟩
   go_wp2_with fail
   go_roundg j
   case measure=>omega
   case rel =>
    refine ⟨i+1,by go_num,by omega,?_,hid (aN.out.setCell (.inl (by simp)) _)⟩
    rw [bo.out]
    exact bv.out
end Go.Proofs.YtepjepkgcdfboaaGreatDoor
