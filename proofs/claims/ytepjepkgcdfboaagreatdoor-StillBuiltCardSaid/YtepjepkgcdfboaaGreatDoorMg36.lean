/- package prefix by its contracts: GetTable. -/
import Derived.Test.YtepjepkgcdfboaaGreatDoorMg27
import Derived.Test.YtepjepkgcdfboaaGreatDoorMg35
set_option linter.unusedVariables false
set_option linter.unusedSimpArgs false
set_option maxHeartbeats 4000000
set_option maxRecDepth 100000
namespace Go.Proofs.YtepjepkgcdfboaaGreatDoor
open Go.RowKit
theorem c8k (w:World) (b:Nat) (F ds:List Nat) (p n v:Nat) (bx:Nat) (sb:Nat) (FS S:List Nat) (h:a1r w b F ds p) (hn:n<=16) (hv:v<2^n) (ha:a0y ds p (a0b v n)) (hs:a2n w sb FS S) (hS:S.length<137438953472)
  (hx:w.cell? ⟨bx,0,none⟩=some (.pointer (some ⟨b,0,none⟩))) (hbx:bx≠b) (hd:∀ x∈F,x∉FS) :
  Calls Tryz.prog 265 #[.int .i64 n,.pointer (some ⟨bx,0,none⟩),.pointer (some ⟨sb,0,none⟩)] w fun e w'=>e=.returned (.int .i64 v)/\a1r w' b F ds (p+n)/\∃ FS',a2n w' sb FS' (S++a0b v n)/\Chg (b::FS) w w'/\∀ x∈FS',x∈FS\/w.heap.size<=x:=by
 have hg:=a0j w b F ds p n v h (by omega) hv ha
 have ah:v<65536:=Nat.lt_of_lt_of_le hv (show 2^n<=2^16 from Nat.pow_le_pow_right (by decide) hn)
 have ai:IntKind.i64.wrap (v:Int)=(v:Int):=IntWalk.i64_in _ (by omega)
 have ae:=h.mem
 have HD:=hid hd
 have HV:=hid hv
 clear ha h hd
 go_enter Tryz.func265,Tryz.ntmps265
 go_wp2_with fail
 refine hg.mono ?_
 rintro e w1 ⟨rfl,ac,aa⟩
 have ad:=hs.chg aa (fun x hx hm=>by simp at hm;exact HD.out b ae (hm ▸ hx))
 clear hg hs
 go_wp2_with fail
 refine (a0t w1 sb FS S v n ad (by omega) HV.out (by omega)).mono ?_
 rintro e w2 ⟨rfl,ag,af,ab⟩
 go_wp2
 go_ret
 refine ⟨rfl,ac.chg ab.chg HD.out,ag,af,?_,fun x hx => ?_⟩
 ·exact (aa.mono (fun x hx _=>by simp at hx;simp [hx])).trans ab.chg (fun x hx => .inl (by simp [hx]))
 ·rcases ab.new x hx with h9 | h9
  ·exact .inl h9
  ·right;have:=aa.size;omega
theorem e0r (lens:List Nat) (i:Nat):lens.take (i+zr 66 (lens.drop i))=lens.take i++List.replicate (zr 66 (lens.drop i)) 0:=by
 rw [List.take_add]
 congr 1
 have hl:=d2j 66 (lens.drop i)
 refine List.eq_replicate_iff.2 ⟨by rw [zI];omega,fun x hx => ?_⟩
 obtain ⟨q,hq,rfl⟩:=List.getElem_of_mem hx
 rw [zI] at hq
 have h2:=e6n 66 (lens.drop i) q (by omega)
 rw [List.getElem_take]
 rw [zD,zF (by omega)] at h2
 simpa using h2
theorem d3l (w:World) (b:Nat) (F ds:List Nat) (p:Nat) (lens:List Nat) (h:a1r w b F ds p) (hf:b3p lens) (ha:a0y ds p (a3u lens)) :
  Calls Tryz.prog 235 #[.pointer (some ⟨b,0,none⟩)] w fun e w'=>∃ v G,e=.returned (.tuple #[v,.int .i64 0])/\Own w' 3 v G (lens.map i64)/\a1r w' b F ds (p+(a3u lens).length)/\Chg [b] w w'/\∀ x∈G,w.heap.size<=x:=by
 have cY:=hf.n1
 have cJ:=hf.n2
 have cr:=hf.le
 have aS:=b8q lens
 have ci:=b0s lens
 obtain ⟨T,hT⟩:=zX (a3u lens)
 rw [<-hT] at ha aS ci ⊢
 obtain ⟨N,hN⟩:=zX (lens.length)
 rw [<-hN] at cY cJ aS ci
 obtain ⟨N1,ct⟩:=zX (N-1)
 have eN:(N1:Int)+1=(N:Int):=by omega
 rw [<-ct] at aS
 have bA:=ha
 rw [aS] at bA
 have b1:=bA.right
 rw [a0a] at b1
 have di:=h.lt b h.mem
 have bU:=h.lt
 have df:=h.mem
 obtain ⟨bx,bD⟩:=zX (w.heap.size)
 obtain ⟨w1,a1⟩:=zX (w.alloc (.cells #[.pointer (some ⟨b,0,none⟩)] 113))
 obtain ⟨w2,bB⟩:=zX (w1.alloc (.cells #[.slice none 0 0,.int .i64 0] 89))
 have aI:Blk w1 bx 113 #[.pointer (some ⟨b,0,none⟩)]:=by rw [a1,bD];exact Blk.new w _ _
 have b0:Chg [] w w1:=by rw [a1];exact (zR [] w).alloc _
 have bz:Chg [] w1 w2:=by rw [bB];exact (zR [] w1).alloc _
 have bM:w1.heap.size=bx+1:=by rw [a1,bD];simp
 have bp:a2n w2 (bx+1) [bx+1] []:=by
  have:=a2n.new w1
  rw [<-bB,bM] at this
  exact this
 have az:=aI.chg bz (by simp)
 have bH:=h.same b0
 have cC:=bH.same bz
 have c2:=az.cell 0
 simp at c2
 have c1:=aI.cell 0
 simp at c1
 have aF:=c8k w2 b F ds p 10 N1 bx (bx+1) [bx+1] [] cC (by omega) (by omega) bA.left bp (by simp) c2 (by omega) (fun x hx hm=>by simp at hm;have:=bU x hx;omega)
 have HF:=hid hf
 have HN:=hid hN
 have HT:=hid hT
 have cg:=hid aS
 have cV:=hid cr
 have HA:=hid b1
 have bu:=hid bU
 have c6:=hid a1
 have cQ:=hid bB
 have ai:=hid bD
 have cF:=hid (b0.tq bz)
 have cX:=hid bM
 clear hN hT aS cr ha bA b1 bU a1 bB bD b0 bz ct h bp hf bM aI
 go_enter Tryz.func235,Tryz.ntmps235
 go_wp2_with fail
 rw [<-ai.out,<-c6.out]
 refine (a2b w1 b F ds p bH).mono ?_
 rintro e wx ⟨rfl,rfl⟩
 go_wp2_with fail
 rw [cX.out,<-cQ.out]
 refine aF.mono ?_
 rintro e w3 ⟨rfl,ce,cz,aO,bS,bm⟩
 rw [List.nil_append] at aO
 have db:b<bx:=by have:=ai.out;omega
 have a8:=az.chg bS (by simp;omega)
 have cL:bx<w2.heap.size:=az.lt
 have a2:∀ x∈cz,bx<x:=fun x hx=>by
  rcases bm x hx with h9 | h9
  ·simp at h9;omega
  ·omega
 have cs:Chg [b] w w3:=(cF.out.mono (by simp)).trans bS (fun x hx=>by simp at hx;rcases hx with hx | hx;left;simp [hx];right;have:=ai.out;omega)
 have bL:(a0b N1 10).length=10:=a0a _ _
 clear aF bH cC az c1 c2 bS bm cL
 go_wp2_with fail
 go_loopg [7,8] N (fun j vl va wr=>∃ (i p':Nat) (FS S G:List Nat),i<=N/\N<=i+j/\Own wr 3 vl G ((lens.take i).map i64)/\a1r wr b F ds p'/\Hid (a0y ds p' (a3m lens i))/\Hid (p'+(a3m lens i).length=p+T.length)/\a2n wr (bx+1) FS S/\Hid (S++a3m lens i=T)/\Blk wr bx 113 #[.pointer (some ⟨b,0,none⟩)]/\Hid (∀ x∈FS,bx<x)/\Hid (∀ x∈G,bx<x/\x∉FS)/\Hid (Chg [b] w wr))
 case atStart=>exact ⟨0,p+10,cz,a0b N1 10,[],by omega,by omega,Own.nil _ _,ce,HA,hid (by rw [cg.out,zC,a0a];omega),aO,hid cg.out.symm,a8,hid a2,hid (by simp),hid cs⟩
 case round =>
  clear ce aO a8 a2 cs bL
  obtain ⟨i,p',FS,S,G,dh,dg,ac,ax,co,HP,aQ,HS,aB,aM,HG,bC⟩:=hrel
  have cx:=aB.cell 0
  simp at cx
  have aP:(lens.take i).length=i:=by rw [zI,<-HN.out];omega
  obtain ⟨kd,bR⟩:=zX (lens.take i)
  rw [<-bR] at ac aP
  have bT:=hid bR
  clear bR
  obtain ⟨Al,cl,rfl,bY,cN,ae⟩:=ac.oq
  rw [aP] at bY ⊢
  have ad:=ac
  rw [aP] at ad
  by_cases hi:N<=i
  ·obtain rfl:N=i:=by omega
   have t1:decide (N<N)=false:=by simp
   have e0:a3m lens N=[]:=by rw [HN.out];exact b7x lens
   have hp:=HP.out
   rw [e0,List.length_nil] at hp
   have cv:=HS.out
   rw [e0,List.append_nil] at cv
   subst cv
   have bs:kd=lens:=by rw [bT.out,HN.out,zN]
   have dd:=hid bs
   have t2:((N:Int) != (N:Int))=false:=by simp
   have ag:a0d i64 wr Al lens:=by rw [<-bs];exact ae
   have an:=ac
   rw [bs,<-HN.out] at an
   obtain ⟨ab,b4⟩:=zX (wr.heap.size)
   obtain ⟨w8,bw⟩:=zX (wr.alloc (.cells #[.slice none 0 0,.int .i64 0] 89))
   have a4:Chg [] wr w8:=by rw [bw];exact (zR [] wr).alloc _
   have cw:a2n w8 ab [ab] []:=by rw [bw,b4];exact a2n.new wr
   have bP:=aQ.lt
   have aT:=ac.lt
   have aW:Apt Al lens [ab]:=ac.apt (fun x hx hm=>by simp at hm;have:=aT x hx;omega)
   have bJ:=c2l w8 ab [ab] [] lens Al cl cw HF.out (ag.same a4) aW (by simp)
   rw [List.nil_append,<-HT.out,<-HN.out] at bJ
   have el:=a2b wr b F ds p' ax
   have aV:=hid b4
   have c0:=hid bw
   have bj:=ax.same a4
   have bq:=aQ.same a4
   have aG:=an.same a4
   have bd:=bC.out.trans a4 (by simp)
   have b3:=ax.lt
   have cH:=hid hp
   clear e0 bs ag ae ac ad an b4 bw cw aW hp aB aQ
   go_wp2_with (go_at_call 69;refine el.mono ?_;rintro e w' ⟨rfl,rfl⟩)
   rw [<-aV.out,<-c0.out]
   refine bJ.mono ?_
   rintro e w9 ⟨rfl,F9,aN,a0⟩
   have b7:=bq.chg a0.chg (fun x hx hm=>by simp at hm;have:=bP x hx;have:=aV.out;omega)
   have aX:=bj.chg a0.chg (fun x hx hm=>by simp at hm;have:=b3 x hx;have:=aV.out;omega)
   have aH:=aG.chg a0.chg (fun x hx hm=>by simp at hm;have:=aT x hx;have:=aV.out;omega)
   have a7:=bd.trans a0.chg (fun x hx => .inr (by simp at hx;have:=aV.out;have:=bC.out.size;omega))
   have bW:=c8t w9 ab F9 S aN
   have bO:=c8t w9 (bx+1) FS S b7
   have aU:=c3c w9 ab F9 S aN (by omega)
   have aY:=fun wz hz=>c3c wz (bx+1) FS S (b7.same hz:a2n wz (bx+1) FS S) (by omega)
   obtain ⟨sl,cd⟩:=zX (S.length)
   rw [<-cd] at bW bO
   have t3:((sl:Int) != (sl:Int))=false:=by simp
   have c5:=hid aY
   clear bJ bj bq aG bd aN b7 a0 aY cd
   go_wp2_with fail
   refine bW.mono ?_
   rintro e w' ⟨rfl,rfl⟩
   go_wp2_with fail
   refine bO.mono ?_
   rintro e w' ⟨rfl,rfl⟩
   clear bW bO
   go_wp2_with fail
   refine aU.mono ?_
   rintro e cT ⟨da,dk,rfl,aD,ao,b2⟩
   obtain ⟨cZ,cR,rfl,_,_,a6⟩:=aD.oq
   clear aU
   go_wp2_with fail
   refine (c5.out cT ao).mono ?_
   rintro e cK ⟨c8,dc,rfl,aE,ap,b6⟩
   obtain ⟨cM,cW,rfl,_,_,aZ⟩:=aE.oq
   have bF:∀ {wz:World} {A:Option Addr},a0d b8 wz A (a1n S)->Lib.BytesIn wz A (a1n S).length ((a1n S).map Int.ofNat):=by
    intro wz A hc hn
    obtain ⟨g,o,e1,_,bk⟩:=hc.ex hn
    refine ⟨g,o,e1,fun i hi => ?_⟩
    rw [bk i _ (zF hi)]
    have e:((a1n S).map Int.ofNat).getD i 0=((a1n S)[i]:Nat):=by
     rw [zD,zW,zF hi]
     rfl
    rw [e]
    rfl
   have cc:=Tryz.bytes_Equal_all cZ cM (a1n S).length cR (a1n S).length cW ((a1n S).map Int.ofNat) ((a1n S).map Int.ofNat) cK (by simp) (by simp) (bF (a6.same ap)) (bF aZ)
   have et:(Lib.bytesOf ((a1n S).map Int.ofNat)==Lib.bytesOf ((a1n S).map Int.ofNat))=true:=by simp
   rw [et] at cc
   have bf:=(aX.same ao).same ap
   have aR:=(aH.same ao).same ap
   have a9:=(a7.trans ao (by simp)).trans ap (by simp)
   clear aD aE a6 aZ bF et ao ap b2 b6 aX aH a7
   go_wp2_with fail
   refine cc.mono ?_
   rintro e w' ⟨rfl,rfl⟩
   go_wp2
   go_ret2
   exact ⟨_,G,rfl,by rw [HN.out] at *; exact aR,bf.cast cH.out,a9,fun x hx=>by have:=(HG.out x hx).1;have:=ai.out;omega⟩
  ·rcases gk with _ | j
   ·exfalso;omega
   have cj:i<N:=by omega
   have bh:i<lens.length:=by rw [<-HN.out];exact cj
   have t1:decide (i<N)=true:=zB cj
   have dj:decide ((i:Int)<(N:Int))=true:=zB (by omega)
   have de:S.length<=20000:=by
    have:=congrArg List.length HS.out
    rw [zC] at this
    omega
   have aJ:∀ x∈F,x∉FS:=fun x hx hm=>by have:=bu.out x hx;have:=aM.out x hm;have:=ai.out;omega
   by_cases hz:zr 66 (lens.drop i)<3
   ·have aw:=b7y bh hz
    have ay:=co.out
    rw [aw] at ay
    have cI:a0g lens i<=24:=by
     unfold a0g
     rw [zD,zF bh]
     exact cV.out _ (zG _)
    have af:=a0o lens bh
    have cp:lens[i]=a0g lens i:=by unfold a0g;rw [zD,zF bh];rfl
    rw [cp] at af
    generalize a0g lens i=v at *
    have bg:=c8k wr b F ds p' 5 v bx (bx+1) FS S ax (by omega) (by omega) ay.left aQ (by omega) cx (by omega) aJ
    have bQ:=hid ay.right
    have bn:=hid aw
    have bE:=hid af
    have t2:((v:Int) != 31)=true:=by rw [bne_iff_ne];omega
    have b9:=aB.lt
    have bc:=(a2b wr b F ds p' ax)
    clear ay aw af cp ax aQ
    go_wp2_with (go_at_call 69;refine bc.mono ?_;rintro e w' ⟨rfl,rfl⟩)
    refine bg.mono ?_
    rintro e w4 ⟨rfl,br,FS4,au,ar,aK⟩
    have aa:=ac.lt
    have aj:=ad.chg ar (fun x hx hm=>by
     rcases zJ.1 hm with hm | hm
     ·have:=(HG.out x hx).1;omega
     ·exact (HG.out x hx).2 hm)
    have aL:=aB.chg ar (fun hm=>by
     rcases zJ.1 hm with hm | hm
     ·omega
     ·have:=aM.out _ hm;omega)
    have bv:=aL.cell 0
    simp at bv
    have cO:=ar.size
    have aq:∀ x∈FS4,bx<x:=fun x hx=>by
     rcases aK x hx with h9 | h9
     ·exact aM.out x h9
     ·omega
    have bi:∀ x∈G,bx<x/\x∉FS4:=fun x hx=>⟨(HG.out x hx).1,fun hm=>by
     rcases aK x hm with h9 | h9
     ·exact (HG.out x hx).2 h9
     ·have:=aa x hx;omega⟩
    have bl:Chg [b] w w4:=bC.out.trans ar (fun x hx=>by
     rcases zJ.1 hx with hx | hx
     ·left;simp [hx]
     ·right;have:=aM.out x hx;have:=ai.out;omega)
    have bG:=hid aa
    have ak:=hid aq
    have av:=hid bi
    have bI:=hid bl
    have am:Chg [] w4 (w4.alloc (.cells #[.int .i64 v] 3)):=(zR [] w4).alloc _
    have bV:=aj.same am
    clear ac ad ae aB aK aa aq bi bl ar bg bc aj
    go_wp2_with (at_builtin;refine a0f rfl rfl a0p rfl rfl bV (.int .i64 v) rfl ?c1 ?c2 ?c3 ?c4 ?_)
    case c1=>simp [go_sem]
    case c2=>rfl
    case c3=>rw [zE,aP];omega
    case c4=>rw [zE,aP];omega
    intro g2 cG w5 ck al
    obtain ⟨G5,cE⟩:=zX ([g2])
    have ah:=ck.toOwn
    rw [<-cE] at al ah
    clear ck cE
    have b5:=au.lt
    go_wp2_with fail
    go_roundg j
    case measure=>omega
    case rel =>
     refine ⟨i+1,p'+5,FS4,S++a0b v 5,G5,by omega,by omega,?_,(br.same am).chg al.chg (fun x hx hm=>by have:=bu.out x hx;have:=(av.out x hm).1;have:=ai.out;omega),bQ,hid ?_,(au.same am).chg al.chg (fun x hx hm=>(av.out x hm).2 hx),hid ?_,(aL.chg am (by simp)).chg al.chg (fun hm=>by have:=(av.out _ hm).1;omega),ak,hid ?_,hid ?_⟩
     ·rw [bE.out,<-bT.out,zM]
      exact ah
     ·have:=HP.out
      rw [bn.out] at this
      simp only [zC,a0a] at this
      omega
     ·rw [<-HS.out,bn.out]
      simp only [zH]
     ·intro x hx
      rcases al.new x hx with h9 | h9
      ·exact av.out x h9
      ·have:=am.size
       exact ⟨by omega,fun hm=>by have:=b5 x hm;omega⟩
     ·exact (bI.out.trans am (by simp)).trans al.chg (fun x hx => .inr (by have:=(av.out x hx).1;have:=ai.out;omega))
   ·have aw:=b4w bh hz
    have cf:=d2j 66 (lens.drop i)
    have cP:=f4s 66 (lens.drop i)
    have af:=e0r lens i
    rw [zO,<-HN.out] at cf
    obtain ⟨z,cn⟩:=zX (zr 66 (lens.drop i))
    rw [<-cn] at aw hz cf cP af
    obtain ⟨z0,cm⟩:=zX (z-3)
    have ez:(z0:Int)+3=(z:Int):=by omega
    rw [<-cm] at aw
    have ay:=co.out
    rw [aw] at ay
    have bg:=c8k wr b F ds p' 5 31 bx (bx+1) FS S ax (by omega) (by omega) ay.left aQ (by omega) cx (by omega) aJ
    have bX:=ay.right
    rw [a0a] at bX
    have cD:=hid bX
    have bn:=hid aw
    have bE:=hid af
    have t2:(((31:Nat):Int) != 31)=false:=rfl
    have b9:=aB.lt
    have bc:=(a2b wr b F ds p' ax)
    clear ay bX aw af ax aQ cn cm
    go_wp2_with (go_at_call 69;refine bc.mono ?_;rintro e w' ⟨rfl,rfl⟩)
    refine bg.mono ?_
    rintro e w4 ⟨rfl,br,FS4,au,ar,aK⟩
    have aa:=ac.lt
    have aj:=ad.chg ar (fun x hx hm=>by
     rcases zJ.1 hm with hm | hm
     ·have:=(HG.out x hx).1;omega
     ·exact (HG.out x hx).2 hm)
    have aL:=aB.chg ar (fun hm=>by
     rcases zJ.1 hm with hm | hm
     ·omega
     ·have:=aM.out _ hm;omega)
    have bv:=aL.cell 0
    simp at bv
    have cO:=ar.size
    have aq:∀ x∈FS4,bx<x:=fun x hx=>by
     rcases aK x hx with h9 | h9
     ·exact aM.out x h9
     ·omega
    have bi:∀ x∈G,bx<x/\x∉FS4:=fun x hx=>⟨(HG.out x hx).1,fun hm=>by
     rcases aK x hm with h9 | h9
     ·exact (HG.out x hx).2 h9
     ·have:=aa x hx;omega⟩
    have bl:Chg [b] w w4:=bC.out.trans ar (fun x hx=>by
     rcases zJ.1 hx with hx | hx
     ·left;simp [hx]
     ·right;have:=aM.out x hx;have:=ai.out;omega)
    have bG:=hid aa
    have ak:=hid aq
    have av:=hid bi
    have bI:=hid bl
    have aC:∀ x∈F,x∉FS4:=fun x hx hm=>by have:=bu.out x hx;have:=ak.out x hm;have:=ai.out;omega
    have bo:=c8k w4 b F ds (p'+5) 6 z0 bx (bx+1) FS4 (S++a0b 31 5) br (by omega) (by omega) cD.out.left au (by rw [zC,a0a];omega) bv (by omega) aC
    have bQ:=hid cD.out.right
    have aA:=hid aj
    have bN:=hid aL
    have cb:=aL.lt
    have cy:Hid (∀ x∈G,x<w4.heap.size):=hid aj.lt
    clear ac ad ae aB aK aa aq bi bl ar bg bc aj aL br au aJ aC
    go_wp2_with fail
    refine bo.mono ?_
    rintro e w6 ⟨rfl,cU,FS6,bb,a3,bK⟩
    have aa:=aA.out.lt
    have be:=aA.out.chg a3 (fun x hx hm=>by
     rcases zJ.1 hm with hm | hm
     ·have:=(av.out x hx).1;omega
     ·exact (av.out x hx).2 hm)
    have cA:=bN.out.chg a3 (fun hm=>by
     rcases zJ.1 hm with hm | hm
     ·omega
     ·have:=ak.out _ hm;omega)
    have c7:=cA.cell 0
    simp at c7
    have c9:=a3.size
    have ba:∀ x∈FS6,bx<x:=fun x hx=>by
     rcases bK x hx with h9 | h9
     ·exact ak.out x h9
     ·omega
    have ch:∀ x∈G,bx<x/\x∉FS6:=fun x hx=>⟨(av.out x hx).1,fun hm=>by
     rcases bK x hm with h9 | h9
     ·exact (av.out x hx).2 h9
     ·have:=aa x hx;omega⟩
    have cu:Chg [b] w w6:=bI.out.trans a3 (fun x hx=>by
     rcases zJ.1 hx with hx | hx
     ·left;simp [hx]
     ·right;have:=ak.out x hx;have:=ai.out;omega)
    have cB:=hid aa
    have bZ:=hid ba
    have a5:=hid ch
    have cS:=hid cu
    have am:Chg [] w6 w6:=zR _ _
    have cq:=hid be
    clear bK aa ba ch cu a3 bo
    go_wp2_with (at_builtin;refine b4o rfl rfl a0p rfl rfl Tryz.underlying3 rfl be z rfl ?c1 ?c2 ?c3 ?_)
    case c1=>omega
    case c2=>rw [zE,aP];omega
    case c3=>rw [zE,aP];omega
    intro v5 G5 w5 ah al
    have ca:=bb.lt
    go_wp2_with fail
    go_roundg j
    case measure=>omega
    case rel =>
     refine ⟨i+z,p'+5+6,FS6,S++a0b 31 5++a0b z0 6,G5,by omega,by omega,?_,(cU.same am).chg al.chg (fun x hx hm=>by have:=bu.out x hx;have:=(a5.out x hm).1;have:=ai.out;omega),bQ,hid ?_,(bb.same am).chg al.chg (fun x hx hm=>(a5.out x hm).2 hx),hid ?_,(cA.chg am (by simp)).chg al.chg (fun hm=>by have:=(a5.out _ hm).1;omega),bZ,hid ?_,hid ?_⟩
     ·rw [bE.out,<-bT.out,zM]
      have:=ah
      simpa [i64] using this
     ·have:=HP.out
      rw [bn.out] at this
      simp only [zC,a0a] at this
      omega
     ·rw [<-HS.out,bn.out]
      simp only [zH]
     ·intro x hx
      rcases al.new x hx with h9 | h9
      ·exact a5.out x h9
      ·have:=am.size
       exact ⟨by omega,fun hm=>by have:=ca x hm;omega⟩
     ·exact (cS.out.trans am (by simp)).trans al.chg (fun x hx => .inr (by have:=(a5.out x hx).1;have:=ai.out;omega))
structure a5l (w:World) (tb:Nat) (lens:List Nat) (kl kf ks:Nat) (C:Array Value) (vs:Nat->Value) (Fs:Nat->List Nat):Prop where
 blk:Blk w tb 316 C
 size:C.size=51
 long:C[0]?=some (.int .i64 (b8d lens kl:Nat))
 first:∀ n,n<25->C[1+n]?=some (.int .u64 (a2f lens kf n:Nat))
 syms:∀ n,n<25->C[26+n]?=some (vs n)
 own:∀ n,n<25->Own w 3 (vs n) (Fs n) ((a2j lens ks n).map i64)
 new:∀ n,∀ x∈Fs n,tb<x
 apart:∀ n m,n<25->m<25->n≠m->∀ x∈Fs n,x∉Fs m
abbrev d7x (w:World) (tb:Nat) (lens:List Nat) (k:Nat) (C:Array Value) (vs:Nat->Value) (Fs:Nat->List Nat):Prop:=a5l w tb lens k k k C vs Fs
variable {w:World} {tb:Nat} {lens:List Nat} {kl kf ks:Nat} {C:Array Value} {vs:Nat->Value} {Fs:Nat->List Nat}
theorem a5l.same (h:a5l w tb lens kl kf ks C vs Fs) {w':World} (hc:Chg [] w w'):a5l w' tb lens kl kf ks C vs Fs :=
 { h with blk:=h.blk.chg hc (by simp),own:=fun n hn=>(h.own n hn).same hc }
theorem a5l.chg (h:a5l w tb lens kl kf ks C vs Fs) {w':World} {G:List Nat} (hc:Chg G w w') (hG:∀ x∈G,x<tb):a5l w' tb lens kl kf ks C vs Fs :=
 { h with blk:=h.blk.chg hc (fun hm=>by have:=hG tb hm;omega),own:=fun n hn=>(h.own n hn).chg hc fun x hx hm=>by have:=h.new n x hx;have:=hG x hm;omega }
theorem a5l.first_new (h:a5l w tb lens kl ks ks C vs Fs) {n:Nat} (hn:n<25) {wd:Nat}
  (hs:a2f lens (ks+1) n=wd) (ho:∀ m,n≠m->a2f lens (ks+1) m=a2f lens ks m) :
  a5l (w.setCell ⟨tb,1+n,none⟩ (.int .u64 wd)) tb lens kl (ks+1) ks (C.setIfInBounds (1+n) (.int .u64 wd)) vs Fs where
 blk:=h.blk.set_ _ _
 size:=by rw [Array.size_setIfInBounds];exact h.size
 long:=by rw [Array.getElem?_setIfInBounds,if_neg (by omega)];exact h.long
 first m hm:=by
  by_cases e:n=m
  ·subst e
   rw [Array.getElem?_setIfInBounds,if_pos rfl,if_pos (by rw [h.size];omega),hs]
  ·rw [Array.getElem?_setIfInBounds,if_neg (by omega),ho m e];exact h.first m hm
 syms m hm:=by rw [Array.getElem?_setIfInBounds,if_neg (by omega)];exact h.syms m hm
 own m hm:=(h.own m hm).far (fun hx=>by have:=h.new m _ hx;simp at this) _
 new:=h.new
 apart:=h.apart
theorem a5l.first_old (h:a5l w tb lens kl ks ks C vs Fs) (ho:∀ m,a2f lens (ks+1) m=a2f lens ks m) :
  a5l w tb lens kl (ks+1) ks C vs Fs:={ h with first:=fun m hm=>by rw [ho];exact h.first m hm }
theorem a5l.long_new (h:a5l w tb lens kl kf ks C vs Fs) {n k:Nat} (hs:b8d lens k=n) :
  a5l (w.setCell ⟨tb,0,none⟩ (.int .i64 n)) tb lens k kf ks (C.setIfInBounds 0 (.int .i64 n)) vs Fs where
 blk:=h.blk.set_ _ _
 size:=by rw [Array.size_setIfInBounds];exact h.size
 long:=by rw [Array.getElem?_setIfInBounds,if_pos rfl,if_pos (by rw [h.size];omega),hs]
 first m hm:=by rw [Array.getElem?_setIfInBounds,if_neg (by omega)];exact h.first m hm
 syms m hm:=by rw [Array.getElem?_setIfInBounds,if_neg (by omega)];exact h.syms m hm
 own m hm:=(h.own m hm).far (fun hx=>by have:=h.new m _ hx;simp at this) _
 new:=h.new
 apart:=h.apart
theorem a5l.syms_new (h:a5l w tb lens kl kf ks C vs Fs) {n:Nat} (hn:n<25) {w':World} {g:Nat} {v:Value} {s:Nat}
  (hg:a0u (Fs n) [g] w w') (ht:tb<w.heap.size) (hr:Own w' 3 v [g] ((a2j lens ks n).map i64++[i64 s]))
  (hs:a2j lens (ks+1) n=a2j lens ks n++[s]) (ho:∀ m,n≠m->a2j lens (ks+1) m=a2j lens ks m) :
  a5l (w'.setCell ⟨tb,26+n,none⟩ v) tb lens kl kf (ks+1) (C.setIfInBounds (26+n) v) (fun m=>if m=n then v else vs m) (fun m=>if m=n then [g] else Fs m):=by
 have ab:tb∉Fs n:=fun hm=>by have:=h.new n _ hm;omega
 have ac:tb<g:=by
  rcases hg.new g (by simp) with h1 | h1
  ·exact h.new n _ h1
  ·omega
 have aa:∀ m,m<25->m≠n->∀ x∈Fs m,x≠g:=fun m hm hmn x hx he=>by
  subst he
  rcases hg.new x (by simp) with h1 | h1
  ·exact h.apart m n hm hn hmn x hx h1
  ·have:=(h.own m hm).lt x hx;omega
 refine ⟨(h.blk.chg hg.chg ab).set_ _ _,by rw [Array.size_setIfInBounds];exact h.size,by rw [Array.getElem?_setIfInBounds,if_neg (by omega)];exact h.long,fun m hm=>by rw [Array.getElem?_setIfInBounds,if_neg (by omega)];exact h.first m hm,fun m hm => ?_,fun m hm => ?_,fun m x hx => ?_,fun a b ha hb hab x hx hx' => ?_⟩
 ·rw [Array.getElem?_setIfInBounds]
  by_cases e:m=n
  ·subst e;rw [if_pos rfl,if_pos (by rw [h.size];omega),if_pos rfl]
  ·rw [if_neg (by omega),if_neg e];exact h.syms m hm
 ·by_cases e:m=n
  ·subst e
   simp only [if_pos rfl]
   rw [hs,zM]
   exact hr.far (by simp;omega) _
  ·simp only [if_neg e]
   rw [ho m (fun hh=>e hh.symm)]
   refine ((h.own m hm).chg hg.chg fun x hx hm'=>h.apart m n hm hn e x hx hm').far (fun hx=>by have:=h.new m _ hx;simp at this) _
 ·by_cases e:m=n
  ·rw [if_pos e] at hx;simp at hx;omega
  ·rw [if_neg e] at hx;exact h.new m x hx
 ·by_cases e:a=n
  ·rw [if_pos e] at hx
   rw [if_neg (fun hh=>hab (e.trans hh.symm))] at hx'
   simp at hx
   exact aa b hb (fun hh=>hab (e.trans hh.symm)) x hx' hx
  ·rw [if_neg e] at hx
   by_cases e2:b=n
   ·rw [if_pos e2] at hx'
    simp at hx'
    exact aa a ha e x hx hx'
   ·rw [if_neg e2] at hx'
    exact h.apart a b ha hb hab x hx hx'
def f2x:Array Value:=#[.int .i64 0,.int .u64 0,.int .u64 0,.int .u64 0,.int .u64 0,.int .u64 0,.int .u64 0,.int .u64 0,.int .u64 0,.int .u64 0,.int .u64 0,.int .u64 0,.int .u64 0,.int .u64 0,.int .u64 0,.int .u64 0,.int .u64 0,.int .u64 0,.int .u64 0,.int .u64 0,.int .u64 0,.int .u64 0,.int .u64 0,.int .u64 0,.int .u64 0,.int .u64 0,.slice none 0 0,.slice none 0 0,.slice none 0 0,.slice none 0 0,.slice none 0 0,.slice none 0 0,.slice none 0 0,.slice none 0 0,.slice none 0 0,.slice none 0 0,.slice none 0 0,.slice none 0 0,.slice none 0 0,.slice none 0 0,.slice none 0 0,.slice none 0 0,.slice none 0 0,.slice none 0 0,.slice none 0 0,.slice none 0 0,.slice none 0 0,.slice none 0 0,.slice none 0 0,.slice none 0 0,.slice none 0 0]
theorem e5w:f2x=(Value.int .i64 0::(List.replicate 25 (Value.int .u64 0)++List.replicate 25 (Value.slice none 0 0))).toArray:=rfl
theorem f2y (w:World) (lens:List Nat):d7x (w.alloc (.cells f2x 316)) w.heap.size lens 0 f2x (fun _ => .slice none 0 0) (fun _=>[]):=by
 refine ⟨Blk.new w _ _,rfl,rfl,fun n hn => ?_,fun n hn => ?_,fun n _ => ?_,fun _ x hx=>by simp at hx,fun _ _ _ _ _ x hx=>by simp at hx⟩
 ·have e:a2f lens 0 n=0:=by simp [a2f,a2j]
  rw [e,e5w,List.getElem?_toArray,Nat.add_comm,List.getElem?_cons_succ,List.getElem?_append_left (by simpa using hn),List.getElem?_replicate,if_pos hn]
  rfl
 ·rw [e5w,List.getElem?_toArray,show 26+n=(25+n)+1 by omega,List.getElem?_cons_succ,zS (by simp),zV,show 25+n-25=n by omega,List.getElem?_replicate,if_pos hn]
 ·have e:a2j lens 0 n=[]:=by simp [a2j]
  rw [e]
  exact Own.nil _ _
theorem f1q (lens : List Nat) (A B : Option Addr) (ca cb : Nat) (w : World) (hf : b3p lens) (hA : a0d i64 w A lens) (hB : a0d f3b w B (b0d lens)) (hBl : (b0d lens).length = lens.length) :
    Calls Tryz.prog 267 #[.slice A lens.length ca,.slice B (b0d lens).length cb] w fun e w'=>∃ tb C vs Fs,e=.returned (.pointer (some ⟨tb,0,none⟩))/\d7x w' tb lens (a0q lens).length C vs Fs/\Chg [] w w'/\w.heap.size<=tb:=by
  have a1:=fun wz hc=>d1p lens A ca wz hf.n2 hc
  have bv:=b9n lens 24
  have aM:(a0q lens).length<=lens.length:=bv
  have bx:=hf.n2
  rw [hBl]
  obtain ⟨N,hN⟩:=zX (lens.length)
  rw [<-hN] at a1 aM bx hBl ⊢
  obtain ⟨M,hM⟩:=zX ((a0q lens).length)
  rw [<-hM] at aM ⊢
  have HN:=hid hN
  have HM:=hid hM
  have a0:=hid hBl
  have HA:=hid hA
  have HB:=hid hB
  have a2:=hid a1
  have HF:=hid hf
  clear hN hM hBl hA hB a1 bv hf
  go_enter Tryz.func267,Tryz.ntmps267
  go_wp2_with fail
  obtain ⟨tb,a6⟩:=zX (w.heap.size)
  obtain ⟨w1,aB⟩:=zX (w.alloc (.cells f2x 316))
  have ab:d7x w1 tb lens 0 f2x (fun _ => .slice none 0 0) (fun _=>[]):=by rw [aB,a6];exact f2y w lens
  have aG:Chg [] w w1:=by rw [aB];exact (zR [] w).alloc _
  have az:=hid a6
  have bI:=hid aB
  have a8:Hid (w1=w.alloc (.cells #[.int .i64 0,.int .u64 0,.int .u64 0,.int .u64 0,.int .u64 0,.int .u64 0,.int .u64 0,.int .u64 0,.int .u64 0,.int .u64 0,.int .u64 0,.int .u64 0,.int .u64 0,.int .u64 0,.int .u64 0,.int .u64 0,.int .u64 0,.int .u64 0,.int .u64 0,.int .u64 0,.int .u64 0,.int .u64 0,.int .u64 0,.int .u64 0,.int .u64 0,.int .u64 0,.slice none 0 0,.slice none 0 0,.slice none 0 0,.slice none 0 0,.slice none 0 0,.slice none 0 0,.slice none 0 0,.slice none 0 0,.slice none 0 0,.slice none 0 0,.slice none 0 0,.slice none 0 0,.slice none 0 0,.slice none 0 0,.slice none 0 0,.slice none 0 0,.slice none 0 0,.slice none 0 0,.slice none 0 0,.slice none 0 0,.slice none 0 0,.slice none 0 0,.slice none 0 0,.slice none 0 0,.slice none 0 0] 316)):=hid aB
  clear aB a6
  rw [<-az.out,<-a8.out]
  refine (a2.out w1 (HA.out.same aG)).mono ?_
  rintro e w2 ⟨v2,F2,rfl,aq,aw,bs⟩
  obtain ⟨Ar,cr,rfl,aW,bc,bp⟩:=aq.oq
  rw [<-HM.out]
  have ba:=ab.blk.lt
  have bq:=(HA.out.same aG).same aw
  have bh:=(HB.out.same aG).same aw
  have bf:d7x w2 tb lens 0 f2x (fun _ => .slice none 0 0) (fun _=>[]):=ab.same aw
  have a5:=hid (aG.tq aw)
  have ay:Apt A lens [tb]:=Apt.fresh HA.out (F:=[tb]) (by simp;exact Nat.le_of_eq az.out.symm)
  have aD:Apt B (b0d lens) [tb]:=Apt.fresh HB.out (F:=[tb]) (by simp;exact Nat.le_of_eq az.out.symm)
  have aE:Apt Ar (a0q lens) [tb]:=aq.apt (fun x hx hm=>by have:=bs x hx;simp at hm;omega)
  have aK:=hid (And.intro ay (And.intro aD aE))
  have aU:=hid bq
  have a7:=hid bh
  have aY:=hid bp
  have bE:tb<w2.heap.size:=by have:=aw.size;omega
  clear ba ab aG aw aq bs aW bc bq bh bp ay aD aE
  go_wp2_with fail
  go_loopg [7,8,14] M (fun j va vb iv wr=>∃ (k:Nat) (C:Array Value) (vs:Nat->Value) (Fs:Nat->List Nat),iv=.int .i64 k/\k+j=M/\Hid (d7x wr tb lens k C vs Fs)/\Hid (Chg [tb] w2 wr)/\Hid (∀ n,∀ x∈Fs n,w2.heap.size<=x))
  case atStart=>exact ⟨0,f2x,_,_,rfl,by omega,hid bf,hid (zR _ _),hid (by simp)⟩
  case round =>
    clear bf
    obtain ⟨k,C,vs,Fs,rfl,bH,HT,aH,ax⟩:=hrel
    rcases gk with _ | j
    · obtain rfl:M=k:=by omega
      have u1:decide (M<M)=false:=by simp
      have bA:decide ((M:Int)<(M:Int))=false:=by simp
      go_wp2_with fail
      go_ret
      exact ⟨tb,C,vs,Fs,rfl,HT.out,a5.out.trans aH.out (fun x hx => .inr (by simp at hx;have:=az.out;omega)),by have:=az.out;omega⟩
    · have bg:k<M:=by omega
      have ah:k<(a0q lens).length:=by rw [<-HM.out];exact bg
      have u1:decide (k<M)=true:=zB bg
      have bA:decide ((k:Int)<(M:Int))=true:=zB (by omega)
      obtain ⟨bn,aC,aF⟩:=a4q ah
      have aJ:(a0q lens)[k]=(a0q lens).getD k 0:=by rw [zD,zF ah];rfl
      have bC:=fun n=>b4n ah n
      have aO:=fun n hn=>b8o (n:=n) ah hn
      have al:=b4m ah rfl
      have aj:=fun n hn=>c6v (n:=n) ah hn
      have ai:=fun he=>d3f ah rfl he
      have aa:=fun he=>d3g ah rfl he
      have ak:b8d lens (k+1)=a0g lens ((a0q lens).getD k 0):=rfl
      obtain ⟨gr,bD,rfl,aQ⟩:=(aY.out.keep aK.out.2.2 aH.out).at_ ah
      rw [aJ] at aQ
      obtain ⟨s,hs⟩:=zX ((a0q lens).getD k 0)
      rw [<-hs] at bn aC aF aO al aj ai aa ak aQ
      obtain ⟨n,hn⟩:=zX (a0g lens s)
      rw [<-hn] at bn aC aO al aj ai aa ak
      obtain ⟨ga,oa,rfl,aX⟩:=(aU.out.keep aK.out.1 aH.out).at_ aF
      have bi:lens[s]=n:=by rw [hn];unfold a0g;rw [zD,zF aF];rfl
      rw [bi] at aX
      have a9:s<(b0d lens).length:=by rw [a0.out,HN.out];exact aF
      obtain ⟨gw,ow,rfl,aS⟩:=(a7.out.keep aK.out.2.1 aH.out).at_ a9
      have bk:(b0d lens)[s]=a5i lens s:=by unfold a5i;rw [zD,zF a9];rfl
      rw [bk] at aS
      obtain ⟨wd,br⟩:=zX (a5i lens s)
      rw [<-br] at aS ai
      have d1:wr.cell? ⟨gr,bD+k,none⟩=some (.int .i64 s):=aQ
      have d2:wr.cell? ⟨ga,oa+s,none⟩=some (.int .i64 n):=aX
      have d3:wr.cell? ⟨gw,ow+s,none⟩=some (.int .u64 wd):=aS
      have ac:n<25:=by omega
      have af:=HT.out.blk
      have d4:wr.cell? ⟨tb,26+n,none⟩=some (vs n):=by rw [af.cell];exact HT.out.syms n ac
      have au:=HT.out.own n ac
      have aP:=c5w lens k n
      have bj:=HN.out
      obtain ⟨Av,cv,aT,av,aL,bb⟩:=au.oq
      obtain ⟨q,hq⟩:=zX ((a2j lens k n).length)
      rw [<-hq] at aT av aP
      have bG:q<=1024:=by rw [<-bj] at aP;omega
      rw [aT] at d4
      have bz:s<N:=by omega
      have aR:=hid (And.intro aO (And.intro al (And.intro aj (And.intro ai (And.intro aa ak)))))
      have HQ:=hid hq
      have bl:=hid aT
      have bu:=hid af
      have bJ:=hid (And.intro hs hn)
      clear aQ aX aS aJ bC aO al aj ai aa ak hs hn bi bk br a9 aF ah hq aT bb bj
      have am:=aH.out
      have bo:=af.frozen (1+n)
      have bm:=af.frozen (26+n)
      have bw:wr.cell? ⟨tb,1+n,none⟩=some (.int .u64 (a2f lens k n:Int)):=by rw [af.cell];exact HT.out.first n ac
      by_cases hq0:q=0
      · subst hq0
        go_wp2_with fail
        refine a0c 9 (by kernel_rfl) (by kernel_rfl) ?_
        simp only [List.take_succ_cons,List.take_zero,List.drop_succ_cons,List.drop_zero]
        repeat (go_big_quiet_step (fail))
        refine wpQuiet_nil ?_
        intro _ bB
        obtain ⟨nq,rfl⟩:=bB
        go_wp2_with fail
        obtain ⟨ho,al,aj,ai,aa,ak⟩:=aR.out
        have he:a2j lens k n=[]:=List.eq_nil_of_length_eq_zero HQ.out.symm
        have ab:=(HT.out.same ((zR [] wr).drewN nq)).first_new ac (ai he) (fun m e=>aj m e)
        have ar:Chg [tb] w2 ((wr.drewN nq).setCell ⟨tb,1+n,none⟩ (.int .u64 wd)):=(am.drewN nq).setCell (.inl (by simp)) _
        generalize (wr.drewN nq).setCell ⟨tb,1+n,none⟩ (.int .u64 wd)=wq at ab ar ⊢
        generalize C.setIfInBounds (1+n) (.int .u64 wd)=C1 at ab
        have aA:=bl.out
        have aI:(n:Int)<25:=by omega
        have ae:=ab.own n ac
        rw [aA] at ae
        have ag:=ab.blk
        have ap:=ab.syms n ac
        rw [aA] at ap
        have bF:=ag.lt
        have n0:wq.cell? ⟨tb,26+n,none⟩=some (.slice Av 0 cv):=by rw [ag.cell];exact ap
        have aV:tb∉Fs n:=fun hm=>by have:=ab.new n _ hm;omega
        have n1:(wq.alloc (.cells #[.int .i64 s] 3)).cell? ⟨tb,26+n,none⟩=some (.slice Av 0 cv):=by rw [(ag.alloc _).cell];exact ap
        have ad:(List.map i64 (a2j lens k n)).length=0:=by rw [zE];exact HQ.out.symm
        clear aP am bw bo bm av aL d1 d2 d3 d4 aY aU a7 HA HB a2 HF a0 aK HT af bu au
        go_region_law (refine a3x (by rfl) (by rfl) a0p (by rfl) (by rfl) ((ae.alloc (.cells #[.int .i64 (s : Int)] 3)).drew) (.int .i64 (s : Int)) (by rfl) (by simp [go_sem]) (by rfl) (by rw [ad]; omega) (by rw [ad]; omega) ?_; intro g2 bd w3 aN ao; have an := ((ag.alloc (.cells #[.int .i64 (s : Int)] 3)).drew).chg ao.chg aV; have y1 : w3.cell? ⟨tb, 26 + n, none⟩ = some (.slice Av 0 cv) := by rw [an.cell]; exact ap
                       have z1:=an.frozen (26+n);rw [ad])
        all_goals
          have y0:w3.cell? ⟨tb,0,none⟩=some (.int .i64 (b8d lens k:Int)):=by rw [an.cell];exact ab.long
          have z0:=an.frozen 0
          go_wp2_with fail
          rw [ad] at aN
          go_roundg j
          case measure=>omega
          case rel =>
            obtain ⟨ho,al,aj,ai,aa,ak⟩:=aR.out
            have a4:tb<(wq.alloc (.cells #[.int .i64 s] 3)).drew.heap.size:=((ag.alloc (.cells #[.int .i64 s] 3)).drew).lt
            have aZ:=(((ab.same (((zR [] wq).alloc (.cells #[.int .i64 s] 3)).drew)).syms_new ac ao a4 aN.toOwn al ho).long_new ak)
            have a3:Chg [tb] w2 w3:=(ar.alloc (.cells #[.int .i64 s] 3)).drew.trans ao.chg (fun x hx => .inr (ax.out n x hx))
            refine ⟨k+1,_,_,_,by go_num,by omega,hid aZ,hid ((a3.setCell (.inl (by simp)) _).setCell (.inl (by simp)) _),hid ?_⟩
            intro m x hx
            by_cases e:m=n
            · rw [if_pos e] at hx
              have be:x=g2:=by simpa using hx
              subst be
              rcases ao.new x (by simp) with h1 | h1
              · exact ax.out n x h1
              · exact Nat.le_trans ((ar.alloc (.cells #[.int .i64 s] 3)).drew.size) h1
            · rw [if_neg e] at hx
              exact ax.out m x hx
      · have u2:((q:Int)==0)=false:=by rw [beq_eq_false_iff_ne];omega
        go_wp2_with fail
        obtain ⟨ho,al,aj,ai,aa,ak⟩:=aR.out
        have he:a2j lens k n≠[]:=fun hh=>hq0 (by rw [HQ.out,hh];rfl)
        have ab:=HT.out.first_old (fun m=>by
          by_cases e:n=m
          · subst e;exact aa he
          · exact aj m e)
        have ar:Chg [tb] w2 wr:=am
        generalize wr=wq at ab ar ⊢
        generalize C=C1 at ab
        have aA:=bl.out
        have aI:(n:Int)<25:=by omega
        have ae:=ab.own n ac
        rw [aA] at ae
        have ag:=ab.blk
        have ap:=ab.syms n ac
        rw [aA] at ap
        have bF:=ag.lt
        have n0:wq.cell? ⟨tb,26+n,none⟩=some (.slice Av q cv):=by rw [ag.cell];exact ap
        have aV:tb∉Fs n:=fun hm=>by have:=ab.new n _ hm;omega
        have n1:(wq.alloc (.cells #[.int .i64 s] 3)).cell? ⟨tb,26+n,none⟩=some (.slice Av q cv):=by rw [(ag.alloc _).cell];exact ap
        have ad:(List.map i64 (a2j lens k n)).length=q:=by rw [zE];exact HQ.out.symm
        clear aP am bw bo bm av aL d1 d2 d3 d4 aY aU a7 HA HB a2 HF a0 aK HT af bu au
        go_region_law (refine a3x (by rfl) (by rfl) a0p (by rfl) (by rfl) ((ae.alloc (.cells #[.int .i64 (s : Int)] 3)).drew) (.int .i64 (s : Int)) (by rfl) (by simp [go_sem]) (by rfl) (by rw [ad]; omega) (by rw [ad]; omega) ?_; intro g2 bd w3 aN ao; have an := ((ag.alloc (.cells #[.int .i64 (s : Int)] 3)).drew).chg ao.chg aV; have y1 : w3.cell? ⟨tb, 26 + n, none⟩ = some (.slice Av q cv) := by rw [an.cell]; exact ap
                       have z1:=an.frozen (26+n);rw [ad])
        all_goals
          have y0:w3.cell? ⟨tb,0,none⟩=some (.int .i64 (b8d lens k:Int)):=by rw [an.cell];exact ab.long
          have z0:=an.frozen 0
          go_wp2_with fail
          rw [ad] at aN
          go_roundg j
          case measure=>omega
          case rel =>
            obtain ⟨ho,al,aj,ai,aa,ak⟩:=aR.out
            have a4:tb<(wq.alloc (.cells #[.int .i64 s] 3)).drew.heap.size:=((ag.alloc (.cells #[.int .i64 s] 3)).drew).lt
            have aZ:=(((ab.same (((zR [] wq).alloc (.cells #[.int .i64 s] 3)).drew)).syms_new ac ao a4 aN.toOwn al ho).long_new ak)
            have a3:Chg [tb] w2 w3:=(ar.alloc (.cells #[.int .i64 s] 3)).drew.trans ao.chg (fun x hx => .inr (ax.out n x hx))
            refine ⟨k+1,_,_,_,by go_num,by omega,hid aZ,hid ((a3.setCell (.inl (by simp)) _).setCell (.inl (by simp)) _),hid ?_⟩
            intro m x hx
            by_cases e:m=n
            · rw [if_pos e] at hx
              have be:x=g2:=by simpa using hx
              subst be
              rcases ao.new x (by simp) with h1 | h1
              · exact ax.out n x h1
              · exact Nat.le_trans ((ar.alloc (.cells #[.int .i64 s] 3)).drew.size) h1
            · rw [if_neg e] at hx
              exact ax.out m x hx
theorem e7f {W j y:Nat} (h:W / 2^j%2=y):2*(W / 2^(j+1))+y=W / 2^j:=by
 rw [Nat.pow_succ,<-Nat.div_div_eq_div_mul]
 omega
theorem f0e (w:World) (b:Nat) (F ds:List Nat) (p:Nat) (lens:List Nat) (s tb:Nat) (C:Array Value) (vs:Nat->Value) (Fs:Nat->List Nat) (h:a1r w b F ds p) (hf:b3p lens) (hs:0<a0g lens s)
  (ht:d7x w tb lens (b1s lens) C vs Fs) (hb:b<tb) (ha:a0y ds p (b2f lens s)) :
  Calls Tryz.prog 268 #[.pointer (some ⟨tb,0,none⟩),.pointer (some ⟨b,0,none⟩)] w fun e w'=>e=.returned (.tuple #[.int .i64 s,.int .i64 0])/\a1r w' b F ds (p+a0g lens s)/\Chg [b] w w':=by
 have ax:=hf.le
 have aD:=e3k ax hs
 have hW:=d2h hf hs
 have aa:=fun n h0 hn=>e5c ax (s:=s) (n:=n) hs h0 hn
 have ab:=e9t ax hs
 have aG:=ha.le h.at_le
 unfold b2f at ha aG
 rw [a0a] at aG
 have a1:=hf.n2
 obtain ⟨L,hL⟩:=zX (a0g lens s)
 rw [<-hL] at hs aD hW aa ab ha aG ⊢
 obtain ⟨W,aN⟩:=zX (a5i lens s)
 rw [<-aN] at hW aa ab ha
 obtain ⟨K,hK⟩:=zX (b1s lens)
 rw [<-hK] at aD aa ab ht
 obtain ⟨lo,ag⟩:=zX (b8d lens K)
 have ay:L<=24:=by omega
 have am:W<16777216:=Nat.lt_of_lt_of_le hW (show 2^L<=2^24 from Nat.pow_le_pow_right (by decide) ay)
 have aU:=hid ag
 rw [<-ag] at aD
 have HP:=hid aa
 have HH:=hid ab
 have HA:=hid ha
 have HW:=hid hW
 have HT:=hid ht
 clear ax aa ab ha ht hL aN hK ag hf
 go_enter Tryz.func268,Tryz.ntmps268
 go_wp2_with fail
 go_loopg [6,7,8] (L-1) (fun j va vb vc wr=>∃ n:Nat,0<n/\n+j=L/\vb=.int .i64 n/\va=.int .u64 (W / 2^(j+1):Nat)/\a1r wr b F ds (p+(n-1))/\Hid (Chg [b] w wr))
 case atStart =>
  refine ⟨1,by omega,by omega,rfl,?_,h,hid (zR _ _)⟩
  rw [show L-1+1=L by omega,Nat.div_eq_of_lt HW.out]
  rfl
 case round =>
  obtain ⟨n,aX,aY,rfl,rfl,aM,aK⟩:=hrel
  obtain ⟨j,hj⟩:=zX (gk)
  have aq:=hid (HT.out.chg aK.out (fun x hx=>by simp at hx;omega))
  have d0:wr.cell? ⟨tb,0,none⟩=some (.int .i64 lo):=by rw [aq.out.blk.cell,aU.out];exact aq.out.long
  have u1:decide ((n:Int)<=(lo:Int))=true:=zB (by omega)
  have ac:=e5g wr b F ds (p+(n-1)) 1 aM (by omega) (by omega)
  have an:=c6e ds (p+(n-1))
  have aQ:W / 2^gk%2=a8h ds (p+(n-1)):=by
   have h1:=HA.out.get (b2r W L (n-1) (by omega))
   rw [show L-1-(n-1)=gk by omega] at h1
   exact h1.symm
  rw [show b4j ds (p+(n-1)) 1=a8h ds (p+(n-1)) by simp [b4j],show p+(n-1)+1=p+n by omega] at ac
  have ao:=e7f aQ
  obtain ⟨y,hy⟩:=zX (a8h ds (p+(n-1)))
  rw [<-hy] at ac an ao
  obtain ⟨v,hv⟩:=zX (W / 2^(gk+1))
  obtain ⟨v1,aw⟩:=zX (W / 2^gk)
  have aW:v<16777216:=by rw [hv];exact Nat.lt_of_le_of_lt (Nat.div_le_self _ _) am
  have aL:v1<16777216:=by rw [aw];exact Nat.lt_of_le_of_lt (Nat.div_le_self _ _) am
  rw [<-hv] at ao ⊢
  rw [<-aw] at ao
  have aZ:bits BinOp.or IntKind.u64 ((v:Int)*2) (y:Int)=(v1:Int):=by
   have:=c0d (v:=v) (b:=y) (by omega) an
   rw [ao] at this
   rw [<-this]
   congr 1
   omega
  have av:=hid aw
  clear aQ ao hy hv aw hj
  go_wp2_with fail
  refine ac.mono ?_
  rintro e w1 ⟨rfl,ap,aJ⟩
  clear ac
  have ak:=a2b w1 b F ds _ ap
  have ai:=aq.out.chg aJ (fun x hx=>by simp at hx;omega)
  have ae:=hid (aK.out.trans aJ (fun x hx => .inl hx))
  have af:n<25:=by omega
  have aP:(n:Int)<25:=by omega
  obtain ⟨fi,az⟩:=zX (a2f lens K n)
  have d1:w1.cell? ⟨tb,1+n,none⟩=some (.int .u64 fi):=by rw [ai.blk.cell,az];exact ai.first n af
  have d2:w1.cell? ⟨tb,26+n,none⟩=some (vs n):=by rw [ai.blk.cell];exact ai.syms n af
  obtain ⟨Av,cv,aE,-,-,aI⟩:=(ai.own n af).oq
  have aR:=c5w lens K n
  obtain ⟨q,hq⟩:=zX ((a2j lens K n).length)
  rw [<-hq] at aE aR
  rw [aE] at d2
  have a0:q<=1024:=by omega
  have HQ:=hid hq
  have aC:=hid az
  have aT:=hid aI
  clear aR hq az aI aE ai aq aM d0
  go_wp2_with fail
  refine ak.mono ?_
  rintro e a2 ⟨rfl,rfl⟩
  clear ak
  rcases gk with _ | j
  ·obtain rfl:n=L:=by omega
   obtain ⟨aO,au,aj⟩:=HH.out
   have aH:v1=W:=by rw [av.out];simp
   rw [<-aH,<-aC.out,<-HQ.out] at au
   rw [<-aH,<-aC.out] at aO aj
   obtain ⟨ix,ar⟩:=zX (v1-fi)
   rw [<-ar] at au aj
   have aA:(v1:Int)-(fi:Int)=(ix:Int):=by omega
   have ad:ix<(a2j lens K n).length:=by rw [<-HQ.out];exact au
   obtain ⟨ga,oa,rfl,aF⟩:=aT.out.at_ ad
   rw [zD,zF ad] at aj
   have al:(a2j lens K n)[ix]=s:=aj
   rw [al] at aF
   have d3:w1.cell? ⟨ga,oa+ix,none⟩=some (.int .i64 s):=aF
   have t1:decide (v1<fi)=false:=zA (by omega)
   have aS:decide ((v1:Int)<(fi:Int))=false:=zA (by omega)
   have t2:decide (ix<q)=true:=zB au
   have aV:decide ((ix:Int)<(q:Int))=true:=zB (by omega)
   have aB:ix<1024:=by omega
   clear aO aj al aF ar aH ad HH
   go_wp2_with fail
   go_ret2
   exact ⟨rfl,ap,ae.out⟩
  ·have ah:=HP.out n aX (by omega)
   rw [show L-n=j+1 by omega,<-av.out,<-aC.out,<-HQ.out] at ah
   rcases ah with ah | ah
   ·have t1:decide (v1<fi)=true:=zB ah
    have aS:decide ((v1:Int)<(fi:Int))=true:=zB (by omega)
    go_wp2_with fail
    go_roundg j
    case measure=>omega
    case rel=>exact ⟨n+1,by omega,by omega,by go_num,by rw [av.out],by simpa using ap,ae⟩
   ·obtain ⟨ix,ar⟩:=zX (v1-fi)
    have aA:(v1:Int)-(fi:Int)=(ix:Int):=by omega
    have t1:decide (v1<fi)=false:=zA (by omega)
    have aS:decide ((v1:Int)<(fi:Int))=false:=zA (by omega)
    have t2:decide (ix<q)=false:=zA (by omega)
    have aV:decide ((ix:Int)<(q:Int))=false:=zA (by omega)
    have aB:ix<16777216:=by omega
    clear ar ah
    go_wp2_with fail
    go_roundg j
    case measure=>omega
    case rel=>exact ⟨n+1,by omega,by omega,by go_num,by rw [av.out],by simpa using ap,ae⟩
theorem d4t {lens l:List Nat} {i:Nat} (h:i<l.length):a1z lens (l.drop i)=b2f lens l[i]++a1z lens (l.drop (i+1)):=by
 rw [List.drop_eq_getElem_cons h]
 rfl
theorem b4l (lens:List Nat) (s:Nat):(b2f lens s).length=a0g lens s:=a0a _ _
theorem e9k (w:World) (b:Nat) (F ds:List Nat) (p:Nat) (lens l:List Nat) (A:Option Addr) (cap:Nat) (h:a1r w b F ds p) (hf:b3p lens) (hc:a0d i64 w A lens) (hl:l.length<=4096)
  (hs:∀ s∈l,s<lens.length/\0<a0g lens s) (ha:a0y ds p (a1z lens l)) :
  Calls Tryz.prog 236 #[.pointer (some ⟨b,0,none⟩),.slice A lens.length cap,.int .i64 l.length] w fun e w'=>∃ v G,e=.returned (.tuple #[v,.int .i64 0])/\Own w' 3 v G (l.map i64)/\a1r w' b F ds (p+(a1z lens l).length)/\Chg [b] w w'/\∀ x∈G,w.heap.size<=x:=by
 have aw:=d5j lens A cap w hf hc
 have ae:=fun B cb w' hA' hB=>f1q lens A B cap cb w' hf hA' hB (a3s lens _)
 have aV:=h.lt b h.mem
 have am:(b0d lens).length=lens.length:=a3s lens _
 obtain ⟨n,hn⟩:=zX (lens.length)
 obtain ⟨m,hm⟩:=zX (l.length)
 have aO:=hf.n1
 have aN:=hf.n2
 rw [<-hn] at aw ae hs aO aN am ⊢
 rw [<-hm] at hl ⊢
 rw [am] at ae
 have HN:=hid hn
 have HM:=hid hm
 have HS:=hid hs
 have HF:=hid hf
 have HA:=hid ha
 have HC:=hid hc
 have aK:=hid ae
 have aL:=hid am
 have t1:decide ((m:Int)<0)=false:=by simp
 have t2:decide ((4194304:Int)<(m:Int))=false:=zA (by omega)
 clear hn hm hs hf ha hc ae am
 go_enter Tryz.func236,Tryz.ntmps236
 go_wp2_with fail
 refine aw.mono ?_
 rintro e w1 ⟨vw,gw,rfl,aD,aj,aX⟩
 have ad:=aD.toOwn
 obtain ⟨cw,rfl,ay,aQ,au,_⟩:=aD.oq
 have aa:=ad.cells
 rw [aL.out] at ay ⊢
 have ap:=h.same aj
 have ae:=aK.out (some ⟨gw,0,none⟩) cw w1 (HC.out.same aj) aa
 clear aw au h ad aa
 go_wp2_with (go_at_call 69;refine (a2b _ b F ds _ ap).mono ?_;rintro e w' ⟨rfl,rfl⟩)
 refine ae.mono ?_
 rintro e w2 ⟨tb,C,vs,Fs,rfl,aE,aH,aY⟩
 have aG:=ap.same aH
 have ah:=aj.tq aH
 have aT:b<tb:=by have:=aj.size;omega
 have aJ:=hid aE
 clear ae aE ap
 have ag:=aG.lt
 have ai:=hid ag
 clear ag
 go_wp2_with fail
 go_loopg [11,12,13,38] m (fun j va vb vc iv wr=>∃ (i p':Nat) (G:List Nat),iv=.int .i64 i/\i+j=m/\Own wr 3 va G ((l.take i).map i64)/\a1r wr b F ds p'/\Hid (a0y ds p' (a1z lens (l.drop i)))/\Hid (p'+(a1z lens (l.drop i)).length=p+(a1z lens l).length)/\Hid (Chg [b] w2 wr)/\Hid (∀ x∈G,w2.heap.size<=x))
 case atStart=>exact ⟨0,p,[],rfl,by omega,Own.nil _ _,aG,HA,hid rfl,hid (zR _ _),hid (by simp)⟩
 case round =>
  obtain ⟨i,p',G,rfl,aW,ab,aB,Ha,Hp,al,HG⟩:=hrel
  rcases gk with _ | j
  ·obtain rfl:i=m:=by omega
   have t3:decide ((i:Int)<(i:Int))=false:=by simp
   go_wp2_with fail
   go_ret2
   have e1:l.take i=l:=by rw [HM.out,zN]
   have e2:p'=p+(a1z lens l).length:=by have:=Hp.out;rw [HM.out,List.drop_length] at this;simpa [a1z] using this
   rw [e1] at ab
   refine ⟨_,G,rfl,ab,e2 ▸ aB,(ah.mono (by simp)).tq al.out,fun x hx=>Nat.le_trans ah.size (HG.out x hx)⟩
  ·have aP:i<m:=by omega
   have aA:i<l.length:=by rw [<-HM.out];exact aP
   have t3:decide ((i:Int)<(m:Int))=true:=zB (by omega)
   obtain ⟨s,ax⟩:=zX (l[i])
   have hs:=HS.out l[i] (zG aA)
   have ak:=d4t (lens:=lens) aA
   rw [<-ax] at hs ak
   have an:=Ha.out
   rw [ak] at an
   have aS:=hid an.right
   have aq:=a0o l aA
   rw [<-ax] at aq
   have af:=f0e wr b F ds p' lens s tb C vs Fs aB HF.out hs.2 (aJ.out.chg al.out (fun x hx=>by simp at hx;omega)) aT an.left
   have aM:=hid ak
   have aI:=hid aq
   clear hs ak an aq ax
   go_wp2_with fail
   refine af.mono ?_
   rintro e w3 ⟨rfl,aF,ar⟩
   have ac:=ab.chg ar (fun x hx hm=>by simp at hm;have:=HG.out x hx;have:=ai.out b aF.mem;omega)
   have ao:Chg [] w3 (w3.alloc (.cells #[.int .i64 s] 3)):=(zR [] w3).alloc _
   have av:=ac.same ao
   have aC:(l.take i).length=i:=by rw [zI];omega
   clear ab ac af
   go_wp2_with (at_builtin;refine a0f rfl rfl a0p rfl rfl av (.int .i64 s) rfl ?c1 ?c2 ?c3 ?c4 ?_)
   case c1=>simp [go_sem]
   case c2=>rfl
   case c3=>rw [zE,aC];omega
   case c4=>rw [zE,aC];omega
   intro g2 aU w4 aR az
   go_wp2_with fail
   go_roundg j
   case measure=>omega
   case rel =>
    refine ⟨i+1,p'+a0g lens s,[g2],by go_num,by omega,?_,(aF.same ao).chg az.chg (fun x hx hm=>by have:=HG.out x hm;have:=ai.out x hx;omega),?_,hid ?_,hid ?_,hid ?_⟩
    ·have h9:=aR.toOwn
     rw [aI.out,zM]
     simpa [i64] using h9
    ·have:=aS.out
     rw [b4l] at this
     exact hid this
    ·have:=Hp.out
     rw [aM.out,zC,b4l] at this
     omega
    ·exact ((al.out.trans ar (fun x hx => .inl hx)).trans ao (by simp)).trans az.chg (fun x hx => .inr (HG.out x hx))
    ·intro x hx
     rcases az.new x hx with h9 | h9
     ·exact HG.out x h9
     ·have:=al.out.size;have:=ar.size;have:=ao.size;omega
theorem d9l {freq:List Nat} (h2:freq.length<=256) (hpos:0<(a0v freq freq.length).length):d5d freq (a7d freq):=by
 rcases zZ (a0v freq freq.length).length 2 with h | h
 ·obtain ⟨e,he⟩:=List.length_eq_one_iff.1 (show (a0v freq freq.length).length=1 by omega)
  obtain ⟨s,hs,_,rfl⟩:=a7z (show e∈a0v freq freq.length by rw [he];simp)
  have h3:=d6p (by omega) he
  rw [c5j he]
  exact h3.2
 ·have aa:=b3u freq freq.length
  obtain ⟨f1,f2,f3⟩:=b8c (freq:=freq) (by omega) h (b7j _ 11)
  rw [c1k h]
  refine ⟨a7m _ _,f1,f2,fun n hn => ?_⟩
  obtain ⟨s,_,rfl⟩:=List.mem_map.1 hn
  exact f3 s
theorem e4u {l:List Int} {W d:Nat} (hl0:0<l.length) (hmx:b3k (a1w l W d)<256):b3p (a6i l W d)/\∀ s∈a1w l W d,s<(a6i l W d).length/\0<a0g (a6i l W d) s:=by
 have ac:a1w l W d≠[]:=fun e=>by have:=a7y l W d;rw [e] at this;simp at this;omega
 have aa:=d9l (freq:=a6o (a1w l W d)) (by rw [b1r];omega) (c0w ac)
 refine ⟨aa.full,fun s hs => ?_⟩
 have hm:=c1n hs
 have ab:s<(a6o (a1w l W d)).length:=by rw [b1r];omega
 refine ⟨by unfold a6i;rw [aa.len];exact ab,(aa.used s ab).2 ?_⟩
 rw [b6w hm]
 exact List.count_pos_iff.2 hs
theorem d8t {l:List Int} {W d i:Nat} (h:i<l.length):(a1w l W d)[i]?=some (a3c l W d i):=by
 simp [a1w,h]
theorem c3s (w:World) (b:Nat) (F ds:List Nat) (p:Nat) (l:List Int) (W H d:Nat) (h:a1r w b F ds p) (hw0:1<=W) (hw1:W<=16) (hh0:1<=H) (hh1:H<=16) (h0:1<=d) (h1:d<=16) (hl:l.length=W*H) (hs:a1u d l) (hmx:b3k (a1w l W d)<256) (ha:a0y ds p (a6h l W d)) :
  Calls Tryz.prog 183 #[.pointer (some ⟨b,0,none⟩),.int .i64 W,.int .i64 H,.int .i64 d] w fun e w'=>∃ v g,e=.returned (.tuple #[v,.int .i64 0])/\Row w' 3 v g (l.map vi)/\a1r w' b F ds (p+(a6h l W d).length)/\Chg [b] w w'/\w.heap.size<=g:=by
 obtain ⟨n,hn⟩:=zX (l.length)
 have aV:=zL hw1 hh1
 have aR:=zL hw0 hh0
 have a8:n<=256:=by rw [hn,hl];exact aV
 have a2:0<l.length:=by rw [hl];omega
 have bD:n<=64*W:=by rw [hn,hl,zY];exact Nat.mul_le_mul_right W (by omega)
 have bJ:(W:Int)*(H:Int)=(n:Int):=by rw [hn,hl];simp
 obtain ⟨aa,ah⟩:=e4u a2 hmx
 unfold a6h at ha ⊢
 rw [zC]
 have ab:=a7y l W d
 have aw:=fun i (hi:i<l.length)=>d8t (W:=W) (d:=d) hi
 have aN:∀ x∈a1w l W d,x<256:=fun x hx=>by have:=c1n hx;omega
 obtain ⟨f,hf⟩:=zX (a1w l W d)
 obtain ⟨lens,aZ⟩:=zX (a6i l W d)
 rw [<-aZ] at aa ah ha ⊢
 rw [<-hf] at ah ha ab aw aN ⊢
 rw [<-hn] at ab aw
 have aT:=d3l w b F ds p lens h aa ha.left
 have af:=fun i=>a9o l W h0 i
 have ak:=fun i=>d0i hs W i
 have bG:=a1p (P:=Tryz.prog) a0p rfl .i64 .i64 n (by omega) (by omega)
 have bH:=h.lt b h.mem
 have HN:=hid hn
 have HA:=hid ha.right
 have bu:=hid aa
 have ba:=hid ah
 have ay:=hid ab
 have bc:=hid aw
 have aI:=hid af
 have bm:=hid ak
 have bo:=hid aN
 have HS:=hid hs
 have bA:=hid h.lt
 clear hn ha aa ah ab aw af ak aN hs hl h hf aZ hmx a2 aV aR
 go_enter Tryz.func183,Tryz.ntmps183
 go_wp2_with fail
 refine aT.mono ?_
 rintro e w1 ⟨v1,G1,rfl,ap,aW,a6,bF⟩
 obtain ⟨A1,c1,rfl,bq,bl,aU⟩:=ap.oq
 have aK:=e9k w1 b F ds _ lens f A1 c1 aW bu.out aU (by rw [ay.out];omega) ba.out HA.out
 rw [ay.out] at aK
 clear aT ap aU aW
 go_wp2_with fail
 refine aK.mono ?_
 rintro e w3 ⟨v2,G2,rfl,ag,al,bk,bi⟩
 obtain ⟨A2,c2,rfl,aS,bs,a7⟩:=ag.oq
 rw [ay.out] at aS ⊢
 have a1:=a6.tq bk
 obtain ⟨G,hG⟩:=zX (w3.heap.size)
 obtain ⟨w4,av⟩:=zX (w3.alloc (.cells (Array.replicate n (Value.int .i64 0)) 3))
 have aj:Row w4 3 (.slice (some ⟨G,0,none⟩) n n) G ((a1a ([]:List Int) n).map vi):=by
  have h9:=Row.zeros w3 n (by omega)
  rw [<-hG] at h9
  rw [av]
  exact h9
 have ax:Chg [] w3 w4:=by rw [av];exact (zR [] w3).alloc _
 have aM:=al.same ax
 have aG:=a1.trans ax (by simp)
 have ar:=a7.same ax
 have bx:=al.lt b al.mem
 have aq:Apt A2 f [b,G]:=ag.apt (fun x hx hm=>by
  have h5:=bi x hx
  have h6:=ag.lt x hx
  have h7:=a6.size
  simp at hm
  omega)
 have bI:=a1.size
 have bj:=hid al.lt
 have HG:=hid hG
 have bv:=hid aq
 have bn:=hid ar
 have bb:Hid (p+(a3u lens).length+(a1z lens f).length=p+((a3u lens).length+(a1z lens f).length)):=hid (by omega)
 have bw:=hid av
 clear aK al ax hG aq a7 ar ag av
 go_wp2_with fail
 rw [<-bw.out,<-HG.out]
 go_loopg [14,15,16,17,44] n (fun j va vb vc vd iv wr=>∃ (i:Nat),iv=.int .i64 i/\i+j=n/\Row wr 3 (.slice (some ⟨G,0,none⟩) n n) G ((a1a (l.take i) n).map vi)/\Hid (Chg [G] w4 wr))
 case atStart=>exact ⟨0,rfl,by omega,by simpa using aj,hid (zR _ _)⟩
 case round =>
  clear aj
  obtain ⟨i,rfl,bC,ad,aB⟩:=hrel
  rcases gk with _ | j
  ·obtain rfl:n=i:=by omega
   have u2:decide ((n:Int)<(n:Int))=false:=by simp
   have br:decide (n<n)=false:=by simp
   have e:a1a (l.take n) n=l:=by
    have:=b5h l
    rw [<-HN.out] at this
    exact this
   rw [e] at ad
   clear e
   go_wp2_with fail
   go_ret2
   refine ⟨_,G,rfl,ad,(aM.chg aB.out (fun z hz hm=>by simp at hm;have:=bj.out z hz;have:=HG.out;omega)).cast bb.out,aG.trans aB.out (fun z hz => .inr (by simp at hz;have:=HG.out;omega)),by have:=HG.out;omega⟩
  ·have an:i<n:=by omega
   have u2:decide ((i:Int)<(n:Int))=true:=zB (by omega)
   have br:decide (i<n)=true:=zB an
   have aJ:i<l.length:=by rw [<-HN.out];exact an
   have aC:i<f.length:=by rw [ay.out];exact an
   have aE:=bc.out i (by omega)
   have a3:=bo.out f[i] (zG aC)
   rw [zF aC] at aE
   have a5:f[i]=a3c l W d i:=by injection aE
   obtain ⟨gf,of,rfl,aA⟩:=(bn.out.keep bv.out (aB.out.mono (fun x hx _=>by simp at hx;simp [hx]))).at_ aC
   rw [a5] at aA a3
   have aQ:=c5m (l:=l) hw0 (i:=i) (by omega)
   rw [<-HN.out] at aQ
   have ai:(a1a (l.take i) n).length=n:=a4g (by rw [zI];omega)
   have au:=b9q (a1a (l.take i) n) (some ⟨G,0,none⟩) n W d i wr h0 h1 hw0 (by omega) (by rw [ai];omega) (by omega) (d0h HS.out i n) ad.toOwn.cells (by rw [ai];omega)
   have ak:=bm.out i
   have af:=aI.out i
   have bB:2^d<=65536:=Nat.pow_le_pow_right (n:=2) (by decide) h1
   have bf:=Nat.two_pow_pos d
   rw [aQ,ai] at au
   have az:=a9p (d:=d) (g:=a8a l W i) (b5s HS.out W _ _) 7
   obtain ⟨gs,aY⟩:=zX (a3d 7 (a8a l W i) d)
   rw [<-aY] at au az ak
   obtain ⟨fi,ao⟩:=zX (a3c l W d i)
   rw [<-ao] at aA a3 ak af
   have bg:wr.cell? ⟨gf,of+i,none⟩=some (.int .i64 fi):=aA
   generalize b3h (a8a l W i) d=cl at au
   have am:gs<65536:=by
    have e:((2^d:Nat):Int)=(2:Int)^d:=by simp
    have:=az.2
    omega
   have aH:=fun w'=>c3b gs fi d w' h0 h1 az.1 am (by omega)
   rw [ak] at aH
   have aL:=a0o l aJ
   have aX:l[i]=l.getD i 0:=by rw [zD,zF aJ];rfl
   rw [aX] at aL
   generalize l.getD i 0=xv at *
   have a4:(l.take i).length=i:=by rw [zI];omega
   have bE:((2^d:Nat):Int)=(2:Int)^d:=by simp
   have bz:IntKind.i64.wrap ((2:Int)^d)=(2:Int)^d:=IntWalk.i64_in _ (by omega)
   have t5:decide ((256:Int)<=(fi:Int))=false:=zA (by omega)
   have t6:decide ((2:Int)^d<=(fi:Int))=false:=zA (by omega)
   have a9:=hid aL
   have aP:=hid a4
   have bp:=hid aH
   have aO:=hid ad
   clear aQ ai ak aY ao aH aL aX a4 ad aJ az aE a5 aC aA
   go_wp2_with fail
   refine au.mono ?_
   rintro e w6 ⟨rfl,a0⟩
   have aD:=hid (aB.out.trans a0 (by simp))
   have ac:=aO.out.chg a0 (by simp)
   obtain ⟨bh,be⟩:=ac.fill_cell (by rw [aP.out];exact an)
   have ae:=ac.fill (by rw [aP.out];exact an) xv
   rw [aP.out] at bh be ae
   have bd:=hid ae
   have aF:=bp.out w6
   clear au ac ae
   go_wp2_with fail
   refine aF.mono ?_
   rintro e w7 ⟨rfl,rfl⟩
   go_wp2_with fail
   go_roundg j
   case measure=>omega
   case rel =>
    refine ⟨i+1,by go_num,by omega,?_,hid (aD.out.setCell (.inl (by simp)) _)⟩
    rw [a9.out]
    exact bd.out
end Go.Proofs.YtepjepkgcdfboaaGreatDoor
