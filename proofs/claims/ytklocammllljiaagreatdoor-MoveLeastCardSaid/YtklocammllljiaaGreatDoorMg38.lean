/- package prefix by its contracts: GetTable. -/
import Derived.Test.YtklocammllljiaaGreatDoorMg29
import Derived.Test.YtklocammllljiaaGreatDoorMg37
set_option linter.unusedVariables false
set_option linter.unusedSimpArgs false
set_option maxHeartbeats 4000000
set_option maxRecDepth 100000
namespace Go.Proofs.YtklocammllljiaaGreatDoor
open Go.RowKit
theorem seen_ok (w:World) (b:Nat) (F ds:List Nat) (p n v:Nat) (bx:Nat) (sb:Nat) (FS S:List Nat) (h:IsRd w b F ds p) (hn:n<=16) (hv:v<2^n) (ha:Ahead ds p (bitsOf v n)) (hs:IsWr w sb FS S) (hS:S.length<137438953472)
  (hx:w.cell? ⟨bx,0,none⟩=some (.pointer (some ⟨b,0,none⟩))) (hbx:bx≠b) (hd:∀ x∈F,x∉FS) :
  Calls Tryz.prog 254 #[.int .i64 n,.pointer (some ⟨bx,0,none⟩),.pointer (some ⟨sb,0,none⟩)] w fun e w'=>e=.returned (.int .i64 v)/\IsRd w' b F ds (p+n)/\∃ FS',IsWr w' sb FS' (S++bitsOf v n)/\Chg (b::FS) w w'/\∀ x∈FS',x∈FS\/w.heap.size<=x:=by
 have hg:=rget_ahead w b F ds p n v h (by omega) hv ha
 have ad:v<65536:=Nat.lt_of_lt_of_le hv (show 2^n<=2^16 from Nat.pow_le_pow_right (by decide) hn)
 have ai:IntKind.i64.wrap (v:Int)=(v:Int):=IntWalk.i64_in _ (by omega)
 have ac:=h.mem
 have HD:=hid hd
 have HV:=hid hv
 clear ha h hd
 go_enter Tryz.func254,Tryz.ntmps254
 go_wp2_with fail
 refine hg.mono ?_
 rintro e w1 ⟨rfl,ah,ab⟩
 have ae:=hs.chg ab (fun x hx hm=>by simp at hm;exact HD.out b ac (hm ▸ hx))
 clear hg hs
 go_wp2_with fail
 refine (wput_ok w1 sb FS S v n ae (by omega) HV.out (by omega)).mono ?_
 rintro e w2 ⟨rfl,af,ag,aa⟩
 go_wp2
 go_ret
 refine ⟨rfl,ah.chg aa.chg HD.out,af,ag,?_,fun x hx => ?_⟩
 ·exact (ab.mono (fun x hx _=>by simp at hx;simp [hx])).trans aa.chg (fun x hx => .inl (by simp [hx]))
 ·rcases aa.new x hx with h9 | h9
  ·exact .inl h9
  ·right;have:=ab.size;omega
theorem take_zeros (lens:List Nat) (i:Nat):lens.take (i+zr 66 (lens.drop i))=lens.take i++List.replicate (zr 66 (lens.drop i)) 0:=by
 rw [List.take_add]
 congr 1
 have hl:=zr_len 66 (lens.drop i)
 refine List.eq_replicate_iff.2 ⟨by rw [zI];omega,fun x hx => ?_⟩
 obtain ⟨q,hq,rfl⟩:=List.getElem_of_mem hx
 rw [zI] at hq
 have h2:=zr_zero 66 (lens.drop i) q (by omega)
 rw [List.getElem_take]
 rw [zD,zF (by omega)] at h2
 simpa using h2
theorem getTable_ok (w:World) (b:Nat) (F ds:List Nat) (p:Nat) (lens:List Nat) (h:IsRd w b F ds p) (hf:FullL lens) (ha:Ahead ds p (tableBits lens)) :
  Calls Tryz.prog 209 #[.pointer (some ⟨b,0,none⟩)] w fun e w'=>∃ v G,e=.returned (.tuple #[v,.int .i64 0])/\Own w' 3 v G (lens.map i64)/\IsRd w' b F ds (p+(tableBits lens).length)/\Chg [b] w w'/\∀ x∈G,w.heap.size<=x:=by
 have cF:=hf.n1
 have cT:=hf.n2
 have ch:=hf.le
 have aS:=tableBits_eq lens
 have cc:=tableBits_len lens
 obtain ⟨T,hT⟩:=zX (tableBits lens)
 rw [<-hT] at ha aS cc ⊢
 obtain ⟨N,hN⟩:=zX (lens.length)
 rw [<-hN] at cF cT aS cc
 obtain ⟨N1,cA⟩:=zX (N-1)
 have eN:(N1:Int)+1=(N:Int):=by omega
 rw [<-cA] at aS
 have bB:=ha
 rw [aS] at bB
 have bV:=bB.right
 rw [bitsOf_len] at bV
 have dc:=h.lt b h.mem
 have bJ:=h.lt
 have dd:=h.mem
 obtain ⟨bx,bA⟩:=zX (w.heap.size)
 obtain ⟨w1,aU⟩:=zX (w.alloc (.cells #[.pointer (some ⟨b,0,none⟩)] 123))
 obtain ⟨w2,br⟩:=zX (w1.alloc (.cells #[.slice none 0 0,.int .i64 0] 102))
 have aN:Blk w1 bx 123 #[.pointer (some ⟨b,0,none⟩)]:=by rw [aU,bA];exact Blk.new w _ _
 have bO:Chg [] w w1:=by rw [aU];exact (zR [] w).alloc _
 have bw:Chg [] w1 w2:=by rw [br];exact (zR [] w1).alloc _
 have bE:w1.heap.size=bx+1:=by rw [aU,bA];simp
 have aT:IsWr w2 (bx+1) [bx+1] []:=by
  have:=IsWr.new w1
  rw [<-br,bE] at this
  exact this
 have aw:=aN.chg bw (by simp)
 have bY:=h.same bO
 have cD:=bY.same bw
 have c2:=aw.cell 0
 simp at c2
 have c1:=aN.cell 0
 simp at c1
 have aC:=seen_ok w2 b F ds p 10 N1 bx (bx+1) [bx+1] [] cD (by omega) (by omega) bB.left aT (by simp) c2 (by omega) (fun x hx hm=>by simp at hm;have:=bJ x hx;omega)
 have HF:=hid hf
 have HN:=hid hN
 have HT:=hid hT
 have cp:=hid aS
 have cM:=hid ch
 have HA:=hid bV
 have bz:=hid bJ
 have cS:=hid aU
 have cR:=hid br
 have aj:=hid bA
 have cJ:=hid (bO.trans_same bw)
 have cN:=hid bE
 clear hN hT aS ch ha bB bV bJ aU br bA bO bw cA h aT hf bE aN
 go_enter Tryz.func209,Tryz.ntmps209
 go_wp2_with fail
 rw [<-aj.out,<-cS.out]
 refine (err_ok w1 b F ds p bY).mono ?_
 rintro e wx ⟨rfl,rfl⟩
 go_wp2_with fail
 rw [cN.out,<-cR.out]
 refine aC.mono ?_
 rintro e w3 ⟨rfl,cz,cg,aO,b3,bd⟩
 rw [List.nil_append] at aO
 have dj:b<bx:=by have:=aj.out;omega
 have a8:=aw.chg b3 (by simp;omega)
 have cU:bx<w2.heap.size:=aw.lt
 have bl:∀ x∈cg,bx<x:=fun x hx=>by
  rcases bd x hx with h9 | h9
  ·simp at h9;omega
  ·omega
 have cE:Chg [b] w w3:=(cJ.out.mono (by simp)).trans b3 (fun x hx=>by simp at hx;rcases hx with hx | hx;left;simp [hx];right;have:=aj.out;omega)
 have bK:(bitsOf N1 10).length=10:=bitsOf_len _ _
 clear aC bY cD aw c1 c2 b3 bd cU
 go_wp2_with fail
 go_loopg [7,8] N (fun j vl va wr=>∃ (i p':Nat) (FS S G:List Nat),i<=N/\N<=i+j/\Own wr 3 vl G ((lens.take i).map i64)/\IsRd wr b F ds p'/\Hid (Ahead ds p' (bodyFrom lens i))/\Hid (p'+(bodyFrom lens i).length=p+T.length)/\IsWr wr (bx+1) FS S/\Hid (S++bodyFrom lens i=T)/\Blk wr bx 123 #[.pointer (some ⟨b,0,none⟩)]/\Hid (∀ x∈FS,bx<x)/\Hid (∀ x∈G,bx<x/\x∉FS)/\Hid (Chg [b] w wr))
 case atStart=>exact ⟨0,p+10,cg,bitsOf N1 10,[],by omega,by omega,Own.nil _ _,cz,HA,hid (by rw [cp.out,zC,bitsOf_len];omega),aO,hid cp.out.symm,a8,hid bl,hid (by simp),hid cE⟩
 case round =>
  clear cz aO a8 bl cE bK
  obtain ⟨i,p',FS,S,G,de,c8,ac,ax,cw,HP,aK,HS,aG,aP,HG,bD⟩:=hrel
  have cx:=aG.cell 0
  simp at cx
  have aJ:(lens.take i).length=i:=by rw [zI,<-HN.out];omega
  obtain ⟨kd,b2⟩:=zX (lens.take i)
  rw [<-b2] at ac aJ
  have b9:=hid b2
  clear b2
  obtain ⟨Al,cl,rfl,bG,cZ,ae⟩:=ac.open_map
  rw [aJ] at bG ⊢
  have ad:=ac
  rw [aJ] at ad
  by_cases hi:N<=i
  ·obtain rfl:N=i:=by omega
   have t1:decide (N<N)=false:=by simp
   have e0:bodyFrom lens N=[]:=by rw [HN.out];exact bodyFrom_end lens
   have hp:=HP.out
   rw [e0,List.length_nil] at hp
   have ci:=HS.out
   rw [e0,List.append_nil] at ci
   subst ci
   have bs:kd=lens:=by rw [b9.out,HN.out,zN]
   have c9:=hid bs
   have t2:((N:Int) != (N:Int))=false:=by simp
   have ah:Cells i64 wr Al lens:=by rw [<-bs];exact ae
   have aq:=ac
   rw [bs,<-HN.out] at aq
   obtain ⟨ab,bH⟩:=zX (wr.heap.size)
   obtain ⟨w8,bu⟩:=zX (wr.alloc (.cells #[.slice none 0 0,.int .i64 0] 102))
   have aZ:Chg [] wr w8:=by rw [bu];exact (zR [] wr).alloc _
   have ce:IsWr w8 ab [ab] []:=by rw [bu,bH];exact IsWr.new wr
   have b5:=aK.lt
   have aX:=ac.lt
   have bj:Apt Al lens [ab]:=ac.apt (fun x hx hm=>by simp at hm;have:=aX x hx;omega)
   have bM:=putTable_ok w8 ab [ab] [] lens Al cl ce HF.out (ah.same aZ) bj (by simp)
   rw [List.nil_append,<-HT.out,<-HN.out] at bM
   have el:=err_ok wr b F ds p' ax
   have bg:=hid bH
   have c5:=hid bu
   have bn:=ax.same aZ
   have a2:=aK.same aZ
   have aD:=aq.same aZ
   have be:=bD.out.trans aZ (by simp)
   have b0:=ax.lt
   have cQ:=hid hp
   clear e0 bs ah ae ac ad aq bH bu ce bj hp aG aK
   go_wp2_with (go_at_call 84;refine el.mono ?_;rintro e w' ⟨rfl,rfl⟩)
   rw [<-bg.out,<-c5.out]
   refine bM.mono ?_
   rintro e w9 ⟨rfl,F9,aR,bo⟩
   have bI:=a2.chg bo.chg (fun x hx hm=>by simp at hm;have:=b5 x hx;have:=bg.out;omega)
   have a1:=bn.chg bo.chg (fun x hx hm=>by simp at hm;have:=b0 x hx;have:=bg.out;omega)
   have aH:=aD.chg bo.chg (fun x hx hm=>by simp at hm;have:=aX x hx;have:=bg.out;omega)
   have a9:=be.trans bo.chg (fun x hx => .inr (by simp at hx;have:=bg.out;have:=bD.out.size;omega))
   have b7:=wlen_any w9 ab F9 S aR
   have b1:=wlen_any w9 (bx+1) FS S bI
   have a0:=wbytes_ok w9 ab F9 S aR (by omega)
   have bm:=fun wz hz=>wbytes_ok wz (bx+1) FS S (bI.same hz:IsWr wz (bx+1) FS S) (by omega)
   obtain ⟨sl,cf⟩:=zX (S.length)
   rw [<-cf] at b7 b1
   have t3:((sl:Int) != (sl:Int))=false:=by simp
   have cI:=hid bm
   clear bM bn a2 aD be aR bI bo bm cf
   go_wp2_with fail
   refine b7.mono ?_
   rintro e w' ⟨rfl,rfl⟩
   go_wp2_with fail
   refine b1.mono ?_
   rintro e w' ⟨rfl,rfl⟩
   clear b7 b1
   go_wp2_with fail
   refine a0.mono ?_
   rintro e cX ⟨dh,da,rfl,aB,ap,bZ⟩
   obtain ⟨cG,cY,rfl,_,_,a4⟩:=aB.open_map
   clear a0
   go_wp2_with fail
   refine (cI.out cX ap).mono ?_
   rintro e c0 ⟨db,dg,rfl,aE,au,bT⟩
   obtain ⟨cO,c7,rfl,_,_,bf⟩:=aE.open_map
   have bX:∀ {wz:World} {A:Option Addr},Cells b8 wz A (packed S)->Lib.BytesIn wz A (packed S).length ((packed S).map Int.ofNat):=by
    intro wz A hc hn
    obtain ⟨g,o,e1,_,a3⟩:=hc.ex hn
    refine ⟨g,o,e1,fun i hi => ?_⟩
    rw [a3 i _ (zF hi)]
    have e:((packed S).map Int.ofNat).getD i 0=((packed S)[i]:Nat):=by
     rw [zD,zW,zF hi]
     rfl
    rw [e]
    rfl
   have cd:=Tryz.bytes_Equal_all cG cO (packed S).length cY (packed S).length c7 ((packed S).map Int.ofNat) ((packed S).map Int.ofNat) c0 (by simp) (by simp) (bX (a4.same au)) (bX bf)
   have et:(Lib.bytesOf ((packed S).map Int.ofNat)==Lib.bytesOf ((packed S).map Int.ofNat))=true:=by simp
   rw [et] at cd
   have bb:=(a1.same ap).same au
   have aL:=(aH.same ap).same au
   have bq:=(a9.trans ap (by simp)).trans au (by simp)
   clear aB aE a4 bf bX et ap au bZ bT a1 aH a9
   go_wp2_with fail
   refine cd.mono ?_
   rintro e w' ⟨rfl,rfl⟩
   go_wp2
   go_ret2
   exact ⟨_,G,rfl,by rw [HN.out] at *; exact aL,bb.cast cQ.out,bq,fun x hx=>by have:=(HG.out x hx).1;have:=aj.out;omega⟩
  ·rcases gk with _ | j
   ·exfalso;omega
   have cr:i<N:=by omega
   have aW:i<lens.length:=by rw [<-HN.out];exact cr
   have t1:decide (i<N)=true:=zB cr
   have di:decide ((i:Int)<(N:Int))=true:=zB (by omega)
   have dk:S.length<=20000:=by
    have:=congrArg List.length HS.out
    rw [zC] at this
    omega
   have aI:∀ x∈F,x∉FS:=fun x hx hm=>by have:=bz.out x hx;have:=aP.out x hm;have:=aj.out;omega
   by_cases hz:zr 66 (lens.drop i)<3
   ·have ay:=bodyFrom_one aW hz
    have az:=cw.out
    rw [ay] at az
    have cL:lenAt lens i<=24:=by
     unfold lenAt
     rw [zD,zF aW]
     exact cM.out _ (zG _)
    have af:=take_snoc' lens aW
    have cm:lens[i]=lenAt lens i:=by unfold lenAt;rw [zD,zF aW];rfl
    rw [cm] at af
    generalize lenAt lens i=v at *
    have ba:=seen_ok wr b F ds p' 5 v bx (bx+1) FS S ax (by omega) (by omega) az.left aK (by omega) cx (by omega) aI
    have bL:=hid az.right
    have bp:=hid ay
    have bQ:=hid af
    have t2:((v:Int) != 31)=true:=by rw [bne_iff_ne];omega
    have b6:=aG.lt
    have bc:=(err_ok wr b F ds p' ax)
    clear az ay af cm ax aK
    go_wp2_with (go_at_call 84;refine bc.mono ?_;rintro e w' ⟨rfl,rfl⟩)
    refine ba.mono ?_
    rintro e w4 ⟨rfl,bv,FS4,ar,ao,aQ⟩
    have aa:=ac.lt
    have ak:=ad.chg ao (fun x hx hm=>by
     rcases zJ.1 hm with hm | hm
     ·have:=(HG.out x hx).1;omega
     ·exact (HG.out x hx).2 hm)
    have aM:=aG.chg ao (fun hm=>by
     rcases zJ.1 hm with hm | hm
     ·omega
     ·have:=aP.out _ hm;omega)
    have bC:=aM.cell 0
    simp at bC
    have cP:=ao.size
    have an:∀ x∈FS4,bx<x:=fun x hx=>by
     rcases aQ x hx with h9 | h9
     ·exact aP.out x h9
     ·omega
    have bh:∀ x∈G,bx<x/\x∉FS4:=fun x hx=>⟨(HG.out x hx).1,fun hm=>by
     rcases aQ x hm with h9 | h9
     ·exact (HG.out x hx).2 h9
     ·have:=aa x hx;omega⟩
    have a6:Chg [b] w w4:=bD.out.trans ao (fun x hx=>by
     rcases zJ.1 hx with hx | hx
     ·left;simp [hx]
     ·right;have:=aP.out x hx;have:=aj.out;omega)
    have bP:=hid aa
    have ai:=hid an
    have av:=hid bh
    have bR:=hid a6
    have al:Chg [] w4 (w4.alloc (.cells #[.int .i64 v] 3)):=(zR [] w4).alloc _
    have bF:=ak.same al
    clear ac ad ae aG aQ aa an bh a6 ao ba bc ak
    go_wp2_with (at_builtin;refine wpList_append_o1 rfl rfl int_elem rfl rfl bF (.int .i64 v) rfl ?c1 ?c2 ?c3 ?c4 ?_)
    case c1=>simp [go_sem]
    case c2=>rfl
    case c3=>rw [zE,aJ];omega
    case c4=>rw [zE,aJ];omega
    intro g2 cW w5 cy am
    obtain ⟨G5,cb⟩:=zX ([g2])
    have ag:=cy.toOwn
    rw [<-cb] at am ag
    clear cy cb
    have bN:=ar.lt
    go_wp2_with fail
    go_roundg j
    case measure=>omega
    case rel =>
     refine ⟨i+1,p'+5,FS4,S++bitsOf v 5,G5,by omega,by omega,?_,(bv.same al).chg am.chg (fun x hx hm=>by have:=bz.out x hx;have:=(av.out x hm).1;have:=aj.out;omega),bL,hid ?_,(ar.same al).chg am.chg (fun x hx hm=>(av.out x hm).2 hx),hid ?_,(aM.chg al (by simp)).chg am.chg (fun hm=>by have:=(av.out _ hm).1;omega),ai,hid ?_,hid ?_⟩
     ·rw [bQ.out,<-b9.out,zM]
      exact ag
     ·have:=HP.out
      rw [bp.out] at this
      simp only [zC,bitsOf_len] at this
      omega
     ·rw [<-HS.out,bp.out]
      simp only [zH]
     ·intro x hx
      rcases am.new x hx with h9 | h9
      ·exact av.out x h9
      ·have:=al.size
       exact ⟨by omega,fun hm=>by have:=bN x hm;omega⟩
     ·exact (bR.out.trans al (by simp)).trans am.chg (fun x hx => .inr (by have:=(av.out x hx).1;have:=aj.out;omega))
   ·have ay:=bodyFrom_many aW hz
    have cj:=zr_len 66 (lens.drop i)
    have cK:=zr_le 66 (lens.drop i)
    have af:=take_zeros lens i
    rw [zO,<-HN.out] at cj
    obtain ⟨z,cs⟩:=zX (zr 66 (lens.drop i))
    rw [<-cs] at ay hz cj cK af
    obtain ⟨z0,co⟩:=zX (z-3)
    have ez:(z0:Int)+3=(z:Int):=by omega
    rw [<-co] at ay
    have az:=cw.out
    rw [ay] at az
    have ba:=seen_ok wr b F ds p' 5 31 bx (bx+1) FS S ax (by omega) (by omega) az.left aK (by omega) cx (by omega) aI
    have bU:=az.right
    rw [bitsOf_len] at bU
    have cq:=hid bU
    have bp:=hid ay
    have bQ:=hid af
    have t2:(((31:Nat):Int) != 31)=false:=rfl
    have b6:=aG.lt
    have bc:=(err_ok wr b F ds p' ax)
    clear az bU ay af ax aK cs co
    go_wp2_with (go_at_call 84;refine bc.mono ?_;rintro e w' ⟨rfl,rfl⟩)
    refine ba.mono ?_
    rintro e w4 ⟨rfl,bv,FS4,ar,ao,aQ⟩
    have aa:=ac.lt
    have ak:=ad.chg ao (fun x hx hm=>by
     rcases zJ.1 hm with hm | hm
     ·have:=(HG.out x hx).1;omega
     ·exact (HG.out x hx).2 hm)
    have aM:=aG.chg ao (fun hm=>by
     rcases zJ.1 hm with hm | hm
     ·omega
     ·have:=aP.out _ hm;omega)
    have bC:=aM.cell 0
    simp at bC
    have cP:=ao.size
    have an:∀ x∈FS4,bx<x:=fun x hx=>by
     rcases aQ x hx with h9 | h9
     ·exact aP.out x h9
     ·omega
    have bh:∀ x∈G,bx<x/\x∉FS4:=fun x hx=>⟨(HG.out x hx).1,fun hm=>by
     rcases aQ x hm with h9 | h9
     ·exact (HG.out x hx).2 h9
     ·have:=aa x hx;omega⟩
    have a6:Chg [b] w w4:=bD.out.trans ao (fun x hx=>by
     rcases zJ.1 hx with hx | hx
     ·left;simp [hx]
     ·right;have:=aP.out x hx;have:=aj.out;omega)
    have bP:=hid aa
    have ai:=hid an
    have av:=hid bh
    have bR:=hid a6
    have aF:∀ x∈F,x∉FS4:=fun x hx hm=>by have:=bz.out x hx;have:=ai.out x hm;have:=aj.out;omega
    have aY:=seen_ok w4 b F ds (p'+5) 6 z0 bx (bx+1) FS4 (S++bitsOf 31 5) bv (by omega) (by omega) cq.out.left ar (by rw [zC,bitsOf_len];omega) bC (by omega) aF
    have bL:=hid cq.out.right
    have aA:=hid ak
    have ca:=hid aM
    have cC:=aM.lt
    have cv:Hid (∀ x∈G,x<w4.heap.size):=hid ak.lt
    clear ac ad ae aG aQ aa an bh a6 ao ba bc ak aM bv ar aI aF
    go_wp2_with fail
    refine aY.mono ?_
    rintro e w6 ⟨rfl,cH,FS6,a5,aV,bS⟩
    have aa:=aA.out.lt
    have bk:=aA.out.chg aV (fun x hx hm=>by
     rcases zJ.1 hm with hm | hm
     ·have:=(av.out x hx).1;omega
     ·exact (av.out x hx).2 hm)
    have cB:=ca.out.chg aV (fun hm=>by
     rcases zJ.1 hm with hm | hm
     ·omega
     ·have:=ai.out _ hm;omega)
    have c6:=cB.cell 0
    simp at c6
    have df:=aV.size
    have a7:∀ x∈FS6,bx<x:=fun x hx=>by
     rcases bS x hx with h9 | h9
     ·exact ai.out x h9
     ·omega
    have ck:∀ x∈G,bx<x/\x∉FS6:=fun x hx=>⟨(av.out x hx).1,fun hm=>by
     rcases bS x hm with h9 | h9
     ·exact (av.out x hx).2 h9
     ·have:=aa x hx;omega⟩
    have cu:Chg [b] w w6:=bR.out.trans aV (fun x hx=>by
     rcases zJ.1 hx with hx | hx
     ·left;simp [hx]
     ·right;have:=ai.out x hx;have:=aj.out;omega)
    have cn:=hid aa
    have bW:=hid a7
    have bi:=hid ck
    have cV:=hid cu
    have al:Chg [] w6 w6:=zR _ _
    have ct:=hid bk
    clear bS aa a7 ck cu aV aY
    go_wp2_with (at_builtin;refine wpList_append_zeros rfl rfl int_elem rfl rfl Tryz.underlying3 rfl bk z rfl ?c1 ?c2 ?c3 ?_)
    case c1=>omega
    case c2=>rw [zE,aJ];omega
    case c3=>rw [zE,aJ];omega
    intro v5 G5 w5 ag am
    have b4:=a5.lt
    go_wp2_with fail
    go_roundg j
    case measure=>omega
    case rel =>
     refine ⟨i+z,p'+5+6,FS6,S++bitsOf 31 5++bitsOf z0 6,G5,by omega,by omega,?_,(cH.same al).chg am.chg (fun x hx hm=>by have:=bz.out x hx;have:=(bi.out x hm).1;have:=aj.out;omega),bL,hid ?_,(a5.same al).chg am.chg (fun x hx hm=>(bi.out x hm).2 hx),hid ?_,(cB.chg al (by simp)).chg am.chg (fun hm=>by have:=(bi.out _ hm).1;omega),bW,hid ?_,hid ?_⟩
     ·rw [bQ.out,<-b9.out,zM]
      have:=ag
      simpa [i64] using this
     ·have:=HP.out
      rw [bp.out] at this
      simp only [zC,bitsOf_len] at this
      omega
     ·rw [<-HS.out,bp.out]
      simp only [zH]
     ·intro x hx
      rcases am.new x hx with h9 | h9
      ·exact bi.out x h9
      ·have:=al.size
       exact ⟨by omega,fun hm=>by have:=b4 x hm;omega⟩
     ·exact (cV.out.trans al (by simp)).trans am.chg (fun x hx => .inr (by have:=(bi.out x hx).1;have:=aj.out;omega))
structure IsTab3 (w:World) (tb:Nat) (lens:List Nat) (kl kf ks:Nat) (C:Array Value) (vs:Nat->Value) (Fs:Nat->List Nat):Prop where
 blk:Blk w tb 308 C
 size:C.size=51
 long:C[0]?=some (.int .i64 (longTo lens kl:Nat))
 first:∀ n,n<25->C[1+n]?=some (.int .u64 (firstTo lens kf n:Nat))
 syms:∀ n,n<25->C[26+n]?=some (vs n)
 own:∀ n,n<25->Own w 3 (vs n) (Fs n) ((symsTo lens ks n).map i64)
 new:∀ n,∀ x∈Fs n,tb<x
 apart:∀ n m,n<25->m<25->n≠m->∀ x∈Fs n,x∉Fs m
abbrev IsTab (w:World) (tb:Nat) (lens:List Nat) (k:Nat) (C:Array Value) (vs:Nat->Value) (Fs:Nat->List Nat):Prop:=IsTab3 w tb lens k k k C vs Fs
variable {w:World} {tb:Nat} {lens:List Nat} {kl kf ks:Nat} {C:Array Value} {vs:Nat->Value} {Fs:Nat->List Nat}
theorem IsTab3.same (h:IsTab3 w tb lens kl kf ks C vs Fs) {w':World} (hc:Chg [] w w'):IsTab3 w' tb lens kl kf ks C vs Fs :=
 { h with blk:=h.blk.chg hc (by simp),own:=fun n hn=>(h.own n hn).same hc }
theorem IsTab3.chg (h:IsTab3 w tb lens kl kf ks C vs Fs) {w':World} {G:List Nat} (hc:Chg G w w') (hG:∀ x∈G,x<tb):IsTab3 w' tb lens kl kf ks C vs Fs :=
 { h with blk:=h.blk.chg hc (fun hm=>by have:=hG tb hm;omega),own:=fun n hn=>(h.own n hn).chg hc fun x hx hm=>by have:=h.new n x hx;have:=hG x hm;omega }
theorem IsTab3.first_new (h:IsTab3 w tb lens kl ks ks C vs Fs) {n:Nat} (hn:n<25) {wd:Nat}
  (hs:firstTo lens (ks+1) n=wd) (ho:∀ m,n≠m->firstTo lens (ks+1) m=firstTo lens ks m) :
  IsTab3 (w.setCell ⟨tb,1+n,none⟩ (.int .u64 wd)) tb lens kl (ks+1) ks (C.setIfInBounds (1+n) (.int .u64 wd)) vs Fs where
 blk:=h.blk.set_ _ _
 size:=by rw [Array.size_setIfInBounds];exact h.size
 long:=by rw [Array.getElem?_setIfInBounds,if_neg (by omega)];exact h.long
 first m hm:=by
  by_cases e:n=m
  ·subst e
   rw [Array.getElem?_setIfInBounds,if_pos rfl,if_pos (by rw [h.size];omega),hs]
  ·rw [Array.getElem?_setIfInBounds,if_neg (by omega),ho m e];exact h.first m hm
 syms m hm:=by rw [Array.getElem?_setIfInBounds,if_neg (by omega)];exact h.syms m hm
 own m hm:=(h.own m hm).far (fun hx=>by have:=h.new m _ hx;simp at this) _
 new:=h.new
 apart:=h.apart
theorem IsTab3.first_old (h:IsTab3 w tb lens kl ks ks C vs Fs) (ho:∀ m,firstTo lens (ks+1) m=firstTo lens ks m) :
  IsTab3 w tb lens kl (ks+1) ks C vs Fs:={ h with first:=fun m hm=>by rw [ho];exact h.first m hm }
theorem IsTab3.long_new (h:IsTab3 w tb lens kl kf ks C vs Fs) {n k:Nat} (hs:longTo lens k=n) :
  IsTab3 (w.setCell ⟨tb,0,none⟩ (.int .i64 n)) tb lens k kf ks (C.setIfInBounds 0 (.int .i64 n)) vs Fs where
 blk:=h.blk.set_ _ _
 size:=by rw [Array.size_setIfInBounds];exact h.size
 long:=by rw [Array.getElem?_setIfInBounds,if_pos rfl,if_pos (by rw [h.size];omega),hs]
 first m hm:=by rw [Array.getElem?_setIfInBounds,if_neg (by omega)];exact h.first m hm
 syms m hm:=by rw [Array.getElem?_setIfInBounds,if_neg (by omega)];exact h.syms m hm
 own m hm:=(h.own m hm).far (fun hx=>by have:=h.new m _ hx;simp at this) _
 new:=h.new
 apart:=h.apart
theorem IsTab3.syms_new (h:IsTab3 w tb lens kl kf ks C vs Fs) {n:Nat} (hn:n<25) {w':World} {g:Nat} {v:Value} {s:Nat}
  (hg:Grow (Fs n) [g] w w') (ht:tb<w.heap.size) (hr:Own w' 3 v [g] ((symsTo lens ks n).map i64++[i64 s]))
  (hs:symsTo lens (ks+1) n=symsTo lens ks n++[s]) (ho:∀ m,n≠m->symsTo lens (ks+1) m=symsTo lens ks m) :
  IsTab3 (w'.setCell ⟨tb,26+n,none⟩ v) tb lens kl kf (ks+1) (C.setIfInBounds (26+n) v) (fun m=>if m=n then v else vs m) (fun m=>if m=n then [g] else Fs m):=by
 have ab:tb∉Fs n:=fun hm=>by have:=h.new n _ hm;omega
 have ac:tb<g:=by
  rcases hg.new g (by simp) with h1 | h1
  ·exact h.new n _ h1
  ·omega
 have aa:∀ m,m<25->m≠n->∀ x∈Fs m,x≠g:=fun m hm hmn x hx he=>by
  subst he
  rcases hg.new x (by simp) with h1 | h1
  ·exact h.apart m n hm hn hmn x hx h1
  ·have:=(h.own m hm).lt x hx;omega
 refine ⟨(h.blk.chg hg.chg ab).set_ _ _,by rw [Array.size_setIfInBounds];exact h.size,by rw [Array.getElem?_setIfInBounds,if_neg (by omega)];exact h.long,fun m hm=>by rw [Array.getElem?_setIfInBounds,if_neg (by omega)];exact h.first m hm,fun m hm => ?_,fun m hm => ?_,fun m x hx => ?_,fun a b ha hb hab x hx hx' => ?_⟩
 ·rw [Array.getElem?_setIfInBounds]
  by_cases e:m=n
  ·subst e;rw [if_pos rfl,if_pos (by rw [h.size];omega),if_pos rfl]
  ·rw [if_neg (by omega),if_neg e];exact h.syms m hm
 ·by_cases e:m=n
  ·subst e
   simp only [if_pos rfl]
   rw [hs,zM]
   exact hr.far (by simp;omega) _
  ·simp only [if_neg e]
   rw [ho m (fun hh=>e hh.symm)]
   refine ((h.own m hm).chg hg.chg fun x hx hm'=>h.apart m n hm hn e x hx hm').far (fun hx=>by have:=h.new m _ hx;simp at this) _
 ·by_cases e:m=n
  ·rw [if_pos e] at hx;simp at hx;omega
  ·rw [if_neg e] at hx;exact h.new m x hx
 ·by_cases e:a=n
  ·rw [if_pos e] at hx
   rw [if_neg (fun hh=>hab (e.trans hh.symm))] at hx'
   simp at hx
   exact aa b hb (fun hh=>hab (e.trans hh.symm)) x hx' hx
  ·rw [if_neg e] at hx
   by_cases e2:b=n
   ·rw [if_pos e2] at hx'
    simp at hx'
    exact aa a ha e x hx hx'
   ·rw [if_neg e2] at hx'
    exact h.apart a b ha hb hab x hx hx'
def tab0:Array Value:=#[.int .i64 0,.int .u64 0,.int .u64 0,.int .u64 0,.int .u64 0,.int .u64 0,.int .u64 0,.int .u64 0,.int .u64 0,.int .u64 0,.int .u64 0,.int .u64 0,.int .u64 0,.int .u64 0,.int .u64 0,.int .u64 0,.int .u64 0,.int .u64 0,.int .u64 0,.int .u64 0,.int .u64 0,.int .u64 0,.int .u64 0,.int .u64 0,.int .u64 0,.int .u64 0,.slice none 0 0,.slice none 0 0,.slice none 0 0,.slice none 0 0,.slice none 0 0,.slice none 0 0,.slice none 0 0,.slice none 0 0,.slice none 0 0,.slice none 0 0,.slice none 0 0,.slice none 0 0,.slice none 0 0,.slice none 0 0,.slice none 0 0,.slice none 0 0,.slice none 0 0,.slice none 0 0,.slice none 0 0,.slice none 0 0,.slice none 0 0,.slice none 0 0,.slice none 0 0,.slice none 0 0,.slice none 0 0]
theorem tab0_eq:tab0=(Value.int .i64 0::(List.replicate 25 (Value.int .u64 0)++List.replicate 25 (Value.slice none 0 0))).toArray:=rfl
theorem tab_new (w:World) (lens:List Nat):IsTab (w.alloc (.cells tab0 308)) w.heap.size lens 0 tab0 (fun _ => .slice none 0 0) (fun _=>[]):=by
 refine ⟨Blk.new w _ _,rfl,rfl,fun n hn => ?_,fun n hn => ?_,fun n _ => ?_,fun _ x hx=>by simp at hx,fun _ _ _ _ _ x hx=>by simp at hx⟩
 ·have e:firstTo lens 0 n=0:=by simp [firstTo,symsTo]
  rw [e,tab0_eq,List.getElem?_toArray,Nat.add_comm,List.getElem?_cons_succ,List.getElem?_append_left (by simpa using hn),List.getElem?_replicate,if_pos hn]
  rfl
 ·rw [tab0_eq,List.getElem?_toArray,show 26+n=(25+n)+1 by omega,List.getElem?_cons_succ,zS (by simp),zV,show 25+n-25=n by omega,List.getElem?_replicate,if_pos hn]
 ·have e:symsTo lens 0 n=[]:=by simp [symsTo]
  rw [e]
  exact Own.nil _ _
theorem list_ok (lens : List Nat) (A B : Option Addr) (ca cb : Nat) (w : World) (hf : FullL lens) (hA : Cells i64 w A lens) (hB : Cells u64v w B (wordsL lens)) (hBl : (wordsL lens).length = lens.length) :
    Calls Tryz.prog 256 #[.slice A lens.length ca,.slice B (wordsL lens).length cb] w fun e w'=>∃ tb C vs Fs,e=.returned (.pointer (some ⟨tb,0,none⟩))/\IsTab w' tb lens (rankL lens).length C vs Fs/\Chg [] w w'/\w.heap.size<=tb:=by
  have bb:=fun wz hc=>ranked_ok lens A ca wz hf.n2 hc
  have bg:=rank_len lens 24
  have aM:(rankL lens).length<=lens.length:=bg
  have bE:=hf.n2
  rw [hBl]
  obtain ⟨N,hN⟩:=zX (lens.length)
  rw [<-hN] at bb aM bE hBl ⊢
  obtain ⟨M,hM⟩:=zX ((rankL lens).length)
  rw [<-hM] at aM ⊢
  have HN:=hid hN
  have HM:=hid hM
  have a3:=hid hBl
  have HA:=hid hA
  have HB:=hid hB
  have a4:=hid bb
  have HF:=hid hf
  clear hN hM hBl hA hB bb bg hf
  go_enter Tryz.func256,Tryz.ntmps256
  go_wp2_with fail
  obtain ⟨tb,a8⟩:=zX (w.heap.size)
  obtain ⟨w1,ay⟩:=zX (w.alloc (.cells tab0 308))
  have ac:IsTab w1 tb lens 0 tab0 (fun _ => .slice none 0 0) (fun _=>[]):=by rw [ay,a8];exact tab_new w lens
  have aE:Chg [] w w1:=by rw [ay];exact (zR [] w).alloc _
  have aF:=hid a8
  have bJ:=hid ay
  have aU:Hid (w1=w.alloc (.cells #[.int .i64 0,.int .u64 0,.int .u64 0,.int .u64 0,.int .u64 0,.int .u64 0,.int .u64 0,.int .u64 0,.int .u64 0,.int .u64 0,.int .u64 0,.int .u64 0,.int .u64 0,.int .u64 0,.int .u64 0,.int .u64 0,.int .u64 0,.int .u64 0,.int .u64 0,.int .u64 0,.int .u64 0,.int .u64 0,.int .u64 0,.int .u64 0,.int .u64 0,.int .u64 0,.slice none 0 0,.slice none 0 0,.slice none 0 0,.slice none 0 0,.slice none 0 0,.slice none 0 0,.slice none 0 0,.slice none 0 0,.slice none 0 0,.slice none 0 0,.slice none 0 0,.slice none 0 0,.slice none 0 0,.slice none 0 0,.slice none 0 0,.slice none 0 0,.slice none 0 0,.slice none 0 0,.slice none 0 0,.slice none 0 0,.slice none 0 0,.slice none 0 0,.slice none 0 0,.slice none 0 0,.slice none 0 0] 308)):=hid ay
  clear ay a8
  rw [<-aF.out,<-aU.out]
  refine (a4.out w1 (HA.out.same aE)).mono ?_
  rintro e w2 ⟨v2,F2,rfl,ar,ax,bk⟩
  obtain ⟨Ar,cr,rfl,a5,a7,bf⟩:=ar.open_map
  rw [<-HM.out]
  have ba:=ac.blk.lt
  have bn:=(HA.out.same aE).same ax
  have bu:=(HB.out.same aE).same ax
  have bo:IsTab w2 tb lens 0 tab0 (fun _ => .slice none 0 0) (fun _=>[]):=ac.same ax
  have a2:=hid (aE.trans_same ax)
  have aA:Apt A lens [tb]:=Apt.fresh HA.out (F:=[tb]) (by simp;exact Nat.le_of_eq aF.out.symm)
  have aC:Apt B (wordsL lens) [tb]:=Apt.fresh HB.out (F:=[tb]) (by simp;exact Nat.le_of_eq aF.out.symm)
  have aJ:Apt Ar (rankL lens) [tb]:=ar.apt (fun x hx hm=>by have:=bk x hx;simp at hm;omega)
  have aG:=hid (And.intro aA (And.intro aC aJ))
  have a0:=hid bn
  have aV:=hid bu
  have a1:=hid bf
  have bC:tb<w2.heap.size:=by have:=ax.size;omega
  clear ba ac aE ax ar bk a5 a7 bn bu bf aA aC aJ
  go_wp2_with fail
  go_loopg [7,8,14] M (fun j va vb iv wr=>∃ (k:Nat) (C:Array Value) (vs:Nat->Value) (Fs:Nat->List Nat),iv=.int .i64 k/\k+j=M/\Hid (IsTab wr tb lens k C vs Fs)/\Hid (Chg [tb] w2 wr)/\Hid (∀ n,∀ x∈Fs n,w2.heap.size<=x))
  case atStart=>exact ⟨0,tab0,_,_,rfl,by omega,hid bo,hid (zR _ _),hid (by simp)⟩
  case round =>
    clear bo
    obtain ⟨k,C,vs,Fs,rfl,bI,HT,aL,aw⟩:=hrel
    rcases gk with _ | j
    · obtain rfl:M=k:=by omega
      have u1:decide (M<M)=false:=by simp
      have bF:decide ((M:Int)<(M:Int))=false:=by simp
      go_wp2_with fail
      go_ret
      exact ⟨tb,C,vs,Fs,rfl,HT.out,a2.out.trans aL.out (fun x hx => .inr (by simp at hx;have:=aF.out;omega)),by have:=aF.out;omega⟩
    · have bl:k<M:=by omega
      have ak:k<(rankL lens).length:=by rw [<-HM.out];exact bl
      have u1:decide (k<M)=true:=zB bl
      have bF:decide ((k:Int)<(M:Int))=true:=zB (by omega)
      obtain ⟨bs,aB,aI⟩:=rank_lenAt ak
      have az:(rankL lens)[k]=(rankL lens).getD k 0:=by rw [zD,zF ak];rfl
      have bx:=fun n=>symsTo_succ ak n
      have aR:=fun n hn=>symsTo_other (n:=n) ak hn
      have ah:=symsTo_same ak rfl
      have al:=fun n hn=>firstTo_other (n:=n) ak hn
      have aj:=fun he=>firstTo_new ak rfl he
      have aa:=fun he=>firstTo_old ak rfl he
      have ai:longTo lens (k+1)=lenAt lens ((rankL lens).getD k 0):=rfl
      obtain ⟨gr,bA,rfl,aP⟩:=(a1.out.keep aG.out.2.2 aL.out).at_ ak
      rw [az] at aP
      obtain ⟨s,hs⟩:=zX ((rankL lens).getD k 0)
      rw [<-hs] at bs aB aI aR ah al aj aa ai aP
      obtain ⟨n,hn⟩:=zX (lenAt lens s)
      rw [<-hn] at bs aB aR ah al aj aa ai
      obtain ⟨ga,oa,rfl,a6⟩:=(a0.out.keep aG.out.1 aL.out).at_ aI
      have bv:lens[s]=n:=by rw [hn];unfold lenAt;rw [zD,zF aI];rfl
      rw [bv] at a6
      have aY:s<(wordsL lens).length:=by rw [a3.out,HN.out];exact aI
      obtain ⟨gw,ow,rfl,aS⟩:=(aV.out.keep aG.out.2.1 aL.out).at_ aY
      have bw:(wordsL lens)[s]=wordOf lens s:=by unfold wordOf;rw [zD,zF aY];rfl
      rw [bw] at aS
      obtain ⟨wd,bj⟩:=zX (wordOf lens s)
      rw [<-bj] at aS aj
      have d1:wr.cell? ⟨gr,bA+k,none⟩=some (.int .i64 s):=aP
      have d2:wr.cell? ⟨ga,oa+s,none⟩=some (.int .i64 n):=a6
      have d3:wr.cell? ⟨gw,ow+s,none⟩=some (.int .u64 wd):=aS
      have ab:n<25:=by omega
      have af:=HT.out.blk
      have d4:wr.cell? ⟨tb,26+n,none⟩=some (vs n):=by rw [af.cell];exact HT.out.syms n ab
      have av:=HT.out.own n ab
      have aO:=symsTo_len lens k n
      have bh:=HN.out
      obtain ⟨Av,cv,aT,au,aD,aW⟩:=av.open_map
      obtain ⟨q,hq⟩:=zX ((symsTo lens k n).length)
      rw [<-hq] at aT au aO
      have bG:q<=1024:=by rw [<-bh] at aO;omega
      rw [aT] at d4
      have bD:s<N:=by omega
      have aQ:=hid (And.intro aR (And.intro ah (And.intro al (And.intro aj (And.intro aa ai)))))
      have HQ:=hid hq
      have bi:=hid aT
      have bq:=hid af
      have bH:=hid (And.intro hs hn)
      clear aP a6 aS az bx aR ah al aj aa ai hs hn bv bw bj aY aI ak hq aT aW bh
      have an:=aL.out
      have br:=af.frozen (1+n)
      have bm:=af.frozen (26+n)
      have bp:wr.cell? ⟨tb,1+n,none⟩=some (.int .u64 (firstTo lens k n:Int)):=by rw [af.cell];exact HT.out.first n ab
      by_cases hq0:q=0
      · subst hq0
        go_wp2_with fail
        refine wp_region_quiet_tail 9 (by kernel_rfl) (by kernel_rfl) ?_
        simp only [List.take_succ_cons,List.take_zero,List.drop_succ_cons,List.drop_zero]
        repeat (go_big_quiet_step (fail))
        refine wpQuiet_nil ?_
        intro _ bz
        obtain ⟨nq,rfl⟩:=bz
        go_wp2_with fail
        obtain ⟨ho,ah,al,aj,aa,ai⟩:=aQ.out
        have he:symsTo lens k n=[]:=List.eq_nil_of_length_eq_zero HQ.out.symm
        have ac:=(HT.out.same ((zR [] wr).drewN nq)).first_new ab (aj he) (fun m e=>al m e)
        have aq:Chg [tb] w2 ((wr.drewN nq).setCell ⟨tb,1+n,none⟩ (.int .u64 wd)):=(an.drewN nq).setCell (.inl (by simp)) _
        generalize (wr.drewN nq).setCell ⟨tb,1+n,none⟩ (.int .u64 wd)=wq at ac aq ⊢
        generalize C.setIfInBounds (1+n) (.int .u64 wd)=C1 at ac
        have aK:=bi.out
        have aH:(n:Int)<25:=by omega
        have ae:=ac.own n ab
        rw [aK] at ae
        have ag:=ac.blk
        have ap:=ac.syms n ab
        rw [aK] at ap
        have bB:=ag.lt
        have n0:wq.cell? ⟨tb,26+n,none⟩=some (.slice Av 0 cv):=by rw [ag.cell];exact ap
        have bd:tb∉Fs n:=fun hm=>by have:=ac.new n _ hm;omega
        have n1:(wq.alloc (.cells #[.int .i64 s] 3)).cell? ⟨tb,26+n,none⟩=some (.slice Av 0 cv):=by rw [(ag.alloc _).cell];exact ap
        have ad:(List.map i64 (symsTo lens k n)).length=0:=by rw [zE];exact HQ.out.symm
        clear aO an bp br bm au aD d1 d2 d3 d4 a1 a0 aV HA HB a4 HF a3 aG HT af bq av
        go_region_law (refine step_append_o1 (by rfl) (by rfl) int_elem (by rfl) (by rfl) ((ae.alloc (.cells #[.int .i64 (s : Int)] 3)).drew) (.int .i64 (s : Int)) (by rfl) (by simp [go_sem]) (by rfl) (by rw [ad]; omega) (by rw [ad]; omega) ?_; intro g2 be w3 aN ao; have am := ((ag.alloc (.cells #[.int .i64 (s : Int)] 3)).drew).chg ao.chg bd; have y1 : w3.cell? ⟨tb, 26 + n, none⟩ = some (.slice Av 0 cv) := by rw [am.cell]; exact ap
                       have z1:=am.frozen (26+n);rw [ad])
        all_goals
          have y0:w3.cell? ⟨tb,0,none⟩=some (.int .i64 (longTo lens k:Int)):=by rw [am.cell];exact ac.long
          have z0:=am.frozen 0
          go_wp2_with fail
          rw [ad] at aN
          go_roundg j
          case measure=>omega
          case rel =>
            obtain ⟨ho,ah,al,aj,aa,ai⟩:=aQ.out
            have aZ:tb<(wq.alloc (.cells #[.int .i64 s] 3)).drew.heap.size:=((ag.alloc (.cells #[.int .i64 s] 3)).drew).lt
            have a9:=(((ac.same (((zR [] wq).alloc (.cells #[.int .i64 s] 3)).drew)).syms_new ab ao aZ aN.toOwn ah ho).long_new ai)
            have bc:Chg [tb] w2 w3:=(aq.alloc (.cells #[.int .i64 s] 3)).drew.trans ao.chg (fun x hx => .inr (aw.out n x hx))
            refine ⟨k+1,_,_,_,by go_num,by omega,hid a9,hid ((bc.setCell (.inl (by simp)) _).setCell (.inl (by simp)) _),hid ?_⟩
            intro m x hx
            by_cases e:m=n
            · rw [if_pos e] at hx
              have aX:x=g2:=by simpa using hx
              subst aX
              rcases ao.new x (by simp) with h1 | h1
              · exact aw.out n x h1
              · exact Nat.le_trans ((aq.alloc (.cells #[.int .i64 s] 3)).drew.size) h1
            · rw [if_neg e] at hx
              exact aw.out m x hx
      · have u2:((q:Int)==0)=false:=by rw [beq_eq_false_iff_ne];omega
        go_wp2_with fail
        obtain ⟨ho,ah,al,aj,aa,ai⟩:=aQ.out
        have he:symsTo lens k n≠[]:=fun hh=>hq0 (by rw [HQ.out,hh];rfl)
        have ac:=HT.out.first_old (fun m=>by
          by_cases e:n=m
          · subst e;exact aa he
          · exact al m e)
        have aq:Chg [tb] w2 wr:=an
        generalize wr=wq at ac aq ⊢
        generalize C=C1 at ac
        have aK:=bi.out
        have aH:(n:Int)<25:=by omega
        have ae:=ac.own n ab
        rw [aK] at ae
        have ag:=ac.blk
        have ap:=ac.syms n ab
        rw [aK] at ap
        have bB:=ag.lt
        have n0:wq.cell? ⟨tb,26+n,none⟩=some (.slice Av q cv):=by rw [ag.cell];exact ap
        have bd:tb∉Fs n:=fun hm=>by have:=ac.new n _ hm;omega
        have n1:(wq.alloc (.cells #[.int .i64 s] 3)).cell? ⟨tb,26+n,none⟩=some (.slice Av q cv):=by rw [(ag.alloc _).cell];exact ap
        have ad:(List.map i64 (symsTo lens k n)).length=q:=by rw [zE];exact HQ.out.symm
        clear aO an bp br bm au aD d1 d2 d3 d4 a1 a0 aV HA HB a4 HF a3 aG HT af bq av
        go_region_law (refine step_append_o1 (by rfl) (by rfl) int_elem (by rfl) (by rfl) ((ae.alloc (.cells #[.int .i64 (s : Int)] 3)).drew) (.int .i64 (s : Int)) (by rfl) (by simp [go_sem]) (by rfl) (by rw [ad]; omega) (by rw [ad]; omega) ?_; intro g2 be w3 aN ao; have am := ((ag.alloc (.cells #[.int .i64 (s : Int)] 3)).drew).chg ao.chg bd; have y1 : w3.cell? ⟨tb, 26 + n, none⟩ = some (.slice Av q cv) := by rw [am.cell]; exact ap
                       have z1:=am.frozen (26+n);rw [ad])
        all_goals
          have y0:w3.cell? ⟨tb,0,none⟩=some (.int .i64 (longTo lens k:Int)):=by rw [am.cell];exact ac.long
          have z0:=am.frozen 0
          go_wp2_with fail
          rw [ad] at aN
          go_roundg j
          case measure=>omega
          case rel =>
            obtain ⟨ho,ah,al,aj,aa,ai⟩:=aQ.out
            have aZ:tb<(wq.alloc (.cells #[.int .i64 s] 3)).drew.heap.size:=((ag.alloc (.cells #[.int .i64 s] 3)).drew).lt
            have a9:=(((ac.same (((zR [] wq).alloc (.cells #[.int .i64 s] 3)).drew)).syms_new ab ao aZ aN.toOwn ah ho).long_new ai)
            have bc:Chg [tb] w2 w3:=(aq.alloc (.cells #[.int .i64 s] 3)).drew.trans ao.chg (fun x hx => .inr (aw.out n x hx))
            refine ⟨k+1,_,_,_,by go_num,by omega,hid a9,hid ((bc.setCell (.inl (by simp)) _).setCell (.inl (by simp)) _),hid ?_⟩
            intro m x hx
            by_cases e:m=n
            · rw [if_pos e] at hx
              have aX:x=g2:=by simpa using hx
              subst aX
              rcases ao.new x (by simp) with h1 | h1
              · exact aw.out n x h1
              · exact Nat.le_trans ((aq.alloc (.cells #[.int .i64 s] 3)).drew.size) h1
            · rw [if_neg e] at hx
              exact aw.out m x hx
theorem div_step {W j y:Nat} (h:W / 2^j%2=y):2*(W / 2^(j+1))+y=W / 2^j:=by
 rw [Nat.pow_succ,<-Nat.div_div_eq_div_mul]
 omega
theorem tread_ok (w:World) (b:Nat) (F ds:List Nat) (p:Nat) (lens:List Nat) (s tb:Nat) (C:Array Value) (vs:Nat->Value) (Fs:Nat->List Nat) (h:IsRd w b F ds p) (hf:FullL lens) (hs:0<lenAt lens s)
  (ht:IsTab w tb lens (fullK lens) C vs Fs) (hb:b<tb) (ha:Ahead ds p (symBits lens s)) :
  Calls Tryz.prog 257 #[.pointer (some ⟨tb,0,none⟩),.pointer (some ⟨b,0,none⟩)] w fun e w'=>e=.returned (.tuple #[.int .i64 s,.int .i64 0])/\IsRd w' b F ds (p+lenAt lens s)/\Chg [b] w w':=by
 have av:=hf.le
 have ay:=long_full av hs
 have hW:=wordOf_lt hf hs
 have aa:=fun n h0 hn=>read_pass av (s:=s) (n:=n) hs h0 hn
 have ab:=read_hit av hs
 have az:=ha.le h.at_le
 unfold symBits at ha az
 rw [bitsOf_len] at az
 have a1:=hf.n2
 obtain ⟨L,hL⟩:=zX (lenAt lens s)
 rw [<-hL] at hs ay hW aa ab ha az ⊢
 obtain ⟨W,aO⟩:=zX (wordOf lens s)
 rw [<-aO] at hW aa ab ha
 obtain ⟨K,hK⟩:=zX (fullK lens)
 rw [<-hK] at ay aa ab ht
 obtain ⟨lo,ag⟩:=zX (longTo lens K)
 have aB:L<=24:=by omega
 have aj:W<16777216:=Nat.lt_of_lt_of_le hW (show 2^L<=2^24 from Nat.pow_le_pow_right (by decide) aB)
 have aW:=hid ag
 rw [<-ag] at ay
 have HP:=hid aa
 have HH:=hid ab
 have HA:=hid ha
 have HW:=hid hW
 have HT:=hid ht
 clear av aa ab ha ht hL aO hK ag hf
 go_enter Tryz.func257,Tryz.ntmps257
 go_wp2_with fail
 go_loopg [6,7,8] (L-1) (fun j va vb vc wr=>∃ n:Nat,0<n/\n+j=L/\vb=.int .i64 n/\va=.int .u64 (W / 2^(j+1):Nat)/\IsRd wr b F ds (p+(n-1))/\Hid (Chg [b] w wr))
 case atStart =>
  refine ⟨1,by omega,by omega,rfl,?_,h,hid (zR _ _)⟩
  rw [show L-1+1=L by omega,Nat.div_eq_of_lt HW.out]
  rfl
 case round =>
  obtain ⟨n,aU,aY,rfl,rfl,aN,aS⟩:=hrel
  obtain ⟨j,hj⟩:=zX (gk)
  have ar:=hid (HT.out.chg aS.out (fun x hx=>by simp at hx;omega))
  have d0:wr.cell? ⟨tb,0,none⟩=some (.int .i64 lo):=by rw [ar.out.blk.cell,aW.out];exact ar.out.long
  have u1:decide ((n:Int)<=(lo:Int))=true:=zB (by omega)
  have ac:=rget_ok wr b F ds (p+(n-1)) 1 aN (by omega) (by omega)
  have al:=bitAt_lt ds (p+(n-1))
  have aM:W / 2^gk%2=bitAt ds (p+(n-1)):=by
   have h1:=HA.out.get (bitsOf_get W L (n-1) (by omega))
   rw [show L-1-(n-1)=gk by omega] at h1
   exact h1.symm
  rw [show rdNum ds (p+(n-1)) 1=bitAt ds (p+(n-1)) by simp [rdNum],show p+(n-1)+1=p+n by omega] at ac
  have ak:=div_step aM
  obtain ⟨y,hy⟩:=zX (bitAt ds (p+(n-1)))
  rw [<-hy] at ac al ak
  obtain ⟨v,hv⟩:=zX (W / 2^(gk+1))
  obtain ⟨v1,ax⟩:=zX (W / 2^gk)
  have aX:v<16777216:=by rw [hv];exact Nat.lt_of_le_of_lt (Nat.div_le_self _ _) aj
  have aK:v1<16777216:=by rw [ax];exact Nat.lt_of_le_of_lt (Nat.div_le_self _ _) aj
  rw [<-hv] at ak ⊢
  rw [<-ax] at ak
  have a0:bits BinOp.or IntKind.u64 ((v:Int)*2) (y:Int)=(v1:Int):=by
   have:=bor_u64_bit (v:=v) (b:=y) (by omega) al
   rw [ak] at this
   rw [<-this]
   congr 1
   omega
  have ap:=hid ax
  clear aM ak hy hv ax hj
  go_wp2_with fail
  refine ac.mono ?_
  rintro e w1 ⟨rfl,aw,aI⟩
  clear ac
  have an:=err_ok w1 b F ds _ aw
  have ai:=ar.out.chg aI (fun x hx=>by simp at hx;omega)
  have ae:=hid (aS.out.trans aI (fun x hx => .inl hx))
  have af:n<25:=by omega
  have aJ:(n:Int)<25:=by omega
  obtain ⟨fi,aC⟩:=zX (firstTo lens K n)
  have d1:w1.cell? ⟨tb,1+n,none⟩=some (.int .u64 fi):=by rw [ai.blk.cell,aC];exact ai.first n af
  have d2:w1.cell? ⟨tb,26+n,none⟩=some (vs n):=by rw [ai.blk.cell];exact ai.syms n af
  obtain ⟨Av,cv,aF,-,-,aL⟩:=(ai.own n af).open_map
  have aR:=symsTo_len lens K n
  obtain ⟨q,hq⟩:=zX ((symsTo lens K n).length)
  rw [<-hq] at aF aR
  rw [aF] at d2
  have aZ:q<=1024:=by omega
  have HQ:=hid hq
  have aG:=hid aC
  have aV:=hid aL
  clear aR hq aC aL aF ai ar aN d0
  go_wp2_with fail
  refine an.mono ?_
  rintro e a2 ⟨rfl,rfl⟩
  clear an
  rcases gk with _ | j
  ·obtain rfl:n=L:=by omega
   obtain ⟨aP,au,ao⟩:=HH.out
   have aA:v1=W:=by rw [ap.out];simp
   rw [<-aA,<-aG.out,<-HQ.out] at au
   rw [<-aA,<-aG.out] at aP ao
   obtain ⟨ix,aq⟩:=zX (v1-fi)
   rw [<-aq] at au ao
   have aH:(v1:Int)-(fi:Int)=(ix:Int):=by omega
   have ad:ix<(symsTo lens K n).length:=by rw [<-HQ.out];exact au
   obtain ⟨ga,oa,rfl,aE⟩:=aV.out.at_ ad
   rw [zD,zF ad] at ao
   have am:(symsTo lens K n)[ix]=s:=ao
   rw [am] at aE
   have d3:w1.cell? ⟨ga,oa+ix,none⟩=some (.int .i64 s):=aE
   have t1:decide (v1<fi)=false:=zA (by omega)
   have aQ:decide ((v1:Int)<(fi:Int))=false:=zA (by omega)
   have t2:decide (ix<q)=true:=zB au
   have aT:decide ((ix:Int)<(q:Int))=true:=zB (by omega)
   have aD:ix<1024:=by omega
   clear aP ao am aE aq aA ad HH
   go_wp2_with fail
   go_ret2
   exact ⟨rfl,aw,ae.out⟩
  ·have ah:=HP.out n aU (by omega)
   rw [show L-n=j+1 by omega,<-ap.out,<-aG.out,<-HQ.out] at ah
   rcases ah with ah | ah
   ·have t1:decide (v1<fi)=true:=zB ah
    have aQ:decide ((v1:Int)<(fi:Int))=true:=zB (by omega)
    go_wp2_with fail
    go_roundg j
    case measure=>omega
    case rel=>exact ⟨n+1,by omega,by omega,by go_num,by rw [ap.out],by simpa using aw,ae⟩
   ·obtain ⟨ix,aq⟩:=zX (v1-fi)
    have aH:(v1:Int)-(fi:Int)=(ix:Int):=by omega
    have t1:decide (v1<fi)=false:=zA (by omega)
    have aQ:decide ((v1:Int)<(fi:Int))=false:=zA (by omega)
    have t2:decide (ix<q)=false:=zA (by omega)
    have aT:decide ((ix:Int)<(q:Int))=false:=zA (by omega)
    have aD:ix<16777216:=by omega
    clear aq ah
    go_wp2_with fail
    go_roundg j
    case measure=>omega
    case rel=>exact ⟨n+1,by omega,by omega,by go_num,by rw [ap.out],by simpa using aw,ae⟩
theorem symsBits_at {lens l:List Nat} {i:Nat} (h:i<l.length):symsBits lens (l.drop i)=symBits lens l[i]++symsBits lens (l.drop (i+1)):=by
 rw [List.drop_eq_getElem_cons h]
 rfl
theorem symBits_len (lens:List Nat) (s:Nat):(symBits lens s).length=lenAt lens s:=bitsOf_len _ _
theorem pfget_ok (w:World) (b:Nat) (F ds:List Nat) (p:Nat) (lens l:List Nat) (A:Option Addr) (cap:Nat) (h:IsRd w b F ds p) (hf:FullL lens) (hc:Cells i64 w A lens) (hl:l.length<=4096)
  (hs:∀ s∈l,s<lens.length/\0<lenAt lens s) (ha:Ahead ds p (symsBits lens l)) :
  Calls Tryz.prog 210 #[.pointer (some ⟨b,0,none⟩),.slice A lens.length cap,.int .i64 l.length] w fun e w'=>∃ v G,e=.returned (.tuple #[v,.int .i64 0])/\Own w' 3 v G (l.map i64)/\IsRd w' b F ds (p+(symsBits lens l).length)/\Chg [b] w w'/\∀ x∈G,w.heap.size<=x:=by
 have ax:=codes_ok lens A cap w hf hc
 have ae:=fun B cb w' hA' hB=>list_ok lens A B cap cb w' hf hA' hB (wordsTo_len lens _)
 have aY:=h.lt b h.mem
 have ao:(wordsL lens).length=lens.length:=wordsTo_len lens _
 obtain ⟨n,hn⟩:=zX (lens.length)
 obtain ⟨m,hm⟩:=zX (l.length)
 have aI:=hf.n1
 have aO:=hf.n2
 rw [<-hn] at ax ae hs aI aO ao ⊢
 rw [<-hm] at hl ⊢
 rw [ao] at ae
 have HN:=hid hn
 have HM:=hid hm
 have HS:=hid hs
 have HF:=hid hf
 have HA:=hid ha
 have HC:=hid hc
 have aN:=hid ae
 have aM:=hid ao
 have t1:decide ((m:Int)<0)=false:=by simp
 have t2:decide ((4194304:Int)<(m:Int))=false:=zA (by omega)
 clear hn hm hs hf ha hc ae ao
 go_enter Tryz.func210,Tryz.ntmps210
 go_wp2_with fail
 refine ax.mono ?_
 rintro e w1 ⟨vw,gw,rfl,aD,ak,aV⟩
 have ac:=aD.toOwn
 obtain ⟨cw,rfl,az,aS,ar,_⟩:=aD.open_map
 have aa:=ac.cells
 rw [aM.out] at az ⊢
 have aA:=h.same ak
 have ae:=aN.out (some ⟨gw,0,none⟩) cw w1 (HC.out.same ak) aa
 clear ax ar h ac aa
 go_wp2_with (go_at_call 84;refine (err_ok _ b F ds _ aA).mono ?_;rintro e w' ⟨rfl,rfl⟩)
 refine ae.mono ?_
 rintro e w2 ⟨tb,C,vs,Fs,rfl,aC,aE,aW⟩
 have aH:=aA.same aE
 have ai:=ak.trans_same aE
 have aJ:b<tb:=by have:=ak.size;omega
 have aR:=hid aC
 clear ae aC aA
 have ah:=aH.lt
 have af:=hid ah
 clear ah
 go_wp2_with fail
 go_loopg [11,12,13,38] m (fun j va vb vc iv wr=>∃ (i p':Nat) (G:List Nat),iv=.int .i64 i/\i+j=m/\Own wr 3 va G ((l.take i).map i64)/\IsRd wr b F ds p'/\Hid (Ahead ds p' (symsBits lens (l.drop i)))/\Hid (p'+(symsBits lens (l.drop i)).length=p+(symsBits lens l).length)/\Hid (Chg [b] w2 wr)/\Hid (∀ x∈G,w2.heap.size<=x))
 case atStart=>exact ⟨0,p,[],rfl,by omega,Own.nil _ _,aH,HA,hid rfl,hid (zR _ _),hid (by simp)⟩
 case round =>
  obtain ⟨i,p',G,rfl,aX,ab,aF,Ha,Hp,an,HG⟩:=hrel
  rcases gk with _ | j
  ·obtain rfl:i=m:=by omega
   have t3:decide ((i:Int)<(i:Int))=false:=by simp
   go_wp2_with fail
   go_ret2
   have e1:l.take i=l:=by rw [HM.out,zN]
   have e2:p'=p+(symsBits lens l).length:=by have:=Hp.out;rw [HM.out,List.drop_length] at this;simpa [symsBits] using this
   rw [e1] at ab
   refine ⟨_,G,rfl,ab,e2 ▸ aF,(ai.mono (by simp)).trans_same an.out,fun x hx=>Nat.le_trans ai.size (HG.out x hx)⟩
  ·have aT:i<m:=by omega
   have av:i<l.length:=by rw [<-HM.out];exact aT
   have t3:decide ((i:Int)<(m:Int))=true:=zB (by omega)
   obtain ⟨s,ay⟩:=zX (l[i])
   have hs:=HS.out l[i] (zG av)
   have am:=symsBits_at (lens:=lens) av
   rw [<-ay] at hs am
   have al:=Ha.out
   rw [am] at al
   have aP:=hid al.right
   have ap:=take_snoc' l av
   rw [<-ay] at ap
   have ag:=tread_ok wr b F ds p' lens s tb C vs Fs aF HF.out hs.2 (aR.out.chg an.out (fun x hx=>by simp at hx;omega)) aJ al.left
   have aK:=hid am
   have aQ:=hid ap
   clear hs am al ap ay
   go_wp2_with fail
   refine ag.mono ?_
   rintro e w3 ⟨rfl,aG,au⟩
   have ad:=ab.chg au (fun x hx hm=>by simp at hm;have:=HG.out x hx;have:=af.out b aG.mem;omega)
   have aj:Chg [] w3 (w3.alloc (.cells #[.int .i64 s] 3)):=(zR [] w3).alloc _
   have aq:=ad.same aj
   have aB:(l.take i).length=i:=by rw [zI];omega
   clear ab ad ag
   go_wp2_with (at_builtin;refine wpList_append_o1 rfl rfl int_elem rfl rfl aq (.int .i64 s) rfl ?c1 ?c2 ?c3 ?c4 ?_)
   case c1=>simp [go_sem]
   case c2=>rfl
   case c3=>rw [zE,aB];omega
   case c4=>rw [zE,aB];omega
   intro g2 aU w4 aL aw
   go_wp2_with fail
   go_roundg j
   case measure=>omega
   case rel =>
    refine ⟨i+1,p'+lenAt lens s,[g2],by go_num,by omega,?_,(aG.same aj).chg aw.chg (fun x hx hm=>by have:=HG.out x hm;have:=af.out x hx;omega),?_,hid ?_,hid ?_,hid ?_⟩
    ·have h9:=aL.toOwn
     rw [aQ.out,zM]
     simpa [i64] using h9
    ·have:=aP.out
     rw [symBits_len] at this
     exact hid this
    ·have:=Hp.out
     rw [aK.out,zC,symBits_len] at this
     omega
    ·exact ((an.out.trans au (fun x hx => .inl hx)).trans aj (by simp)).trans aw.chg (fun x hx => .inr (HG.out x hx))
    ·intro x hx
     rcases aw.new x hx with h9 | h9
     ·exact HG.out x h9
     ·have:=an.out.size;have:=au.size;have:=aj.size;omega
theorem lens_plain {freq:List Nat} (h2:freq.length<=256) (hpos:0<(coinsTo freq freq.length).length):LensOk freq (lensFn freq):=by
 rcases zZ (coinsTo freq freq.length).length 2 with h | h
 ·obtain ⟨e,he⟩:=List.length_eq_one_iff.1 (show (coinsTo freq freq.length).length=1 by omega)
  obtain ⟨s,hs,_,rfl⟩:=mem_coinsTo (show e∈coinsTo freq freq.length by rw [he];simp)
  have h3:=lens_one (by omega) he
  rw [lensFn_one he]
  exact h3.2
 ·have aa:=coinsTo_len freq freq.length
  obtain ⟨f1,f2,f3⟩:=full_of_rows (freq:=freq) (by omega) h (rowAt_rows _ 11)
  rw [lensFn_many h]
  refine ⟨lensOf_len _ _,f1,f2,fun n hn => ?_⟩
  obtain ⟨s,_,rfl⟩:=List.mem_map.1 hn
  exact f3 s
theorem pref_ok {l:List Int} {W d:Nat} (hl0:0<l.length) (hmx:maxN (foldedN l W d)<256):FullL (prefLens l W d)/\∀ s∈foldedN l W d,s<(prefLens l W d).length/\0<lenAt (prefLens l W d) s:=by
 have ac:foldedN l W d≠[]:=fun e=>by have:=foldedN_len l W d;rw [e] at this;simp at this;omega
 have aa:=lens_plain (freq:=freqL (foldedN l W d)) (by rw [freqL_len];omega) (freqL_coins ac)
 refine ⟨aa.full,fun s hs => ?_⟩
 have hm:=maxN_ge hs
 have ab:s<(freqL (foldedN l W d)).length:=by rw [freqL_len];omega
 refine ⟨by unfold prefLens;rw [aa.len];exact ab,(aa.used s ab).2 ?_⟩
 rw [freqL_getD hm]
 exact List.count_pos_iff.2 hs
theorem foldedN_at {l:List Int} {W d i:Nat} (h:i<l.length):(foldedN l W d)[i]?=some (foldOf l W d i):=by
 simp [foldedN,h]
theorem getPrefixed_ok (w:World) (b:Nat) (F ds:List Nat) (p:Nat) (l:List Int) (W H d:Nat) (h:IsRd w b F ds p) (hw0:1<=W) (hw1:W<=16) (hh0:1<=H) (hh1:H<=16) (h0:1<=d) (h1:d<=16) (hl:l.length=W*H) (hs:SmpOk d l) (hmx:maxN (foldedN l W d)<256) (ha:Ahead ds p (prefBits l W d)) :
  Calls Tryz.prog 165 #[.pointer (some ⟨b,0,none⟩),.int .i64 W,.int .i64 H,.int .i64 d] w fun e w'=>∃ v g,e=.returned (.tuple #[v,.int .i64 0])/\Row w' 3 v g (l.map vi)/\IsRd w' b F ds (p+(prefBits l W d).length)/\Chg [b] w w'/\w.heap.size<=g:=by
 obtain ⟨n,hn⟩:=zX (l.length)
 have a2:=zL hw1 hh1
 have aN:=zL hw0 hh0
 have a8:n<=256:=by rw [hn,hl];exact a2
 have a1:0<l.length:=by rw [hl];omega
 have bx:n<=64*W:=by rw [hn,hl,zY];exact Nat.mul_le_mul_right W (by omega)
 have bF:(W:Int)*(H:Int)=(n:Int):=by rw [hn,hl];simp
 obtain ⟨ab,ag⟩:=pref_ok a1 hmx
 unfold prefBits at ha ⊢
 rw [zC]
 have aa:=foldedN_len l W d
 have az:=fun i (hi:i<l.length)=>foldedN_at (W:=W) (d:=d) hi
 have aQ:∀ x∈foldedN l W d,x<256:=fun x hx=>by have:=maxN_ge hx;omega
 obtain ⟨f,hf⟩:=zX (foldedN l W d)
 obtain ⟨lens,aV⟩:=zX (prefLens l W d)
 rw [<-aV] at ab ag ha ⊢
 rw [<-hf] at ag ha aa az aQ ⊢
 rw [<-hn] at aa az
 have aW:=getTable_ok w b F ds p lens h ab ha.left
 have ah:=fun i=>foldOf_lt l W h0 i
 have ak:=fun i=>fold_back hs W i
 have bB:=run_make1 (P:=Tryz.prog) int_elem rfl .i64 .i64 n (by omega) (by omega)
 have bD:=h.lt b h.mem
 have HN:=hid hn
 have HA:=hid ha.right
 have bn:=hid ab
 have bq:=hid ag
 have av:=hid aa
 have ba:=hid az
 have aK:=hid ah
 have bs:=hid ak
 have bm:=hid aQ
 have HS:=hid hs
 have bC:=hid h.lt
 clear hn ha ab ag aa az ah ak aQ hs hl h hf aV hmx a1 a2 aN
 go_enter Tryz.func165,Tryz.ntmps165
 go_wp2_with fail
 refine aW.mono ?_
 rintro e w1 ⟨v1,G1,rfl,aq,a5,aX,bE⟩
 obtain ⟨A1,c1,rfl,br,bp,a6⟩:=aq.open_map
 have aD:=pfget_ok w1 b F ds _ lens f A1 c1 a5 bn.out a6 (by rw [av.out];omega) bq.out HA.out
 rw [av.out] at aD
 clear aW aq a6 a5
 go_wp2_with fail
 refine aD.mono ?_
 rintro e w3 ⟨v2,G2,rfl,af,ar,bg,bf⟩
 obtain ⟨A2,c2,rfl,aG,bu,aU⟩:=af.open_map
 rw [av.out] at aG ⊢
 have a7:=aX.trans_same bg
 obtain ⟨G,hG⟩:=zX (w3.heap.size)
 obtain ⟨w4,ay⟩:=zX (w3.alloc (.cells (Array.replicate n (Value.int .i64 0)) 3))
 have aj:Row w4 3 (.slice (some ⟨G,0,none⟩) n n) G ((fillL ([]:List Int) n).map vi):=by
  have h9:=Row.zeros w3 n (by omega)
  rw [<-hG] at h9
  rw [ay]
  exact h9
 have aB:Chg [] w3 w4:=by rw [ay];exact (zR [] w3).alloc _
 have aS:=ar.same aB
 have aO:=a7.trans aB (by simp)
 have am:=aU.same aB
 have bH:=ar.lt b ar.mem
 have an:Apt A2 f [b,G]:=af.apt (fun x hx hm=>by
  have h5:=bf x hx
  have h6:=af.lt x hx
  have h7:=aX.size
  simp at hm
  omega)
 have bJ:=a7.size
 have bw:=hid ar.lt
 have HG:=hid hG
 have bj:=hid an
 have be:=hid am
 have bl:Hid (p+(tableBits lens).length+(symsBits lens f).length=p+((tableBits lens).length+(symsBits lens f).length)):=hid (by omega)
 have a9:=hid ay
 clear aD ar aB hG an aU am af ay
 go_wp2_with fail
 rw [<-a9.out,<-HG.out]
 go_loopg [14,15,16,17,44] n (fun j va vb vc vd iv wr=>∃ (i:Nat),iv=.int .i64 i/\i+j=n/\Row wr 3 (.slice (some ⟨G,0,none⟩) n n) G ((fillL (l.take i) n).map vi)/\Hid (Chg [G] w4 wr))
 case atStart=>exact ⟨0,rfl,by omega,by simpa using aj,hid (zR _ _)⟩
 case round =>
  clear aj
  obtain ⟨i,rfl,bz,ae,aC⟩:=hrel
  rcases gk with _ | j
  ·obtain rfl:n=i:=by omega
   have u2:decide ((n:Int)<(n:Int))=false:=by simp
   have bo:decide (n<n)=false:=by simp
   have e:fillL (l.take n) n=l:=by
    have:=fill_all l
    rw [<-HN.out] at this
    exact this
   rw [e] at ae
   clear e
   go_wp2_with fail
   go_ret2
   refine ⟨_,G,rfl,ae,(aS.chg aC.out (fun z hz hm=>by simp at hm;have:=bw.out z hz;have:=HG.out;omega)).cast bl.out,aO.trans aC.out (fun z hz => .inr (by simp at hz;have:=HG.out;omega)),by have:=HG.out;omega⟩
  ·have ap:i<n:=by omega
   have u2:decide ((i:Int)<(n:Int))=true:=zB (by omega)
   have bo:decide (i<n)=true:=zB ap
   have aF:i<l.length:=by rw [<-HN.out];exact ap
   have aw:i<f.length:=by rw [av.out];exact ap
   have aP:=ba.out i (by omega)
   have a0:=bm.out f[i] (zG aw)
   rw [zF aw] at aP
   have aY:f[i]=foldOf l W d i:=by injection aP
   obtain ⟨gf,of,rfl,ax⟩:=(be.out.keep bj.out (aC.out.mono (fun x hx _=>by simp at hx;simp [hx]))).at_ aw
   rw [aY] at ax a0
   have aR:=nbr_fillAt (l:=l) hw0 (i:=i) (by omega)
   rw [<-HN.out] at aR
   have ai:(fillL (l.take i) n).length=n:=fillL_len (by rw [zI];omega)
   have al:=tnear_ok (fillL (l.take i) n) (some ⟨G,0,none⟩) n W d i wr h0 h1 hw0 (by omega) (by rw [ai];omega) (by omega) (fill_smpT HS.out i n) ae.toOwn.cells (by rw [ai];omega)
   have ak:=bs.out i
   have ah:=aK.out i
   have bG:2^d<=65536:=Nat.pow_le_pow_right (n:=2) (by decide) h1
   have bh:=Nat.two_pow_pos d
   rw [aR,ai] at al
   have aA:=guessI_ok (d:=d) (g:=nbrAt l W i) (nbr_ok HS.out W _ _) 7
   obtain ⟨gs,a3⟩:=zX (guessI 7 (nbrAt l W i) d)
   rw [<-a3] at al aA ak
   obtain ⟨fi,ao⟩:=zX (foldOf l W d i)
   rw [<-ao] at ax a0 ak ah
   have bc:wr.cell? ⟨gf,of+i,none⟩=some (.int .i64 fi):=ax
   generalize classI (nbrAt l W i) d=cl at al
   have au:gs<65536:=by
    have e:((2^d:Nat):Int)=(2:Int)^d:=by simp
    have:=aA.2
    omega
   have aL:=fun w'=>unfolded_ok gs fi d w' h0 h1 aA.1 au (by omega)
   rw [ak] at aL
   have aI:=take_snoc' l aF
   have aZ:l[i]=l.getD i 0:=by rw [zD,zF aF];rfl
   rw [aZ] at aI
   generalize l.getD i 0=xv at *
   have a4:(l.take i).length=i:=by rw [zI];omega
   have bA:((2^d:Nat):Int)=(2:Int)^d:=by simp
   have bI:IntKind.i64.wrap ((2:Int)^d)=(2:Int)^d:=IntWalk.i64_in _ (by omega)
   have t5:decide ((256:Int)<=(fi:Int))=false:=zA (by omega)
   have t6:decide ((2:Int)^d<=(fi:Int))=false:=zA (by omega)
   have bk:=hid aI
   have aM:=hid a4
   have bb:=hid aL
   have aE:=hid ae
   clear aR ai ak a3 ao aL aI aZ a4 ae aF aA aP aY aw ax
   go_wp2_with fail
   refine al.mono ?_
   rintro e w6 ⟨rfl,aT⟩
   have aH:=hid (aC.out.trans aT (by simp))
   have ad:=aE.out.chg aT (by simp)
   obtain ⟨bi,bd⟩:=ad.fill_cell (by rw [aM.out];exact ap)
   have ac:=ad.fill (by rw [aM.out];exact ap) xv
   rw [aM.out] at bi bd ac
   have bv:=hid ac
   have aJ:=bb.out w6
   clear al ad ac
   go_wp2_with fail
   refine aJ.mono ?_
   rintro e w7 ⟨rfl,rfl⟩
   go_wp2_with fail
   go_roundg j
   case measure=>omega
   case rel =>
    refine ⟨i+1,by go_num,by omega,?_,hid (aH.out.setCell (.inl (by simp)) _)⟩
    rw [bk.out]
    exact bv.out
end Go.Proofs.YtklocammllljiaaGreatDoor
