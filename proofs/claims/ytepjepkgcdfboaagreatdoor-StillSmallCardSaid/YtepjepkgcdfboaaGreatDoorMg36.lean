/- package prefix by its contracts: GetTable. -/
import Derived.Test.YtepjepkgcdfboaaGreatDoorMg27
import Derived.Test.YtepjepkgcdfboaaGreatDoorMg35
set_option linter.unusedVariables false
set_option linter.unusedSimpArgs false
set_option maxHeartbeats 4000000
set_option maxRecDepth 100000
namespace Go.Proofs.YtepjepkgcdfboaaGreatDoor
open Go.RowKit
theorem seen_ok (w:World) (b:Nat) (F ds:List Nat) (p n v:Nat) (bx:Nat) (sb:Nat) (FS S:List Nat) (h:IsRd w b F ds p) (hn:n<=16) (hv:v<2^n) (ha:Ahead ds p (bitsOf v n)) (hs:IsWr w sb FS S) (hS:S.length<137438953472)
  (hx:w.cell? ⟨bx,0,none⟩=some (.pointer (some ⟨b,0,none⟩))) (hbx:bx≠b) (hd:∀ x∈F,x∉FS) :
  Calls Tryz.prog 265 #[.int .i64 n,.pointer (some ⟨bx,0,none⟩),.pointer (some ⟨sb,0,none⟩)] w fun e w'=>e=.returned (.int .i64 v)/\IsRd w' b F ds (p+n)/\∃ FS',IsWr w' sb FS' (S++bitsOf v n)/\Chg (b::FS) w w'/\∀ x∈FS',x∈FS\/w.heap.size<=x:=by
 have hg:=rget_ahead w b F ds p n v h (by omega) hv ha
 have ag:v<65536:=Nat.lt_of_lt_of_le hv (show 2^n<=2^16 from Nat.pow_le_pow_right (by decide) hn)
 have ai:IntKind.i64.wrap (v:Int)=(v:Int):=IntWalk.i64_in _ (by omega)
 have ah:=h.mem
 have HD:=hid hd
 have HV:=hid hv
 clear ha h hd
 go_enter Tryz.func265,Tryz.ntmps265
 go_wp2_with fail
 refine hg.mono ?_
 rintro e w1 ⟨rfl,af,aa⟩
 have ae:=hs.chg aa (fun x hx hm=>by simp at hm;exact HD.out b ah (hm ▸ hx))
 clear hg hs
 go_wp2_with fail
 refine (wput_ok w1 sb FS S v n ae (by omega) HV.out (by omega)).mono ?_
 rintro e w2 ⟨rfl,ad,ac,ab⟩
 go_wp2
 go_ret
 refine ⟨rfl,af.chg ab.chg HD.out,ad,ac,?_,fun x hx => ?_⟩
 ·exact (aa.mono (fun x hx _=>by simp at hx;simp [hx])).trans ab.chg (fun x hx => .inl (by simp [hx]))
 ·rcases ab.new x hx with h9 | h9
  ·exact .inl h9
  ·right;have:=aa.size;omega
theorem take_zeros (lens:List Nat) (i:Nat):lens.take (i+zr 66 (lens.drop i))=lens.take i++List.replicate (zr 66 (lens.drop i)) 0:=by
 rw [List.take_add]
 congr 1
 have hl:=zr_len 66 (lens.drop i)
 refine List.eq_replicate_iff.2 ⟨by rw [zI];omega,fun x hx => ?_⟩
 obtain ⟨q,hq,rfl⟩:=List.getElem_of_mem hx
 rw [zI] at hq
 have h2:=zr_zero 66 (lens.drop i) q (by omega)
 rw [List.getElem_take]
 rw [zD,zF (by omega)] at h2
 simpa using h2
theorem getTable_ok (w:World) (b:Nat) (F ds:List Nat) (p:Nat) (lens:List Nat) (h:IsRd w b F ds p) (hf:FullL lens) (ha:Ahead ds p (tableBits lens)) :
  Calls Tryz.prog 235 #[.pointer (some ⟨b,0,none⟩)] w fun e w'=>∃ v G,e=.returned (.tuple #[v,.int .i64 0])/\Own w' 3 v G (lens.map i64)/\IsRd w' b F ds (p+(tableBits lens).length)/\Chg [b] w w'/\∀ x∈G,w.heap.size<=x:=by
 have cI:=hf.n1
 have cZ:=hf.n2
 have cf:=hf.le
 have aS:=tableBits_eq lens
 have cj:=tableBits_len lens
 obtain ⟨T,hT⟩:=zX (tableBits lens)
 rw [<-hT] at ha aS cj ⊢
 obtain ⟨N,hN⟩:=zX (lens.length)
 rw [<-hN] at cI cZ aS cj
 obtain ⟨N1,cs⟩:=zX (N-1)
 have eN:(N1:Int)+1=(N:Int):=by omega
 rw [<-cs] at aS
 have bs:=ha
 rw [aS] at bs
 have bJ:=bs.right
 rw [bitsOf_len] at bJ
 have c9:=h.lt b h.mem
 have bH:=h.lt
 have dc:=h.mem
 obtain ⟨bx,bC⟩:=zX (w.heap.size)
 obtain ⟨w1,aU⟩:=zX (w.alloc (.cells #[.pointer (some ⟨b,0,none⟩)] 113))
 obtain ⟨w2,br⟩:=zX (w1.alloc (.cells #[.slice none 0 0,.int .i64 0] 89))
 have aQ:Blk w1 bx 113 #[.pointer (some ⟨b,0,none⟩)]:=by rw [aU,bC];exact Blk.new w _ _
 have bL:Chg [] w w1:=by rw [aU];exact (zR [] w).alloc _
 have bw:Chg [] w1 w2:=by rw [br];exact (zR [] w1).alloc _
 have bR:w1.heap.size=bx+1:=by rw [aU,bC];simp
 have bb:IsWr w2 (bx+1) [bx+1] []:=by
  have:=IsWr.new w1
  rw [<-br,bR] at this
  exact this
 have ay:=aQ.chg bw (by simp)
 have bS:=h.same bL
 have cD:=bS.same bw
 have c2:=ay.cell 0
 simp at c2
 have c1:=aQ.cell 0
 simp at c1
 have aF:=seen_ok w2 b F ds p 10 N1 bx (bx+1) [bx+1] [] cD (by omega) (by omega) bs.left bb (by simp) c2 (by omega) (fun x hx hm=>by simp at hm;have:=bH x hx;omega)
 have HF:=hid hf
 have HN:=hid hN
 have HT:=hid hT
 have cw:=hid aS
 have c5:=hid cf
 have HA:=hid bJ
 have bA:=hid bH
 have cP:=hid aU
 have cR:=hid br
 have aj:=hid bC
 have cT:=hid (bL.trans_same bw)
 have cK:=hid bR
 clear hN hT aS cf ha bs bJ bH aU br bC bL bw cs h bb hf bR aQ
 go_enter Tryz.func235,Tryz.ntmps235
 go_wp2_with fail
 rw [<-aj.out,<-cP.out]
 refine (err_ok w1 b F ds p bS).mono ?_
 rintro e wx ⟨rfl,rfl⟩
 go_wp2_with fail
 rw [cK.out,<-cR.out]
 refine aF.mono ?_
 rintro e w3 ⟨rfl,cB,co,aM,b4,bk⟩
 rw [List.nil_append] at aM
 have de:b<bx:=by have:=aj.out;omega
 have bc:=ay.chg b4 (by simp;omega)
 have cU:bx<w2.heap.size:=ay.lt
 have bm:∀ x∈co,bx<x:=fun x hx=>by
  rcases bk x hx with h9 | h9
  ·simp at h9;omega
  ·omega
 have cr:Chg [b] w w3:=(cT.out.mono (by simp)).trans b4 (fun x hx=>by simp at hx;rcases hx with hx | hx;left;simp [hx];right;have:=aj.out;omega)
 have bT:(bitsOf N1 10).length=10:=bitsOf_len _ _
 clear aF bS cD ay c1 c2 b4 bk cU
 go_wp2_with fail
 go_loopg [7,8] N (fun j vl va wr=>∃ (i p':Nat) (FS S G:List Nat),i<=N/\N<=i+j/\Own wr 3 vl G ((lens.take i).map i64)/\IsRd wr b F ds p'/\Hid (Ahead ds p' (bodyFrom lens i))/\Hid (p'+(bodyFrom lens i).length=p+T.length)/\IsWr wr (bx+1) FS S/\Hid (S++bodyFrom lens i=T)/\Blk wr bx 113 #[.pointer (some ⟨b,0,none⟩)]/\Hid (∀ x∈FS,bx<x)/\Hid (∀ x∈G,bx<x/\x∉FS)/\Hid (Chg [b] w wr))
 case atStart=>exact ⟨0,p+10,co,bitsOf N1 10,[],by omega,by omega,Own.nil _ _,cB,HA,hid (by rw [cw.out,zC,bitsOf_len];omega),aM,hid cw.out.symm,bc,hid bm,hid (by simp),hid cr⟩
 case round =>
  clear cB aM bc bm cr bT
  obtain ⟨i,p',FS,S,G,dj,dk,ac,ax,cE,HP,aR,HS,aE,aK,HG,bD⟩:=hrel
  have cx:=aE.cell 0
  simp at cx
  have aJ:(lens.take i).length=i:=by rw [zI,<-HN.out];omega
  obtain ⟨kd,b6⟩:=zX (lens.take i)
  rw [<-b6] at ac aJ
  have bG:=hid b6
  clear b6
  obtain ⟨Al,cl,rfl,ca,cM,ae⟩:=ac.open_map
  rw [aJ] at ca ⊢
  have ad:=ac
  rw [aJ] at ad
  by_cases hi:N<=i
  ·obtain rfl:N=i:=by omega
   have t1:decide (N<N)=false:=by simp
   have e0:bodyFrom lens N=[]:=by rw [HN.out];exact bodyFrom_end lens
   have hp:=HP.out
   rw [e0,List.length_nil] at hp
   have cz:=HS.out
   rw [e0,List.append_nil] at cz
   subst cz
   have bz:kd=lens:=by rw [bG.out,HN.out,zN]
   have dd:=hid bz
   have t2:((N:Int) != (N:Int))=false:=by simp
   have ag:Cells i64 wr Al lens:=by rw [<-bz];exact ae
   have aq:=ac
   rw [bz,<-HN.out] at aq
   obtain ⟨ab,bU⟩:=zX (wr.heap.size)
   obtain ⟨w8,bu⟩:=zX (wr.alloc (.cells #[.slice none 0 0,.int .i64 0] 89))
   have bn:Chg [] wr w8:=by rw [bu];exact (zR [] wr).alloc _
   have cy:IsWr w8 ab [ab] []:=by rw [bu,bU];exact IsWr.new wr
   have bP:=aR.lt
   have bq:=ac.lt
   have a7:Apt Al lens [ab]:=ac.apt (fun x hx hm=>by simp at hm;have:=bq x hx;omega)
   have b3:=putTable_ok w8 ab [ab] [] lens Al cl cy HF.out (ag.same bn) a7 (by simp)
   rw [List.nil_append,<-HT.out,<-HN.out] at b3
   have el:=err_ok wr b F ds p' ax
   have a2:=hid bU
   have cW:=hid bu
   have a1:=ax.same bn
   have a6:=aR.same bn
   have aA:=aq.same bn
   have bj:=bD.out.trans bn (by simp)
   have bN:=ax.lt
   have cQ:=hid hp
   clear e0 bz ag ae ac ad aq bU bu cy a7 hp aE aR
   go_wp2_with (go_at_call 69;refine el.mono ?_;rintro e w' ⟨rfl,rfl⟩)
   rw [<-a2.out,<-cW.out]
   refine b3.mono ?_
   rintro e w9 ⟨rfl,F9,aO,bh⟩
   have bW:=a6.chg bh.chg (fun x hx hm=>by simp at hm;have:=bP x hx;have:=a2.out;omega)
   have bd:=a1.chg bh.chg (fun x hx hm=>by simp at hm;have:=bN x hx;have:=a2.out;omega)
   have aB:=aA.chg bh.chg (fun x hx hm=>by simp at hm;have:=bq x hx;have:=a2.out;omega)
   have a4:=bj.trans bh.chg (fun x hx => .inr (by simp at hx;have:=a2.out;have:=bD.out.size;omega))
   have b0:=wlen_any w9 ab F9 S aO
   have b5:=wlen_any w9 (bx+1) FS S bW
   have be:=wbytes_ok w9 ab F9 S aO (by omega)
   have a5:=fun wz hz=>wbytes_ok wz (bx+1) FS S (bW.same hz:IsWr wz (bx+1) FS S) (by omega)
   obtain ⟨sl,cm⟩:=zX (S.length)
   rw [<-cm] at b0 b5
   have t3:((sl:Int) != (sl:Int))=false:=by simp
   have cO:=hid a5
   clear b3 a1 a6 aA bj aO bW bh a5 cm
   go_wp2_with fail
   refine b0.mono ?_
   rintro e w' ⟨rfl,rfl⟩
   go_wp2_with fail
   refine b5.mono ?_
   rintro e w' ⟨rfl,rfl⟩
   clear b0 b5
   go_wp2_with fail
   refine be.mono ?_
   rintro e cX ⟨di,da,rfl,aD,au,b1⟩
   obtain ⟨c6,cN,rfl,_,_,aV⟩:=aD.open_map
   clear be
   go_wp2_with fail
   refine (cO.out cX au).mono ?_
   rintro e cS ⟨dg,c8,rfl,aH,an,bO⟩
   obtain ⟨c0,cH,rfl,_,_,bg⟩:=aH.open_map
   have bV:∀ {wz:World} {A:Option Addr},Cells b8 wz A (packed S)->Lib.BytesIn wz A (packed S).length ((packed S).map Int.ofNat):=by
    intro wz A hc hn
    obtain ⟨g,o,e1,_,bi⟩:=hc.ex hn
    refine ⟨g,o,e1,fun i hi => ?_⟩
    rw [bi i _ (zF hi)]
    have e:((packed S).map Int.ofNat).getD i 0=((packed S)[i]:Nat):=by
     rw [zD,zW,zF hi]
     rfl
    rw [e]
    rfl
   have ci:=Tryz.bytes_Equal_all c6 c0 (packed S).length cN (packed S).length cH ((packed S).map Int.ofNat) ((packed S).map Int.ofNat) cS (by simp) (by simp) (bV (aV.same an)) (bV bg)
   have et:(Lib.bytesOf ((packed S).map Int.ofNat)==Lib.bytesOf ((packed S).map Int.ofNat))=true:=by simp
   rw [et] at ci
   have bp:=(bd.same au).same an
   have aI:=(aB.same au).same an
   have aT:=(a4.trans au (by simp)).trans an (by simp)
   clear aD aH aV bg bV et au an b1 bO bd aB a4
   go_wp2_with fail
   refine ci.mono ?_
   rintro e w' ⟨rfl,rfl⟩
   go_wp2
   go_ret2
   exact ⟨_,G,rfl,by rw [HN.out] at *; exact aI,bp.cast cQ.out,aT,fun x hx=>by have:=(HG.out x hx).1;have:=aj.out;omega⟩
  ·rcases gk with _ | j
   ·exfalso;omega
   have cc:i<N:=by omega
   have ba:i<lens.length:=by rw [<-HN.out];exact cc
   have t1:decide (i<N)=true:=zB cc
   have db:decide ((i:Int)<(N:Int))=true:=zB (by omega)
   have df:S.length<=20000:=by
    have:=congrArg List.length HS.out
    rw [zC] at this
    omega
   have aL:∀ x∈F,x∉FS:=fun x hx hm=>by have:=bA.out x hx;have:=aK.out x hm;have:=aj.out;omega
   by_cases hz:zr 66 (lens.drop i)<3
   ·have aw:=bodyFrom_one ba hz
    have az:=cE.out
    rw [aw] at az
    have c7:lenAt lens i<=24:=by
     unfold lenAt
     rw [zD,zF ba]
     exact c5.out _ (zG _)
    have af:=take_snoc' lens ba
    have cA:lens[i]=lenAt lens i:=by unfold lenAt;rw [zD,zF ba];rfl
    rw [cA] at af
    generalize lenAt lens i=v at *
    have aY:=seen_ok wr b F ds p' 5 v bx (bx+1) FS S ax (by omega) (by omega) az.left aR (by omega) cx (by omega) aL
    have bQ:=hid az.right
    have bl:=hid aw
    have b7:=hid af
    have t2:((v:Int) != 31)=true:=by rw [bne_iff_ne];omega
    have bY:=aE.lt
    have a8:=(err_ok wr b F ds p' ax)
    clear az aw af cA ax aR
    go_wp2_with (go_at_call 69;refine a8.mono ?_;rintro e w' ⟨rfl,rfl⟩)
    refine aY.mono ?_
    rintro e w4 ⟨rfl,bB,FS4,ap,ar,aP⟩
    have aa:=ac.lt
    have ai:=ad.chg ar (fun x hx hm=>by
     rcases zJ.1 hm with hm | hm
     ·have:=(HG.out x hx).1;omega
     ·exact (HG.out x hx).2 hm)
    have aN:=aE.chg ar (fun hm=>by
     rcases zJ.1 hm with hm | hm
     ·omega
     ·have:=aK.out _ hm;omega)
    have bv:=aN.cell 0
    simp at bv
    have cV:=ar.size
    have ao:∀ x∈FS4,bx<x:=fun x hx=>by
     rcases aP x hx with h9 | h9
     ·exact aK.out x h9
     ·omega
    have bf:∀ x∈G,bx<x/\x∉FS4:=fun x hx=>⟨(HG.out x hx).1,fun hm=>by
     rcases aP x hm with h9 | h9
     ·exact (HG.out x hx).2 h9
     ·have:=aa x hx;omega⟩
    have a9:Chg [b] w w4:=bD.out.trans ar (fun x hx=>by
     rcases zJ.1 hx with hx | hx
     ·left;simp [hx]
     ·right;have:=aK.out x hx;have:=aj.out;omega)
    have bE:=hid aa
    have ak:=hid ao
    have av:=hid bf
    have bM:=hid a9
    have al:Chg [] w4 (w4.alloc (.cells #[.int .i64 v] 3)):=(zR [] w4).alloc _
    have bX:=ai.same al
    clear ac ad ae aE aP aa ao bf a9 ar aY a8 ai
    go_wp2_with (at_builtin;refine wpList_append_o1 rfl rfl int_elem rfl rfl bX (.int .i64 v) rfl ?c1 ?c2 ?c3 ?c4 ?_)
    case c1=>simp [go_sem]
    case c2=>rfl
    case c3=>rw [zE,aJ];omega
    case c4=>rw [zE,aJ];omega
    intro g2 cJ w5 cq am
    obtain ⟨G5,cu⟩:=zX ([g2])
    have ah:=cq.toOwn
    rw [<-cu] at am ah
    clear cq cu
    have b9:=ap.lt
    go_wp2_with fail
    go_roundg j
    case measure=>omega
    case rel =>
     refine ⟨i+1,p'+5,FS4,S++bitsOf v 5,G5,by omega,by omega,?_,(bB.same al).chg am.chg (fun x hx hm=>by have:=bA.out x hx;have:=(av.out x hm).1;have:=aj.out;omega),bQ,hid ?_,(ap.same al).chg am.chg (fun x hx hm=>(av.out x hm).2 hx),hid ?_,(aN.chg al (by simp)).chg am.chg (fun hm=>by have:=(av.out _ hm).1;omega),ak,hid ?_,hid ?_⟩
     ·rw [b7.out,<-bG.out,zM]
      exact ah
     ·have:=HP.out
      rw [bl.out] at this
      simp only [zC,bitsOf_len] at this
      omega
     ·rw [<-HS.out,bl.out]
      simp only [zH]
     ·intro x hx
      rcases am.new x hx with h9 | h9
      ·exact av.out x h9
      ·have:=al.size
       exact ⟨by omega,fun hm=>by have:=b9 x hm;omega⟩
     ·exact (bM.out.trans al (by simp)).trans am.chg (fun x hx => .inr (by have:=(av.out x hx).1;have:=aj.out;omega))
   ·have aw:=bodyFrom_many ba hz
    have cb:=zr_len 66 (lens.drop i)
    have cY:=zr_le 66 (lens.drop i)
    have af:=take_zeros lens i
    rw [zO,<-HN.out] at cb
    obtain ⟨z,ch⟩:=zX (zr 66 (lens.drop i))
    rw [<-ch] at aw hz cb cY af
    obtain ⟨z0,ck⟩:=zX (z-3)
    have ez:(z0:Int)+3=(z:Int):=by omega
    rw [<-ck] at aw
    have az:=cE.out
    rw [aw] at az
    have aY:=seen_ok wr b F ds p' 5 31 bx (bx+1) FS S ax (by omega) (by omega) az.left aR (by omega) cx (by omega) aL
    have bZ:=az.right
    rw [bitsOf_len] at bZ
    have cd:=hid bZ
    have bl:=hid aw
    have b7:=hid af
    have t2:(((31:Nat):Int) != 31)=false:=rfl
    have bY:=aE.lt
    have a8:=(err_ok wr b F ds p' ax)
    clear az bZ aw af ax aR ch ck
    go_wp2_with (go_at_call 69;refine a8.mono ?_;rintro e w' ⟨rfl,rfl⟩)
    refine aY.mono ?_
    rintro e w4 ⟨rfl,bB,FS4,ap,ar,aP⟩
    have aa:=ac.lt
    have ai:=ad.chg ar (fun x hx hm=>by
     rcases zJ.1 hm with hm | hm
     ·have:=(HG.out x hx).1;omega
     ·exact (HG.out x hx).2 hm)
    have aN:=aE.chg ar (fun hm=>by
     rcases zJ.1 hm with hm | hm
     ·omega
     ·have:=aK.out _ hm;omega)
    have bv:=aN.cell 0
    simp at bv
    have cV:=ar.size
    have ao:∀ x∈FS4,bx<x:=fun x hx=>by
     rcases aP x hx with h9 | h9
     ·exact aK.out x h9
     ·omega
    have bf:∀ x∈G,bx<x/\x∉FS4:=fun x hx=>⟨(HG.out x hx).1,fun hm=>by
     rcases aP x hm with h9 | h9
     ·exact (HG.out x hx).2 h9
     ·have:=aa x hx;omega⟩
    have a9:Chg [b] w w4:=bD.out.trans ar (fun x hx=>by
     rcases zJ.1 hx with hx | hx
     ·left;simp [hx]
     ·right;have:=aK.out x hx;have:=aj.out;omega)
    have bE:=hid aa
    have ak:=hid ao
    have av:=hid bf
    have bM:=hid a9
    have aC:∀ x∈F,x∉FS4:=fun x hx hm=>by have:=bA.out x hx;have:=ak.out x hm;have:=aj.out;omega
    have bo:=seen_ok w4 b F ds (p'+5) 6 z0 bx (bx+1) FS4 (S++bitsOf 31 5) bB (by omega) (by omega) cd.out.left ap (by rw [zC,bitsOf_len];omega) bv (by omega) aC
    have bQ:=hid cd.out.right
    have aG:=hid ai
    have bK:=hid aN
    have cC:=aN.lt
    have ct:Hid (∀ x∈G,x<w4.heap.size):=hid ai.lt
    clear ac ad ae aE aP aa ao bf a9 ar aY a8 ai aN bB ap aL aC
    go_wp2_with fail
    refine bo.mono ?_
    rintro e w6 ⟨rfl,cG,FS6,aW,a3,bF⟩
    have aa:=aG.out.lt
    have aX:=aG.out.chg a3 (fun x hx hm=>by
     rcases zJ.1 hm with hm | hm
     ·have:=(av.out x hx).1;omega
     ·exact (av.out x hx).2 hm)
    have cn:=bK.out.chg a3 (fun hm=>by
     rcases zJ.1 hm with hm | hm
     ·omega
     ·have:=ak.out _ hm;omega)
    have cL:=cn.cell 0
    simp at cL
    have dh:=a3.size
    have a0:∀ x∈FS6,bx<x:=fun x hx=>by
     rcases bF x hx with h9 | h9
     ·exact ak.out x h9
     ·omega
    have ce:∀ x∈G,bx<x/\x∉FS6:=fun x hx=>⟨(av.out x hx).1,fun hm=>by
     rcases bF x hm with h9 | h9
     ·exact (av.out x hx).2 h9
     ·have:=aa x hx;omega⟩
    have cp:Chg [b] w w6:=bM.out.trans a3 (fun x hx=>by
     rcases zJ.1 hx with hx | hx
     ·left;simp [hx]
     ·right;have:=ak.out x hx;have:=aj.out;omega)
    have cv:=hid aa
    have bI:=hid a0
    have aZ:=hid ce
    have cF:=hid cp
    have al:Chg [] w6 w6:=zR _ _
    have cg:=hid aX
    clear bF aa a0 ce cp a3 bo
    go_wp2_with (at_builtin;refine wpList_append_zeros rfl rfl int_elem rfl rfl Tryz.underlying3 rfl aX z rfl ?c1 ?c2 ?c3 ?_)
    case c1=>omega
    case c2=>rw [zE,aJ];omega
    case c3=>rw [zE,aJ];omega
    intro v5 G5 w5 ah am
    have b2:=aW.lt
    go_wp2_with fail
    go_roundg j
    case measure=>omega
    case rel =>
     refine ⟨i+z,p'+5+6,FS6,S++bitsOf 31 5++bitsOf z0 6,G5,by omega,by omega,?_,(cG.same al).chg am.chg (fun x hx hm=>by have:=bA.out x hx;have:=(aZ.out x hm).1;have:=aj.out;omega),bQ,hid ?_,(aW.same al).chg am.chg (fun x hx hm=>(aZ.out x hm).2 hx),hid ?_,(cn.chg al (by simp)).chg am.chg (fun hm=>by have:=(aZ.out _ hm).1;omega),bI,hid ?_,hid ?_⟩
     ·rw [b7.out,<-bG.out,zM]
      have:=ah
      simpa [i64] using this
     ·have:=HP.out
      rw [bl.out] at this
      simp only [zC,bitsOf_len] at this
      omega
     ·rw [<-HS.out,bl.out]
      simp only [zH]
     ·intro x hx
      rcases am.new x hx with h9 | h9
      ·exact aZ.out x h9
      ·have:=al.size
       exact ⟨by omega,fun hm=>by have:=b2 x hm;omega⟩
     ·exact (cF.out.trans al (by simp)).trans am.chg (fun x hx => .inr (by have:=(aZ.out x hx).1;have:=aj.out;omega))
structure IsTab3 (w:World) (tb:Nat) (lens:List Nat) (kl kf ks:Nat) (C:Array Value) (vs:Nat->Value) (Fs:Nat->List Nat):Prop where
 blk:Blk w tb 316 C
 size:C.size=51
 long:C[0]?=some (.int .i64 (longTo lens kl:Nat))
 first:∀ n,n<25->C[1+n]?=some (.int .u64 (firstTo lens kf n:Nat))
 syms:∀ n,n<25->C[26+n]?=some (vs n)
 own:∀ n,n<25->Own w 3 (vs n) (Fs n) ((symsTo lens ks n).map i64)
 new:∀ n,∀ x∈Fs n,tb<x
 apart:∀ n m,n<25->m<25->n≠m->∀ x∈Fs n,x∉Fs m
abbrev IsTab (w:World) (tb:Nat) (lens:List Nat) (k:Nat) (C:Array Value) (vs:Nat->Value) (Fs:Nat->List Nat):Prop:=IsTab3 w tb lens k k k C vs Fs
variable {w:World} {tb:Nat} {lens:List Nat} {kl kf ks:Nat} {C:Array Value} {vs:Nat->Value} {Fs:Nat->List Nat}
theorem IsTab3.same (h:IsTab3 w tb lens kl kf ks C vs Fs) {w':World} (hc:Chg [] w w'):IsTab3 w' tb lens kl kf ks C vs Fs :=
 { h with blk:=h.blk.chg hc (by simp),own:=fun n hn=>(h.own n hn).same hc }
theorem IsTab3.chg (h:IsTab3 w tb lens kl kf ks C vs Fs) {w':World} {G:List Nat} (hc:Chg G w w') (hG:∀ x∈G,x<tb):IsTab3 w' tb lens kl kf ks C vs Fs :=
 { h with blk:=h.blk.chg hc (fun hm=>by have:=hG tb hm;omega),own:=fun n hn=>(h.own n hn).chg hc fun x hx hm=>by have:=h.new n x hx;have:=hG x hm;omega }
theorem IsTab3.first_new (h:IsTab3 w tb lens kl ks ks C vs Fs) {n:Nat} (hn:n<25) {wd:Nat}
  (hs:firstTo lens (ks+1) n=wd) (ho:∀ m,n≠m->firstTo lens (ks+1) m=firstTo lens ks m) :
  IsTab3 (w.setCell ⟨tb,1+n,none⟩ (.int .u64 wd)) tb lens kl (ks+1) ks (C.setIfInBounds (1+n) (.int .u64 wd)) vs Fs where
 blk:=h.blk.set_ _ _
 size:=by rw [Array.size_setIfInBounds];exact h.size
 long:=by rw [Array.getElem?_setIfInBounds,if_neg (by omega)];exact h.long
 first m hm:=by
  by_cases e:n=m
  ·subst e
   rw [Array.getElem?_setIfInBounds,if_pos rfl,if_pos (by rw [h.size];omega),hs]
  ·rw [Array.getElem?_setIfInBounds,if_neg (by omega),ho m e];exact h.first m hm
 syms m hm:=by rw [Array.getElem?_setIfInBounds,if_neg (by omega)];exact h.syms m hm
 own m hm:=(h.own m hm).far (fun hx=>by have:=h.new m _ hx;simp at this) _
 new:=h.new
 apart:=h.apart
theorem IsTab3.first_old (h:IsTab3 w tb lens kl ks ks C vs Fs) (ho:∀ m,firstTo lens (ks+1) m=firstTo lens ks m) :
  IsTab3 w tb lens kl (ks+1) ks C vs Fs:={ h with first:=fun m hm=>by rw [ho];exact h.first m hm }
theorem IsTab3.long_new (h:IsTab3 w tb lens kl kf ks C vs Fs) {n k:Nat} (hs:longTo lens k=n) :
  IsTab3 (w.setCell ⟨tb,0,none⟩ (.int .i64 n)) tb lens k kf ks (C.setIfInBounds 0 (.int .i64 n)) vs Fs where
 blk:=h.blk.set_ _ _
 size:=by rw [Array.size_setIfInBounds];exact h.size
 long:=by rw [Array.getElem?_setIfInBounds,if_pos rfl,if_pos (by rw [h.size];omega),hs]
 first m hm:=by rw [Array.getElem?_setIfInBounds,if_neg (by omega)];exact h.first m hm
 syms m hm:=by rw [Array.getElem?_setIfInBounds,if_neg (by omega)];exact h.syms m hm
 own m hm:=(h.own m hm).far (fun hx=>by have:=h.new m _ hx;simp at this) _
 new:=h.new
 apart:=h.apart
theorem IsTab3.syms_new (h:IsTab3 w tb lens kl kf ks C vs Fs) {n:Nat} (hn:n<25) {w':World} {g:Nat} {v:Value} {s:Nat}
  (hg:Grow (Fs n) [g] w w') (ht:tb<w.heap.size) (hr:Own w' 3 v [g] ((symsTo lens ks n).map i64++[i64 s]))
  (hs:symsTo lens (ks+1) n=symsTo lens ks n++[s]) (ho:∀ m,n≠m->symsTo lens (ks+1) m=symsTo lens ks m) :
  IsTab3 (w'.setCell ⟨tb,26+n,none⟩ v) tb lens kl kf (ks+1) (C.setIfInBounds (26+n) v) (fun m=>if m=n then v else vs m) (fun m=>if m=n then [g] else Fs m):=by
 have ab:tb∉Fs n:=fun hm=>by have:=h.new n _ hm;omega
 have ac:tb<g:=by
  rcases hg.new g (by simp) with h1 | h1
  ·exact h.new n _ h1
  ·omega
 have aa:∀ m,m<25->m≠n->∀ x∈Fs m,x≠g:=fun m hm hmn x hx he=>by
  subst he
  rcases hg.new x (by simp) with h1 | h1
  ·exact h.apart m n hm hn hmn x hx h1
  ·have:=(h.own m hm).lt x hx;omega
 refine ⟨(h.blk.chg hg.chg ab).set_ _ _,by rw [Array.size_setIfInBounds];exact h.size,by rw [Array.getElem?_setIfInBounds,if_neg (by omega)];exact h.long,fun m hm=>by rw [Array.getElem?_setIfInBounds,if_neg (by omega)];exact h.first m hm,fun m hm => ?_,fun m hm => ?_,fun m x hx => ?_,fun a b ha hb hab x hx hx' => ?_⟩
 ·rw [Array.getElem?_setIfInBounds]
  by_cases e:m=n
  ·subst e;rw [if_pos rfl,if_pos (by rw [h.size];omega),if_pos rfl]
  ·rw [if_neg (by omega),if_neg e];exact h.syms m hm
 ·by_cases e:m=n
  ·subst e
   simp only [if_pos rfl]
   rw [hs,zM]
   exact hr.far (by simp;omega) _
  ·simp only [if_neg e]
   rw [ho m (fun hh=>e hh.symm)]
   refine ((h.own m hm).chg hg.chg fun x hx hm'=>h.apart m n hm hn e x hx hm').far (fun hx=>by have:=h.new m _ hx;simp at this) _
 ·by_cases e:m=n
  ·rw [if_pos e] at hx;simp at hx;omega
  ·rw [if_neg e] at hx;exact h.new m x hx
 ·by_cases e:a=n
  ·rw [if_pos e] at hx
   rw [if_neg (fun hh=>hab (e.trans hh.symm))] at hx'
   simp at hx
   exact aa b hb (fun hh=>hab (e.trans hh.symm)) x hx' hx
  ·rw [if_neg e] at hx
   by_cases e2:b=n
   ·rw [if_pos e2] at hx'
    simp at hx'
    exact aa a ha e x hx hx'
   ·rw [if_neg e2] at hx'
    exact h.apart a b ha hb hab x hx hx'
def tab0:Array Value:=#[.int .i64 0,.int .u64 0,.int .u64 0,.int .u64 0,.int .u64 0,.int .u64 0,.int .u64 0,.int .u64 0,.int .u64 0,.int .u64 0,.int .u64 0,.int .u64 0,.int .u64 0,.int .u64 0,.int .u64 0,.int .u64 0,.int .u64 0,.int .u64 0,.int .u64 0,.int .u64 0,.int .u64 0,.int .u64 0,.int .u64 0,.int .u64 0,.int .u64 0,.int .u64 0,.slice none 0 0,.slice none 0 0,.slice none 0 0,.slice none 0 0,.slice none 0 0,.slice none 0 0,.slice none 0 0,.slice none 0 0,.slice none 0 0,.slice none 0 0,.slice none 0 0,.slice none 0 0,.slice none 0 0,.slice none 0 0,.slice none 0 0,.slice none 0 0,.slice none 0 0,.slice none 0 0,.slice none 0 0,.slice none 0 0,.slice none 0 0,.slice none 0 0,.slice none 0 0,.slice none 0 0,.slice none 0 0]
theorem tab0_eq:tab0=(Value.int .i64 0::(List.replicate 25 (Value.int .u64 0)++List.replicate 25 (Value.slice none 0 0))).toArray:=rfl
theorem tab_new (w:World) (lens:List Nat):IsTab (w.alloc (.cells tab0 316)) w.heap.size lens 0 tab0 (fun _ => .slice none 0 0) (fun _=>[]):=by
 refine ⟨Blk.new w _ _,rfl,rfl,fun n hn => ?_,fun n hn => ?_,fun n _ => ?_,fun _ x hx=>by simp at hx,fun _ _ _ _ _ x hx=>by simp at hx⟩
 ·have e:firstTo lens 0 n=0:=by simp [firstTo,symsTo]
  rw [e,tab0_eq,List.getElem?_toArray,Nat.add_comm,List.getElem?_cons_succ,List.getElem?_append_left (by simpa using hn),List.getElem?_replicate,if_pos hn]
  rfl
 ·rw [tab0_eq,List.getElem?_toArray,show 26+n=(25+n)+1 by omega,List.getElem?_cons_succ,zS (by simp),zV,show 25+n-25=n by omega,List.getElem?_replicate,if_pos hn]
 ·have e:symsTo lens 0 n=[]:=by simp [symsTo]
  rw [e]
  exact Own.nil _ _
theorem list_ok (lens : List Nat) (A B : Option Addr) (ca cb : Nat) (w : World) (hf : FullL lens) (hA : Cells i64 w A lens) (hB : Cells u64v w B (wordsL lens)) (hBl : (wordsL lens).length = lens.length) :
    Calls Tryz.prog 267 #[.slice A lens.length ca,.slice B (wordsL lens).length cb] w fun e w'=>∃ tb C vs Fs,e=.returned (.pointer (some ⟨tb,0,none⟩))/\IsTab w' tb lens (rankL lens).length C vs Fs/\Chg [] w w'/\w.heap.size<=tb:=by
  have a4:=fun wz hc=>ranked_ok lens A ca wz hf.n2 hc
  have bu:=rank_len lens 24
  have aF:(rankL lens).length<=lens.length:=bu
  have bF:=hf.n2
  rw [hBl]
  obtain ⟨N,hN⟩:=zX (lens.length)
  rw [<-hN] at a4 aF bF hBl ⊢
  obtain ⟨M,hM⟩:=zX ((rankL lens).length)
  rw [<-hM] at aF ⊢
  have HN:=hid hN
  have HM:=hid hM
  have aY:=hid hBl
  have HA:=hid hA
  have HB:=hid hB
  have a7:=hid a4
  have HF:=hid hf
  clear hN hM hBl hA hB a4 bu hf
  go_enter Tryz.func267,Tryz.ntmps267
  go_wp2_with fail
  obtain ⟨tb,a2⟩:=zX (w.heap.size)
  obtain ⟨w1,ay⟩:=zX (w.alloc (.cells tab0 316))
  have ab:IsTab w1 tb lens 0 tab0 (fun _ => .slice none 0 0) (fun _=>[]):=by rw [ay,a2];exact tab_new w lens
  have aA:Chg [] w w1:=by rw [ay];exact (zR [] w).alloc _
  have aH:=hid a2
  have bH:=hid ay
  have bd:Hid (w1=w.alloc (.cells #[.int .i64 0,.int .u64 0,.int .u64 0,.int .u64 0,.int .u64 0,.int .u64 0,.int .u64 0,.int .u64 0,.int .u64 0,.int .u64 0,.int .u64 0,.int .u64 0,.int .u64 0,.int .u64 0,.int .u64 0,.int .u64 0,.int .u64 0,.int .u64 0,.int .u64 0,.int .u64 0,.int .u64 0,.int .u64 0,.int .u64 0,.int .u64 0,.int .u64 0,.int .u64 0,.slice none 0 0,.slice none 0 0,.slice none 0 0,.slice none 0 0,.slice none 0 0,.slice none 0 0,.slice none 0 0,.slice none 0 0,.slice none 0 0,.slice none 0 0,.slice none 0 0,.slice none 0 0,.slice none 0 0,.slice none 0 0,.slice none 0 0,.slice none 0 0,.slice none 0 0,.slice none 0 0,.slice none 0 0,.slice none 0 0,.slice none 0 0,.slice none 0 0,.slice none 0 0,.slice none 0 0,.slice none 0 0] 316)):=hid ay
  clear ay a2
  rw [<-aH.out,<-bd.out]
  refine (a7.out w1 (HA.out.same aA)).mono ?_
  rintro e w2 ⟨v2,F2,rfl,ar,aw,bo⟩
  obtain ⟨Ar,cr,rfl,a9,aW,bv⟩:=ar.open_map
  rw [<-HM.out]
  have a5:=ab.blk.lt
  have bs:=(HA.out.same aA).same aw
  have bq:=(HB.out.same aA).same aw
  have bl:IsTab w2 tb lens 0 tab0 (fun _ => .slice none 0 0) (fun _=>[]):=ab.same aw
  have aZ:=hid (aA.trans_same aw)
  have aB:Apt A lens [tb]:=Apt.fresh HA.out (F:=[tb]) (by simp;exact Nat.le_of_eq aH.out.symm)
  have aM:Apt B (wordsL lens) [tb]:=Apt.fresh HB.out (F:=[tb]) (by simp;exact Nat.le_of_eq aH.out.symm)
  have aE:Apt Ar (rankL lens) [tb]:=ar.apt (fun x hx hm=>by have:=bo x hx;simp at hm;omega)
  have aG:=hid (And.intro aB (And.intro aM aE))
  have ba:=hid bs
  have a6:=hid bq
  have a1:=hid bv
  have bA:tb<w2.heap.size:=by have:=aw.size;omega
  clear a5 ab aA aw ar bo a9 aW bs bq bv aB aM aE
  go_wp2_with fail
  go_loopg [7,8,14] M (fun j va vb iv wr=>∃ (k:Nat) (C:Array Value) (vs:Nat->Value) (Fs:Nat->List Nat),iv=.int .i64 k/\k+j=M/\Hid (IsTab wr tb lens k C vs Fs)/\Hid (Chg [tb] w2 wr)/\Hid (∀ n,∀ x∈Fs n,w2.heap.size<=x))
  case atStart=>exact ⟨0,tab0,_,_,rfl,by omega,hid bl,hid (zR _ _),hid (by simp)⟩
  case round =>
    clear bl
    obtain ⟨k,C,vs,Fs,rfl,bI,HT,aN,ax⟩:=hrel
    rcases gk with _ | j
    · obtain rfl:M=k:=by omega
      have u1:decide (M<M)=false:=by simp
      have bB:decide ((M:Int)<(M:Int))=false:=by simp
      go_wp2_with fail
      go_ret
      exact ⟨tb,C,vs,Fs,rfl,HT.out,aZ.out.trans aN.out (fun x hx => .inr (by simp at hx;have:=aH.out;omega)),by have:=aH.out;omega⟩
    · have bw:k<M:=by omega
      have al:k<(rankL lens).length:=by rw [<-HM.out];exact bw
      have u1:decide (k<M)=true:=zB bw
      have bB:decide ((k:Int)<(M:Int))=true:=zB (by omega)
      obtain ⟨bn,aI,az⟩:=rank_lenAt al
      have aJ:(rankL lens)[k]=(rankL lens).getD k 0:=by rw [zD,zF al];rfl
      have bD:=fun n=>symsTo_succ al n
      have aT:=fun n hn=>symsTo_other (n:=n) al hn
      have aj:=symsTo_same al rfl
      have ai:=fun n hn=>firstTo_other (n:=n) al hn
      have ak:=fun he=>firstTo_new al rfl he
      have aa:=fun he=>firstTo_old al rfl he
      have ah:longTo lens (k+1)=lenAt lens ((rankL lens).getD k 0):=rfl
      obtain ⟨gr,bC,rfl,aP⟩:=(a1.out.keep aG.out.2.2 aN.out).at_ al
      rw [aJ] at aP
      obtain ⟨s,hs⟩:=zX ((rankL lens).getD k 0)
      rw [<-hs] at bn aI az aT aj ai ak aa ah aP
      obtain ⟨n,hn⟩:=zX (lenAt lens s)
      rw [<-hn] at bn aI aT aj ai ak aa ah
      obtain ⟨ga,oa,rfl,a3⟩:=(ba.out.keep aG.out.1 aN.out).at_ az
      have bj:lens[s]=n:=by rw [hn];unfold lenAt;rw [zD,zF az];rfl
      rw [bj] at a3
      have a0:s<(wordsL lens).length:=by rw [aY.out,HN.out];exact az
      obtain ⟨gw,ow,rfl,aS⟩:=(a6.out.keep aG.out.2.1 aN.out).at_ a0
      have bk:(wordsL lens)[s]=wordOf lens s:=by unfold wordOf;rw [zD,zF a0];rfl
      rw [bk] at aS
      obtain ⟨wd,bh⟩:=zX (wordOf lens s)
      rw [<-bh] at aS ak
      have d1:wr.cell? ⟨gr,bC+k,none⟩=some (.int .i64 s):=aP
      have d2:wr.cell? ⟨ga,oa+s,none⟩=some (.int .i64 n):=a3
      have d3:wr.cell? ⟨gw,ow+s,none⟩=some (.int .u64 wd):=aS
      have ac:n<25:=by omega
      have af:=HT.out.blk
      have d4:wr.cell? ⟨tb,26+n,none⟩=some (vs n):=by rw [af.cell];exact HT.out.syms n ac
      have av:=HT.out.own n ac
      have aQ:=symsTo_len lens k n
      have bp:=HN.out
      obtain ⟨Av,cv,aR,au,aD,a8⟩:=av.open_map
      obtain ⟨q,hq⟩:=zX ((symsTo lens k n).length)
      rw [<-hq] at aR au aQ
      have bG:q<=1024:=by rw [<-bp] at aQ;omega
      rw [aR] at d4
      have bz:s<N:=by omega
      have aO:=hid (And.intro aT (And.intro aj (And.intro ai (And.intro ak (And.intro aa ah)))))
      have HQ:=hid hq
      have br:=hid aR
      have bg:=hid af
      have bJ:=hid (And.intro hs hn)
      clear aP a3 aS aJ bD aT aj ai ak aa ah hs hn bj bk bh a0 az al hq aR a8 bp
      have ap:=aN.out
      have bi:=af.frozen (1+n)
      have bm:=af.frozen (26+n)
      have bf:wr.cell? ⟨tb,1+n,none⟩=some (.int .u64 (firstTo lens k n:Int)):=by rw [af.cell];exact HT.out.first n ac
      by_cases hq0:q=0
      · subst hq0
        go_wp2_with fail
        refine wp_region_quiet_tail 9 (by kernel_rfl) (by kernel_rfl) ?_
        simp only [List.take_succ_cons,List.take_zero,List.drop_succ_cons,List.drop_zero]
        repeat (go_big_quiet_step (fail))
        refine wpQuiet_nil ?_
        intro _ bx
        obtain ⟨nq,rfl⟩:=bx
        go_wp2_with fail
        obtain ⟨ho,aj,ai,ak,aa,ah⟩:=aO.out
        have he:symsTo lens k n=[]:=List.eq_nil_of_length_eq_zero HQ.out.symm
        have ab:=(HT.out.same ((zR [] wr).drewN nq)).first_new ac (ak he) (fun m e=>ai m e)
        have aq:Chg [tb] w2 ((wr.drewN nq).setCell ⟨tb,1+n,none⟩ (.int .u64 wd)):=(ap.drewN nq).setCell (.inl (by simp)) _
        generalize (wr.drewN nq).setCell ⟨tb,1+n,none⟩ (.int .u64 wd)=wq at ab aq ⊢
        generalize C.setIfInBounds (1+n) (.int .u64 wd)=C1 at ab
        have aK:=br.out
        have aC:(n:Int)<25:=by omega
        have ae:=ab.own n ac
        rw [aK] at ae
        have ag:=ab.blk
        have am:=ab.syms n ac
        rw [aK] at am
        have bE:=ag.lt
        have n0:wq.cell? ⟨tb,26+n,none⟩=some (.slice Av 0 cv):=by rw [ag.cell];exact am
        have aU:tb∉Fs n:=fun hm=>by have:=ab.new n _ hm;omega
        have n1:(wq.alloc (.cells #[.int .i64 s] 3)).cell? ⟨tb,26+n,none⟩=some (.slice Av 0 cv):=by rw [(ag.alloc _).cell];exact am
        have ad:(List.map i64 (symsTo lens k n)).length=0:=by rw [zE];exact HQ.out.symm
        clear aQ ap bf bi bm au aD d1 d2 d3 d4 a1 ba a6 HA HB a7 HF aY aG HT af bg av
        go_region_law (refine step_append_o1 (by rfl) (by rfl) int_elem (by rfl) (by rfl) ((ae.alloc (.cells #[.int .i64 (s : Int)] 3)).drew) (.int .i64 (s : Int)) (by rfl) (by simp [go_sem]) (by rfl) (by rw [ad]; omega) (by rw [ad]; omega) ?_; intro g2 aX w3 aL ao; have an := ((ag.alloc (.cells #[.int .i64 (s : Int)] 3)).drew).chg ao.chg aU; have y1 : w3.cell? ⟨tb, 26 + n, none⟩ = some (.slice Av 0 cv) := by rw [an.cell]; exact am
                       have z1:=an.frozen (26+n);rw [ad])
        all_goals
          have y0:w3.cell? ⟨tb,0,none⟩=some (.int .i64 (longTo lens k:Int)):=by rw [an.cell];exact ab.long
          have z0:=an.frozen 0
          go_wp2_with fail
          rw [ad] at aL
          go_roundg j
          case measure=>omega
          case rel =>
            obtain ⟨ho,aj,ai,ak,aa,ah⟩:=aO.out
            have be:tb<(wq.alloc (.cells #[.int .i64 s] 3)).drew.heap.size:=((ag.alloc (.cells #[.int .i64 s] 3)).drew).lt
            have aV:=(((ab.same (((zR [] wq).alloc (.cells #[.int .i64 s] 3)).drew)).syms_new ac ao be aL.toOwn aj ho).long_new ah)
            have bb:Chg [tb] w2 w3:=(aq.alloc (.cells #[.int .i64 s] 3)).drew.trans ao.chg (fun x hx => .inr (ax.out n x hx))
            refine ⟨k+1,_,_,_,by go_num,by omega,hid aV,hid ((bb.setCell (.inl (by simp)) _).setCell (.inl (by simp)) _),hid ?_⟩
            intro m x hx
            by_cases e:m=n
            · rw [if_pos e] at hx
              have bc:x=g2:=by simpa using hx
              subst bc
              rcases ao.new x (by simp) with h1 | h1
              · exact ax.out n x h1
              · exact Nat.le_trans ((aq.alloc (.cells #[.int .i64 s] 3)).drew.size) h1
            · rw [if_neg e] at hx
              exact ax.out m x hx
      · have u2:((q:Int)==0)=false:=by rw [beq_eq_false_iff_ne];omega
        go_wp2_with fail
        obtain ⟨ho,aj,ai,ak,aa,ah⟩:=aO.out
        have he:symsTo lens k n≠[]:=fun hh=>hq0 (by rw [HQ.out,hh];rfl)
        have ab:=HT.out.first_old (fun m=>by
          by_cases e:n=m
          · subst e;exact aa he
          · exact ai m e)
        have aq:Chg [tb] w2 wr:=ap
        generalize wr=wq at ab aq ⊢
        generalize C=C1 at ab
        have aK:=br.out
        have aC:(n:Int)<25:=by omega
        have ae:=ab.own n ac
        rw [aK] at ae
        have ag:=ab.blk
        have am:=ab.syms n ac
        rw [aK] at am
        have bE:=ag.lt
        have n0:wq.cell? ⟨tb,26+n,none⟩=some (.slice Av q cv):=by rw [ag.cell];exact am
        have aU:tb∉Fs n:=fun hm=>by have:=ab.new n _ hm;omega
        have n1:(wq.alloc (.cells #[.int .i64 s] 3)).cell? ⟨tb,26+n,none⟩=some (.slice Av q cv):=by rw [(ag.alloc _).cell];exact am
        have ad:(List.map i64 (symsTo lens k n)).length=q:=by rw [zE];exact HQ.out.symm
        clear aQ ap bf bi bm au aD d1 d2 d3 d4 a1 ba a6 HA HB a7 HF aY aG HT af bg av
        go_region_law (refine step_append_o1 (by rfl) (by rfl) int_elem (by rfl) (by rfl) ((ae.alloc (.cells #[.int .i64 (s : Int)] 3)).drew) (.int .i64 (s : Int)) (by rfl) (by simp [go_sem]) (by rfl) (by rw [ad]; omega) (by rw [ad]; omega) ?_; intro g2 aX w3 aL ao; have an := ((ag.alloc (.cells #[.int .i64 (s : Int)] 3)).drew).chg ao.chg aU; have y1 : w3.cell? ⟨tb, 26 + n, none⟩ = some (.slice Av q cv) := by rw [an.cell]; exact am
                       have z1:=an.frozen (26+n);rw [ad])
        all_goals
          have y0:w3.cell? ⟨tb,0,none⟩=some (.int .i64 (longTo lens k:Int)):=by rw [an.cell];exact ab.long
          have z0:=an.frozen 0
          go_wp2_with fail
          rw [ad] at aL
          go_roundg j
          case measure=>omega
          case rel =>
            obtain ⟨ho,aj,ai,ak,aa,ah⟩:=aO.out
            have be:tb<(wq.alloc (.cells #[.int .i64 s] 3)).drew.heap.size:=((ag.alloc (.cells #[.int .i64 s] 3)).drew).lt
            have aV:=(((ab.same (((zR [] wq).alloc (.cells #[.int .i64 s] 3)).drew)).syms_new ac ao be aL.toOwn aj ho).long_new ah)
            have bb:Chg [tb] w2 w3:=(aq.alloc (.cells #[.int .i64 s] 3)).drew.trans ao.chg (fun x hx => .inr (ax.out n x hx))
            refine ⟨k+1,_,_,_,by go_num,by omega,hid aV,hid ((bb.setCell (.inl (by simp)) _).setCell (.inl (by simp)) _),hid ?_⟩
            intro m x hx
            by_cases e:m=n
            · rw [if_pos e] at hx
              have bc:x=g2:=by simpa using hx
              subst bc
              rcases ao.new x (by simp) with h1 | h1
              · exact ax.out n x h1
              · exact Nat.le_trans ((aq.alloc (.cells #[.int .i64 s] 3)).drew.size) h1
            · rw [if_neg e] at hx
              exact ax.out m x hx
theorem div_step {W j y:Nat} (h:W / 2^j%2=y):2*(W / 2^(j+1))+y=W / 2^j:=by
 rw [Nat.pow_succ,<-Nat.div_div_eq_div_mul]
 omega
theorem tread_ok (w:World) (b:Nat) (F ds:List Nat) (p:Nat) (lens:List Nat) (s tb:Nat) (C:Array Value) (vs:Nat->Value) (Fs:Nat->List Nat) (h:IsRd w b F ds p) (hf:FullL lens) (hs:0<lenAt lens s)
  (ht:IsTab w tb lens (fullK lens) C vs Fs) (hb:b<tb) (ha:Ahead ds p (symBits lens s)) :
  Calls Tryz.prog 268 #[.pointer (some ⟨tb,0,none⟩),.pointer (some ⟨b,0,none⟩)] w fun e w'=>e=.returned (.tuple #[.int .i64 s,.int .i64 0])/\IsRd w' b F ds (p+lenAt lens s)/\Chg [b] w w':=by
 have av:=hf.le
 have az:=long_full av hs
 have hW:=wordOf_lt hf hs
 have aa:=fun n h0 hn=>read_pass av (s:=s) (n:=n) hs h0 hn
 have ab:=read_hit av hs
 have aE:=ha.le h.at_le
 unfold symBits at ha aE
 rw [bitsOf_len] at aE
 have a2:=hf.n2
 obtain ⟨L,hL⟩:=zX (lenAt lens s)
 rw [<-hL] at hs az hW aa ab ha aE ⊢
 obtain ⟨W,aS⟩:=zX (wordOf lens s)
 rw [<-aS] at hW aa ab ha
 obtain ⟨K,hK⟩:=zX (fullK lens)
 rw [<-hK] at az aa ab ht
 obtain ⟨lo,ag⟩:=zX (longTo lens K)
 have aD:L<=24:=by omega
 have an:W<16777216:=Nat.lt_of_lt_of_le hW (show 2^L<=2^24 from Nat.pow_le_pow_right (by decide) aD)
 have aU:=hid ag
 rw [<-ag] at az
 have HP:=hid aa
 have HH:=hid ab
 have HA:=hid ha
 have HW:=hid hW
 have HT:=hid ht
 clear av aa ab ha ht hL aS hK ag hf
 go_enter Tryz.func268,Tryz.ntmps268
 go_wp2_with fail
 go_loopg [6,7,8] (L-1) (fun j va vb vc wr=>∃ n:Nat,0<n/\n+j=L/\vb=.int .i64 n/\va=.int .u64 (W / 2^(j+1):Nat)/\IsRd wr b F ds (p+(n-1))/\Hid (Chg [b] w wr))
 case atStart =>
  refine ⟨1,by omega,by omega,rfl,?_,h,hid (zR _ _)⟩
  rw [show L-1+1=L by omega,Nat.div_eq_of_lt HW.out]
  rfl
 case round =>
  obtain ⟨n,aT,a1,rfl,rfl,aK,aN⟩:=hrel
  obtain ⟨j,hj⟩:=zX (gk)
  have aq:=hid (HT.out.chg aN.out (fun x hx=>by simp at hx;omega))
  have d0:wr.cell? ⟨tb,0,none⟩=some (.int .i64 lo):=by rw [aq.out.blk.cell,aU.out];exact aq.out.long
  have u1:decide ((n:Int)<=(lo:Int))=true:=zB (by omega)
  have ac:=rget_ok wr b F ds (p+(n-1)) 1 aK (by omega) (by omega)
  have am:=bitAt_lt ds (p+(n-1))
  have aJ:W / 2^gk%2=bitAt ds (p+(n-1)):=by
   have h1:=HA.out.get (bitsOf_get W L (n-1) (by omega))
   rw [show L-1-(n-1)=gk by omega] at h1
   exact h1.symm
  rw [show rdNum ds (p+(n-1)) 1=bitAt ds (p+(n-1)) by simp [rdNum],show p+(n-1)+1=p+n by omega] at ac
  have ak:=div_step aJ
  obtain ⟨y,hy⟩:=zX (bitAt ds (p+(n-1)))
  rw [<-hy] at ac am ak
  obtain ⟨v,hv⟩:=zX (W / 2^(gk+1))
  obtain ⟨v1,aw⟩:=zX (W / 2^gk)
  have aV:v<16777216:=by rw [hv];exact Nat.lt_of_le_of_lt (Nat.div_le_self _ _) an
  have aO:v1<16777216:=by rw [aw];exact Nat.lt_of_le_of_lt (Nat.div_le_self _ _) an
  rw [<-hv] at ak ⊢
  rw [<-aw] at ak
  have aY:bits BinOp.or IntKind.u64 ((v:Int)*2) (y:Int)=(v1:Int):=by
   have:=bor_u64_bit (v:=v) (b:=y) (by omega) am
   rw [ak] at this
   rw [<-this]
   congr 1
   omega
  have au:=hid aw
  clear aJ ak hy hv aw hj
  go_wp2_with fail
  refine ac.mono ?_
  rintro e w1 ⟨rfl,ap,aQ⟩
  clear ac
  have aj:=err_ok w1 b F ds _ ap
  have ah:=aq.out.chg aQ (fun x hx=>by simp at hx;omega)
  have ad:=hid (aN.out.trans aQ (fun x hx => .inl hx))
  have ae:n<25:=by omega
  have aR:(n:Int)<25:=by omega
  obtain ⟨fi,aH⟩:=zX (firstTo lens K n)
  have d1:w1.cell? ⟨tb,1+n,none⟩=some (.int .u64 fi):=by rw [ah.blk.cell,aH];exact ah.first n ae
  have d2:w1.cell? ⟨tb,26+n,none⟩=some (vs n):=by rw [ah.blk.cell];exact ah.syms n ae
  obtain ⟨Av,cv,aG,-,-,aI⟩:=(ah.own n ae).open_map
  have aM:=symsTo_len lens K n
  obtain ⟨q,hq⟩:=zX ((symsTo lens K n).length)
  rw [<-hq] at aG aM
  rw [aG] at d2
  have a0:q<=1024:=by omega
  have HQ:=hid hq
  have aF:=hid aH
  have aX:=hid aI
  clear aM hq aH aI aG ah aq aK d0
  go_wp2_with fail
  refine aj.mono ?_
  rintro e aZ ⟨rfl,rfl⟩
  clear aj
  rcases gk with _ | j
  ·obtain rfl:n=L:=by omega
   obtain ⟨aL,ar,al⟩:=HH.out
   have aC:v1=W:=by rw [au.out];simp
   rw [<-aC,<-aF.out,<-HQ.out] at ar
   rw [<-aC,<-aF.out] at aL al
   obtain ⟨ix,ax⟩:=zX (v1-fi)
   rw [<-ax] at ar al
   have aA:(v1:Int)-(fi:Int)=(ix:Int):=by omega
   have af:ix<(symsTo lens K n).length:=by rw [<-HQ.out];exact ar
   obtain ⟨ga,oa,rfl,ay⟩:=aX.out.at_ af
   rw [zD,zF af] at al
   have ao:(symsTo lens K n)[ix]=s:=al
   rw [ao] at ay
   have d3:w1.cell? ⟨ga,oa+ix,none⟩=some (.int .i64 s):=ay
   have t1:decide (v1<fi)=false:=zA (by omega)
   have aP:decide ((v1:Int)<(fi:Int))=false:=zA (by omega)
   have t2:decide (ix<q)=true:=zB ar
   have aW:decide ((ix:Int)<(q:Int))=true:=zB (by omega)
   have aB:ix<1024:=by omega
   clear aL al ao ay ax aC af HH
   go_wp2_with fail
   go_ret2
   exact ⟨rfl,ap,ad.out⟩
  ·have ai:=HP.out n aT (by omega)
   rw [show L-n=j+1 by omega,<-au.out,<-aF.out,<-HQ.out] at ai
   rcases ai with ai | ai
   ·have t1:decide (v1<fi)=true:=zB ai
    have aP:decide ((v1:Int)<(fi:Int))=true:=zB (by omega)
    go_wp2_with fail
    go_roundg j
    case measure=>omega
    case rel=>exact ⟨n+1,by omega,by omega,by go_num,by rw [au.out],by simpa using ap,ad⟩
   ·obtain ⟨ix,ax⟩:=zX (v1-fi)
    have aA:(v1:Int)-(fi:Int)=(ix:Int):=by omega
    have t1:decide (v1<fi)=false:=zA (by omega)
    have aP:decide ((v1:Int)<(fi:Int))=false:=zA (by omega)
    have t2:decide (ix<q)=false:=zA (by omega)
    have aW:decide ((ix:Int)<(q:Int))=false:=zA (by omega)
    have aB:ix<16777216:=by omega
    clear ax ai
    go_wp2_with fail
    go_roundg j
    case measure=>omega
    case rel=>exact ⟨n+1,by omega,by omega,by go_num,by rw [au.out],by simpa using ap,ad⟩
theorem symsBits_at {lens l:List Nat} {i:Nat} (h:i<l.length):symsBits lens (l.drop i)=symBits lens l[i]++symsBits lens (l.drop (i+1)):=by
 rw [List.drop_eq_getElem_cons h]
 rfl
theorem symBits_len (lens:List Nat) (s:Nat):(symBits lens s).length=lenAt lens s:=bitsOf_len _ _
theorem pfget_ok (w:World) (b:Nat) (F ds:List Nat) (p:Nat) (lens l:List Nat) (A:Option Addr) (cap:Nat) (h:IsRd w b F ds p) (hf:FullL lens) (hc:Cells i64 w A lens) (hl:l.length<=4096)
  (hs:∀ s∈l,s<lens.length/\0<lenAt lens s) (ha:Ahead ds p (symsBits lens l)) :
  Calls Tryz.prog 236 #[.pointer (some ⟨b,0,none⟩),.slice A lens.length cap,.int .i64 l.length] w fun e w'=>∃ v G,e=.returned (.tuple #[v,.int .i64 0])/\Own w' 3 v G (l.map i64)/\IsRd w' b F ds (p+(symsBits lens l).length)/\Chg [b] w w'/\∀ x∈G,w.heap.size<=x:=by
 have ax:=codes_ok lens A cap w hf hc
 have ae:=fun B cb w' hA' hB=>list_ok lens A B cap cb w' hf hA' hB (wordsTo_len lens _)
 have aY:=h.lt b h.mem
 have aj:(wordsL lens).length=lens.length:=wordsTo_len lens _
 obtain ⟨n,hn⟩:=zX (lens.length)
 obtain ⟨m,hm⟩:=zX (l.length)
 have aN:=hf.n1
 have aU:=hf.n2
 rw [<-hn] at ax ae hs aN aU aj ⊢
 rw [<-hm] at hl ⊢
 rw [aj] at ae
 have HN:=hid hn
 have HM:=hid hm
 have HS:=hid hs
 have HF:=hid hf
 have HA:=hid ha
 have HC:=hid hc
 have aI:=hid ae
 have aJ:=hid aj
 have t1:decide ((m:Int)<0)=false:=by simp
 have t2:decide ((4194304:Int)<(m:Int))=false:=zA (by omega)
 clear hn hm hs hf ha hc ae aj
 go_enter Tryz.func236,Tryz.ntmps236
 go_wp2_with fail
 refine ax.mono ?_
 rintro e w1 ⟨vw,gw,rfl,aF,ao,aW⟩
 have ad:=aF.toOwn
 obtain ⟨cw,rfl,az,aS,au,_⟩:=aF.open_map
 have aa:=ad.cells
 rw [aJ.out] at az ⊢
 have aq:=h.same ao
 have ae:=aI.out (some ⟨gw,0,none⟩) cw w1 (HC.out.same ao) aa
 clear ax au h ad aa
 go_wp2_with (go_at_call 69;refine (err_ok _ b F ds _ aq).mono ?_;rintro e w' ⟨rfl,rfl⟩)
 refine ae.mono ?_
 rintro e w2 ⟨tb,C,vs,Fs,rfl,aE,aD,aV⟩
 have aH:=aq.same aD
 have ai:=ao.trans_same aD
 have aL:b<tb:=by have:=ao.size;omega
 have aK:=hid aE
 clear ae aE aq
 have ah:=aH.lt
 have af:=hid ah
 clear ah
 go_wp2_with fail
 go_loopg [11,12,13,38] m (fun j va vb vc iv wr=>∃ (i p':Nat) (G:List Nat),iv=.int .i64 i/\i+j=m/\Own wr 3 va G ((l.take i).map i64)/\IsRd wr b F ds p'/\Hid (Ahead ds p' (symsBits lens (l.drop i)))/\Hid (p'+(symsBits lens (l.drop i)).length=p+(symsBits lens l).length)/\Hid (Chg [b] w2 wr)/\Hid (∀ x∈G,w2.heap.size<=x))
 case atStart=>exact ⟨0,p,[],rfl,by omega,Own.nil _ _,aH,HA,hid rfl,hid (zR _ _),hid (by simp)⟩
 case round =>
  obtain ⟨i,p',G,rfl,aX,ab,aB,Ha,Hp,an,HG⟩:=hrel
  rcases gk with _ | j
  ·obtain rfl:i=m:=by omega
   have t3:decide ((i:Int)<(i:Int))=false:=by simp
   go_wp2_with fail
   go_ret2
   have e1:l.take i=l:=by rw [HM.out,zN]
   have e2:p'=p+(symsBits lens l).length:=by have:=Hp.out;rw [HM.out,List.drop_length] at this;simpa [symsBits] using this
   rw [e1] at ab
   refine ⟨_,G,rfl,ab,e2 ▸ aB,(ai.mono (by simp)).trans_same an.out,fun x hx=>Nat.le_trans ai.size (HG.out x hx)⟩
  ·have aQ:i<m:=by omega
   have ay:i<l.length:=by rw [<-HM.out];exact aQ
   have t3:decide ((i:Int)<(m:Int))=true:=zB (by omega)
   obtain ⟨s,aw⟩:=zX (l[i])
   have hs:=HS.out l[i] (zG ay)
   have am:=symsBits_at (lens:=lens) ay
   rw [<-aw] at hs am
   have al:=Ha.out
   rw [am] at al
   have aM:=hid al.right
   have av:=take_snoc' l ay
   rw [<-aw] at av
   have ag:=tread_ok wr b F ds p' lens s tb C vs Fs aB HF.out hs.2 (aK.out.chg an.out (fun x hx=>by simp at hx;omega)) aL al.left
   have aT:=hid am
   have aR:=hid av
   clear hs am al av aw
   go_wp2_with fail
   refine ag.mono ?_
   rintro e w3 ⟨rfl,aG,ar⟩
   have ac:=ab.chg ar (fun x hx hm=>by simp at hm;have:=HG.out x hx;have:=af.out b aG.mem;omega)
   have ak:Chg [] w3 (w3.alloc (.cells #[.int .i64 s] 3)):=(zR [] w3).alloc _
   have aA:=ac.same ak
   have aC:(l.take i).length=i:=by rw [zI];omega
   clear ab ac ag
   go_wp2_with (at_builtin;refine wpList_append_o1 rfl rfl int_elem rfl rfl aA (.int .i64 s) rfl ?c1 ?c2 ?c3 ?c4 ?_)
   case c1=>simp [go_sem]
   case c2=>rfl
   case c3=>rw [zE,aC];omega
   case c4=>rw [zE,aC];omega
   intro g2 aO w4 aP ap
   go_wp2_with fail
   go_roundg j
   case measure=>omega
   case rel =>
    refine ⟨i+1,p'+lenAt lens s,[g2],by go_num,by omega,?_,(aG.same ak).chg ap.chg (fun x hx hm=>by have:=HG.out x hm;have:=af.out x hx;omega),?_,hid ?_,hid ?_,hid ?_⟩
    ·have h9:=aP.toOwn
     rw [aR.out,zM]
     simpa [i64] using h9
    ·have:=aM.out
     rw [symBits_len] at this
     exact hid this
    ·have:=Hp.out
     rw [aT.out,zC,symBits_len] at this
     omega
    ·exact ((an.out.trans ar (fun x hx => .inl hx)).trans ak (by simp)).trans ap.chg (fun x hx => .inr (HG.out x hx))
    ·intro x hx
     rcases ap.new x hx with h9 | h9
     ·exact HG.out x h9
     ·have:=an.out.size;have:=ar.size;have:=ak.size;omega
theorem lens_plain {freq:List Nat} (h2:freq.length<=256) (hpos:0<(coinsTo freq freq.length).length):LensOk freq (lensFn freq):=by
 rcases zZ (coinsTo freq freq.length).length 2 with h | h
 ·obtain ⟨e,he⟩:=List.length_eq_one_iff.1 (show (coinsTo freq freq.length).length=1 by omega)
  obtain ⟨s,hs,_,rfl⟩:=mem_coinsTo (show e∈coinsTo freq freq.length by rw [he];simp)
  have h3:=lens_one (by omega) he
  rw [lensFn_one he]
  exact h3.2
 ·have aa:=coinsTo_len freq freq.length
  obtain ⟨f1,f2,f3⟩:=full_of_rows (freq:=freq) (by omega) h (rowAt_rows _ 11)
  rw [lensFn_many h]
  refine ⟨lensOf_len _ _,f1,f2,fun n hn => ?_⟩
  obtain ⟨s,_,rfl⟩:=List.mem_map.1 hn
  exact f3 s
theorem pref_ok {l:List Int} {W d:Nat} (hl0:0<l.length) (hmx:maxN (foldedN l W d)<256):FullL (prefLens l W d)/\∀ s∈foldedN l W d,s<(prefLens l W d).length/\0<lenAt (prefLens l W d) s:=by
 have ac:foldedN l W d≠[]:=fun e=>by have:=foldedN_len l W d;rw [e] at this;simp at this;omega
 have aa:=lens_plain (freq:=freqL (foldedN l W d)) (by rw [freqL_len];omega) (freqL_coins ac)
 refine ⟨aa.full,fun s hs => ?_⟩
 have hm:=maxN_ge hs
 have ab:s<(freqL (foldedN l W d)).length:=by rw [freqL_len];omega
 refine ⟨by unfold prefLens;rw [aa.len];exact ab,(aa.used s ab).2 ?_⟩
 rw [freqL_getD hm]
 exact List.count_pos_iff.2 hs
theorem foldedN_at {l:List Int} {W d i:Nat} (h:i<l.length):(foldedN l W d)[i]?=some (foldOf l W d i):=by
 simp [foldedN,h]
theorem getPrefixed_ok (w:World) (b:Nat) (F ds:List Nat) (p:Nat) (l:List Int) (W H d:Nat) (h:IsRd w b F ds p) (hw0:1<=W) (hw1:W<=16) (hh0:1<=H) (hh1:H<=16) (h0:1<=d) (h1:d<=16) (hl:l.length=W*H) (hs:SmpOk d l) (hmx:maxN (foldedN l W d)<256) (ha:Ahead ds p (prefBits l W d)) :
  Calls Tryz.prog 183 #[.pointer (some ⟨b,0,none⟩),.int .i64 W,.int .i64 H,.int .i64 d] w fun e w'=>∃ v g,e=.returned (.tuple #[v,.int .i64 0])/\Row w' 3 v g (l.map vi)/\IsRd w' b F ds (p+(prefBits l W d).length)/\Chg [b] w w'/\w.heap.size<=g:=by
 obtain ⟨n,hn⟩:=zX (l.length)
 have aW:=zL hw1 hh1
 have aN:=zL hw0 hh0
 have aZ:n<=256:=by rw [hn,hl];exact aW
 have aT:0<l.length:=by rw [hl];omega
 have bx:n<=64*W:=by rw [hn,hl,zY];exact Nat.mul_le_mul_right W (by omega)
 have bB:(W:Int)*(H:Int)=(n:Int):=by rw [hn,hl];simp
 obtain ⟨aa,ah⟩:=pref_ok aT hmx
 unfold prefBits at ha ⊢
 rw [zC]
 have ab:=foldedN_len l W d
 have ax:=fun i (hi:i<l.length)=>foldedN_at (W:=W) (d:=d) hi
 have aP:∀ x∈foldedN l W d,x<256:=fun x hx=>by have:=maxN_ge hx;omega
 obtain ⟨f,hf⟩:=zX (foldedN l W d)
 obtain ⟨lens,aX⟩:=zX (prefLens l W d)
 rw [<-aX] at aa ah ha ⊢
 rw [<-hf] at ah ha ab ax aP ⊢
 rw [<-hn] at ab ax
 have a6:=getTable_ok w b F ds p lens h aa ha.left
 have af:=fun i=>foldOf_lt l W h0 i
 have ak:=fun i=>fold_back hs W i
 have bE:=run_make1 (P:=Tryz.prog) int_elem rfl .i64 .i64 n (by omega) (by omega)
 have bz:=h.lt b h.mem
 have HN:=hid hn
 have HA:=hid ha.right
 have bp:=hid aa
 have bf:=hid ah
 have aA:=hid ab
 have bg:=hid ax
 have aQ:=hid af
 have bo:=hid ak
 have bc:=hid aP
 have HS:=hid hs
 have bH:=hid h.lt
 clear hn ha aa ah ab ax af ak aP hs hl h hf aX hmx aT aW aN
 go_enter Tryz.func183,Tryz.ntmps183
 go_wp2_with fail
 refine a6.mono ?_
 rintro e w1 ⟨v1,G1,rfl,am,a3,aY,bF⟩
 obtain ⟨A1,c1,rfl,bj,bv,a4⟩:=am.open_map
 have aJ:=pfget_ok w1 b F ds _ lens f A1 c1 a3 bp.out a4 (by rw [aA.out];omega) bf.out HA.out
 rw [aA.out] at aJ
 clear a6 am a4 a3
 go_wp2_with fail
 refine aJ.mono ?_
 rintro e w3 ⟨v2,G2,rfl,ag,ar,bd,br⟩
 obtain ⟨A2,c2,rfl,aF,bi,a0⟩:=ag.open_map
 rw [aA.out] at aF ⊢
 have a7:=aY.trans_same bd
 obtain ⟨G,hG⟩:=zX (w3.heap.size)
 obtain ⟨w4,aB⟩:=zX (w3.alloc (.cells (Array.replicate n (Value.int .i64 0)) 3))
 have aj:Row w4 3 (.slice (some ⟨G,0,none⟩) n n) G ((fillL ([]:List Int) n).map vi):=by
  have h9:=Row.zeros w3 n (by omega)
  rw [<-hG] at h9
  rw [aB]
  exact h9
 have az:Chg [] w3 w4:=by rw [aB];exact (zR [] w3).alloc _
 have aI:=ar.same az
 have aR:=a7.trans az (by simp)
 have aq:=a0.same az
 have bD:=ar.lt b ar.mem
 have ao:Apt A2 f [b,G]:=ag.apt (fun x hx hm=>by
  have h5:=br x hx
  have h6:=ag.lt x hx
  have h7:=aY.size
  simp at hm
  omega)
 have bC:=a7.size
 have bu:=hid ar.lt
 have HG:=hid hG
 have bl:=hid ao
 have bh:=hid aq
 have be:Hid (p+(tableBits lens).length+(symsBits lens f).length=p+((tableBits lens).length+(symsBits lens f).length)):=hid (by omega)
 have a9:=hid aB
 clear aJ ar az hG ao a0 aq ag aB
 go_wp2_with fail
 rw [<-a9.out,<-HG.out]
 go_loopg [14,15,16,17,44] n (fun j va vb vc vd iv wr=>∃ (i:Nat),iv=.int .i64 i/\i+j=n/\Row wr 3 (.slice (some ⟨G,0,none⟩) n n) G ((fillL (l.take i) n).map vi)/\Hid (Chg [G] w4 wr))
 case atStart=>exact ⟨0,rfl,by omega,by simpa using aj,hid (zR _ _)⟩
 case round =>
  clear aj
  obtain ⟨i,rfl,bI,ad,aC⟩:=hrel
  rcases gk with _ | j
  ·obtain rfl:n=i:=by omega
   have u2:decide ((n:Int)<(n:Int))=false:=by simp
   have bm:decide (n<n)=false:=by simp
   have e:fillL (l.take n) n=l:=by
    have:=fill_all l
    rw [<-HN.out] at this
    exact this
   rw [e] at ad
   clear e
   go_wp2_with fail
   go_ret2
   refine ⟨_,G,rfl,ad,(aI.chg aC.out (fun z hz hm=>by simp at hm;have:=bu.out z hz;have:=HG.out;omega)).cast be.out,aR.trans aC.out (fun z hz => .inr (by simp at hz;have:=HG.out;omega)),by have:=HG.out;omega⟩
  ·have al:i<n:=by omega
   have u2:decide ((i:Int)<(n:Int))=true:=zB (by omega)
   have bm:decide (i<n)=true:=zB al
   have aL:i<l.length:=by rw [<-HN.out];exact al
   have aw:i<f.length:=by rw [aA.out];exact al
   have aS:=bg.out i (by omega)
   have a5:=bc.out f[i] (zG aw)
   rw [zF aw] at aS
   have aU:f[i]=foldOf l W d i:=by injection aS
   obtain ⟨gf,of,rfl,av⟩:=(bh.out.keep bl.out (aC.out.mono (fun x hx _=>by simp at hx;simp [hx]))).at_ aw
   rw [aU] at av a5
   have aK:=nbr_fillAt (l:=l) hw0 (i:=i) (by omega)
   rw [<-HN.out] at aK
   have ai:(fillL (l.take i) n).length=n:=fillL_len (by rw [zI];omega)
   have ap:=tnear_ok (fillL (l.take i) n) (some ⟨G,0,none⟩) n W d i wr h0 h1 hw0 (by omega) (by rw [ai];omega) (by omega) (fill_smpT HS.out i n) ad.toOwn.cells (by rw [ai];omega)
   have ak:=bo.out i
   have af:=aQ.out i
   have bA:2^d<=65536:=Nat.pow_le_pow_right (n:=2) (by decide) h1
   have bq:=Nat.two_pow_pos d
   rw [aK,ai] at ap
   have ay:=guessI_ok (d:=d) (g:=nbrAt l W i) (nbr_ok HS.out W _ _) 7
   obtain ⟨gs,a8⟩:=zX (guessI 7 (nbrAt l W i) d)
   rw [<-a8] at ap ay ak
   obtain ⟨fi,an⟩:=zX (foldOf l W d i)
   rw [<-an] at av a5 ak af
   have bk:wr.cell? ⟨gf,of+i,none⟩=some (.int .i64 fi):=av
   generalize classI (nbrAt l W i) d=cl at ap
   have au:gs<65536:=by
    have e:((2^d:Nat):Int)=(2:Int)^d:=by simp
    have:=ay.2
    omega
   have aO:=fun w'=>unfolded_ok gs fi d w' h0 h1 ay.1 au (by omega)
   rw [ak] at aO
   have aD:=take_snoc' l aL
   have a2:l[i]=l.getD i 0:=by rw [zD,zF aL];rfl
   rw [a2] at aD
   generalize l.getD i 0=xv at *
   have aV:(l.take i).length=i:=by rw [zI];omega
   have bJ:((2^d:Nat):Int)=(2:Int)^d:=by simp
   have bG:IntKind.i64.wrap ((2:Int)^d)=(2:Int)^d:=IntWalk.i64_in _ (by omega)
   have t5:decide ((256:Int)<=(fi:Int))=false:=zA (by omega)
   have t6:decide ((2:Int)^d<=(fi:Int))=false:=zA (by omega)
   have bw:=hid aD
   have aH:=hid aV
   have bs:=hid aO
   have aE:=hid ad
   clear aK ai ak a8 an aO aD a2 aV ad aL ay aS aU aw av
   go_wp2_with fail
   refine ap.mono ?_
   rintro e w6 ⟨rfl,a1⟩
   have aM:=hid (aC.out.trans a1 (by simp))
   have ac:=aE.out.chg a1 (by simp)
   obtain ⟨bn,bb⟩:=ac.fill_cell (by rw [aH.out];exact al)
   have ae:=ac.fill (by rw [aH.out];exact al) xv
   rw [aH.out] at bn bb ae
   have ba:=hid ae
   have aG:=bs.out w6
   clear ap ac ae
   go_wp2_with fail
   refine aG.mono ?_
   rintro e w7 ⟨rfl,rfl⟩
   go_wp2_with fail
   go_roundg j
   case measure=>omega
   case rel =>
    refine ⟨i+1,by go_num,by omega,?_,hid (aM.out.setCell (.inl (by simp)) _)⟩
    rw [bw.out]
    exact ba.out
end Go.Proofs.YtepjepkgcdfboaaGreatDoor
