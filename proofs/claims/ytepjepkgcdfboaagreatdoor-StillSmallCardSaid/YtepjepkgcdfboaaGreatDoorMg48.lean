/- package sums by its contract: ThirtyTwo. -/
import Derived.Laws.BitsAllLaws
import Derived.Test.YtepjepkgcdfboaaGreatDoorMg44
set_option linter.unusedVariables false
set_option linter.unusedSimpArgs false
set_option maxHeartbeats 1000000
set_option maxRecDepth 100000
namespace Go.Proofs.YtepjepkgcdfboaaGreatDoor
open Go.RowKit
theorem crcSteps_snoc (k s:Nat):crcSteps (k+1) s=crcStep (crcSteps k s):=crcSteps_add k 1 s
theorem thirtyTwo_ok (w:World) (A:Option Addr) (cap:Nat) (ds:List Nat) (hc:Cells b8 w A ds) (hd:∀ d∈ds,d<256) (hl:ds.length<=4611686018427387904) :
  Calls Tryz.prog 53 #[.slice A ds.length cap] w fun e w'=>e=.returned (.int .u32 (crcN ds:Int))/\w=w':=by
 obtain ⟨n,hn⟩:=zX (ds.length)
 rw [<-hn] at hl ⊢
 have HN:=hid hn
 have HD:=hid hd
 have HC:=hid hc
 clear hn hd hc
 go_enter Tryz.func53,Tryz.ntmps53
 go_wp2_with fail
 go_loopg [3,5,6,9,17] n (fun j v3 v5 v6 v9 v17 wr=>∃ i s:Nat,v3=.int .u32 s/\v9=.int .i64 i/\i+j=n/\Hid (s=crcGo 4294967295 (ds.take i))/\s<4294967296/\w=wr)
 case atStart=>exact ⟨0,4294967295,rfl,rfl,by omega,hid rfl,by decide,rfl⟩
 case round =>
  obtain ⟨i,s,rfl,rfl,an,HS,hs,rfl⟩:=hrel
  rcases gk with _ | j
  ·obtain rfl:i=n:=by omega
   have t1:decide (i<i)=false:=by simp
   have hx:=u32_xor_nat s 4294967295 hs (by decide)
   have am:=u32_xor_nat 4294967295 s (by decide) hs
   have ar:bits .xor .u32 IntKind.u32.max (s:Int)=((s ^^^ 4294967295:Nat):Int):=by
    rw [Nat.xor_comm,<-am]
    rfl
   have hf:Hid (((s ^^^ 4294967295:Nat):Int)=(crcN ds:Int)):=by
    refine hid ?_
    have h:=HS.out
    rw [zT (by rw [<-HN.out];exact zQ _)] at h
    rw [h]
    rfl
   generalize ((s ^^^ 4294967295:Nat):Int)=z at *
   go_wp2
   go_ret
   exact ⟨by rw [<-hf.out];rfl,rfl⟩
  ·have hi:i<n:=by omega
   have ae:i<ds.length:=by rw [<-HN.out];exact hi
   obtain ⟨g,o,rfl,aa⟩:=HC.out.at_ ae
   obtain ⟨x,hx⟩:=zX (ds[i])
   rw [<-hx] at aa
   have aq:w.cell? ⟨g,o+i,none⟩=some (.int .u8 x):=aa
   have ap:x<256:=by rw [hx];exact HD.out _ (zG _)
   have ac:Hid (crcGo 4294967295 (ds.take (i+1))=crcSteps 8 (s ^^^ x)):=by
    refine hid ?_
    rw [List.take_succ_eq_append_getElem ae,crcGo_append,<-HS.out,<-hx]
    rfl
   have hw:IntKind.u32.wrap (x:Int)=(x:Int):=by rw [IntKind.wrap_u32'];omega
   have ag:=u32_xor_nat s x hs (by omega)
   obtain ⟨s0,ah⟩:=zX (s ^^^ x)
   have af:s0<4294967296:=by rw [ah];exact Nat.xor_lt_two_pow (n:=32) hs (by omega)
   rw [<-ah] at ag ac
   clear aa hx ah ae
   go_wp2_with fail
   go_loopg [3,6,17] 8 (fun j2 v3 v6 v17 wr=>∃ k u:Nat,v3=.int .u32 u/\v17=.int .i64 k/\k+j2=8/\Hid (u=crcSteps k s0)/\u<4294967296/\w=wr)
   case atStart=>exact ⟨0,s0,rfl,rfl,rfl,hid rfl,af,rfl⟩
   case round =>
    obtain ⟨k,u,rfl,rfl,ao,HU,hu,rfl⟩:=hrel
    rcases gk with _ | j2
    ·obtain rfl:k=8:=by omega
     go_wp2
     go_roundg j
     case measure=>omega
     case rel=>exact ⟨i+1,u,rfl,by go_num,by omega,hid (by rw [ac.out,HU.out]),hu,rfl⟩
    ·have hk:decide ((k:Int)<8)=true:=zB (by omega)
     have ha:bits .and .u32 (u:Int) 1=((u%2:Nat):Int):=by
      have:=u32_and_nat u 1 hu (by decide)
      rw [Nat.and_one_is_mod] at this
      exact this
     have aj:(u:Int) / 2=((u / 2:Nat):Int):=by omega
     have ai:Hid (crcSteps (k+1) s0=crcStep u):=hid (by rw [crcSteps_snoc,<-HU.out])
     by_cases h2:u%2=1
     ·rw [h2] at ha
      have ad:bits .xor .u32 ((u / 2:Nat):Int) 3988292384=(((u / 2) ^^^ 3988292384:Nat):Int):=u32_xor_nat (u / 2) 3988292384 (by omega) (by decide)
      have ak:(u / 2) ^^^ 3988292384<4294967296:=Nat.xor_lt_two_pow (n:=32) (by omega) (by decide)
      have ab:Hid ((u / 2) ^^^ 3988292384=crcStep u):=hid (by unfold crcStep;rw [if_pos h2])
      obtain ⟨v,hv⟩:=zX ((u / 2) ^^^ 3988292384)
      rw [<-hv] at ad ak ab
      obtain ⟨h,hh⟩:=zX (u / 2)
      rw [<-hh] at ad aj
      have al:h<2147483648:=by omega
      clear hv hh h2 ag
      go_wp2
      go_roundg j2
      case measure=>omega
      case rel=>exact ⟨k+1,v,rfl,by go_num,by omega,hid (by rw [ai.out,ab.out]),ak,rfl⟩
     ·have h0:u%2=0:=by omega
      rw [h0] at ha
      have ab:Hid (u / 2=crcStep u):=hid (by unfold crcStep;rw [if_neg h2])
      obtain ⟨h,hh⟩:=zX (u / 2)
      rw [<-hh] at aj ab
      have al:h<2147483648:=by omega
      clear hh h2 h0 ag
      go_wp2
      go_roundg j2
      case measure=>omega
      case rel=>exact ⟨k+1,h,rfl,by go_num,by omega,hid (by rw [ai.out,ab.out]),by omega,rfl⟩
theorem body_ahead {bs:List Nat} (h:∀ b∈bs,b<2):Ahead (stBody bs) 0 bs:=by
 have hp:=mem_padF h
 have e:padF bs=[]++bs++List.replicate ((8-bs.length%8)%8) 0:=by
  unfold padF
  rw [List.nil_append]
 unfold stBody
 rw [e] at hp ⊢
 exact ahead_packed hp
theorem sdecode_hue {way:Option Nat} (hway:WayOk way) {k:Nat} {p:PicD} (hp:p.Ok) (k4:k<=4) (hkm:mayH p.P.length k=true) (hmay:hueMay way k p=true) (hbit:∀ b∈hueBits way k p,b<2) {w:World} (hpt:Pts w) {A:Option Addr} {cap:Nat}
  (hc:Cells b8 w A (stBytes (hueBits way k p))) (hcap:(stBytes (hueBits way k p)).length<=cap) (hcm:cap<=9223372036854775807) :
  Calls Tryz.prog 25 #[.slice A (stBytes (hueBits way k p)).length cap] w (TurnPost w p):=by
 unfold TurnPost
 have bA:=hueBits_len hway hp hmay
 have hq:=foreH_ok hp k
 have aH:(foreH k p).P.length=p.P.length:=turnPl_len _ _ _
 have bz:=back_fore hp hkm
 have ai:planesMay way (foreH k p) (foreH k p).P.length=true:=by rw [aH];exact hmay
 obtain ⟨T,hT⟩:=zX (hueBits way k p)
 have a6:T=headL p.W p.H p.d p.P.length++(bitsOf 0 1++(bitsOf k 3++planesTo way (foreH k p) (foreH k p).P.length)):=by rw [hT,aH];rfl
 rw [<-hT] at bA hbit hc hcap ⊢
 obtain ⟨bo,aq⟩:=zX (stBody T)
 have a8:stBytes T=bo++big4 (crcN bo):=by rw [aq];rfl
 have a9:bo.length=(T.length+7) / 8:=by rw [aq];exact stBody_len T
 have aL:∀ d∈bo,d<256:=by rw [aq];exact packed_dig (mem_padF hbit)
 have aM:Ahead bo 0 T:=by rw [aq];exact body_ahead hbit
 have am:Ahead bo T.length (bitsOf 0 ((8-T.length%8)%8)):=by rw [aq];exact body_rest hbit
 have ad:8*bo.length-T.length=(8-T.length%8)%8:=by rw [aq];exact body_left T
 rw [a6] at aM
 have bE:=aM.left
 have aQ:=aM.right
 rw [headL_len] at aQ
 have bm:=aQ.left
 have aY:=aQ.right
 rw [bitsOf_len] at aY
 have ag:0+18+1+3+(planesTo way (foreH k p) (foreH k p).P.length).length=T.length:=by
  rw [a6]
  simp only [zC,headL_len,bitsOf_len]
  omega
 have ah:∀ w' b F,IsRd w' b F bo (0+18+1)->Pts w'->0∉F->Calls Tryz.prog 71 #[.pointer (some ⟨b,0,none⟩),.int .i64 p.W,.int .i64 p.H,.int .i64 p.d,.int .i64 p.P.length] w' (RdPicPost w' b F bo T.length p):=fun w' b F h1 h2 h3=>by
  have:=getTrans_ok hway h1 hq k4 (by rw [aH];exact hkm) ai h2 h3 aY
  rw [ag,bz,aH] at this
  exact this
 unfold RdPicPost at ah
 have aw:=fun w' b F (h:IsRd w' b F bo 0)=>ghead_ok h hp.w0 hp.w1 hp.h0 hp.h1 hp.d0 hp.d1 hp.n0 hp.n1 bE
 have aa:=fun w' b F (h:IsRd w' b F bo (0+18))=>rget_ahead w' b F bo (0+18) 1 0 h (by omega) (by decide) bm
 obtain ⟨L,hL⟩:=zX ((8-T.length%8)%8)
 have cc:L<=7:=by omega
 rw [<-hL] at am ad
 have az:=fun w' b F (h:IsRd w' b F bo T.length)=>rget_ahead w' b F bo T.length L 0 h (by omega) (Nat.pow_pos (by decide)) am
 have av:=fun w' b F (h:IsRd w' b F bo T.length)=>left_ok w' b F bo T.length h
 rw [ad] at av
 obtain ⟨tl,ae⟩:=zX (big4 (crcN bo))
 have aN:tl.length=4:=by rw [ae];rfl
 have bn:∀ d∈tl,d<256:=by rw [ae];exact big4_lt _
 have bg:=crcN_lt aL
 have bK:beN tl=crcN bo:=by rw [ae];exact beN_big4 bg
 rw [<-ae] at a8
 rw [a8] at hc hcap ⊢
 obtain ⟨m,hm⟩:=zX (bo.length)
 have cb:m<=1000000000:=by omega
 obtain ⟨N,hN⟩:=zX ((bo++tl).length)
 have bR:N=m+4:=by rw [hN,zC,aN,hm]
 rw [<-hN] at hcap ⊢
 have ba:Cells b8 w A bo:=by
  have h1:=hc.take bo.length
  rw [List.take_left] at h1
  exact h1
 have eN:(N:Int)-4=(m:Int):=by omega
 have b0:=fun w'=>slice_to (P:=Tryz.prog) Tryz.underlying39 A N cap m (by omega) hcap w' (size_u8 w')
 obtain ⟨A',a5,-,aC⟩:=slice_from (P:=Tryz.prog) Tryz.underlying39 size_u8 A N cap m (by omega) hcap
 have bl:N-m=4:=by omega
 rw [bl] at a5
 have bF:Cells b8 w A' tl:=by
  have h1:=aC Nat b8 w _ (by rw [hN]) hc
  rw [hm,List.drop_left] at h1
  exact h1
 have a2:=fun w' c' (h':Chg [] w w')=>onew_ok w' A' c' tl (bF.same h') (by omega) (by omega)
 rw [aN] at a2
 have aj:=fun w' b g c' h'=>obig_ok w' b g c' tl h' aN bn
 have aS:=fun w' (h':Chg [] w w')=>thirtyTwo_ok w' A cap bo (ba.same h') aL (by omega)
 have aZ:=fun w' (h':Chg [] w w')=>rnew_ok w' A cap bo (ba.same h') aL (by omega) (by omega) hcm
 rw [<-hm] at aS aZ
 rw [bK] at aj
 obtain ⟨S,hS⟩:=zX (crcN bo)
 rw [<-hS] at aS bg aj
 have u1:IntKind.u64.wrap (S:Int)=(S:Int):=IntWalk.u64_in _ (by omega)
 have t1:((S:Int) != (S:Int))=false:=by simp
 have t0:decide ((N:Int)<4)=false:=zA (by omega)
 obtain ⟨w1,aK⟩:=zX (w.alloc (.cells #[.int .i64 0,.int .i64 0,.int .i64 0,.slice none 0 0] 27))
 obtain ⟨R,hR⟩:=zX (w.heap.size)
 have bh:Box w1 R (.int .i64 0) (.int .i64 0) (.int .i64 0) (.slice none 0 0):=⟨by rw [aK,hR];exact Blk.new w _ _⟩
 have bM:Chg [] w w1:=by rw [aK];exact (zR [] w).alloc _
 have bX:Hid (R<w1.heap.size):=hid bh.blk.lt
 have cd:N<=1000000004:=by omega
 have bu:picV p=fun gP o' cap' => .agg #[.int .i64 p.W,.int .i64 p.H,.int .i64 p.d,.slice (some ⟨gP,o',none⟩) p.P.length cap']:=rfl
 rw [bu] at ah ⊢
 obtain ⟨n,hn⟩:=zX (p.P.length)
 have ce:n<=4:=by rw [hn];exact hp.n1
 rw [<-hn] at ah aw ⊢
 have b3:=hid a2
 have bW:=hid aj
 have ca:=hid aS
 have bQ:=hid aZ
 have b4:=hid aw
 have bj:=hid aa
 have bY:=hid ah
 have b1:=hid az
 have bS:=hid av
 have bU:=hid aK
 have bD:=hid hR
 have b2:=hid bh
 have al:=hid bM
 have HP:=hid hpt
 clear hN hm ba hc aC bl bF aL bn a2 aj aS aZ bg bK hS aK hR bh bM aN bR aw aa ah az av hpt hn bu bA hq aH bz ai hT a6 aq a8 a9 aM am ad bE aQ bm aY ag hL ae hbit hmay hkm k4 hp hway
 go_enter Tryz.func25,Tryz.ntmps25
 go_wp2_with fail
 rw [<-bU.out,<-bD.out]
 refine (b3.out w1 _ al.out).mono ?_
 rintro e w2 ⟨b,g,c',rfl,bH,bv,hb⟩
 have aj:=bW.out w2 b g c' bH
 have bf:=hid bv
 have bO:=hid hb
 clear bH bv hb
 go_wp2_with fail
 refine aj.mono ?_
 rintro e w3 ⟨rfl,bJ⟩
 have aA:Chg [] w1 w3:=bf.out.trans bJ (fun x hx => .inr (by simp at hx;have:=bO.out;omega))
 have af:=hid aA
 clear aj bJ aA
 go_wp2_with fail
 refine (ca.out w3 (al.out.trans_same af.out)).mono ?_
 rintro e w4 ⟨rfl,rfl⟩
 go_wp2_with fail
 refine (bQ.out w3 (al.out.trans_same af.out)).mono ?_
 rintro e w5 ⟨b5,F,rfl,an,bI,bp⟩
 clear t1 u1 t0 eN
 have aB:Hid (∀ x∈F,w1.heap.size<=x):=hid (fun x hx=>Nat.le_trans af.out.size (bp x hx))
 have aX:=hid (af.out.trans_same bI)
 have ay:=hid an.mem
 have aw:=b4.out w5 b5 F an
 clear an bI bp
 go_wp2_with fail
 refine aw.mono ?_
 rintro e w6 ⟨rfl,aG,bx⟩
 have aa:=bj.out w6 b5 F aG
 have bb:Hid (Chg [] w1 w6):=hid (aX.out.trans bx (fun x hx => .inr (by simp at hx;subst hx;exact aB.out _ ay.out)))
 clear aw aG bx
 go_wp2_with fail
 refine aa.mono ?_
 rintro e w7 ⟨rfl,ab,bB⟩
 have aF:Hid (Chg [] w1 w7):=hid (bb.out.trans bB (fun x hx => .inr (by simp at hx;subst hx;exact aB.out _ ay.out)))
 have aD:=err_ok w7 b5 F bo _ ab
 obtain ⟨wA,aT⟩:=zX (w7.alloc (.cells #[.int .i64 0,.int .i64 0,.int .i64 0,.slice none 0 0] 27))
 obtain ⟨X,hX⟩:=zX (w7.heap.size)
 have a4:Chg [] w7 wA:=by rw [aT];exact (zR [] w7).alloc _
 have bd:Box wA X (.int .i64 0) (.int .i64 0) (.int .i64 0) (.slice none 0 0):=⟨by rw [aT,hX];exact Blk.new w7 _ _⟩
 have bZ:=hid bd
 have bi:=hid (ab.chg a4 (by simp))
 have ar:=hid (aF.out.trans_same a4)
 have bT:=hid aT
 have b6:=hid hX
 have ax:Hid (w7.heap.size<=X/\X<wA.heap.size):=hid ⟨by omega,bd.blk.lt⟩
 have a1:Hid (b5<w7.heap.size):=hid (ab.lt b5 ay.out)
 have b9:Hid (∀ x∈F,x<w7.heap.size):=hid ab.lt
 clear aa ab bB aT hX a4 bd
 go_wp2_with (go_at_call 69;refine aD.mono ?_;rintro e w' ⟨rfl,rfl⟩)
 rw [<-bT.out,<-b6.out]
 have bG:Pts wA:=(HP.out.same al.out).same ar.out
 have bs:0∉F:=fun hm=>by have:=aB.out 0 hm;have:=HP.out.lt;have:=al.out.size;omega
 have ah:=bY.out wA b5 F bi.out bG bs
 clear aD bG bs
 refine ah.mono ?_
 rintro e w8 ⟨gP,ac,xs,gs,rfl,aI,aE,bk,au⟩
 have bL:X∉[b5]:=by have:=a1.out;have:=ax.out;simp;omega
 have ap:=bZ.out.chg bk bL
 obtain ⟨z0,z1,z2,z3⟩:=ap.cells
 have f0:=ap.blk.frozen 0
 have f1:=ap.blk.frozen 1
 have f2:=ap.blk.frozen 2
 have f3:=ap.blk.frozen 3
 obtain ⟨wS,aO⟩:=zX ((((w8.setCell ⟨X,0,none⟩ (.int .i64 p.W)).setCell ⟨X,1,none⟩ (.int .i64 p.H)).setCell ⟨X,2,none⟩ (.int .i64 p.d)).setCell ⟨X,3,none⟩ (.slice (some ⟨gP,0,none⟩) n ac))
 have br:Box wS X (.int .i64 p.W) (.int .i64 p.H) (.int .i64 p.d) (.slice (some ⟨gP,0,none⟩) n ac):=by
  rw [aO]
  have:=(((ap.blk.set_ 0 (.int .i64 p.W)).set_ 1 (.int .i64 p.H)).set_ 2 (.int .i64 p.d)).set_ 3 (.slice (some ⟨gP,0,none⟩) n ac)
  exact ⟨by simpa using this⟩
 have aR:Chg [X] w8 wS:=by
  rw [aO]
  exact ((((zR [X] w8).setCell (p:=⟨X,0,none⟩) (.inl (by simp)) _).setCell (p:=⟨X,1,none⟩) (.inl (by simp)) _).setCell (p:=⟨X,2,none⟩) (.inl (by simp)) _).setCell (p:=⟨X,3,none⟩) (.inl (by simp)) _
 have bq:∀ x∈F,x∉[X]:=fun x hx hm=>by have:=b9.out x hx;have:=ax.out;simp at hm;omega
 have aW:∀ x∈gP::gs,x∉[X]:=fun x hx hm=>by have:=au x hx;have:=ax.out;simp at hm;omega
 have ak:=aE.chg aR bq
 have a7:=hid (aI.chg aR (aW gP (by simp)) (fun x hx=>aW x (by simp [hx])))
 have av:=bS.out wS b5 F ak
 have b7:=hid br
 have be:=hid ak
 have bN:Hid (Chg [] w1 wS):=hid ((ar.out.trans bk (fun x hx => .inr (by simp at hx;subst hx;exact aB.out _ ay.out))).trans aR (fun x hx => .inr (by simp at hx;have:=ax.out;have:=aF.out.size;omega)))
 have aJ:Hid (∀ x∈gP::gs,w1.heap.size<=x/\x≠b5):=hid (fun x hx=>by have:=au x hx;have:=ar.out.size;have:=a1.out;have:=ax.out;omega)
 have bP:=hid aO
 clear ah aI aE bk au bL ap aO br aR bq aW ak
 go_wp2_with fail
 rw [<-bP.out]
 refine av.mono ?_
 rintro e w' ⟨rfl,q,rfl⟩
 obtain ⟨wT,a0⟩:=zX (wS.drewN q)
 have aV:Chg [] wS wT:=by rw [a0];exact (zR [] wS).drewN q
 rw [<-a0]
 have az:=b1.out wT b5 F (be.out.chg aV (by simp))
 have aU:=hid aV
 have t8:decide ((8:Int)<=(L:Int))=false:=zA (by omega)
 have t9:decide (8<=L)=false:=zA (by omega)
 clear av z0 z1 z2 z3 f0 f1 f2 f3 a0 aV
 go_wp2_with fail
 refine az.mono ?_
 rintro e w9 ⟨rfl,bc,aP⟩
 have ao:Chg [] w1 w9:=(bN.out.trans_same aU.out).trans aP (fun x hx => .inr (by simp at hx;subst hx;exact aB.out _ ay.out))
 have bw:=(b7.out.same aU.out).chg aP (by have:=a1.out;have:=ax.out;simp;omega)
 obtain ⟨x0,x1,x2,x3⟩:=bw.cells
 have hz:=b2.out.same ao
 obtain ⟨z0,z1,z2,z3⟩:=hz.cells
 have f0:=hz.blk.frozen 0
 have f1:=hz.blk.frozen 1
 have f2:=hz.blk.frozen 2
 have f3:=hz.blk.frozen 3
 have HZ:=hid hz
 have a3:=hid ao
 have bV:=hid ((a7.out.same aU.out).chg aP (by simpa using (aJ.out gP (by simp)).2) (fun x hx=>by simpa using (aJ.out x (by simp [hx])).2))
 clear az bc aP ao bw hz
 go_wp2_with fail
 refine pic_ret HZ.out ?_
 intro V hV hY
 obtain ⟨y0,y1,y2,y3⟩:=hV.cells
 refine bodyPost_ret (v:=.tuple #[.agg #[.int .i64 p.W,.int .i64 p.H,.int .i64 p.d,.slice (some ⟨gP,0,none⟩) n ac],.int .i64 0]) (by simp [results,Tryz.results25,go_sem,y0,y1,y2,y3]) rfl ?_
 have bC:∀ x∈gP::gs,x∉[R]:=fun x hx hm=>by have:=(aJ.out x hx).1;have:=bX.out;simp at hm;omega
 exact ⟨gP,ac,xs,gs,rfl,bV.out.chg hY (bC gP (by simp)) (fun x hx=>bC x (by simp [hx])),(al.out.trans_same a3.out).trans hY (fun x hx => .inr (by simp at hx;have:=bD.out;omega)),fun x hx=>by have:=(aJ.out x hx).1;have:=al.out.size;omega⟩
end Go.Proofs.YtepjepkgcdfboaaGreatDoor
