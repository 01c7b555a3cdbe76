/- package sums by its contract: ThirtyTwo. -/
import Derived.Laws.BitsAllLaws
import Derived.Test.YtepjepkgcdfboaaGreatDoorMg44
set_option linter.unusedVariables false
set_option linter.unusedSimpArgs false
set_option maxHeartbeats 2000000
set_option maxRecDepth 100000
namespace Go.Proofs.YtepjepkgcdfboaaGreatDoor
open Go.RowKit
theorem c6q (k s:Nat):a1g (k+1) s=a3g (a1g k s):=a8m k 1 s
theorem b2g (w:World) (A:Option Addr) (cap:Nat) (ds:List Nat) (hc:a0d b8 w A ds) (hd:∀ d∈ds,d<256) (hl:ds.length<=4611686018427387904) :
  Calls Tryz.prog 53 #[.slice A ds.length cap] w fun e w'=>e=.returned (.int .u32 (c3g ds:Int))/\w=w':=by
 obtain ⟨n,hn⟩:=zX (ds.length)
 rw [<-hn] at hl ⊢
 have HN:=hid hn
 have HD:=hid hd
 have HC:=hid hc
 clear hn hd hc
 go_enter Tryz.func53,Tryz.ntmps53
 go_wp2_with fail
 go_loopg [3,5,6,9,17] n (fun j v3 v5 v6 v9 v17 wr=>∃ i s:Nat,v3=.int .u32 s/\v9=.int .i64 i/\i+j=n/\Hid (s=b8x 4294967295 (ds.take i))/\s<4294967296/\w=wr)
 case atStart=>exact ⟨0,4294967295,rfl,rfl,by omega,hid rfl,by decide,rfl⟩
 case round =>
  obtain ⟨i,s,rfl,rfl,ar,HS,hs,rfl⟩:=hrel
  rcases gk with _ | j
  ·obtain rfl:i=n:=by omega
   have t1:decide (i<i)=false:=by simp
   have hx:=u32_xor_nat s 4294967295 hs (by decide)
   have am:=u32_xor_nat 4294967295 s (by decide) hs
   have an:bits .xor .u32 IntKind.u32.max (s:Int)=((s ^^^ 4294967295:Nat):Int):=by
    rw [Nat.xor_comm,<-am]
    rfl
   have hf:Hid (((s ^^^ 4294967295:Nat):Int)=(c3g ds:Int)):=by
    refine hid ?_
    have h:=HS.out
    rw [zT (by rw [<-HN.out];exact zQ _)] at h
    rw [h]
    rfl
   generalize ((s ^^^ 4294967295:Nat):Int)=z at *
   go_wp2
   go_ret
   exact ⟨by rw [<-hf.out];rfl,rfl⟩
  ·have hi:i<n:=by omega
   have ag:i<ds.length:=by rw [<-HN.out];exact hi
   obtain ⟨g,o,rfl,aa⟩:=HC.out.at_ ag
   obtain ⟨x,hx⟩:=zX (ds[i])
   rw [<-hx] at aa
   have ao:w.cell? ⟨g,o+i,none⟩=some (.int .u8 x):=aa
   have aq:x<256:=by rw [hx];exact HD.out _ (zG _)
   have ac:Hid (b8x 4294967295 (ds.take (i+1))=a1g 8 (s ^^^ x)):=by
    refine hid ?_
    rw [List.take_succ_eq_append_getElem ag,c9y,<-HS.out,<-hx]
    rfl
   have hw:IntKind.u32.wrap (x:Int)=(x:Int):=by rw [IntKind.wrap_u32'];omega
   have ah:=u32_xor_nat s x hs (by omega)
   obtain ⟨s0,af⟩:=zX (s ^^^ x)
   have ae:s0<4294967296:=by rw [af];exact Nat.xor_lt_two_pow (n:=32) hs (by omega)
   rw [<-af] at ah ac
   clear aa hx af ag
   go_wp2_with fail
   go_loopg [3,6,17] 8 (fun j2 v3 v6 v17 wr=>∃ k u:Nat,v3=.int .u32 u/\v17=.int .i64 k/\k+j2=8/\Hid (u=a1g k s0)/\u<4294967296/\w=wr)
   case atStart=>exact ⟨0,s0,rfl,rfl,rfl,hid rfl,ae,rfl⟩
   case round =>
    obtain ⟨k,u,rfl,rfl,ap,HU,hu,rfl⟩:=hrel
    rcases gk with _ | j2
    ·obtain rfl:k=8:=by omega
     go_wp2
     go_roundg j
     case measure=>omega
     case rel=>exact ⟨i+1,u,rfl,by go_num,by omega,hid (by rw [ac.out,HU.out]),hu,rfl⟩
    ·have hk:decide ((k:Int)<8)=true:=zB (by omega)
     have ha:bits .and .u32 (u:Int) 1=((u%2:Nat):Int):=by
      have:=u32_and_nat u 1 hu (by decide)
      rw [Nat.and_one_is_mod] at this
      exact this
     have aj:(u:Int) / 2=((u / 2:Nat):Int):=by omega
     have ai:Hid (a1g (k+1) s0=a3g u):=hid (by rw [c6q,<-HU.out])
     by_cases h2:u%2=1
     ·rw [h2] at ha
      have ad:bits .xor .u32 ((u / 2:Nat):Int) 3988292384=(((u / 2) ^^^ 3988292384:Nat):Int):=u32_xor_nat (u / 2) 3988292384 (by omega) (by decide)
      have ak:(u / 2) ^^^ 3988292384<4294967296:=Nat.xor_lt_two_pow (n:=32) (by omega) (by decide)
      have ab:Hid ((u / 2) ^^^ 3988292384=a3g u):=hid (by unfold a3g;rw [if_pos h2])
      obtain ⟨v,hv⟩:=zX ((u / 2) ^^^ 3988292384)
      rw [<-hv] at ad ak ab
      obtain ⟨h,hh⟩:=zX (u / 2)
      rw [<-hh] at ad aj
      have al:h<2147483648:=by omega
      clear hv hh h2 ah
      go_wp2
      go_roundg j2
      case measure=>omega
      case rel=>exact ⟨k+1,v,rfl,by go_num,by omega,hid (by rw [ai.out,ab.out]),ak,rfl⟩
     ·have h0:u%2=0:=by omega
      rw [h0] at ha
      have ab:Hid (u / 2=a3g u):=hid (by unfold a3g;rw [if_neg h2])
      obtain ⟨h,hh⟩:=zX (u / 2)
      rw [<-hh] at aj ab
      have al:h<2147483648:=by omega
      clear hh h2 h0 ah
      go_wp2
      go_roundg j2
      case measure=>omega
      case rel=>exact ⟨k+1,h,rfl,by go_num,by omega,hid (by rw [ai.out,ab.out]),by omega,rfl⟩
theorem c4u {bs:List Nat} (h:∀ b∈bs,b<2):a0y (b0b bs) 0 bs:=by
 have hp:=b5o h
 have e:d7a bs=[]++bs++List.replicate ((8-bs.length%8)%8) 0:=by
  unfold d7a
  rw [List.nil_append]
 unfold b0b
 rw [e] at hp ⊢
 exact b7v hp
theorem d4p {w:World} {A:Option Addr} {cap:Nat} {bo tl:List Nat} (htl:tl.length=4) (hd:∀ d∈bo++tl,d<256) (hne:beN tl≠c3g bo) (hb1:bo.length<=1000000000) (hc:a0d b8 w A (bo++tl)) (hcap:(bo++tl).length<=cap) :
  Calls Tryz.prog 25 #[.slice A (bo++tl).length cap] w fun e w'=>e=.returned (.tuple #[f0j,.int .i64 5])/\Chg [] w w':=by
 obtain ⟨m,hm⟩:=zX (bo.length)
 obtain ⟨N,hN⟩:=zX ((bo++tl).length)
 have aG:N=m+4:=by rw [hN,zC,htl,hm]
 rw [<-hN] at hcap ⊢
 have ar:a0d b8 w A bo:=by
  have h1:=hc.take bo.length
  rw [List.take_left] at h1
  exact h1
 have eN:(N:Int)-4=(m:Int):=by omega
 have aF:=fun w'=>c8l (P:=Tryz.prog) Tryz.underlying39 A N cap m (by omega) hcap w' (c2r w')
 obtain ⟨A',ai,-,ad⟩:=a9z (P:=Tryz.prog) Tryz.underlying39 c2r A N cap m (by omega) hcap
 have ax:N-m=4:=by omega
 rw [ax] at ai
 have au:a0d b8 w A' tl:=by
  have h1:=ad Nat b8 w _ (by rw [hN]) hc
  rw [hm,List.drop_left] at h1
  exact h1
 have am:∀ d∈bo,d<256:=fun d h=>hd d (List.mem_append_left _ h)
 have al:∀ d∈tl,d<256:=fun d h=>hd d (List.mem_append_right _ h)
 have aj:=fun w' c' (h':Chg [] w w')=>e4h w' A' c' tl (au.same h') (by omega) (by omega)
 rw [htl] at aj
 have ab:=fun w' b g c' h'=>e4f w' b g c' tl h' htl al
 have af:=fun w' (h':Chg [] w w')=>b2g w' A cap bo (ar.same h') am (by omega)
 rw [<-hm] at af
 have ay:=c6p am
 have ap:=f0n al (by omega)
 obtain ⟨S,hS⟩:=zX (c3g bo)
 obtain ⟨V,hV⟩:=zX (beN tl)
 rw [<-hS] at af ay hne
 rw [<-hV] at ab hne ap
 have u1:IntKind.u64.wrap (S:Int)=(S:Int):=IntWalk.u64_in _ (by omega)
 have t1:((V:Int) != (S:Int))=true:=by simp;omega
 have t0:decide ((N:Int)<4)=false:=zA (by omega)
 obtain ⟨w1,ae⟩:=zX (w.alloc (.cells #[.int .i64 0,.int .i64 0,.int .i64 0,.slice none 0 0] 27))
 obtain ⟨R,hR⟩:=zX (w.heap.size)
 have ag:Box w1 R (.int .i64 0) (.int .i64 0) (.int .i64 0) (.slice none 0 0):=⟨by rw [ae,hR];exact Blk.new w _ _⟩
 have av:Chg [] w w1:=by rw [ae];exact (zR [] w).alloc _
 have aH:Hid (R<w1.heap.size):=hid ag.blk.lt
 have aI:N<=1000000004:=by omega
 have aC:=hid aj
 have az:=hid ab
 have aB:=hid af
 have aA:=hid ae
 have ao:=hid hR
 have aD:=hid ag
 have ah:=hid av
 clear hN hm ar hc ad ax au am al hd aj ab af ay ap hS hV ae hR ag av hne htl aG hb1
 go_enter Tryz.func25,Tryz.ntmps25
 go_wp2_with fail
 rw [<-aA.out,<-ao.out]
 refine (aC.out w1 _ ah.out).mono ?_
 rintro e w2 ⟨b,g,c',rfl,aq,aw,hb⟩
 have ab:=az.out w2 b g c' aq
 have ak:=hid aw
 have aE:=hid hb
 clear aq aw hb
 go_wp2_with fail
 refine ab.mono ?_
 rintro e w3 ⟨rfl,an⟩
 have ac:Chg [] w1 w3:=ak.out.trans an (fun x hx => .inr (by simp at hx;have:=aE.out;omega))
 have aa:=hid ac
 clear ab an ac
 go_wp2_with fail
 refine (aB.out w3 (ah.out.tq aa.out)).mono ?_
 rintro e w4 ⟨rfl,rfl⟩
 have hz:=aD.out.same aa.out
 obtain ⟨z0,z1,z2,z3⟩:=hz.cells
 have f0:=hz.blk.frozen 0
 have f1:=hz.blk.frozen 1
 have f2:=hz.blk.frozen 2
 have f3:=hz.blk.frozen 3
 have HZ:=hid hz
 clear hz
 go_wp2_with fail
 refine b1x HZ.out ?_
 intro X hX hY
 obtain ⟨x0,x1,x2,x3⟩:=hX.cells
 refine bodyPost_ret (v:=.tuple #[f0j,.int .i64 5]) (by simp [results,Tryz.results25,go_sem,x0,x1,x2,x3,f0j]) rfl ?_
 exact ⟨rfl,(ah.out.tq aa.out).trans hY (fun x hx => .inr (by simp at hx;have:=ao.out;omega))⟩
theorem c2p {p:a2a} (hp:p.Ok) {T rest:List Nat} {few:Nat} (hf2:few=0\/few=1) (hTe:T=b3z p.W p.H p.d p.P.length++(a0b few 1++rest)) (hTl:19<=T.length/\T.length<=4096000000) (hbit:∀ b∈T,b<2)
  (hin:∀ bo w' b F,a0y bo (0+18+1) rest->a1r w' b F bo (0+18+1)->Pts w'->0∉F->Calls Tryz.prog (if few=1 then 70 else 71) #[.pointer (some ⟨b,0,none⟩),.int .i64 p.W,.int .i64 p.H,.int .i64 p.d,.int .i64 p.P.length] w' (a9h w' b F bo T.length p))
  {w:World} (hpt:Pts w) {A:Option Addr} {cap:Nat} (hc:a0d b8 w A (a1e T)) (hcap:(a1e T).length<=cap) (hcm:cap<=9223372036854775807) :
  Calls Tryz.prog 25 #[.slice A (a1e T).length cap] w (a2x w p):=by
 unfold a2x
 obtain ⟨bo,aq⟩:=zX (b0b T)
 have aV:a1e T=bo++d8f (c3g bo):=by rw [aq];rfl
 have a6:bo.length=(T.length+7) / 8:=by rw [aq];exact b7o T
 have aJ:∀ d∈bo,d<256:=by rw [aq];exact b2z (b5o hbit)
 have aG:a0y bo 0 T:=by rw [aq];exact c4u hbit
 have ao:a0y bo T.length (a0b 0 ((8-T.length%8)%8)):=by rw [aq];exact e1l hbit
 have ae:8*bo.length-T.length=(8-T.length%8)%8:=by rw [aq];exact e1k T
 rw [hTe] at aG
 have bp:=aG.left
 have aN:=aG.right
 rw [a9q] at aN
 have bq:=aN.left
 have aW:=aN.right
 rw [a0a] at aW
 have aa:=fun w' b F h1 h2 h3=>hin bo w' b F aW h1 h2 h3
 unfold a9h at aa
 have ar:=fun w' b F (h:a1r w' b F bo 0)=>d6c h hp.w0 hp.w1 hp.h0 hp.h1 hp.d0 hp.d1 hp.n0 hp.n1 bp
 have ab:=fun w' b F (h:a1r w' b F bo (0+18))=>a0j w' b F bo (0+18) 1 few h (by omega) (by omega) bq
 obtain ⟨L,hL⟩:=zX ((8-T.length%8)%8)
 have b7:L<=7:=by omega
 rw [<-hL] at ao ae
 have aB:=fun w' b F (h:a1r w' b F bo T.length)=>a0j w' b F bo T.length L 0 h (by omega) (Nat.pow_pos (by decide)) ao
 have av:=fun w' b F (h:a1r w' b F bo T.length)=>e3j w' b F bo T.length h
 rw [ae] at av
 obtain ⟨tl,ac⟩:=zX (d8f (c3g bo))
 have aM:tl.length=4:=by rw [ac];rfl
 have bA:∀ d∈tl,d<256:=by rw [ac];exact d2u _
 have a4:=c6p aJ
 have bD:beN tl=c3g bo:=by rw [ac];exact d5h a4
 rw [<-ac] at aV
 rw [aV] at hc hcap ⊢
 obtain ⟨m,hm⟩:=zX (bo.length)
 have b4:m<=1000000000:=by omega
 obtain ⟨N,hN⟩:=zX ((bo++tl).length)
 have bV:N=m+4:=by rw [hN,zC,aM,hm]
 rw [<-hN] at hcap ⊢
 have a9:a0d b8 w A bo:=by
  have h1:=hc.take bo.length
  rw [List.take_left] at h1
  exact h1
 have eN:(N:Int)-4=(m:Int):=by omega
 have bU:=fun w'=>c8l (P:=Tryz.prog) Tryz.underlying39 A N cap m (by omega) hcap w' (c2r w')
 obtain ⟨A',be,-,az⟩:=a9z (P:=Tryz.prog) Tryz.underlying39 c2r A N cap m (by omega) hcap
 have bm:N-m=4:=by omega
 rw [bm] at be
 have bl:a0d b8 w A' tl:=by
  have h1:=az Nat b8 w _ (by rw [hN]) hc
  rw [hm,List.drop_left] at h1
  exact h1
 have ba:=fun w' c' (h':Chg [] w w')=>e4h w' A' c' tl (bl.same h') (by omega) (by omega)
 rw [aM] at ba
 have ai:=fun w' b g c' h'=>e4f w' b g c' tl h' aM bA
 have aI:=fun w' (h':Chg [] w w')=>b2g w' A cap bo (a9.same h') aJ (by omega)
 have a0:=fun w' (h':Chg [] w w')=>e5h w' A cap bo (a9.same h') aJ (by omega) (by omega) hcm
 rw [<-hm] at aI a0
 rw [bD] at ai
 obtain ⟨S,hS⟩:=zX (c3g bo)
 rw [<-hS] at aI a4 ai
 have u1:IntKind.u64.wrap (S:Int)=(S:Int):=IntWalk.u64_in _ (by omega)
 have t1:((S:Int) != (S:Int))=false:=by simp
 have t0:decide ((N:Int)<4)=false:=zA (by omega)
 obtain ⟨w1,aH⟩:=zX (w.alloc (.cells #[.int .i64 0,.int .i64 0,.int .i64 0,.slice none 0 0] 27))
 obtain ⟨R,hR⟩:=zX (w.heap.size)
 have aY:Box w1 R (.int .i64 0) (.int .i64 0) (.int .i64 0) (.slice none 0 0):=⟨by rw [aH,hR];exact Blk.new w _ _⟩
 have bz:Chg [] w w1:=by rw [aH];exact (zR [] w).alloc _
 have bI:Hid (R<w1.heap.size):=hid aY.blk.lt
 have b3:N<=1000000004:=by omega
 have bu:a6y p=fun gP o' cap' => .agg #[.int .i64 p.W,.int .i64 p.H,.int .i64 p.d,.slice (some ⟨gP,o',none⟩) p.P.length cap']:=rfl
 rw [bu] at aa ⊢
 obtain ⟨n,hn⟩:=zX (p.P.length)
 have b6:n<=4:=by rw [hn];exact hp.n1
 rw [<-hn] at aa ar ⊢
 have bQ:=hid ba
 have bW:=hid ai
 have bP:=hid aI
 have b2:=hid a0
 have bK:=hid ar
 have a8:=hid ab
 have bN:=hid aa
 have bO:=hid aB
 have bZ:=hid av
 have bH:=hid aH
 have bh:=hid hR
 have bJ:=hid aY
 have al:=hid bz
 have HP:=hid hpt
 clear hN hm a9 hc az bm bl aJ bA ba ai aI a0 a4 bD hS aH hR aY bz aM bV ar ab aa aB av hpt hn bu hTl hTe aq aV a6 aG ao ae bp aN bq aW hL ac hbit hp hin
 rcases hf2 with rfl | rfl
 all_goals
  go_enter Tryz.func25,Tryz.ntmps25
  go_wp2_with fail
  rw [<-bH.out,<-bh.out]
  refine (bQ.out w1 _ al.out).mono ?_
  rintro e w2 ⟨b,g,c',rfl,br,bF,hb⟩
  have ai:=bW.out w2 b g c' br
  have aT:=hid bF
  have bS:=hid hb
  clear br bF hb
  go_wp2_with fail
  refine ai.mono ?_
  rintro e w3 ⟨rfl,bn⟩
  have aw:Chg [] w1 w3:=aT.out.trans bn (fun x hx => .inr (by simp at hx;have:=bS.out;omega))
  have ag:=hid aw
  clear ai bn aw
  go_wp2_with fail
  refine (bP.out w3 (al.out.tq ag.out)).mono ?_
  rintro e w4 ⟨rfl,rfl⟩
  go_wp2_with fail
  refine (b2.out w3 (al.out.tq ag.out)).mono ?_
  rintro e w5 ⟨b5,F,rfl,aj,bC,bs⟩
  clear t1 u1 t0 eN
  have aE:Hid (∀ x∈F,w1.heap.size<=x):=hid (fun x hx=>Nat.le_trans ag.out.size (bs x hx))
  have aR:=hid (ag.out.tq bC)
  have ay:=hid aj.mem
  have ar:=bK.out w5 b5 F aj
  clear aj bC bs
  go_wp2_with fail
  refine ar.mono ?_
  rintro e w6 ⟨rfl,aA,bv⟩
  have ab:=a8.out w6 b5 F aA
  have a7:Hid (Chg [] w1 w6):=hid (aR.out.trans bv (fun x hx => .inr (by simp at hx;subst hx;exact aE.out _ ay.out)))
  clear ar aA bv
  go_wp2_with fail
  refine ab.mono ?_
  rintro e w7 ⟨rfl,ad,bB⟩
  have ax:Hid (Chg [] w1 w7):=hid (a7.out.trans bB (fun x hx => .inr (by simp at hx;subst hx;exact aE.out _ ay.out)))
  have aF:=a2b w7 b5 F bo _ ad
  obtain ⟨wA,aQ⟩:=zX (w7.alloc (.cells #[.int .i64 0,.int .i64 0,.int .i64 0,.slice none 0 0] 27))
  obtain ⟨X,hX⟩:=zX (w7.heap.size)
  have a5:Chg [] w7 wA:=by rw [aQ];exact (zR [] w7).alloc _
  have bc:Box wA X (.int .i64 0) (.int .i64 0) (.int .i64 0) (.slice none 0 0):=⟨by rw [aQ,hX];exact Blk.new w7 _ _⟩
  have b0:=hid bc
  have a2:=hid (ad.chg a5 (by simp))
  have ak:=hid (ax.out.tq a5)
  have bM:=hid aQ
  have bY:=hid hX
  have au:Hid (w7.heap.size<=X/\X<wA.heap.size):=hid ⟨by omega,bc.blk.lt⟩
  have a3:Hid (b5<w7.heap.size):=hid (ad.lt b5 ay.out)
  have b1:Hid (∀ x∈F,x<w7.heap.size):=hid ad.lt
  clear ab ad bB aQ hX a5 bc
  go_wp2_with (go_at_call 69;refine aF.mono ?_;rintro e w' ⟨rfl,rfl⟩)
  rw [<-bM.out,<-bY.out]
  have bx:Pts wA:=(HP.out.same al.out).same ak.out
  have bj:0∉F:=fun hm=>by have:=aE.out 0 hm;have:=HP.out.lt;have:=al.out.size;omega
  have aa:=bN.out wA b5 F a2.out bx bj
  clear aF bx bj
  first | rw [if_pos rfl] at aa | rw [if_pos trivial] at aa | rw [if_neg not_false] at aa | rw [if_neg (by decide)] at aa
  refine aa.mono ?_
  rintro e w8 ⟨gP,af,xs,gs,rfl,aC,aD,a1,ah⟩
  have bE:X∉[b5]:=by have:=a3.out;have:=au.out;simp;omega
  have ap:=b0.out.chg a1 bE
  obtain ⟨z0,z1,z2,z3⟩:=ap.cells
  have f0:=ap.blk.frozen 0
  have f1:=ap.blk.frozen 1
  have f2:=ap.blk.frozen 2
  have f3:=ap.blk.frozen 3
  obtain ⟨wS,aO⟩:=zX ((((w8.setCell ⟨X,0,none⟩ (.int .i64 p.W)).setCell ⟨X,1,none⟩ (.int .i64 p.H)).setCell ⟨X,2,none⟩ (.int .i64 p.d)).setCell ⟨X,3,none⟩ (.slice (some ⟨gP,0,none⟩) n af))
  have bw:Box wS X (.int .i64 p.W) (.int .i64 p.H) (.int .i64 p.d) (.slice (some ⟨gP,0,none⟩) n af):=by
   rw [aO]
   have:=(((ap.blk.set_ 0 (.int .i64 p.W)).set_ 1 (.int .i64 p.H)).set_ 2 (.int .i64 p.d)).set_ 3 (.slice (some ⟨gP,0,none⟩) n af)
   exact ⟨by simpa using this⟩
  have aP:Chg [X] w8 wS:=by
   rw [aO]
   exact ((((zR [X] w8).setCell (p:=⟨X,0,none⟩) (.inl (by simp)) _).setCell (p:=⟨X,1,none⟩) (.inl (by simp)) _).setCell (p:=⟨X,2,none⟩) (.inl (by simp)) _).setCell (p:=⟨X,3,none⟩) (.inl (by simp)) _
  have bG:∀ x∈F,x∉[X]:=fun x hx hm=>by have:=b1.out x hx;have:=au.out;simp at hm;omega
  have bb:∀ x∈gP::gs,x∉[X]:=fun x hx hm=>by have:=ah x hx;have:=au.out;simp at hm;omega
  have an:=aD.chg aP bG
  have bd:=hid (aC.chg aP (bb gP (by simp)) (fun x hx=>bb x (by simp [hx])))
  have av:=bZ.out wS b5 F an
  have bL:=hid bw
  have bg:=hid an
  have bX:Hid (Chg [] w1 wS):=hid ((ak.out.trans a1 (fun x hx => .inr (by simp at hx;subst hx;exact aE.out _ ay.out))).trans aP (fun x hx => .inr (by simp at hx;have:=au.out;have:=ax.out.size;omega)))
  have aL:Hid (∀ x∈gP::gs,w1.heap.size<=x/\x≠b5):=hid (fun x hx=>by have:=ah x hx;have:=ak.out.size;have:=a3.out;have:=au.out;omega)
  have bT:=hid aO
  clear aa aC aD a1 ah bE ap aO bw aP bG bb an
  go_wp2_with fail
  rw [<-bT.out]
  refine av.mono ?_
  rintro e w' ⟨rfl,q,rfl⟩
  obtain ⟨wT,aU⟩:=zX (wS.drewN q)
  have aS:Chg [] wS wT:=by rw [aU];exact (zR [] wS).drewN q
  rw [<-aU]
  have aB:=bO.out wT b5 F (bg.out.chg aS (by simp))
  have aX:=hid aS
  have t8:decide ((8:Int)<=(L:Int))=false:=zA (by omega)
  have t9:decide (8<=L)=false:=zA (by omega)
  clear av z0 z1 z2 z3 f0 f1 f2 f3 aU aS
  go_wp2_with fail
  refine aB.mono ?_
  rintro e w9 ⟨rfl,bf,aK⟩
  have am:Chg [] w1 w9:=(bX.out.tq aX.out).trans aK (fun x hx => .inr (by simp at hx;subst hx;exact aE.out _ ay.out))
  have bk:=(bL.out.same aX.out).chg aK (by have:=a3.out;have:=au.out;simp;omega)
  obtain ⟨x0,x1,x2,x3⟩:=bk.cells
  have hz:=bJ.out.same am
  obtain ⟨z0,z1,z2,z3⟩:=hz.cells
  have f0:=hz.blk.frozen 0
  have f1:=hz.blk.frozen 1
  have f2:=hz.blk.frozen 2
  have f3:=hz.blk.frozen 3
  have HZ:=hid hz
  have aZ:=hid am
  have bR:=hid ((bd.out.same aX.out).chg aK (by simpa using (aL.out gP (by simp)).2) (fun x hx=>by simpa using (aL.out x (by simp [hx])).2))
  clear aB bf aK am bk hz
  go_wp2_with fail
  refine b1x HZ.out ?_
  intro V hV hY
  obtain ⟨y0,y1,y2,y3⟩:=hV.cells
  refine bodyPost_ret (v:=.tuple #[.agg #[.int .i64 p.W,.int .i64 p.H,.int .i64 p.d,.slice (some ⟨gP,0,none⟩) n af],.int .i64 0]) (by simp [results,Tryz.results25,go_sem,y0,y1,y2,y3]) rfl ?_
  have bi:∀ x∈gP::gs,x∉[R]:=fun x hx hm=>by have:=(aL.out x hx).1;have:=bI.out;simp at hm;omega
  exact ⟨gP,af,xs,gs,rfl,bR.out.chg hY (bi gP (by simp)) (fun x hx=>bi x (by simp [hx])),(al.out.tq aZ.out).trans hY (fun x hx => .inr (by simp at hx;have:=bh.out;omega)),fun x hx=>by have:=(aL.out x hx).1;have:=al.out.size;omega⟩
theorem c2q {way:Option Nat} (hway:b1b way) {k:Nat} {p:a2a} (hp:p.Ok) (k4:k<=4) (hkm:b9k p.P.length k=true) (hmay:b1t way k p=true) (hbit:∀ b∈a4h way k p,b<2) {w:World} (hpt:Pts w) {A:Option Addr} {cap:Nat}
  (hc:a0d b8 w A (a1e (a4h way k p))) (hcap:(a1e (a4h way k p)).length<=cap) (hcm:cap<=9223372036854775807) :
  Calls Tryz.prog 25 #[.slice A (a1e (a4h way k p)).length cap] w (a2x w p):=by
 have hq:=b2t hp k
 have ac:(a3p k p).P.length=p.P.length:=a3y _ _ _
 have ae:=e1h hp hkm
 have aa:a2u way (a3p k p) (a3p k p).P.length=true:=by rw [ac];exact hmay
 have ad:a4h way k p=b3z p.W p.H p.d p.P.length++(a0b 0 1++(a0b k 3++a1d way (a3p k p) (a3p k p).P.length)):=by rw [ac];rfl
 have hl:=b4a hway hp hmay
 refine c2p hp (.inl rfl) ad ⟨by omega,hl.2⟩ hbit (fun bo w' b F hA h1 h2 h3 => ?_) hpt hc hcap hcm
 have:=d3m hway h1 hq k4 (by rw [ac];exact hkm) aa h2 h3 hA
 have ab:0+18+1+3+(a1d way (a3p k p) (a3p k p).P.length).length=(a4h way k p).length:=by
  rw [ad]
  simp only [zC,a9q,a0a]
  omega
 rw [ab,ae,ac] at this
 exact this
end Go.Proofs.YtepjepkgcdfboaaGreatDoor
