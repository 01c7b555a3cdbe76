/- package sums by its contract: ThirtyTwo. -/
import Derived.Laws.BitsAllLaws
import Derived.Test.YtepjepkgcdfboaaGreatDoorMg44
set_option linter.unusedVariables false
set_option linter.unusedSimpArgs false
set_option maxHeartbeats 2000000
set_option maxRecDepth 100000
namespace Go.Proofs.YtepjepkgcdfboaaGreatDoor
open Go.RowKit
theorem c6q (k s:Nat):a1g (k+1) s=a3g (a1g k s):=a8m k 1 s
theorem b2g (w:World) (A:Option Addr) (cap:Nat) (ds:List Nat) (hc:a0d b8 w A ds) (hd:∀ d∈ds,d<256) (hl:ds.length<=4611686018427387904) :
  Calls Tryz.prog 53 #[.slice A ds.length cap] w fun e w'=>e=.returned (.int .u32 (c3g ds:Int))/\w=w':=by
 obtain ⟨n,hn⟩:=zX (ds.length)
 rw [<-hn] at hl ⊢
 have HN:=hid hn
 have HD:=hid hd
 have HC:=hid hc
 clear hn hd hc
 go_enter Tryz.func53,Tryz.ntmps53
 go_wp2_with fail
 go_loopg [3,5,6,9,17] n (fun j v3 v5 v6 v9 v17 wr=>∃ i s:Nat,v3=.int .u32 s/\v9=.int .i64 i/\i+j=n/\Hid (s=b8x 4294967295 (ds.take i))/\s<4294967296/\w=wr)
 case atStart=>exact ⟨0,4294967295,rfl,rfl,by omega,hid rfl,by decide,rfl⟩
 case round =>
  obtain ⟨i,s,rfl,rfl,ap,HS,hs,rfl⟩:=hrel
  rcases gk with _ | j
  ·obtain rfl:i=n:=by omega
   have t1:decide (i<i)=false:=by simp
   have hx:=u32_xor_nat s 4294967295 hs (by decide)
   have am:=u32_xor_nat 4294967295 s (by decide) hs
   have aq:bits .xor .u32 IntKind.u32.max (s:Int)=((s ^^^ 4294967295:Nat):Int):=by
    rw [Nat.xor_comm,<-am]
    rfl
   have hf:Hid (((s ^^^ 4294967295:Nat):Int)=(c3g ds:Int)):=by
    refine hid ?_
    have h:=HS.out
    rw [zT (by rw [<-HN.out];exact zQ _)] at h
    rw [h]
    rfl
   generalize ((s ^^^ 4294967295:Nat):Int)=z at *
   go_wp2
   go_ret
   exact ⟨by rw [<-hf.out];rfl,rfl⟩
  ·have hi:i<n:=by omega
   have ae:i<ds.length:=by rw [<-HN.out];exact hi
   obtain ⟨g,o,rfl,ab⟩:=HC.out.at_ ae
   obtain ⟨x,hx⟩:=zX (ds[i])
   rw [<-hx] at ab
   have ar:w.cell? ⟨g,o+i,none⟩=some (.int .u8 x):=ab
   have an:x<256:=by rw [hx];exact HD.out _ (zG _)
   have ac:Hid (b8x 4294967295 (ds.take (i+1))=a1g 8 (s ^^^ x)):=by
    refine hid ?_
    rw [List.take_succ_eq_append_getElem ae,c9y,<-HS.out,<-hx]
    rfl
   have hw:IntKind.u32.wrap (x:Int)=(x:Int):=by rw [IntKind.wrap_u32'];omega
   have af:=u32_xor_nat s x hs (by omega)
   obtain ⟨s0,ah⟩:=zX (s ^^^ x)
   have ag:s0<4294967296:=by rw [ah];exact Nat.xor_lt_two_pow (n:=32) hs (by omega)
   rw [<-ah] at af ac
   clear ab hx ah ae
   go_wp2_with fail
   go_loopg [3,6,17] 8 (fun j2 v3 v6 v17 wr=>∃ k u:Nat,v3=.int .u32 u/\v17=.int .i64 k/\k+j2=8/\Hid (u=a1g k s0)/\u<4294967296/\w=wr)
   case atStart=>exact ⟨0,s0,rfl,rfl,rfl,hid rfl,ag,rfl⟩
   case round =>
    obtain ⟨k,u,rfl,rfl,ao,HU,hu,rfl⟩:=hrel
    rcases gk with _ | j2
    ·obtain rfl:k=8:=by omega
     go_wp2
     go_roundg j
     case measure=>omega
     case rel=>exact ⟨i+1,u,rfl,by go_num,by omega,hid (by rw [ac.out,HU.out]),hu,rfl⟩
    ·have hk:decide ((k:Int)<8)=true:=zB (by omega)
     have ha:bits .and .u32 (u:Int) 1=((u%2:Nat):Int):=by
      have:=u32_and_nat u 1 hu (by decide)
      rw [Nat.and_one_is_mod] at this
      exact this
     have ai:(u:Int) / 2=((u / 2:Nat):Int):=by omega
     have ak:Hid (a1g (k+1) s0=a3g u):=hid (by rw [c6q,<-HU.out])
     by_cases h2:u%2=1
     ·rw [h2] at ha
      have ad:bits .xor .u32 ((u / 2:Nat):Int) 3988292384=(((u / 2) ^^^ 3988292384:Nat):Int):=u32_xor_nat (u / 2) 3988292384 (by omega) (by decide)
      have aj:(u / 2) ^^^ 3988292384<4294967296:=Nat.xor_lt_two_pow (n:=32) (by omega) (by decide)
      have aa:Hid ((u / 2) ^^^ 3988292384=a3g u):=hid (by unfold a3g;rw [if_pos h2])
      obtain ⟨v,hv⟩:=zX ((u / 2) ^^^ 3988292384)
      rw [<-hv] at ad aj aa
      obtain ⟨h,hh⟩:=zX (u / 2)
      rw [<-hh] at ad ai
      have al:h<2147483648:=by omega
      clear hv hh h2 af
      go_wp2
      go_roundg j2
      case measure=>omega
      case rel=>exact ⟨k+1,v,rfl,by go_num,by omega,hid (by rw [ak.out,aa.out]),aj,rfl⟩
     ·have h0:u%2=0:=by omega
      rw [h0] at ha
      have aa:Hid (u / 2=a3g u):=hid (by unfold a3g;rw [if_neg h2])
      obtain ⟨h,hh⟩:=zX (u / 2)
      rw [<-hh] at ai aa
      have al:h<2147483648:=by omega
      clear hh h2 h0 af
      go_wp2
      go_roundg j2
      case measure=>omega
      case rel=>exact ⟨k+1,h,rfl,by go_num,by omega,hid (by rw [ak.out,aa.out]),by omega,rfl⟩
theorem c4u {bs:List Nat} (h:∀ b∈bs,b<2):a0y (b0b bs) 0 bs:=by
 have hp:=b5o h
 have e:d7a bs=[]++bs++List.replicate ((8-bs.length%8)%8) 0:=by
  unfold d7a
  rw [List.nil_append]
 unfold b0b
 rw [e] at hp ⊢
 exact b7v hp
theorem c2p {p:a2a} (hp:p.Ok) {T rest:List Nat} {few:Nat} (hf2:few=0\/few=1) (hTe:T=b3z p.W p.H p.d p.P.length++(a0b few 1++rest)) (hTl:19<=T.length/\T.length<=4096000000) (hbit:∀ b∈T,b<2)
  (hin:∀ bo w' b F,a0y bo (0+18+1) rest->a1r w' b F bo (0+18+1)->Pts w'->0∉F->Calls Tryz.prog (if few=1 then 70 else 71) #[.pointer (some ⟨b,0,none⟩),.int .i64 p.W,.int .i64 p.H,.int .i64 p.d,.int .i64 p.P.length] w' (a9h w' b F bo T.length p))
  {w:World} (hpt:Pts w) {A:Option Addr} {cap:Nat} (hc:a0d b8 w A (a1e T)) (hcap:(a1e T).length<=cap) (hcm:cap<=9223372036854775807) :
  Calls Tryz.prog 25 #[.slice A (a1e T).length cap] w (a2x w p):=by
 unfold a2x
 obtain ⟨bo,aq⟩:=zX (b0b T)
 have bf:a1e T=bo++d8f (c3g bo):=by rw [aq];rfl
 have be:bo.length=(T.length+7) / 8:=by rw [aq];exact b7o T
 have aO:∀ d∈bo,d<256:=by rw [aq];exact b2z (b5o hbit)
 have aL:a0y bo 0 T:=by rw [aq];exact c4u hbit
 have ap:a0y bo T.length (a0b 0 ((8-T.length%8)%8)):=by rw [aq];exact e1l hbit
 have ad:8*bo.length-T.length=(8-T.length%8)%8:=by rw [aq];exact e1k T
 rw [hTe] at aL
 have bv:=aL.left
 have aH:=aL.right
 rw [a9q] at aH
 have bl:=aH.left
 have aZ:=aH.right
 rw [a0a] at aZ
 have aa:=fun w' b F h1 h2 h3=>hin bo w' b F aZ h1 h2 h3
 unfold a9h at aa
 have au:=fun w' b F (h:a1r w' b F bo 0)=>d6c h hp.w0 hp.w1 hp.h0 hp.h1 hp.d0 hp.d1 hp.n0 hp.n1 bv
 have ac:=fun w' b F (h:a1r w' b F bo (0+18))=>a0j w' b F bo (0+18) 1 few h (by omega) (by omega) bl
 obtain ⟨L,hL⟩:=zX ((8-T.length%8)%8)
 have b7:L<=7:=by omega
 rw [<-hL] at ap ad
 have aB:=fun w' b F (h:a1r w' b F bo T.length)=>a0j w' b F bo T.length L 0 h (by omega) (Nat.pow_pos (by decide)) ap
 have av:=fun w' b F (h:a1r w' b F bo T.length)=>e3j w' b F bo T.length h
 rw [ad] at av
 obtain ⟨tl,ae⟩:=zX (d8f (c3g bo))
 have aQ:tl.length=4:=by rw [ae];rfl
 have bp:∀ d∈tl,d<256:=by rw [ae];exact d2u _
 have aY:=c6p aO
 have bA:beN tl=c3g bo:=by rw [ae];exact d5h aY
 rw [<-ae] at bf
 rw [bf] at hc hcap ⊢
 obtain ⟨m,hm⟩:=zX (bo.length)
 have b3:m<=1000000000:=by omega
 obtain ⟨N,hN⟩:=zX ((bo++tl).length)
 have bO:N=m+4:=by rw [hN,zC,aQ,hm]
 rw [<-hN] at hcap ⊢
 have bc:a0d b8 w A bo:=by
  have h1:=hc.take bo.length
  rw [List.take_left] at h1
  exact h1
 have eN:(N:Int)-4=(m:Int):=by omega
 have bJ:=fun w'=>c8l (P:=Tryz.prog) Tryz.underlying39 A N cap m (by omega) hcap w' (c2r w')
 obtain ⟨A',aV,-,az⟩:=a9z (P:=Tryz.prog) Tryz.underlying39 c2r A N cap m (by omega) hcap
 have br:N-m=4:=by omega
 rw [br] at aV
 have bm:a0d b8 w A' tl:=by
  have h1:=az Nat b8 w _ (by rw [hN]) hc
  rw [hm,List.drop_left] at h1
  exact h1
 have aW:=fun w' c' (h':Chg [] w w')=>e4h w' A' c' tl (bm.same h') (by omega) (by omega)
 rw [aQ] at aW
 have al:=fun w' b g c' h'=>e4f w' b g c' tl h' aQ bp
 have aJ:=fun w' (h':Chg [] w w')=>b2g w' A cap bo (bc.same h') aO (by omega)
 have aS:=fun w' (h':Chg [] w w')=>e5h w' A cap bo (bc.same h') aO (by omega) (by omega) hcm
 rw [<-hm] at aJ aS
 rw [bA] at al
 obtain ⟨S,hS⟩:=zX (c3g bo)
 rw [<-hS] at aJ aY al
 have u1:IntKind.u64.wrap (S:Int)=(S:Int):=IntWalk.u64_in _ (by omega)
 have t1:((S:Int) != (S:Int))=false:=by simp
 have t0:decide ((N:Int)<4)=false:=zA (by omega)
 obtain ⟨w1,aG⟩:=zX (w.alloc (.cells #[.int .i64 0,.int .i64 0,.int .i64 0,.slice none 0 0] 27))
 obtain ⟨R,hR⟩:=zX (w.heap.size)
 have a7:Box w1 R (.int .i64 0) (.int .i64 0) (.int .i64 0) (.slice none 0 0):=⟨by rw [aG,hR];exact Blk.new w _ _⟩
 have bs:Chg [] w w1:=by rw [aG];exact (zR [] w).alloc _
 have bT:Hid (R<w1.heap.size):=hid a7.blk.lt
 have b6:N<=1000000004:=by omega
 have bw:a6y p=fun gP o' cap' => .agg #[.int .i64 p.W,.int .i64 p.H,.int .i64 p.d,.slice (some ⟨gP,o',none⟩) p.P.length cap']:=rfl
 rw [bw] at aa ⊢
 obtain ⟨n,hn⟩:=zX (p.P.length)
 have b4:n<=4:=by rw [hn];exact hp.n1
 rw [<-hn] at aa au ⊢
 have bU:=hid aW
 have bM:=hid al
 have bS:=hid aJ
 have bL:=hid aS
 have bQ:=hid au
 have aR:=hid ac
 have b1:=hid aa
 have bX:=hid aB
 have bW:=hid av
 have bY:=hid aG
 have bB:=hid hR
 have bK:=hid a7
 have ao:=hid bs
 have HP:=hid hpt
 clear hN hm bc hc az br bm aO bp aW al aJ aS aY bA hS aG hR a7 bs aQ bO au ac aa aB av hpt hn bw hTl hTe aq bf be aL ap ad bv aH bl aZ hL ae hbit hp hin
 rcases hf2 with rfl | rfl
 all_goals
  go_enter Tryz.func25,Tryz.ntmps25
  go_wp2_with fail
  rw [<-bY.out,<-bB.out]
  refine (bU.out w1 _ ao.out).mono ?_
  rintro e w2 ⟨b,g,c',rfl,bC,bF,hb⟩
  have al:=bM.out w2 b g c' bC
  have a9:=hid bF
  have bZ:=hid hb
  clear bC bF hb
  go_wp2_with fail
  refine al.mono ?_
  rintro e w3 ⟨rfl,bn⟩
  have ay:Chg [] w1 w3:=a9.out.trans bn (fun x hx => .inr (by simp at hx;have:=bZ.out;omega))
  have ag:=hid ay
  clear al bn ay
  go_wp2_with fail
  refine (bS.out w3 (ao.out.tq ag.out)).mono ?_
  rintro e w4 ⟨rfl,rfl⟩
  go_wp2_with fail
  refine (bL.out w3 (ao.out.tq ag.out)).mono ?_
  rintro e w5 ⟨b5,F,rfl,ah,bj,bz⟩
  clear t1 u1 t0 eN
  have aw:Hid (∀ x∈F,w1.heap.size<=x):=hid (fun x hx=>Nat.le_trans ag.out.size (bz x hx))
  have a8:=hid (ag.out.tq bj)
  have aA:=hid ah.mem
  have au:=bQ.out w5 b5 F ah
  clear ah bj bz
  go_wp2_with fail
  refine au.mono ?_
  rintro e w6 ⟨rfl,aE,bD⟩
  have ac:=aR.out w6 b5 F aE
  have bb:Hid (Chg [] w1 w6):=hid (a8.out.trans bD (fun x hx => .inr (by simp at hx;subst hx;exact aw.out _ aA.out)))
  clear au aE bD
  go_wp2_with fail
  refine ac.mono ?_
  rintro e w7 ⟨rfl,af,bE⟩
  have aD:Hid (Chg [] w1 w7):=hid (bb.out.trans bE (fun x hx => .inr (by simp at hx;subst hx;exact aw.out _ aA.out)))
  have ax:=a2b w7 b5 F bo _ af
  obtain ⟨wA,aM⟩:=zX (w7.alloc (.cells #[.int .i64 0,.int .i64 0,.int .i64 0,.slice none 0 0] 27))
  obtain ⟨X,hX⟩:=zX (w7.heap.size)
  have a3:Chg [] w7 wA:=by rw [aM];exact (zR [] w7).alloc _
  have a4:Box wA X (.int .i64 0) (.int .i64 0) (.int .i64 0) (.slice none 0 0):=⟨by rw [aM,hX];exact Blk.new w7 _ _⟩
  have bV:=hid a4
  have bd:=hid (af.chg a3 (by simp))
  have ai:=hid (aD.out.tq a3)
  have bN:=hid aM
  have bP:=hid hX
  have ar:Hid (w7.heap.size<=X/\X<wA.heap.size):=hid ⟨by omega,a4.blk.lt⟩
  have a2:Hid (b5<w7.heap.size):=hid (af.lt b5 aA.out)
  have bI:Hid (∀ x∈F,x<w7.heap.size):=hid af.lt
  clear ac af bE aM hX a3 a4
  go_wp2_with (go_at_call 69;refine ax.mono ?_;rintro e w' ⟨rfl,rfl⟩)
  rw [<-bN.out,<-bP.out]
  have bk:Pts wA:=(HP.out.same ao.out).same ai.out
  have bu:0∉F:=fun hm=>by have:=aw.out 0 hm;have:=HP.out.lt;have:=ao.out.size;omega
  have aa:=b1.out wA b5 F bd.out bk bu
  clear ax bk bu
  first | rw [if_pos rfl] at aa | rw [if_pos trivial] at aa | rw [if_neg not_false] at aa | rw [if_neg (by decide)] at aa
  refine aa.mono ?_
  rintro e w8 ⟨gP,ab,xs,gs,rfl,aF,aC,aX,an⟩
  have bi:X∉[b5]:=by have:=a2.out;have:=ar.out;simp;omega
  have ak:=bV.out.chg aX bi
  obtain ⟨z0,z1,z2,z3⟩:=ak.cells
  have f0:=ak.blk.frozen 0
  have f1:=ak.blk.frozen 1
  have f2:=ak.blk.frozen 2
  have f3:=ak.blk.frozen 3
  obtain ⟨wS,aK⟩:=zX ((((w8.setCell ⟨X,0,none⟩ (.int .i64 p.W)).setCell ⟨X,1,none⟩ (.int .i64 p.H)).setCell ⟨X,2,none⟩ (.int .i64 p.d)).setCell ⟨X,3,none⟩ (.slice (some ⟨gP,0,none⟩) n ab))
  have bG:Box wS X (.int .i64 p.W) (.int .i64 p.H) (.int .i64 p.d) (.slice (some ⟨gP,0,none⟩) n ab):=by
   rw [aK]
   have:=(((ak.blk.set_ 0 (.int .i64 p.W)).set_ 1 (.int .i64 p.H)).set_ 2 (.int .i64 p.d)).set_ 3 (.slice (some ⟨gP,0,none⟩) n ab)
   exact ⟨by simpa using this⟩
  have aN:Chg [X] w8 wS:=by
   rw [aK]
   exact ((((zR [X] w8).setCell (p:=⟨X,0,none⟩) (.inl (by simp)) _).setCell (p:=⟨X,1,none⟩) (.inl (by simp)) _).setCell (p:=⟨X,2,none⟩) (.inl (by simp)) _).setCell (p:=⟨X,3,none⟩) (.inl (by simp)) _
  have bq:∀ x∈F,x∉[X]:=fun x hx hm=>by have:=bI.out x hx;have:=ar.out;simp at hm;omega
  have aU:∀ x∈gP::gs,x∉[X]:=fun x hx hm=>by have:=an x hx;have:=ar.out;simp at hm;omega
  have am:=aC.chg aN bq
  have bg:=hid (aF.chg aN (aU gP (by simp)) (fun x hx=>aU x (by simp [hx])))
  have av:=bW.out wS b5 F am
  have bR:=hid bG
  have ba:=hid am
  have bH:Hid (Chg [] w1 wS):=hid ((ai.out.trans aX (fun x hx => .inr (by simp at hx;subst hx;exact aw.out _ aA.out))).trans aN (fun x hx => .inr (by simp at hx;have:=ar.out;have:=aD.out.size;omega)))
  have aI:Hid (∀ x∈gP::gs,w1.heap.size<=x/\x≠b5):=hid (fun x hx=>by have:=an x hx;have:=ai.out.size;have:=a2.out;have:=ar.out;omega)
  have b2:=hid aK
  clear aa aF aC aX an bi ak aK bG aN bq aU am
  go_wp2_with fail
  rw [<-b2.out]
  refine av.mono ?_
  rintro e w' ⟨rfl,q,rfl⟩
  obtain ⟨wT,aT⟩:=zX (wS.drewN q)
  have a6:Chg [] wS wT:=by rw [aT];exact (zR [] wS).drewN q
  rw [<-aT]
  have aB:=bX.out wT b5 F (ba.out.chg a6 (by simp))
  have a0:=hid a6
  have t8:decide ((8:Int)<=(L:Int))=false:=zA (by omega)
  have t9:decide (8<=L)=false:=zA (by omega)
  clear av z0 z1 z2 z3 f0 f1 f2 f3 aT a6
  go_wp2_with fail
  refine aB.mono ?_
  rintro e w9 ⟨rfl,a5,aP⟩
  have aj:Chg [] w1 w9:=(bH.out.tq a0.out).trans aP (fun x hx => .inr (by simp at hx;subst hx;exact aw.out _ aA.out))
  have bx:=(bR.out.same a0.out).chg aP (by have:=a2.out;have:=ar.out;simp;omega)
  obtain ⟨x0,x1,x2,x3⟩:=bx.cells
  have hz:=bK.out.same aj
  obtain ⟨z0,z1,z2,z3⟩:=hz.cells
  have f0:=hz.blk.frozen 0
  have f1:=hz.blk.frozen 1
  have f2:=hz.blk.frozen 2
  have f3:=hz.blk.frozen 3
  have HZ:=hid hz
  have a1:=hid aj
  have b0:=hid ((bg.out.same a0.out).chg aP (by simpa using (aI.out gP (by simp)).2) (fun x hx=>by simpa using (aI.out x (by simp [hx])).2))
  clear aB a5 aP aj bx hz
  go_wp2_with fail
  refine b1x HZ.out ?_
  intro V hV hY
  obtain ⟨y0,y1,y2,y3⟩:=hV.cells
  refine bodyPost_ret (v:=.tuple #[.agg #[.int .i64 p.W,.int .i64 p.H,.int .i64 p.d,.slice (some ⟨gP,0,none⟩) n ab],.int .i64 0]) (by simp [results,Tryz.results25,go_sem,y0,y1,y2,y3]) rfl ?_
  have bh:∀ x∈gP::gs,x∉[R]:=fun x hx hm=>by have:=(aI.out x hx).1;have:=bT.out;simp at hm;omega
  exact ⟨gP,ab,xs,gs,rfl,b0.out.chg hY (bh gP (by simp)) (fun x hx=>bh x (by simp [hx])),(ao.out.tq a1.out).trans hY (fun x hx => .inr (by simp at hx;have:=bB.out;omega)),fun x hx=>by have:=(aI.out x hx).1;have:=ao.out.size;omega⟩
theorem c2q {way:Option Nat} (hway:b1b way) {k:Nat} {p:a2a} (hp:p.Ok) (k4:k<=4) (hkm:b9k p.P.length k=true) (hmay:b1t way k p=true) (hbit:∀ b∈a4h way k p,b<2) {w:World} (hpt:Pts w) {A:Option Addr} {cap:Nat}
  (hc:a0d b8 w A (a1e (a4h way k p))) (hcap:(a1e (a4h way k p)).length<=cap) (hcm:cap<=9223372036854775807) :
  Calls Tryz.prog 25 #[.slice A (a1e (a4h way k p)).length cap] w (a2x w p):=by
 have hq:=b2t hp k
 have ac:(a3p k p).P.length=p.P.length:=a3y _ _ _
 have ae:=e1h hp hkm
 have aa:a2u way (a3p k p) (a3p k p).P.length=true:=by rw [ac];exact hmay
 have ad:a4h way k p=b3z p.W p.H p.d p.P.length++(a0b 0 1++(a0b k 3++a1d way (a3p k p) (a3p k p).P.length)):=by rw [ac];rfl
 have hl:=b4a hway hp hmay
 refine c2p hp (.inl rfl) ad ⟨by omega,hl.2⟩ hbit (fun bo w' b F hA h1 h2 h3 => ?_) hpt hc hcap hcm
 have:=d3m hway h1 hq k4 (by rw [ac];exact hkm) aa h2 h3 hA
 have ab:0+18+1+3+(a1d way (a3p k p) (a3p k p).P.length).length=(a4h way k p).length:=by
  rw [ad]
  simp only [zC,a9q,a0a]
  omega
 rw [ab,ae,ac] at this
 exact this
end Go.Proofs.YtepjepkgcdfboaaGreatDoor
