/- package sums by its contract: ThirtyTwo. -/
import Derived.Laws.BitsAllLaws
import Derived.Test.YtepjepkgcdfboaaGreatDoorMg44
set_option linter.unusedVariables false
set_option linter.unusedSimpArgs false
set_option maxHeartbeats 2000000
set_option maxRecDepth 100000
namespace Go.Proofs.YtepjepkgcdfboaaGreatDoor
open Go.RowKit
theorem c6q (k s:Nat):a1g (k+1) s=a3g (a1g k s):=a8m k 1 s
theorem b2g (w:World) (A:Option Addr) (cap:Nat) (ds:List Nat) (hc:a0d b8 w A ds) (hd:∀ d∈ds,d<256) (hl:ds.length<=4611686018427387904) :
  Calls Tryz.prog 53 #[.slice A ds.length cap] w fun e w'=>e=.returned (.int .u32 (c3g ds:Int))/\w=w':=by
 obtain ⟨n,hn⟩:=zX (ds.length)
 rw [<-hn] at hl ⊢
 have HN:=hid hn
 have HD:=hid hd
 have HC:=hid hc
 clear hn hd hc
 go_enter Tryz.func53,Tryz.ntmps53
 go_wp2_with fail
 go_loopg [3,5,6,9,17] n (fun j v3 v5 v6 v9 v17 wr=>∃ i s:Nat,v3=.int .u32 s/\v9=.int .i64 i/\i+j=n/\Hid (s=b8x 4294967295 (ds.take i))/\s<4294967296/\w=wr)
 case atStart=>exact ⟨0,4294967295,rfl,rfl,by omega,hid rfl,by decide,rfl⟩
 case round =>
  obtain ⟨i,s,rfl,rfl,aq,HS,hs,rfl⟩:=hrel
  rcases gk with _ | j
  ·obtain rfl:i=n:=by omega
   have t1:decide (i<i)=false:=by simp
   have hx:=u32_xor_nat s 4294967295 hs (by decide)
   have al:=u32_xor_nat 4294967295 s (by decide) hs
   have ar:bits .xor .u32 IntKind.u32.max (s:Int)=((s ^^^ 4294967295:Nat):Int):=by
    rw [Nat.xor_comm,<-al]
    rfl
   have hf:Hid (((s ^^^ 4294967295:Nat):Int)=(c3g ds:Int)):=by
    refine hid ?_
    have h:=HS.out
    rw [zT (by rw [<-HN.out];exact zQ _)] at h
    rw [h]
    rfl
   generalize ((s ^^^ 4294967295:Nat):Int)=z at *
   go_wp2
   go_ret
   exact ⟨by rw [<-hf.out];rfl,rfl⟩
  ·have hi:i<n:=by omega
   have ah:i<ds.length:=by rw [<-HN.out];exact hi
   obtain ⟨g,o,rfl,aa⟩:=HC.out.at_ ah
   obtain ⟨x,hx⟩:=zX (ds[i])
   rw [<-hx] at aa
   have ap:w.cell? ⟨g,o+i,none⟩=some (.int .u8 x):=aa
   have ao:x<256:=by rw [hx];exact HD.out _ (zG _)
   have ac:Hid (b8x 4294967295 (ds.take (i+1))=a1g 8 (s ^^^ x)):=by
    refine hid ?_
    rw [List.take_succ_eq_append_getElem ah,c9y,<-HS.out,<-hx]
    rfl
   have hw:IntKind.u32.wrap (x:Int)=(x:Int):=by rw [IntKind.wrap_u32'];omega
   have ag:=u32_xor_nat s x hs (by omega)
   obtain ⟨s0,ae⟩:=zX (s ^^^ x)
   have af:s0<4294967296:=by rw [ae];exact Nat.xor_lt_two_pow (n:=32) hs (by omega)
   rw [<-ae] at ag ac
   clear aa hx ae ah
   go_wp2_with fail
   go_loopg [3,6,17] 8 (fun j2 v3 v6 v17 wr=>∃ k u:Nat,v3=.int .u32 u/\v17=.int .i64 k/\k+j2=8/\Hid (u=a1g k s0)/\u<4294967296/\w=wr)
   case atStart=>exact ⟨0,s0,rfl,rfl,rfl,hid rfl,af,rfl⟩
   case round =>
    obtain ⟨k,u,rfl,rfl,an,HU,hu,rfl⟩:=hrel
    rcases gk with _ | j2
    ·obtain rfl:k=8:=by omega
     go_wp2
     go_roundg j
     case measure=>omega
     case rel=>exact ⟨i+1,u,rfl,by go_num,by omega,hid (by rw [ac.out,HU.out]),hu,rfl⟩
    ·have hk:decide ((k:Int)<8)=true:=zB (by omega)
     have ha:bits .and .u32 (u:Int) 1=((u%2:Nat):Int):=by
      have:=u32_and_nat u 1 hu (by decide)
      rw [Nat.and_one_is_mod] at this
      exact this
     have ai:(u:Int) / 2=((u / 2:Nat):Int):=by omega
     have ak:Hid (a1g (k+1) s0=a3g u):=hid (by rw [c6q,<-HU.out])
     by_cases h2:u%2=1
     ·rw [h2] at ha
      have ad:bits .xor .u32 ((u / 2:Nat):Int) 3988292384=(((u / 2) ^^^ 3988292384:Nat):Int):=u32_xor_nat (u / 2) 3988292384 (by omega) (by decide)
      have aj:(u / 2) ^^^ 3988292384<4294967296:=Nat.xor_lt_two_pow (n:=32) (by omega) (by decide)
      have ab:Hid ((u / 2) ^^^ 3988292384=a3g u):=hid (by unfold a3g;rw [if_pos h2])
      obtain ⟨v,hv⟩:=zX ((u / 2) ^^^ 3988292384)
      rw [<-hv] at ad aj ab
      obtain ⟨h,hh⟩:=zX (u / 2)
      rw [<-hh] at ad ai
      have am:h<2147483648:=by omega
      clear hv hh h2 ag
      go_wp2
      go_roundg j2
      case measure=>omega
      case rel=>exact ⟨k+1,v,rfl,by go_num,by omega,hid (by rw [ak.out,ab.out]),aj,rfl⟩
     ·have h0:u%2=0:=by omega
      rw [h0] at ha
      have ab:Hid (u / 2=a3g u):=hid (by unfold a3g;rw [if_neg h2])
      obtain ⟨h,hh⟩:=zX (u / 2)
      rw [<-hh] at ai ab
      have am:h<2147483648:=by omega
      clear hh h2 h0 ag
      go_wp2
      go_roundg j2
      case measure=>omega
      case rel=>exact ⟨k+1,h,rfl,by go_num,by omega,hid (by rw [ak.out,ab.out]),by omega,rfl⟩
theorem c4u {bs:List Nat} (h:∀ b∈bs,b<2):a0y (b0b bs) 0 bs:=by
 have hp:=b5o h
 have e:d7a bs=[]++bs++List.replicate ((8-bs.length%8)%8) 0:=by
  unfold d7a
  rw [List.nil_append]
 unfold b0b
 rw [e] at hp ⊢
 exact b7v hp
theorem c2p {p:a2a} (hp:p.Ok) {T rest:List Nat} {few:Nat} (hf2:few=0\/few=1) (hTe:T=b3z p.W p.H p.d p.P.length++(a0b few 1++rest)) (hTl:19<=T.length/\T.length<=4096000000) (hbit:∀ b∈T,b<2)
  (hin:∀ bo w' b F,a0y bo (0+18+1) rest->a1r w' b F bo (0+18+1)->Pts w'->0∉F->Calls Tryz.prog (if few=1 then 70 else 71) #[.pointer (some ⟨b,0,none⟩),.int .i64 p.W,.int .i64 p.H,.int .i64 p.d,.int .i64 p.P.length] w' (a9h w' b F bo T.length p))
  {w:World} (hpt:Pts w) {A:Option Addr} {cap:Nat} (hc:a0d b8 w A (a1e T)) (hcap:(a1e T).length<=cap) (hcm:cap<=9223372036854775807) :
  Calls Tryz.prog 25 #[.slice A (a1e T).length cap] w (a2x w p):=by
 unfold a2x
 obtain ⟨bo,am⟩:=zX (b0b T)
 have aV:a1e T=bo++d8f (c3g bo):=by rw [am];rfl
 have aU:bo.length=(T.length+7) / 8:=by rw [am];exact b7o T
 have aQ:∀ d∈bo,d<256:=by rw [am];exact b2z (b5o hbit)
 have aJ:a0y bo 0 T:=by rw [am];exact c4u hbit
 have ai:a0y bo T.length (a0b 0 ((8-T.length%8)%8)):=by rw [am];exact e1l hbit
 have ae:8*bo.length-T.length=(8-T.length%8)%8:=by rw [am];exact e1k T
 rw [hTe] at aJ
 have bq:=aJ.left
 have aN:=aJ.right
 rw [a9q] at aN
 have bk:=aN.left
 have a4:=aN.right
 rw [a0a] at a4
 have aa:=fun w' b F h1 h2 h3=>hin bo w' b F a4 h1 h2 h3
 unfold a9h at aa
 have av:=fun w' b F (h:a1r w' b F bo 0)=>d6c h hp.w0 hp.w1 hp.h0 hp.h1 hp.d0 hp.d1 hp.n0 hp.n1 bq
 have ac:=fun w' b F (h:a1r w' b F bo (0+18))=>a0j w' b F bo (0+18) 1 few h (by omega) (by omega) bk
 obtain ⟨L,hL⟩:=zX ((8-T.length%8)%8)
 have b3:L<=7:=by omega
 rw [<-hL] at ai ae
 have aC:=fun w' b F (h:a1r w' b F bo T.length)=>a0j w' b F bo T.length L 0 h (by omega) (Nat.pow_pos (by decide)) ai
 have ar:=fun w' b F (h:a1r w' b F bo T.length)=>e3j w' b F bo T.length h
 rw [ae] at ar
 obtain ⟨tl,ab⟩:=zX (d8f (c3g bo))
 have aI:tl.length=4:=by rw [ab];rfl
 have bi:∀ d∈tl,d<256:=by rw [ab];exact d2u _
 have a7:=c6p aQ
 have bs:beN tl=c3g bo:=by rw [ab];exact d5h a7
 rw [<-ab] at aV
 rw [aV] at hc hcap ⊢
 obtain ⟨m,hm⟩:=zX (bo.length)
 have b7:m<=1000000000:=by omega
 obtain ⟨N,hN⟩:=zX ((bo++tl).length)
 have bQ:N=m+4:=by rw [hN,zC,aI,hm]
 rw [<-hN] at hcap ⊢
 have be:a0d b8 w A bo:=by
  have h1:=hc.take bo.length
  rw [List.take_left] at h1
  exact h1
 have eN:(N:Int)-4=(m:Int):=by omega
 have bX:=fun w'=>c8l (P:=Tryz.prog) Tryz.underlying39 A N cap m (by omega) hcap w' (c2r w')
 obtain ⟨A',aS,-,ax⟩:=a9z (P:=Tryz.prog) Tryz.underlying39 c2r A N cap m (by omega) hcap
 have bl:N-m=4:=by omega
 rw [bl] at aS
 have bj:a0d b8 w A' tl:=by
  have h1:=ax Nat b8 w _ (by rw [hN]) hc
  rw [hm,List.drop_left] at h1
  exact h1
 have bf:=fun w' c' (h':Chg [] w w')=>e4h w' A' c' tl (bj.same h') (by omega) (by omega)
 rw [aI] at bf
 have aj:=fun w' b g c' h'=>e4f w' b g c' tl h' aI bi
 have aK:=fun w' (h':Chg [] w w')=>b2g w' A cap bo (be.same h') aQ (by omega)
 have a9:=fun w' (h':Chg [] w w')=>e5h w' A cap bo (be.same h') aQ (by omega) (by omega) hcm
 rw [<-hm] at aK a9
 rw [bs] at aj
 obtain ⟨S,hS⟩:=zX (c3g bo)
 rw [<-hS] at aK a7 aj
 have u1:IntKind.u64.wrap (S:Int)=(S:Int):=IntWalk.u64_in _ (by omega)
 have t1:((S:Int) != (S:Int))=false:=by simp
 have t0:decide ((N:Int)<4)=false:=zA (by omega)
 obtain ⟨w1,aL⟩:=zX (w.alloc (.cells #[.int .i64 0,.int .i64 0,.int .i64 0,.slice none 0 0] 27))
 obtain ⟨R,hR⟩:=zX (w.heap.size)
 have bd:Box w1 R (.int .i64 0) (.int .i64 0) (.int .i64 0) (.slice none 0 0):=⟨by rw [aL,hR];exact Blk.new w _ _⟩
 have bz:Chg [] w w1:=by rw [aL];exact (zR [] w).alloc _
 have bV:Hid (R<w1.heap.size):=hid bd.blk.lt
 have b4:N<=1000000004:=by omega
 have bw:a6y p=fun gP o' cap' => .agg #[.int .i64 p.W,.int .i64 p.H,.int .i64 p.d,.slice (some ⟨gP,o',none⟩) p.P.length cap']:=rfl
 rw [bw] at aa ⊢
 obtain ⟨n,hn⟩:=zX (p.P.length)
 have b6:n<=4:=by rw [hn];exact hp.n1
 rw [<-hn] at aa av ⊢
 have bJ:=hid bf
 have b1:=hid aj
 have bN:=hid aK
 have bO:=hid a9
 have bK:=hid av
 have a1:=hid ac
 have bY:=hid aa
 have bM:=hid aC
 have bW:=hid ar
 have b0:=hid aL
 have bA:=hid hR
 have bP:=hid bd
 have ak:=hid bz
 have HP:=hid hpt
 clear hN hm be hc ax bl bj aQ bi bf aj aK a9 a7 bs hS aL hR bd bz aI bQ av ac aa aC ar hpt hn bw hTl hTe am aV aU aJ ai ae bq aN bk a4 hL ab hbit hp hin
 rcases hf2 with rfl | rfl
 all_goals
  go_enter Tryz.func25,Tryz.ntmps25
  go_wp2_with fail
  rw [<-b0.out,<-bA.out]
  refine (bJ.out w1 _ ak.out).mono ?_
  rintro e w2 ⟨b,g,c',rfl,bG,bm,hb⟩
  have aj:=b1.out w2 b g c' bG
  have bc:=hid bm
  have bT:=hid hb
  clear bG bm hb
  go_wp2_with fail
  refine aj.mono ?_
  rintro e w3 ⟨rfl,bp⟩
  have aD:Chg [] w1 w3:=bc.out.trans bp (fun x hx => .inr (by simp at hx;have:=bT.out;omega))
  have ag:=hid aD
  clear aj bp aD
  go_wp2_with fail
  refine (bN.out w3 (ak.out.tq ag.out)).mono ?_
  rintro e w4 ⟨rfl,rfl⟩
  go_wp2_with fail
  refine (bO.out w3 (ak.out.tq ag.out)).mono ?_
  rintro e w5 ⟨b5,F,rfl,aq,bE,bh⟩
  clear t1 u1 t0 eN
  have aw:Hid (∀ x∈F,w1.heap.size<=x):=hid (fun x hx=>Nat.le_trans ag.out.size (bh x hx))
  have a8:=hid (ag.out.tq bE)
  have aA:=hid aq.mem
  have av:=bK.out w5 b5 F aq
  clear aq bE bh
  go_wp2_with fail
  refine av.mono ?_
  rintro e w6 ⟨rfl,ay,bn⟩
  have ac:=a1.out w6 b5 F ay
  have ba:Hid (Chg [] w1 w6):=hid (a8.out.trans bn (fun x hx => .inr (by simp at hx;subst hx;exact aw.out _ aA.out)))
  clear av ay bn
  go_wp2_with fail
  refine ac.mono ?_
  rintro e w7 ⟨rfl,ad,bv⟩
  have az:Hid (Chg [] w1 w7):=hid (ba.out.trans bv (fun x hx => .inr (by simp at hx;subst hx;exact aw.out _ aA.out)))
  have aB:=a2b w7 b5 F bo _ ad
  obtain ⟨wA,aG⟩:=zX (w7.alloc (.cells #[.int .i64 0,.int .i64 0,.int .i64 0,.slice none 0 0] 27))
  obtain ⟨X,hX⟩:=zX (w7.heap.size)
  have a6:Chg [] w7 wA:=by rw [aG];exact (zR [] w7).alloc _
  have a2:Box wA X (.int .i64 0) (.int .i64 0) (.int .i64 0) (.slice none 0 0):=⟨by rw [aG,hX];exact Blk.new w7 _ _⟩
  have b2:=hid a2
  have a3:=hid (ad.chg a6 (by simp))
  have ap:=hid (az.out.tq a6)
  have bL:=hid aG
  have bI:=hid hX
  have au:Hid (w7.heap.size<=X/\X<wA.heap.size):=hid ⟨by omega,a2.blk.lt⟩
  have a0:Hid (b5<w7.heap.size):=hid (ad.lt b5 aA.out)
  have bZ:Hid (∀ x∈F,x<w7.heap.size):=hid ad.lt
  clear ac ad bv aG hX a6 a2
  go_wp2_with (go_at_call 69;refine aB.mono ?_;rintro e w' ⟨rfl,rfl⟩)
  rw [<-bL.out,<-bI.out]
  have bB:Pts wA:=(HP.out.same ak.out).same ap.out
  have bu:0∉F:=fun hm=>by have:=aw.out 0 hm;have:=HP.out.lt;have:=ak.out.size;omega
  have aa:=bY.out wA b5 F a3.out bB bu
  clear aB bB bu
  first | rw [if_pos rfl] at aa | rw [if_pos trivial] at aa | rw [if_neg not_false] at aa | rw [if_neg (by decide)] at aa
  refine aa.mono ?_
  rintro e w8 ⟨gP,af,xs,gs,rfl,aE,aF,a5,ah⟩
  have bx:X∉[b5]:=by have:=a0.out;have:=au.out;simp;omega
  have al:=b2.out.chg a5 bx
  obtain ⟨z0,z1,z2,z3⟩:=al.cells
  have f0:=al.blk.frozen 0
  have f1:=al.blk.frozen 1
  have f2:=al.blk.frozen 2
  have f3:=al.blk.frozen 3
  obtain ⟨wS,aP⟩:=zX ((((w8.setCell ⟨X,0,none⟩ (.int .i64 p.W)).setCell ⟨X,1,none⟩ (.int .i64 p.H)).setCell ⟨X,2,none⟩ (.int .i64 p.d)).setCell ⟨X,3,none⟩ (.slice (some ⟨gP,0,none⟩) n af))
  have bC:Box wS X (.int .i64 p.W) (.int .i64 p.H) (.int .i64 p.d) (.slice (some ⟨gP,0,none⟩) n af):=by
   rw [aP]
   have:=(((al.blk.set_ 0 (.int .i64 p.W)).set_ 1 (.int .i64 p.H)).set_ 2 (.int .i64 p.d)).set_ 3 (.slice (some ⟨gP,0,none⟩) n af)
   exact ⟨by simpa using this⟩
  have aO:Chg [X] w8 wS:=by
   rw [aP]
   exact ((((zR [X] w8).setCell (p:=⟨X,0,none⟩) (.inl (by simp)) _).setCell (p:=⟨X,1,none⟩) (.inl (by simp)) _).setCell (p:=⟨X,2,none⟩) (.inl (by simp)) _).setCell (p:=⟨X,3,none⟩) (.inl (by simp)) _
  have br:∀ x∈F,x∉[X]:=fun x hx hm=>by have:=bZ.out x hx;have:=au.out;simp at hm;omega
  have aX:∀ x∈gP::gs,x∉[X]:=fun x hx hm=>by have:=ah x hx;have:=au.out;simp at hm;omega
  have an:=aF.chg aO br
  have aT:=hid (aE.chg aO (aX gP (by simp)) (fun x hx=>aX x (by simp [hx])))
  have ar:=bW.out wS b5 F an
  have bH:=hid bC
  have aZ:=hid an
  have bS:Hid (Chg [] w1 wS):=hid ((ap.out.trans a5 (fun x hx => .inr (by simp at hx;subst hx;exact aw.out _ aA.out))).trans aO (fun x hx => .inr (by simp at hx;have:=au.out;have:=az.out.size;omega)))
  have aM:Hid (∀ x∈gP::gs,w1.heap.size<=x/\x≠b5):=hid (fun x hx=>by have:=ah x hx;have:=ap.out.size;have:=a0.out;have:=au.out;omega)
  have bR:=hid aP
  clear aa aE aF a5 ah bx al aP bC aO br aX an
  go_wp2_with fail
  rw [<-bR.out]
  refine ar.mono ?_
  rintro e w' ⟨rfl,q,rfl⟩
  obtain ⟨wT,bg⟩:=zX (wS.drewN q)
  have aW:Chg [] wS wT:=by rw [bg];exact (zR [] wS).drewN q
  rw [<-bg]
  have aC:=bM.out wT b5 F (aZ.out.chg aW (by simp))
  have aR:=hid aW
  have t8:decide ((8:Int)<=(L:Int))=false:=zA (by omega)
  have t9:decide (8<=L)=false:=zA (by omega)
  clear ar z0 z1 z2 z3 f0 f1 f2 f3 bg aW
  go_wp2_with fail
  refine aC.mono ?_
  rintro e w9 ⟨rfl,aY,aH⟩
  have ao:Chg [] w1 w9:=(bS.out.tq aR.out).trans aH (fun x hx => .inr (by simp at hx;subst hx;exact aw.out _ aA.out))
  have bF:=(bH.out.same aR.out).chg aH (by have:=a0.out;have:=au.out;simp;omega)
  obtain ⟨x0,x1,x2,x3⟩:=bF.cells
  have hz:=bP.out.same ao
  obtain ⟨z0,z1,z2,z3⟩:=hz.cells
  have f0:=hz.blk.frozen 0
  have f1:=hz.blk.frozen 1
  have f2:=hz.blk.frozen 2
  have f3:=hz.blk.frozen 3
  have HZ:=hid hz
  have bb:=hid ao
  have bU:=hid ((aT.out.same aR.out).chg aH (by simpa using (aM.out gP (by simp)).2) (fun x hx=>by simpa using (aM.out x (by simp [hx])).2))
  clear aC aY aH ao bF hz
  go_wp2_with fail
  refine b1x HZ.out ?_
  intro V hV hY
  obtain ⟨y0,y1,y2,y3⟩:=hV.cells
  refine bodyPost_ret (v:=.tuple #[.agg #[.int .i64 p.W,.int .i64 p.H,.int .i64 p.d,.slice (some ⟨gP,0,none⟩) n af],.int .i64 0]) (by simp [results,Tryz.results25,go_sem,y0,y1,y2,y3]) rfl ?_
  have bD:∀ x∈gP::gs,x∉[R]:=fun x hx hm=>by have:=(aM.out x hx).1;have:=bV.out;simp at hm;omega
  exact ⟨gP,af,xs,gs,rfl,bU.out.chg hY (bD gP (by simp)) (fun x hx=>bD x (by simp [hx])),(ak.out.tq bb.out).trans hY (fun x hx => .inr (by simp at hx;have:=bA.out;omega)),fun x hx=>by have:=(aM.out x hx).1;have:=ak.out.size;omega⟩
theorem c2q {way:Option Nat} (hway:b1b way) {k:Nat} {p:a2a} (hp:p.Ok) (k4:k<=4) (hkm:b9k p.P.length k=true) (hmay:b1t way k p=true) (hbit:∀ b∈a4h way k p,b<2) {w:World} (hpt:Pts w) {A:Option Addr} {cap:Nat}
  (hc:a0d b8 w A (a1e (a4h way k p))) (hcap:(a1e (a4h way k p)).length<=cap) (hcm:cap<=9223372036854775807) :
  Calls Tryz.prog 25 #[.slice A (a1e (a4h way k p)).length cap] w (a2x w p):=by
 have hq:=b2t hp k
 have ac:(a3p k p).P.length=p.P.length:=a3y _ _ _
 have ae:=e1h hp hkm
 have ab:a2u way (a3p k p) (a3p k p).P.length=true:=by rw [ac];exact hmay
 have ad:a4h way k p=b3z p.W p.H p.d p.P.length++(a0b 0 1++(a0b k 3++a1d way (a3p k p) (a3p k p).P.length)):=by rw [ac];rfl
 have hl:=b4a hway hp hmay
 refine c2p hp (.inl rfl) ad ⟨by omega,hl.2⟩ hbit (fun bo w' b F hA h1 h2 h3 => ?_) hpt hc hcap hcm
 have:=d3m hway h1 hq k4 (by rw [ac];exact hkm) ab h2 h3 hA
 have aa:0+18+1+3+(a1d way (a3p k p) (a3p k p).P.length).length=(a4h way k p).length:=by
  rw [ad]
  simp only [zC,a9q,a0a]
  omega
 rw [aa,ae,ac] at this
 exact this
end Go.Proofs.YtepjepkgcdfboaaGreatDoor
