/- package still by its contracts: Decode of what By wrote by a palette. -/
import Derived.Test.YtepjepkgcdfboaaGreatDoorMg55
import Derived.Test.YtepjepkgcdfboaaGreatDoorMg49
set_option linter.unusedVariables false
set_option linter.unusedSimpArgs false
set_option maxHeartbeats 4000000
set_option maxRecDepth 100000
namespace Go.Proofs.YtepjepkgcdfboaaGreatDoor
open Go.RowKit
theorem d4o {way:Option Nat} (hway:b1b way) {p:a2a} (hp:p.Ok) (hc9:(a2y p).length<=256) (hmay:b5l way p=true) (hbit:∀ b∈a2t way p,b<2) {w:World} (hpt:Pts w) {A:Option Addr} {cap:Nat}
  (hc:a0d b8 w A (a1e (a2t way p))) (hcap:(a1e (a2t way p)).length<=cap) (hcm:cap<=9223372036854775807) :
  Calls Tryz.prog 25 #[.slice A (a1e (a2t way p)).length cap] w (a2x w p):=by
 have ab:a2t way p=b3z p.W p.H p.d p.P.length++(a0b 1 1++(a2q p.P.length p.d (a2y p)++a1y way (a3q p) p.W p.H (a7i (a2y p).length))):=rfl
 refine c2p hp (.inr rfl) ab (b4b hway hp hc9 hmay) hbit (fun bo w' b F hA h1 h2 h3 => ?_) hpt hc hcap hcm
 have:=e2s hway h1 hp hc9 hmay h2 h3 hA
 have aa:0+18+1+(a2q p.P.length p.d (a2y p)).length+(a1y way (a3q p) p.W p.H (a7i (a2y p).length)).length=(a2t way p).length:=by
  rw [ab]
  simp only [zC,a9q,a0a]
  omega
 rw [aa] at this
 exact this
theorem d4n {p:a2a} (hp:p.Ok) (hbit:∀ b∈a5p p,b<2) {w:World} (hpt:Pts w) {A:Option Addr} {cap:Nat}
  (hc:a0d b8 w A (a1e (a5p p))) (hcap:(a1e (a5p p)).length<=cap) (hcm:cap<=9223372036854775807) :
  Calls Tryz.prog 25 #[.slice A (a1e (a5p p)).length cap] w (a2x w p):=by
 by_cases h:(a2y p).length<=256/\(a1e (a2t none p)).length<(a1e (e0x p)).length
 ·have e:a5p p=a2t none p:=if_pos h
  rw [e] at hbit hc hcap ⊢
  exact d4o (way:=none) (fun _ e=>by cases e) hp h.1 (a5s _ _ _ _ _) hbit hpt hc hcap hcm
 ·have e:a5p p=e0x p:=if_neg h
  rw [e] at hbit hc hcap ⊢
  exact c2q (way:=none) (fun _ e=>by cases e) hp (b9g p 4) (b4v hp 4) (a9b _ _) hbit hpt hc hcap hcm
theorem e0q (w:World) (A:Option Addr) (cap:Nat) (L:List Int) (hc:a0d vi w A L) (hin:∀ x∈L,c9b x) (hlen:L.length<=9223372036854775807) (z:Int) (hz:c9b z) (tu:Int) (ht:0<=tu/\tu<=4294967295) (hp:Pts w) :
  Calls Tryz.prog 5 #[.slice A L.length cap,.int .i64 z,.int .u32 tu] w fun e w'=>e=.returned (.bool true)/\Chg [] w w':=by
 obtain ⟨turn,rfl⟩:∃ t:Nat,tu=(t:Int):=⟨tu.toNat,by omega⟩
 have b1:turn<4294967296:=by omega
 have ap:=f0c w A cap L hc hin hlen
 have HP:=hid hp
 have HZ:=hid hz
 clear hc hin hlen hp hz ht
 go_enter Tryz.func5,Tryz.ntmps5
 go_wp2_with fail
 refine ap.mono ?_
 rintro e w1 ⟨b,rfl,bu,bl,hb⟩
 have br:=f4b w1 b cap 0 16 A L bu (by omega) (by omega)
 clear ap bu
 go_wp2_with fail
 refine br.mono ?_
 rintro e w2 ⟨p,gP,a7,xs,gs,cb,rfl,aX,bd,al,-,bF,-⟩
 have aM:Chg [] w w2:=bl.trans bF fun x hx => .inr (by simp at hx;omega)
 have bx:=al.ok
 have aR:=e0l a7 al.at_ (HP.out.same aM)
 unfold b1d a6y at aR
 have bp:=hid bx
 have bM:=hid aM
 clear br al bl bF hb aM bx aX bd
 go_wp2_with fail
 refine aR.mono ?_
 rintro e w3 ⟨v3,G3,rfl,aa,bn,bX,aj⟩
 obtain ⟨bo,aE⟩:=zX (b0b (a5p p))
 obtain ⟨tl,ac⟩:=zX (d8f (c3g bo))
 have aq:a1e (a5p p)=bo++tl:=by rw [ac,aE];rfl
 have aS:bo.length=((a5p p).length+7) / 8:=by rw [aE];exact b7o _
 have bV:=d3e bp.out
 have aQ:∀ d∈bo,d<256:=by rw [aE];exact b2z (b5o aj)
 have ad:tl.length=4:=by rw [ac];rfl
 have aZ:∀ d∈tl,d<256:=by rw [ac];exact d2u _
 have bA:beN tl=c3g bo:=by rw [ac];exact d5h (c6p aQ)
 obtain ⟨nb,aO⟩:=zX (bo.length)
 obtain ⟨n,hn⟩:=zX ((bo++tl).length)
 have aJ:n=nb+4:=by rw [hn,zC,ad,aO]
 have bU:3<=nb:=by omega
 have bN:nb<=600000000:=by omega
 have a5:Hid (∀ wz A' cap',Chg [] w wz->a0d b8 wz A' (bo++tl)->n<=cap'->cap'<=9223372036854775807->Calls Tryz.prog 25 #[.slice A' n cap'] wz (a2x wz p)):=hid (fun wz A' cap' hz h1 h2 h3=>by
  have:=d4n bp.out aj (HP.out.same hz) (A:=A') (cap:=cap') (by rw [aq];exact h1) (by rw [aq,<-hn];exact h2) h3
  rw [aq,<-hn] at this
  exact this)
 have a9:Hid (∀ wz A' cap' b',Chg [] w wz->b'.length=nb->(∀ d∈b',d<256)->c3g bo≠c3g b'->a0d b8 wz A' (b'++tl)->n<=cap'->Calls Tryz.prog 25 #[.slice A' n cap'] wz fun e w'=>e=.returned (.tuple #[f0j,.int .i64 5])/\Chg [] wz w'):=hid (fun wz A' cap' b' hz h0 hd h1 h2 h3=>by
  have e:(b'++tl).length=n:=by rw [zC,ad,h0,aJ]
  have:=d4p (w:=wz) (A:=A') (cap:=cap') (bo:=b') (tl:=tl) ad (fun d hd'=>by rcases zP.1 hd' with h4 | h4;exact hd d h4;exact aZ d h4) (by rw [bA];exact h1) (by omega) h2 (by rw [e];exact h3)
  rw [e] at this
  exact this)
 rw [aq] at aa
 obtain ⟨A3,c3,rfl,bR,cg,aH⟩:=aa.oq
 rw [<-hn] at aa bR ⊢
 have bz:Own (w3.alloc (.cells #[] 5)) 5 (.slice (some ⟨w3.heap.size,0,none⟩) 0 0) [w3.heap.size] []:=(Row.made w3 5 [] (by simp [maxLen])).toOwn
 have bI:=hid ((aH.same ((zR [] w3).alloc (.cells #[] 5))).raw)
 have bT:=hid aH
 have ci:=hid aa
 have ar:=hid (bM.out.tq bn)
 have HN:=hid hn
 have HB:=hid (show (bo.length=nb/\tl.length=4/\(∀ d∈bo,d<256)/\∀ d∈tl,d<256) from ⟨aO.symm,ad,aQ,aZ⟩)
 have bf:=hid aJ
 have t1:decide ((n:Int)<5)=false:=zA (by omega)
 have e1:(n:Int)-4=(nb:Int):=by omega
 obtain ⟨n8,bv⟩:=zX (8*nb)
 obtain ⟨m,hm⟩:=zX (n8-1)
 have e2:(8:Int)*(nb:Int)=(n8:Int):=by omega
 have e3:(n8:Int)-1=(m:Int):=by omega
 have bO:24<=n8/\n8<=4800000000:=by omega
 have b3:n<=600000004:=by omega
 have aB:=fun w=>d2f z 0 (m:Int) w HZ.out (by omega) (by omega) (by omega)
 have ag:=d2e z (show (0:Int)<=(m:Int) by omega)
 obtain ⟨y,hy⟩:=zX (a9f z 0 (m:Int))
 rw [<-hy] at aB ag
 obtain ⟨k,hk⟩:∃ k:Nat,(k:Int)=y:=⟨y.toNat,Int.toNat_of_nonneg ag.1⟩
 rw [<-hk] at aB ag
 have ce:k<n8:=by omega
 have bL:=hid aB
 have bh:=hid bv
 clear aR aa bn bX aj aE ac aq aS bV aQ ad aZ bA aO hn aH aB ag hy hk bv hm aJ
 go_wp2_with (at_builtin;refine a1m rfl rfl b2h rfl rfl bz ((bo++tl).map b8) n rfl ?c1 ?c2 ?c3 ?c4 ?c5 ?_)
 case c1=>rw [zE];exact HN.out
 case c2=>exact bI.out
 case c3=>exact c4s _
 case c4=>rw [zE,List.length_nil,<-HN.out];omega
 case c5=>rw [zE,List.length_nil,<-HN.out];omega
 intro v4 F4 w4 h2 h3
 try rw [List.nil_append] at h2
 try rw [<-zM] at h2
 obtain ⟨g4,c4,rfl,ai,bs⟩:=e4j (N:=n) h2 (by rw [zE];exact HN.out.symm) (by omega)
 have bm:w3.heap.size<=g4:=by
  rcases h3.new g4 (by rw [bs];simp) with h | h
  ·simp at h;omega
  ·have:(w3.alloc (.cells #[] 5)).heap.size=w3.heap.size+1:=Array.size_push _
   omega
 have a3:Hid (Chg [] w3 w4):=hid (((zR [] w3).alloc _).trans h3.chg fun x hx => .inr (by simp at hx;omega))
 have b0:=hid ai
 have b2:=hid bm
 clear h2 h3 ai bs bm bz
 go_wp2_with (go_at_call 11;refine (bL.out _).mono ?_;rintro e w' ⟨rfl,rfl⟩)
 obtain ⟨M,bW,aN,aK⟩:∃ M,M<=32/\k+M<=n8/\(M=32\/k+M=n8):=by
  rcases zZ (k+32) n8 with h | h
  ·exact ⟨32,by omega,by omega,.inl rfl⟩
  ·exact ⟨n8-k,by omega,by omega,.inr (by omega)⟩
 clear e3 t1
 go_loopg [11] M (fun j v11 wr=>∃ (i:Nat) (b':List Nat),v11=.int .i64 i/\i+j=M/\Hid (Row wr 5 (.slice (some ⟨g4,0,none⟩) n c4) g4 ((b'++tl).map b8))/\Hid (b1e bo b' k turn i)/\Hid (Chg [g4] w4 wr))
 case atStart=>exact ⟨0,bo,rfl,by omega,b0,hid (b1e.start HB.out.2.2.1 k turn),hid (zR _ _)⟩
 case round =>
  obtain ⟨i,b',rfl,bb,HR,HT,aU⟩:=hrel
  obtain ⟨s,hs⟩:=zX (k+i)
  have e4:(k:Int)+(i:Int)=(s:Int):=by omega
  have aw:i<=32:=by omega
  have b6:s<=4800000000:=by omega
  rcases gk with _ | j
  ·obtain rfl:i=M:=by omega
   have bg:(decide ((i:Int)<32)=true/\decide ((s:Int)<(n8:Int))=false/\decide (s<n8)=false)\/decide ((i:Int)<32)=false:=by
    by_cases h:i<32
    ·exact .inl ⟨zB (by omega),zA (by omega),zA (by omega)⟩
    ·exact .inr (zA (by omega))
   have HS:=hid hs
   have aF:=hid aw
   have ay:b'.length=nb:=HT.out.1.trans HB.out.1
   have hC:Chg [] w3 wr:=a3.out.trans aU.out fun x hx => .inr (by simp at hx;have:=b2.out;omega)
   obtain ⟨cc,bq,q1,q2,ab⟩:=HR.out.cells_b8
   have aV:c4=cc:=by injection bq
   subst aV
   have a0:(b'++tl).length=n:=by rw [zC,ay,HB.out.2.1,bf.out]
   rw [a0] at q1
   have be:a0d b8 wr A3 (bo++tl):=bT.out.same hC
   have bi:=hid be
   have aC:=hid ab
   have HQ:=hid (show n<=c4/\c4<=9223372036854775807 from ⟨q1,q2⟩)
   have ba:=hid a0
   have bP:=hid hC
   have bw:Hid (∀ wz,Chg [] wr wz->Calls Tryz.prog 21 #[] wz fun e w'=>e=.returned (.bool true)/\Chg [] wz w'):=hid (fun wz hz=>e5q wz (HP.out.same ((ar.out.tq hC).tq hz)))
   have ae:Hid (∀ wz,Chg [] wr wz->Chg [] w wz):=hid (fun wz hz=>(ar.out.tq hC).tq hz)
   clear bW aN aK hs ay hC bq q1 q2 ab a0 be aw
   by_cases hsame:b'=bo
   ·subst hsame
    have an:=a5.out wr (some ⟨g4,0,none⟩) c4 (ae.out wr (zR _ _)) aC.out HQ.out.1 HQ.out.2
    obtain ⟨S,hS⟩:=zX (e0p (b'++tl))
    have aL:Hid (∀ wz,Chg [] wr wz->(Go.convert 39 9 (.slice A3 n c3)).run Tryz.prog wz=.ok (.string S) wz/\(Go.convert 39 9 (.slice (some ⟨g4,0,none⟩) n c4)).run Tryz.prog wz=.ok (.string S) wz):=hid (fun wz hz=>by
     rw [hS]
     exact ⟨b6c (bi.out.same hz) (by omega) ba.out.symm,b6c (aC.out.same hz) (by omega) ba.out.symm⟩)
    unfold a2x a6y at an
    have a1:=hid an
    clear hS an
    rcases bg with ⟨t1,t2,bk⟩ | t1
    all_goals
     go_wp2_with fail
     refine a1.out.mono ?_
     rintro e w6 ⟨gQ,bc,ys,b5,rfl,-,av,-⟩
     obtain ⟨w7,af⟩:=zX (w6.alloc (.cells #[.int .i64 p.W,.int .i64 p.H,.int .i64 p.d,.slice (some ⟨gQ,0,none⟩) p.P.length bc] 27))
     have ah:Chg [] wr w7:=by rw [af];exact av.alloc _
     obtain ⟨k1,k2⟩:=aL.out w7 ah
     have ax:=bw.out w7 ah
     have aT:=hid ah
     rw [af] at k1 k2 ax
     have aP:=hid af
     clear af ah av
     go_wp2_with fail
     refine ax.mono ?_
     rintro e w8 ⟨rfl,au⟩
     rw [<-aP.out] at au
     go_wp2_with fail
     go_ret
     exact ⟨rfl,ae.out _ (aT.out.tq au)⟩
   ·have bB:c3g bo≠c3g b':=fun e=>hsame (f4v HB.out.2.2.1 HT.out aF.out (by rw [HB.out.1,<-bh.out];omega) e).symm
    have an:=a9.out wr (some ⟨g4,0,none⟩) c4 b' (ae.out wr (zR _ _)) (HT.out.1.trans HB.out.1) HT.out.2.1 bB aC.out HQ.out.1
    obtain ⟨S,hS⟩:=zX (e0p (bo++tl))
    obtain ⟨S',aI⟩:=zX (e0p (b'++tl))
    have am:∀ l:List Nat,(∀ d∈l,d<256)->∀ d∈l++tl,d<256:=fun l hl d hd=>by
     rcases zP.1 hd with h | h
     ·exact hl d h
     ·exact HB.out.2.2.2 d h
    have ch:(S.toList==S'.toList)=false:=by
     rw [hS,aI]
     exact f2u (am bo HB.out.2.2.1) (am b' HT.out.2.1) (fun e=>hsame (List.append_cancel_right e).symm)
    have aL:Hid (∀ wz,Chg [] wr wz->(Go.convert 39 9 (.slice A3 n c3)).run Tryz.prog wz=.ok (.string S) wz/\(Go.convert 39 9 (.slice (some ⟨g4,0,none⟩) n c4)).run Tryz.prog wz=.ok (.string S') wz):=hid (fun wz hz=>by
     rw [hS,aI]
     exact ⟨b6c (bi.out.same hz) (by omega) HN.out,b6c (aC.out.same hz) (by omega) ba.out.symm⟩)
    unfold f0j at an
    have a1:=hid an
    clear hS aI an am bB hsame
    rcases bg with ⟨t1,t2,bk⟩ | t1
    all_goals
     go_wp2_with fail
     refine a1.out.mono ?_
     rintro e w6 ⟨rfl,av⟩
     obtain ⟨w7,af⟩:=zX (w6.alloc (.cells #[.int .i64 0,.int .i64 0,.int .i64 0,.slice none 0 0] 27))
     have ah:Chg [] wr w7:=by rw [af];exact av.alloc _
     obtain ⟨k1,k2⟩:=aL.out w7 ah
     have ax:=bw.out w7 ah
     have aT:=hid ah
     rw [af] at k1 k2 ax
     have aP:=hid af
     clear af ah av
     go_wp2_with fail
     refine ax.mono ?_
     rintro e w8 ⟨rfl,au⟩
     rw [<-aP.out] at au
     go_wp2_with fail
     go_ret
     exact ⟨rfl,ae.out _ (aT.out.tq au)⟩
  ·have bJ:i<M:=by omega
   have t1:decide ((i:Int)<32)=true:=zB (by omega)
   have t2:decide ((s:Int)<(n8:Int))=true:=zB (by omega)
   have bk:decide (s<n8)=true:=zB (by omega)
   obtain ⟨q,hq⟩:=zX (turn / 2^i)
   have ca:(turn:Int) / 2^i=(q:Int):=by rw [hq];simp
   have bK:q<4294967296:=by rw [hq];exact Nat.lt_of_le_of_lt (Nat.div_le_self _ _) b1
   have aA:bits .and .u32 (q:Int) 1=((q%2:Nat):Int):=by
    have:=u32_and_nat q 1 bK (by decide)
    rw [Nat.and_one_is_mod] at this
    exact this
   have aD:turn.testBit i=decide (q%2=1):=by rw [hq,Nat.testBit_eq_decide_div_mod_eq]
   have ay:b'.length=nb:=HT.out.1.trans HB.out.1
   have HS:=hid hs
   have cf:=hid bJ
   have bD:=hid bb
   by_cases hodd:q%2=1
   ·rw [hodd] at aA
    have a4:Hid (turn.testBit i=true):=hid (by rw [aD];exact zB hodd)
    obtain ⟨a8,aW⟩:=zX (s / 8)
    obtain ⟨r8,bE⟩:=zX (s%8)
    have d1:(s:Int) / 8=(a8:Int):=by omega
    have cj:(s:Int).tdiv 8=(a8:Int):=by rw [Int.tdiv_eq_ediv_of_nonneg (by omega)];exact d1
    have d2:(s:Int)%8=(r8:Int):=by omega
    have cd:(s:Int).tmod 8=(r8:Int):=by rw [Int.tmod_eq_emod_of_nonneg (by omega)];exact d2
    have aG:r8<8:=by omega
    have a6:a8<nb:=by have:=bh.out;omega
    obtain ⟨P,hP⟩:=zX (2^r8)
    have bH:P<256:=by rw [hP];exact Nat.pow_lt_pow_right (by decide) aG
    have b7:(2:Int)^r8=(P:Int):=by rw [hP];simp
    have ck:IntKind.u8.wrap (P:Int)=(P:Int):=by rw [IntKind.wrap_u8];omega
    have ao:a8<b'.length:=by omega
    obtain ⟨x,hx⟩:=zX (b'.getD a8 0)
    have bG:x<256:=by
     rw [hx,zD,zF ao]
     exact HT.out.2.1 _ (zG ao)
    obtain ⟨_,-,-,-,bC,bj⟩:=HR.out.oq
    have b4:wr.cell? ⟨g4,a8,none⟩=some (.int .u8 x):=bC a8 x (by rw [List.getElem?_append_left ao,hx,zD,zF ao];rfl)
    have b9:=bj a8
    have bY:=u8_xor_nat x P bG bH
    obtain ⟨y,hy⟩:=zX (x ^^^ P)
    rw [<-hy] at bY
    have ak:=HR.out.set_ (i:=a8) (by rw [zE,zC];omega) (.int .u8 y)
    have az:((b'++tl).map b8).set a8 (.int .u8 y)=((b'.set a8 y)++tl).map b8:=by
     rw [<-List.set_append_left _ _ ao,List.map_set]
     rfl
    rw [az] at ak
    have aY:=HT.out.flip a4.out (by rw [<-HS.out,<-aW,HB.out.1];exact a6)
    rw [<-HS.out,<-aW,<-bE,<-hx,<-hP,<-hy] at aY
    have a2:=hid ak
    have bZ:=hid aY
    have bS:Hid (Chg [g4] w4 (wr.setCell ⟨g4,a8,none⟩ (.int .u8 y))):=hid (aU.out.setCell (p:=⟨g4,a8,none⟩) (.inl (by simp)) _)
    have bQ:a8<n:=by have:=bf.out;omega
    clear hq aD hodd aW bE hP hx bC bj hy ak az aY ao ay hs aN aK bb
    go_wp2_with fail
    go_roundg j
    case measure=>omega
    case rel=>exact ⟨i+1,_,by go_num,by have := bD.out;omega,a2,bZ,bS⟩
   ·have h0:q%2=0:=by omega
    rw [h0] at aA
    have a4:Hid (turn.testBit i=false):=hid (by rw [aD];exact zA hodd)
    clear hq aD hodd h0 ay hs aN aK bb
    go_wp2_with fail
    go_roundg j
    case measure=>omega
    case rel=>exact ⟨i+1,_,by go_num,by have := bD.out;omega,HR,hid (HT.out.same a4.out),aU⟩
end Go.Proofs.YtepjepkgcdfboaaGreatDoor
