/- package still by its contracts: Decode of what By wrote by a palette. -/
import Derived.Test.YtepjepkgcdfboaaGreatDoorMg55
import Derived.Test.YtepjepkgcdfboaaGreatDoorMg49
set_option linter.unusedVariables false
set_option linter.unusedSimpArgs false
set_option maxHeartbeats 4000000
set_option maxRecDepth 100000
namespace Go.Proofs.YtepjepkgcdfboaaGreatDoor
open Go.RowKit
theorem d4o {way:Option Nat} (hway:b1b way) {p:a2a} (hp:p.Ok) (hc9:(a2y p).length<=256) (hmay:b5l way p=true) (hbit:∀ b∈a2t way p,b<2) {w:World} (hpt:Pts w) {A:Option Addr} {cap:Nat}
  (hc:a0d b8 w A (a1e (a2t way p))) (hcap:(a1e (a2t way p)).length<=cap) (hcm:cap<=9223372036854775807) :
  Calls Tryz.prog 25 #[.slice A (a1e (a2t way p)).length cap] w (a2x w p):=by
 have ab:a2t way p=b3z p.W p.H p.d p.P.length++(a0b 1 1++(a2q p.P.length p.d (a2y p)++a1y way (a3q p) p.W p.H (a7i (a2y p).length))):=rfl
 refine c2p hp (.inr rfl) ab (b4b hway hp hc9 hmay) hbit (fun bo w' b F hA h1 h2 h3 => ?_) hpt hc hcap hcm
 have:=e2s hway h1 hp hc9 hmay h2 h3 hA
 have aa:0+18+1+(a2q p.P.length p.d (a2y p)).length+(a1y way (a3q p) p.W p.H (a7i (a2y p).length)).length=(a2t way p).length:=by
  rw [ab]
  simp only [zC,a9q,a0a]
  omega
 rw [aa] at this
 exact this
theorem d4n {p:a2a} (hp:p.Ok) (hbit:∀ b∈a5p p,b<2) {w:World} (hpt:Pts w) {A:Option Addr} {cap:Nat}
  (hc:a0d b8 w A (a1e (a5p p))) (hcap:(a1e (a5p p)).length<=cap) (hcm:cap<=9223372036854775807) :
  Calls Tryz.prog 25 #[.slice A (a1e (a5p p)).length cap] w (a2x w p):=by
 by_cases h:(a2y p).length<=256/\(a1e (a2t none p)).length<(a1e (e0x p)).length
 ·have e:a5p p=a2t none p:=if_pos h
  rw [e] at hbit hc hcap ⊢
  exact d4o (way:=none) (fun _ e=>by cases e) hp h.1 (a5s _ _ _ _ _) hbit hpt hc hcap hcm
 ·have e:a5p p=e0x p:=if_neg h
  rw [e] at hbit hc hcap ⊢
  exact c2q (way:=none) (fun _ e=>by cases e) hp (b9g p 4) (b4v hp 4) (a9b _ _) hbit hpt hc hcap hcm
theorem f5e {way kind:Option Nat} {colours:Nat} {p:a2a} {T:List Nat} (hway:b1b way) (hk4:∀ k,kind=some k->k<=4) (c1:colours<=256) (hp:p.Ok) (hr:stR way kind colours p=.ok T) (hbit:∀ b∈T,b<2) {w:World} (hpt:Pts w) {A:Option Addr} {cap:Nat}
  (hc:a0d b8 w A (a1e T)) (hcap:(a1e T).length<=cap) (hcm:cap<=9223372036854775807) :
  Calls Tryz.prog 25 #[.slice A (a1e T).length cap] w (a2x w p):=by
 unfold stR at hr
 by_cases h0:colours=0
 ·rw [if_pos h0] at hr
  by_cases hk:c7b kind p=true
  ·rw [if_pos hk] at hr
   by_cases hm:b1t way (b4d kind p) p=true
   ·rw [if_pos hm] at hr
    injection hr with hr
    subst hr
    have aa:d5c kind p:=fun k e=>⟨hk4 k e,by subst e;exact hk⟩
    have h:=e8h hp aa
    exact c2q hway hp h.1 h.2 hm hbit hpt hc hcap hcm
   ·rw [if_neg hm] at hr
    cases hr
  ·rw [if_neg hk] at hr
   cases hr
 ·rw [if_neg h0] at hr
  by_cases hl:(a2y p).length<=colours
  ·rw [if_pos hl] at hr
   by_cases hm:b5l way p=true
   ·rw [if_pos hm] at hr
    injection hr with hr
    subst hr
    exact d4o hway hp (by omega) hm hbit hpt hc hcap hcm
   ·rw [if_neg hm] at hr
    cases hr
  ·rw [if_neg hl] at hr
   cases hr
theorem f5h {v:Int} (m:Nat) (h0 : -1<=v) (h1:v<=m):∃ o:Option Nat,c5y o=v/\∀ k,o=some k->k<=m:=by
 by_cases h:v=-1
 ·exact ⟨none,h.symm,fun k e=>by cases e⟩
 ·refine ⟨some v.toNat,?_,fun k e=>by injection e with e;omega⟩
  show ((v.toNat:Nat):Int)=v
  omega
theorem f5i {way kind:Option Nat} {colours:Nat} {p:a2a} {x:Int} (h:stR way kind colours p=.bad x):x=1\/x=6\/x=7:=by
 unfold stR at h
 split at h
 ·split at h
  ·split at h
   ·cases h
   ·injection h with h;omega
  ·injection h with h;omega
 ·split at h
  ·split at h
   ·cases h
   ·injection h with h;omega
  ·injection h with h;omega
theorem f5g {way kind:Option Nat} {colours:Nat} {p:a2a} {x:Int} (hp:p.Ok) (h:stR way kind colours p=.bad x):0<colours\/0<=c5y way\/0<c5y kind:=by
 by_cases h0:colours=0
 ·right
  cases way with
  | some k=>left;show (0:Int)<=(k:Int);omega
  | none =>
   have hm:∀ k,b1t none k p=true:=fun k=>a9b _ _
   unfold stR at h
   rw [if_pos h0] at h
   cases kind with
   | none =>
    rw [if_pos (show c7b none p=true from rfl),if_pos (hm _)] at h
    cases h
   | some k =>
    right
    cases k with
    | zero =>
     have hk:c7b (some 0) p=true:=by
      show b9k p.P.length 0=true
      have:=hp.n0
      have:=hp.n1
      unfold b9k
      simp
      omega
     rw [if_pos hk,if_pos (hm _)] at h
     cases h
    | succ k=>show (0:Int)<((k+1:Nat):Int);omega
 ·exact .inl (by omega)
theorem f5j (p:a2a):(a1e (a5p p)).length<=(a1e (e0x p)).length/\((a2y p).length<=256->(a1e (a5p p)).length<=(a1e (a2t none p)).length):=by
 by_cases h:(a2y p).length<=256/\(a1e (a2t none p)).length<(a1e (e0x p)).length
 ·have e:a5p p=a2t none p:=if_pos h
  rw [e]
  omega
 ·have e:a5p p=e0x p:=if_neg h
  rw [e]
  omega
theorem f5f (w:World) (A:Option Addr) (cap:Nat) (L:List Int) (hc:a0d vi w A L) (hin:∀ x∈L,c9b x) (hlen:L.length<=9223372036854775807) (z1:Int) (hz1:c9b z1) (z2:Int) (hz2:c9b z2) (z3:Int) (hz3:c9b z3) (hp:Pts w) :
  Calls Tryz.prog 4 #[.slice A L.length cap,.int .i64 z1,.int .i64 z2,.int .i64 z3] w fun e w'=>e=.returned (.bool true)/\Chg [] w w':=by
 have aF:=f0c w A cap L hc hin hlen
 have aU:=fun w=>d2f z1 (-1) 4 w hz1 (by omega) (by omega) (by omega)
 have bk:=fun w=>d2f z2 0 256 w hz2 (by omega) (by omega) (by omega)
 have aj:=fun w=>d2f z3 (-1) 7 w hz3 (by omega) (by omega) (by omega)
 have b1:=d2e z1 (show (-1:Int)<=4 by omega)
 have b2:=d2e z2 (show (0:Int)<=256 by omega)
 have b3:=d2e z3 (show (-1:Int)<=7 by omega)
 obtain ⟨kind,ap,bv⟩:=f5h 4 b1.1 (by omega)
 obtain ⟨way,am,aK⟩:=f5h 7 b3.1 (by omega)
 obtain ⟨colours,aH⟩:∃ c:Nat,(c:Int)=a9f z2 0 256:=⟨(a9f z2 0 256).toNat,Int.toNat_of_nonneg b2.1⟩
 have ak:colours<=256:=by omega
 rw [<-ap] at aU
 rw [<-aH] at bk
 rw [<-am] at aj
 have HP:=hid hp
 have bd:=hid aU
 have a8:=hid bk
 have bg:=hid aj
 have bn:=hid bv
 have aC:Hid (b1b way):=hid aK
 have al:=hid ak
 clear hc hin hlen hp aU bk aj b1 b2 b3 ap bv am aK aH ak hz1 hz2 hz3
 go_enter Tryz.func4,Tryz.ntmps4
 go_wp2_with fail
 refine aF.mono ?_
 rintro e w1 ⟨b,rfl,bM,bs,hb⟩
 have bH:=f4b w1 b cap 0 24 A L bM (by omega) (by omega)
 clear aF bM
 go_wp2_with fail
 refine bH.mono ?_
 rintro e w2 ⟨p,gP,ab,xs,gs,cd,rfl,a6,a9,av,-,bO,-⟩
 have bh:Chg [] w w2:=bs.trans bO fun x hx => .inr (by simp at hx;omega)
 have bI:=av.ok
 obtain ⟨w3,aj⟩:=zX (w2.alloc (.cells #[.int .i64 p.W,.int .i64 p.H,.int .i64 p.d,.slice (some ⟨gP,0,none⟩) p.P.length ab] 27))
 obtain ⟨X5,bl⟩:=zX (w2.heap.size)
 have aQ:Chg [] w2 w3:=by rw [aj];exact (zR [] w2).alloc _
 have aT:Box w3 X5 (.int .i64 p.W) (.int .i64 p.H) (.int .i64 p.d) (.slice (some ⟨gP,0,none⟩) p.P.length ab):=⟨by rw [aj,bl];exact Blk.new w2 _ _⟩
 have az:=av.at_.same aQ
 have ar:=HP.out.same (bh.tq aQ)
 have aB:b1b none:=fun _ e=>by cases e
 have aO:=fun wz (hz:Chg [] w3 wz)=>d7p aC.out (kind:=kind) (fun k e=>Nat.le_trans (bn.out k e) (by decide)) bn.out al.out ab (az.same hz) (ar.same hz)
 have ad:=fun wz (hz:Chg [] w3 wz)=>d7p (way:=none) aB (kind:=none) aB (fun _ e=>by cases e) (colours:=0) (by decide) ab (az.same hz) (ar.same hz)
 have ac:=fun wz (hz:Chg [] w3 wz)=>d7p (way:=none) aB (kind:=none) aB (fun _ e=>by cases e) (colours:=256) (by decide) ab (az.same hz) (ar.same hz)
 have aM:=fun wz (hz:Chg [] w3 wz)=>e0l ab (az.same hz) (ar.same hz)
 rw [f2s] at ad
 rw [f2t] at ac
 have e0:c5y none=-1:=rfl
 rw [e0] at ad ac
 have ae:=fun wz (hz:Chg [] w3 wz) gR capR xr gr (ho:a1x wz p gR capR xr gr)=>e0c ab (az.same hz) capR ho.at_ rfl rfl rfl rfl
 have ax:=fun wz (hz:Chg [] w3 wz)=>e5q wz (ar.same hz)
 unfold a6y at aO ad ac aM ae ⊢
 unfold b1d at ad aM
 obtain ⟨n,hn⟩:=zX (p.P.length)
 obtain ⟨m,hm⟩:=zX ((a2y p).length)
 obtain ⟨nE,aY⟩:=zX ((a1e (a5p p)).length)
 obtain ⟨nF,aV⟩:=zX ((a1e (e0x p)).length)
 obtain ⟨nG,a4⟩:=zX ((a1e (a2t none p)).length)
 have aX:=f5j p
 rw [<-aY,<-aV,<-a4,<-hm] at aX
 rw [<-hm] at ac
 rw [<-hn] at aO ad ac aM ae aT aj ⊢
 have HN:=hid hn
 have bZ:=hid aY
 have bU:=hid aV
 have b7:=hid a4
 have aS:=hid aX
 have aZ:=hid bI
 have bx:=hid ar
 have b4:=hid aO
 have be:=hid ad
 have aW:=hid ac
 have b5:=hid aM
 have bm:=hid ae
 have bD:=hid ax
 have bW:=hid aj
 have bT:=hid bl
 have aq:=hid aT
 have bB:=hid (bh.tq aQ)
 clear bH av bs bO hb bh bI aQ az ar aB aO ad ac aM e0 ae ax hn hm aY aV a4 aX bl aT a6 a9 aj
 go_wp2_with fail
 rw [<-bW.out,<-bT.out]
 obtain ⟨a0,a1,a2,a3⟩:=aq.out.cells
 refine (bd.out w3).mono ?_
 rintro e w' ⟨rfl,rfl⟩
 go_wp2_with fail
 refine (a8.out w3).mono ?_
 rintro e w' ⟨rfl,rfl⟩
 go_wp2_with fail
 refine (bg.out w3).mono ?_
 rintro e w' ⟨rfl,rfl⟩
 go_wp2_with fail
 refine (b4.out w3 (zR _ _)).mono ?_
 intro e w4 aa
 clear a0 a1 a2 a3
 rcases hT:stR way kind colours p with T | x
 focus
  rw [hT] at aa
  unfold b1d at aa
  obtain ⟨v4,G4,rfl,aG,ay,bX,an⟩:=aa
  obtain ⟨A4,c4,rfl,bN,bF,bE⟩:=aG.oq
  have af:=f5e aC.out bn.out al.out aZ.out hT an (bx.out.same ay) (A:=A4) (cap:=c4) bE bN bF
  obtain ⟨n4,bJ⟩:=zX ((a1e T).length)
  unfold a2x a6y at af
  rw [<-bJ] at af ⊢
  rw [<-HN.out] at af
  have b0:=hid af
  have bQ:=hid ay
  clear aG ay bX an bN bF bE af bJ hT
  go_wp2_with fail
  refine b0.out.mono ?_
  rintro e w5 ⟨gQ,au,ys,hs,rfl,bz,bq,-⟩
  obtain ⟨w6,aw⟩:=zX (w5.alloc (.cells #[.int .i64 p.W,.int .i64 p.H,.int .i64 p.d,.slice (some ⟨gQ,0,none⟩) n au] 27))
  obtain ⟨X6,aP⟩:=zX (w5.heap.size)
  have bi:Chg [] w5 w6:=by rw [aw];exact (zR [] w5).alloc _
  have bC:Box w6 X6 (.int .i64 p.W) (.int .i64 p.H) (.int .i64 p.d) (.slice (some ⟨gQ,0,none⟩) n au):=⟨by rw [aw,aP];exact Blk.new w5 _ _⟩
  have aR:Chg [] w3 w6:=(bQ.out.tq bq).tq bi
  obtain ⟨a0,a1,a2,a3⟩:=(aq.out.same aR).cells
  obtain ⟨x0,x1,x2,x3⟩:=bC.cells
  have ae:=bm.out w6 aR gQ au ys hs (bz.same bi)
  have b9:=hid aR
  have bj:=hid ae
  rw [aw] at a0 a1 a2 a3
  rw [aw,aP] at x0 x1 x2 x3
  have bY:=hid aw
  have ca:=hid aP
  clear bz bq bi bC aR ae aw aP
  go_wp2_with fail
  rw [<-bY.out,<-ca.out]
  refine bj.out.mono ?_
  rintro e wR ⟨rfl,bL⟩
  have HR:Hid (Chg [] w3 wR):=hid (b9.out.tq bL)
  clear bL a0 a1 a2 a3 x0 x1 x2 x3
 rotate_left
 focus
  rw [hT] at aa
  obtain ⟨rfl,ay⟩:=aa
  have hx:=f5i hT
  have hf:=f5g aZ.out hT
  obtain ⟨wR,rfl⟩:=zX (w4)
  have HR:Hid (Chg [] w3 wR):=hid ay
  have u1:(x==0)=false:=by rcases hx with rfl | rfl | rfl<;>rfl
  have ce:decide (x=0)=false:=by rcases hx with rfl | rfl | rfl<;>rfl
  clear ay hx hT
  have bR:(decide ((0:Int)<(colours:Int))=true/\decide (0<colours)=true)\/(decide ((0:Int)<(colours:Int))=false/\decide (0<colours)=false/\decide (0<=c5y way)=true)\/(decide ((0:Int)<(colours:Int))=false/\decide (0<colours)=false/\decide (0<=c5y way)=false/\decide (0<c5y kind)=true):=by
   by_cases h1:0<colours
   ·exact .inl ⟨zB (by omega),zB h1⟩
   ·by_cases h2:0<=c5y way
    ·exact .inr (.inl ⟨zA (by omega),zA h1,zB h2⟩)
    ·exact .inr (.inr ⟨zA (by omega),zA h1,zA h2,zB (by omega)⟩)
  clear hf
  rcases bR with ⟨u2,u3⟩ | ⟨u2,u3,u4⟩ | ⟨u2,u3,u4,u5⟩
 all_goals
  obtain ⟨a0,a1,a2,a3⟩:=(aq.out.same HR.out).cells
  go_wp2_with fail
  refine (b5.out wR HR.out).mono ?_
  rintro e wE ⟨vE,GE,rfl,aE,bc,b6,ao⟩
  obtain ⟨AE,cE,rfl,bG,br,bK⟩:=aE.oq
  have af:=d4n aZ.out ao (bx.out.same (HR.out.tq bc)) (A:=AE) (cap:=cE) bK bG br
  unfold a2x a6y at af
  rw [<-bZ.out] at af ⊢
  rw [<-HN.out] at af
  have bV:=hid af
  have bS:=hid (HR.out.tq bc)
  clear aE bc b6 ao bG br bK af a0 a1 a2 a3
  go_wp2_with fail
  refine bV.out.mono ?_
  rintro e wD ⟨gD,ah,yD,hD,rfl,bA,bo,-⟩
  obtain ⟨w9,aL⟩:=zX (wD.alloc (.cells #[.int .i64 p.W,.int .i64 p.H,.int .i64 p.d,.slice (some ⟨gD,0,none⟩) n ah] 27))
  obtain ⟨X9,ba⟩:=zX (wD.heap.size)
  have bf:Chg [] wD w9:=by rw [aL];exact (zR [] wD).alloc _
  have bw:Box w9 X9 (.int .i64 p.W) (.int .i64 p.H) (.int .i64 p.d) (.slice (some ⟨gD,0,none⟩) n ah):=⟨by rw [aL,ba];exact Blk.new wD _ _⟩
  have a5:Chg [] w3 w9:=(bS.out.tq bo).tq bf
  obtain ⟨a0,a1,a2,a3⟩:=(aq.out.same a5).cells
  have ai:=hid a5
  have bp:=hid bw
  have bP:=hid (bA.same bf)
  rw [aL] at a0 a1 a2 a3
  have cb:=hid aL
  have cc:=hid ba
  clear bA bo bf bw a5 aL ba
  go_wp2_with fail
  rw [<-cb.out,<-cc.out]
  refine (be.out w9 ai.out).mono ?_
  rintro e wF ⟨vF,GF,rfl,aD,bu,-,-⟩
  obtain ⟨AF,cF,rfl,-,-,-⟩:=aD.oq
  rw [<-bU.out]
  have aN:=hid bu
  clear a0 a1 a2 a3 aD bu
  obtain ⟨a0,a1,a2,a3⟩:=(aq.out.same (ai.out.tq aN.out)).cells
  go_wp2_with fail
  refine (aW.out wF (ai.out.tq aN.out)).mono ?_
  intro e wG aa
  clear a0 a1 a2 a3
  have l1:decide ((nE:Int)<=(nF:Int))=true:=zB (by have:=aS.out.1;omega)
  have cf:decide (nE<=nF)=true:=zB aS.out.1
  by_cases hm:m<=256
  ·rw [if_pos hm] at aa
   unfold b1d at aa
   obtain ⟨vG,GG,rfl,aI,aA,-,-⟩:=aa
   obtain ⟨AG,cG,rfl,-,-,-⟩:=aI.oq
   rw [<-b7.out]
   have l2:decide ((nE:Int)<=(nG:Int))=true:=zB (by have:=aS.out.2 hm;omega)
   have cg:decide (nE<=nG)=true:=zB (aS.out.2 hm)
   have ag:=hid (aN.out.tq aA)
   clear aI aA hm
   obtain ⟨a0,a1,a2,a3⟩:=(aq.out.same (ai.out.tq ag.out)).cells
   obtain ⟨x0,x1,x2,x3⟩:=(bp.out.same ag.out).cells
   have ae:=bm.out wG (ai.out.tq ag.out) gD ah yD hD (bP.out.same ag.out)
   go_wp2_with fail
   refine ae.mono ?_
   rintro e wH ⟨rfl,aJ⟩
   have hC:=(ai.out.tq ag.out).tq aJ
   have ax:=bD.out wH hC
   have a7:=hid hC
   clear ae aJ hC a0 a1 a2 a3 x0 x1 x2 x3
   go_wp2_with fail
   refine ax.mono ?_
   rintro e wI ⟨rfl,bb⟩
   go_wp2_with fail
   go_ret
   exact ⟨rfl,bB.out.tq (a7.out.tq bb)⟩
  ·rw [if_neg hm] at aa
   unfold b1d at aa
   obtain ⟨rfl,aA⟩:=aa
   have ag:=hid (aN.out.tq aA)
   clear aA hm
   obtain ⟨a0,a1,a2,a3⟩:=(aq.out.same (ai.out.tq ag.out)).cells
   obtain ⟨x0,x1,x2,x3⟩:=(bp.out.same ag.out).cells
   have ae:=bm.out wG (ai.out.tq ag.out) gD ah yD hD (bP.out.same ag.out)
   go_wp2_with fail
   refine ae.mono ?_
   rintro e wH ⟨rfl,aJ⟩
   have hC:=(ai.out.tq ag.out).tq aJ
   have ax:=bD.out wH hC
   have a7:=hid hC
   clear ae aJ hC a0 a1 a2 a3 x0 x1 x2 x3
   go_wp2_with fail
   refine ax.mono ?_
   rintro e wI ⟨rfl,bb⟩
   go_wp2_with fail
   go_ret
   exact ⟨rfl,bB.out.tq (a7.out.tq bb)⟩
end Go.Proofs.YtepjepkgcdfboaaGreatDoor
