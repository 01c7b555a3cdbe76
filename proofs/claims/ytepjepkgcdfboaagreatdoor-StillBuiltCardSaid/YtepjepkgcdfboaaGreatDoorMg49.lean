/- kinorakeep2.Tape.Pic by its contract. -/
import Derived.Test.YtepjepkgcdfboaaGreatDoorMg42
import Derived.Test.YtepjepkgcdfboaaGreatDoorMg27
set_option linter.unusedVariables false
set_option linter.unusedSimpArgs false
set_option maxHeartbeats 4000000
set_option maxRecDepth 100000
namespace Go.Proofs.YtepjepkgcdfboaaGreatDoor
open Go.RowKit
def e4t:List Int:=[3,1,3,4,2,3]
theorem e0e (k:Nat) (h:k<6):∃ n:Nat,e4t[k]?=some (n:Int)/\1<=n/\n<=4:=by
 rcases (by omega:k=0\/k=1\/k=2\/k=3\/k=4\/k=5) with rfl | rfl | rfl | rfl | rfl | rfl
 ·exact ⟨3,rfl,by omega,by omega⟩
 ·exact ⟨1,rfl,by omega,by omega⟩
 ·exact ⟨3,rfl,by omega,by omega⟩
 ·exact ⟨4,rfl,by omega,by omega⟩
 ·exact ⟨2,rfl,by omega,by omega⟩
 ·exact ⟨3,rfl,by omega,by omega⟩
def f4z (W H d:Nat) (P:List (List Int)):Prop:=∀ l∈P,l.length=W*H/\a1u d l
def b9u (w:World) (b cap:Nat) (A:Option Addr) (L:List Int) (side:Nat) (e:Ending) (w':World):Prop :=
 ∃ (p:a2a) (gP capP:Nat) (xs:List Value) (gs:List Nat) (at':Nat),e=.returned (a6y p gP 0 capP)/\p.W<=side/\p.H<=side/\a1x w' p gP capP xs gs/\b9r w' b A cap L at'/\Chg [b] w w'/\∀ x∈gP::gs,w.heap.size<=x
theorem f4b (w:World) (b cap at_ side:Nat) (A:Option Addr) (L:List Int) (h:b9r w b A cap L at_) (hs0:1<=side) (hs1:side<=64) :
  Calls Tryz.prog 10 #[.pointer (some ⟨b,0,none⟩),.int .i64 side] w (b9u w b cap A L side):=by
 unfold b9u
 obtain ⟨wZ,aN⟩:=zX (w.alloc (.cells #[.int .i64 0,.int .i64 0,.int .i64 0,.slice none 0 0] 27))
 have be:Chg [] w wZ:=by rw [aN];exact (zR [] w).alloc _
 obtain ⟨rb,aU⟩:=zX (w.heap.size)
 have b9:b<rb:=by rw [aU];exact h.blk.lt
 have an:Blk wZ rb 27 #[.int .i64 0,.int .i64 0,.int .i64 0,.slice none 0 0]:=by rw [aN,aU];exact Blk.new w _ _
 have ap:=b7d wZ b cap at_ side A L (h.fresh be) hs0 (by omega)
 have ac:=h.cells
 have aa:=hid ac
 have bW:=hid aN
 have aL:=hid aU
 have bX:=hid an
 have bP:=hid be
 have aC:=an.lt
 have bM:=hid aC
 clear aN aU an be h ac aC
 go_enter Tryz.func10,Tryz.ntmps10
 go_wp2_with fail
 rw [<-bW.out,<-aL.out]
 refine ap.mono ?_
 rintro e w1 ⟨W0,a1,rfl,b6,h1,ba⟩
 have bo:=b7d w1 b cap a1 side A L h1 hs0 (by omega)
 obtain ⟨W,hW⟩:=zX (W0+1)
 have eW:(1:Int)+(W0:Int)=(W:Int):=by omega
 have bm:=hid (show 1<=W/\W<=side by omega)
 have au:W<=64:=by omega
 clear ap h1 hW
 go_wp2_with fail
 refine bo.mono ?_
 rintro e w2 ⟨H0,a2,rfl,cc,h2,bf⟩
 have bL:=e7c w2 b cap a2 A L h2
 obtain ⟨H,hH⟩:=zX (H0+1)
 have eH:(1:Int)+(H0:Int)=(H:Int):=by omega
 have bC:=hid (show 1<=H/\H<=side by omega)
 have aE:H<=64:=by omega
 clear bo h2 hH
 go_wp2_with fail
 refine bL.mono ?_
 rintro e wA ⟨d,a3,rfl,bj,br,h3,aW⟩
 have av:Chg [b] w wA:=(((bP.out.mono (by simp)).tq ba).tq bf).tq aW
 have aG:Chg [b] wZ wA:=(ba.tq bf).tq aW
 have ag:Blk wA rb 27 #[.int .i64 0,.int .i64 0,.int .i64 0,.slice none 0 0]:=bX.out.chg aG (by simp;omega)
 have aK:w.heap.size<wA.heap.size:=by have:=ag.lt;have:=aL.out;omega
 obtain ⟨cb,ar⟩:=zX (wA.heap.size)
 obtain ⟨w4,aF⟩:=zX ((wA.alloc (.cells #[.int .i64 W,.int .i64 H,.int .i64 d,.slice none 0 0] 27)).alloc (.cells #[.int .i64 3,.int .i64 1,.int .i64 3,.int .i64 4,.int .i64 2,.int .i64 3] 3))
 have bc:Chg [] wA w4:=by rw [aF];exact ((zR [] wA).alloc _).alloc _
 have aw:c8v [b] wA W H d cb w4 (.slice none 0 0) [] [] [] []:=by
  refine ⟨by rw [aF,ar];exact (Blk.new wA _ _).alloc _,Own.nil _ _,a2k.nil _,by simp,by simp,by simp,?_,?_,bc.mono (by simp)⟩
  ·intro x hx;simp at hx;omega
  ·intro x hx;simp at hx;have:=h3.blk.lt;omega
 have aJ:Blk w4 (cb+1) 3 #[.int .i64 3,.int .i64 1,.int .i64 3,.int .i64 4,.int .i64 2,.int .i64 3]:=by rw [aF,ar];exact Blk.new2 wA _ _ _
 have bv:=b7d w4 b cap a3 6 A L (h3.fresh bc) (by omega) (by omega)
 have bR:b<cb:=by rw [ar];exact h3.blk.lt
 have bU:=hid aF
 have aS:=hid ar
 have aZ:=hid aw
 have bg:=hid aJ
 have a6:=hid av
 have a8:=hid ag
 have aH:=hid aK
 have bF:rb<cb:=by rw [ar];exact ag.lt
 clear bL h3 ba bf aW av aG ag aK ar aF bc aw aJ
 go_wp2_with fail
 rw [<-bU.out,<-aS.out]
 refine bv.mono ?_
 rintro e w5 ⟨k,a5,rfl,hk,h5,ao⟩
 obtain ⟨n,hn,bn,ap⟩:=e0e k hk
 have bi:=bg.out.chg ao (by simp;omega)
 have aj:w5.cell? ⟨cb+1,k,none⟩=some (.int .i64 n):=by
  rw [bi.cell k]
  have e:(#[Value.int .i64 3,.int .i64 1,.int .i64 3,.int .i64 4,.int .i64 2,.int .i64 3]:Array Value)=(e4t.map vi).toArray:=rfl
  rw [e,List.getElem?_toArray,zW,hn]
  rfl
 have b4:(0:Int)<=(k:Int):=by omega
 have bY:(k:Int)<6:=by omega
 have ay:=aZ.out.turn ao
 have bd:=hid ay
 have H5:=hid h5
 have HN:=hid (And.intro bn ap)
 have bV:n<=4:=ap
 clear bv hn bi ay h5 ao bn ap
 go_wp2_with fail
 go_loopg [6] n (fun j v6 wr=>∃ (i:Nat) (vP:Value) (F:List Nat) (xs:List Value) (P:List (List Int)) (gs:List Nat) (aP:Nat),v6=.int .i64 j/\i+j=n/\Hid (P.length=i)/\Hid (c8v [b] wA W H d cb wr vP F xs P gs)/\Hid (b9r wr b A cap L aP)/\Hid (f4z W H d P))
 case atStart=>exact ⟨0,_,[],[],[],[],a5,rfl,by omega,hid rfl,bd,H5,hid (by intro l hl;simp at hl)⟩
 case round =>
  obtain ⟨i,vP,F,xs,P,gs,aP,rfl,b5,aO,HS,HT,a0⟩:=hrel
  rcases gk with _ | j
  ·obtain rfl:i=n:=by omega
   have t1:decide ((0:Int)<((0:Nat):Int))=false:=by simp
   have hs:=HS.out
   have aq:xs.length=i:=by rw [hs.pl.lx,aO.out]
   rcases hs.own.cases with ⟨_,he,_⟩ | ⟨gP,al,hF⟩
   ·exfalso
    rw [he] at aq
    simp at aq
    have:=HN.out
    omega
   have hr:=al
   obtain ⟨ab,rfl,-,-,-,-⟩:=al.open_
   rw [aq] at hr hs
   have b0:=hs.blk.cell 0
   have b1:=hs.blk.cell 1
   have b2:=hs.blk.cell 2
   have b3:=hs.blk.cell 3
   simp at b0 b1 b2 b3
   have ai:=a8.out.chg hs.chg (by simp;omega)
   have z0:=ai.frozen 0
   have z1:=ai.frozen 1
   have z2:=ai.frozen 2
   have z3:=ai.frozen 3
   have k0:=ai.cell 0
   have k1:=ai.cell 1
   have k2:=ai.cell 2
   have k3:=ai.cell 3
   simp at k0 k1 k2 k3
   have b7:rb≠cb:=by omega
   clear al aj
   go_wp2_with fail
   obtain ⟨w9,aY⟩:=zX ((((wr.setCell ⟨rb,0,none⟩ (.int .i64 W)).setCell ⟨rb,1,none⟩ (.int .i64 H)).setCell ⟨rb,2,none⟩ (.int .i64 d)).setCell ⟨rb,3,none⟩ (.slice (some ⟨gP,0,none⟩) i ab))
   have aR:Blk w9 rb 27 #[.int .i64 W,.int .i64 H,.int .i64 d,.slice (some ⟨gP,0,none⟩) i ab]:=by
    rw [aY]
    have:=(((ai.set_ 0 (.int .i64 W)).set_ 1 (.int .i64 H)).set_ 2 (.int .i64 d)).set_ 3 (.slice (some ⟨gP,0,none⟩) i ab)
    simpa using this
   have aQ:Chg [rb] wr w9:=by
    rw [aY]
    exact ((((zR [rb] wr).setCell (p:=⟨rb,0,none⟩) (.inl (by simp)) _).setCell (p:=⟨rb,1,none⟩) (.inl (by simp)) _).setCell (p:=⟨rb,2,none⟩) (.inl (by simp)) _).setCell (p:=⟨rb,3,none⟩) (.inl (by simp)) _
   have g0:=aR.cell 0
   have g1:=aR.cell 1
   have g2:=aR.cell 2
   have g3:=aR.cell 3
   simp at g0 g1 g2 g3
   rw [<-aY]
   refine bodyPost_ret (v:=.agg #[.int .i64 W,.int .i64 H,.int .i64 d,.slice (some ⟨gP,0,none⟩) i ab]) (by simp [results,Tryz.results10,go_sem,g0,g1,g2,g3]) rfl ?_
   have am:∀ x∈gP::gs,cb<=x:=by
    intro x hx
    have:=aS.out
    rcases zJ.1 hx with rfl | hx
    ·have:=hs.new x (by simp [hF]);omega
    ·have:=hs.new x (by simp [hx]);omega
   have ca:=HN.out
   have aA:=aO.out
   have bz:=bm.out
   have bs:=bC.out
   refine ⟨⟨W,H,d,P⟩,gP,ab,xs,gs,aP,by rw [<-aA];rfl,bz.2,bs.2,⟨⟨bz.1,au,bs.1,aE,bj,br,?_,?_,fun l hl=>(a0.out l hl).1,fun l hl=>(a0.out l hl).2⟩,?_,hs.pl.chg aQ ?_⟩,?_,?_,?_⟩
   ·show 1<=P.length
    omega
   ·show P.length<=4
    omega
   ·show Row w9 22 (.slice (some ⟨gP,0,none⟩) P.length ab) gP xs
    rw [aA]
    refine hr.chg aQ ?_
    intro hm
    have:=am gP (by simp)
    simp at hm
    omega
   ·intro x hx hm
    have:=am x (by simp [hx])
    simp at hm
    omega
   ·exact HT.out.same aQ (by simp;omega) (Apt.fresh aa.out (by intro x hx;simp at hx;have:=aL.out;omega))
   ·refine (a6.out.tq hs.chg).trans aQ ?_
    intro x hx
    simp at hx
    have:=aL.out
    exact .inr (by omega)
   ·intro x hx
    have:=am x hx
    have:=aL.out
    omega
  ·have t1:decide ((0:Int)<((j+1:Nat):Int))=true:=zB (by omega)
   have ej:(((j+1:Nat):Int))-1=(j:Int):=by omega
   obtain ⟨jj,a4⟩:∃ jj:Int,jj=((j+1:Nat):Int):=⟨_,rfl⟩
   rw [<-a4] at t1 ej ⊢
   have bS:0<=jj/\jj<=4:=by omega
   obtain ⟨cd,bZ⟩:=bS
   have hi:i<n:=by omega
   have az:=HS.out.blk
   have y0:=az.cell 0
   have y1:=az.cell 1
   have y2:=az.cell 2
   have y3:=az.cell 3
   simp at y0 y1 y2 y3
   have aq:Hid (xs.length=i):=hid (by rw [HS.out.pl.lx,aO.out])
   have aA:=fun at2 w2 (ht:b9r w2 b A cap L at2)=>e9n w2 b cap at2 W H d A L ht bm.out.1 au bC.out.1 aE bj br
   have a7:=hid aA
   have ce:=hid a4
   clear aA a4 aj az
   go_wp2_with fail
   go_region_law (first | (refine a3x (by rfl) (by rfl) b7k (by rfl) (by rfl) (ak.alloc (.cells #[.slice (some ⟨g5,0,none⟩) l5.length c5] 22)) (.slice (some ⟨g5,0,none⟩) l5.length c5) (by rfl) (by simp [go_sem]) (by rfl) (by rw [aq.out];omega) (by rw [aq.out];omega) ?_;intro g2 af w6 bJ aT;have ah:=(ae.alloc (.cells #[.slice (some ⟨g5,0,none⟩) l5.length c5] 22)).chg aT.chg HS.out.cF;have y6:=ah.cell 3;have z6:=ah.frozen 3;have bD:=ah.cell 0;have bh:=ah.cell 1;have bK:=ah.cell 2;have bk:=(ah.set_ 3 (.slice (some ⟨g2,0,none⟩) (xs.length+1) af)).cell 0;have bG:=(ah.set_ 3 (.slice (some ⟨g2,0,none⟩) (xs.length+1) af)).cell 1;have bx:=(ah.set_ 3 (.slice (some ⟨g2,0,none⟩) (xs.length+1) af)).cell 2;simp at y6 bD bh bK bk bG bx) | (go_simp;go_at_call 41;refine (a7.out aP _ (HT.out.fresh ((zR [] wr).drew))).mono ?_;rintro e bN ⟨v5,g5,l5,bT,rfl,ad,ax,aV,aB,ao,bp⟩;have bb:=hid ax;clear ax;have bE:=ad;obtain ⟨c5,rfl,-⟩:=ad.oq;have aX:=(HS.out.same ((zR [] wr).drew)).turn ao;have ak:=aX.own;have ae:=aX.blk;have y5:=ae.cell 3;have bu:=ae.cell 0;have bq:=ae.cell 1;have bI:=ae.cell 2;have n5:=(ae.alloc (.cells #[.slice (some ⟨g5,0,none⟩) l5.length c5] 22)).cell 3;have bw:=(ae.alloc (.cells #[.slice (some ⟨g5,0,none⟩) l5.length c5] 22)).cell 0;have bB:=(ae.alloc (.cells #[.slice (some ⟨g5,0,none⟩) l5.length c5] 22)).cell 1;have bA:=(ae.alloc (.cells #[.slice (some ⟨g5,0,none⟩) l5.length c5] 22)).cell 2;simp at y5 bu bq bI n5 bw bB bA))
   all_goals
    have bH:=c8v.next HS.out (((((zR [b] wr).drew).tq ao).alloc (.cells #[.slice (some ⟨g5,0,none⟩) l5.length c5] 22))) (bE.alloc _) bp bJ aT
    have aI:Apt A L F:=Apt.fresh aa.out (fun x hx=>by have:=HS.out.new x (by simp [hx]);have:=aH.out;omega)
    have bl:b∉F:=fun hm=>by have:=HS.out.new b (by simp [hm]);have:=aS.out;omega
    have aD:=((aB.fresh ((zR [] bN).alloc (.cells #[.slice (some ⟨g5,0,none⟩) l5.length c5] 22))).same aT.chg bl aI).same ((zR [cb] w6).setCell (p:=⟨cb,3,none⟩) (.inl (by simp)) (.slice (some ⟨g2,0,none⟩) (xs.length+1) af)) (by simp;omega) (Apt.fresh aa.out (by intro x hx;simp at hx;have:=aS.out;have:=aH.out;omega))
    have aM:f4z W H d (P++[l5]):=fun l hl=>by
     rcases zP.1 hl with h | h
     ·exact a0.out l h
     ·simp at h
      subst h
      exact ⟨bb.out,aV⟩
    have bQ:=hid bH
    have bO:=hid aD
    have a9:=hid aM
    clear bH bJ aT ah y6 z6 y5 n5 ae ak aX ad ao aB aD aM aI bl bE bp bu bq bI bw bB bA bD bh bK bk bG bx
    go_wp2_with fail
    go_roundg j
    case measure=>omega
    case rel=>exact ⟨i+1,_,_,_,_,_,bT,rfl,by omega,hid (by rw [zC,aO.out];rfl),bQ,bO,a9⟩
end Go.Proofs.YtepjepkgcdfboaaGreatDoor
