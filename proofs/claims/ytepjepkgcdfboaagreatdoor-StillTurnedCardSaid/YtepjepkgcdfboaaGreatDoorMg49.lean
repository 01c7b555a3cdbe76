/- kinorakeep2.Tape.Pic by its contract. -/
import Derived.Test.YtepjepkgcdfboaaGreatDoorMg42
import Derived.Test.YtepjepkgcdfboaaGreatDoorMg27
set_option linter.unusedVariables false
set_option linter.unusedSimpArgs false
set_option maxHeartbeats 4000000
set_option maxRecDepth 100000
namespace Go.Proofs.YtepjepkgcdfboaaGreatDoor
open Go.RowKit
def e4t:List Int:=[3,1,3,4,2,3]
theorem e0e (k:Nat) (h:k<6):∃ n:Nat,e4t[k]?=some (n:Int)/\1<=n/\n<=4:=by
 rcases (by omega:k=0\/k=1\/k=2\/k=3\/k=4\/k=5) with rfl | rfl | rfl | rfl | rfl | rfl
 ·exact ⟨3,rfl,by omega,by omega⟩
 ·exact ⟨1,rfl,by omega,by omega⟩
 ·exact ⟨3,rfl,by omega,by omega⟩
 ·exact ⟨4,rfl,by omega,by omega⟩
 ·exact ⟨2,rfl,by omega,by omega⟩
 ·exact ⟨3,rfl,by omega,by omega⟩
def f4z (W H d:Nat) (P:List (List Int)):Prop:=∀ l∈P,l.length=W*H/\a1u d l
def b9u (w:World) (b cap:Nat) (A:Option Addr) (L:List Int) (side:Nat) (e:Ending) (w':World):Prop :=
 ∃ (p:a2a) (gP capP:Nat) (xs:List Value) (gs:List Nat) (at':Nat),e=.returned (a6y p gP 0 capP)/\p.W<=side/\p.H<=side/\a1x w' p gP capP xs gs/\b9r w' b A cap L at'/\Chg [b] w w'/\∀ x∈gP::gs,w.heap.size<=x
theorem f4b (w:World) (b cap at_ side:Nat) (A:Option Addr) (L:List Int) (h:b9r w b A cap L at_) (hs0:1<=side) (hs1:side<=64) :
  Calls Tryz.prog 10 #[.pointer (some ⟨b,0,none⟩),.int .i64 side] w (b9u w b cap A L side):=by
 unfold b9u
 obtain ⟨wZ,aP⟩:=zX (w.alloc (.cells #[.int .i64 0,.int .i64 0,.int .i64 0,.slice none 0 0] 27))
 have aW:Chg [] w wZ:=by rw [aP];exact (zR [] w).alloc _
 obtain ⟨rb,aO⟩:=zX (w.heap.size)
 have ce:b<rb:=by rw [aO];exact h.blk.lt
 have ao:Blk wZ rb 27 #[.int .i64 0,.int .i64 0,.int .i64 0,.slice none 0 0]:=by rw [aP,aO];exact Blk.new w _ _
 have ar:=b7d wZ b cap at_ side A L (h.fresh aW) hs0 (by omega)
 have ad:=h.cells
 have aa:=hid ad
 have bQ:=hid aP
 have az:=hid aO
 have bO:=hid ao
 have bR:=hid aW
 have ay:=ao.lt
 have bN:=hid ay
 clear aP aO ao aW h ad ay
 go_enter Tryz.func10,Tryz.ntmps10
 go_wp2_with fail
 rw [<-bQ.out,<-az.out]
 refine ar.mono ?_
 rintro e w1 ⟨W0,a1,rfl,cd,h1,a0⟩
 have bq:=b7d w1 b cap a1 side A L h1 hs0 (by omega)
 obtain ⟨W,hW⟩:=zX (W0+1)
 have eW:(1:Int)+(W0:Int)=(W:Int):=by omega
 have bv:=hid (show 1<=W/\W<=side by omega)
 have aF:W<=64:=by omega
 clear ar h1 hW
 go_wp2_with fail
 refine bq.mono ?_
 rintro e w2 ⟨H0,a2,rfl,b5,h2,bf⟩
 have bp:=e7c w2 b cap a2 A L h2
 obtain ⟨H,hH⟩:=zX (H0+1)
 have eH:(1:Int)+(H0:Int)=(H:Int):=by omega
 have bB:=hid (show 1<=H/\H<=side by omega)
 have aE:H<=64:=by omega
 clear bq h2 hH
 go_wp2_with fail
 refine bp.mono ?_
 rintro e wA ⟨d,a3,rfl,br,bi,h3,a7⟩
 have aL:Chg [b] w wA:=(((bR.out.mono (by simp)).tq a0).tq bf).tq a7
 have aB:Chg [b] wZ wA:=(a0.tq bf).tq a7
 have ah:Blk wA rb 27 #[.int .i64 0,.int .i64 0,.int .i64 0,.slice none 0 0]:=bO.out.chg aB (by simp;omega)
 have aK:w.heap.size<wA.heap.size:=by have:=ah.lt;have:=az.out;omega
 obtain ⟨cb,aq⟩:=zX (wA.heap.size)
 obtain ⟨w4,aJ⟩:=zX ((wA.alloc (.cells #[.int .i64 W,.int .i64 H,.int .i64 d,.slice none 0 0] 27)).alloc (.cells #[.int .i64 3,.int .i64 1,.int .i64 3,.int .i64 4,.int .i64 2,.int .i64 3] 3))
 have a6:Chg [] wA w4:=by rw [aJ];exact ((zR [] wA).alloc _).alloc _
 have au:c8v [b] wA W H d cb w4 (.slice none 0 0) [] [] [] []:=by
  refine ⟨by rw [aJ,aq];exact (Blk.new wA _ _).alloc _,Own.nil _ _,a2k.nil _,by simp,by simp,by simp,?_,?_,a6.mono (by simp)⟩
  ·intro x hx;simp at hx;omega
  ·intro x hx;simp at hx;have:=h3.blk.lt;omega
 have av:Blk w4 (cb+1) 3 #[.int .i64 3,.int .i64 1,.int .i64 3,.int .i64 4,.int .i64 2,.int .i64 3]:=by rw [aJ,aq];exact Blk.new2 wA _ _ _
 have bK:=b7d w4 b cap a3 6 A L (h3.fresh a6) (by omega) (by omega)
 have bS:b<cb:=by rw [aq];exact h3.blk.lt
 have bU:=hid aJ
 have aN:=hid aq
 have bd:=hid au
 have bg:=hid av
 have aZ:=hid aL
 have a8:=hid ah
 have aG:=hid aK
 have bL:rb<cb:=by rw [aq];exact ah.lt
 clear bp h3 a0 bf a7 aL aB ah aK aq aJ a6 au av
 go_wp2_with fail
 rw [<-bU.out,<-aN.out]
 refine bK.mono ?_
 rintro e w5 ⟨k,a5,rfl,hk,h5,an⟩
 obtain ⟨n,hn,bj,ar⟩:=e0e k hk
 have bG:=bg.out.chg an (by simp;omega)
 have ak:w5.cell? ⟨cb+1,k,none⟩=some (.int .i64 n):=by
  rw [bG.cell k]
  have e:(#[Value.int .i64 3,.int .i64 1,.int .i64 3,.int .i64 4,.int .i64 2,.int .i64 3]:Array Value)=(e4t.map vi).toArray:=rfl
  rw [e,List.getElem?_toArray,zW,hn]
  rfl
 have bY:(0:Int)<=(k:Int):=by omega
 have bZ:(k:Int)<6:=by omega
 have aA:=bd.out.turn an
 have ba:=hid aA
 have H5:=hid h5
 have HN:=hid (And.intro bj ar)
 have bT:n<=4:=ar
 clear bK hn bG aA h5 an bj ar
 go_wp2_with fail
 go_loopg [6] n (fun j v6 wr=>∃ (i:Nat) (vP:Value) (F:List Nat) (xs:List Value) (P:List (List Int)) (gs:List Nat) (aT:Nat),v6=.int .i64 j/\i+j=n/\Hid (P.length=i)/\Hid (c8v [b] wA W H d cb wr vP F xs P gs)/\Hid (b9r wr b A cap L aT)/\Hid (f4z W H d P))
 case atStart=>exact ⟨0,_,[],[],[],[],a5,rfl,by omega,hid rfl,ba,H5,hid (by intro l hl;simp at hl)⟩
 case round =>
  obtain ⟨i,vP,F,xs,P,gs,aT,rfl,b9,aR,HS,HT,bc⟩:=hrel
  rcases gk with _ | j
  ·obtain rfl:i=n:=by omega
   have t1:decide ((0:Int)<((0:Nat):Int))=false:=by simp
   have hs:=HS.out
   have ap:xs.length=i:=by rw [hs.pl.lx,aR.out]
   rcases hs.own.cases with ⟨_,he,_⟩ | ⟨gP,am,hF⟩
   ·exfalso
    rw [he] at ap
    simp at ap
    have:=HN.out
    omega
   have hr:=am
   obtain ⟨ab,rfl,-,-,-,-⟩:=am.open_
   rw [ap] at hr hs
   have b0:=hs.blk.cell 0
   have b1:=hs.blk.cell 1
   have b2:=hs.blk.cell 2
   have b3:=hs.blk.cell 3
   simp at b0 b1 b2 b3
   have ag:=a8.out.chg hs.chg (by simp;omega)
   have z0:=ag.frozen 0
   have z1:=ag.frozen 1
   have z2:=ag.frozen 2
   have z3:=ag.frozen 3
   have k0:=ag.cell 0
   have k1:=ag.cell 1
   have k2:=ag.cell 2
   have k3:=ag.cell 3
   simp at k0 k1 k2 k3
   have b7:rb≠cb:=by omega
   clear am ak
   go_wp2_with fail
   obtain ⟨w9,aV⟩:=zX ((((wr.setCell ⟨rb,0,none⟩ (.int .i64 W)).setCell ⟨rb,1,none⟩ (.int .i64 H)).setCell ⟨rb,2,none⟩ (.int .i64 d)).setCell ⟨rb,3,none⟩ (.slice (some ⟨gP,0,none⟩) i ab))
   have aS:Blk w9 rb 27 #[.int .i64 W,.int .i64 H,.int .i64 d,.slice (some ⟨gP,0,none⟩) i ab]:=by
    rw [aV]
    have:=(((ag.set_ 0 (.int .i64 W)).set_ 1 (.int .i64 H)).set_ 2 (.int .i64 d)).set_ 3 (.slice (some ⟨gP,0,none⟩) i ab)
    simpa using this
   have aU:Chg [rb] wr w9:=by
    rw [aV]
    exact ((((zR [rb] wr).setCell (p:=⟨rb,0,none⟩) (.inl (by simp)) _).setCell (p:=⟨rb,1,none⟩) (.inl (by simp)) _).setCell (p:=⟨rb,2,none⟩) (.inl (by simp)) _).setCell (p:=⟨rb,3,none⟩) (.inl (by simp)) _
   have g0:=aS.cell 0
   have g1:=aS.cell 1
   have g2:=aS.cell 2
   have g3:=aS.cell 3
   simp at g0 g1 g2 g3
   rw [<-aV]
   refine bodyPost_ret (v:=.agg #[.int .i64 W,.int .i64 H,.int .i64 d,.slice (some ⟨gP,0,none⟩) i ab]) (by simp [results,Tryz.results10,go_sem,g0,g1,g2,g3]) rfl ?_
   have al:∀ x∈gP::gs,cb<=x:=by
    intro x hx
    have:=aN.out
    rcases zJ.1 hx with rfl | hx
    ·have:=hs.new x (by simp [hF]);omega
    ·have:=hs.new x (by simp [hx]);omega
   have b6:=HN.out
   have aC:=aR.out
   have bH:=bv.out
   have bl:=bB.out
   refine ⟨⟨W,H,d,P⟩,gP,ab,xs,gs,aT,by rw [<-aC];rfl,bH.2,bl.2,⟨⟨bH.1,aF,bl.1,aE,br,bi,?_,?_,fun l hl=>(bc.out l hl).1,fun l hl=>(bc.out l hl).2⟩,?_,hs.pl.chg aU ?_⟩,?_,?_,?_⟩
   ·show 1<=P.length
    omega
   ·show P.length<=4
    omega
   ·show Row w9 22 (.slice (some ⟨gP,0,none⟩) P.length ab) gP xs
    rw [aC]
    refine hr.chg aU ?_
    intro hm
    have:=al gP (by simp)
    simp at hm
    omega
   ·intro x hx hm
    have:=al x (by simp [hx])
    simp at hm
    omega
   ·exact HT.out.same aU (by simp;omega) (Apt.fresh aa.out (by intro x hx;simp at hx;have:=az.out;omega))
   ·refine (aZ.out.tq hs.chg).trans aU ?_
    intro x hx
    simp at hx
    have:=az.out
    exact .inr (by omega)
   ·intro x hx
    have:=al x hx
    have:=az.out
    omega
  ·have t1:decide ((0:Int)<((j+1:Nat):Int))=true:=zB (by omega)
   have ej:(((j+1:Nat):Int))-1=(j:Int):=by omega
   obtain ⟨jj,aX⟩:∃ jj:Int,jj=((j+1:Nat):Int):=⟨_,rfl⟩
   rw [<-aX] at t1 ej ⊢
   have bV:0<=jj/\jj<=4:=by omega
   obtain ⟨b4,ca⟩:=bV
   have hi:i<n:=by omega
   have aM:=HS.out.blk
   have y0:=aM.cell 0
   have y1:=aM.cell 1
   have y2:=aM.cell 2
   have y3:=aM.cell 3
   simp at y0 y1 y2 y3
   have ap:Hid (xs.length=i):=hid (by rw [HS.out.pl.lx,aR.out])
   have aC:=fun at2 w2 (ht:b9r w2 b A cap L at2)=>e9n w2 b cap at2 W H d A L ht bv.out.1 aF bB.out.1 aE br bi
   have aY:=hid aC
   have cc:=hid aX
   clear aC aX ak aM
   go_wp2_with fail
   go_region_law (first | (refine a3x (by rfl) (by rfl) b7k (by rfl) (by rfl) (aj.alloc (.cells #[.slice (some ⟨g5,0,none⟩) l5.length c5] 22)) (.slice (some ⟨g5,0,none⟩) l5.length c5) (by rfl) (by simp [go_sem]) (by rfl) (by rw [ap.out];omega) (by rw [ap.out];omega) ?_;intro g2 ai w6 bk aQ;have af:=(ae.alloc (.cells #[.slice (some ⟨g5,0,none⟩) l5.length c5] 22)).chg aQ.chg HS.out.cF;have y6:=af.cell 3;have z6:=af.frozen 3;have bA:=af.cell 0;have bD:=af.cell 1;have bu:=af.cell 2;have bs:=(af.set_ 3 (.slice (some ⟨g2,0,none⟩) (xs.length+1) ai)).cell 0;have bh:=(af.set_ 3 (.slice (some ⟨g2,0,none⟩) (xs.length+1) ai)).cell 1;have bn:=(af.set_ 3 (.slice (some ⟨g2,0,none⟩) (xs.length+1) ai)).cell 2;simp at y6 bA bD bu bs bh bn) | (go_simp;go_at_call 41;refine (aY.out aT _ (HT.out.fresh ((zR [] wr).drew))).mono ?_;rintro e bW ⟨v5,g5,l5,bP,rfl,ac,aD,be,aw,an,bI⟩;have bb:=hid aD;clear aD;have bx:=ac;obtain ⟨c5,rfl,-⟩:=ac.oq;have a9:=(HS.out.same ((zR [] wr).drew)).turn an;have aj:=a9.own;have ae:=a9.blk;have y5:=ae.cell 3;have bz:=ae.cell 0;have bw:=ae.cell 1;have bF:=ae.cell 2;have n5:=(ae.alloc (.cells #[.slice (some ⟨g5,0,none⟩) l5.length c5] 22)).cell 3;have bE:=(ae.alloc (.cells #[.slice (some ⟨g5,0,none⟩) l5.length c5] 22)).cell 0;have bo:=(ae.alloc (.cells #[.slice (some ⟨g5,0,none⟩) l5.length c5] 22)).cell 1;have bC:=(ae.alloc (.cells #[.slice (some ⟨g5,0,none⟩) l5.length c5] 22)).cell 2;simp at y5 bz bw bF n5 bE bo bC))
   all_goals
    have bm:=c8v.next HS.out (((((zR [b] wr).drew).tq an).alloc (.cells #[.slice (some ⟨g5,0,none⟩) l5.length c5] 22))) (bx.alloc _) bI bk aQ
    have aI:Apt A L F:=Apt.fresh aa.out (fun x hx=>by have:=HS.out.new x (by simp [hx]);have:=aG.out;omega)
    have bJ:b∉F:=fun hm=>by have:=HS.out.new b (by simp [hm]);have:=aN.out;omega
    have ax:=((aw.fresh ((zR [] bW).alloc (.cells #[.slice (some ⟨g5,0,none⟩) l5.length c5] 22))).same aQ.chg bJ aI).same ((zR [cb] w6).setCell (p:=⟨cb,3,none⟩) (.inl (by simp)) (.slice (some ⟨g2,0,none⟩) (xs.length+1) ai)) (by simp;omega) (Apt.fresh aa.out (by intro x hx;simp at hx;have:=aN.out;have:=aG.out;omega))
    have aH:f4z W H d (P++[l5]):=fun l hl=>by
     rcases zP.1 hl with h | h
     ·exact bc.out l h
     ·simp at h
      subst h
      exact ⟨bb.out,be⟩
    have bX:=hid bm
    have bM:=hid ax
    have a4:=hid aH
    clear bm bk aQ af y6 z6 y5 n5 ae aj a9 ac an aw ax aH aI bJ bx bI bz bw bF bE bo bC bA bD bu bs bh bn
    go_wp2_with fail
    go_roundg j
    case measure=>omega
    case rel=>exact ⟨i+1,_,_,_,_,_,bP,rfl,by omega,hid (by rw [zC,aR.out];rfl),bX,bM,a4⟩
end Go.Proofs.YtepjepkgcdfboaaGreatDoor
