/- kinorakeep2.Tape.Pic by its contract. -/
import Derived.Test.YtepjepkgcdfboaaGreatDoorMg42
import Derived.Test.YtepjepkgcdfboaaGreatDoorMg27
set_option linter.unusedVariables false
set_option linter.unusedSimpArgs false
set_option maxHeartbeats 4000000
set_option maxRecDepth 100000
namespace Go.Proofs.YtepjepkgcdfboaaGreatDoor
open Go.RowKit
def e4t:List Int:=[3,1,3,4,2,3]
theorem e0e (k:Nat) (h:k<6):∃ n:Nat,e4t[k]?=some (n:Int)/\1<=n/\n<=4:=by
 rcases (by omega:k=0\/k=1\/k=2\/k=3\/k=4\/k=5) with rfl | rfl | rfl | rfl | rfl | rfl
 ·exact ⟨3,rfl,by omega,by omega⟩
 ·exact ⟨1,rfl,by omega,by omega⟩
 ·exact ⟨3,rfl,by omega,by omega⟩
 ·exact ⟨4,rfl,by omega,by omega⟩
 ·exact ⟨2,rfl,by omega,by omega⟩
 ·exact ⟨3,rfl,by omega,by omega⟩
def f4z (W H d:Nat) (P:List (List Int)):Prop:=∀ l∈P,l.length=W*H/\a1u d l
def b9u (w:World) (b cap:Nat) (A:Option Addr) (L:List Int) (side:Nat) (e:Ending) (w':World):Prop :=
 ∃ (p:a2a) (gP capP:Nat) (xs:List Value) (gs:List Nat) (at':Nat),e=.returned (a6y p gP 0 capP)/\p.W<=side/\p.H<=side/\a1x w' p gP capP xs gs/\b9r w' b A cap L at'/\Chg [b] w w'/\∀ x∈gP::gs,w.heap.size<=x
theorem f4b (w:World) (b cap at_ side:Nat) (A:Option Addr) (L:List Int) (h:b9r w b A cap L at_) (hs0:1<=side) (hs1:side<=64) :
  Calls Tryz.prog 10 #[.pointer (some ⟨b,0,none⟩),.int .i64 side] w (b9u w b cap A L side):=by
 unfold b9u
 obtain ⟨wZ,aO⟩:=zX (w.alloc (.cells #[.int .i64 0,.int .i64 0,.int .i64 0,.slice none 0 0] 27))
 have bd:Chg [] w wZ:=by rw [aO];exact (zR [] w).alloc _
 obtain ⟨rb,aT⟩:=zX (w.heap.size)
 have cc:b<rb:=by rw [aT];exact h.blk.lt
 have ao:Blk wZ rb 27 #[.int .i64 0,.int .i64 0,.int .i64 0,.slice none 0 0]:=by rw [aO,aT];exact Blk.new w _ _
 have aq:=b7d wZ b cap at_ side A L (h.fresh bd) hs0 (by omega)
 have ad:=h.cells
 have aa:=hid ad
 have bV:=hid aO
 have aE:=hid aT
 have bU:=hid ao
 have bN:=hid bd
 have aB:=ao.lt
 have bW:=hid aB
 clear aO aT ao bd h ad aB
 go_enter Tryz.func10,Tryz.ntmps10
 go_wp2_with fail
 rw [<-bV.out,<-aE.out]
 refine aq.mono ?_
 rintro e w1 ⟨W0,a1,rfl,cd,h1,a6⟩
 have bo:=b7d w1 b cap a1 side A L h1 hs0 (by omega)
 obtain ⟨W,hW⟩:=zX (W0+1)
 have eW:(1:Int)+(W0:Int)=(W:Int):=by omega
 have bp:=hid (show 1<=W/\W<=side by omega)
 have au:W<=64:=by omega
 clear aq h1 hW
 go_wp2_with fail
 refine bo.mono ?_
 rintro e w2 ⟨H0,a2,rfl,b6,h2,bc⟩
 have bG:=e7c w2 b cap a2 A L h2
 obtain ⟨H,hH⟩:=zX (H0+1)
 have eH:(1:Int)+(H0:Int)=(H:Int):=by omega
 have bi:=hid (show 1<=H/\H<=side by omega)
 have av:H<=64:=by omega
 clear bo h2 hH
 go_wp2_with fail
 refine bG.mono ?_
 rintro e wA ⟨d,a3,rfl,bA,bq,h3,bb⟩
 have aJ:Chg [b] w wA:=(((bN.out.mono (by simp)).tq a6).tq bc).tq bb
 have aD:Chg [b] wZ wA:=(a6.tq bc).tq bb
 have ah:Blk wA rb 27 #[.int .i64 0,.int .i64 0,.int .i64 0,.slice none 0 0]:=bU.out.chg aD (by simp;omega)
 have aI:w.heap.size<wA.heap.size:=by have:=ah.lt;have:=aE.out;omega
 obtain ⟨cb,ar⟩:=zX (wA.heap.size)
 obtain ⟨w4,aL⟩:=zX ((wA.alloc (.cells #[.int .i64 W,.int .i64 H,.int .i64 d,.slice none 0 0] 27)).alloc (.cells #[.int .i64 3,.int .i64 1,.int .i64 3,.int .i64 4,.int .i64 2,.int .i64 3] 3))
 have a4:Chg [] wA w4:=by rw [aL];exact ((zR [] wA).alloc _).alloc _
 have aw:c8v [b] wA W H d cb w4 (.slice none 0 0) [] [] [] []:=by
  refine ⟨by rw [aL,ar];exact (Blk.new wA _ _).alloc _,Own.nil _ _,a2k.nil _,by simp,by simp,by simp,?_,?_,a4.mono (by simp)⟩
  ·intro x hx;simp at hx;omega
  ·intro x hx;simp at hx;have:=h3.blk.lt;omega
 have aA:Blk w4 (cb+1) 3 #[.int .i64 3,.int .i64 1,.int .i64 3,.int .i64 4,.int .i64 2,.int .i64 3]:=by rw [aL,ar];exact Blk.new2 wA _ _ _
 have bk:=b7d w4 b cap a3 6 A L (h3.fresh a4) (by omega) (by omega)
 have bM:b<cb:=by rw [ar];exact h3.blk.lt
 have bP:=hid aL
 have aU:=hid ar
 have aX:=hid aw
 have aY:=hid aA
 have aZ:=hid aJ
 have aW:=hid ah
 have ax:=hid aI
 have bE:rb<cb:=by rw [ar];exact ah.lt
 clear bG h3 a6 bc bb aJ aD ah aI ar aL a4 aw aA
 go_wp2_with fail
 rw [<-bP.out,<-aU.out]
 refine bk.mono ?_
 rintro e w5 ⟨k,a5,rfl,hk,h5,an⟩
 obtain ⟨n,hn,bB,aq⟩:=e0e k hk
 have bJ:=aY.out.chg an (by simp;omega)
 have aj:w5.cell? ⟨cb+1,k,none⟩=some (.int .i64 n):=by
  rw [bJ.cell k]
  have e:(#[Value.int .i64 3,.int .i64 1,.int .i64 3,.int .i64 4,.int .i64 2,.int .i64 3]:Array Value)=(e4t.map vi).toArray:=rfl
  rw [e,List.getElem?_toArray,zW,hn]
  rfl
 have b7:(0:Int)<=(k:Int):=by omega
 have bY:(k:Int)<6:=by omega
 have aG:=aX.out.turn an
 have bf:=hid aG
 have H5:=hid h5
 have HN:=hid (And.intro bB aq)
 have bX:n<=4:=aq
 clear bk hn bJ aG h5 an bB aq
 go_wp2_with fail
 go_loopg [6] n (fun j v6 wr=>∃ (i:Nat) (vP:Value) (F:List Nat) (xs:List Value) (P:List (List Int)) (gs:List Nat) (aQ:Nat),v6=.int .i64 j/\i+j=n/\Hid (P.length=i)/\Hid (c8v [b] wA W H d cb wr vP F xs P gs)/\Hid (b9r wr b A cap L aQ)/\Hid (f4z W H d P))
 case atStart=>exact ⟨0,_,[],[],[],[],a5,rfl,by omega,hid rfl,bf,H5,hid (by intro l hl;simp at hl)⟩
 case round =>
  obtain ⟨i,vP,F,xs,P,gs,aQ,rfl,b5,aP,HS,HT,be⟩:=hrel
  rcases gk with _ | j
  ·obtain rfl:i=n:=by omega
   have t1:decide ((0:Int)<((0:Nat):Int))=false:=by simp
   have hs:=HS.out
   have ap:xs.length=i:=by rw [hs.pl.lx,aP.out]
   rcases hs.own.cases with ⟨_,he,_⟩ | ⟨gP,al,hF⟩
   ·exfalso
    rw [he] at ap
    simp at ap
    have:=HN.out
    omega
   have hr:=al
   obtain ⟨ab,rfl,-,-,-,-⟩:=al.open_
   rw [ap] at hr hs
   have b0:=hs.blk.cell 0
   have b1:=hs.blk.cell 1
   have b2:=hs.blk.cell 2
   have b3:=hs.blk.cell 3
   simp at b0 b1 b2 b3
   have af:=aW.out.chg hs.chg (by simp;omega)
   have z0:=af.frozen 0
   have z1:=af.frozen 1
   have z2:=af.frozen 2
   have z3:=af.frozen 3
   have k0:=af.cell 0
   have k1:=af.cell 1
   have k2:=af.cell 2
   have k3:=af.cell 3
   simp at k0 k1 k2 k3
   have bZ:rb≠cb:=by omega
   clear al aj
   go_wp2_with fail
   obtain ⟨w9,ba⟩:=zX ((((wr.setCell ⟨rb,0,none⟩ (.int .i64 W)).setCell ⟨rb,1,none⟩ (.int .i64 H)).setCell ⟨rb,2,none⟩ (.int .i64 d)).setCell ⟨rb,3,none⟩ (.slice (some ⟨gP,0,none⟩) i ab))
   have aR:Blk w9 rb 27 #[.int .i64 W,.int .i64 H,.int .i64 d,.slice (some ⟨gP,0,none⟩) i ab]:=by
    rw [ba]
    have:=(((af.set_ 0 (.int .i64 W)).set_ 1 (.int .i64 H)).set_ 2 (.int .i64 d)).set_ 3 (.slice (some ⟨gP,0,none⟩) i ab)
    simpa using this
   have aS:Chg [rb] wr w9:=by
    rw [ba]
    exact ((((zR [rb] wr).setCell (p:=⟨rb,0,none⟩) (.inl (by simp)) _).setCell (p:=⟨rb,1,none⟩) (.inl (by simp)) _).setCell (p:=⟨rb,2,none⟩) (.inl (by simp)) _).setCell (p:=⟨rb,3,none⟩) (.inl (by simp)) _
   have g0:=aR.cell 0
   have g1:=aR.cell 1
   have g2:=aR.cell 2
   have g3:=aR.cell 3
   simp at g0 g1 g2 g3
   rw [<-ba]
   refine bodyPost_ret (v:=.agg #[.int .i64 W,.int .i64 H,.int .i64 d,.slice (some ⟨gP,0,none⟩) i ab]) (by simp [results,Tryz.results10,go_sem,g0,g1,g2,g3]) rfl ?_
   have am:∀ x∈gP::gs,cb<=x:=by
    intro x hx
    have:=aU.out
    rcases zJ.1 hx with rfl | hx
    ·have:=hs.new x (by simp [hF]);omega
    ·have:=hs.new x (by simp [hx]);omega
   have ce:=HN.out
   have aM:=aP.out
   have bK:=bp.out
   have bs:=bi.out
   refine ⟨⟨W,H,d,P⟩,gP,ab,xs,gs,aQ,by rw [<-aM];rfl,bK.2,bs.2,⟨⟨bK.1,au,bs.1,av,bA,bq,?_,?_,fun l hl=>(be.out l hl).1,fun l hl=>(be.out l hl).2⟩,?_,hs.pl.chg aS ?_⟩,?_,?_,?_⟩
   ·show 1<=P.length
    omega
   ·show P.length<=4
    omega
   ·show Row w9 22 (.slice (some ⟨gP,0,none⟩) P.length ab) gP xs
    rw [aM]
    refine hr.chg aS ?_
    intro hm
    have:=am gP (by simp)
    simp at hm
    omega
   ·intro x hx hm
    have:=am x (by simp [hx])
    simp at hm
    omega
   ·exact HT.out.same aS (by simp;omega) (Apt.fresh aa.out (by intro x hx;simp at hx;have:=aE.out;omega))
   ·refine (aZ.out.tq hs.chg).trans aS ?_
    intro x hx
    simp at hx
    have:=aE.out
    exact .inr (by omega)
   ·intro x hx
    have:=am x hx
    have:=aE.out
    omega
  ·have t1:decide ((0:Int)<((j+1:Nat):Int))=true:=zB (by omega)
   have ej:(((j+1:Nat):Int))-1=(j:Int):=by omega
   obtain ⟨jj,a8⟩:∃ jj:Int,jj=((j+1:Nat):Int):=⟨_,rfl⟩
   rw [<-a8] at t1 ej ⊢
   have bO:0<=jj/\jj<=4:=by omega
   obtain ⟨b4,ca⟩:=bO
   have hi:i<n:=by omega
   have ay:=HS.out.blk
   have y0:=ay.cell 0
   have y1:=ay.cell 1
   have y2:=ay.cell 2
   have y3:=ay.cell 3
   simp at y0 y1 y2 y3
   have ap:Hid (xs.length=i):=hid (by rw [HS.out.pl.lx,aP.out])
   have aM:=fun at2 w2 (ht:b9r w2 b A cap L at2)=>e9n w2 b cap at2 W H d A L ht bp.out.1 au bi.out.1 av bA bq
   have a9:=hid aM
   have b9:=hid a8
   clear aM a8 aj ay
   go_wp2_with fail
   go_region_law (first | (refine a3x (by rfl) (by rfl) b7k (by rfl) (by rfl) (ak.alloc (.cells #[.slice (some ⟨g5,0,none⟩) l5.length c5] 22)) (.slice (some ⟨g5,0,none⟩) l5.length c5) (by rfl) (by simp [go_sem]) (by rfl) (by rw [ap.out];omega) (by rw [ap.out];omega) ?_;intro g2 ai w6 br aN;have ag:=(ae.alloc (.cells #[.slice (some ⟨g5,0,none⟩) l5.length c5] 22)).chg aN.chg HS.out.cF;have y6:=ag.cell 3;have z6:=ag.frozen 3;have bn:=ag.cell 0;have bx:=ag.cell 1;have bw:=ag.cell 2;have bh:=(ag.set_ 3 (.slice (some ⟨g2,0,none⟩) (xs.length+1) ai)).cell 0;have bz:=(ag.set_ 3 (.slice (some ⟨g2,0,none⟩) (xs.length+1) ai)).cell 1;have bL:=(ag.set_ 3 (.slice (some ⟨g2,0,none⟩) (xs.length+1) ai)).cell 2;simp at y6 bn bx bw bh bz bL) | (go_simp;go_at_call 41;refine (a9.out aQ _ (HT.out.fresh ((zR [] wr).drew))).mono ?_;rintro e bQ ⟨v5,g5,l5,bT,rfl,ac,az,aV,aK,an,bH⟩;have bg:=hid az;clear az;have bl:=ac;obtain ⟨c5,rfl,-⟩:=ac.oq;have a0:=(HS.out.same ((zR [] wr).drew)).turn an;have ak:=a0.own;have ae:=a0.blk;have y5:=ae.cell 3;have bj:=ae.cell 0;have bm:=ae.cell 1;have bu:=ae.cell 2;have n5:=(ae.alloc (.cells #[.slice (some ⟨g5,0,none⟩) l5.length c5] 22)).cell 3;have bv:=(ae.alloc (.cells #[.slice (some ⟨g5,0,none⟩) l5.length c5] 22)).cell 0;have bD:=(ae.alloc (.cells #[.slice (some ⟨g5,0,none⟩) l5.length c5] 22)).cell 1;have bC:=(ae.alloc (.cells #[.slice (some ⟨g5,0,none⟩) l5.length c5] 22)).cell 2;simp at y5 bj bm bu n5 bv bD bC))
   all_goals
    have bF:=c8v.next HS.out (((((zR [b] wr).drew).tq an).alloc (.cells #[.slice (some ⟨g5,0,none⟩) l5.length c5] 22))) (bl.alloc _) bH br aN
    have aF:Apt A L F:=Apt.fresh aa.out (fun x hx=>by have:=HS.out.new x (by simp [hx]);have:=ax.out;omega)
    have bI:b∉F:=fun hm=>by have:=HS.out.new b (by simp [hm]);have:=aU.out;omega
    have aH:=((aK.fresh ((zR [] bQ).alloc (.cells #[.slice (some ⟨g5,0,none⟩) l5.length c5] 22))).same aN.chg bI aF).same ((zR [cb] w6).setCell (p:=⟨cb,3,none⟩) (.inl (by simp)) (.slice (some ⟨g2,0,none⟩) (xs.length+1) ai)) (by simp;omega) (Apt.fresh aa.out (by intro x hx;simp at hx;have:=aU.out;have:=ax.out;omega))
    have aC:f4z W H d (P++[l5]):=fun l hl=>by
     rcases zP.1 hl with h | h
     ·exact be.out l h
     ·simp at h
      subst h
      exact ⟨bg.out,aV⟩
    have bS:=hid bF
    have bR:=hid aH
    have a7:=hid aC
    clear bF br aN ag y6 z6 y5 n5 ae ak a0 ac an aK aH aC aF bI bl bH bj bm bu bv bD bC bn bx bw bh bz bL
    go_wp2_with fail
    go_roundg j
    case measure=>omega
    case rel=>exact ⟨i+1,_,_,_,_,_,bT,rfl,by omega,hid (by rw [zC,aP.out];rfl),bS,bR,a7⟩
end Go.Proofs.YtepjepkgcdfboaaGreatDoor
