/- kinorakeep2.Tape.Pic by its contract. -/
import Derived.Test.YtepjepkgcdfboaaGreatDoorMg42
import Derived.Test.YtepjepkgcdfboaaGreatDoorMg27
set_option linter.unusedVariables false
set_option linter.unusedSimpArgs false
set_option maxHeartbeats 4000000
set_option maxRecDepth 100000
namespace Go.Proofs.YtepjepkgcdfboaaGreatDoor
open Go.RowKit
def planesL:List Int:=[3,1,3,4,2,3]
theorem planesL_ok (k:Nat) (h:k<6):∃ n:Nat,planesL[k]?=some (n:Int)/\1<=n/\n<=4:=by
 rcases (by omega:k=0\/k=1\/k=2\/k=3\/k=4\/k=5) with rfl | rfl | rfl | rfl | rfl | rfl
 ·exact ⟨3,rfl,by omega,by omega⟩
 ·exact ⟨1,rfl,by omega,by omega⟩
 ·exact ⟨3,rfl,by omega,by omega⟩
 ·exact ⟨4,rfl,by omega,by omega⟩
 ·exact ⟨2,rfl,by omega,by omega⟩
 ·exact ⟨3,rfl,by omega,by omega⟩
def PlOk (W H d:Nat) (P:List (List Int)):Prop:=∀ l∈P,l.length=W*H/\SmpOk d l
def TapePicPost (w:World) (b cap:Nat) (A:Option Addr) (L:List Int) (side:Nat) (e:Ending) (w':World):Prop :=
 ∃ (p:PicD) (gP capP:Nat) (xs:List Value) (gs:List Nat) (at':Nat),e=.returned (picV p gP 0 capP)/\p.W<=side/\p.H<=side/\PicOwn w' p gP capP xs gs/\IsTp w' b A cap L at'/\Chg [b] w w'/\∀ x∈gP::gs,w.heap.size<=x
theorem pic_tp (w:World) (b cap at_ side:Nat) (A:Option Addr) (L:List Int) (h:IsTp w b A cap L at_) (hs0:1<=side) (hs1:side<=64) :
  Calls Tryz.prog 10 #[.pointer (some ⟨b,0,none⟩),.int .i64 side] w (TapePicPost w b cap A L side):=by
 unfold TapePicPost
 obtain ⟨wZ,aN⟩:=zX (w.alloc (.cells #[.int .i64 0,.int .i64 0,.int .i64 0,.slice none 0 0] 27))
 have a4:Chg [] w wZ:=by rw [aN];exact (zR [] w).alloc _
 obtain ⟨rb,aS⟩:=zX (w.heap.size)
 have bY:b<rb:=by rw [aS];exact h.blk.lt
 have al:Blk wZ rb 27 #[.int .i64 0,.int .i64 0,.int .i64 0,.slice none 0 0]:=by rw [aN,aS];exact Blk.new w _ _
 have aq:=next_tp wZ b cap at_ side A L (h.fresh a4) hs0 (by omega)
 have ac:=h.cells
 have aa:=hid ac
 have bS:=hid aN
 have aM:=hid aS
 have bT:=hid al
 have bR:=hid a4
 have aD:=al.lt
 have bO:=hid aD
 clear aN aS al a4 h ac aD
 go_enter Tryz.func10,Tryz.ntmps10
 go_wp2_with fail
 rw [<-bS.out,<-aM.out]
 refine aq.mono ?_
 rintro e w1 ⟨W0,a1,rfl,cc,h1,ba⟩
 have bw:=next_tp w1 b cap a1 side A L h1 hs0 (by omega)
 obtain ⟨W,hW⟩:=zX (W0+1)
 have eW:(1:Int)+(W0:Int)=(W:Int):=by omega
 have bm:=hid (show 1<=W/\W<=side by omega)
 have ay:W<=64:=by omega
 clear aq h1 hW
 go_wp2_with fail
 refine bw.mono ?_
 rintro e w2 ⟨H0,a2,rfl,ca,h2,bd⟩
 have bl:=depth_tp w2 b cap a2 A L h2
 obtain ⟨H,hH⟩:=zX (H0+1)
 have eH:(1:Int)+(H0:Int)=(H:Int):=by omega
 have bk:=hid (show 1<=H/\H<=side by omega)
 have az:H<=64:=by omega
 clear bw h2 hH
 go_wp2_with fail
 refine bl.mono ?_
 rintro e wA ⟨d,a3,rfl,bi,bo,h3,bc⟩
 have aF:Chg [b] w wA:=(((bR.out.mono (by simp)).trans_same ba).trans_same bd).trans_same bc
 have av:Chg [b] wZ wA:=(ba.trans_same bd).trans_same bc
 have af:Blk wA rb 27 #[.int .i64 0,.int .i64 0,.int .i64 0,.slice none 0 0]:=bT.out.chg av (by simp;omega)
 have aH:w.heap.size<wA.heap.size:=by have:=af.lt;have:=aM.out;omega
 obtain ⟨cb,ap⟩:=zX (wA.heap.size)
 obtain ⟨w4,aK⟩:=zX ((wA.alloc (.cells #[.int .i64 W,.int .i64 H,.int .i64 d,.slice none 0 0] 27)).alloc (.cells #[.int .i64 3,.int .i64 1,.int .i64 3,.int .i64 4,.int .i64 2,.int .i64 3] 3))
 have be:Chg [] wA w4:=by rw [aK];exact ((zR [] wA).alloc _).alloc _
 have aI:CpSt [b] wA W H d cb w4 (.slice none 0 0) [] [] [] []:=by
  refine ⟨by rw [aK,ap];exact (Blk.new wA _ _).alloc _,Own.nil _ _,PlRows.nil _,by simp,by simp,by simp,?_,?_,be.mono (by simp)⟩
  ·intro x hx;simp at hx;omega
  ·intro x hx;simp at hx;have:=h3.blk.lt;omega
 have aC:Blk w4 (cb+1) 3 #[.int .i64 3,.int .i64 1,.int .i64 3,.int .i64 4,.int .i64 2,.int .i64 3]:=by rw [aK,ap];exact Blk.new2 wA _ _ _
 have br:=next_tp w4 b cap a3 6 A L (h3.fresh be) (by omega) (by omega)
 have bW:b<cb:=by rw [ap];exact h3.blk.lt
 have bP:=hid aK
 have aO:=hid ap
 have aX:=hid aI
 have aY:=hid aC
 have bf:=hid aF
 have aZ:=hid af
 have aB:=hid aH
 have bp:rb<cb:=by rw [ap];exact af.lt
 clear bl h3 ba bd bc aF av af aH ap aK be aI aC
 go_wp2_with fail
 rw [<-bP.out,<-aO.out]
 refine br.mono ?_
 rintro e w5 ⟨k,a5,rfl,hk,h5,am⟩
 obtain ⟨n,hn,bj,aq⟩:=planesL_ok k hk
 have bL:=aY.out.chg am (by simp;omega)
 have ak:w5.cell? ⟨cb+1,k,none⟩=some (.int .i64 n):=by
  rw [bL.cell k]
  have e:(#[Value.int .i64 3,.int .i64 1,.int .i64 3,.int .i64 4,.int .i64 2,.int .i64 3]:Array Value)=(planesL.map vi).toArray:=rfl
  rw [e,List.getElem?_toArray,zW,hn]
  rfl
 have b5:(0:Int)<=(k:Int):=by omega
 have bZ:(k:Int)<6:=by omega
 have aJ:=aX.out.turn am
 have aW:=hid aJ
 have H5:=hid h5
 have HN:=hid (And.intro bj aq)
 have bM:n<=4:=aq
 clear br hn bL aJ h5 am bj aq
 go_wp2_with fail
 go_loopg [6] n (fun j v6 wr=>∃ (i:Nat) (vP:Value) (F:List Nat) (xs:List Value) (P:List (List Int)) (gs:List Nat) (aP:Nat),v6=.int .i64 j/\i+j=n/\Hid (P.length=i)/\Hid (CpSt [b] wA W H d cb wr vP F xs P gs)/\Hid (IsTp wr b A cap L aP)/\Hid (PlOk W H d P))
 case atStart=>exact ⟨0,_,[],[],[],[],a5,rfl,by omega,hid rfl,aW,H5,hid (by intro l hl;simp at hl)⟩
 case round =>
  obtain ⟨i,vP,F,xs,P,gs,aP,rfl,ce,aU,HS,HT,a6⟩:=hrel
  rcases gk with _ | j
  ·obtain rfl:i=n:=by omega
   have t1:decide ((0:Int)<((0:Nat):Int))=false:=by simp
   have hs:=HS.out
   have ar:xs.length=i:=by rw [hs.pl.lx,aU.out]
   rcases hs.own.cases with ⟨_,he,_⟩ | ⟨gP,an,hF⟩
   ·exfalso
    rw [he] at ar
    simp at ar
    have:=HN.out
    omega
   have hr:=an
   obtain ⟨ab,rfl,-,-,-,-⟩:=an.open_
   rw [ar] at hr hs
   have b0:=hs.blk.cell 0
   have b1:=hs.blk.cell 1
   have b2:=hs.blk.cell 2
   have b3:=hs.blk.cell 3
   simp at b0 b1 b2 b3
   have ai:=aZ.out.chg hs.chg (by simp;omega)
   have z0:=ai.frozen 0
   have z1:=ai.frozen 1
   have z2:=ai.frozen 2
   have z3:=ai.frozen 3
   have k0:=ai.cell 0
   have k1:=ai.cell 1
   have k2:=ai.cell 2
   have k3:=ai.cell 3
   simp at k0 k1 k2 k3
   have b7:rb≠cb:=by omega
   clear an ak
   go_wp2_with fail
   obtain ⟨w9,aV⟩:=zX ((((wr.setCell ⟨rb,0,none⟩ (.int .i64 W)).setCell ⟨rb,1,none⟩ (.int .i64 H)).setCell ⟨rb,2,none⟩ (.int .i64 d)).setCell ⟨rb,3,none⟩ (.slice (some ⟨gP,0,none⟩) i ab))
   have aT:Blk w9 rb 27 #[.int .i64 W,.int .i64 H,.int .i64 d,.slice (some ⟨gP,0,none⟩) i ab]:=by
    rw [aV]
    have:=(((ai.set_ 0 (.int .i64 W)).set_ 1 (.int .i64 H)).set_ 2 (.int .i64 d)).set_ 3 (.slice (some ⟨gP,0,none⟩) i ab)
    simpa using this
   have aQ:Chg [rb] wr w9:=by
    rw [aV]
    exact ((((zR [rb] wr).setCell (p:=⟨rb,0,none⟩) (.inl (by simp)) _).setCell (p:=⟨rb,1,none⟩) (.inl (by simp)) _).setCell (p:=⟨rb,2,none⟩) (.inl (by simp)) _).setCell (p:=⟨rb,3,none⟩) (.inl (by simp)) _
   have g0:=aT.cell 0
   have g1:=aT.cell 1
   have g2:=aT.cell 2
   have g3:=aT.cell 3
   simp at g0 g1 g2 g3
   rw [<-aV]
   refine bodyPost_ret (v:=.agg #[.int .i64 W,.int .i64 H,.int .i64 d,.slice (some ⟨gP,0,none⟩) i ab]) (by simp [results,Tryz.results10,go_sem,g0,g1,g2,g3]) rfl ?_
   have ao:∀ x∈gP::gs,cb<=x:=by
    intro x hx
    have:=aO.out
    rcases zJ.1 hx with rfl | hx
    ·have:=hs.new x (by simp [hF]);omega
    ·have:=hs.new x (by simp [hx]);omega
   have b6:=HN.out
   have ax:=aU.out
   have bK:=bm.out
   have bC:=bk.out
   refine ⟨⟨W,H,d,P⟩,gP,ab,xs,gs,aP,by rw [<-ax];rfl,bK.2,bC.2,⟨⟨bK.1,ay,bC.1,az,bi,bo,?_,?_,fun l hl=>(a6.out l hl).1,fun l hl=>(a6.out l hl).2⟩,?_,hs.pl.chg aQ ?_⟩,?_,?_,?_⟩
   ·show 1<=P.length
    omega
   ·show P.length<=4
    omega
   ·show Row w9 22 (.slice (some ⟨gP,0,none⟩) P.length ab) gP xs
    rw [ax]
    refine hr.chg aQ ?_
    intro hm
    have:=ao gP (by simp)
    simp at hm
    omega
   ·intro x hx hm
    have:=ao x (by simp [hx])
    simp at hm
    omega
   ·exact HT.out.same aQ (by simp;omega) (Apt.fresh aa.out (by intro x hx;simp at hx;have:=aM.out;omega))
   ·refine (bf.out.trans_same hs.chg).trans aQ ?_
    intro x hx
    simp at hx
    have:=aM.out
    exact .inr (by omega)
   ·intro x hx
    have:=ao x hx
    have:=aM.out
    omega
  ·have t1:decide ((0:Int)<((j+1:Nat):Int))=true:=zB (by omega)
   have ej:(((j+1:Nat):Int))-1=(j:Int):=by omega
   obtain ⟨jj,bg⟩:∃ jj:Int,jj=((j+1:Nat):Int):=⟨_,rfl⟩
   rw [<-bg] at t1 ej ⊢
   have bN:0<=jj/\jj<=4:=by omega
   obtain ⟨cd,b4⟩:=bN
   have hi:i<n:=by omega
   have aG:=HS.out.blk
   have y0:=aG.cell 0
   have y1:=aG.cell 1
   have y2:=aG.cell 2
   have y3:=aG.cell 3
   simp at y0 y1 y2 y3
   have ar:Hid (xs.length=i):=hid (by rw [HS.out.pl.lx,aU.out])
   have ax:=fun at2 w2 (ht:IsTp w2 b A cap L at2)=>plane_tp w2 b cap at2 W H d A L ht bm.out.1 ay bk.out.1 az bi bo
   have a0:=hid ax
   have b9:=hid bg
   clear ax bg ak aG
   go_wp2_with fail
   go_region_law (first | (refine step_append_o1 (by rfl) (by rfl) rows_el (by rfl) (by rfl) (aj.alloc (.cells #[.slice (some ⟨g5,0,none⟩) l5.length c5] 22)) (.slice (some ⟨g5,0,none⟩) l5.length c5) (by rfl) (by simp [go_sem]) (by rfl) (by rw [ar.out];omega) (by rw [ar.out];omega) ?_;intro g2 ag w6 bJ aR;have ah:=(ae.alloc (.cells #[.slice (some ⟨g5,0,none⟩) l5.length c5] 22)).chg aR.chg HS.out.cF;have y6:=ah.cell 3;have z6:=ah.frozen 3;have bD:=ah.cell 0;have bG:=ah.cell 1;have bx:=ah.cell 2;have bI:=(ah.set_ 3 (.slice (some ⟨g2,0,none⟩) (xs.length+1) ag)).cell 0;have bz:=(ah.set_ 3 (.slice (some ⟨g2,0,none⟩) (xs.length+1) ag)).cell 1;have bF:=(ah.set_ 3 (.slice (some ⟨g2,0,none⟩) (xs.length+1) ag)).cell 2;simp at y6 bD bG bx bI bz bF) | (go_simp;go_at_call 41;refine (a0.out aP _ (HT.out.fresh ((zR [] wr).drew))).mono ?_;rintro e bX ⟨v5,g5,l5,bU,rfl,ad,aL,bb,aw,am,bB⟩;have a7:=hid aL;clear aL;have bn:=ad;obtain ⟨c5,rfl,-⟩:=ad.open_map;have a8:=(HS.out.same ((zR [] wr).drew)).turn am;have aj:=a8.own;have ae:=a8.blk;have y5:=ae.cell 3;have bA:=ae.cell 0;have bs:=ae.cell 1;have bh:=ae.cell 2;have n5:=(ae.alloc (.cells #[.slice (some ⟨g5,0,none⟩) l5.length c5] 22)).cell 3;have bH:=(ae.alloc (.cells #[.slice (some ⟨g5,0,none⟩) l5.length c5] 22)).cell 0;have bE:=(ae.alloc (.cells #[.slice (some ⟨g5,0,none⟩) l5.length c5] 22)).cell 1;have bq:=(ae.alloc (.cells #[.slice (some ⟨g5,0,none⟩) l5.length c5] 22)).cell 2;simp at y5 bA bs bh n5 bH bE bq))
   all_goals
    have bu:=CpSt.next HS.out (((((zR [b] wr).drew).trans_same am).alloc (.cells #[.slice (some ⟨g5,0,none⟩) l5.length c5] 22))) (bn.alloc _) bB bJ aR
    have aA:Apt A L F:=Apt.fresh aa.out (fun x hx=>by have:=HS.out.new x (by simp [hx]);have:=aB.out;omega)
    have bv:b∉F:=fun hm=>by have:=HS.out.new b (by simp [hm]);have:=aO.out;omega
    have aE:=((aw.fresh ((zR [] bX).alloc (.cells #[.slice (some ⟨g5,0,none⟩) l5.length c5] 22))).same aR.chg bv aA).same ((zR [cb] w6).setCell (p:=⟨cb,3,none⟩) (.inl (by simp)) (.slice (some ⟨g2,0,none⟩) (xs.length+1) ag)) (by simp;omega) (Apt.fresh aa.out (by intro x hx;simp at hx;have:=aO.out;have:=aB.out;omega))
    have au:PlOk W H d (P++[l5]):=fun l hl=>by
     rcases zP.1 hl with h | h
     ·exact a6.out l h
     ·simp at h
      subst h
      exact ⟨a7.out,bb⟩
    have bV:=hid bu
    have bQ:=hid aE
    have a9:=hid au
    clear bu bJ aR ah y6 z6 y5 n5 ae aj a8 ad am aw aE au aA bv bn bB bA bs bh bH bE bq bD bG bx bI bz bF
    go_wp2_with fail
    go_roundg j
    case measure=>omega
    case rel=>exact ⟨i+1,_,_,_,_,_,bU,rfl,by omega,hid (by rw [zC,aU.out];rfl),bV,bQ,a9⟩
end Go.Proofs.YtepjepkgcdfboaaGreatDoor
