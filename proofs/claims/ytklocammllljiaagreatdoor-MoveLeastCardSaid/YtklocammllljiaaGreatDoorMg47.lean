/- kinorakeep2.Tape.Pic by its contract. -/
import Derived.Test.YtklocammllljiaaGreatDoorMg32
import Derived.Test.YtklocammllljiaaGreatDoorMg40
set_option linter.unusedVariables false
set_option linter.unusedSimpArgs false
set_option maxHeartbeats 4000000
set_option maxRecDepth 100000
namespace Go.Proofs.YtklocammllljiaaGreatDoor
open Go.RowKit
def planesL:List Int:=[3,1,3,4,2,3]
theorem planesL_ok (k:Nat) (h:k<6):∃ n:Nat,planesL[k]?=some (n:Int)/\1<=n/\n<=4:=by
 rcases (by omega:k=0\/k=1\/k=2\/k=3\/k=4\/k=5) with rfl | rfl | rfl | rfl | rfl | rfl
 ·exact ⟨3,rfl,by omega,by omega⟩
 ·exact ⟨1,rfl,by omega,by omega⟩
 ·exact ⟨3,rfl,by omega,by omega⟩
 ·exact ⟨4,rfl,by omega,by omega⟩
 ·exact ⟨2,rfl,by omega,by omega⟩
 ·exact ⟨3,rfl,by omega,by omega⟩
def PlOk (W H d:Nat) (P:List (List Int)):Prop:=∀ l∈P,l.length=W*H/\SmpOk d l
def TapePicPost (w:World) (b cap:Nat) (A:Option Addr) (L:List Int) (side:Nat) (e:Ending) (w':World):Prop :=
 ∃ (p:PicD) (gP capP:Nat) (xs:List Value) (gs:List Nat) (at':Nat),e=.returned (picV p gP 0 capP)/\p.W<=side/\p.H<=side/\PicOwn w' p gP capP xs gs/\IsTp w' b A cap L at'/\Chg [b] w w'/\∀ x∈gP::gs,w.heap.size<=x
theorem pic_tp (w:World) (b cap at_ side:Nat) (A:Option Addr) (L:List Int) (h:IsTp w b A cap L at_) (hs0:1<=side) (hs1:side<=64) :
  Calls Tryz.prog 20 #[.pointer (some ⟨b,0,none⟩),.int .i64 side] w (TapePicPost w b cap A L side):=by
 unfold TapePicPost
 obtain ⟨wZ,aS⟩:=zX (w.alloc (.cells #[.int .i64 0,.int .i64 0,.int .i64 0,.slice none 0 0] 25))
 have bb:Chg [] w wZ:=by rw [aS];exact (zR [] w).alloc _
 obtain ⟨rb,aO⟩:=zX (w.heap.size)
 have bZ:b<rb:=by rw [aO];exact h.blk.lt
 have am:Blk wZ rb 25 #[.int .i64 0,.int .i64 0,.int .i64 0,.slice none 0 0]:=by rw [aS,aO];exact Blk.new w _ _
 have ap:=next_tp wZ b cap at_ side A L (h.fresh bb) hs0 (by omega)
 have ac:=h.cells
 have aa:=hid ac
 have bV:=hid aS
 have av:=hid aO
 have bW:=hid am
 have bQ:=hid bb
 have aw:=am.lt
 have bT:=hid aw
 clear aS aO am bb h ac aw
 go_enter Tryz.func20,Tryz.ntmps20
 go_wp2_with fail
 rw [<-bV.out,<-av.out]
 refine ap.mono ?_
 rintro e w1 ⟨W0,a1,rfl,b9,h1,a8⟩
 have bk:=next_tp w1 b cap a1 side A L h1 hs0 (by omega)
 obtain ⟨W,hW⟩:=zX (W0+1)
 have eW:(1:Int)+(W0:Int)=(W:Int):=by omega
 have bA:=hid (show 1<=W/\W<=side by omega)
 have aA:W<=64:=by omega
 clear ap h1 hW
 go_wp2_with fail
 refine bk.mono ?_
 rintro e w2 ⟨H0,a2,rfl,cc,h2,bd⟩
 have bx:=depth_tp w2 b cap a2 A L h2
 obtain ⟨H,hH⟩:=zX (H0+1)
 have eH:(1:Int)+(H0:Int)=(H:Int):=by omega
 have bl:=hid (show 1<=H/\H<=side by omega)
 have aG:H<=64:=by omega
 clear bk h2 hH
 go_wp2_with fail
 refine bx.mono ?_
 rintro e wA ⟨d,a3,rfl,bH,bw,h3,a9⟩
 have aD:Chg [b] w wA:=(((bQ.out.mono (by simp)).trans_same a8).trans_same bd).trans_same a9
 have az:Chg [b] wZ wA:=(a8.trans_same bd).trans_same a9
 have ah:Blk wA rb 25 #[.int .i64 0,.int .i64 0,.int .i64 0,.slice none 0 0]:=bW.out.chg az (by simp;omega)
 have aE:w.heap.size<wA.heap.size:=by have:=ah.lt;have:=av.out;omega
 obtain ⟨cb,ar⟩:=zX (wA.heap.size)
 obtain ⟨w4,aH⟩:=zX ((wA.alloc (.cells #[.int .i64 W,.int .i64 H,.int .i64 d,.slice none 0 0] 25)).alloc (.cells #[.int .i64 3,.int .i64 1,.int .i64 3,.int .i64 4,.int .i64 2,.int .i64 3] 3))
 have aV:Chg [] wA w4:=by rw [aH];exact ((zR [] wA).alloc _).alloc _
 have aJ:CpSt [b] wA W H d cb w4 (.slice none 0 0) [] [] [] []:=by
  refine ⟨by rw [aH,ar];exact (Blk.new wA _ _).alloc _,Own.nil _ _,PlRows.nil _,by simp,by simp,by simp,?_,?_,aV.mono (by simp)⟩
  ·intro x hx;simp at hx;omega
  ·intro x hx;simp at hx;have:=h3.blk.lt;omega
 have aC:Blk w4 (cb+1) 3 #[.int .i64 3,.int .i64 1,.int .i64 3,.int .i64 4,.int .i64 2,.int .i64 3]:=by rw [aH,ar];exact Blk.new2 wA _ _ _
 have bp:=next_tp w4 b cap a3 6 A L (h3.fresh aV) (by omega) (by omega)
 have bR:b<cb:=by rw [ar];exact h3.blk.lt
 have bM:=hid aH
 have aN:=hid ar
 have aZ:=hid aJ
 have aX:=hid aC
 have bf:=hid aD
 have aW:=hid ah
 have ax:=hid aE
 have bE:rb<cb:=by rw [ar];exact ah.lt
 clear bx h3 a8 bd a9 aD az ah aE ar aH aV aJ aC
 go_wp2_with fail
 rw [<-bM.out,<-aN.out]
 refine bp.mono ?_
 rintro e w5 ⟨k,a5,rfl,hk,h5,al⟩
 obtain ⟨n,hn,bi,ap⟩:=planesL_ok k hk
 have bn:=aX.out.chg al (by simp;omega)
 have aj:w5.cell? ⟨cb+1,k,none⟩=some (.int .i64 n):=by
  rw [bn.cell k]
  have e:(#[Value.int .i64 3,.int .i64 1,.int .i64 3,.int .i64 4,.int .i64 2,.int .i64 3]:Array Value)=(planesL.map vi).toArray:=rfl
  rw [e,List.getElem?_toArray,zW,hn]
  rfl
 have b6:(0:Int)<=(k:Int):=by omega
 have b5:(k:Int)<6:=by omega
 have aI:=aZ.out.turn al
 have ba:=hid aI
 have H5:=hid h5
 have HN:=hid (And.intro bi ap)
 have bS:n<=4:=ap
 clear bp hn bn aI h5 al bi ap
 go_wp2_with fail
 go_loopg [6] n (fun j v6 wr=>∃ (i:Nat) (vP:Value) (F:List Nat) (xs:List Value) (P:List (List Int)) (gs:List Nat) (aR:Nat),v6=.int .i64 j/\i+j=n/\Hid (P.length=i)/\Hid (CpSt [b] wA W H d cb wr vP F xs P gs)/\Hid (IsTp wr b A cap L aR)/\Hid (PlOk W H d P))
 case atStart=>exact ⟨0,_,[],[],[],[],a5,rfl,by omega,hid rfl,ba,H5,hid (by intro l hl;simp at hl)⟩
 case round =>
  obtain ⟨i,vP,F,xs,P,gs,aR,rfl,b4,aQ,HS,HT,a4⟩:=hrel
  rcases gk with _ | j
  ·obtain rfl:i=n:=by omega
   have t1:decide ((0:Int)<((0:Nat):Int))=false:=by simp
   have hs:=HS.out
   have aq:xs.length=i:=by rw [hs.pl.lx,aQ.out]
   rcases hs.own.cases with ⟨_,he,_⟩ | ⟨gP,ao,hF⟩
   ·exfalso
    rw [he] at aq
    simp at aq
    have:=HN.out
    omega
   have hr:=ao
   obtain ⟨ab,rfl,-,-,-,-⟩:=ao.open_
   rw [aq] at hr hs
   have b0:=hs.blk.cell 0
   have b1:=hs.blk.cell 1
   have b2:=hs.blk.cell 2
   have b3:=hs.blk.cell 3
   simp at b0 b1 b2 b3
   have ag:=aW.out.chg hs.chg (by simp;omega)
   have z0:=ag.frozen 0
   have z1:=ag.frozen 1
   have z2:=ag.frozen 2
   have z3:=ag.frozen 3
   have k0:=ag.cell 0
   have k1:=ag.cell 1
   have k2:=ag.cell 2
   have k3:=ag.cell 3
   simp at k0 k1 k2 k3
   have cd:rb≠cb:=by omega
   clear ao aj
   go_wp2_with fail
   obtain ⟨w9,aY⟩:=zX ((((wr.setCell ⟨rb,0,none⟩ (.int .i64 W)).setCell ⟨rb,1,none⟩ (.int .i64 H)).setCell ⟨rb,2,none⟩ (.int .i64 d)).setCell ⟨rb,3,none⟩ (.slice (some ⟨gP,0,none⟩) i ab))
   have aP:Blk w9 rb 25 #[.int .i64 W,.int .i64 H,.int .i64 d,.slice (some ⟨gP,0,none⟩) i ab]:=by
    rw [aY]
    have:=(((ag.set_ 0 (.int .i64 W)).set_ 1 (.int .i64 H)).set_ 2 (.int .i64 d)).set_ 3 (.slice (some ⟨gP,0,none⟩) i ab)
    simpa using this
   have aT:Chg [rb] wr w9:=by
    rw [aY]
    exact ((((zR [rb] wr).setCell (p:=⟨rb,0,none⟩) (.inl (by simp)) _).setCell (p:=⟨rb,1,none⟩) (.inl (by simp)) _).setCell (p:=⟨rb,2,none⟩) (.inl (by simp)) _).setCell (p:=⟨rb,3,none⟩) (.inl (by simp)) _
   have g0:=aP.cell 0
   have g1:=aP.cell 1
   have g2:=aP.cell 2
   have g3:=aP.cell 3
   simp at g0 g1 g2 g3
   rw [<-aY]
   refine bodyPost_ret (v:=.agg #[.int .i64 W,.int .i64 H,.int .i64 d,.slice (some ⟨gP,0,none⟩) i ab]) (by simp [results,Tryz.results20,go_sem,g0,g1,g2,g3]) rfl ?_
   have an:∀ x∈gP::gs,cb<=x:=by
    intro x hx
    have:=aN.out
    rcases zJ.1 hx with rfl | hx
    ·have:=hs.new x (by simp [hF]);omega
    ·have:=hs.new x (by simp [hx]);omega
   have ce:=HN.out
   have au:=aQ.out
   have bu:=bA.out
   have bC:=bl.out
   refine ⟨⟨W,H,d,P⟩,gP,ab,xs,gs,aR,by rw [<-au];rfl,bu.2,bC.2,⟨⟨bu.1,aA,bC.1,aG,bH,bw,?_,?_,fun l hl=>(a4.out l hl).1,fun l hl=>(a4.out l hl).2⟩,?_,hs.pl.chg aT ?_⟩,?_,?_,?_⟩
   ·show 1<=P.length
    omega
   ·show P.length<=4
    omega
   ·show Row w9 22 (.slice (some ⟨gP,0,none⟩) P.length ab) gP xs
    rw [au]
    refine hr.chg aT ?_
    intro hm
    have:=an gP (by simp)
    simp at hm
    omega
   ·intro x hx hm
    have:=an x (by simp [hx])
    simp at hm
    omega
   ·exact HT.out.same aT (by simp;omega) (Apt.fresh aa.out (by intro x hx;simp at hx;have:=av.out;omega))
   ·refine (bf.out.trans_same hs.chg).trans aT ?_
    intro x hx
    simp at hx
    have:=av.out
    exact .inr (by omega)
   ·intro x hx
    have:=an x hx
    have:=av.out
    omega
  ·have t1:decide ((0:Int)<((j+1:Nat):Int))=true:=zB (by omega)
   have ej:(((j+1:Nat):Int))-1=(j:Int):=by omega
   obtain ⟨jj,a6⟩:∃ jj:Int,jj=((j+1:Nat):Int):=⟨_,rfl⟩
   rw [<-a6] at t1 ej ⊢
   have bX:0<=jj/\jj<=4:=by omega
   obtain ⟨bY,ca⟩:=bX
   have hi:i<n:=by omega
   have aL:=HS.out.blk
   have y0:=aL.cell 0
   have y1:=aL.cell 1
   have y2:=aL.cell 2
   have y3:=aL.cell 3
   simp at y0 y1 y2 y3
   have aq:Hid (xs.length=i):=hid (by rw [HS.out.pl.lx,aQ.out])
   have au:=fun at2 w2 (ht:IsTp w2 b A cap L at2)=>plane_tp w2 b cap at2 W H d A L ht bA.out.1 aA bl.out.1 aG bH bw
   have bg:=hid au
   have b7:=hid a6
   clear au a6 aj aL
   go_wp2_with fail
   go_region_law (first | (refine step_append_o1 (by rfl) (by rfl) rows_el (by rfl) (by rfl) (ak.alloc (.cells #[.slice (some ⟨g5,0,none⟩) l5.length c5] 22)) (.slice (some ⟨g5,0,none⟩) l5.length c5) (by rfl) (by simp [go_sem]) (by rfl) (by rw [aq.out];omega) (by rw [aq.out];omega) ?_;intro g2 ai w6 bJ aU;have af:=(ae.alloc (.cells #[.slice (some ⟨g5,0,none⟩) l5.length c5] 22)).chg aU.chg HS.out.cF;have y6:=af.cell 3;have z6:=af.frozen 3;have bG:=af.cell 0;have bL:=af.cell 1;have bI:=af.cell 2;have bF:=(af.set_ 3 (.slice (some ⟨g2,0,none⟩) (xs.length+1) ai)).cell 0;have bz:=(af.set_ 3 (.slice (some ⟨g2,0,none⟩) (xs.length+1) ai)).cell 1;have bD:=(af.set_ 3 (.slice (some ⟨g2,0,none⟩) (xs.length+1) ai)).cell 2;simp at y6 bG bL bI bF bz bD) | (go_simp;go_at_call 57;refine (bg.out aR _ (HT.out.fresh ((zR [] wr).drew))).mono ?_;rintro e bN ⟨v5,g5,l5,bP,rfl,ad,aB,a0,ay,al,bm⟩;have a7:=hid aB;clear aB;have bv:=ad;obtain ⟨c5,rfl,-⟩:=ad.open_map;have bc:=(HS.out.same ((zR [] wr).drew)).turn al;have ak:=bc.own;have ae:=bc.blk;have y5:=ae.cell 3;have bq:=ae.cell 0;have bs:=ae.cell 1;have bK:=ae.cell 2;have n5:=(ae.alloc (.cells #[.slice (some ⟨g5,0,none⟩) l5.length c5] 22)).cell 3;have bj:=(ae.alloc (.cells #[.slice (some ⟨g5,0,none⟩) l5.length c5] 22)).cell 0;have bB:=(ae.alloc (.cells #[.slice (some ⟨g5,0,none⟩) l5.length c5] 22)).cell 1;have bo:=(ae.alloc (.cells #[.slice (some ⟨g5,0,none⟩) l5.length c5] 22)).cell 2;simp at y5 bq bs bK n5 bj bB bo))
   all_goals
    have br:=CpSt.next HS.out (((((zR [b] wr).drew).trans_same al).alloc (.cells #[.slice (some ⟨g5,0,none⟩) l5.length c5] 22))) (bv.alloc _) bm bJ aU
    have aF:Apt A L F:=Apt.fresh aa.out (fun x hx=>by have:=HS.out.new x (by simp [hx]);have:=ax.out;omega)
    have bh:b∉F:=fun hm=>by have:=HS.out.new b (by simp [hm]);have:=aN.out;omega
    have aK:=((ay.fresh ((zR [] bN).alloc (.cells #[.slice (some ⟨g5,0,none⟩) l5.length c5] 22))).same aU.chg bh aF).same ((zR [cb] w6).setCell (p:=⟨cb,3,none⟩) (.inl (by simp)) (.slice (some ⟨g2,0,none⟩) (xs.length+1) ai)) (by simp;omega) (Apt.fresh aa.out (by intro x hx;simp at hx;have:=aN.out;have:=ax.out;omega))
    have aM:PlOk W H d (P++[l5]):=fun l hl=>by
     rcases zP.1 hl with h | h
     ·exact a4.out l h
     ·simp at h
      subst h
      exact ⟨a7.out,a0⟩
    have bO:=hid br
    have bU:=hid aK
    have be:=hid aM
    clear br bJ aU af y6 z6 y5 n5 ae ak bc ad al ay aK aM aF bh bv bm bq bs bK bj bB bo bG bL bI bF bz bD
    go_wp2_with fail
    go_roundg j
    case measure=>omega
    case rel=>exact ⟨i+1,_,_,_,_,_,bP,rfl,by omega,hid (by rw [zC,aQ.out];rfl),bO,bU,be⟩
end Go.Proofs.YtklocammllljiaaGreatDoor
