/- kinorakeep2.Tape.Pic by its contract. -/
import Derived.Test.YtijpbkakncglgaaGreatDoorMg45
import Derived.Test.YtijpbkakncglgaaGreatDoorMg38
set_option linter.unusedVariables false
set_option linter.unusedSimpArgs false
set_option maxHeartbeats 4000000
set_option maxRecDepth 100000
namespace Go.Proofs.YtijpbkakncglgaaGreatDoor
open Go.RowKit
def planesL:List Int:=[3,1,3,4,2,3]
theorem planesL_ok (k:Nat) (h:k<6):∃ n:Nat,planesL[k]?=some (n:Int)∧1≤n∧n≤4:=by
 rcases (by omega:k=0∨k=1∨k=2∨k=3∨k=4∨k=5) with rfl | rfl | rfl | rfl | rfl | rfl
 ·exact ⟨3,rfl,by omega,by omega⟩
 ·exact ⟨1,rfl,by omega,by omega⟩
 ·exact ⟨3,rfl,by omega,by omega⟩
 ·exact ⟨4,rfl,by omega,by omega⟩
 ·exact ⟨2,rfl,by omega,by omega⟩
 ·exact ⟨3,rfl,by omega,by omega⟩
def PlOk (W H d:Nat) (P:List (List Int)):Prop:=∀ l∈P,l.length=W*H∧SmpOk d l
def TapePicPost (w:World) (b cap:Nat) (A:Option Addr) (L:List Int) (side:Nat) (e:Ending) (w':World):Prop :=
 ∃ (p:PicD) (gP capP:Nat) (xs:List Value) (gs:List Nat) (at':Nat),e=.returned (picV p gP 0 capP)∧p.W≤side∧p.H≤side∧PicOwn w' p gP capP xs gs∧IsTp w' b A cap L at'∧Chg [b] w w'∧∀ x∈gP::gs,w.heap.size≤x
theorem pic_tp (w:World) (b cap at_ side:Nat) (A:Option Addr) (L:List Int) (h:IsTp w b A cap L at_) (hs0:1≤side) (hs1:side≤64) :
  Calls Tryz.prog 14 #[.pointer (some ⟨b,0,none⟩),.int .i64 side] w (TapePicPost w b cap A L side):=by
 unfold TapePicPost
 obtain ⟨wZ,hwZ⟩:∃ wZ,wZ=w.alloc (.cells #[.int .i64 0,.int .i64 0,.int .i64 0,.slice none 0 0] 25):=⟨_,rfl⟩
 have chZ:Chg [] w wZ:=by rw [hwZ];exact (Chg.refl [] w).alloc _
 obtain ⟨rb,hrb⟩:∃ rb,rb=w.heap.size:=⟨_,rfl⟩
 have hbr:b<rb:=by rw [hrb];exact h.blk.lt
 have hrbk:Blk wZ rb 25 #[.int .i64 0,.int .i64 0,.int .i64 0,.slice none 0 0]:=by rw [hwZ,hrb];exact Blk.new w _ _
 have hn1:=next_tp wZ b cap at_ side A L (h.fresh chZ) hs0 (by omega)
 have hcells:=h.cells
 have HCELLS:=hid hcells
 have HWZ:=hid hwZ
 have HRB:=hid hrb
 have HRK:=hid hrbk
 have HCZ:=hid chZ
 have hrbl:=hrbk.lt
 have HRBL:=hid hrbl
 clear hwZ hrb hrbk chZ h hcells hrbl
 go_enter Tryz.func14,Tryz.ntmps14
 go_wp2_with fail
 rw [←HWZ.out,←HRB.out]
 refine hn1.mono ?_
 rintro e w1 ⟨W0,a1,rfl,hW0,h1,ch1⟩
 have hn2:=next_tp w1 b cap a1 side A L h1 hs0 (by omega)
 obtain ⟨W,hW⟩:∃ W,W=W0+1:=⟨_,rfl⟩
 have eW:(1:Int)+(W0:Int)=(W:Int):=by omega
 have HWB:=hid (show 1≤W∧W≤side by omega)
 have hW64:W≤64:=by omega
 clear hn1 h1 hW
 go_wp2_with fail
 refine hn2.mono ?_
 rintro e w2 ⟨H0,a2,rfl,hH0,h2,ch2⟩
 have hn3:=depth_tp w2 b cap a2 A L h2
 obtain ⟨H,hH⟩:∃ H,H=H0+1:=⟨_,rfl⟩
 have eH:(1:Int)+(H0:Int)=(H:Int):=by omega
 have HHB:=hid (show 1≤H∧H≤side by omega)
 have hH64:H≤64:=by omega
 clear hn2 h2 hH
 go_wp2_with fail
 refine hn3.mono ?_
 rintro e wA ⟨d,a3,rfl,hd0,hd1,h3,ch3⟩
 have hchA:Chg [b] w wA:=(((HCZ.out.mono (by simp)).trans_same ch1).trans_same ch2).trans_same ch3
 have hchZ:Chg [b] wZ wA:=(ch1.trans_same ch2).trans_same ch3
 have hrkA:Blk wA rb 25 #[.int .i64 0,.int .i64 0,.int .i64 0,.slice none 0 0]:=HRK.out.chg hchZ (by simp;omega)
 have hszA:w.heap.size<wA.heap.size:=by have:=hrkA.lt;have:=HRB.out;omega
 obtain ⟨cb,hcb⟩:∃ cb,cb=wA.heap.size:=⟨_,rfl⟩
 obtain ⟨w4,hw4⟩:∃ w4,w4=(wA.alloc (.cells #[.int .i64 W,.int .i64 H,.int .i64 d,.slice none 0 0] 25)).alloc (.cells #[.int .i64 3,.int .i64 1,.int .i64 3,.int .i64 4,.int .i64 2,.int .i64 3] 3):=⟨_,rfl⟩
 have ch4:Chg [] wA w4:=by rw [hw4];exact ((Chg.refl [] wA).alloc _).alloc _
 have hst4:CpSt [b] wA W H d cb w4 (.slice none 0 0) [] [] [] []:=by
  refine ⟨by rw [hw4,hcb];exact (Blk.new wA _ _).alloc _,Own.nil _ _,PlRows.nil _,by simp,by simp,by simp,?_,?_,ch4.mono (by simp)⟩
  ·intro x hx;simp at hx;omega
  ·intro x hx;simp at hx;have:=h3.blk.lt;omega
 have hint:Blk w4 (cb+1) 3 #[.int .i64 3,.int .i64 1,.int .i64 3,.int .i64 4,.int .i64 2,.int .i64 3]:=by rw [hw4,hcb];exact Blk.new2 wA _ _ _
 have hn4:=next_tp w4 b cap a3 6 A L (h3.fresh ch4) (by omega) (by omega)
 have hbcb:b<cb:=by rw [hcb];exact h3.blk.lt
 have HW4:=hid hw4
 have HCB:=hid hcb
 have HST4:=hid hst4
 have HINT:=hid hint
 have HCHA:=hid hchA
 have HRKA:=hid hrkA
 have HSZA:=hid hszA
 have hrbcb:rb<cb:=by rw [hcb];exact hrkA.lt
 clear hn3 h3 ch1 ch2 ch3 hchA hchZ hrkA hszA hcb hw4 ch4 hst4 hint
 go_wp2_with fail
 rw [←HW4.out,←HCB.out]
 refine hn4.mono ?_
 rintro e w5 ⟨k,a5,rfl,hk,h5,ch5⟩
 obtain ⟨n,hn,hn0,hn1⟩:=planesL_ok k hk
 have hi5:=HINT.out.chg ch5 (by simp;omega)
 have hcell:w5.cell? ⟨cb+1,k,none⟩=some (.int .i64 n):=by
  rw [hi5.cell k]
  have e:(#[Value.int .i64 3,.int .i64 1,.int .i64 3,.int .i64 4,.int .i64 2,.int .i64 3]:Array Value)=(planesL.map vi).toArray:=rfl
  rw [e,List.getElem?_toArray,List.getElem?_map,hn]
  rfl
 have hk0:(0:Int)≤(k:Int):=by omega
 have hk1:(k:Int)<6:=by omega
 have hst5:=HST4.out.turn ch5
 have HST5:=hid hst5
 have H5:=hid h5
 have HN:=hid (And.intro hn0 hn1)
 have hn41:n≤4:=hn1
 clear hn4 hn hi5 hst5 h5 ch5 hn0 hn1
 go_wp2_with fail
 go_loopg [6] n (fun j v6 wr=>∃ (i:Nat) (vP:Value) (F:List Nat) (xs:List Value) (P:List (List Int)) (gs:List Nat) (at':Nat),v6=.int .i64 j∧i+j=n∧Hid (P.length=i)∧Hid (CpSt [b] wA W H d cb wr vP F xs P gs)∧Hid (IsTp wr b A cap L at')∧Hid (PlOk W H d P))
 case atStart=>exact ⟨0,_,[],[],[],[],a5,rfl,by omega,hid rfl,HST5,H5,hid (by intro l hl;simp at hl)⟩
 case round =>
  obtain ⟨i,vP,F,xs,P,gs,at',rfl,hij,HPL,HS,HT,HOK⟩:=hrel
  rcases gk with _ | j
  ·obtain rfl:i=n:=by omega
   have t1:decide ((0:Int)<((0:Nat):Int))=false:=by simp
   have hs:=HS.out
   have hxl:xs.length=i:=by rw [hs.pl.lx,HPL.out]
   rcases hs.own.cases with ⟨_,he,_⟩ | ⟨gP,hrow,hF⟩
   ·exfalso
    rw [he] at hxl
    simp at hxl
    have:=HN.out
    omega
   have hr:=hrow
   obtain ⟨capP,rfl,-,-,-,-⟩:=hrow.open_
   rw [hxl] at hr hs
   have b0:=hs.blk.cell 0
   have b1:=hs.blk.cell 1
   have b2:=hs.blk.cell 2
   have b3:=hs.blk.cell 3
   simp at b0 b1 b2 b3
   have hrk:=HRKA.out.chg hs.chg (by simp;omega)
   have z0:=hrk.frozen 0
   have z1:=hrk.frozen 1
   have z2:=hrk.frozen 2
   have z3:=hrk.frozen 3
   have k0:=hrk.cell 0
   have k1:=hrk.cell 1
   have k2:=hrk.cell 2
   have k3:=hrk.cell 3
   simp at k0 k1 k2 k3
   have hne:rb≠cb:=by omega
   clear hrow hcell
   go_wp2_with fail
   obtain ⟨w9,hw9⟩:∃ w9,w9=(((wr.setCell ⟨rb,0,none⟩ (.int .i64 W)).setCell ⟨rb,1,none⟩ (.int .i64 H)).setCell ⟨rb,2,none⟩ (.int .i64 d)).setCell ⟨rb,3,none⟩ (.slice (some ⟨gP,0,none⟩) i capP):=⟨_,rfl⟩
   have hk9:Blk w9 rb 25 #[.int .i64 W,.int .i64 H,.int .i64 d,.slice (some ⟨gP,0,none⟩) i capP]:=by
    rw [hw9]
    have:=(((hrk.set_ 0 (.int .i64 W)).set_ 1 (.int .i64 H)).set_ 2 (.int .i64 d)).set_ 3 (.slice (some ⟨gP,0,none⟩) i capP)
    simpa using this
   have ch9:Chg [rb] wr w9:=by
    rw [hw9]
    exact ((((Chg.refl [rb] wr).setCell (p:=⟨rb,0,none⟩) (.inl (by simp)) _).setCell (p:=⟨rb,1,none⟩) (.inl (by simp)) _).setCell (p:=⟨rb,2,none⟩) (.inl (by simp)) _).setCell (p:=⟨rb,3,none⟩) (.inl (by simp)) _
   have g0:=hk9.cell 0
   have g1:=hk9.cell 1
   have g2:=hk9.cell 2
   have g3:=hk9.cell 3
   simp at g0 g1 g2 g3
   rw [←hw9]
   refine bodyPost_ret (v:=.agg #[.int .i64 W,.int .i64 H,.int .i64 d,.slice (some ⟨gP,0,none⟩) i capP]) (by simp [results,Tryz.results14,go_sem,g0,g1,g2,g3]) rfl ?_
   have hbig:∀ x∈gP::gs,cb≤x:=by
    intro x hx
    have:=HCB.out
    rcases List.mem_cons.1 hx with rfl | hx
    ·have:=hs.new x (by simp [hF]);omega
    ·have:=hs.new x (by simp [hx]);omega
   have hpn:=HN.out
   have hpl:=HPL.out
   have hwb:=HWB.out
   have hhb:=HHB.out
   refine ⟨⟨W,H,d,P⟩,gP,capP,xs,gs,at',by rw [←hpl];rfl,hwb.2,hhb.2,⟨⟨hwb.1,hW64,hhb.1,hH64,hd0,hd1,?_,?_,fun l hl=>(HOK.out l hl).1,fun l hl=>(HOK.out l hl).2⟩,?_,hs.pl.chg ch9 ?_⟩,?_,?_,?_⟩
   ·show 1≤P.length
    omega
   ·show P.length≤4
    omega
   ·show Row w9 22 (.slice (some ⟨gP,0,none⟩) P.length capP) gP xs
    rw [hpl]
    refine hr.chg ch9 ?_
    intro hm
    have:=hbig gP (by simp)
    simp at hm
    omega
   ·intro x hx hm
    have:=hbig x (by simp [hx])
    simp at hm
    omega
   ·exact HT.out.same ch9 (by simp;omega) (Apt.fresh HCELLS.out (by intro x hx;simp at hx;have:=HRB.out;omega))
   ·refine (HCHA.out.trans_same hs.chg).trans ch9 ?_
    intro x hx
    simp at hx
    have:=HRB.out
    exact .inr (by omega)
   ·intro x hx
    have:=hbig x hx
    have:=HRB.out
    omega
  ·have t1:decide ((0:Int)<((j+1:Nat):Int))=true:=zB (by omega)
   have ej:(((j+1:Nat):Int))-1=(j:Int):=by omega
   obtain ⟨jj,hjj⟩:∃ jj:Int,jj=((j+1:Nat):Int):=⟨_,rfl⟩
   rw [←hjj] at t1 ej ⊢
   have hjb:0≤jj∧jj≤4:=by omega
   obtain ⟨hj0,hj4⟩:=hjb
   have hi:i<n:=by omega
   have hbk:=HS.out.blk
   have y0:=hbk.cell 0
   have y1:=hbk.cell 1
   have y2:=hbk.cell 2
   have y3:=hbk.cell 3
   simp at y0 y1 y2 y3
   have hxl:Hid (xs.length=i):=hid (by rw [HS.out.pl.lx,HPL.out])
   have hpl:=fun at2 w2 (ht:IsTp w2 b A cap L at2)=>plane_tp w2 b cap at2 W H d A L ht HWB.out.1 hW64 HHB.out.1 hH64 hd0 hd1
   have HPLN:=hid hpl
   have HJJ:=hid hjj
   clear hpl hjj hcell hbk
   go_wp2_with fail
   go_region_law (first | (refine step_append_o1 (by rfl) (by rfl) rows_el (by rfl) (by rfl) (hown5.alloc (.cells #[.slice (some ⟨g5,0,none⟩) l5.length c5] 22)) (.slice (some ⟨g5,0,none⟩) l5.length c5) (by rfl) (by simp [go_sem]) (by rfl) (by rw [hxl.out];omega) (by rw [hxl.out];omega) ?_;intro g2 cap2 w6 hr2 gr2;have hb6:=(hb5.alloc (.cells #[.slice (some ⟨g5,0,none⟩) l5.length c5] 22)).chg gr2.chg HS.out.cF;have y6:=hb6.cell 3;have z6:=hb6.frozen 3;have u6a:=hb6.cell 0;have u6b:=hb6.cell 1;have u6c:=hb6.cell 2;have t6a:=(hb6.set_ 3 (.slice (some ⟨g2,0,none⟩) (xs.length+1) cap2)).cell 0;have t6b:=(hb6.set_ 3 (.slice (some ⟨g2,0,none⟩) (xs.length+1) cap2)).cell 1;have t6c:=(hb6.set_ 3 (.slice (some ⟨g2,0,none⟩) (xs.length+1) cap2)).cell 2;simp at y6 u6a u6b u6c t6a t6b t6c) | (go_simp;go_at_call 41;refine (HPLN.out at' _ (HT.out.fresh ((Chg.refl [] wr).drew))).mono ?_;rintro e w5' ⟨v5,g5,l5,at5,rfl,hrow5,hll5,hsm5,htp5,ch5,hg5⟩;have HLL5:=hid hll5;clear hll5;have hr5:=hrow5;obtain ⟨c5,rfl,-⟩:=hrow5.open_map;have hs5:=(HS.out.same ((Chg.refl [] wr).drew)).turn ch5;have hown5:=hs5.own;have hb5:=hs5.blk;have y5:=hb5.cell 3;have y5a:=hb5.cell 0;have y5b:=hb5.cell 1;have y5c:=hb5.cell 2;have n5:=(hb5.alloc (.cells #[.slice (some ⟨g5,0,none⟩) l5.length c5] 22)).cell 3;have n5a:=(hb5.alloc (.cells #[.slice (some ⟨g5,0,none⟩) l5.length c5] 22)).cell 0;have n5b:=(hb5.alloc (.cells #[.slice (some ⟨g5,0,none⟩) l5.length c5] 22)).cell 1;have n5c:=(hb5.alloc (.cells #[.slice (some ⟨g5,0,none⟩) l5.length c5] 22)).cell 2;simp at y5 y5a y5b y5c n5 n5a n5b n5c))
   all_goals
    have hnx:=CpSt.next HS.out (((((Chg.refl [b] wr).drew).trans_same ch5).alloc (.cells #[.slice (some ⟨g5,0,none⟩) l5.length c5] 22))) (hr5.alloc _) hg5 hr2 gr2
    have hapF:Apt A L F:=Apt.fresh HCELLS.out (fun x hx=>by have:=HS.out.new x (by simp [hx]);have:=HSZA.out;omega)
    have hbF:b∉F:=fun hm=>by have:=HS.out.new b (by simp [hm]);have:=HCB.out;omega
    have htp6:=((htp5.fresh ((Chg.refl [] w5').alloc (.cells #[.slice (some ⟨g5,0,none⟩) l5.length c5] 22))).same gr2.chg hbF hapF).same ((Chg.refl [cb] w6).setCell (p:=⟨cb,3,none⟩) (.inl (by simp)) (.slice (some ⟨g2,0,none⟩) (xs.length+1) cap2)) (by simp;omega) (Apt.fresh HCELLS.out (by intro x hx;simp at hx;have:=HCB.out;have:=HSZA.out;omega))
    have hok6:PlOk W H d (P++[l5]):=fun l hl=>by
     rcases List.mem_append.1 hl with h | h
     ·exact HOK.out l h
     ·simp at h
      subst h
      exact ⟨HLL5.out,hsm5⟩
    have HNX:=hid hnx
    have HT6:=hid htp6
    have HOK6:=hid hok6
    clear hnx hr2 gr2 hb6 y6 z6 y5 n5 hb5 hown5 hs5 hrow5 ch5 htp5 htp6 hok6 hapF hbF hr5 hg5 y5a y5b y5c n5a n5b n5c u6a u6b u6c t6a t6b t6c
    go_wp2_with fail
    go_roundg j
    case measure=>omega
    case rel=>exact ⟨i+1,_,_,_,_,_,at5,rfl,by omega,hid (by rw [zC,HPL.out];rfl),HNX,HT6,HOK6⟩
end Go.Proofs.YtijpbkakncglgaaGreatDoor
