/- package pic by its contracts: Copy. -/
import Derived.Test.YtijpbkakncglgaaGreatDoorMg20
import Derived.Test.YtijpbkakncglgaaGreatDoorMg42
import Derived.Deep.RegionLaw
import Derived.Deep.RegionHeld3
set_option linter.unusedVariables false
set_option linter.unusedSimpArgs false
set_option maxHeartbeats 2000000
set_option maxRecDepth 100000
namespace Go.Proofs.YtijpbkakncglgaaGreatDoor
open Go.RowKit
structure CpSt (E:List Nat) (w0:World) (W H d:Nat) (cb:Nat) (w:World) (vP:Value) (F:List Nat) (xs:List Value) (P:List (List Int)) (gs:List Nat):Prop where
 blk:Blk w cb 25 #[.int .i64 W,.int .i64 H,.int .i64 d,vP]
 own:Own w 22 vP F xs
 pl:PlRows w xs P gs
 cF:cb∉F
 cg:cb∉gs
 gF:∀ x∈gs,x∉F
 new:∀ x∈cb::(F++gs),w0.heap.size≤x
 old:∀ x∈E,x<w0.heap.size
 chg:Chg E w0 w
section
variable {E:List Nat} {w0 w w':World} {W H d cb:Nat} {vP:Value} {F:List Nat} {xs:List Value} {P:List (List Int)} {gs:List Nat}
theorem CpSt.turn (h:CpSt E w0 W H d cb w vP F xs P gs) (hc:Chg E w w'):CpSt E w0 W H d cb w' vP F xs P gs:=by
 have hd:∀ x∈cb::(F++gs),x∉E:=fun x hx hm=>by have:=h.new x hx;have:=h.old x hm;omega
 exact { h with blk:=h.blk.chg hc (hd cb (by simp)),own:=h.own.chg hc (fun x hx=>hd x (by simp [hx])),pl:=h.pl.chg hc (fun x hx=>hd x (by simp [hx])),chg:=h.chg.trans_same hc }
theorem CpSt.same (h:CpSt E w0 W H d cb w vP F xs P gs) (hc:Chg [] w w'):CpSt E w0 W H d cb w' vP F xs P gs:=h.turn (hc.mono (by simp))
theorem CpSt.next {wa wb:World} (h:CpSt E w0 W H d cb w vP F xs P gs) {u:Value} {g5:Nat} {l:List Int} (ca:Chg E w wa) (r:Row wa 3 u g5 (l.map vi)) (hg5:w.heap.size≤g5) {vP':Value} {g2:Nat}
  (r2:Row wb 22 vP' g2 (xs++[u])) (gr:Grow F [g2] wa wb):CpSt E w0 W H d cb (wb.setCell ⟨cb,3,none⟩ vP') vP' [g2] (xs++[u]) (P++[l]) (gs++[g5]):=by
 have ha:=h.turn ca
 have hcb:=ha.blk.lt
 have hg5F:g5∉F:=fun hm=>by have:=h.own.lt g5 hm;omega
 have h2c:g2≠cb:=fun e=>gr.out hcb h.cF (by rw [←e];simp)
 have hg2:∀ x∈gs,x≠g2:=fun x hx e=>gr.out (ha.pl.lt x hx) (h.gF x hx) (by rw [e];simp)
 have h52:g5≠g2:=fun e=>gr.out r.lt hg5F (by rw [e];simp)
 have h5c:g5≠cb:=fun e=>by have:=h.blk.lt;omega
 have h5g:g5∉gs:=fun hm=>by have:=h.pl.lt g5 hm;omega
 have hc0:Chg [cb] wb (wb.setCell ⟨cb,3,none⟩ vP'):=(Chg.refl [cb] wb).setCell (p:=⟨cb,3,none⟩) (.inl (by simp)) vP'
 have hn:∀ x∈F,w0.heap.size≤x:=fun x hx=>h.new x (by simp [hx])
 refine ⟨?_,?_,?_,by simpa using h2c.symm,?_,?_,?_,h.old,?_⟩
 ·have:=(ha.blk.chg gr.chg h.cF).set_ 3 vP'
  simpa using this
 ·exact (r2.far (p:=⟨cb,3,none⟩) h2c vP').toOwn
 ·refine ((ha.pl.chg gr.chg h.gF).snoc (r.chg gr.chg hg5F) h5g).chg hc0 ?_
  intro x hx hm
  simp at hm
  subst hm
  rcases List.mem_append.1 hx with hx | hx
  ·exact h.cg hx
  ·simp at hx;exact h5c hx.symm
 ·intro hm
  rcases List.mem_append.1 hm with hx | hx
  ·exact h.cg hx
  ·simp at hx;exact h5c hx.symm
 ·intro x hx hm
  simp at hm
  rcases List.mem_append.1 hx with hx | hx
  ·exact hg2 x hx hm
  ·simp at hx;exact h52 (hx.symm.trans hm)
 ·intro x hx
  have hs:=h.chg.size
  have hs2:=ca.size
  simp only [List.mem_cons,List.mem_append,List.not_mem_nil,or_false] at hx
  rcases hx with rfl | rfl | hx | rfl
  ·exact h.new x (by simp)
  ·rcases gr.new x (by simp) with h1 | h1
   ·exact hn x h1
   ·omega
  ·exact h.new x (by simp [hx])
  ·omega
 ·exact ((h.chg.trans_same ca).trans gr.chg fun x hx => .inr (hn x hx)).setCell (.inr (h.new cb (by simp))) vP'
end
theorem copy_ok {w:World} {p:PicD} {g o:Nat} {B:Nat→Option Addr} {c:Nat→Nat} {G:List Nat} (cap:Nat) (h:PicAt w p g o B c G) :
  Calls Tryz.prog 35 #[picV p g o cap] w fun e w'=>∃ (gP capP:Nat) (xs:List Value) (gs:List Nat),e=.returned (picV p gP 0 capP)∧PicOwn w' p gP capP xs gs∧Chg [] w w'∧∀ x∈gP::gs,w.heap.size≤x:=by
 have hok:=h.ok
 unfold picV
 obtain ⟨W,hW⟩:∃ W,W=p.W:=⟨_,rfl⟩
 obtain ⟨H,hH⟩:∃ H,H=p.H:=⟨_,rfl⟩
 obtain ⟨d,hd⟩:∃ d,d=p.d:=⟨_,rfl⟩
 obtain ⟨n,hn⟩:∃ n,n=p.P.length:=⟨_,rfl⟩
 obtain ⟨N,hN⟩:∃ N,N=W*H:=⟨_,rfl⟩
 rw [←hW,←hH,←hd,←hn]
 have hn4:n≤4:=by rw [hn];exact hok.n1
 have hn0:1≤n:=by rw [hn];exact hok.n0
 have hcl:∀ w',Chg [] w w'→∀ i,i<n→∃ b q,w'.cell? ⟨g,o+i,none⟩=some (.slice (some ⟨b,q,none⟩) N (c i))∧∀ w1,Chg [] w w1→Calls Tryz.prog 59 #[.slice (some ⟨b,q,none⟩) N (c i)] w1 fun e w2=>∃ g5 c5,e=.returned (.slice (some ⟨g5,0,none⟩) N c5)∧Row w2 3 (.slice (some ⟨g5,0,none⟩) N c5) g5 ((p.P.getD i []).map vi)∧Chg [] w1 w2∧w1.heap.size≤g5:=by
  intro w' hc i hi
  rw [hn] at hi
  obtain ⟨b,q,e,hb,hk⟩:=h.at_ hi
  have hce:=(h.same hc).cell i hi
  rw [e,←hW,←hH,←hN] at hce
  refine ⟨b,q,hce,fun w1 hc1 => ?_⟩
  have hl:=h.len hi
  have hcells:=(h.same hc1).cells i hi
  rw [e] at hcells
  have hcl:=clone_i_ok w1 (some ⟨b,q,none⟩) (c i) _ hcells (by rw [hl];exact hok.pos) (by rw [hl];have:=hok.area;omega)
  rw [hl,←hW,←hH,←hN] at hcl
  refine hcl.mono ?_
  rintro e w2 ⟨v,g5,rfl,hrow,ch,hg5⟩
  have hr:=hrow
  obtain ⟨c5,rfl,_⟩:=hrow.open_map
  rw [hl,←hW,←hH,←hN] at hr ⊢
  exact ⟨g5,c5,rfl,hr,ch,hg5⟩
 obtain ⟨wA,hwA⟩:∃ wA,wA=((w.alloc (.cells #[.int .i64 W,.int .i64 H,.int .i64 d,.slice (some ⟨g,o,none⟩) n cap] 25)).alloc (.cells #[.int .i64 0,.int .i64 0,.int .i64 0,.slice none 0 0] 25)):=⟨_,rfl⟩
 have chA:Chg [] w wA:=by rw [hwA];exact ((Chg.refl [] w).alloc _).alloc _
 obtain ⟨w1,hw1⟩:∃ w1,w1=wA.alloc (.cells #[.int .i64 W,.int .i64 H,.int .i64 d,.slice none 0 0] 25):=⟨_,rfl⟩
 obtain ⟨rb,hrb⟩:∃ rb,rb=w.heap.size+1:=⟨_,rfl⟩
 obtain ⟨cb,hcb⟩:∃ cb,cb=rb+1:=⟨_,rfl⟩
 have hszA:wA.heap.size=cb:=by rw [hwA,alloc_size,alloc_size,hcb,hrb]
 have hst:CpSt [] wA W H d cb w1 (.slice none 0 0) [] [] [] []:=by
  refine ⟨by rw [hw1,←hszA];exact Blk.new wA _ _,Own.nil _ _,PlRows.nil _,by simp,by simp,by simp,?_,by simp,by rw [hw1];exact (Chg.refl [] wA).alloc _⟩
  intro x hx
  simp at hx
  omega
 have hrbk:Blk wA rb 25 #[.int .i64 0,.int .i64 0,.int .i64 0,.slice none 0 0]:=by rw [hwA,hrb];exact Blk.new2 w _ _ _
 rw [hwA] at hw1
 have HP:Hid (p.P.length=n):=hid hn.symm
 have HEQ:Hid (p=⟨W,H,d,p.P⟩):=hid (by rw [hW,hH,hd])
 have HOK:=hid hok
 have HW1:=hid hw1
 have HRB:=hid hrb
 have HCB:=hid hcb
 have HRK:=hid hrbk
 have HST:=hid hst
 have HCA:=hid chA
 have HSA:=hid hszA
 have HCL:=hid hcl
 have hne:rb≠cb:=by omega
 clear hW hH hd hn hN hok hw1 chA hcl h hst hrbk hwA hrb hcb hszA
 go_enter Tryz.func35,Tryz.ntmps35
 go_wp2_with fail
 rw [←HW1.out,←HRB.out,←HCB.out]
 go_loopg [5,16] n (fun j v5 v16 wr=>∃ (i:Nat) (vP:Value) (F:List Nat) (xs:List Value) (gs:List Nat),v16=.int .i64 i∧i+j=n∧Hid (CpSt [] wA W H d cb wr vP F xs (p.P.take i) gs))
 case atStart=>exact ⟨0,_,[],[],[],rfl,by omega,hid (by simpa using HST.out)⟩
 case round =>
  obtain ⟨i,vP,F,xs,gs,rfl,hij,HS⟩:=hrel
  rcases gk with _ | j
  ·obtain rfl:i=n:=by omega
   have t1:decide (i<i)=false:=by simp
   have hpe:p.P.take i=p.P:=List.take_of_length_le (by rw [HP.out];exact Nat.le_refl _)
   have hs:=HS.out
   rw [hpe] at hs
   have hxl:xs.length=i:=by rw [hs.pl.lx,HP.out]
   rcases hs.own.cases with ⟨_,he,_⟩ | ⟨gP,hrow,hF⟩
   ·exfalso
    rw [he] at hxl
    simp at hxl
    omega
   have hr:=hrow
   obtain ⟨capP,rfl,hcl1,hcl2,-,-⟩:=hrow.open_
   rw [hxl] at hr hs
   have b0:=hs.blk.cell 0
   have b1:=hs.blk.cell 1
   have b2:=hs.blk.cell 2
   have b3:=hs.blk.cell 3
   simp at b0 b1 b2 b3
   have hrk:=HRK.out.chg hs.chg (by simp)
   have z0:=hrk.frozen 0
   have z1:=hrk.frozen 1
   have z2:=hrk.frozen 2
   have z3:=hrk.frozen 3
   have k0:=hrk.cell 0
   have k1:=hrk.cell 1
   have k2:=hrk.cell 2
   have k3:=hrk.cell 3
   simp at k0 k1 k2 k3
   clear hrow hcl1 hcl2 hpe
   go_wp2_with fail
   obtain ⟨w9,hw9⟩:∃ w9,w9=(((wr.setCell ⟨rb,0,none⟩ (.int .i64 W)).setCell ⟨rb,1,none⟩ (.int .i64 H)).setCell ⟨rb,2,none⟩ (.int .i64 d)).setCell ⟨rb,3,none⟩ (.slice (some ⟨gP,0,none⟩) i capP):=⟨_,rfl⟩
   have hk9:Blk w9 rb 25 #[.int .i64 W,.int .i64 H,.int .i64 d,.slice (some ⟨gP,0,none⟩) i capP]:=by
    rw [hw9]
    have:=(((hrk.set_ 0 (.int .i64 W)).set_ 1 (.int .i64 H)).set_ 2 (.int .i64 d)).set_ 3 (.slice (some ⟨gP,0,none⟩) i capP)
    simpa using this
   have ch9:Chg [rb] wr w9:=by
    rw [hw9]
    exact ((((Chg.refl [rb] wr).setCell (p:=⟨rb,0,none⟩) (.inl (by simp)) _).setCell (p:=⟨rb,1,none⟩) (.inl (by simp)) _).setCell (p:=⟨rb,2,none⟩) (.inl (by simp)) _).setCell (p:=⟨rb,3,none⟩) (.inl (by simp)) _
   have g0:=hk9.cell 0
   have g1:=hk9.cell 1
   have g2:=hk9.cell 2
   have g3:=hk9.cell 3
   simp at g0 g1 g2 g3
   rw [←hw9]
   refine bodyPost_ret (v:=.agg #[.int .i64 W,.int .i64 H,.int .i64 d,.slice (some ⟨gP,0,none⟩) i capP]) (by simp [results,Tryz.results35,go_sem,g0,g1,g2,g3]) rfl ?_
   have hbig:∀ x∈gP::gs,rb<x:=by
    intro x hx
    have:=HSA.out
    have:=HCB.out
    rcases List.mem_cons.1 hx with rfl | hx
    ·have:=hs.new x (by simp [hF]);omega
    ·have:=hs.new x (by simp [hx]);omega
   refine ⟨gP,capP,xs,gs,rfl,⟨HOK.out,?_,hs.pl.chg ch9 ?_⟩,?_,?_⟩
   ·rw [HP.out]
    refine hr.chg ch9 ?_
    intro hm
    have:=hbig gP (by simp)
    simp at hm
    omega
   ·intro x hx hm
    have:=hbig x (by simp [hx])
    simp at hm
    omega
   ·refine (HCA.out.trans_same hs.chg).trans ch9 ?_
    intro x hx
    simp at hx
    have:=HRB.out
    exact .inr (by omega)
   ·intro x hx
    have:=hbig x hx
    have:=HRB.out
    omega
  ·have hi:i<n:=by omega
   obtain ⟨b,q,hce,hk⟩:=HCL.out wr (HCA.out.trans_same HS.out.chg) i hi
   have hpn:i<p.P.length:=by rw [HP.out];exact hi
   have htk:Hid (p.P.take (i+1)=p.P.take i++[p.P.getD i []]):=hid (by
    rw [List.take_succ_eq_append_getElem hpn,zD,zF hpn]
    rfl)
   have hxl:Hid (xs.length=i):=hid (by rw [HS.out.pl.lx,List.length_take];omega)
   have y0:=HS.out.blk.cell 3
   simp at y0
   have HK:=hid hk
   have hcb0:=HS.out.blk
   have HI:=hid hi
   obtain ⟨l,hl⟩:∃ l,l=p.P.getD i []:=⟨_,rfl⟩
   rw [←hl] at htk hk
   have HK:=hid hk
   clear hk hpn hl
   go_wp2_with fail
   go_region_law (first | (refine step_append_o1 (by rfl) (by rfl) rows_el (by rfl) (by rfl) (hown5.alloc (.cells #[.slice (some ⟨g5,0,none⟩) N c5] 22)) (.slice (some ⟨g5,0,none⟩) N c5) (by rfl) (by simp [go_sem]) (by rfl) (by rw [hxl.out];omega) (by rw [hxl.out];omega) ?_;intro g2 cap2 w6 hr2 gr2;have hb6:=(hb5.alloc (.cells #[.slice (some ⟨g5,0,none⟩) N c5] 22)).chg gr2.chg HS.out.cF;have y6:=hb6.cell 3;have z6:=hb6.frozen 3;simp at y6) | (go_simp;go_at_call 59;refine (HK.out _ ((HCA.out.trans_same HS.out.chg).drew)).mono ?_;rintro e w5 ⟨g5,c5,rfl,hrow5,ch5,hg5⟩;have hs5:=(HS.out.same ((Chg.refl [] wr).drew)).same ch5;have hown5:=hs5.own;have hb5:=hs5.blk;have y5:=hb5.cell 3;have n5:=(hb5.alloc (.cells #[.slice (some ⟨g5,0,none⟩) N c5] 22)).cell 3;simp at y5 n5))
   all_goals
    have hnx:=CpSt.next HS.out ((((Chg.refl [] wr).drew).trans_same ch5).alloc (.cells #[.slice (some ⟨g5,0,none⟩) N c5] 22)) (hrow5.alloc _) hg5 hr2 gr2
    rw [←htk.out] at hnx
    have HNX:=hid hnx
    clear hnx hr2 gr2 hb6 y6 z6 y5 n5 hb5 hown5 hs5 hrow5 ch5
    go_wp2_with fail
    go_roundg j
    case measure=>omega
    case rel=>exact ⟨i+1,_,_,_,_,by go_num,by omega,HNX⟩
end Go.Proofs.YtijpbkakncglgaaGreatDoor
