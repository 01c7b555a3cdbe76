/- package pic by its contracts: Copy. -/
import Derived.Test.YtklocammllljiaaGreatDoorMg20
import Derived.Test.YtklocammllljiaaGreatDoorMg31
import Derived.Deep.RegionLaw
import Derived.Deep.RegionHeld3
set_option linter.unusedVariables false
set_option linter.unusedSimpArgs false
set_option maxHeartbeats 2000000
set_option maxRecDepth 100000
namespace Go.Proofs.YtklocammllljiaaGreatDoor
open Go.RowKit
structure CpSt (E:List Nat) (w0:World) (W H d:Nat) (cb:Nat) (w:World) (vP:Value) (F:List Nat) (xs:List Value) (P:List (List Int)) (gs:List Nat):Prop where
 blk:Blk w cb 25 #[.int .i64 W,.int .i64 H,.int .i64 d,vP]
 own:Own w 22 vP F xs
 pl:PlRows w xs P gs
 cF:cb∉F
 cg:cb∉gs
 gF:∀ x∈gs,x∉F
 new:∀ x∈cb::(F++gs),w0.heap.size<=x
 old:∀ x∈E,x<w0.heap.size
 chg:Chg E w0 w
section
variable {E:List Nat} {w0 w w':World} {W H d cb:Nat} {vP:Value} {F:List Nat} {xs:List Value} {P:List (List Int)} {gs:List Nat}
theorem CpSt.turn (h:CpSt E w0 W H d cb w vP F xs P gs) (hc:Chg E w w'):CpSt E w0 W H d cb w' vP F xs P gs:=by
 have hd:∀ x∈cb::(F++gs),x∉E:=fun x hx hm=>by have:=h.new x hx;have:=h.old x hm;omega
 exact { h with blk:=h.blk.chg hc (hd cb (by simp)),own:=h.own.chg hc (fun x hx=>hd x (by simp [hx])),pl:=h.pl.chg hc (fun x hx=>hd x (by simp [hx])),chg:=h.chg.trans_same hc }
theorem CpSt.same (h:CpSt E w0 W H d cb w vP F xs P gs) (hc:Chg [] w w'):CpSt E w0 W H d cb w' vP F xs P gs:=h.turn (hc.mono (by simp))
theorem CpSt.next {wa wb:World} (h:CpSt E w0 W H d cb w vP F xs P gs) {u:Value} {g5:Nat} {l:List Int} (ca:Chg E w wa) (r:Row wa 3 u g5 (l.map vi)) (hg5:w.heap.size<=g5) {vP':Value} {g2:Nat}
  (r2:Row wb 22 vP' g2 (xs++[u])) (gr:Grow F [g2] wa wb):CpSt E w0 W H d cb (wb.setCell ⟨cb,3,none⟩ vP') vP' [g2] (xs++[u]) (P++[l]) (gs++[g5]):=by
 have ha:=h.turn ca
 have af:=ha.blk.lt
 have aa:g5∉F:=fun hm=>by have:=h.own.lt g5 hm;omega
 have ac:g2≠cb:=fun e=>gr.out af h.cF (by rw [<-e];simp)
 have ag:∀ x∈gs,x≠g2:=fun x hx e=>gr.out (ha.pl.lt x hx) (h.gF x hx) (by rw [e];simp)
 have ae:g5≠g2:=fun e=>gr.out r.lt aa (by rw [e];simp)
 have ab:g5≠cb:=fun e=>by have:=h.blk.lt;omega
 have ah:g5∉gs:=fun hm=>by have:=h.pl.lt g5 hm;omega
 have ad:Chg [cb] wb (wb.setCell ⟨cb,3,none⟩ vP'):=(zR [cb] wb).setCell (p:=⟨cb,3,none⟩) (.inl (by simp)) vP'
 have hn:∀ x∈F,w0.heap.size<=x:=fun x hx=>h.new x (by simp [hx])
 refine ⟨?_,?_,?_,by simpa using ac.symm,?_,?_,?_,h.old,?_⟩
 ·have:=(ha.blk.chg gr.chg h.cF).set_ 3 vP'
  simpa using this
 ·exact (r2.far (p:=⟨cb,3,none⟩) ac vP').toOwn
 ·refine ((ha.pl.chg gr.chg h.gF).snoc (r.chg gr.chg aa) ah).chg ad ?_
  intro x hx hm
  simp at hm
  subst hm
  rcases zP.1 hx with hx | hx
  ·exact h.cg hx
  ·simp at hx;exact ab hx.symm
 ·intro hm
  rcases zP.1 hm with hx | hx
  ·exact h.cg hx
  ·simp at hx;exact ab hx.symm
 ·intro x hx hm
  simp at hm
  rcases zP.1 hx with hx | hx
  ·exact ag x hx hm
  ·simp at hx;exact ae (hx.symm.trans hm)
 ·intro x hx
  have hs:=h.chg.size
  have ai:=ca.size
  simp only [zJ,zP,List.not_mem_nil,or_false] at hx
  rcases hx with rfl | rfl | hx | rfl
  ·exact h.new x (by simp)
  ·rcases gr.new x (by simp) with h1 | h1
   ·exact hn x h1
   ·omega
  ·exact h.new x (by simp [hx])
  ·omega
 ·exact ((h.chg.trans_same ca).trans gr.chg fun x hx => .inr (hn x hx)).setCell (.inr (h.new cb (by simp))) vP'
end
theorem copy_ok {w:World} {p:PicD} {g o:Nat} {B:Nat->Option Addr} {c:Nat->Nat} {G:List Nat} (cap:Nat) (h:PicAt w p g o B c G) :
  Calls Tryz.prog 59 #[picV p g o cap] w fun e w'=>∃ (gP capP:Nat) (xs:List Value) (gs:List Nat),e=.returned (picV p gP 0 capP)/\PicOwn w' p gP capP xs gs/\Chg [] w w'/\∀ x∈gP::gs,w.heap.size<=x:=by
 have ah:=h.ok
 unfold picV
 obtain ⟨W,hW⟩:=zX (p.W)
 obtain ⟨H,hH⟩:=zX (p.H)
 obtain ⟨d,hd⟩:=zX (p.d)
 obtain ⟨n,hn⟩:=zX (p.P.length)
 obtain ⟨N,hN⟩:=zX (W*H)
 rw [<-hW,<-hH,<-hd,<-hn]
 have a0:n<=4:=by rw [hn];exact ah.n1
 have aX:1<=n:=by rw [hn];exact ah.n0
 have aj:∀ w',Chg [] w w'->∀ i,i<n->∃ b q,w'.cell? ⟨g,o+i,none⟩=some (.slice (some ⟨b,q,none⟩) N (c i))/\∀ w1,Chg [] w w1->Calls Tryz.prog 72 #[.slice (some ⟨b,q,none⟩) N (c i)] w1 fun e w2=>∃ g5 c5,e=.returned (.slice (some ⟨g5,0,none⟩) N c5)/\Row w2 3 (.slice (some ⟨g5,0,none⟩) N c5) g5 ((p.P.getD i []).map vi)/\Chg [] w1 w2/\w1.heap.size<=g5:=by
  intro w' hc i hi
  rw [hn] at hi
  obtain ⟨b,q,e,hb,hk⟩:=h.at_ hi
  have aB:=(h.same hc).cell i hi
  rw [e,<-hW,<-hH,<-hN] at aB
  refine ⟨b,q,aB,fun w1 hc1 => ?_⟩
  have hl:=h.len hi
  have ab:=(h.same hc1).cells i hi
  rw [e] at ab
  have aj:=clone_i_ok w1 (some ⟨b,q,none⟩) (c i) _ ab (by rw [hl];exact ah.pos) (by rw [hl];have:=ah.area;omega)
  rw [hl,<-hW,<-hH,<-hN] at aj
  refine aj.mono ?_
  rintro e w2 ⟨v,g5,rfl,aa,ch,az⟩
  have hr:=aa
  obtain ⟨c5,rfl,_⟩:=aa.open_map
  rw [hl,<-hW,<-hH,<-hN] at hr ⊢
  exact ⟨g5,c5,rfl,hr,ch,az⟩
 obtain ⟨wA,am⟩:=zX (((w.alloc (.cells #[.int .i64 W,.int .i64 H,.int .i64 d,.slice (some ⟨g,o,none⟩) n cap] 25)).alloc (.cells #[.int .i64 0,.int .i64 0,.int .i64 0,.slice none 0 0] 25)))
 have aM:Chg [] w wA:=by rw [am];exact ((zR [] w).alloc _).alloc _
 obtain ⟨w1,ak⟩:=zX (wA.alloc (.cells #[.int .i64 W,.int .i64 H,.int .i64 d,.slice none 0 0] 25))
 obtain ⟨rb,ao⟩:=zX (w.heap.size+1)
 obtain ⟨cb,aA⟩:=zX (rb+1)
 have af:wA.heap.size=cb:=by rw [am,alloc_size,alloc_size,aA,ao]
 have aJ:CpSt [] wA W H d cb w1 (.slice none 0 0) [] [] [] []:=by
  refine ⟨by rw [ak,<-af];exact Blk.new wA _ _,Own.nil _ _,PlRows.nil _,by simp,by simp,by simp,?_,by simp,by rw [ak];exact (zR [] wA).alloc _⟩
  intro x hx
  simp at hx
  omega
 have al:Blk wA rb 25 #[.int .i64 0,.int .i64 0,.int .i64 0,.slice none 0 0]:=by rw [am,ao];exact Blk.new2 w _ _ _
 rw [am] at ak
 have HP:Hid (p.P.length=n):=hid hn.symm
 have aW:Hid (p=⟨W,H,d,p.P⟩):=hid (by rw [hW,hH,hd])
 have aT:=hid ah
 have aO:=hid ak
 have av:=hid ao
 have aI:=hid aA
 have aQ:=hid al
 have aS:=hid aJ
 have ay:=hid aM
 have aP:=hid af
 have aU:=hid aj
 have aY:rb≠cb:=by omega
 clear hW hH hd hn hN ah ak aM aj h aJ al am ao aA af
 go_enter Tryz.func59,Tryz.ntmps59
 go_wp2_with fail
 rw [<-aO.out,<-av.out,<-aI.out]
 go_loopg [5,16] n (fun j v5 v16 wr=>∃ (i:Nat) (vP:Value) (F:List Nat) (xs:List Value) (gs:List Nat),v16=.int .i64 i/\i+j=n/\Hid (CpSt [] wA W H d cb wr vP F xs (p.P.take i) gs))
 case atStart=>exact ⟨0,_,[],[],[],rfl,by omega,hid (by simpa using aS.out)⟩
 case round =>
  obtain ⟨i,vP,F,xs,gs,rfl,aZ,HS⟩:=hrel
  rcases gk with _ | j
  ·obtain rfl:i=n:=by omega
   have t1:decide (i<i)=false:=by simp
   have aK:p.P.take i=p.P:=zT (by rw [HP.out];exact zQ _)
   have hs:=HS.out
   rw [aK] at hs
   have ai:xs.length=i:=by rw [hs.pl.lx,HP.out]
   rcases hs.own.cases with ⟨_,he,_⟩ | ⟨gP,aa,hF⟩
   ·exfalso
    rw [he] at ai
    simp at ai
    omega
   have hr:=aa
   obtain ⟨capP,rfl,au,aG,-,-⟩:=aa.open_
   rw [ai] at hr hs
   have b0:=hs.blk.cell 0
   have b1:=hs.blk.cell 1
   have b2:=hs.blk.cell 2
   have b3:=hs.blk.cell 3
   simp at b0 b1 b2 b3
   have ac:=aQ.out.chg hs.chg (by simp)
   have z0:=ac.frozen 0
   have z1:=ac.frozen 1
   have z2:=ac.frozen 2
   have z3:=ac.frozen 3
   have k0:=ac.cell 0
   have k1:=ac.cell 1
   have k2:=ac.cell 2
   have k3:=ac.cell 3
   simp at k0 k1 k2 k3
   clear aa au aG aK
   go_wp2_with fail
   obtain ⟨w9,ax⟩:=zX ((((wr.setCell ⟨rb,0,none⟩ (.int .i64 W)).setCell ⟨rb,1,none⟩ (.int .i64 H)).setCell ⟨rb,2,none⟩ (.int .i64 d)).setCell ⟨rb,3,none⟩ (.slice (some ⟨gP,0,none⟩) i capP))
   have an:Blk w9 rb 25 #[.int .i64 W,.int .i64 H,.int .i64 d,.slice (some ⟨gP,0,none⟩) i capP]:=by
    rw [ax]
    have:=(((ac.set_ 0 (.int .i64 W)).set_ 1 (.int .i64 H)).set_ 2 (.int .i64 d)).set_ 3 (.slice (some ⟨gP,0,none⟩) i capP)
    simpa using this
   have aE:Chg [rb] wr w9:=by
    rw [ax]
    exact ((((zR [rb] wr).setCell (p:=⟨rb,0,none⟩) (.inl (by simp)) _).setCell (p:=⟨rb,1,none⟩) (.inl (by simp)) _).setCell (p:=⟨rb,2,none⟩) (.inl (by simp)) _).setCell (p:=⟨rb,3,none⟩) (.inl (by simp)) _
   have g0:=an.cell 0
   have g1:=an.cell 1
   have g2:=an.cell 2
   have g3:=an.cell 3
   simp at g0 g1 g2 g3
   rw [<-ax]
   refine bodyPost_ret (v:=.agg #[.int .i64 W,.int .i64 H,.int .i64 d,.slice (some ⟨gP,0,none⟩) i capP]) (by simp [results,Tryz.results59,go_sem,g0,g1,g2,g3]) rfl ?_
   have ag:∀ x∈gP::gs,rb<x:=by
    intro x hx
    have:=aP.out
    have:=aI.out
    rcases zJ.1 hx with rfl | hx
    ·have:=hs.new x (by simp [hF]);omega
    ·have:=hs.new x (by simp [hx]);omega
   refine ⟨gP,capP,xs,gs,rfl,⟨aT.out,?_,hs.pl.chg aE ?_⟩,?_,?_⟩
   ·rw [HP.out]
    refine hr.chg aE ?_
    intro hm
    have:=ag gP (by simp)
    simp at hm
    omega
   ·intro x hx hm
    have:=ag x (by simp [hx])
    simp at hm
    omega
   ·refine (ay.out.trans_same hs.chg).trans aE ?_
    intro x hx
    simp at hx
    have:=av.out
    exact .inr (by omega)
   ·intro x hx
    have:=ag x hx
    have:=av.out
    omega
  ·have hi:i<n:=by omega
   obtain ⟨b,q,aB,hk⟩:=aU.out wr (ay.out.trans_same HS.out.chg) i hi
   have aD:i<p.P.length:=by rw [HP.out];exact hi
   have aH:Hid (p.P.take (i+1)=p.P.take i++[p.P.getD i []]):=hid (by
    rw [List.take_succ_eq_append_getElem aD,zD,zF aD]
    rfl)
   have ai:Hid (xs.length=i):=hid (by rw [HS.out.pl.lx,zI];omega)
   have y0:=HS.out.blk.cell 3
   simp at y0
   have HK:=hid hk
   have aR:=HS.out.blk
   have HI:=hid hi
   obtain ⟨l,hl⟩:=zX (p.P.getD i [])
   rw [<-hl] at aH hk
   have HK:=hid hk
   clear hk aD hl
   go_wp2_with fail
   go_region_law (first | (refine step_append_o1 (by rfl) (by rfl) rows_el (by rfl) (by rfl) (ad.alloc (.cells #[.slice (some ⟨g5,0,none⟩) N c5] 22)) (.slice (some ⟨g5,0,none⟩) N c5) (by rfl) (by simp [go_sem]) (by rfl) (by rw [ai.out];omega) (by rw [ai.out];omega) ?_;intro g2 aV w6 aL aF;have ar:=(ap.alloc (.cells #[.slice (some ⟨g5,0,none⟩) N c5] 22)).chg aF.chg HS.out.cF;have y6:=ar.cell 3;have z6:=ar.frozen 3;simp at y6) | (go_simp;go_at_call 72;refine (HK.out _ ((ay.out.trans_same HS.out.chg).drew)).mono ?_;rintro e w5 ⟨g5,c5,rfl,ae,aq,az⟩;have aw:=(HS.out.same ((zR [] wr).drew)).same aq;have ad:=aw.own;have ap:=aw.blk;have y5:=ap.cell 3;have n5:=(ap.alloc (.cells #[.slice (some ⟨g5,0,none⟩) N c5] 22)).cell 3;simp at y5 n5))
   all_goals
    have aC:=CpSt.next HS.out ((((zR [] wr).drew).trans_same aq).alloc (.cells #[.slice (some ⟨g5,0,none⟩) N c5] 22)) (ae.alloc _) az aL aF
    rw [<-aH.out] at aC
    have aN:=hid aC
    clear aC aL aF ar y6 z6 y5 n5 ap ad aw ae aq
    go_wp2_with fail
    go_roundg j
    case measure=>omega
    case rel=>exact ⟨i+1,_,_,_,_,by go_num,by omega,aN⟩
end Go.Proofs.YtklocammllljiaaGreatDoor
