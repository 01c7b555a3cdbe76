/- slices.Clone of numbers, by its contract. -/
import Derived.Lib.SliceRun
import Derived.Test.YtepjepkgcdfboaaGreatDoorMg34
import Derived.Deep.RegionLaw
import Derived.Deep.RegionHeld3
set_option linter.unusedVariables false
set_option linter.unusedSimpArgs false
set_option maxHeartbeats 2000000
set_option maxRecDepth 100000
namespace Go.Proofs.YtepjepkgcdfboaaGreatDoor
open Go.RowKit
theorem c4x (w:World) (A:Option Addr) (cap:Nat) (ds:List Int) (hc:a0d vi w A ds) (h0:0<ds.length) (hl:ds.length<1099511627776) :
  Calls Tryz.prog 57 #[.slice A ds.length cap] w fun e w'=>∃ v g,e=.returned v/\Row w' 3 v g (ds.map vi)/\Chg [] w w'/\w.heap.size<=g:=by
 obtain ⟨bA,oA,rfl,ae,-⟩:=hc.ex h0
 have hz:Own (w.alloc (.cells #[] 3)) 3 (.slice (some ⟨w.heap.size,0,none⟩) 0 0) [w.heap.size] []:=(Row.made w 3 [] (by simp [maxLen])).toOwn
 have ab:a0d (fun u=>u) (w.alloc (.cells #[] 3)) (some ⟨bA,oA,none⟩) (ds.map vi):=⟨fun h=>by
  obtain ⟨b,o,e1,e2,e3⟩:=(hc.same ((zR [] w).alloc (.cells #[] 3))).ex h0
  refine ⟨b,o,e1,e2,fun i a ha => ?_⟩
  rw [zW] at ha
  obtain ⟨x,hx,rfl⟩:=Option.map_eq_some_iff.1 ha
  exact e3 i x hx⟩
 have ad:=hid ab
 obtain ⟨n,hn⟩:=zX (ds.length)
 rw [<-hn] at h0 hl ⊢
 have HN:=hid hn
 have hq:∀ (w:World) (a:Option Addr) (n c n' c':Nat),(binOp .eql 22 (.slice a n c) (.slice none n' c')).run Tryz.prog w=.ok (.bool a.isNone) w:=fun w a n c n' c'=>Lib.run_eql_slice_nil w _ _ a n c n' c' Tryz.underlying22
 clear ab hc hn
 go_enter Tryz.func57,Tryz.ntmps57
 go_wp2_with (at_builtin;refine a1m rfl rfl a0p rfl rfl hz (ds.map vi) n rfl ?c1 ?c2 ?c3 ?c4 ?c5 ?_)
 case c1=>rw [zE];exact HN.out
 case c2=>exact ad.out
 case c3=>exact e6f _
 case c4=>rw [zE,List.length_nil,<-HN.out];omega
 case c5=>rw [zE,List.length_nil,<-HN.out];omega
 intro v' F' w' h2 h3
 try rw [List.nil_append] at h2
 have ac:Chg [] w w':=((zR [] w).alloc _).trans h3.chg fun x hx => .inr (by simp at hx;omega)
 rcases h2.cases with ⟨_,he,_⟩ | ⟨g,aa,hF⟩
 ·have:=HN.out
  rw [List.map_eq_nil_iff.1 he] at this
  simp at this
  omega
 ·have hg:w.heap.size<=g:=by
   rcases h3.new g (by rw [hF];simp) with h | h
   ·simp at h;omega
   ·have:(w.alloc (.cells #[] 3)).heap.size=w.heap.size+1:=Array.size_push _
    omega
  clear h2 h3
  go_wp2
  go_ret
  exact ⟨v',g,rfl,aa,ac,hg⟩
structure c8v (E:List Nat) (w0:World) (W H d:Nat) (cb:Nat) (w:World) (vP:Value) (F:List Nat) (xs:List Value) (P:List (List Int)) (gs:List Nat):Prop where
 blk:Blk w cb 27 #[.int .i64 W,.int .i64 H,.int .i64 d,vP]
 own:Own w 22 vP F xs
 pl:a2k w xs P gs
 cF:cb∉F
 cg:cb∉gs
 gF:∀ x∈gs,x∉F
 new:∀ x∈cb::(F++gs),w0.heap.size<=x
 old:∀ x∈E,x<w0.heap.size
 chg:Chg E w0 w
section
variable {E:List Nat} {w0 w w':World} {W H d cb:Nat} {vP:Value} {F:List Nat} {xs:List Value} {P:List (List Int)} {gs:List Nat}
theorem c8v.turn (h:c8v E w0 W H d cb w vP F xs P gs) (hc:Chg E w w'):c8v E w0 W H d cb w' vP F xs P gs:=by
 have hd:∀ x∈cb::(F++gs),x∉E:=fun x hx hm=>by have:=h.new x hx;have:=h.old x hm;omega
 exact { h with blk:=h.blk.chg hc (hd cb (by simp)),own:=h.own.chg hc (fun x hx=>hd x (by simp [hx])),pl:=h.pl.chg hc (fun x hx=>hd x (by simp [hx])),chg:=h.chg.tq hc }
theorem c8v.same (h:c8v E w0 W H d cb w vP F xs P gs) (hc:Chg [] w w'):c8v E w0 W H d cb w' vP F xs P gs:=h.turn (hc.mono (by simp))
theorem c8v.next {wa wb:World} (h:c8v E w0 W H d cb w vP F xs P gs) {u:Value} {g5:Nat} {l:List Int} (ca:Chg E w wa) (r:Row wa 3 u g5 (l.map vi)) (hg5:w.heap.size<=g5) {vP':Value} {g2:Nat}
  (r2:Row wb 22 vP' g2 (xs++[u])) (gr:a0u F [g2] wa wb):c8v E w0 W H d cb (wb.setCell ⟨cb,3,none⟩ vP') vP' [g2] (xs++[u]) (P++[l]) (gs++[g5]):=by
 have ha:=h.turn ca
 have af:=ha.blk.lt
 have aa:g5∉F:=fun hm=>by have:=h.own.lt g5 hm;omega
 have ac:g2≠cb:=fun e=>gr.out af h.cF (by rw [<-e];simp)
 have ah:∀ x∈gs,x≠g2:=fun x hx e=>gr.out (ha.pl.lt x hx) (h.gF x hx) (by rw [e];simp)
 have ad:g5≠g2:=fun e=>gr.out r.lt aa (by rw [e];simp)
 have ab:g5≠cb:=fun e=>by have:=h.blk.lt;omega
 have ae:g5∉gs:=fun hm=>by have:=h.pl.lt g5 hm;omega
 have ag:Chg [cb] wb (wb.setCell ⟨cb,3,none⟩ vP'):=(zR [cb] wb).setCell (p:=⟨cb,3,none⟩) (.inl (by simp)) vP'
 have hn:∀ x∈F,w0.heap.size<=x:=fun x hx=>h.new x (by simp [hx])
 refine ⟨?_,?_,?_,by simpa using ac.symm,?_,?_,?_,h.old,?_⟩
 ·have:=(ha.blk.chg gr.chg h.cF).set_ 3 vP'
  simpa using this
 ·exact (r2.far (p:=⟨cb,3,none⟩) ac vP').toOwn
 ·refine ((ha.pl.chg gr.chg h.gF).snoc (r.chg gr.chg aa) ae).chg ag ?_
  intro x hx hm
  simp at hm
  subst hm
  rcases zP.1 hx with hx | hx
  ·exact h.cg hx
  ·simp at hx;exact ab hx.symm
 ·intro hm
  rcases zP.1 hm with hx | hx
  ·exact h.cg hx
  ·simp at hx;exact ab hx.symm
 ·intro x hx hm
  simp at hm
  rcases zP.1 hx with hx | hx
  ·exact ah x hx hm
  ·simp at hx;exact ad (hx.symm.trans hm)
 ·intro x hx
  have hs:=h.chg.size
  have ai:=ca.size
  simp only [zJ,zP,List.not_mem_nil,or_false] at hx
  rcases hx with rfl | rfl | hx | rfl
  ·exact h.new x (by simp)
  ·rcases gr.new x (by simp) with h1 | h1
   ·exact hn x h1
   ·omega
  ·exact h.new x (by simp [hx])
  ·omega
 ·exact ((h.chg.tq ca).trans gr.chg fun x hx => .inr (hn x hx)).setCell (.inr (h.new cb (by simp))) vP'
end
theorem e1r {w:World} {p:a2a} {g o:Nat} {B:Nat->Option Addr} {c:Nat->Nat} {G:List Nat} (cap:Nat) (h:a4l w p g o B c G) :
  Calls Tryz.prog 43 #[a6y p g o cap] w fun e w'=>∃ (gP capP:Nat) (xs:List Value) (gs:List Nat),e=.returned (a6y p gP 0 capP)/\a1x w' p gP capP xs gs/\Chg [] w w'/\∀ x∈gP::gs,w.heap.size<=x:=by
 have ah:=h.ok
 unfold a6y
 obtain ⟨W,hW⟩:=zX (p.W)
 obtain ⟨H,hH⟩:=zX (p.H)
 obtain ⟨d,hd⟩:=zX (p.d)
 obtain ⟨n,hn⟩:=zX (p.P.length)
 obtain ⟨N,hN⟩:=zX (W*H)
 rw [<-hW,<-hH,<-hd,<-hn]
 have aX:n<=4:=by rw [hn];exact ah.n1
 have aZ:1<=n:=by rw [hn];exact ah.n0
 have aj:∀ w',Chg [] w w'->∀ i,i<n->∃ b q,w'.cell? ⟨g,o+i,none⟩=some (.slice (some ⟨b,q,none⟩) N (c i))/\∀ w1,Chg [] w w1->Calls Tryz.prog 57 #[.slice (some ⟨b,q,none⟩) N (c i)] w1 fun e w2=>∃ g5 c5,e=.returned (.slice (some ⟨g5,0,none⟩) N c5)/\Row w2 3 (.slice (some ⟨g5,0,none⟩) N c5) g5 ((p.P.getD i []).map vi)/\Chg [] w1 w2/\w1.heap.size<=g5:=by
  intro w' hc i hi
  rw [hn] at hi
  obtain ⟨b,q,e,hb,hk⟩:=h.at_ hi
  have au:=(h.same hc).cell i hi
  rw [e,<-hW,<-hH,<-hN] at au
  refine ⟨b,q,au,fun w1 hc1 => ?_⟩
  have hl:=h.len hi
  have ab:=(h.same hc1).cells i hi
  rw [e] at ab
  have aj:=c4x w1 (some ⟨b,q,none⟩) (c i) _ ab (by rw [hl];exact ah.pos) (by rw [hl];have:=ah.area;omega)
  rw [hl,<-hW,<-hH,<-hN] at aj
  refine aj.mono ?_
  rintro e w2 ⟨v,g5,rfl,aa,ch,az⟩
  have hr:=aa
  obtain ⟨c5,rfl,_⟩:=aa.oq
  rw [hl,<-hW,<-hH,<-hN] at hr ⊢
  exact ⟨g5,c5,rfl,hr,ch,az⟩
 obtain ⟨wA,al⟩:=zX (((w.alloc (.cells #[.int .i64 W,.int .i64 H,.int .i64 d,.slice (some ⟨g,o,none⟩) n cap] 27)).alloc (.cells #[.int .i64 0,.int .i64 0,.int .i64 0,.slice none 0 0] 27)))
 have aJ:Chg [] w wA:=by rw [al];exact ((zR [] w).alloc _).alloc _
 obtain ⟨w1,am⟩:=zX (wA.alloc (.cells #[.int .i64 W,.int .i64 H,.int .i64 d,.slice none 0 0] 27))
 obtain ⟨rb,ao⟩:=zX (w.heap.size+1)
 obtain ⟨cb,aE⟩:=zX (rb+1)
 have ag:wA.heap.size=cb:=by rw [al,a3f,a3f,aE,ao]
 have aL:c8v [] wA W H d cb w1 (.slice none 0 0) [] [] [] []:=by
  refine ⟨by rw [am,<-ag];exact Blk.new wA _ _,Own.nil _ _,a2k.nil _,by simp,by simp,by simp,?_,by simp,by rw [am];exact (zR [] wA).alloc _⟩
  intro x hx
  simp at hx
  omega
 have ak:Blk wA rb 27 #[.int .i64 0,.int .i64 0,.int .i64 0,.slice none 0 0]:=by rw [al,ao];exact Blk.new2 w _ _ _
 rw [al] at am
 have HP:Hid (p.P.length=n):=hid hn.symm
 have a0:Hid (p=⟨W,H,d,p.P⟩):=hid (by rw [hW,hH,hd])
 have aP:=hid ah
 have aO:=hid am
 have aD:=hid ao
 have aI:=hid aE
 have aU:=hid ak
 have aR:=hid aL
 have ar:=hid aJ
 have aQ:=hid ag
 have aV:=hid aj
 have aW:rb≠cb:=by omega
 clear hW hH hd hn hN ah am aJ aj h aL ak al ao aE ag
 go_enter Tryz.func43,Tryz.ntmps43
 go_wp2_with fail
 rw [<-aO.out,<-aD.out,<-aI.out]
 go_loopg [5,16] n (fun j v5 v16 wr=>∃ (i:Nat) (vP:Value) (F:List Nat) (xs:List Value) (gs:List Nat),v16=.int .i64 i/\i+j=n/\Hid (c8v [] wA W H d cb wr vP F xs (p.P.take i) gs))
 case atStart=>exact ⟨0,_,[],[],[],rfl,by omega,hid (by simpa using aR.out)⟩
 case round =>
  obtain ⟨i,vP,F,xs,gs,rfl,aY,HS⟩:=hrel
  rcases gk with _ | j
  ·obtain rfl:i=n:=by omega
   have t1:decide (i<i)=false:=by simp
   have aK:p.P.take i=p.P:=zT (by rw [HP.out];exact zQ _)
   have hs:=HS.out
   rw [aK] at hs
   have ai:xs.length=i:=by rw [hs.pl.lx,HP.out]
   rcases hs.own.cases with ⟨_,he,_⟩ | ⟨gP,aa,hF⟩
   ·exfalso
    rw [he] at ai
    simp at ai
    omega
   have hr:=aa
   obtain ⟨capP,rfl,aA,aq,-,-⟩:=aa.open_
   rw [ai] at hr hs
   have b0:=hs.blk.cell 0
   have b1:=hs.blk.cell 1
   have b2:=hs.blk.cell 2
   have b3:=hs.blk.cell 3
   simp at b0 b1 b2 b3
   have ac:=aU.out.chg hs.chg (by simp)
   have z0:=ac.frozen 0
   have z1:=ac.frozen 1
   have z2:=ac.frozen 2
   have z3:=ac.frozen 3
   have k0:=ac.cell 0
   have k1:=ac.cell 1
   have k2:=ac.cell 2
   have k3:=ac.cell 3
   simp at k0 k1 k2 k3
   clear aa aA aq aK
   go_wp2_with fail
   obtain ⟨w9,aw⟩:=zX ((((wr.setCell ⟨rb,0,none⟩ (.int .i64 W)).setCell ⟨rb,1,none⟩ (.int .i64 H)).setCell ⟨rb,2,none⟩ (.int .i64 d)).setCell ⟨rb,3,none⟩ (.slice (some ⟨gP,0,none⟩) i capP))
   have ap:Blk w9 rb 27 #[.int .i64 W,.int .i64 H,.int .i64 d,.slice (some ⟨gP,0,none⟩) i capP]:=by
    rw [aw]
    have:=(((ac.set_ 0 (.int .i64 W)).set_ 1 (.int .i64 H)).set_ 2 (.int .i64 d)).set_ 3 (.slice (some ⟨gP,0,none⟩) i capP)
    simpa using this
   have aB:Chg [rb] wr w9:=by
    rw [aw]
    exact ((((zR [rb] wr).setCell (p:=⟨rb,0,none⟩) (.inl (by simp)) _).setCell (p:=⟨rb,1,none⟩) (.inl (by simp)) _).setCell (p:=⟨rb,2,none⟩) (.inl (by simp)) _).setCell (p:=⟨rb,3,none⟩) (.inl (by simp)) _
   have g0:=ap.cell 0
   have g1:=ap.cell 1
   have g2:=ap.cell 2
   have g3:=ap.cell 3
   simp at g0 g1 g2 g3
   rw [<-aw]
   refine bodyPost_ret (v:=.agg #[.int .i64 W,.int .i64 H,.int .i64 d,.slice (some ⟨gP,0,none⟩) i capP]) (by simp [results,Tryz.results43,go_sem,g0,g1,g2,g3]) rfl ?_
   have af:∀ x∈gP::gs,rb<x:=by
    intro x hx
    have:=aQ.out
    have:=aI.out
    rcases zJ.1 hx with rfl | hx
    ·have:=hs.new x (by simp [hF]);omega
    ·have:=hs.new x (by simp [hx]);omega
   refine ⟨gP,capP,xs,gs,rfl,⟨aP.out,?_,hs.pl.chg aB ?_⟩,?_,?_⟩
   ·rw [HP.out]
    refine hr.chg aB ?_
    intro hm
    have:=af gP (by simp)
    simp at hm
    omega
   ·intro x hx hm
    have:=af x (by simp [hx])
    simp at hm
    omega
   ·refine (ar.out.tq hs.chg).trans aB ?_
    intro x hx
    simp at hx
    have:=aD.out
    exact .inr (by omega)
   ·intro x hx
    have:=af x hx
    have:=aD.out
    omega
  ·have hi:i<n:=by omega
   obtain ⟨b,q,au,hk⟩:=aV.out wr (ar.out.tq HS.out.chg) i hi
   have aG:i<p.P.length:=by rw [HP.out];exact hi
   have aH:Hid (p.P.take (i+1)=p.P.take i++[p.P.getD i []]):=hid (by
    rw [List.take_succ_eq_append_getElem aG,zD,zF aG]
    rfl)
   have ai:Hid (xs.length=i):=hid (by rw [HS.out.pl.lx,zI];omega)
   have y0:=HS.out.blk.cell 3
   simp at y0
   have HK:=hid hk
   have aN:=HS.out.blk
   have HI:=hid hi
   obtain ⟨l,hl⟩:=zX (p.P.getD i [])
   rw [<-hl] at aH hk
   have HK:=hid hk
   clear hk aG hl
   go_wp2_with fail
   go_region_law (first | (refine a3x (by rfl) (by rfl) b7k (by rfl) (by rfl) (ae.alloc (.cells #[.slice (some ⟨g5,0,none⟩) N c5] 22)) (.slice (some ⟨g5,0,none⟩) N c5) (by rfl) (by simp [go_sem]) (by rfl) (by rw [ai.out];omega) (by rw [ai.out];omega) ?_;intro g2 aT w6 aM ax;have ay:=(an.alloc (.cells #[.slice (some ⟨g5,0,none⟩) N c5] 22)).chg ax.chg HS.out.cF;have y6:=ay.cell 3;have z6:=ay.frozen 3;simp at y6) | (go_simp;go_at_call 57;refine (HK.out _ ((ar.out.tq HS.out.chg).drew)).mono ?_;rintro e w5 ⟨g5,c5,rfl,ad,aF,az⟩;have av:=(HS.out.same ((zR [] wr).drew)).same aF;have ae:=av.own;have an:=av.blk;have y5:=an.cell 3;have n5:=(an.alloc (.cells #[.slice (some ⟨g5,0,none⟩) N c5] 22)).cell 3;simp at y5 n5))
   all_goals
    have aC:=c8v.next HS.out ((((zR [] wr).drew).tq aF).alloc (.cells #[.slice (some ⟨g5,0,none⟩) N c5] 22)) (ad.alloc _) az aM ax
    rw [<-aH.out] at aC
    have aS:=hid aC
    clear aC aM ax ay y6 z6 y5 n5 an ae av ad aF
    go_wp2_with fail
    go_roundg j
    case measure=>omega
    case rel=>exact ⟨i+1,_,_,_,_,by go_num,by omega,aS⟩
end Go.Proofs.YtepjepkgcdfboaaGreatDoor
