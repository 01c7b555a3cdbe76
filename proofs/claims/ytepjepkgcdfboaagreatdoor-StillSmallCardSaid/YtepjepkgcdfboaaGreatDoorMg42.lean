/- append of any slice as a step of a region that draws its order. No program. -/
import Derived.Test.YtepjepkgcdfboaaGreatDoorMg34
import Derived.Deep.RegionLaw
import Derived.Deep.RegionHeld3
import Derived.Test.YtepjepkgcdfboaaGreatDoorMg53
set_option linter.unusedVariables false
set_option linter.unusedSimpArgs false
set_option maxHeartbeats 2000000
set_option maxRecDepth 100000
namespace Go.Proofs.YtepjepkgcdfboaaGreatDoor
open Go.RowKit
section
variable {P:Program}
theorem step_append_s {w:World} {ops:Array Oper} {o:Oper} {a:Act} {K:Act->World->Prop} {Q:Exit->Act->World->Prop} {E0:Prop} (hgd:o.guard=none) {s x:Operand} {t:TypeId}
  (ho:o.op=.call { callee:=.builtin .append,args:=#[s,x],argTypes:=#[t,t] })
  {e:TypeId} {z:Value} {bytes:Nat} (E:Elem P t e z 1 bytes) (hzs:z.cells.size=1)
  {v:Value} {F:List Nat} {xs:List Value} (hs:a.eval s=v) (hown:Own w e v F xs) {A:Option Addr} {c:Nat} (news:List Value) (n:Nat) (hx:a.eval x=.slice A n c) (hnl:n=news.length) (hn:Cells (fun u=>u) w A news)
  (h1:∀ u∈news,u.oneCell'=true) (h63:xs.length+news.length<=9223372036854775807) (hbytes:(xs.length+news.length)*bytes<=140737488355328)
  (h:∀ v' F' w',Own w' e v' F' (xs++news)->Grow F F' w w'->K (a.put o.dst v') w'):if Region.wanted o (yielded ops a.tmps)=true then Oper.wp P o a w K Q else E0:=by
 subst hnl
 rw [if_pos (by simp [Region.wanted,hgd])]
 obtain ⟨v',F',w',aa,h2,h3⟩:=run_append_s (P:=P) (ty:=o.type) E hzs hown (c:=c) news hn h1 h63 hbytes
 unfold Oper.wp execOp
 simp only [ho,resolve,invoke,builtin,Sem.run_bind,Sem.run_pure,Result.andThen_ok,List.map_toArray,List.map_cons,List.map_nil,hs,hx,aa]
 exact h v' F' w' h2 h3
end
structure CpSt (E:List Nat) (w0:World) (W H d:Nat) (cb:Nat) (w:World) (vP:Value) (F:List Nat) (xs:List Value) (P:List (List Int)) (gs:List Nat):Prop where
 blk:Blk w cb 27 #[.int .i64 W,.int .i64 H,.int .i64 d,vP]
 own:Own w 22 vP F xs
 pl:PlRows w xs P gs
 cF:cb∉F
 cg:cb∉gs
 gF:∀ x∈gs,x∉F
 new:∀ x∈cb::(F++gs),w0.heap.size<=x
 old:∀ x∈E,x<w0.heap.size
 chg:Chg E w0 w
section
variable {E:List Nat} {w0 w w':World} {W H d cb:Nat} {vP:Value} {F:List Nat} {xs:List Value} {P:List (List Int)} {gs:List Nat}
theorem CpSt.turn (h:CpSt E w0 W H d cb w vP F xs P gs) (hc:Chg E w w'):CpSt E w0 W H d cb w' vP F xs P gs:=by
 have hd:∀ x∈cb::(F++gs),x∉E:=fun x hx hm=>by have:=h.new x hx;have:=h.old x hm;omega
 exact { h with blk:=h.blk.chg hc (hd cb (by simp)),own:=h.own.chg hc (fun x hx=>hd x (by simp [hx])),pl:=h.pl.chg hc (fun x hx=>hd x (by simp [hx])),chg:=h.chg.trans_same hc }
theorem CpSt.same (h:CpSt E w0 W H d cb w vP F xs P gs) (hc:Chg [] w w'):CpSt E w0 W H d cb w' vP F xs P gs:=h.turn (hc.mono (by simp))
theorem CpSt.next {wa wb:World} (h:CpSt E w0 W H d cb w vP F xs P gs) {u:Value} {g5:Nat} {l:List Int} (ca:Chg E w wa) (r:Row wa 3 u g5 (l.map vi)) (hg5:w.heap.size<=g5) {vP':Value} {g2:Nat}
  (r2:Row wb 22 vP' g2 (xs++[u])) (gr:Grow F [g2] wa wb):CpSt E w0 W H d cb (wb.setCell ⟨cb,3,none⟩ vP') vP' [g2] (xs++[u]) (P++[l]) (gs++[g5]):=by
 have ha:=h.turn ca
 have ae:=ha.blk.lt
 have aa:g5∉F:=fun hm=>by have:=h.own.lt g5 hm;omega
 have ac:g2≠cb:=fun e=>gr.out ae h.cF (by rw [<-e];simp)
 have af:∀ x∈gs,x≠g2:=fun x hx e=>gr.out (ha.pl.lt x hx) (h.gF x hx) (by rw [e];simp)
 have ah:g5≠g2:=fun e=>gr.out r.lt aa (by rw [e];simp)
 have ab:g5≠cb:=fun e=>by have:=h.blk.lt;omega
 have ag:g5∉gs:=fun hm=>by have:=h.pl.lt g5 hm;omega
 have ad:Chg [cb] wb (wb.setCell ⟨cb,3,none⟩ vP'):=(zR [cb] wb).setCell (p:=⟨cb,3,none⟩) (.inl (by simp)) vP'
 have hn:∀ x∈F,w0.heap.size<=x:=fun x hx=>h.new x (by simp [hx])
 refine ⟨?_,?_,?_,by simpa using ac.symm,?_,?_,?_,h.old,?_⟩
 ·have:=(ha.blk.chg gr.chg h.cF).set_ 3 vP'
  simpa using this
 ·exact (r2.far (p:=⟨cb,3,none⟩) ac vP').toOwn
 ·refine ((ha.pl.chg gr.chg h.gF).snoc (r.chg gr.chg aa) ag).chg ad ?_
  intro x hx hm
  simp at hm
  subst hm
  rcases zP.1 hx with hx | hx
  ·exact h.cg hx
  ·simp at hx;exact ab hx.symm
 ·intro hm
  rcases zP.1 hm with hx | hx
  ·exact h.cg hx
  ·simp at hx;exact ab hx.symm
 ·intro x hx hm
  simp at hm
  rcases zP.1 hx with hx | hx
  ·exact af x hx hm
  ·simp at hx;exact ah (hx.symm.trans hm)
 ·intro x hx
  have hs:=h.chg.size
  have ai:=ca.size
  simp only [zJ,zP,List.not_mem_nil,or_false] at hx
  rcases hx with rfl | rfl | hx | rfl
  ·exact h.new x (by simp)
  ·rcases gr.new x (by simp) with h1 | h1
   ·exact hn x h1
   ·omega
  ·exact h.new x (by simp [hx])
  ·omega
 ·exact ((h.chg.trans_same ca).trans gr.chg fun x hx => .inr (hn x hx)).setCell (.inr (h.new cb (by simp))) vP'
end
theorem copy_ok {w:World} {p:PicD} {g o:Nat} {B:Nat->Option Addr} {c:Nat->Nat} {G:List Nat} (cap:Nat) (h:PicAt w p g o B c G) :
  Calls Tryz.prog 43 #[picV p g o cap] w fun e w'=>∃ (gP capP:Nat) (xs:List Value) (gs:List Nat),e=.returned (picV p gP 0 capP)/\PicOwn w' p gP capP xs gs/\Chg [] w w'/\∀ x∈gP::gs,w.heap.size<=x:=by
 have ah:=h.ok
 unfold picV
 obtain ⟨W,hW⟩:=zX (p.W)
 obtain ⟨H,hH⟩:=zX (p.H)
 obtain ⟨d,hd⟩:=zX (p.d)
 obtain ⟨n,hn⟩:=zX (p.P.length)
 obtain ⟨N,hN⟩:=zX (W*H)
 rw [<-hW,<-hH,<-hd,<-hn]
 have aZ:n<=4:=by rw [hn];exact ah.n1
 have aX:1<=n:=by rw [hn];exact ah.n0
 have al:∀ w',Chg [] w w'->∀ i,i<n->∃ b q,w'.cell? ⟨g,o+i,none⟩=some (.slice (some ⟨b,q,none⟩) N (c i))/\∀ w1,Chg [] w w1->Calls Tryz.prog 57 #[.slice (some ⟨b,q,none⟩) N (c i)] w1 fun e w2=>∃ g5 c5,e=.returned (.slice (some ⟨g5,0,none⟩) N c5)/\Row w2 3 (.slice (some ⟨g5,0,none⟩) N c5) g5 ((p.P.getD i []).map vi)/\Chg [] w1 w2/\w1.heap.size<=g5:=by
  intro w' hc i hi
  rw [hn] at hi
  obtain ⟨b,q,e,hb,hk⟩:=h.at_ hi
  have az:=(h.same hc).cell i hi
  rw [e,<-hW,<-hH,<-hN] at az
  refine ⟨b,q,az,fun w1 hc1 => ?_⟩
  have hl:=h.len hi
  have ab:=(h.same hc1).cells i hi
  rw [e] at ab
  have al:=clone_i_ok w1 (some ⟨b,q,none⟩) (c i) _ ab (by rw [hl];exact ah.pos) (by rw [hl];have:=ah.area;omega)
  rw [hl,<-hW,<-hH,<-hN] at al
  refine al.mono ?_
  rintro e w2 ⟨v,g5,rfl,aa,ch,ar⟩
  have hr:=aa
  obtain ⟨c5,rfl,_⟩:=aa.open_map
  rw [hl,<-hW,<-hH,<-hN] at hr ⊢
  exact ⟨g5,c5,rfl,hr,ch,ar⟩
 obtain ⟨wA,aj⟩:=zX (((w.alloc (.cells #[.int .i64 W,.int .i64 H,.int .i64 d,.slice (some ⟨g,o,none⟩) n cap] 27)).alloc (.cells #[.int .i64 0,.int .i64 0,.int .i64 0,.slice none 0 0] 27)))
 have aH:Chg [] w wA:=by rw [aj];exact ((zR [] w).alloc _).alloc _
 obtain ⟨w1,ak⟩:=zX (wA.alloc (.cells #[.int .i64 W,.int .i64 H,.int .i64 d,.slice none 0 0] 27))
 obtain ⟨rb,ap⟩:=zX (w.heap.size+1)
 obtain ⟨cb,ay⟩:=zX (rb+1)
 have ag:wA.heap.size=cb:=by rw [aj,alloc_size,alloc_size,ay,ap]
 have aI:CpSt [] wA W H d cb w1 (.slice none 0 0) [] [] [] []:=by
  refine ⟨by rw [ak,<-ag];exact Blk.new wA _ _,Own.nil _ _,PlRows.nil _,by simp,by simp,by simp,?_,by simp,by rw [ak];exact (zR [] wA).alloc _⟩
  intro x hx
  simp at hx
  omega
 have am:Blk wA rb 27 #[.int .i64 0,.int .i64 0,.int .i64 0,.slice none 0 0]:=by rw [aj,ap];exact Blk.new2 w _ _ _
 rw [aj] at ak
 have HP:Hid (p.P.length=n):=hid hn.symm
 have aY:Hid (p=⟨W,H,d,p.P⟩):=hid (by rw [hW,hH,hd])
 have aQ:=hid ah
 have aS:=hid ak
 have aE:=hid ap
 have aJ:=hid ay
 have aV:=hid am
 have aR:=hid aI
 have aw:=hid aH
 have aN:=hid ag
 have aU:=hid al
 have aW:rb≠cb:=by omega
 clear hW hH hd hn hN ah ak aH al h aI am aj ap ay ag
 go_enter Tryz.func43,Tryz.ntmps43
 go_wp2_with fail
 rw [<-aS.out,<-aE.out,<-aJ.out]
 go_loopg [5,16] n (fun j v5 v16 wr=>∃ (i:Nat) (vP:Value) (F:List Nat) (xs:List Value) (gs:List Nat),v16=.int .i64 i/\i+j=n/\Hid (CpSt [] wA W H d cb wr vP F xs (p.P.take i) gs))
 case atStart=>exact ⟨0,_,[],[],[],rfl,by omega,hid (by simpa using aR.out)⟩
 case round =>
  obtain ⟨i,vP,F,xs,gs,rfl,a0,HS⟩:=hrel
  rcases gk with _ | j
  ·obtain rfl:i=n:=by omega
   have t1:decide (i<i)=false:=by simp
   have aM:p.P.take i=p.P:=zT (by rw [HP.out];exact zQ _)
   have hs:=HS.out
   rw [aM] at hs
   have ai:xs.length=i:=by rw [hs.pl.lx,HP.out]
   rcases hs.own.cases with ⟨_,he,_⟩ | ⟨gP,aa,hF⟩
   ·exfalso
    rw [he] at ai
    simp at ai
    omega
   have hr:=aa
   obtain ⟨capP,rfl,aC,ax,-,-⟩:=aa.open_
   rw [ai] at hr hs
   have b0:=hs.blk.cell 0
   have b1:=hs.blk.cell 1
   have b2:=hs.blk.cell 2
   have b3:=hs.blk.cell 3
   simp at b0 b1 b2 b3
   have ac:=aV.out.chg hs.chg (by simp)
   have z0:=ac.frozen 0
   have z1:=ac.frozen 1
   have z2:=ac.frozen 2
   have z3:=ac.frozen 3
   have k0:=ac.cell 0
   have k1:=ac.cell 1
   have k2:=ac.cell 2
   have k3:=ac.cell 3
   simp at k0 k1 k2 k3
   clear aa aC ax aM
   go_wp2_with fail
   obtain ⟨w9,aq⟩:=zX ((((wr.setCell ⟨rb,0,none⟩ (.int .i64 W)).setCell ⟨rb,1,none⟩ (.int .i64 H)).setCell ⟨rb,2,none⟩ (.int .i64 d)).setCell ⟨rb,3,none⟩ (.slice (some ⟨gP,0,none⟩) i capP))
   have ao:Blk w9 rb 27 #[.int .i64 W,.int .i64 H,.int .i64 d,.slice (some ⟨gP,0,none⟩) i capP]:=by
    rw [aq]
    have:=(((ac.set_ 0 (.int .i64 W)).set_ 1 (.int .i64 H)).set_ 2 (.int .i64 d)).set_ 3 (.slice (some ⟨gP,0,none⟩) i capP)
    simpa using this
   have aB:Chg [rb] wr w9:=by
    rw [aq]
    exact ((((zR [rb] wr).setCell (p:=⟨rb,0,none⟩) (.inl (by simp)) _).setCell (p:=⟨rb,1,none⟩) (.inl (by simp)) _).setCell (p:=⟨rb,2,none⟩) (.inl (by simp)) _).setCell (p:=⟨rb,3,none⟩) (.inl (by simp)) _
   have g0:=ao.cell 0
   have g1:=ao.cell 1
   have g2:=ao.cell 2
   have g3:=ao.cell 3
   simp at g0 g1 g2 g3
   rw [<-aq]
   refine bodyPost_ret (v:=.agg #[.int .i64 W,.int .i64 H,.int .i64 d,.slice (some ⟨gP,0,none⟩) i capP]) (by simp [results,Tryz.results43,go_sem,g0,g1,g2,g3]) rfl ?_
   have af:∀ x∈gP::gs,rb<x:=by
    intro x hx
    have:=aN.out
    have:=aJ.out
    rcases zJ.1 hx with rfl | hx
    ·have:=hs.new x (by simp [hF]);omega
    ·have:=hs.new x (by simp [hx]);omega
   refine ⟨gP,capP,xs,gs,rfl,⟨aQ.out,?_,hs.pl.chg aB ?_⟩,?_,?_⟩
   ·rw [HP.out]
    refine hr.chg aB ?_
    intro hm
    have:=af gP (by simp)
    simp at hm
    omega
   ·intro x hx hm
    have:=af x (by simp [hx])
    simp at hm
    omega
   ·refine (aw.out.trans_same hs.chg).trans aB ?_
    intro x hx
    simp at hx
    have:=aE.out
    exact .inr (by omega)
   ·intro x hx
    have:=af x hx
    have:=aE.out
    omega
  ·have hi:i<n:=by omega
   obtain ⟨b,q,az,hk⟩:=aU.out wr (aw.out.trans_same HS.out.chg) i hi
   have aG:i<p.P.length:=by rw [HP.out];exact hi
   have aK:Hid (p.P.take (i+1)=p.P.take i++[p.P.getD i []]):=hid (by
    rw [List.take_succ_eq_append_getElem aG,zD,zF aG]
    rfl)
   have ai:Hid (xs.length=i):=hid (by rw [HS.out.pl.lx,zI];omega)
   have y0:=HS.out.blk.cell 3
   simp at y0
   have HK:=hid hk
   have aP:=HS.out.blk
   have HI:=hid hi
   obtain ⟨l,hl⟩:=zX (p.P.getD i [])
   rw [<-hl] at aK hk
   have HK:=hid hk
   clear hk aG hl
   go_wp2_with fail
   go_region_law (first | (refine step_append_o1 (by rfl) (by rfl) rows_el (by rfl) (by rfl) (ad.alloc (.cells #[.slice (some ⟨g5,0,none⟩) N c5] 22)) (.slice (some ⟨g5,0,none⟩) N c5) (by rfl) (by simp [go_sem]) (by rfl) (by rw [ai.out];omega) (by rw [ai.out];omega) ?_;intro g2 aT w6 aL aD;have av:=(an.alloc (.cells #[.slice (some ⟨g5,0,none⟩) N c5] 22)).chg aD.chg HS.out.cF;have y6:=av.cell 3;have z6:=av.frozen 3;simp at y6) | (go_simp;go_at_call 57;refine (HK.out _ ((aw.out.trans_same HS.out.chg).drew)).mono ?_;rintro e w5 ⟨g5,c5,rfl,ae,au,ar⟩;have aA:=(HS.out.same ((zR [] wr).drew)).same au;have ad:=aA.own;have an:=aA.blk;have y5:=an.cell 3;have n5:=(an.alloc (.cells #[.slice (some ⟨g5,0,none⟩) N c5] 22)).cell 3;simp at y5 n5))
   all_goals
    have aF:=CpSt.next HS.out ((((zR [] wr).drew).trans_same au).alloc (.cells #[.slice (some ⟨g5,0,none⟩) N c5] 22)) (ae.alloc _) ar aL aD
    rw [<-aK.out] at aF
    have aO:=hid aF
    clear aF aL aD av y6 z6 y5 n5 an ad aA ae au
    go_wp2_with fail
    go_roundg j
    case measure=>omega
    case rel=>exact ⟨i+1,_,_,_,_,by go_num,by omega,aO⟩
theorem copy24_ok {w:World} {p:PicD} {g o:Nat} {B:Nat->Option Addr} {c:Nat->Nat} {G:List Nat} (cap:Nat) (h:PicAt w p g o B c G) :
  Calls Tryz.prog 28 #[picV p g o cap] w fun e w'=>∃ (gP capP:Nat) (xs:List Value) (gs:List Nat),e=.returned (picV p gP 0 capP)/\PicOwn w' p gP capP xs gs/\Chg [] w w'/\∀ x∈gP::gs,w.heap.size<=x:=by
 have ao:=h.ok
 unfold picV
 obtain ⟨W,hW⟩:=zX (p.W)
 obtain ⟨H,hH⟩:=zX (p.H)
 obtain ⟨d,hd⟩:=zX (p.d)
 obtain ⟨n,hn⟩:=zX (p.P.length)
 obtain ⟨N,hN⟩:=zX (W*H)
 rw [<-hW,<-hH,<-hd,<-hn]
 have bz:n<=4:=by rw [hn];exact ao.n1
 have bv:1<=n:=by rw [hn];exact ao.n0
 have a7:∀ w',Chg [] w w'->∀ i,i<n->∃ b q,w'.cell? ⟨g,o+i,none⟩=some (.slice (some ⟨b,q,none⟩) N (c i))/\∀ w1,Chg [] w w1->Cells (fun u=>u) w1 (some ⟨b,q,none⟩) ((p.P.getD i []).map vi):=by
  intro w' hc i hi
  rw [hn] at hi
  obtain ⟨b,q,e,hb,hk⟩:=h.at_ hi
  have av:=(h.same hc).cell i hi
  rw [e,<-hW,<-hH,<-hN] at av
  refine ⟨b,q,av,fun w1 hc1 => ?_⟩
  have ab:=(h.same hc1).cells i hi
  rw [e] at ab
  refine ⟨fun h0 => ?_⟩
  obtain ⟨b,o,e1,e2,e3⟩:=ab.ex (by simpa using h0)
  refine ⟨b,o,e1,e2,fun i a ha => ?_⟩
  rw [zW] at ha
  obtain ⟨x,hx,rfl⟩:=Option.map_eq_some_iff.1 ha
  exact e3 i x hx
 have aw:∀ i,i<n->(p.P.getD i []).length=N:=fun i hi=>by rw [hN,hW,hH];exact h.len (by rw [<-hn];exact hi)
 have be:0<N:=by rw [hN,hW,hH];exact ao.pos
 have bw:N<=4096:=by rw [hN,hW,hH];exact ao.area
 have a9:∀ (cs:Array Value),Blk ((w.alloc (.cells #[.int .i64 W,.int .i64 H,.int .i64 d,.slice (some ⟨g,o,none⟩) n cap] 27)).alloc (.cells cs 27)) w.heap.size 27 #[.int .i64 W,.int .i64 H,.int .i64 d,.slice (some ⟨g,o,none⟩) n cap]:=fun cs=>(Blk.new w _ _).alloc _
 obtain ⟨wA,an⟩:=zX (((w.alloc (.cells #[.int .i64 W,.int .i64 H,.int .i64 d,.slice (some ⟨g,o,none⟩) n cap] 27)).alloc (.cells #[.int .i64 0,.int .i64 0,.int .i64 0,.slice none 0 0] 27)))
 have a4:Chg [] w wA:=by rw [an];exact ((zR [] w).alloc _).alloc _
 obtain ⟨w1,aq⟩:=zX (wA.alloc (.cells #[.int .i64 W,.int .i64 H,.int .i64 d,.slice none 0 0] 27))
 obtain ⟨rb,aB⟩:=zX (w.heap.size+1)
 obtain ⟨cb,aO⟩:=zX (rb+1)
 have al:wA.heap.size=cb:=by rw [an,alloc_size,alloc_size,aO,aB]
 have a5:CpSt [] wA W H d cb w1 (.slice none 0 0) [] [] [] []:=by
  refine ⟨by rw [aq,<-al];exact Blk.new wA _ _,Own.nil _ _,PlRows.nil _,by simp,by simp,by simp,?_,by simp,by rw [aq];exact (zR [] wA).alloc _⟩
  intro x hx
  simp at hx
  omega
 have ar:Blk wA w.heap.size 27 #[.int .i64 W,.int .i64 H,.int .i64 d,.slice (some ⟨g,o,none⟩) n cap]:=by rw [an];exact a9 _
 have au:Blk wA rb 27 #[.int .i64 0,.int .i64 0,.int .i64 0,.slice none 0 0]:=by rw [an,aB];exact Blk.new2 w _ _ _
 rw [an] at aq
 have HP:Hid (p.P.length=n):=hid hn.symm
 have bx:Hid (p=⟨W,H,d,p.P⟩):=hid (by rw [hW,hH,hd])
 have bd:=hid ao
 have bj:=hid aq
 have aJ:=hid aB
 have a6:=hid aO
 have bk:=hid au
 have bp:=hid a5
 have ai:=hid a4
 have bm:=hid al
 have br:=hid a7
 have aV:=hid aw
 have aM:=hid (h.lt g h.gG)
 have aN:=hid ar
 have bA:rb≠cb:=by omega
 clear hW hH hd hn hN ao aq a4 a7 h a5 au an aB aO al aw a9 ar
 go_enter Tryz.func28,Tryz.ntmps28
 go_wp2_with fail
 rw [<-bj.out,<-aJ.out,<-a6.out]
 go_loopg [4] n (fun j v16 wr=>∃ (i:Nat) (vP:Value) (F:List Nat) (xs:List Value) (gs:List Nat),v16=.int .i64 i/\i+j=n/\Hid (CpSt [] wA W H d cb wr vP F xs (p.P.take i) gs))
 case atStart=>exact ⟨0,_,[],[],[],rfl,by omega,hid (by simpa using bp.out)⟩
 case round =>
  obtain ⟨i,vP,F,xs,gs,rfl,bC,HS⟩:=hrel
  rcases gk with _ | j
  ·obtain rfl:i=n:=by omega
   have t1:decide (i<i)=false:=by simp
   have bc:p.P.take i=p.P:=zT (by rw [HP.out];exact zQ _)
   have hs:=HS.out
   rw [bc] at hs
   have am:xs.length=i:=by rw [hs.pl.lx,HP.out]
   rcases hs.own.cases with ⟨_,he,_⟩ | ⟨gP,aj,hF⟩
   ·exfalso
    rw [he] at am
    simp at am
    omega
   have hr:=aj
   obtain ⟨capP,rfl,aW,aE,-,-⟩:=aj.open_
   rw [am] at hr hs
   have b0:=hs.blk.cell 0
   have b1:=hs.blk.cell 1
   have b2:=hs.blk.cell 2
   have b3:=hs.blk.cell 3
   simp at b0 b1 b2 b3
   have ah:=(aN.out.chg HS.out.chg (by simp)).cell 3
   simp at ah
   have ac:=bk.out.chg hs.chg (by simp)
   have z0:=ac.frozen 0
   have z1:=ac.frozen 1
   have z2:=ac.frozen 2
   have z3:=ac.frozen 3
   have k0:=ac.cell 0
   have k1:=ac.cell 1
   have k2:=ac.cell 2
   have k3:=ac.cell 3
   simp at k0 k1 k2 k3
   clear aj aW aE bc
   go_wp2_with fail
   obtain ⟨w9,aK⟩:=zX ((((wr.setCell ⟨rb,0,none⟩ (.int .i64 W)).setCell ⟨rb,1,none⟩ (.int .i64 H)).setCell ⟨rb,2,none⟩ (.int .i64 d)).setCell ⟨rb,3,none⟩ (.slice (some ⟨gP,0,none⟩) i capP))
   have ax:Blk w9 rb 27 #[.int .i64 W,.int .i64 H,.int .i64 d,.slice (some ⟨gP,0,none⟩) i capP]:=by
    rw [aK]
    have:=(((ac.set_ 0 (.int .i64 W)).set_ 1 (.int .i64 H)).set_ 2 (.int .i64 d)).set_ 3 (.slice (some ⟨gP,0,none⟩) i capP)
    simpa using this
   have aQ:Chg [rb] wr w9:=by
    rw [aK]
    exact ((((zR [rb] wr).setCell (p:=⟨rb,0,none⟩) (.inl (by simp)) _).setCell (p:=⟨rb,1,none⟩) (.inl (by simp)) _).setCell (p:=⟨rb,2,none⟩) (.inl (by simp)) _).setCell (p:=⟨rb,3,none⟩) (.inl (by simp)) _
   have g0:=ax.cell 0
   have g1:=ax.cell 1
   have g2:=ax.cell 2
   have g3:=ax.cell 3
   simp at g0 g1 g2 g3
   rw [<-aK]
   refine bodyPost_ret (v:=.agg #[.int .i64 W,.int .i64 H,.int .i64 d,.slice (some ⟨gP,0,none⟩) i capP]) (by simp [results,Tryz.results28,go_sem,g0,g1,g2,g3]) rfl ?_
   have ak:∀ x∈gP::gs,rb<x:=by
    intro x hx
    have:=bm.out
    have:=a6.out
    rcases zJ.1 hx with rfl | hx
    ·have:=hs.new x (by simp [hF]);omega
    ·have:=hs.new x (by simp [hx]);omega
   refine ⟨gP,capP,xs,gs,rfl,⟨bd.out,?_,hs.pl.chg aQ ?_⟩,?_,?_⟩
   ·rw [HP.out]
    refine hr.chg aQ ?_
    intro hm
    have:=ak gP (by simp)
    simp at hm
    omega
   ·intro x hx hm
    have:=ak x (by simp [hx])
    simp at hm
    omega
   ·refine (ai.out.trans_same hs.chg).trans aQ ?_
    intro x hx
    simp at hx
    have:=aJ.out
    exact .inr (by omega)
   ·intro x hx
    have:=ak x hx
    have:=aJ.out
    omega
  ·have hi:i<n:=by omega
   have t1:decide (i<n)=true:=zB hi
   obtain ⟨b,q,av,hk⟩:=br.out wr (ai.out.trans_same HS.out.chg) i hi
   have aF:i<p.P.length:=by rw [HP.out];exact hi
   have aY:Hid (p.P.take (i+1)=p.P.take i++[p.P.getD i []]):=hid (by
    rw [List.take_succ_eq_append_getElem aF,zD,zF aF]
    rfl)
   have am:Hid (xs.length=i):=hid (by rw [HS.out.pl.lx,zI];omega)
   have y3:=HS.out.blk.cell 3
   simp at y3
   have ah:=(aN.out.chg HS.out.chg (by simp)).cell 3
   simp at ah
   have HI:=hid hi
   obtain ⟨l,hl⟩:=zX (p.P.getD i [])
   have aT:=aV.out i hi
   rw [<-hl] at aY hk aT
   have HK:=hid hk
   have az:=hid aT
   obtain ⟨wB,aX⟩:=zX (wr.alloc (.cells #[] 3))
   have aH:Chg [] wr wB:=by rw [aX];exact (zR [] wr).alloc _
   have hz:Own wB.drew 3 (.slice (some ⟨wr.heap.size,0,none⟩) 0 0) [wr.heap.size] []:=by rw [aX];exact ((Row.made wr 3 [] (by simp [maxLen])).drew).toOwn
   have a3:Cells (fun u=>u) wB.drew (some ⟨b,q,none⟩) (l.map vi):=HK.out _ (((ai.out.trans_same HS.out.chg).trans_same aH).drew)
   have bB:=HS.out.same aH.drew
   have yB:=(HS.out.blk.alloc (.cells #[] 3)).cell 3
   simp at yB
   have HZ:=hid hz
   have aU:=hid a3
   have aZ:=hid aX
   have ad:∀ wz,Chg [] wA wz->wz.cell? ⟨w.heap.size,3,none⟩=some (.slice (some ⟨g,o,none⟩) n cap):=fun wz hz=>by
    have h:=(aN.out.chg hz (by simp)).cell 3
    simpa using h
   have aa:=hid ad
   clear hk aF hl aT hz a3 ad
   have a0:∀ wz,Chg [] wr wz->wz.cell? ⟨g,o+i,none⟩=some (.slice (some ⟨b,q,none⟩) N (c i)):=fun wz hz=>(World.cell?_of_block (w:=wr) (hz.block g (Nat.lt_of_lt_of_le aM.out (ai.out.trans_same HS.out.chg).size) (by simp))).trans av
   have aI:=hid a0
   have a2:∀ wz,Chg [] w wz->wz.cell? ⟨g,o+i,none⟩=some (.slice (some ⟨b,q,none⟩) N (c i)):=fun wz hz=>by
    have h0:w.cell? ⟨g,o+i,none⟩=some (.slice (some ⟨b,q,none⟩) N (c i)):=by
     rw [<-av]
     exact (World.cell?_of_block (w:=w) ((ai.out.trans_same HS.out.chg).block g aM.out (by simp))).symm
    exact (World.cell?_of_block (w:=w) (hz.block g aM.out (by simp))).trans h0
   have ba:=hid a2
   have bu:Hid (wr.heap.size<=wB.heap.size):=hid aH.size
   clear a0 a2
   have za:=aa.out _ (HS.out.chg.alloc (.cells #[] 3))
   have zb:=aI.out _ ((zR [] wr).alloc (.cells #[] 3))
   go_wp2_with fail
   go_region_law
    (first
     | (refine step_append_s (by rfl) (by rfl) int_elem (by rfl) (by rfl) (by have h := HZ.out;rw [aZ.out] at h;exact h) (l.map vi) N (by rfl) (by rw [zE];exact az.out.symm) (by have h := aU.out;rw [aZ.out] at h;exact h) (vi_one _) (by rw [zE,az.out];simp;omega) (by rw [zE,az.out];simp;omega) ?_;intro v5 F5 w5 ap aS;obtain ⟨g5,c5,rfl,ag,a1⟩ := own_row ap (by rw [zC,zE,az.out];simp) be;have ae:Chg [] wr w5 := (((zR [] wr).alloc (.cells #[] 3)).drew).trans aS.chg (fun x hx => .inr (by simp at hx;omega));have a8:wr.heap.size<=g5 := (by rcases aS.new g5 (by rw [a1];simp) with hh | hh;simp at hh;omega;have := ((zR [] wr).alloc (.cells #[] 3)).size;simp at hh;omega);have aP := HS.out.same ae;have af := aP.own;have aC := aP.blk;have y5 := aC.cell 3;have n5 := (aC.alloc (.cells #[.slice (some ⟨g5,0,none⟩) N c5] 22)).cell 3;have bs := aa.out w5 (HS.out.chg.trans_same ae);have bf := aI.out w5 ae;have bi := aa.out _ ((HS.out.chg.trans_same ae).alloc (.cells #[.slice (some ⟨g5,0,none⟩) N c5] 22));have bh := aI.out _ (ae.alloc (.cells #[.slice (some ⟨g5,0,none⟩) N c5] 22));simp at y5 n5)
     | (refine step_append_o1 (by rfl) (by rfl) rows_el (by rfl) (by rfl) (af.alloc (.cells #[.slice (some ⟨g5,0,none⟩) N c5] 22)) (.slice (some ⟨g5,0,none⟩) N c5) (by rfl) (by simp [go_sem]) (by rfl) (by rw [am.out];omega) (by rw [am.out];omega) ?_;intro g2 aD w6 bb aA;have aG := (aC.alloc (.cells #[.slice (some ⟨g5,0,none⟩) N c5] 22)).chg aA.chg HS.out.cF;have y6 := aG.cell 3;have z6 := aG.frozen 3;simp at y6;have ay:Chg [] wA w6 := ((HS.out.chg.trans_same ae).alloc (.cells #[.slice (some ⟨g5,0,none⟩) N c5] 22)).trans aA.chg (fun x hx => .inr (HS.out.new x (by simp [hx])));have aL:Chg [] wA (w6.setCell ⟨cb,3,none⟩ (.slice (some ⟨g2,0,none⟩) (xs.length+1) aD)) := ay.setCell (.inr (HS.out.new cb (by simp))) _;have bg := aa.out w6 ay;have bo := ba.out w6 (ai.out.trans_same ay);have bq := aa.out _ aL;have bl := ba.out _ (ai.out.trans_same aL)))
   all_goals
    have aR:=CpSt.next HS.out (ae.alloc (.cells #[.slice (some ⟨g5,0,none⟩) N c5] 22)) (ag.alloc _) a8 bb aA
    rw [<-aY.out] at aR
    have bn:=hid aR
    clear aR bb aA aG y6 z6 y5 n5 aC af aP ag ae ay aL bs bf bi bh bg bo bq bl ap aS a1 a8
    go_wp2_with fail
    go_roundg j
    case measure=>omega
    case rel=>exact ⟨i+1,_,_,_,_,by go_num,by omega,bn⟩
end Go.Proofs.YtepjepkgcdfboaaGreatDoor
