/- package prefix by its contracts, the third part: next. -/
import Derived.Test.YtijpbkakncglgaaGreatDoorMg13
import Derived.Deep.RegionHeld3
import Derived.Test.YtijpbkakncglgaaGreatDoorMg16
set_option linter.unusedVariables false
set_option linter.unusedSimpArgs false
set_option maxHeartbeats 4000000
set_option maxRecDepth 100000
namespace Go.Proofs.YtijpbkakncglgaaGreatDoor
open Go.RowKit
theorem packs_snoc2 (a b:El):∀ l:List El,l.length%2=0→packs (l++[a,b])=packs l++[.pack a b]
 | [],_=>rfl
 | [_],h=>by simp at h
 | x::y::l,h=>by
  have:=packs_snoc2 a b l (by simp at h;omega)
  simp only [List.cons_append,packs,this]
theorem packs_take_succ (l:List El) (q:Nat) (h:2*q+1<l.length):packs (l.take (2*q+2))=packs (l.take (2*q))++[.pack l[2*q] l[2*q+1]]:=by
 have e1:l.take (2*q+2)=l.take (2*q)++[l[2*q],l[2*q+1]]:=by
  rw [take_snoc' l h,take_snoc' l (by omega),List.append_assoc]
  rfl
 rw [e1,packs_snoc2 _ _ _ (by rw [List.length_take];omega)]
theorem packs_take_all (l:List El) {q:Nat} (h1:2*q≤l.length) (h2:l.length≤2*q+1):packs (l.take (2*q))=packs l:=by
 by_cases h:l.length=2*q
 ·rw [←h,List.take_length]
 ·have hl:l.length=2*q+1:=by omega
  have e:l=l.take (2*q)++[l[2*q]'(by omega)]:=by
   rw [←take_snoc' l (by omega),List.take_of_length_le (by omega)]
  have key:∀ (m:List El) (a:El),m.length%2=0→packs (m++[a])=packs m:=by
   intro m a
   induction m using packs.induct with
   | case1 x y m im =>
    intro hm
    simp only [List.cons_append,packs]
    rw [im (by simp at hm;omega)]
   | case2 m hm0 =>
    intro hm
    cases m with
    | nil=>rfl
    | cons x m =>
     cases m with
     | nil=>simp at hm
     | cons y m=>exact absurd rfl (hm0 x y m)
  conv=>rhs;rw [e]
  rw [key _ _ (by rw [List.length_take];omega)]
theorem ptr_elem:Elem Tryz.prog 209 210 (.pointer none) 1 8:=.mk' Tryz.underlying209 (by kernel_rfl)
theorem encE_one (l:List PE):∀ u∈l.map encE,u.oneCell'=true:=by
 intro u hu
 obtain ⟨p,_,rfl⟩:=List.mem_map.1 hu
 rfl
theorem next_ok (P:Nat→Prop) (w:World) (hP:∀ x,w.heap.size≤x→P x) (AC AR:Option Addr) (cC cR:Nat) (C R:List PE) (h2:2≤C.length) (hCl:C.length≤1024) (hRl:R.length≤4096) (hcC:Cells encE w AC C) (hcR:Cells encE w AR R) (hEC:Els P w C) (hER:Els P w R) (hwt:∀ p∈R,p.2.wt≤1125899906842624) :
  Calls Tryz.prog 182 #[.slice AC C.length cC,.slice AR R.length cR] w fun e w'=>∃ v g E',e=.returned v∧Row w' 210 v g (E'.map encE)∧E'.map (·.2)=sortT (C.map (·.2)++packs (R.map (·.2)))∧Els P w' E'∧Chg [] w w'∧w.heap.size≤g:=by
 obtain ⟨n,hn⟩:∃ n,n=R.length:=⟨_,rfl⟩
 obtain ⟨c,hc⟩:∃ c,c=C.length:=⟨_,rfl⟩
 rw [←hn] at hRl ⊢
 rw [←hc] at h2 hCl ⊢
 have HN:=hid hn
 have HC:=hid hc
 have HWT:=hid hwt
 have HEC:=hid hEC
 have HPP:=hid hP
 have HER:=hid hER
 clear hn hc hwt hEC hER hP
 have hsrc:Cells (fun u=>u) w AC (C.map encE):=⟨fun h0=>by
  obtain ⟨b,o,e1,e2,e3⟩:=hcC.ex (by simpa using h0)
  exact ⟨b,o,e1,e2,fun i a ha=>by
   rw [List.getElem?_map] at ha
   cases hC:C[i]? with
   | none=>rw [hC] at ha;cases ha
   | some p=>rw [hC] at ha;injection ha with ha;rw [←ha];exact e3 i p hC⟩⟩
 go_enter Tryz.func182,Tryz.ntmps182
 go_wp2_with (at_builtin;refine wpList_append_s rfl rfl ptr_elem rfl rfl (Own.nil w 210) (C.map encE) c rfl ?c1 ?c2 ?c3 ?c4 ?c5 ?_)
 case c1=>rw [zE];exact HC.out
 case c2=>exact hsrc
 case c3=>exact encE_one _
 case c4=>rw [zE,←HC.out];simp;omega
 case c5=>rw [zE,←HC.out];simp;omega
 intro v1 F1 w1 h1 h3
 have hcase:=h1.cases
 rcases hcase with ⟨_,hnil,_⟩ | ⟨g1,row1,rfl⟩
 ·exfalso
  have:=congrArg List.length hnil
  rw [zE,←HC.out] at this
  simp at this
  omega
 have hg1:w.heap.size≤g1:=by
  rcases h3.new g1 (by simp) with h | h
  ·simp at h
  ·exact h
 have ch1:Chg [] w w1:=h3.chg
 clear h1 h3 hsrc hcC
 have hcl:(C.map (·.2)).length=c:=by rw [zE,HC.out]
 obtain ⟨T,hT⟩:∃ T,T=R.map (·.2):=⟨_,rfl⟩
 have hTl:T.length=n:=by rw [hT,zE,HN.out]
 have HT:=hid hT
 have HTL:=hid hTl
 clear hT hTl hcl
 go_wp2
 go_loopg [5,6] n (fun k vo vi' wr=>∃ (q:Nat) (Q:List PE) (g0:Nat),vi'=.int .i64 ((2*q:Nat):Int)∧2*q≤n∧n≤2*q+k∧Row wr 210 vo g0 ((C++Q).map encE)∧Hid (Q.map (·.2)=packs (T.take (2*q)))∧Q.length=q∧Els (fun x=>x≠g0∧P x) wr Q∧w.heap.size≤g0∧Chg [] w wr)
 case atStart=>exact ⟨0,[],g1,rfl,by omega,by omega,by rw [List.append_nil];exact row1,hid (by simp [packs]),rfl,by intro p hp;simp at hp,hg1,ch1⟩
 case round =>
  clear row1 ch1 hg1
  obtain ⟨q,Q,g0,rfl,hq1,hq2,hrow,HQ,hQl,hEQ,hg0,hch⟩:=hrel
  obtain ⟨cap0,rfl,hcap0,hcapm0,_,_⟩:=hrow.open_map
  have hCQ:(C++Q).length=c+q:=by rw [zC,←HC.out,hQl]
  rw [hCQ] at hcap0 ⊢
  by_cases hend:n≤2*q+1
  ·have t1:decide (((2*q:Nat):Int)+1<(n:Int))=false:=zA (by omega)
   have hor:=order_ok wr _ g0 (C++Q) (by omega) (by omega) hrow (by
    intro p hp
    rcases List.mem_append.1 hp with h5 | h5
    ·exact ((HEC.out p h5).imp (Q:=fun x=>x≠g0) fun x hx _=>by omega).same hch
    ·exact (hEQ p h5).imp fun x _ h=>h.1)
   rw [hCQ] at hor
   have hE2:Hid (Els (fun x=>x≠g0∧P x) wr (C++Q)):=hid (by
    intro p hp
    rcases List.mem_append.1 hp with h5 | h5
    ·exact ((HEC.out p h5).imp (Q:=fun x=>x≠g0∧P x) fun x hx h=>⟨by omega,h⟩).same hch
    ·exact hEQ p h5)
   clear hEQ
   go_wp2_with fail
   refine hor.mono ?_
   rintro e w2 ⟨rfl,k3,k4⟩
   have k1:=sortE_perm (fun p:PE=>p.2) (C++Q) ((C++Q).headD default)
   have k0:=sortE_map (fun p:PE=>p.2) (C++Q) ((C++Q).headD default)
   obtain ⟨E',hE'⟩:∃ E',E'=sortE (fun p:PE=>p.2) (C++Q) ((C++Q).headD default):=⟨_,rfl⟩
   rw [←hE'] at k0 k1 k3
   have K0:=hid k0
   have K1:=hid k1
   clear k0 k1 hE'
   go_wp2
   go_ret
   refine ⟨_,g0,E',rfl,k3,?_,?_,hch.trans k4 (fun x hx=>by rw [List.mem_singleton.1 hx];exact .inr hg0),hg0⟩
   ·have e1:=K0.out
    rw [List.map_append,HQ.out,packs_take_all T (by rw [HTL.out];exact hq1) (by rw [HTL.out];exact hend),HT.out] at e1
    exact e1
   ·intro p hp
    have h5:=hE2.out p (K1.out.mem_iff.1 hp)
    exact (h5.chg k4 (fun x hx=>by rw [List.mem_singleton.1 hx];simp)).imp fun _ _ h=>h.2
  ·rcases gk with _ | gk
   ·omega
   ·have t1:decide (((2*q:Nat):Int)+1<(n:Int))=true:=zB (by omega)
    have hRq:2*q+1<R.length:=by rw [←HN.out];omega
    have hcR':=hcR.same hch
    obtain ⟨gr,orr,rfl,hgr,hcc⟩:=hcR'.ex (by omega)
    have p1:=hcc (2*q) _ (zF (by omega))
    have p2:=hcc (2*q+1) _ (zF hRq)
    have m1:R[2*q]∈R:=zG _
    have m2:R[2*q+1]∈R:=zG _
    have hpk:packs (T.take (2*(q+1)))=packs (T.take (2*q))++[.pack R[2*q].2 R[2*q+1].2]:=by
     have:=packs_take_succ T q (by rw [HTL.out];omega)
     rw [show 2*(q+1)=2*q+2 by omega,this]
     congr 3<;>simp [HT.out]
    have w1':=HWT.out _ m1
    have w2':=HWT.out _ m2
    have el1:=HER.out _ m1
    have el2:=HER.out _ m2
    generalize R[2*q]=x1 at *
    generalize R[2*q+1]=x2 at *
    obtain ⟨b1,t1'⟩:=x1
    obtain ⟨b2,t2'⟩:=x2
    simp only at w1' w2' el1 el2 hpk
    have c1:=(el1.same hch).head.2.2
    have c2:=(el2.same hch).head.2.2
    have p1':wr.cell? ⟨gr,orr+2*q,none⟩=some (.pointer (some ⟨b1,0,none⟩)):=p1
    have p2':wr.cell? ⟨gr,orr+(2*q+1),none⟩=some (.pointer (some ⟨b2,0,none⟩)):=p2
    obtain ⟨i,hi⟩:∃ i,i=2*q:=⟨_,rfl⟩
    rw [←hi] at p1' p2' t1 hq1 hq2 hend hRq hpk ⊢
    have HPK:=hid hpk
    have HI:=hid hi
    have EL1:=hid el1
    have EL2:=hid el2
    have HEQ:=hid hEQ
    have HCH:=hid hch
    have hb0:(0:Int)≤(i:Int):=by omega
    have hb1:(i:Int)<(n:Int):=by omega
    obtain ⟨i1,hi1⟩:∃ i1,i1=i+1:=⟨_,rfl⟩
    have hb2:(i1:Int)<(n:Int):=by omega
    have hb3:(0:Int)≤(i1:Int):=by omega
    have hb4:(i:Int)+1=(i1:Int):=by omega
    have hb6:IntKind.i64.wrap (i1:Int)=(i1:Int):=IntWalk.i64_in _ (by omega)
    have hb5:IntKind.i64.wrap ((i:Int)+1)=(i1:Int):=by rw [hb4];exact hb6
    rw [←hi1] at p2'
    clear hi1
    have hw63:IntKind.i64.wrap (((t1'.wt:Nat):Int)+((t2'.wt:Nat):Int))=((t1'.wt+t2'.wt:Nat):Int):=by
     have e:((t1'.wt:Nat):Int)+((t2'.wt:Nat):Int)=((t1'.wt+t2'.wt:Nat):Int):=by simp
     rw [e]
     exact IntWalk.i64_in _ (by omega)
    have hS:∀ w',Chg [g0] wr w'→w'.cell? ⟨gr,orr+i,none⟩=some (.pointer (some ⟨b1,0,none⟩))∧w'.cell? ⟨gr,orr+i1,none⟩=some (.pointer (some ⟨b2,0,none⟩))∧w'.cell? ⟨b1,0,none⟩=some (.int .i64 t1'.wt)∧w'.cell? ⟨b2,0,none⟩=some (.int .i64 t2'.wt):=by
     intro w' hc'
     obtain ⟨gr',or',e',hgr',_⟩:=hcR.ex (by omega)
     injection e' with e'
     injection e' with e1 e2 _
     subst e1
     have q1:=el1.head.2.1
     have q2:=el2.head.2.1
     exact ⟨(World.cell?_of_block (w:=wr) (hc'.block gr hgr (by simp;omega))).trans p1',(World.cell?_of_block (w:=wr) (hc'.block gr hgr (by simp;omega))).trans p2',
      (World.cell?_of_block (w:=wr) (hc'.block b1 (Nat.lt_of_lt_of_le q1 hch.size) (by simp;omega))).trans c1,(World.cell?_of_block (w:=wr) (hc'.block b2 (Nat.lt_of_lt_of_le q2 hch.size) (by simp;omega))).trans c2⟩
    obtain ⟨k1,hk1⟩:∃ k1,k1=t1'.wt:=⟨_,rfl⟩
    obtain ⟨k2,hk2⟩:∃ k2,k2=t2'.wt:=⟨_,rfl⟩
    rw [←hk1] at c1 w1' hw63 hS
    rw [←hk2] at c2 w2' hw63 hS
    have HK1:=hid hk1
    have HK2:=hid hk2
    have HQL:=hid hQl
    have HS:=hid hS
    have hown:=hrow.toOwn
    have hg0l:=hrow.lt
    have hll:((C++Q).map encE).length≤8192:=by rw [zE,hCQ];omega
    clear hcc p1 p2 m1 m2 hpk el1 el2 hEQ hcR' hi hQl hS hk1 hk2
    have HQ1:Hid (i+1<n):=hid (by omega)
    clear hq1 hend hRq
    obtain ⟨wx,hwx⟩:∃ wx,wx=(((wr.alloc (.cells #[.pointer (some ⟨b1,0,none⟩),.pointer (some ⟨b2,0,none⟩)] 210)).alloc (.cells #[.int .i64 ((k1:Int)+(k2:Int)),.int .i64 0,.slice (some ⟨wr.heap.size,0,none⟩) 2 2] 212)).alloc (.cells #[.pointer (some ⟨wr.heap.size+1,0,none⟩)] 210)).drew:=⟨_,rfl⟩
    have hchx:Chg [] wr wx:=by rw [hwx];exact (((((Chg.refl [] wr).alloc _).alloc _).alloc _).drew)
    have howx:=hown.same hchx
    rw [hCQ] at howx
    have hux:wx.cell? ⟨wr.heap.size+2,0,none⟩=some (.pointer (some ⟨wr.heap.size+1,0,none⟩)):=by
     rw [hwx]
     have:=(Blk.new ((wr.alloc (.cells #[.pointer (some ⟨b1,0,none⟩),.pointer (some ⟨b2,0,none⟩)] 210)).alloc (.cells #[.int .i64 ((k1:Int)+(k2:Int)),.int .i64 0,.slice (some ⟨wr.heap.size,0,none⟩) 2 2] 212)) 210 #[.pointer (some ⟨wr.heap.size+1,0,none⟩)]).cell 0
     simpa using this
    have HX:=hid hwx
    have HCX:Hid (Chg [g0] wr wx):=hid (hchx.mono (by simp))
    go_wp2
    go_region_held3 (fun w'=>w'.cell? ⟨gr,orr+i,none⟩=some (.pointer (some ⟨b1,0,none⟩))∧w'.cell? ⟨gr,orr+i1,none⟩=some (.pointer (some ⟨b2,0,none⟩))∧w'.cell? ⟨b1,0,none⟩=some (.int .i64 k1)∧w'.cell? ⟨b2,0,none⟩=some (.int .i64 k2)) (first | (go_keep;done) | exact HS.out _ ((Chg.refl [g0] wr).alloc _) | exact HS.out _ (((Chg.refl [g0] wr).alloc _).alloc _) | exact HS.out _ ((((Chg.refl [g0] wr).alloc _).alloc _).alloc _) | exact HS.out _ (((((Chg.refl [g0] wr).alloc _).alloc _).alloc _).drew) | exact HS.out _ (HCX.out.trans_same (Grow.chg (by assumption))))
     (first | (rw [←HX.out];refine step_append_o1 (by rfl) (by rfl) ptr_elem (by rfl) (by rfl) howx (.pointer (some ⟨wr.heap.size+1,0,none⟩)) (by rfl) hux (by rfl) (by omega) (by omega) ?_;intro g2 cap2 w5 hr2 gr2))
    go_wp2_with fail
    go_roundg gk
    case measure=>omega
    case rel =>
     have hwxs:wx.heap.size=wr.heap.size+3:=by rw [HX.out];simp
     have hg2:g2=g0∨wr.heap.size+3≤g2:=by
      rcases gr2.new g2 (by simp) with h5 | h5
      ·exact .inl (by simpa using h5)
      ·exact .inr (by omega)
     have hB1:Blk wx wr.heap.size 210 #[.pointer (some ⟨b1,0,none⟩),.pointer (some ⟨b2,0,none⟩)]:=by
      rw [HX.out]
      exact (((Blk.new wr _ _).alloc _).alloc _).drew
     have hB2:Blk wx (wr.heap.size+1) 212 #[.int .i64 ((k1:Int)+(k2:Int)),.int .i64 0,.slice (some ⟨wr.heap.size,0,none⟩) 2 2]:=by
      rw [HX.out]
      have:=Blk.new (wr.alloc (.cells #[.pointer (some ⟨b1,0,none⟩),.pointer (some ⟨b2,0,none⟩)] 210)) 212 #[.int .i64 ((k1:Int)+(k2:Int)),.int .i64 0,.slice (some ⟨wr.heap.size,0,none⟩) 2 2]
      have e:(wr.alloc (.cells #[.pointer (some ⟨b1,0,none⟩),.pointer (some ⟨b2,0,none⟩)] 210)).heap.size=wr.heap.size+1:=by simp
      rw [e] at this
      exact (this.alloc _).drew
     have hB1':=hB1.chg gr2.chg (by simp;omega)
     have hB2':=hB2.chg gr2.chg (by simp;omega)
     have hch5:Chg [] w w5:=(HCH.out.trans_same hchx).trans gr2.chg (fun x hx=>by rw [List.mem_singleton.1 hx];exact .inr hg0)
     have hsz:=HCH.out.size
     have hold:∀ (e:El) (bb:Nat),IsEl P w e bb→IsEl (fun x=>x≠g2∧P x) w5 e bb:=fun e bb h=>(h.imp (Q:=fun x=>x≠g2∧P x) fun x hx h9=>⟨by rcases hg2 with rfl | h6<;>omega,h9⟩).same hch5
     refine ⟨q+1,Q++[(wr.heap.size+1,.pack t1' t2')],g2,?_,?_,?_,?_,hid ?_,?_,?_,?_,hch5⟩
     ·have e:((2*(q+1):Nat):Int)=(i:Int)+2:=by have:=HI.out;omega
      rw [e]
     ·have:=HI.out;have:=HQ1.out;omega
     ·have:=HI.out;omega
     ·have e:(C++(Q++[(wr.heap.size+1,El.pack t1' t2')])).map encE=(C++Q).map encE++[.pointer (some ⟨wr.heap.size+1,0,none⟩)]:=by
       rw [←List.append_assoc,List.map_append];rfl
      rw [e]
      have e2:((C++Q).map encE).length+1=C.length+Q.length+1:=by simp
      rw [←e2]
      exact hr2
     ·rw [List.map_append,HQ.out,HPK.out,HI.out];rfl
     ·rw [zC,HQL.out];rfl
     ·intro p hp
      rcases List.mem_append.1 hp with h5 | h5
      ·have h6:=((HEQ.out p h5).same hchx).imp (Q:=fun x=>x≠g0∧x≠g2∧P x) fun x hx h7=>⟨h7.1,by rcases hg2 with rfl | h8;exact h7.1;omega,h7.2⟩
       exact (h6.chg gr2.chg (fun x hx=>by rw [List.mem_singleton.1 hx];simp)).imp fun _ _ h=>h.2
      ·rw [List.mem_singleton.1 h5]
       refine ⟨wr.heap.size,b1,b2,?_,?_,?_,hB1',hold _ _ EL1.out,hold _ _ EL2.out⟩
       ·exact ⟨by rcases hg2 with rfl | h6<;>omega,HPP.out _ (by omega)⟩
       ·exact ⟨by rcases hg2 with rfl | h6<;>omega,HPP.out _ (by omega)⟩
       ·rw [←HK1.out,←HK2.out,Int.natCast_add]
        exact hB2'
     ·rcases hg2 with rfl | h6<;>omega
def addOcc (t:El) (l:List Nat):List Nat:=l.mapIdx fun s x=>x+t.occ s
def El.symsIn (n:Nat):El→Prop
 | .coin s _=>s<n
 | .pack a b=>a.symsIn n∧b.symsIn n
theorem addOcc_len (t:El) (l:List Nat):(addOcc t l).length=l.length:=by simp [addOcc]
theorem addOcc_getD (t:El) (l:List Nat) {s:Nat} (h:s<l.length):(addOcc t l).getD s 0=l.getD s 0+t.occ s:=by
 simp [addOcc,zD,h]
theorem addOcc_pack (a b:El) (l:List Nat):addOcc b (addOcc a l)=addOcc (.pack a b) l:=by
 unfold addOcc
 rw [List.mapIdx_mapIdx]
 congr 1
 funext s x
 show x+a.occ s+b.occ s=x+(a.occ s+b.occ s)
 omega
theorem addOcc_coin (s k:Nat) (l:List Nat) (h:s<l.length):addOcc (.coin s k) l=l.set s (l.getD s 0+1):=by
 apply List.ext_getElem?
 intro i
 unfold addOcc
 rw [List.getElem?_mapIdx,List.getElem?_set]
 by_cases hi:s=i
 ·subst hi
  rw [if_pos rfl,if_pos h,zD,zF h]
  simp [El.occ]
 ·rw [if_neg hi]
  cases hl:l[i]? with
  | none=>rfl
  | some x =>
   simp only [Option.map_some,El.occ]
   rw [if_neg hi]
   rfl
theorem count_ok (g cap n:Nat):∀ (t:El) (b:Nat) (l:List Nat) (w:World),l.length=n→t.symsIn n→(∀ s,l.getD s 0+t.occ s≤4096)→IsEl (·≠g) w t b→Row w 3 (.slice (some ⟨g,0,none⟩) n cap) g (l.map i64) →
  Calls Tryz.prog 183 #[.pointer (some ⟨b,0,none⟩),.slice (some ⟨g,0,none⟩) n cap] w fun e w'=>e=.returned (.tuple #[])∧Row w' 3 (.slice (some ⟨g,0,none⟩) n cap) g ((addOcc t l).map i64)∧Chg [g] w w':=by
 intro t
 induction t with
 | coin s k =>
  intro b l w hl hs hb hE hr
  have hs':s<n:=hs
  obtain ⟨hP,hB⟩:=hE
  have b1:=hB.cell 1
  have b2:=hB.cell 2
  simp at b1 b2
  have hx:(l.getD s 0:Nat)+1≤4096:=by
   have:=hb s
   simpa [El.occ] using this
  have hset:=hr.set_ (i:=s) (by rw [zE,hl];exact hs') (i64 (l.getD s 0+1))
  rw [←List.map_set,←addOcc_coin s k l (by omega)] at hset
  obtain ⟨cap',e1,_,_,hcell,hfro⟩:=hr.open_map
  have c1:=hcell s (l.getD s 0) (by rw [zD,zF (by omega)];rfl)
  have f1:=hfro s
  have c1':w.cell? ⟨g,s,none⟩=some (.int .i64 ((l.getD s 0:Nat):Int)):=c1
  have hset':Row (w.setCell ⟨g,s,none⟩ (.int .i64 ((l.getD s 0+1:Nat):Int))) 3 (.slice (some ⟨g,0,none⟩) n cap) g ((addOcc (.coin s k) l).map i64):=hset
  have h0:(0:Int)≤(s:Int):=by omega
  have h1:(s:Int)<(n:Int):=by omega
  generalize addOcc (.coin s k) l=l' at *
  generalize l.getD s 0=x at *
  have e2:((x+1:Nat):Int)=(x:Int)+1:=by simp
  rw [e2] at hset'
  clear hset hcell hfro hb c1 e1 hr hl hs hB
  go_enter Tryz.func183,Tryz.ntmps183
  go_wp2
  refine bodyPost_ret (results_none rfl _ _ _) rfl ?_
  exact ⟨rfl,hset',(Chg.refl [g] w).setCell (.inl (by simp)) _⟩
 | pack x y ihx ihy =>
  intro b l w hl hs hb hE hr
  obtain ⟨gp,b1,b2,hP,hPg,hB,hG,hx,hy⟩:=hE
  have c2:=hB.cell 2
  simp at c2
  have p0:=hG.cell 0
  have p1:=hG.cell 1
  simp at p0 p1
  obtain ⟨hs1,hs2⟩:=hs
  have hb1:∀ s,l.getD s 0+x.occ s≤4096:=fun s=>by
   have:l.getD s 0+(x.occ s+y.occ s)≤4096:=hb s
   omega
  have hb2:∀ s,(addOcc x l).getD s 0+y.occ s≤4096:=fun s=>by
   have h9:l.getD s 0+(x.occ s+y.occ s)≤4096:=hb s
   by_cases h:s<l.length
   ·rw [addOcc_getD _ _ h];omega
   ·rw [zD,List.getElem?_eq_none (by rw [addOcc_len];omega)]
    show 0+_≤_
    omega
  have i1:=fun w=>ihx b1 l w hl hs1 hb1
  have i2:=fun w=>ihy b2 (addOcc x l) w ((addOcc_len _ _).trans hl) hs2 hb2
  have hpk:=addOcc_pack x y l
  rw [hpk] at i2
  have I1:=hid i1
  have I2:=hid i2
  have HG:=hid hG
  have HX:=hid hx
  have HY:=hid hy
  generalize addOcc x l=lx at *
  generalize addOcc (.pack x y) l=ly at *
  clear i1 i2 ihx ihy hb hb1 hb2 hs1 hs2 hpk hl hB hG hx hy
  go_enter Tryz.func183,Tryz.ntmps183
  go_wp2
  go_loopg [26] 2 (fun j iv wr=>∃ i:Nat,iv=.int .i64 i∧i+j=2∧Chg [g] w wr∧Hid (i=0∧Row wr 3 (.slice (some ⟨g,0,none⟩) n cap) g (l.map i64)∨i=1∧Row wr 3 (.slice (some ⟨g,0,none⟩) n cap) g (lx.map i64)∨i=2∧Row wr 3 (.slice (some ⟨g,0,none⟩) n cap) g (ly.map i64)))
  case atStart=>exact ⟨0,rfl,rfl,Chg.refl _ _,hid (.inl ⟨rfl,hr⟩)⟩
  case round =>
   clear hr
   obtain ⟨i,rfl,hij,hch,HR⟩:=hrel
   have hne:∀ x∈[g],¬ (x≠g):=by intro x hx;simp at hx;simp [hx]
   have q0:=(HG.out.chg hch (by simpa using fun h=>hPg h)).cell 0
   have q1:=(HG.out.chg hch (by simpa using fun h=>hPg h)).cell 1
   simp at q0 q1
   rcases HR.out with ⟨rfl,hr⟩ | ⟨rfl,hr⟩ | ⟨rfl,hr⟩
   ·obtain rfl:gk=2:=by omega
    have hc:=I1.out wr (HX.out.chg hch hne) hr
    clear HR hr
    go_wp2_with fail
    refine hc.mono ?_
    rintro e w2 ⟨rfl,k1,k2⟩
    go_wp2
    go_roundg 1
    case measure=>omega
    case rel=>exact ⟨1,rfl,rfl,hch.trans_same k2,hid (.inr (.inl ⟨rfl,k1⟩))⟩
   ·obtain rfl:gk=1:=by omega
    have hc:=I2.out wr (HY.out.chg hch hne) hr
    clear HR hr
    go_wp2_with fail
    refine hc.mono ?_
    rintro e w2 ⟨rfl,k1,k2⟩
    go_wp2
    go_roundg 0
    case measure=>omega
    case rel=>exact ⟨2,rfl,rfl,hch.trans_same k2,hid (.inr (.inr ⟨rfl,k1⟩))⟩
   ·obtain rfl:gk=0:=by omega
    go_wp2
    go_end0
    exact ⟨rfl,hr,hch⟩
theorem packs_syms {n:Nat}:∀ l:List El,(∀ e∈l,e.symsIn n)→∀ e∈packs l,e.symsIn n:=by
 intro l
 induction l using packs.induct with
 | case1 a b l il =>
  intro h e he
  rw [packs] at he
  rcases List.mem_cons.1 he with rfl | he
  ·exact ⟨h a (by simp),h b (by simp)⟩
  ·exact il (fun e h1=>h e (by simp [h1])) e he
 | case2 l hl =>
  intro _ e he
  cases l with
  | nil=>simp [packs] at he
  | cons a l =>
   cases l with
   | nil=>simp [packs] at he
   | cons b l=>exact absurd rfl (hl a b l)
theorem Rows.syms {n:Nat} {C:List El} (hC:Coins n C) {j:Nat} {R:List El} (h:Rows C j R):∀ e∈R,e.symsIn n:=by
 have hc:∀ e∈C,e.symsIn n:=fun e he=>by
  obtain ⟨s,w,rfl,h1,_⟩:=hC.coin e he
  exact h1
 induction h with
 | one hp hs=>exact fun e he=>hc e (hp.mem_iff.1 he)
 | next h hp hs ih =>
  intro e he
  rcases List.mem_append.1 (hp.mem_iff.1 he) with h5 | h5
  ·exact hc e h5
  ·exact packs_syms _ ih e h5
theorem lensOf_snoc (n:Nat) (S:List El) (t:El):lensOf n (S++[t])=addOcc t (lensOf n S):=by
 apply List.ext_getElem
 ·simp [lensOf,addOcc]
 ·intro i h1 h2
  simp [lensOf,addOcc,occL]
theorem occL_take_le (s i:Nat) (S:List El):occL s (S.take i)≤occL s S:=by
 have e:=occL_append s (S.take i) (S.drop i)
 rw [List.take_append_drop] at e
 omega
theorem one_full {n s:Nat} (hs:s<n) (hn:n≤1024):FullL ((List.replicate n 0).set s 1):=by
 have hmem:∀ m∈(List.replicate n 0).set s 1,m≤1:=fun m hm=>by
  rcases List.mem_or_eq_of_mem_set hm with h | h
  ·have:=List.eq_of_mem_replicate h;omega
  ·omega
 refine ⟨by simp;omega,by simp;omega,fun m hm=>by have:=hmem m hm;omega,.inl ⟨?_,hmem⟩⟩
 unfold usedN
 rw [List.countP_set (by simpa using hs)]
 simp
theorem one_pos {n s i:Nat} (hs:s<n) (hi:i<n):0<((List.replicate n 0).set s 1).getD i 0 ↔ i=s:=by
 rw [zD,List.getElem?_set]
 by_cases h:s=i
 ·subst h
  rw [if_pos rfl,if_pos (by simpa using hs)]
  simp
 ·rw [if_neg h,List.getElem?_replicate,if_pos hi]
  simp
  exact fun h2=>h h2.symm
structure LensOk (freq lens:List Nat):Prop where
 len:lens.length=freq.length
 full:FullL lens
 used:∀ s,s<freq.length→(0<lens.getD s 0 ↔ 0<freq.getD s 0)
 le:∀ n∈lens,n≤12
theorem lens_one {freq:List Nat} (h1:freq.length≤1024) {s f:Nat} (hc:coinsTo freq freq.length=[.coin s f]):s<freq.length∧LensOk freq ((List.replicate freq.length 0).set s 1):=by
 have hm:El.coin s f∈coinsTo freq freq.length:=by rw [hc];simp
 obtain ⟨s',h2,h3,h4⟩:=mem_coinsTo hm
 injection h4 with h4 h5
 subst h4
 refine ⟨h2,by simp,one_full h2 h1,fun i hi => ?_,fun m hm => ?_⟩
 ·rw [one_pos h2 hi]
  have h6:=coinsOf_to freq i freq.length
  rw [hc] at h6
  have e:coinsOf i [El.coin s f]=if s=i then 1 else 0:=by
   unfold coinsOf
   rw [List.countP_cons]
   simp [El.isCoin]
  rw [e] at h6
  constructor
  ·intro h9;rw [h9];exact h3
  ·intro h7
   rw [if_pos (show i<freq.length∧0<freq.getD i 0 from ⟨hi,h7⟩)] at h6
   by_cases h8:s=i
   ·exact h8.symm
   ·rw [if_neg h8] at h6;omega
 ·rcases List.mem_or_eq_of_mem_set hm with h | h
  ·have:=List.eq_of_mem_replicate h;omega
  ·omega
theorem Row.zerosN (w:World) (n:Nat) (h:n≤1048576):Row (w.alloc (.cells (List.replicate n (Value.int .i64 0)).toArray 3)) 3 (.slice (some ⟨w.heap.size,0,none⟩) n n) w.heap.size ((List.replicate n 0).map i64):=by
 have:=Row.made w 3 (List.replicate n (Value.int .i64 0)) (by simp [maxLen];omega)
 rw [List.map_replicate]
 simpa [i64] using this
def LengthsPost (w:World) (freq:List Nat) (e:Ending) (w':World):Prop :=
 ∃ v g,e=.returned (.tuple #[v,.int .i64 0])∧Row w' 3 v g ((lensFn freq).map i64)∧LensOk freq (lensFn freq)∧Chg [] w w'∧w.heap.size≤g
theorem lengths_ok (w:World) (freq:List Nat) (A:Option Addr) (cap:Nat) (h1:1≤freq.length) (h2:freq.length≤256) (hf:∀ f∈freq,f≤4096) (hpos:0<(coinsTo freq freq.length).length) (hc:Cells i64 w A freq) :
  Calls Tryz.prog 134 #[.slice A freq.length cap,.int .i64 12] w (LengthsPost w freq):=by
 obtain ⟨n,hn⟩:∃ n,n=freq.length:=⟨_,rfl⟩
 rw [←hn] at h1 h2 hpos ⊢
 have hmk:=run_make1 (P:=Tryz.prog) int_elem rfl .i64 .i64 n (by omega) (by omega)
 have HN:=hid hn
 have HF:=hid hf
 have HPOS:=hid hpos
 clear hn hf hpos
 have t1:decide ((n:Int)<1)=false:=zA (by omega)
 have t2:decide ((1024:Int)<(n:Int))=false:=zA (by omega)
 go_enter Tryz.func134,Tryz.ntmps134
 go_wp2_with fail
 go_loopg [6,7,8,31] n (fun j v6 v7 v8 iv wr=>∃ (i:Nat) (E:List PE) (F6:List Nat),iv=.int .i64 i∧i+j=n∧Own wr 210 v6 F6 (E.map encE)∧Hid (E.map (·.2)=coinsTo freq i)∧E.length≤i∧Els (fun x=>x∉F6) wr E∧(∀ x∈F6,w.heap.size≤x)∧Chg [] w wr)
 case atStart=>exact ⟨0,[],[],rfl,by omega,Own.nil _ _,hid rfl,by simp,by intro p hp;simp at hp,by simp,Chg.refl _ _⟩
 case round =>
  obtain ⟨i,E,F6,rfl,hij,hown,HE,hEl,hEls,hF6,hch⟩:=hrel
  rcases gk with _ | j
  ·obtain rfl:i=n:=by omega
   have hcl:E.length=(coinsTo freq i).length:=by rw [←HE.out,zE]
   have hpos:=HPOS.out
   rw [←hcl] at hpos
   rcases hown.cases with ⟨_,hnil,_⟩ | ⟨gc,hrow,rfl⟩
   ·exfalso
    have:=congrArg List.length hnil
    rw [zE] at this
    simp at this
    rw [this] at hpos
    simp at hpos
   obtain ⟨capc,rfl,hcapc,hcapmc,hcellc,_⟩:=hrow.open_map
   have hgc:w.heap.size≤gc:=hF6 gc (by simp)
   have hEls':Els (·≠gc) wr E:=hEls.imp fun x _ h=>by simpa using h
   have HCE:Hid (E.map (·.2)=coinsTo freq i):=HE
   obtain ⟨c,hcd⟩:∃ c,c=E.length:=⟨_,rfl⟩
   rw [←hcd] at hcapc hpos hEl ⊢
   have HCD:=hid hcd
   have HEls:=hid hEls'
   have HROW:=hid hrow
   have HCELL:=hid hcellc
   have hs1:=hch.size
   have hgcl:=hrow.lt
   have t6:((c:Int)==0)=false:=by rw [beq_eq_false_iff_ne];omega
   have t7:decide ((4096:Int)<(c:Int))=false:=zA (by omega)
   clear hcl hcd hown hEls hEls' hrow hcellc hF6
   by_cases hc1:c=1
   ·have t8:((c:Int)==1)=true:=by rw [beq_iff_eq];omega
    have hE1:∃ b s f,E=[(b,El.coin s f)]∧coinsTo freq i=[.coin s f]:=by
     have h3:=HCD.out
     obtain ⟨⟨b,t⟩,hb⟩:=List.length_eq_one_iff.1 (h3.symm.trans hc1)
     have h4:=HCE.out
     rw [hb] at h4
     have hm:t∈coinsTo freq i:=by rw [←h4];simp
     obtain ⟨s,_,_,rfl⟩:=mem_coinsTo hm
     exact ⟨b,s,_,hb,h4.symm⟩
    obtain ⟨b,s,f,rfl,hco⟩:=hE1
    have hln:=lens_one (freq:=freq) (by rw [←HN.out];omega) (by rw [←HN.out];exact hco)
    rw [←HN.out] at hln
    have HCO1:Hid (coinsTo freq freq.length=[.coin s f]):=hid (by rw [←HN.out];exact hco)
    have hcp:wr.cell? ⟨gc,0,none⟩=some (.pointer (some ⟨b,0,none⟩)):=HCELL.out 0 _ rfl
    have hco2:=HEls.out (b,.coin s f) (by simp)
    have hbs:b<wr.heap.size:=hco2.2.lt
    have hc1':wr.cell? ⟨b,1,none⟩=some (.int .i64 s):=by
     have:=hco2.2.cell 1
     simpa using this
    have hrz:=Row.zerosN wr i (by omega)
    have HLN:=hid hln
    have hsn:=hln.1
    have hs0:(0:Int)≤(s:Int):=by omega
    have hs1':(s:Int)<(i:Int):=by omega
    have hset:=hrz.set_ (i:=s) (by simpa using hsn) (i64 1)
    rw [←List.map_set] at hset
    have HSET:=hid hset
    obtain ⟨capz,hzz,_,_,hz1,hz2⟩:=hrz.open_map
    clear hzz
    have hz1':=hz1 s 0 (by rw [List.getElem?_replicate,if_pos hsn])
    have hz2':=hz2 s
    have nw1:gc≠wr.heap.size:=by omega
    have nw2:b≠wr.heap.size:=by omega
    subst hc1
    clear hln hset hrz hz1 hz2 hco2 hco
    go_wp2_with fail
    go_ret2
    have e:(Array.replicate i (Value.int .i64 0)).setIfInBounds s (.int .i64 1)=(((List.replicate i 0).set s 1).map i64).toArray:=by
     rw [List.map_set,List.map_replicate]
     show ((List.replicate i (Value.int .i64 0)).toArray).setIfInBounds s (.int .i64 1)=_
     rw [List.setIfInBounds_toArray]
     rfl
    have hmade:=Row.made wr 3 (((List.replicate i 0).set s 1).map i64) (by simp [maxLen];omega)
    rw [←e] at hmade
    have hlen:(((List.replicate i 0).set s 1).map i64).length=i:=by simp
    rw [hlen] at hmade
    have hfn:=lensFn_one HCO1.out
    rw [←HN.out] at hfn
    unfold LengthsPost
    rw [hfn]
    exact ⟨_,wr.heap.size,rfl,hmade,HLN.out.2,hch.alloc _,hs1⟩
   ·have t8:((c:Int)==1)=false:=by rw [beq_eq_false_iff_ne];omega
    have hcl2:=coinsTo_len freq i
    have hor:=fun w2 (hc2:Chg [] wr w2)=>order_ok w2 _ gc E (by rw [←HCD.out];omega) (by rw [←HCD.out];omega) (HROW.out.chg hc2 (by simp)) (HEls.out.same hc2)
    rw [←HCD.out] at hor
    obtain ⟨gl,hgl⟩:∃ gl,gl=wr.heap.size:=⟨_,rfl⟩
    obtain ⟨w1,hw1⟩:∃ w1,w1=wr.alloc (.cells (Array.replicate i (Value.int .i64 0)) 3):=⟨_,rfl⟩
    have hrz:Row w1 3 (.slice (some ⟨gl,0,none⟩) i i) gl ((List.replicate i 0).map i64):=by
     rw [hw1,hgl]
     exact Row.zerosN wr i (by omega)
    have hch1:Chg [] wr w1:=by rw [hw1];exact (Chg.refl [] wr).alloc _
    have hor1:=hor w1 hch1
    have hEP:Els (fun x=>x≠gl) w1 E:=fun p hp=>((HEls.out p hp).imp (Q:=fun x=>x≠gl∧x≠gc) fun x hx h=>⟨by omega,h⟩).same hch1 |>.imp fun _ _ h=>h.1
    have hEPC:Els (fun x=>x≠gl∧x≠gc) w1 E:=fun p hp=>((HEls.out p hp).imp (Q:=fun x=>x≠gl∧x≠gc) fun x hx h=>⟨by omega,h⟩).same hch1
    have HW1:=hid hw1
    have HGL:=hid hgl
    have HEPC:=hid hEPC
    have HRZ:=hid hrz
    clear hor hEP hEPC hrz hw1
    have hgcgl:gc≠gl:=by omega
    have hglw:w.heap.size≤gl:=by omega
    have HCH1:=hid (hch.trans_same hch1)
    clear hgl hch1
    go_wp2_with fail
    rw [←HW1.out,←HGL.out]
    refine hor1.mono ?_
    rintro e w2 ⟨rfl,k3,k4⟩
    have k1:=sortE_perm (fun p:PE=>p.2) E (E.headD default)
    have k0:=sortE_map (fun p:PE=>p.2) E (E.headD default)
    obtain ⟨E',hE'⟩:∃ E',E'=sortE (fun p:PE=>p.2) E (E.headD default):=⟨_,rfl⟩
    rw [←hE'] at k0 k1 k3
    rw [HCE.out] at k0
    clear hE'
    have hE'l:E'.length=c:=by rw [k1.length_eq];exact HCD.out.symm
    have hcoins:=coinsTo_ok freq
    obtain ⟨C,hC⟩:∃ C,C=coinsTo freq i:=⟨_,rfl⟩
    rw [←HN.out,←hC] at hcoins
    have hE'C:(E'.map (·.2)).Perm C:=by rw [hC,←HCE.out];exact k1.map _
    have hR1:E'.map (·.2)=rowAt C 0:=by rw [hC];exact k0
    have hEP2:Els (fun x=>x≠gl) w2 E':=fun p hp=>((HEPC.out p (k1.mem_iff.1 hp)).chg k4 (fun x hx=>by rw [List.mem_singleton.1 hx];simp)).imp fun _ _ h=>h.1
    have hcC:Cells encE w2 (some ⟨gc,0,none⟩) E':=by
     have k3':=k3
     have:=k3'.toOwn
     exact Own.cells this
    have hrz2:=HRZ.out.chg k4 (by simpa using fun h=>hgcgl h.symm)
    have hch2:Chg [] w w2:=HCH1.out.trans k4 (fun x hx=>by rw [List.mem_singleton.1 hx];exact .inr hgc)
    have hCl:C.length=c:=by rw [←hE'C.length_eq,zE,hE'l]
    have hwtC:∀ e∈C,e.wt≤4096:=fun e he=>by
     rw [hC] at he
     obtain ⟨s,hs,_,rfl⟩:=mem_coinsTo he
     show freq.getD s 0≤4096
     rw [zD]
     cases hx:freq[s]? with
     | none=>exact Nat.zero_le _
     | some x=>exact HF.out x (List.mem_of_getElem? hx)
    have HCo:=hid hcoins
    have HC:=hid hC
    have HEC:=hid hE'C
    have HEL:=hid hE'l
    have HCL:=hid hCl
    have HWT:=hid hwtC
    have HHC:=hid hcC
    have HEP:=hid hEP2
    have HGLL:=hid hrz2.lt
    have HRZ2:=hid hrz2
    have HK0:Hid (E'.map (·.2)=sortT C):=hid (by rw [hC];exact k0)
    clear k0 k1 k3 k4 hor1 hcoins hC hE'C hE'l hCl hwtC hEP2 hcC hrz2 hch hc hgcl
    have hmono:=hch2.size
    go_wp2_with fail
    go_loopg [10,80] 11 (fun j v10 iv wk=>∃ (q:Nat) (R:List PE) (AR:Option Addr) (cR:Nat),v10=.slice AR R.length cR∧iv=.int .i64 q∧q+j=11∧Hid (Cells encE wk AR R)∧Hid (Els (fun x=>x≠gl) wk R)∧Hid (R.map (·.2)=rowAt C q)∧R.length≤cR∧cR≤9223372036854775807∧Hid (Apt AR R [gl])∧Chg [] w2 wk)
    case atStart=>exact ⟨0,E',some ⟨gc,0,none⟩,capc,by rw [HEL.out],rfl,rfl,HHC,HEP,hid hR1,by rw [HEL.out];exact hcapc,hcapmc,hid (fun _ ad e hm=>by injection e with e;subst e;simp at hm;exact hgcgl hm),Chg.refl _ _⟩
    case round =>
     clear hR1
     obtain ⟨wk,rfl⟩:∃ wk,wk=wr:=⟨_,rfl⟩
     obtain ⟨q,R,AR,cR,rfl,rfl,hqj,HCR,HER,HRR,hRc,hRcm,HAP,hchk⟩:=hrel
     have hRR:Rows C (q+1) (R.map (·.2)):=by rw [HRR.out];exact rowAt_rows C q
     have hRlen:=Rows.length HCo.out (by rw [HCL.out];omega) hRR
     have HRR2:=hid hRR
     clear hRR
     have hRl:R.length≤2*c:=by
      rw [zE,HCL.out] at hRlen
      generalize (c-1) / 2^(q+1-1)=z at hRlen
      omega
     obtain ⟨m,hm⟩:∃ m,m=R.length:=⟨_,rfl⟩
     rw [←hm] at hRc hRl ⊢
     have HM:=hid hm
     have HRLEN:=hid hRlen
     clear hm hRlen
     rcases gk with _ | j
     ·obtain rfl:q=11:=by omega
      have hRlen:=HRLEN.out
      have hmR:=HM.out
      have hfull:=full_of_rows (freq:=freq) (by rw [←HN.out];omega) (by rw [←HN.out,←HC.out,HCL.out];omega) (R:=R.map (·.2)) (by rw [←HN.out,←HC.out];exact HRR2.out)
      rw [←HN.out,←HC.out,HCL.out] at hfull
      have hsyms:=Rows.syms HCo.out HRR2.out
      have hm2:2*c-2≤m:=by
       rw [zE,HCL.out,←hmR] at hRlen
       have:(c-1) / 2^(11+1-1)=0:=Nat.div_eq_of_lt (by omega)
       omega
      obtain ⟨k,hk⟩:∃ k,k=2*c-2:=⟨_,rfl⟩
      rw [←hk] at hfull hm2
      have hkI:(2:Int)*(c:Int)-2=(k:Int):=by omega
      have hk0:(0:Int)≤(k:Int):=by omega
      have hk1:(k:Int)≤(cR:Int):=by omega
      have hrz3:=HRZ2.out.chg hchk (by simp)
      have HFU:=hid hfull
      have HSY:=hid hsyms
      have hcR:=HCR.out
      obtain ⟨gR,oR,rfl,hgR,hcc⟩:=hcR.ex (by omega)
      have hgRl:gR≠gl:=fun e=>HAP.out (by omega) _ rfl (by simp [e])
      have HCC:=hid hcc
      have HK:=hid hk
      clear hfull hsyms hRlen hmR hcR hcc hk
      go_wp2_with fail
      go_loopg [93] k (fun j iv wz=>∃ (t:Nat),iv=.int .i64 t∧t+j=k∧Row wz 3 (.slice (some ⟨gl,0,none⟩) i i) gl ((lensOf i ((R.map (·.2)).take t)).map i64)∧Chg [gl] wk wz)
      case atStart=>exact ⟨0,rfl,by omega,by rw [List.take_zero,lensOf_nil];exact hrz3,Chg.refl _ _⟩
      case round =>
       clear hrz3
       obtain ⟨t,rfl,htk,hrow,hcg⟩:=hrel
       rcases gk with _ | j
       ·obtain rfl:t=k:=by omega
        have hfin:Chg [] w wr:=(hch2.trans_same hchk).trans hcg (fun x hx=>by rw [List.mem_singleton.1 hx];exact .inr hglw)
        have hlok:LensOk freq (lensOf i ((R.map (·.2)).take t)):=by
         obtain ⟨f1,f2,f3⟩:=HFU.out
         refine ⟨by rw [lensOf_len];exact HN.out,f1,fun s hs=>f2 s (by rw [HN.out];exact hs),fun n hn => ?_⟩
         obtain ⟨s,_,rfl⟩:=List.mem_map.1 hn
         exact f3 s
        have HLO:=hid hlok
        clear hlok
        go_wp2
        go_ret2
        have hfn:=lensFn_many (freq:=freq) (by rw [←HN.out,←HC.out,HCL.out];omega)
        rw [←HN.out,←HC.out,←HRR.out,HCL.out,←HK.out] at hfn
        unfold LengthsPost
        rw [hfn]
        exact ⟨_,gl,rfl,hrow,HLO.out,hfin,hglw⟩
       ·have htm:t<R.length:=by rw [←HM.out];omega
        have htk':t+1≤k:=by omega
        have hel:=(HER.out R[t] (zG _)).chg hcg (fun x hx=>by rw [List.mem_singleton.1 hx];simp)
        have hpc:=(World.cell?_of_block (w:=wk) (hcg.block gR hgR (by simpa using hgRl))).trans (HCC.out t _ (zF htm))
        have htl:t<(R.map (·.2)).length:=by rw [zE];exact htm
        have hst:(R.map (·.2)).take (t+1)=(R.map (·.2)).take t++[R[t].2]:=by
         rw [take_snoc' _ htl];simp
        have hls:=lensOf_snoc i ((R.map (·.2)).take t) R[t].2
        rw [←hst] at hls
        have hsy:=HSY.out R[t].2 (List.mem_map_of_mem (zG htm))
        have hocc:∀ s,(lensOf i ((R.map (·.2)).take t)).getD s 0+R[t].2.occ s≤4096:=by
         intro s
         have e1:occL s ((R.map (·.2)).take (t+1))=occL s ((R.map (·.2)).take t)+R[t].2.occ s:=by
          rw [hst,occL_append];simp [occL]
         have e2:occL s ((R.map (·.2)).take (t+1))≤12:=by
          have e3:(R.map (·.2)).take (t+1)=((R.map (·.2)).take k).take (t+1):=by rw [List.take_take,Nat.min_eq_left htk']
          rw [e3]
          exact Nat.le_trans (occL_take_le _ _ _) (HFU.out.2.2 s)
         by_cases hs:s<i
         ·rw [lensOf_getD _ hs];omega
         ·rw [zD,List.getElem?_eq_none (by rw [lensOf_len];omega)]
          show 0+_≤_
          omega
        have hcn:=count_ok gl i i R[t].2 R[t].1 (lensOf i ((R.map (·.2)).take t)) wr (lensOf_len _ _) hsy hocc hel hrow
        rw [←hls] at hcn
        obtain ⟨pb,hpb⟩:∃ pb,pb=R[t].1:=⟨_,rfl⟩
        have hpc':wr.cell? ⟨gR,oR+t,none⟩=some (.pointer (some ⟨pb,0,none⟩)):=by rw [hpb];exact hpc
        rw [←hpb] at hcn
        have hb0:(0:Int)≤(t:Int):=by omega
        have hb1:(t:Int)<(k:Int):=by omega
        clear hocc hsy hls hst htl hpc hel htm hpb hrow
        go_wp2_with fail
        refine hcn.mono ?_
        rintro e w4 ⟨rfl,r1,r2⟩
        go_wp2_with fail
        go_roundg j
        case measure=>omega
        case rel=>exact ⟨t+1,by go_num,by omega,r1,hcg.trans_same r2⟩
     ·have hwt:=Rows.wt_le HWT.out HRR2.out
      have hq12:2^(q+1)≤4096:=Nat.le_trans (Nat.pow_le_pow_right (n:=2) (by decide) (show q+1≤12 by omega)) (by decide)
      have hnx:=next_ok (fun x=>x≠gl) wk (fun x hx=>by have:=hchk.size;have:=HGLL.out;omega) (some ⟨gc,0,none⟩) AR capc cR E' R (by rw [HEL.out];omega) (by rw [HEL.out];omega) (by rw [←HM.out];omega)
       (HHC.out.same hchk) HCR.out (HEP.out.same hchk) HER.out (fun p hp=>by
        have:=hwt p.2 (List.mem_map_of_mem hp)
        have:=Nat.mul_le_mul_left 4096 hq12
        omega)
      rw [HEL.out,←HM.out] at hnx
      clear hwt hq12
      go_wp2_with fail
      refine hnx.mono ?_
      rintro e w3 ⟨v3,g3,E3,rfl,r1,r2,r4,r5,r6⟩
      obtain ⟨cap3,rfl,hc3,hcm3,_,_⟩:=r1.open_map
      have r1:=hid r1
      have r2:=hid r2
      have r4:=hid r4
      go_wp2_with fail
      go_roundg j
      case measure=>omega
      case rel =>
       refine ⟨q+1,E3,some ⟨g3,0,none⟩,cap3,rfl,by go_num,by omega,hid (Own.cells r1.out.toOwn),r4,hid ?_,hc3,hcm3,hid (fun _ ad e hm=>by
        injection e with e
        subst e
        simp at hm
        have:=hchk.size
        have:=HGLL.out
        omega),hchk.trans_same r5⟩
       rw [r2.out,HK0.out,HRR.out]
       rfl
  ·have hin:i<n:=by omega
   have hil:i<freq.length:=by rw [←HN.out];exact hin
   obtain ⟨g,o,rfl,hcell⟩:=(hc.same hch).at_ hil
   have hxf:=HF.out freq[i] (zG hil)
   have hxe:freq[i]=freq.getD i 0:=by rw [zD,zF hil];rfl
   rw [hxe] at hcell hxf
   have hsucc:=coinsTo_succ freq i
   obtain ⟨f,hfd⟩:∃ f,f=freq.getD i 0:=⟨_,rfl⟩
   rw [←hfd] at hcell hxf hsucc
   have hcell':wr.cell? ⟨g,o+i,none⟩=some (.int .i64 f):=hcell
   have hb0:(0:Int)≤(i:Int):=by omega
   have hb1:(i:Int)<(n:Int):=by omega
   have t3:decide ((f:Int)<0)=false:=zA (by omega)
   have t4:decide ((1099511627776:Int)<(f:Int))=false:=zA (by omega)
   obtain ⟨A6,cap6,rfl,hcap6,hcapm6,_⟩:=hown.open_map
   clear hcell hfd hxe hil
   by_cases hf0:0<f
   ·rw [if_pos hf0] at hsucc
    have HSU:=hid hsucc
    have t5:decide ((0:Int)<(f:Int))=true:=zB (by omega)
    clear hsucc
    have HEls:=hid hEls
    have HF6:=hid hF6
    have hlt6:=hid hown.lt
    have hEl2:=hid hEl
    obtain ⟨m,hm⟩:∃ m,m=E.length:=⟨_,rfl⟩
    have HM:=hid hm
    rw [←hm] at hcap6 hown hEl ⊢
    clear hEls hF6 hm
    obtain ⟨wx,hwx⟩:∃ wx,wx=(wr.alloc (.cells #[.int .i64 f,.int .i64 i,.slice none 0 0] 212)).alloc (.cells #[.pointer (some ⟨wr.heap.size,0,none⟩)] 210):=⟨_,rfl⟩
    have hchx:Chg [] wr wx:=by rw [hwx];exact (((Chg.refl [] wr).alloc _).alloc _)
    have howx:=hown.same hchx
    have hux:wx.cell? ⟨wr.heap.size+1,0,none⟩=some (.pointer (some ⟨wr.heap.size,0,none⟩)):=by
     rw [hwx]
     have:=(Blk.new (wr.alloc (.cells #[.int .i64 f,.int .i64 i,.slice none 0 0] 212)) 210 #[.pointer (some ⟨wr.heap.size,0,none⟩)]).cell 0
     simp
    have hB1:Blk wx wr.heap.size 212 #[.int .i64 f,.int .i64 i,.slice none 0 0]:=by
     rw [hwx]
     exact (Blk.new wr _ _).alloc _
    have hwxs:wx.heap.size=wr.heap.size+2:=by rw [hwx];simp
    have hml:(E.map encE).length=m:=by rw [zE];exact HM.out.symm
    have HX:=hid hwx
    have HB1:=hid hB1
    have HWXS:=hid hwxs
    have HML:=hid hml
    clear hwx hB1 hwxs hml
    go_wp2_with (at_builtin;rw [←HX.out];refine wpList_append_o1 rfl rfl ptr_elem rfl rfl howx (.pointer (some ⟨wr.heap.size,0,none⟩)) rfl hux rfl ?c1 ?c2 ?_)
    case c1=>rw [HML.out];omega
    case c2=>rw [HML.out];omega
    intro g2 cap2 w5 hr2 gr2
    go_wp2_with fail
    go_roundg j
    case measure=>omega
    case rel =>
     have hch5:Chg [] w w5:=(hch.trans_same hchx).trans gr2.chg (fun x hx => .inr (HF6.out x hx))
     have hg2:w.heap.size≤g2:=by
      rcases gr2.new g2 (by simp) with h5 | h5
      ·exact HF6.out _ h5
      ·have:=hch.size;have:=HWXS.out;omega
     have hnot:∀ x,x<wx.heap.size→x∉F6→x≠g2:=fun x hx hn e=>by
      rcases gr2.new g2 (by simp) with h5 | h5
      ·exact hn (e ▸ h5)
      ·omega
     have hwxs:=HWXS.out
     have hBn:wr.heap.size∉F6:=fun h=>by have:=hlt6.out _ h;omega
     refine ⟨i+1,E++[(wr.heap.size,.coin i f)],[g2],by go_num,by omega,?_,hid ?_,?_,?_,?_,hch5⟩
     ·have e:(E++[(wr.heap.size,El.coin i f)]).map encE=E.map encE++[.pointer (some ⟨wr.heap.size,0,none⟩)]:=by rw [List.map_append];rfl
      rw [e]
      exact hr2.toOwn
     ·rw [List.map_append,HE.out,HSU.out];rfl
     ·rw [zC,List.length_singleton];have:=hEl2.out;omega
     ·intro p hp
      rcases List.mem_append.1 hp with h5 | h5
      ·have h6:=((HEls.out p h5).same hchx).imp (Q:=fun x=>x∉F6∧x≠g2) fun x hx h7=>⟨h7,hnot x hx h7⟩
       exact (h6.chg gr2.chg (fun x hx h=>h.1 hx)).imp fun x _ h=>by simpa using h.2
      ·rw [List.mem_singleton.1 h5]
       exact ⟨by simpa using hnot _ (by omega) hBn,HB1.out.chg gr2.chg hBn⟩
     ·intro x hx
      rw [List.mem_singleton.1 hx]
      exact hg2
   ·obtain rfl:f=0:=by omega
    rw [if_neg hf0,List.append_nil] at hsucc
    have HSU:=hid hsucc
    clear hsucc
    go_wp2_with fail
    go_roundg j
    case measure=>omega
    case rel=>exact ⟨i+1,E,F6,by go_num,by omega,hown,hid (by rw [HSU.out];exact HE.out),by omega,hEls,hF6,hch⟩
def maxN (l:List Nat):Nat:=l.foldl max 0
theorem maxN_snoc (l:List Nat) (x:Nat):maxN (l++[x])=max (maxN l) x:=by simp [maxN]
theorem maxN_le {l:List Nat} {m:Nat} (h:∀ n∈l,n≤m):maxN l≤m:=by
 have key:∀ (l:List Nat) (a:Nat),a≤m→(∀ n∈l,n≤m)→l.foldl max a≤m:=by
  intro l
  induction l with
  | nil=>intro a ha _;exact ha
  | cons x l ih =>
   intro a ha h
   exact ih _ (by have:=h x (by simp);omega) fun n hn=>h n (by simp [hn])
 exact key l 0 (Nat.zero_le _) h
theorem maxN_ge {l:List Nat} {x:Nat} (h:x∈l):x≤maxN l:=by
 have key:∀ (l:List Nat) (a:Nat),a≤l.foldl max a∧∀ x∈l,x≤l.foldl max a:=by
  intro l
  induction l with
  | nil=>intro a;exact ⟨Nat.le_refl _,by simp⟩
  | cons y l ih =>
   intro a
   obtain ⟨h1,h2⟩:=ih (max a y)
   refine ⟨Nat.le_trans (Nat.le_max_left _ _) h1,fun x hx => ?_⟩
   rcases List.mem_cons.1 hx with rfl | hx
   ·exact Nat.le_trans (Nat.le_max_right _ _) h1
   ·exact h2 x hx
 exact (key l 0).2 x h
theorem usedN_snoc (l:List Nat) (x:Nat):usedN (l++[x])=usedN l+if 0<x then 1 else 0:=by
 unfold usedN
 rw [List.countP_append,List.countP_cons]
 simp
theorem kraft_snoc (l:List Nat) (x:Nat):kraft (l++[x])=kraft l+if x=0 then 0 else 2^(24-x):=by simp [kraft]
theorem kraft_take (l:List Nat) (i:Nat):kraft (l.take i)≤kraft l:=by
 have e:kraft l=kraft (l.take i)+kraft (l.drop i):=by
  conv=>lhs;rw [←List.take_append_drop i l]
  unfold kraft
  rw [List.map_append,List.sum_append]
 omega
theorem max_one {lens:List Nat} (h1:usedN lens=1) (h2:∀ n∈lens,n≤1):maxN lens=1:=by
 have h3:=maxN_le h2
 have h4:0<usedN lens:=by omega
 obtain ⟨x,hx,hp⟩:=List.countP_pos_iff.1 h4
 have h5:=maxN_ge hx
 have h6:0<x:=of_decide_eq_true hp
 omega
theorem nat_at {w:World} {A:Option Addr} {l:List Nat} (h:Cells i64 w A l) {i:Nat} (hi:i<l.length):∃ g o,A=some ⟨g,o,none⟩∧w.cell? ⟨g,o+i,none⟩=some (.int .i64 (l[i]:Nat)):=by
 obtain ⟨g,o,e,c⟩:=h.at_ hi
 exact ⟨g,o,e,c⟩
theorem full_yes (lens:List Nat) (A:Option Addr) (cap:Nat) (w:World) (hf:FullL lens) (hc:Cells i64 w A lens) :
  Calls Tryz.prog 184 #[.slice A lens.length cap] w fun e w'=>e=.returned (.bool true)∧w=w':=by
 have hk:=kraft_le hf
 have hn1:=hf.n1
 have hn2:=hf.n2
 have hend:(usedN lens=1∧maxN lens=1)∨(usedN lens≠1∧kraft lens=16777216):=by
  rcases hf.full with ⟨h1,h2⟩ | ⟨h1,h2⟩
  ·exact .inl ⟨h1,max_one h1 h2⟩
  ·exact .inr ⟨h1,h2⟩
 have hle:=hf.le
 obtain ⟨n,hn⟩:∃ n,n=lens.length:=⟨_,rfl⟩
 rw [←hn] at hn1 hn2 ⊢
 have HN:=hid hn
 have HEND:=hid hend
 have HLE:=hid hle
 have HK:=hid hk
 clear hn hend hle hf hk
 have t1:decide ((n:Int)<1)=false:=zA (by omega)
 have t2:decide ((1024:Int)<(n:Int))=false:=zA (by omega)
 go_enter Tryz.func184,Tryz.ntmps184
 go_wp2_with fail
 go_loopg [3,4,5,18] n (fun j vu vl vs iv wr=>∃ (i u m s:Nat),iv=.int .i64 i∧vu=.int .i64 u∧vl=.int .i64 m∧vs=.int .i64 s∧i+j=n∧Hid (u=usedN (lens.take i))∧Hid (m=maxN (lens.take i))∧Hid (s=kraft (lens.take i))∧u≤i∧m≤24∧s≤16777216∧w=wr)
 case atStart=>exact ⟨0,0,0,0,rfl,rfl,rfl,rfl,by omega,hid rfl,hid rfl,hid rfl,by omega,by omega,by omega,rfl⟩
 case round =>
  obtain ⟨i,u,m,s,rfl,rfl,rfl,rfl,hij,HU,HM,HS,hu,hm,hs,rfl⟩:=hrel
  rcases gk with _ | j
  ·obtain rfl:i=n:=by omega
   have htl:lens.take i=lens:=by rw [HN.out,List.take_length]
   rcases HEND.out with ⟨h1,h2⟩ | ⟨h1,h2⟩
   ·have e1:u=1:=by rw [HU.out,htl];exact h1
    have e2:m=1:=by rw [HM.out,htl];exact h2
    subst e1
    subst e2
    clear h1 h2 htl
    go_wp2
    go_ret
    exact ⟨rfl,rfl⟩
   ·have e1:u≠1:=by rw [HU.out,htl];exact h1
    have e2:s=16777216:=by rw [HS.out,htl];exact h2
    have t3:((u:Int)==1)=false:=by rw [beq_eq_false_iff_ne];omega
    subst e2
    clear h1 h2 htl e1
    go_wp2
    go_ret
    exact ⟨rfl,rfl⟩
  ·have hin:i<n:=by omega
   have hil:i<lens.length:=by rw [←HN.out];exact hin
   obtain ⟨g,o,rfl,hcell⟩:=nat_at hc hil
   have hx24:=HLE.out lens[i] (zG hil)
   have htk:=take_snoc' lens hil
   have hus:=usedN_snoc (lens.take i) lens[i]
   have hms:=maxN_snoc (lens.take i) lens[i]
   have hks:=kraft_snoc (lens.take i) lens[i]
   have hkt:=kraft_take lens (i+1)
   rw [←htk] at hus hms hks
   rw [←HU.out] at hus
   rw [←HM.out] at hms
   rw [←HS.out] at hks
   obtain ⟨x,hx⟩:∃ x,x=lens[i]:=⟨_,rfl⟩
   rw [←hx] at hcell hx24 hus hms hks
   have hb0:(0:Int)≤(i:Int):=by omega
   have hb1:(i:Int)<(n:Int):=by omega
   have t3:decide ((x:Int)<0)=false:=zA (by omega)
   have t4:decide ((24:Int)<(x:Int))=false:=zA (by omega)
   clear htk hx hil
   by_cases hx0:0<x
   ·have t5:decide ((0:Int)<(x:Int))=true:=zB (by omega)
    rw [if_pos hx0] at hus
    rw [if_neg (by omega)] at hks
    obtain ⟨m2,hm2⟩:∃ m2,m2=max m x:=⟨_,rfl⟩
    have hmx2:max (m:Int) (x:Int)=(m2:Int):=by rw [hm2];omega
    have hmx:(if (m:Int)<(x:Int) then (x:Int) else (m:Int))=(m2:Int):=by rw [hm2];split<;>omega
    obtain ⟨y,hy⟩:∃ y,y=24-x:=⟨_,rfl⟩
    have hyI:(24:Int)-(x:Int)=(y:Int):=by omega
    rw [←hy] at hks
    rw [←hm2] at hms
    have hp:(2:Nat)^y≤16777216:=Nat.le_trans (Nat.pow_le_pow_right (n:=2) (by decide) (show y≤24 by omega)) (by decide)
    obtain ⟨P,hP⟩:∃ P,P=2^y:=⟨_,rfl⟩
    have hPI:(2:Int)^y=(P:Int):=by rw [hP];simp
    rw [←hP] at hks hp
    have hs2:s+P≤16777216:=by have:=HK.out;omega
    have hy24:y≤24:=by omega
    have HUS:=hid hus
    have HMS:=hid hms
    have HKS:=hid hks
    have hm24:m2≤24:=by omega
    clear hus hms hks hkt hm2 hP hy
    go_wp2_with fail
    go_roundg j
    case measure=>omega
    case rel=>exact ⟨i+1,u+1,m2,s+P,by go_num,by go_num,rfl,by go_num,by omega,hid HUS.out.symm,hid HMS.out.symm,hid HKS.out.symm,by omega,hm24,hs2,rfl⟩
   ·obtain rfl:x=0:=by omega
    rw [if_neg hx0] at hus
    rw [if_pos rfl] at hks
    have hm3:max m 0=m:=by omega
    rw [hm3] at hms
    have HUS:=hid hus
    have HMS:=hid hms
    have HKS:=hid hks
    clear hus hms hks hkt hm3
    go_wp2_with fail
    go_roundg j
    case measure=>omega
    case rel=>exact ⟨i+1,u,m,s,by go_num,rfl,rfl,rfl,by omega,hid HUS.out.symm,hid HMS.out.symm,hid HKS.out.symm,by omega,hm,hs,rfl⟩
theorem ranked_ok (lens:List Nat) (A:Option Addr) (cap:Nat) (w:World) (hl:lens.length≤1024) (hc:Cells i64 w A lens) :
  Calls Tryz.prog 191 #[.slice A lens.length cap] w fun e w'=>∃ v F,e=.returned v∧Own w' 3 v F ((rankL lens).map i64)∧Chg [] w w'∧∀ x∈F,w.heap.size≤x:=by
 obtain ⟨n,hn⟩:∃ n,n=lens.length:=⟨_,rfl⟩
 rw [←hn] at hl ⊢
 have HN:=hid hn
 clear hn
 go_enter Tryz.func191,Tryz.ntmps191
 go_wp2_with fail
 go_loopg [3,4,5,6] 24 (fun j vo vn v5 v6 wr=>∃ (m:Nat) (F:List Nat),vn=.int .i64 (m+1:Nat)∧m+j=24∧Own wr 3 vo F ((rankTo lens m).map i64)∧(∀ x∈F,w.heap.size≤x)∧Chg [] w wr)
 case atStart=>exact ⟨0,[],rfl,rfl,Own.nil _ _,by simp,Chg.refl _ _⟩
 case round =>
  obtain ⟨m,F,rfl,hmj,hown,hF,hch⟩:=hrel
  rcases gk with _ | ko
  ·obtain rfl:m=24:=by omega
   go_wp2
   obtain ⟨Ar,cr,rfl,_⟩:=hown.open_map
   go_ret
   exact ⟨_,rfl,F,hown,hch,hF⟩
  ·obtain ⟨q,hq⟩:∃ q,q=m+1:=⟨_,rfl⟩
   rw [←hq]
   have t1:decide ((q:Int)≤24)=true:=zB (by omega)
   have HQ:=hid hq
   have hq24:q≤24:=by omega
   have hrk:=rankTo_succ lens m
   rw [←hq,←HN.out] at hrk
   have HRK:=hid hrk
   have hrl:=rank_len lens m
   rw [←HN.out] at hrl
   clear hq hrk
   go_wp2_with fail
   go_loopg [3,5,6,13] n (fun j vo v5 v6 iv wr=>∃ (i:Nat) (F:List Nat),iv=.int .i64 i∧i+j=n∧Own wr 3 vo F ((rankTo lens m++blockTo lens q i).map i64)∧(blockTo lens q i).length≤i∧(∀ x∈F,w.heap.size≤x)∧Chg [] w wr)
   case atStart=>exact ⟨0,F,rfl,by omega,by simpa [blockTo] using hown,by simp [blockTo],hF,hch⟩
   case round =>
    clear hown hF hch
    obtain ⟨i,F,rfl,hij,hown,hbl,hF,hch⟩:=hrel
    obtain ⟨Ar,cr,rfl,hcr1,hcr2,_⟩:=hown.open_map
    rcases gk with _ | j
    ·obtain rfl:i=n:=by omega
     rw [←HRK.out] at hown
     have hlen:(rankTo lens m++blockTo lens q i).length=(rankTo lens q).length:=by rw [HRK.out]
     rw [hlen]
     go_wp2_with fail
     go_roundg ko
     case measure=>omega
     case rel =>
      refine ⟨q,F,by go_num,by have:=HQ.out;omega,hown,hF,hch⟩
    ·have hin:i<n:=by omega
     have hil:i<lens.length:=by rw [←HN.out];exact hin
     obtain ⟨g,o,rfl,hcell⟩:=nat_at (hc.same hch) hil
     have hbs:=blockTo_succ lens q i
     have hla:lenAt lens i=lens[i]:=by simp [lenAt,zD,hil]
     rw [hla] at hbs
     obtain ⟨x,hx⟩:∃ x,x=lens[i]:=⟨_,rfl⟩
     rw [←hx] at hcell hbs
     have hb0:(0:Int)≤(i:Int):=by omega
     have hb1:(i:Int)<(n:Int):=by omega
     clear hla hx hil
     by_cases hxq:x=q
     ·subst hxq
      rw [if_pos rfl] at hbs
      have HBS:=hid hbs
      obtain ⟨r,hr⟩:∃ r,r=(rankTo lens m++blockTo lens x i).length:=⟨_,rfl⟩
      have hrb:r≤2048:=by rw [hr,zC];omega
      have hrm:((rankTo lens m++blockTo lens x i).map i64).length=r:=by rw [zE];exact hr.symm
      rw [←hr] at hown ⊢
      have hown':=hown.alloc (.cells #[.int .i64 i] 3)
      have hu:(wr.alloc (.cells #[.int .i64 i] 3)).cell? ⟨wr.heap.size,0,none⟩=some (.int .i64 i):=by simp
      have HRM:=hid hrm
      have HF:=hid hF
      have HCHX:Hid (Chg [] w (wr.alloc (.cells #[.int .i64 i] 3))):=hid (hch.alloc _)
      clear hbs hr hrm hF
      go_wp2_with (at_builtin;refine wpList_append_o1 rfl rfl int_elem rfl rfl hown' (.int .i64 i) rfl hu rfl ?c1 ?c2 ?_)
      case c1=>rw [HRM.out];omega
      case c2=>rw [HRM.out];omega
      intro g2 cap2 w5 hr2 gr2
      go_wp2_with fail
      go_roundg j
      case measure=>omega
      case rel =>
       refine ⟨i+1,[g2],by go_num,by omega,?_,?_,?_,HCHX.out.trans gr2.chg (fun x hx => .inr (HF.out x hx))⟩
       ·have e:(rankTo lens m++blockTo lens x (i+1)).map i64=(rankTo lens m++blockTo lens x i).map i64++[.int .i64 i]:=by
         rw [HBS.out,←List.append_assoc,List.map_append];rfl
        have e2:(List.map i64 (rankTo lens m++blockTo lens x i)).length+1=(rankTo lens m).length+(blockTo lens x i).length+1:=by simp
        rw [e]
        simp only [List.map_append,List.append_assoc] at hr2 ⊢
        exact hr2.toOwn
       ·rw [HBS.out,zC,List.length_singleton];omega
       ·intro y hy
        rw [List.mem_singleton.1 hy]
        rcases gr2.new g2 (by simp) with h5 | h5
        ·exact HF.out _ h5
        ·have:=hch.size
         have e:(wr.alloc (.cells #[.int .i64 i] 3)).heap.size=wr.heap.size+1:=by simp
         omega
     ·have t2:((x:Int)==(q:Int))=false:=by rw [beq_eq_false_iff_ne];omega
      rw [if_neg hxq,List.append_nil] at hbs
      have HBS:=hid hbs
      clear hbs
      go_wp2_with fail
      go_roundg j
      case measure=>omega
      case rel=>exact ⟨i+1,F,by go_num,by omega,by rw [HBS.out];exact hown,by rw [HBS.out];omega,hF,hch⟩
def u64v (x:Nat):Value:=.int .u64 x
theorem u64_elem:Elem Tryz.prog 192 70 (.int .u64 0) 1 8:=.mk' Tryz.underlying192 (by kernel_rfl)
theorem codes_ok (lens:List Nat) (A:Option Addr) (cap:Nat) (w:World) (hf:FullL lens) (hc:Cells i64 w A lens) :
  Calls Tryz.prog 161 #[.slice A lens.length cap] w fun e w'=>∃ v g,e=.returned (.tuple #[v,.int .i64 0])∧Row w' 70 v g ((wordsL lens).map u64v)∧Chg [] w w'∧w.heap.size≤g:=by
 have hfy:=full_yes lens A cap w hf hc
 have hn1:=hf.n1
 have hn2:=hf.n2
 have hra:=fun w hc=>ranked_ok lens A cap w hn2 hc
 have hrl:=rank_len lens 24
 obtain ⟨n,hn⟩:∃ n,n=lens.length:=⟨_,rfl⟩
 have hmk:=run_make1 (P:=Tryz.prog) u64_elem rfl .i64 .i64 n (by omega) (by omega)
 rw [←hn] at hn1 hn2 hfy hra hrl ⊢
 have HN:=hid hn
 have HF:=hid hf
 have HRA:=hid hra
 clear hn hf hra
 have hwl:=wordsTo_len lens
 rw [←HN.out] at hwl
 have HWL:=hid hwl
 clear hwl
 go_enter Tryz.func161,Tryz.ntmps161
 go_wp2_with fail
 refine hfy.mono ?_
 rintro e w' ⟨rfl,rfl⟩
 obtain ⟨w1,hw1⟩:∃ w1,w1=w.alloc (.cells (Array.replicate n (Value.int .u64 0)) 70):=⟨_,rfl⟩
 obtain ⟨B,hB⟩:∃ B,B=w.heap.size:=⟨_,rfl⟩
 have hrz:Row w1 70 (.slice (some ⟨B,0,none⟩) n n) B ((wordsTo lens 0).map u64v):=by
  have:=Row.made w 70 (List.replicate n (Value.int .u64 0)) (by simp [maxLen];omega)
  rw [hw1,hB]
  have e:(wordsTo lens 0).map u64v=List.replicate n (Value.int .u64 0):=by
   unfold wordsTo
   rw [List.map_replicate,←HN.out]
   rfl
  rw [e]
  simpa using this
 have hch1:Chg [] w w1:=by rw [hw1];exact (Chg.refl [] w).alloc _
 have hra1:=HRA.out w1 (hc.same hch1)
 have HW1:=hid hw1
 have HB:=hid hB
 clear hw1 hB hfy
 go_wp2_with fail
 rw [←HW1.out,←HB.out]
 refine hra1.mono ?_
 rintro e w2 ⟨vr,Fr,rfl,hown,ch2,hFr⟩
 obtain ⟨Ar,cr,rfl,hcr1,hcr2,hcr⟩:=hown.open_map
 have hrz2:=hrz.chg ch2 (by simp)
 have hch2:=hch1.trans_same ch2
 obtain ⟨rl,hrld⟩:∃ rl,rl=(rankL lens).length:=⟨_,rfl⟩
 have hrl2:rl≤n:=by rw [hrld];exact hrl
 rw [←hrld] at hcr1 ⊢
 have HRL:=hid hrld
 have hBb:w.heap.size≤B:=by have:=HB.out;omega
 have hapr:∀ x∈[B],x∉Fr:=fun x hx hm=>by
  rw [List.mem_singleton.1 hx] at hm
  have:=hFr _ hm
  have h6:=hrz.lt
  omega
 have hapR:Apt Ar (rankL lens) [B]:=hown.apt (fun x hx hm=>hapr x hm hx)
 have hBl:=hrz2.lt
 clear hra1 hrz hown hch1 hrld hFr hrl
 go_wp2_with fail
 go_loopg [5,6,8,18] rl (fun j vw vb v8 iv wr=>∃ (k wd bf:Nat),iv=.int .i64 k∧vw=.int .u64 wd∧vb=.int .i64 bf∧k+j=rl∧Hid ((k=0∧wd=0∧bf=0)∨(0<k∧wd=wordAt lens (k-1)∧bf=lenAt lens ((rankL lens).getD (k-1) 0)))∧Row wr 70 (.slice (some ⟨B,0,none⟩) n n) B ((wordsTo lens k).map u64v)∧Chg [B] w2 wr)
 case atStart=>exact ⟨0,0,0,rfl,rfl,rfl,by omega,hid (.inl ⟨rfl,rfl,rfl⟩),hrz2,Chg.refl _ _⟩
 case round =>
  clear hrz2
  obtain ⟨k,wd,bf,rfl,rfl,rfl,hkj,HK,hrow,hch⟩:=hrel
  rcases gk with _ | j
  ·obtain rfl:k=rl:=by omega
   have e:wordsL lens=wordsTo lens k:=by unfold wordsL;rw [HRL.out]
   have hfin:Chg [] w wr:=hch2.trans hch (fun x hx=>by rw [List.mem_singleton.1 hx];exact .inr hBb)
   have HE:=hid e
   clear e
   go_wp2
   go_ret2
   refine ⟨_,B,rfl,?_,hfin,hBb⟩
   rw [HE.out]
   exact hrow
  ·have hkl:k<(rankL lens).length:=by rw [←HRL.out];omega
   have hkn:k<rl:=by omega
   obtain ⟨hl0,hl24,hsn⟩:=rank_lenAt hkl
   have hcr':=hcr.keep hapR hch
   obtain ⟨gr,orr,rfl,hgr,hcc⟩:=hcr'.ex (by omega)
   have cs:=hcc k ((rankL lens).getD k 0) (by rw [zD,zF hkl];rfl)
   have hlc:Cells i64 wr A lens:=(hc.same hch2).keep (fun _ ad e hm=>by
    obtain ⟨b9,o9,e9,hb9,_⟩:=hc.ex (by have:=HN.out;omega)
    rw [e] at e9
    injection e9 with e9
    subst e9
    simp at hm
    omega) hch
   obtain ⟨gl,ol,e7,hgl,hcl⟩:=hlc.ex (by rw [←HN.out];omega)
   have cl:=hcl ((rankL lens).getD k 0) (lenAt lens ((rankL lens).getD k 0)) (by unfold lenAt;rw [zD (l:=lens),zF hsn];rfl)
   obtain ⟨capx,hxx,_,_,hwc,hwf⟩:=hrow.open_map
   have hwlen:(wordsTo lens k).length=n:=HWL.out k
   have cw:=hwc ((rankL lens).getD k 0) ((wordsTo lens k).getD ((rankL lens).getD k 0) 0) (by rw [zD (l:=wordsTo lens k),zF (by rw [wordsTo_len];exact hsn)];rfl)
   have fw:=hwf ((rankL lens).getD k 0)
   have hset:=hrow.set_ (i:=(rankL lens).getD k 0) (by rw [zE,wordsTo_len];exact hsn) (u64v (wordAt lens k))
   rw [←List.map_set] at hset
   have hws:wordsTo lens (k+1)=(wordsTo lens k).set ((rankL lens).getD k 0) (wordAt lens k):=rfl
   rw [←hws] at hset
   have hwlt:=wordAt_lt HF.out hkl
   rw [←HN.out] at hsn
   have hstep:∀ (h:0<k),wordAt lens k=(wordAt lens (k-1)+1)*2^(lenAt lens ((rankL lens).getD k 0)-lenAt lens ((rankL lens).getD (k-1) 0))∧lenAt lens ((rankL lens).getD (k-1) 0)≤lenAt lens ((rankL lens).getD k 0)∧0<lenAt lens ((rankL lens).getD (k-1) 0):=fun h=>by
    have h5:=wordAt_succ (lens:=lens) (k:=k-1) (by omega)
    have e:k-1+1=k:=by omega
    rw [e] at h5
    exact ⟨h5,rank_le (by omega) hkl,(rank_lenAt (k:=k-1) (by omega)).1⟩
   have hw0:k=0→wordAt lens k=0:=fun h=>by rw [h,wordAt_zero]
   obtain ⟨s,hs⟩:∃ s,s=(rankL lens).getD k 0:=⟨_,rfl⟩
   rw [←hs] at cs cl cw fw hset hl0 hl24 hsn hwlt hstep hws
   obtain ⟨L,hL⟩:∃ L,L=lenAt lens s:=⟨_,rfl⟩
   rw [←hL] at cl hl0 hl24 hwlt hstep
   obtain ⟨wn,hwn⟩:∃ wn,wn=wordAt lens k:=⟨_,rfl⟩
   rw [←hwn] at hset hwlt hstep hw0
   have hnext:Hid ((k+1=0∧wn=0∧L=0)∨(0<k+1∧wn=wordAt lens (k+1-1)∧L=lenAt lens ((rankL lens).getD (k+1-1) 0))):=hid (.inr ⟨by omega,by rw [Nat.add_sub_cancel];exact hwn,by rw [Nat.add_sub_cancel,←hs];exact hL⟩)
   have cs':wr.cell? ⟨gr,orr+k,none⟩=some (.int .i64 s):=cs
   have cl':wr.cell? ⟨gl,ol+s,none⟩=some (.int .i64 L):=cl
   have cw':wr.cell? ⟨B,s,none⟩=some (.int .u64 ((wordsTo lens k).getD s 0:Nat)):=cw
   have hwlt24:wn<16777216:=Nat.lt_of_lt_of_le hwlt (Nat.le_trans (Nat.pow_le_pow_right (n:=2) (by decide) hl24) (by decide))
   have hset':Row (wr.setCell ⟨B,s,none⟩ (.int .u64 wn)) 70 (.slice (some ⟨B,0,none⟩) n n) B ((wordsTo lens (k+1)).map u64v):=hset
   have hset':=hid hset'
   generalize (wordsTo lens k).getD s 0=wo at *
   have hb0:(0:Int)≤(k:Int):=by omega
   have hb1:(k:Int)<(rl:Int):=by omega
   have hb2:(0:Int)≤(s:Int):=by omega
   have hb3:(s:Int)<(n:Int):=by omega
   have hglB:gl≠B:=by
    obtain ⟨b9,o9,e9,hb9,_⟩:=hc.ex (by have:=HN.out;omega)
    rw [e7] at e9
    injection e9 with e9
    injection e9 with e9 _ _
    omega
   subst e7
   have HR:=hid hrow
   clear hxx hcc hcl hwc hwf hset cs cl cw hL hwn hs hws hkl hwlt hrow hcr' hlc
   by_cases hk0:k=0
   ·rcases HK.out with ⟨hx1,h2,h3⟩ | ⟨h1,_⟩
    ·clear hx1
     subst h2
     subst h3
     have hwn0:=hw0 hk0
     subst hwn0
     have HK0:=hid hk0
     clear hstep hw0 hk0
     go_wp2_with fail
     go_roundg j
     case measure=>omega
     case rel=>exact ⟨k+1,0,L,by go_num,rfl,rfl,by omega,hid (by rcases hnext.out with ⟨h,_⟩ | h;omega;exact .inr h),hset'.out,hch.setCell (.inl (by simp)) _⟩
    ·omega
   ·rcases HK.out with ⟨h1,_⟩ | ⟨h1,h2,h3⟩
    ·omega
    ·obtain ⟨k1,k2,k3⟩:=hstep h1
     rw [←h2,←h3] at k1
     rw [←h3] at k2 k3
     obtain ⟨d,hd⟩:∃ d,d=L-bf:=⟨_,rfl⟩
     rw [←hd] at k1
     have hdI:(L:Int)-(bf:Int)=(d:Int):=by omega
     have hd24:d≤24:=by omega
     have t1:decide ((0:Int)<(bf:Int))=true:=zB (by omega)
     have hmulI:((wd:Int)+1)*(2:Int)^d=(wn:Int):=by rw [k1];simp
     have hmw:IntKind.u64.wrap (((wd:Int)+1)*(2:Int)^d)=(wn:Int):=by rw [hmulI];exact IntWalk.u64_in _ (by omega)
     have hwd:wd+1≤16777216:=by
      have:wd+1≤wn:=by rw [k1];exact Nat.le_mul_of_pos_right _ (Nat.two_pow_pos _)
      omega
     clear k1 h2 h3 hd hstep hw0 HK k2 hk0
     go_wp2_with fail
     go_roundg j
     case measure=>omega
     case rel=>exact ⟨k+1,wn,L,by go_num,rfl,rfl,by omega,hnext,hset'.out,hch.setCell (.inl (by simp)) _⟩
end Go.Proofs.YtijpbkakncglgaaGreatDoor
