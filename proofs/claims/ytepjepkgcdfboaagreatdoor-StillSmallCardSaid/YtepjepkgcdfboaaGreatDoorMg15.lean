/- package prefix by its contracts, the third part: next. -/
import Derived.Test.YtepjepkgcdfboaaGreatDoorMg13
import Derived.Deep.RegionHeld3
set_option linter.unusedVariables false
set_option linter.unusedSimpArgs false
set_option maxHeartbeats 4000000
set_option maxRecDepth 100000
namespace Go.Proofs.YtepjepkgcdfboaaGreatDoor
open Go.RowKit
theorem packs_snoc2 (a b:El):∀ l:List El,l.length%2=0->packs (l++[a,b])=packs l++[.pack a b]
 | [],_=>rfl
 | [_],h=>by simp at h
 | x::y::l,h=>by
  have:=packs_snoc2 a b l (by simp at h;omega)
  simp only [List.cons_append,packs,this]
theorem packs_take_succ (l:List El) (q:Nat) (h:2*q+1<l.length):packs (l.take (2*q+2))=packs (l.take (2*q))++[.pack l[2*q] l[2*q+1]]:=by
 have e1:l.take (2*q+2)=l.take (2*q)++[l[2*q],l[2*q+1]]:=by
  rw [take_snoc' l h,take_snoc' l (by omega),zH]
  rfl
 rw [e1,packs_snoc2 _ _ _ (by rw [zI];omega)]
theorem packs_take_all (l:List El) {q:Nat} (h1:2*q<=l.length) (h2:l.length<=2*q+1):packs (l.take (2*q))=packs l:=by
 by_cases h:l.length=2*q
 ·rw [<-h,zN]
 ·have hl:l.length=2*q+1:=by omega
  have e:l=l.take (2*q)++[l[2*q]'(by omega)]:=by
   rw [<-take_snoc' l (by omega),zT (by omega)]
  have aa:∀ (m:List El) (a:El),m.length%2=0->packs (m++[a])=packs m:=by
   intro m a
   induction m using packs.induct with
   | case1 x y m im =>
    intro hm
    simp only [List.cons_append,packs]
    rw [im (by simp at hm;omega)]
   | case2 m hm0 =>
    intro hm
    cases m with
    | nil=>rfl
    | cons x m =>
     cases m with
     | nil=>simp at hm
     | cons y m=>exact absurd rfl (hm0 x y m)
  conv=>rhs;rw [e]
  rw [aa _ _ (by rw [zI];omega)]
theorem ptr_elem:Elem Tryz.prog 249 250 (.pointer none) 1 8:=.mk' Tryz.underlying249 (by kernel_rfl)
theorem encE_one (l:List PE):∀ u∈l.map encE,u.oneCell'=true:=by
 intro u hu
 obtain ⟨p,_,rfl⟩:=List.mem_map.1 hu
 rfl
theorem next_ok (P:Nat->Prop) (w:World) (hP:∀ x,w.heap.size<=x->P x) (AC AR:Option Addr) (cC cR:Nat) (C R:List PE) (h2:2<=C.length) (hCl:C.length<=1024) (hRl:R.length<=4096) (hcC:Cells encE w AC C) (hcR:Cells encE w AR R) (hEC:Els P w C) (hER:Els P w R) (hwt:∀ p∈R,p.2.wt<=1125899906842624) :
  Calls Tryz.prog 219 #[.slice AC C.length cC,.slice AR R.length cR] w fun e w'=>∃ v g E',e=.returned v/\Row w' 250 v g (E'.map encE)/\E'.map (·.2)=sortT (C.map (·.2)++packs (R.map (·.2)))/\Els P w' E'/\Chg [] w w'/\w.heap.size<=g:=by
 obtain ⟨n,hn⟩:=zX (R.length)
 obtain ⟨c,hc⟩:=zX (C.length)
 rw [<-hn] at hRl ⊢
 rw [<-hc] at h2 hCl ⊢
 have HN:=hid hn
 have HC:=hid hc
 have a0:=hid hwt
 have aV:=hid hEC
 have aT:=hid hP
 have aO:=hid hER
 clear hn hc hwt hEC hER hP
 have aj:Cells (fun u=>u) w AC (C.map encE):=⟨fun h0=>by
  obtain ⟨b,o,e1,e2,e3⟩:=hcC.ex (by simpa using h0)
  exact ⟨b,o,e1,e2,fun i a ha=>by
   rw [zW] at ha
   cases hC:C[i]? with
   | none=>rw [hC] at ha;cases ha
   | some p=>rw [hC] at ha;injection ha with ha;rw [<-ha];exact e3 i p hC⟩⟩
 go_enter Tryz.func219,Tryz.ntmps219
 go_wp2_with (at_builtin;refine wpList_append_s rfl rfl ptr_elem rfl rfl (Own.nil w 250) (C.map encE) c rfl ?c1 ?c2 ?c3 ?c4 ?c5 ?_)
 case c1=>rw [zE];exact HC.out
 case c2=>exact aj
 case c3=>exact encE_one _
 case c4=>rw [zE,<-HC.out];simp;omega
 case c5=>rw [zE,<-HC.out];simp;omega
 intro v1 F1 w1 h1 h3
 have av:=h1.cases
 rcases av with ⟨_,aL,_⟩ | ⟨g1,ar,rfl⟩
 ·exfalso
  have:=congrArg List.length aL
  rw [zE,<-HC.out] at this
  simp at this
  omega
 have a1:w.heap.size<=g1:=by
  rcases h3.new g1 (by simp) with h | h
  ·simp at h
  ·exact h
 have aQ:Chg [] w w1:=h3.chg
 clear h1 h3 aj hcC
 have bm:(C.map (·.2)).length=c:=by rw [zE,HC.out]
 obtain ⟨T,hT⟩:=zX (R.map (·.2))
 have aZ:T.length=n:=by rw [hT,zE,HN.out]
 have HT:=hid hT
 have aC:=hid aZ
 clear hT aZ bm
 go_wp2
 go_loopg [5,6] n (fun k vo vi' wr=>∃ (q:Nat) (Q:List PE) (g0:Nat),vi'=.int .i64 ((2*q:Nat):Int)/\2*q<=n/\n<=2*q+k/\Row wr 250 vo g0 ((C++Q).map encE)/\Hid (Q.map (·.2)=packs (T.take (2*q)))/\Q.length=q/\Els (fun x=>x≠g0/\P x) wr Q/\w.heap.size<=g0/\Chg [] w wr)
 case atStart=>exact ⟨0,[],g1,rfl,by omega,by omega,by rw [List.append_nil];exact ar,hid (by simp [packs]),rfl,by intro p hp;simp at hp,a1,aQ⟩
 case round =>
  clear ar aQ a1
  obtain ⟨q,Q,g0,rfl,aI,a9,ac,HQ,aN,al,aG,ab⟩:=hrel
  obtain ⟨ba,rfl,ah,az,_,_⟩:=ac.open_map
  have aw:(C++Q).length=c+q:=by rw [zC,<-HC.out,aN]
  rw [aw] at ah ⊢
  by_cases hend:n<=2*q+1
  ·have t1:decide (((2*q:Nat):Int)+1<(n:Int))=false:=zA (by omega)
   have aW:=order_ok wr _ g0 (C++Q) (by omega) (by omega) ac (by
    intro p hp
    rcases zP.1 hp with h5 | h5
    ·exact ((aV.out p h5).imp (Q:=fun x=>x≠g0) fun x hx _=>by omega).same ab
    ·exact (al p h5).imp fun x _ h=>h.1)
   rw [aw] at aW
   have bp:Hid (Els (fun x=>x≠g0/\P x) wr (C++Q)):=hid (by
    intro p hp
    rcases zP.1 hp with h5 | h5
    ·exact ((aV.out p h5).imp (Q:=fun x=>x≠g0/\P x) fun x hx h=>⟨by omega,h⟩).same ab
    ·exact al p h5)
   clear al
   go_wp2_with fail
   refine aW.mono ?_
   rintro e w2 ⟨rfl,k3,k4⟩
   have k1:=sortE_perm (fun p:PE=>p.2) (C++Q) ((C++Q).headD default)
   have k0:=sortE_map (fun p:PE=>p.2) (C++Q) ((C++Q).headD default)
   obtain ⟨E',aX⟩:=zX (sortE (fun p:PE=>p.2) (C++Q) ((C++Q).headD default))
   rw [<-aX] at k0 k1 k3
   have K0:=hid k0
   have K1:=hid k1
   clear k0 k1 aX
   go_wp2
   go_ret
   refine ⟨_,g0,E',rfl,k3,?_,?_,ab.trans k4 (fun x hx=>by rw [zU.1 hx];exact .inr aG),aG⟩
   ·have e1:=K0.out
    rw [zM,HQ.out,packs_take_all T (by rw [aC.out];exact aI) (by rw [aC.out];exact hend),HT.out] at e1
    exact e1
   ·intro p hp
    have h5:=bp.out p (K1.out.mem_iff.1 hp)
    exact (h5.chg k4 (fun x hx=>by rw [zU.1 hx];simp)).imp fun _ _ h=>h.2
  ·rcases gk with _ | gk
   ·omega
   ·have t1:decide (((2*q:Nat):Int)+1<(n:Int))=true:=zB (by omega)
    have aB:2*q+1<R.length:=by rw [<-HN.out];omega
    have ai:=hcR.same ab
    obtain ⟨gr,af,rfl,aS,aE⟩:=ai.ex (by omega)
    have p1:=aE (2*q) _ (zF (by omega))
    have p2:=aE (2*q+1) _ (zF aB)
    have m1:R[2*q]∈R:=zG _
    have m2:R[2*q+1]∈R:=zG _
    have ax:packs (T.take (2*(q+1)))=packs (T.take (2*q))++[.pack R[2*q].2 R[2*q+1].2]:=by
     have:=packs_take_succ T q (by rw [aC.out];omega)
     rw [show 2*(q+1)=2*q+2 by omega,this]
     congr 3<;>simp [HT.out]
    have aP:=a0.out _ m1
    have aU:=a0.out _ m2
    have ao:=aO.out _ m1
    have au:=aO.out _ m2
    generalize R[2*q]=x1 at *
    generalize R[2*q+1]=x2 at *
    obtain ⟨b1,ae⟩:=x1
    obtain ⟨b2,ad⟩:=x2
    simp only at aP aU ao au ax
    have c1:=(ao.same ab).head.2.2
    have c2:=(au.same ab).head.2.2
    have aR:wr.cell? ⟨gr,af+2*q,none⟩=some (.pointer (some ⟨b1,0,none⟩)):=p1
    have aJ:wr.cell? ⟨gr,af+(2*q+1),none⟩=some (.pointer (some ⟨b2,0,none⟩)):=p2
    obtain ⟨i,hi⟩:=zX (2*q)
    rw [<-hi] at aR aJ t1 aI a9 hend aB ax ⊢
    have a7:=hid ax
    have HI:=hid hi
    have bo:=hid ao
    have bn:=hid au
    have bk:=hid al
    have a2:=hid ab
    have br:(0:Int)<=(i:Int):=by omega
    have bs:(i:Int)<(n:Int):=by omega
    obtain ⟨i1,aY⟩:=zX (i+1)
    have bu:(i1:Int)<(n:Int):=by omega
    have bv:(0:Int)<=(i1:Int):=by omega
    have bd:(i:Int)+1=(i1:Int):=by omega
    have bc:IntKind.i64.wrap (i1:Int)=(i1:Int):=IntWalk.i64_in _ (by omega)
    have bz:IntKind.i64.wrap ((i:Int)+1)=(i1:Int):=by rw [bd];exact bc
    rw [<-aY] at aJ
    clear aY
    have an:IntKind.i64.wrap (((ae.wt:Nat):Int)+((ad.wt:Nat):Int))=((ae.wt+ad.wt:Nat):Int):=by
     have e:((ae.wt:Nat):Int)+((ad.wt:Nat):Int)=((ae.wt+ad.wt:Nat):Int):=by simp
     rw [e]
     exact IntWalk.i64_in _ (by omega)
    have hS:∀ w',Chg [g0] wr w'->w'.cell? ⟨gr,af+i,none⟩=some (.pointer (some ⟨b1,0,none⟩))/\w'.cell? ⟨gr,af+i1,none⟩=some (.pointer (some ⟨b2,0,none⟩))/\w'.cell? ⟨b1,0,none⟩=some (.int .i64 ae.wt)/\w'.cell? ⟨b2,0,none⟩=some (.int .i64 ad.wt):=by
     intro w' ay
     obtain ⟨bx,bw,e',a6,_⟩:=hcR.ex (by omega)
     injection e' with e'
     injection e' with e1 e2 _
     subst e1
     have q1:=ao.head.2.1
     have q2:=au.head.2.1
     exact ⟨(World.cell?_of_block (w:=wr) (ay.block gr aS (by simp;omega))).trans aR,(World.cell?_of_block (w:=wr) (ay.block gr aS (by simp;omega))).trans aJ,
      (World.cell?_of_block (w:=wr) (ay.block b1 (Nat.lt_of_lt_of_le q1 ab.size) (by simp;omega))).trans c1,(World.cell?_of_block (w:=wr) (ay.block b2 (Nat.lt_of_lt_of_le q2 ab.size) (by simp;omega))).trans c2⟩
    obtain ⟨k1,aA⟩:=zX (ae.wt)
    obtain ⟨k2,aD⟩:=zX (ad.wt)
    rw [<-aA] at c1 aP an hS
    rw [<-aD] at c2 aU an hS
    have bh:=hid aA
    have bg:=hid aD
    have be:=hid aN
    have HS:=hid hS
    have aM:=ac.toOwn
    have bl:=ac.lt
    have bA:((C++Q).map encE).length<=8192:=by rw [zE,aw];omega
    clear aE p1 p2 m1 m2 ax ao au al ai hi aN hS aA aD
    have a8:Hid (i+1<n):=hid (by omega)
    clear aI hend aB
    obtain ⟨wx,aK⟩:=zX ((((wr.alloc (.cells #[.pointer (some ⟨b1,0,none⟩),.pointer (some ⟨b2,0,none⟩)] 250)).alloc (.cells #[.int .i64 ((k1:Int)+(k2:Int)),.int .i64 0,.slice (some ⟨wr.heap.size,0,none⟩) 2 2] 252)).alloc (.cells #[.pointer (some ⟨wr.heap.size+1,0,none⟩)] 250)).drew)
    have aa:Chg [] wr wx:=by rw [aK];exact (((((zR [] wr).alloc _).alloc _).alloc _).drew)
    have ak:=aM.same aa
    rw [aw] at ak
    have a4:wx.cell? ⟨wr.heap.size+2,0,none⟩=some (.pointer (some ⟨wr.heap.size+1,0,none⟩)):=by
     rw [aK]
     have:=(Blk.new ((wr.alloc (.cells #[.pointer (some ⟨b1,0,none⟩),.pointer (some ⟨b2,0,none⟩)] 250)).alloc (.cells #[.int .i64 ((k1:Int)+(k2:Int)),.int .i64 0,.slice (some ⟨wr.heap.size,0,none⟩) 2 2] 252)) 250 #[.pointer (some ⟨wr.heap.size+1,0,none⟩)]).cell 0
     simpa using this
    have HX:=hid aK
    have a3:Hid (Chg [g0] wr wx):=hid (aa.mono (by simp))
    go_wp2
    go_region_held3 (fun w'=>w'.cell? ⟨gr,af+i,none⟩=some (.pointer (some ⟨b1,0,none⟩))/\w'.cell? ⟨gr,af+i1,none⟩=some (.pointer (some ⟨b2,0,none⟩))/\w'.cell? ⟨b1,0,none⟩=some (.int .i64 k1)/\w'.cell? ⟨b2,0,none⟩=some (.int .i64 k2)) (first | (go_keep;done) | exact HS.out _ ((zR [g0] wr).alloc _) | exact HS.out _ (((zR [g0] wr).alloc _).alloc _) | exact HS.out _ ((((zR [g0] wr).alloc _).alloc _).alloc _) | exact HS.out _ (((((zR [g0] wr).alloc _).alloc _).alloc _).drew) | exact HS.out _ (a3.out.trans_same (Grow.chg (by assumption))))
     (first | (rw [<-HX.out];refine step_append_o1 (by rfl) (by rfl) ptr_elem (by rfl) (by rfl) ak (.pointer (some ⟨wr.heap.size+1,0,none⟩)) (by rfl) a4 (by rfl) (by omega) (by omega) ?_;intro g2 a5 w5 bq ap))
    go_wp2_with fail
    go_roundg gk
    case measure=>omega
    case rel =>
     have bj:wx.heap.size=wr.heap.size+3:=by rw [HX.out];simp
     have am:g2=g0\/wr.heap.size+3<=g2:=by
      rcases ap.new g2 (by simp) with h5 | h5
      ·exact .inl (by simpa using h5)
      ·exact .inr (by omega)
     have bf:Blk wx wr.heap.size 250 #[.pointer (some ⟨b1,0,none⟩),.pointer (some ⟨b2,0,none⟩)]:=by
      rw [HX.out]
      exact (((Blk.new wr _ _).alloc _).alloc _).drew
     have bi:Blk wx (wr.heap.size+1) 252 #[.int .i64 ((k1:Int)+(k2:Int)),.int .i64 0,.slice (some ⟨wr.heap.size,0,none⟩) 2 2]:=by
      rw [HX.out]
      have:=Blk.new (wr.alloc (.cells #[.pointer (some ⟨b1,0,none⟩),.pointer (some ⟨b2,0,none⟩)] 250)) 252 #[.int .i64 ((k1:Int)+(k2:Int)),.int .i64 0,.slice (some ⟨wr.heap.size,0,none⟩) 2 2]
      have e:(wr.alloc (.cells #[.pointer (some ⟨b1,0,none⟩),.pointer (some ⟨b2,0,none⟩)] 250)).heap.size=wr.heap.size+1:=by simp
      rw [e] at this
      exact (this.alloc _).drew
     have aH:=bf.chg ap.chg (by simp;omega)
     have aF:=bi.chg ap.chg (by simp;omega)
     have aq:Chg [] w w5:=(a2.out.trans_same aa).trans ap.chg (fun x hx=>by rw [zU.1 hx];exact .inr aG)
     have bB:=a2.out.size
     have ag:∀ (e:El) (bb:Nat),IsEl P w e bb->IsEl (fun x=>x≠g2/\P x) w5 e bb:=fun e bb h=>(h.imp (Q:=fun x=>x≠g2/\P x) fun x hx h9=>⟨by rcases am with rfl | h6<;>omega,h9⟩).same aq
     refine ⟨q+1,Q++[(wr.heap.size+1,.pack ae ad)],g2,?_,?_,?_,?_,hid ?_,?_,?_,?_,aq⟩
     ·have e:((2*(q+1):Nat):Int)=(i:Int)+2:=by have:=HI.out;omega
      rw [e]
     ·have:=HI.out;have:=a8.out;omega
     ·have:=HI.out;omega
     ·have e:(C++(Q++[(wr.heap.size+1,El.pack ae ad)])).map encE=(C++Q).map encE++[.pointer (some ⟨wr.heap.size+1,0,none⟩)]:=by
       rw [<-zH,zM];rfl
      rw [e]
      have e2:((C++Q).map encE).length+1=C.length+Q.length+1:=by simp
      rw [<-e2]
      exact bq
     ·rw [zM,HQ.out,a7.out,HI.out];rfl
     ·rw [zC,be.out];rfl
     ·intro p hp
      rcases zP.1 hp with h5 | h5
      ·have h6:=((bk.out p h5).same aa).imp (Q:=fun x=>x≠g0/\x≠g2/\P x) fun x hx h7=>⟨h7.1,by rcases am with rfl | h8;exact h7.1;omega,h7.2⟩
       exact (h6.chg ap.chg (fun x hx=>by rw [zU.1 hx];simp)).imp fun _ _ h=>h.2
      ·rw [zU.1 h5]
       refine ⟨wr.heap.size,b1,b2,?_,?_,?_,aH,ag _ _ bo.out,ag _ _ bn.out⟩
       ·exact ⟨by rcases am with rfl | h6<;>omega,aT.out _ (by omega)⟩
       ·exact ⟨by rcases am with rfl | h6<;>omega,aT.out _ (by omega)⟩
       ·rw [<-bh.out,<-bg.out,Int.natCast_add]
        exact aF
     ·rcases am with rfl | h6<;>omega
def addOcc (t:El) (l:List Nat):List Nat:=l.mapIdx fun s x=>x+t.occ s
def El.symsIn (n:Nat):El->Prop
 | .coin s _=>s<n
 | .pack a b=>a.symsIn n/\b.symsIn n
theorem addOcc_len (t:El) (l:List Nat):(addOcc t l).length=l.length:=by simp [addOcc]
theorem addOcc_getD (t:El) (l:List Nat) {s:Nat} (h:s<l.length):(addOcc t l).getD s 0=l.getD s 0+t.occ s:=by
 simp [addOcc,zD,h]
theorem addOcc_pack (a b:El) (l:List Nat):addOcc b (addOcc a l)=addOcc (.pack a b) l:=by
 unfold addOcc
 rw [List.mapIdx_mapIdx]
 congr 1
 funext s x
 show x+a.occ s+b.occ s=x+(a.occ s+b.occ s)
 omega
theorem addOcc_coin (s k:Nat) (l:List Nat) (h:s<l.length):addOcc (.coin s k) l=l.set s (l.getD s 0+1):=by
 apply List.ext_getElem?
 intro i
 unfold addOcc
 rw [List.getElem?_mapIdx,List.getElem?_set]
 by_cases hi:s=i
 ·subst hi
  rw [if_pos rfl,if_pos h,zD,zF h]
  simp [El.occ]
 ·rw [if_neg hi]
  cases hl:l[i]? with
  | none=>rfl
  | some x =>
   simp only [Option.map_some,El.occ]
   rw [if_neg hi]
   rfl
theorem count_ok (g cap n:Nat):∀ (t:El) (b:Nat) (l:List Nat) (w:World),l.length=n->t.symsIn n->(∀ s,l.getD s 0+t.occ s<=4096)->IsEl (·≠g) w t b->Row w 3 (.slice (some ⟨g,0,none⟩) n cap) g (l.map i64) ->
  Calls Tryz.prog 220 #[.pointer (some ⟨b,0,none⟩),.slice (some ⟨g,0,none⟩) n cap] w fun e w'=>e=.returned (.tuple #[])/\Row w' 3 (.slice (some ⟨g,0,none⟩) n cap) g ((addOcc t l).map i64)/\Chg [g] w w':=by
 intro t
 induction t with
 | coin s k =>
  intro b l w hl hs hb hE hr
  have am:s<n:=hs
  obtain ⟨hP,hB⟩:=hE
  have b1:=hB.cell 1
  have b2:=hB.cell 2
  simp at b1 b2
  have hx:(l.getD s 0:Nat)+1<=4096:=by
   have:=hb s
   simpa [El.occ] using this
  have ad:=hr.set_ (i:=s) (by rw [zE,hl];exact am) (i64 (l.getD s 0+1))
  rw [<-List.map_set,<-addOcc_coin s k l (by omega)] at ad
  obtain ⟨an,e1,_,_,aa,ae⟩:=hr.open_map
  have c1:=aa s (l.getD s 0) (by rw [zD,zF (by omega)];rfl)
  have f1:=ae s
  have ap:w.cell? ⟨g,s,none⟩=some (.int .i64 ((l.getD s 0:Nat):Int)):=c1
  have ab:Row (w.setCell ⟨g,s,none⟩ (.int .i64 ((l.getD s 0+1:Nat):Int))) 3 (.slice (some ⟨g,0,none⟩) n cap) g ((addOcc (.coin s k) l).map i64):=ad
  have h0:(0:Int)<=(s:Int):=by omega
  have h1:(s:Int)<(n:Int):=by omega
  generalize addOcc (.coin s k) l=l' at *
  generalize l.getD s 0=x at *
  have e2:((x+1:Nat):Int)=(x:Int)+1:=by simp
  rw [e2] at ab
  clear ad aa ae hb c1 e1 hr hl hs hB
  go_enter Tryz.func220,Tryz.ntmps220
  go_wp2
  refine bodyPost_ret (results_none rfl _ _ _) rfl ?_
  exact ⟨rfl,ab,(zR [g] w).setCell (.inl (by simp)) _⟩
 | pack x y ihx ihy =>
  intro b l w hl hs hb hE hr
  obtain ⟨gp,b1,b2,hP,ah,hB,hG,hx,hy⟩:=hE
  have c2:=hB.cell 2
  simp at c2
  have p0:=hG.cell 0
  have p1:=hG.cell 1
  simp at p0 p1
  obtain ⟨ai,af⟩:=hs
  have al:∀ s,l.getD s 0+x.occ s<=4096:=fun s=>by
   have:l.getD s 0+(x.occ s+y.occ s)<=4096:=hb s
   omega
  have ag:∀ s,(addOcc x l).getD s 0+y.occ s<=4096:=fun s=>by
   have h9:l.getD s 0+(x.occ s+y.occ s)<=4096:=hb s
   by_cases h:s<l.length
   ·rw [addOcc_getD _ _ h];omega
   ·rw [zD,List.getElem?_eq_none (by rw [addOcc_len];omega)]
    show 0+_<=_
    omega
  have i1:=fun w=>ihx b1 l w hl ai al
  have i2:=fun w=>ihy b2 (addOcc x l) w ((addOcc_len _ _).trans hl) af ag
  have ak:=addOcc_pack x y l
  rw [ak] at i2
  have I1:=hid i1
  have I2:=hid i2
  have HG:=hid hG
  have HX:=hid hx
  have HY:=hid hy
  generalize addOcc x l=lx at *
  generalize addOcc (.pack x y) l=ly at *
  clear i1 i2 ihx ihy hb al ag ai af ak hl hB hG hx hy
  go_enter Tryz.func220,Tryz.ntmps220
  go_wp2
  go_loopg [26] 2 (fun j iv wr=>∃ i:Nat,iv=.int .i64 i/\i+j=2/\Chg [g] w wr/\Hid (i=0/\Row wr 3 (.slice (some ⟨g,0,none⟩) n cap) g (l.map i64)\/i=1/\Row wr 3 (.slice (some ⟨g,0,none⟩) n cap) g (lx.map i64)\/i=2/\Row wr 3 (.slice (some ⟨g,0,none⟩) n cap) g (ly.map i64)))
  case atStart=>exact ⟨0,rfl,rfl,zR _ _,hid (.inl ⟨rfl,hr⟩)⟩
  case round =>
   clear hr
   obtain ⟨i,rfl,ao,ac,HR⟩:=hrel
   have aj:∀ x∈[g],¬ (x≠g):=by intro x hx;simp at hx;simp [hx]
   have q0:=(HG.out.chg ac (by simpa using fun h=>ah h)).cell 0
   have q1:=(HG.out.chg ac (by simpa using fun h=>ah h)).cell 1
   simp at q0 q1
   rcases HR.out with ⟨rfl,hr⟩ | ⟨rfl,hr⟩ | ⟨rfl,hr⟩
   ·obtain rfl:gk=2:=by omega
    have hc:=I1.out wr (HX.out.chg ac aj) hr
    clear HR hr
    go_wp2_with fail
    refine hc.mono ?_
    rintro e w2 ⟨rfl,k1,k2⟩
    go_wp2
    go_roundg 1
    case measure=>omega
    case rel=>exact ⟨1,rfl,rfl,ac.trans_same k2,hid (.inr (.inl ⟨rfl,k1⟩))⟩
   ·obtain rfl:gk=1:=by omega
    have hc:=I2.out wr (HY.out.chg ac aj) hr
    clear HR hr
    go_wp2_with fail
    refine hc.mono ?_
    rintro e w2 ⟨rfl,k1,k2⟩
    go_wp2
    go_roundg 0
    case measure=>omega
    case rel=>exact ⟨2,rfl,rfl,ac.trans_same k2,hid (.inr (.inr ⟨rfl,k1⟩))⟩
   ·obtain rfl:gk=0:=by omega
    go_wp2
    go_end0
    exact ⟨rfl,hr,ac⟩
theorem packs_syms {n:Nat}:∀ l:List El,(∀ e∈l,e.symsIn n)->∀ e∈packs l,e.symsIn n:=by
 intro l
 induction l using packs.induct with
 | case1 a b l il =>
  intro h e he
  rw [packs] at he
  rcases zJ.1 he with rfl | he
  ·exact ⟨h a (by simp),h b (by simp)⟩
  ·exact il (fun e h1=>h e (by simp [h1])) e he
 | case2 l hl =>
  intro _ e he
  cases l with
  | nil=>simp [packs] at he
  | cons a l =>
   cases l with
   | nil=>simp [packs] at he
   | cons b l=>exact absurd rfl (hl a b l)
theorem Rows.syms {n:Nat} {C:List El} (hC:Coins n C) {j:Nat} {R:List El} (h:Rows C j R):∀ e∈R,e.symsIn n:=by
 have hc:∀ e∈C,e.symsIn n:=fun e he=>by
  obtain ⟨s,w,rfl,h1,_⟩:=hC.coin e he
  exact h1
 induction h with
 | one hp hs=>exact fun e he=>hc e (hp.mem_iff.1 he)
 | next h hp hs ih =>
  intro e he
  rcases zP.1 (hp.mem_iff.1 he) with h5 | h5
  ·exact hc e h5
  ·exact packs_syms _ ih e h5
theorem lensOf_snoc (n:Nat) (S:List El) (t:El):lensOf n (S++[t])=addOcc t (lensOf n S):=by
 apply List.ext_getElem
 ·simp [lensOf,addOcc]
 ·intro i h1 h2
  simp [lensOf,addOcc,occL]
theorem occL_take_le (s i:Nat) (S:List El):occL s (S.take i)<=occL s S:=by
 have e:=occL_append s (S.take i) (S.drop i)
 rw [List.take_append_drop] at e
 omega
theorem one_full {n s:Nat} (hs:s<n) (hn:n<=1024):FullL ((List.replicate n 0).set s 1):=by
 have aa:∀ m∈(List.replicate n 0).set s 1,m<=1:=fun m hm=>by
  rcases List.mem_or_eq_of_mem_set hm with h | h
  ·have:=List.eq_of_mem_replicate h;omega
  ·omega
 refine ⟨by simp;omega,by simp;omega,fun m hm=>by have:=aa m hm;omega,.inl ⟨?_,aa⟩⟩
 unfold usedN
 rw [List.countP_set (by simpa using hs)]
 simp
theorem one_pos {n s i:Nat} (hs:s<n) (hi:i<n):0<((List.replicate n 0).set s 1).getD i 0 ↔ i=s:=by
 rw [zD,List.getElem?_set]
 by_cases h:s=i
 ·subst h
  rw [if_pos rfl,if_pos (by simpa using hs)]
  simp
 ·rw [if_neg h,List.getElem?_replicate,if_pos hi]
  simp
  exact fun h2=>h h2.symm
structure LensOk (freq lens:List Nat):Prop where
 len:lens.length=freq.length
 full:FullL lens
 used:∀ s,s<freq.length->(0<lens.getD s 0 ↔ 0<freq.getD s 0)
 le:∀ n∈lens,n<=12
theorem lens_one {freq:List Nat} (h1:freq.length<=1024) {s f:Nat} (hc:coinsTo freq freq.length=[.coin s f]):s<freq.length/\LensOk freq ((List.replicate freq.length 0).set s 1):=by
 have hm:El.coin s f∈coinsTo freq freq.length:=by rw [hc];simp
 obtain ⟨s',h2,h3,h4⟩:=mem_coinsTo hm
 injection h4 with h4 h5
 subst h4
 refine ⟨h2,by simp,one_full h2 h1,fun i hi => ?_,fun m hm => ?_⟩
 ·rw [one_pos h2 hi]
  have h6:=coinsOf_to freq i freq.length
  rw [hc] at h6
  have e:coinsOf i [El.coin s f]=if s=i then 1 else 0:=by
   unfold coinsOf
   rw [List.countP_cons]
   simp [El.isCoin]
  rw [e] at h6
  constructor
  ·intro h9;rw [h9];exact h3
  ·intro h7
   rw [if_pos (show i<freq.length/\0<freq.getD i 0 from ⟨hi,h7⟩)] at h6
   by_cases h8:s=i
   ·exact h8.symm
   ·rw [if_neg h8] at h6;omega
 ·rcases List.mem_or_eq_of_mem_set hm with h | h
  ·have:=List.eq_of_mem_replicate h;omega
  ·omega
theorem Row.zerosN (w:World) (n:Nat) (h:n<=1048576):Row (w.alloc (.cells (List.replicate n (Value.int .i64 0)).toArray 3)) 3 (.slice (some ⟨w.heap.size,0,none⟩) n n) w.heap.size ((List.replicate n 0).map i64):=by
 have:=Row.made w 3 (List.replicate n (Value.int .i64 0)) (by simp [maxLen];omega)
 rw [List.map_replicate]
 simpa [i64] using this
def LengthsPost (w:World) (freq:List Nat) (e:Ending) (w':World):Prop :=
 ∃ v g,e=.returned (.tuple #[v,.int .i64 0])/\Row w' 3 v g ((lensFn freq).map i64)/\LensOk freq (lensFn freq)/\Chg [] w w'/\w.heap.size<=g
theorem lengths_ok (w:World) (freq:List Nat) (A:Option Addr) (cap:Nat) (h1:1<=freq.length) (h2:freq.length<=256) (hf:∀ f∈freq,f<=4096) (hpos:0<(coinsTo freq freq.length).length) (hc:Cells i64 w A freq) :
  Calls Tryz.prog 168 #[.slice A freq.length cap,.int .i64 12] w (LengthsPost w freq):=by
 obtain ⟨n,hn⟩:=zX (freq.length)
 rw [<-hn] at h1 h2 hpos ⊢
 have cX:=run_make1 (P:=Tryz.prog) int_elem rfl .i64 .i64 n (by omega) (by omega)
 have HN:=hid hn
 have HF:=hid hf
 have bh:=hid hpos
 clear hn hf hpos
 have t1:decide ((n:Int)<1)=false:=zA (by omega)
 have t2:decide ((1024:Int)<(n:Int))=false:=zA (by omega)
 go_enter Tryz.func168,Tryz.ntmps168
 go_wp2_with fail
 go_loopg [6,7,8,31] n (fun j v6 v7 v8 iv wr=>∃ (i:Nat) (E:List PE) (F6:List Nat),iv=.int .i64 i/\i+j=n/\Own wr 250 v6 F6 (E.map encE)/\Hid (E.map (·.2)=coinsTo freq i)/\E.length<=i/\Els (fun x=>x∉F6) wr E/\(∀ x∈F6,w.heap.size<=x)/\Chg [] w wr)
 case atStart=>exact ⟨0,[],[],rfl,by omega,Own.nil _ _,hid rfl,by simp,by intro p hp;simp at hp,by simp,zR _ _⟩
 case round =>
  obtain ⟨i,E,F6,rfl,c5,ag,HE,a9,ak,aH,ap⟩:=hrel
  rcases gk with _ | j
  ·obtain rfl:i=n:=by omega
   have b3:E.length=(coinsTo freq i).length:=by rw [<-HE.out,zE]
   have hpos:=bh.out
   rw [<-b3] at hpos
   rcases ag.cases with ⟨_,bx,_⟩ | ⟨gc,ac,rfl⟩
   ·exfalso
    have:=congrArg List.length bx
    rw [zE] at this
    simp at this
    rw [this] at hpos
    simp at hpos
   obtain ⟨aK,rfl,au,av,an,_⟩:=ac.open_map
   have cC:w.heap.size<=gc:=aH gc (by simp)
   have aq:Els (·≠gc) wr E:=ak.imp fun x _ h=>by simpa using h
   have br:Hid (E.map (·.2)=coinsTo freq i):=HE
   obtain ⟨c,bi⟩:=zX (E.length)
   rw [<-bi] at au hpos a9 ⊢
   have aI:=hid bi
   have aj:=hid aq
   have bf:=hid ac
   have aQ:=hid an
   have cx:=ap.size
   have bF:=ac.lt
   have t6:((c:Int)==0)=false:=by rw [beq_eq_false_iff_ne];omega
   have t7:decide ((4096:Int)<(c:Int))=false:=zA (by omega)
   clear b3 bi ag ak aq ac an aH
   by_cases hc1:c=1
   ·have t8:((c:Int)==1)=true:=by rw [beq_iff_eq];omega
    have cn:∃ b s f,E=[(b,El.coin s f)]/\coinsTo freq i=[.coin s f]:=by
     have h3:=aI.out
     obtain ⟨⟨b,t⟩,hb⟩:=List.length_eq_one_iff.1 (h3.symm.trans hc1)
     have h4:=br.out
     rw [hb] at h4
     have hm:t∈coinsTo freq i:=by rw [<-h4];simp
     obtain ⟨s,_,_,rfl⟩:=mem_coinsTo hm
     exact ⟨b,s,_,hb,h4.symm⟩
    obtain ⟨b,s,f,rfl,bn⟩:=cn
    have a7:=lens_one (freq:=freq) (by rw [<-HN.out];omega) (by rw [<-HN.out];exact bn)
    rw [<-HN.out] at a7
    have bj:Hid (coinsTo freq freq.length=[.coin s f]):=hid (by rw [<-HN.out];exact bn)
    have cT:wr.cell? ⟨gc,0,none⟩=some (.pointer (some ⟨b,0,none⟩)):=aQ.out 0 _ rfl
    have aA:=aj.out (b,.coin s f) (by simp)
    have c6:b<wr.heap.size:=aA.2.lt
    have cP:wr.cell? ⟨b,1,none⟩=some (.int .i64 s):=by
     have:=aA.2.cell 1
     simpa using this
    have aF:=Row.zerosN wr i (by omega)
    have ch:=hid a7
    have bQ:=a7.1
    have cW:(0:Int)<=(s:Int):=by omega
    have cH:(s:Int)<(i:Int):=by omega
    have aC:=aF.set_ (i:=s) (by simpa using bQ) (i64 1)
    rw [<-List.map_set] at aC
    have cz:=hid aC
    obtain ⟨cL,cq,_,_,bH,bZ⟩:=aF.open_map
    clear cq
    have cw:=bH s 0 (by rw [List.getElem?_replicate,if_pos bQ])
    have cK:=bZ s
    have cZ:gc≠wr.heap.size:=by omega
    have c4:b≠wr.heap.size:=by omega
    subst hc1
    clear a7 aC aF bH bZ aA bn
    go_wp2_with fail
    go_ret2
    have e:(Array.replicate i (Value.int .i64 0)).setIfInBounds s (.int .i64 1)=(((List.replicate i 0).set s 1).map i64).toArray:=by
     rw [List.map_set,List.map_replicate]
     show ((List.replicate i (Value.int .i64 0)).toArray).setIfInBounds s (.int .i64 1)=_
     rw [List.setIfInBounds_toArray]
     rfl
    have am:=Row.made wr 3 (((List.replicate i 0).set s 1).map i64) (by simp [maxLen];omega)
    rw [<-e] at am
    have bC:(((List.replicate i 0).set s 1).map i64).length=i:=by simp
    rw [bC] at am
    have aS:=lensFn_one bj.out
    rw [<-HN.out] at aS
    unfold LengthsPost
    rw [aS]
    exact ⟨_,wr.heap.size,rfl,am,ch.out.2,ap.alloc _,cx⟩
   ·have t8:((c:Int)==1)=false:=by rw [beq_eq_false_iff_ne];omega
    have cm:=coinsTo_len freq i
    have bk:=fun w2 (hc2:Chg [] wr w2)=>order_ok w2 _ gc E (by rw [<-aI.out];omega) (by rw [<-aI.out];omega) (bf.out.chg hc2 (by simp)) (aj.out.same hc2)
    rw [<-aI.out] at bk
    obtain ⟨gl,bc⟩:=zX (wr.heap.size)
    obtain ⟨w1,a3⟩:=zX (wr.alloc (.cells (Array.replicate i (Value.int .i64 0)) 3))
    have aF:Row w1 3 (.slice (some ⟨gl,0,none⟩) i i) gl ((List.replicate i 0).map i64):=by
     rw [a3,bc]
     exact Row.zerosN wr i (by omega)
    have al:Chg [] wr w1:=by rw [a3];exact (zR [] wr).alloc _
    have aV:=bk w1 al
    have co:Els (fun x=>x≠gl) w1 E:=fun p hp=>((aj.out p hp).imp (Q:=fun x=>x≠gl/\x≠gc) fun x hx h=>⟨by omega,h⟩).same al |>.imp fun _ _ h=>h.1
    have aO:Els (fun x=>x≠gl/\x≠gc) w1 E:=fun p hp=>((aj.out p hp).imp (Q:=fun x=>x≠gl/\x≠gc) fun x hx h=>⟨by omega,h⟩).same al
    have ct:=hid a3
    have cA:=hid bc
    have bw:=hid aO
    have cE:=hid aF
    clear bk co aO aF a3
    have ao:gc≠gl:=by omega
    have aW:w.heap.size<=gl:=by omega
    have ba:=hid (ap.trans_same al)
    clear bc al
    go_wp2_with fail
    rw [<-ct.out,<-cA.out]
    refine aV.mono ?_
    rintro e w2 ⟨rfl,k3,k4⟩
    have k1:=sortE_perm (fun p:PE=>p.2) E (E.headD default)
    have k0:=sortE_map (fun p:PE=>p.2) E (E.headD default)
    obtain ⟨E',b0⟩:=zX (sortE (fun p:PE=>p.2) E (E.headD default))
    rw [<-b0] at k0 k1 k3
    rw [br.out] at k0
    clear b0
    have aE:E'.length=c:=by rw [k1.length_eq];exact aI.out.symm
    have ae:=coinsTo_ok freq
    obtain ⟨C,hC⟩:=zX (coinsTo freq i)
    rw [<-HN.out,<-hC] at ae
    have ax:(E'.map (·.2)).Perm C:=by rw [hC,<-br.out];exact k1.map _
    have b5:E'.map (·.2)=rowAt C 0:=by rw [hC];exact k0
    have aM:Els (fun x=>x≠gl) w2 E':=fun p hp=>((bw.out p (k1.mem_iff.1 hp)).chg k4 (fun x hx=>by rw [zU.1 hx];simp)).imp fun _ _ h=>h.1
    have bO:Cells encE w2 (some ⟨gc,0,none⟩) E':=by
     have cF:=k3
     have:=cF.toOwn
     exact Own.cells this
    have aD:=cE.out.chg k4 (by simpa using fun h=>ao h.symm)
    have aJ:Chg [] w w2:=ba.out.trans k4 (fun x hx=>by rw [zU.1 hx];exact .inr cC)
    have b2:C.length=c:=by rw [<-ax.length_eq,zE,aE]
    have aT:∀ e∈C,e.wt<=4096:=fun e he=>by
     rw [hC] at he
     obtain ⟨s,hs,_,rfl⟩:=mem_coinsTo he
     show freq.getD s 0<=4096
     rw [zD]
     cases hx:freq[s]? with
     | none=>exact Nat.zero_le _
     | some x=>exact HF.out x (List.mem_of_getElem? hx)
    have b9:=hid ae
    have HC:=hid hC
    have cY:=hid ax
    have aU:=hid aE
    have aB:=hid b2
    have cG:=hid aT
    have bI:=hid bO
    have bL:=hid aM
    have aR:=hid aD.lt
    have bp:=hid aD
    have cI:Hid (E'.map (·.2)=sortT C):=hid (by rw [hC];exact k0)
    clear k0 k1 k3 k4 aV ae hC ax aE b2 aT aM bO aD ap hc bF
    have cc:=aJ.size
    go_wp2_with fail
    go_loopg [10,80] 11 (fun j v10 iv wk=>∃ (q:Nat) (R:List PE) (AR:Option Addr) (cR:Nat),v10=.slice AR R.length cR/\iv=.int .i64 q/\q+j=11/\Hid (Cells encE wk AR R)/\Hid (Els (fun x=>x≠gl) wk R)/\Hid (R.map (·.2)=rowAt C q)/\R.length<=cR/\cR<=9223372036854775807/\Hid (Apt AR R [gl])/\Chg [] w2 wk)
    case atStart=>exact ⟨0,E',some ⟨gc,0,none⟩,aK,by rw [aU.out],rfl,rfl,bI,bL,hid b5,by rw [aU.out];exact au,av,hid (fun _ ad e hm=>by injection e with e;subst e;simp at hm;exact ao hm),zR _ _⟩
    case round =>
     clear b5
     obtain ⟨wk,rfl⟩:=zX (wr)
     obtain ⟨q,R,AR,cR,rfl,rfl,cV,bV,bJ,bz,ci,cs,cD,af⟩:=hrel
     have bs:Rows C (q+1) (R.map (·.2)):=by rw [bz.out];exact rowAt_rows C q
     have aa:=Rows.length b9.out (by rw [aB.out];omega) bs
     have az:=hid bs
     clear bs
     have cr:R.length<=2*c:=by
      rw [zE,aB.out] at aa
      generalize (c-1) / 2^(q+1-1)=z at aa
      omega
     obtain ⟨m,hm⟩:=zX (R.length)
     rw [<-hm] at ci cr ⊢
     have HM:=hid hm
     have aL:=hid aa
     clear hm aa
     rcases gk with _ | j
     ·obtain rfl:q=11:=by omega
      have aa:=aL.out
      have bS:=HM.out
      have ah:=full_of_rows (freq:=freq) (by rw [<-HN.out];omega) (by rw [<-HN.out,<-HC.out,aB.out];omega) (R:=R.map (·.2)) (by rw [<-HN.out,<-HC.out];exact az.out)
      rw [<-HN.out,<-HC.out,aB.out] at ah
      have ar:=Rows.syms b9.out az.out
      have cO:2*c-2<=m:=by
       rw [zE,aB.out,<-bS] at aa
       have:(c-1) / 2^(11+1-1)=0:=Nat.div_eq_of_lt (by omega)
       omega
      obtain ⟨k,hk⟩:=zX (2*c-2)
      rw [<-hk] at ah cO
      have c0:(2:Int)*(c:Int)-2=(k:Int):=by omega
      have c3:(0:Int)<=(k:Int):=by omega
      have cS:(k:Int)<=(cR:Int):=by omega
      have a0:=bp.out.chg af (by simp)
      have b7:=hid ah
      have cv:=hid ar
      have bM:=bV.out
      obtain ⟨gR,oR,rfl,cN,bU⟩:=bM.ex (by omega)
      have bg:gR≠gl:=fun e=>cD.out (by omega) _ rfl (by simp [e])
      have cQ:=hid bU
      have HK:=hid hk
      clear ah ar aa bS bM bU hk
      go_wp2_with fail
      go_loopg [93] k (fun j iv wz=>∃ (t:Nat),iv=.int .i64 t/\t+j=k/\Row wz 3 (.slice (some ⟨gl,0,none⟩) i i) gl ((lensOf i ((R.map (·.2)).take t)).map i64)/\Chg [gl] wk wz)
      case atStart=>exact ⟨0,rfl,by omega,by rw [List.take_zero,lensOf_nil];exact a0,zR _ _⟩
      case round =>
       clear a0
       obtain ⟨t,rfl,cU,ac,a4⟩:=hrel
       rcases gk with _ | j
       ·obtain rfl:t=k:=by omega
        have bv:Chg [] w wr:=(aJ.trans_same af).trans a4 (fun x hx=>by rw [zU.1 hx];exact .inr aW)
        have aX:LensOk freq (lensOf i ((R.map (·.2)).take t)):=by
         obtain ⟨f1,f2,f3⟩:=b7.out
         refine ⟨by rw [lensOf_len];exact HN.out,f1,fun s hs=>f2 s (by rw [HN.out];exact hs),fun n hn => ?_⟩
         obtain ⟨s,_,rfl⟩:=List.mem_map.1 hn
         exact f3 s
        have cj:=hid aX
        clear aX
        go_wp2
        go_ret2
        have aS:=lensFn_many (freq:=freq) (by rw [<-HN.out,<-HC.out,aB.out];omega)
        rw [<-HN.out,<-HC.out,<-bz.out,aB.out,<-HK.out] at aS
        unfold LengthsPost
        rw [aS]
        exact ⟨_,gl,rfl,ac,cj.out,bv,aW⟩
       ·have a6:t<R.length:=by rw [<-HM.out];omega
        have bl:t+1<=k:=by omega
        have b1:=(bJ.out R[t] (zG _)).chg a4 (fun x hx=>by rw [zU.1 hx];simp)
        have bP:=(World.cell?_of_block (w:=wk) (a4.block gR cN (by simpa using bg))).trans (cQ.out t _ (zF a6))
        have bT:t<(R.map (·.2)).length:=by rw [zE];exact a6
        have bm:(R.map (·.2)).take (t+1)=(R.map (·.2)).take t++[R[t].2]:=by
         rw [take_snoc' _ bT];simp
        have bd:=lensOf_snoc i ((R.map (·.2)).take t) R[t].2
        rw [<-bm] at bd
        have b4:=cv.out R[t].2 (List.mem_map_of_mem (zG a6))
        have a1:∀ s,(lensOf i ((R.map (·.2)).take t)).getD s 0+R[t].2.occ s<=4096:=by
         intro s
         have e1:occL s ((R.map (·.2)).take (t+1))=occL s ((R.map (·.2)).take t)+R[t].2.occ s:=by
          rw [bm,occL_append];simp [occL]
         have e2:occL s ((R.map (·.2)).take (t+1))<=12:=by
          have e3:(R.map (·.2)).take (t+1)=((R.map (·.2)).take k).take (t+1):=by rw [List.take_take,Nat.min_eq_left bl]
          rw [e3]
          exact Nat.le_trans (occL_take_le _ _ _) (b7.out.2.2 s)
         by_cases hs:s<i
         ·rw [lensOf_getD _ hs];omega
         ·rw [zD,List.getElem?_eq_none (by rw [lensOf_len];omega)]
          show 0+_<=_
          omega
        have bA:=count_ok gl i i R[t].2 R[t].1 (lensOf i ((R.map (·.2)).take t)) wr (lensOf_len _ _) b4 a1 b1 ac
        rw [<-bd] at bA
        obtain ⟨pb,bE⟩:=zX (R[t].1)
        have cy:wr.cell? ⟨gR,oR+t,none⟩=some (.pointer (some ⟨pb,0,none⟩)):=by rw [bE];exact bP
        rw [<-bE] at bA
        have ce:(0:Int)<=(t:Int):=by omega
        have cf:(t:Int)<(k:Int):=by omega
        clear a1 b4 bd bm bT bP b1 a6 bE ac
        go_wp2_with fail
        refine bA.mono ?_
        rintro e w4 ⟨rfl,r1,r2⟩
        go_wp2_with fail
        go_roundg j
        case measure=>omega
        case rel=>exact ⟨t+1,by go_num,by omega,r1,a4.trans_same r2⟩
     ·have bR:=Rows.wt_le cG.out az.out
      have aN:2^(q+1)<=4096:=Nat.le_trans (Nat.pow_le_pow_right (n:=2) (by decide) (show q+1<=12 by omega)) (by decide)
      have b6:=next_ok (fun x=>x≠gl) wk (fun x hx=>by have:=af.size;have:=aR.out;omega) (some ⟨gc,0,none⟩) AR aK cR E' R (by rw [aU.out];omega) (by rw [aU.out];omega) (by rw [<-HM.out];omega)
       (bI.out.same af) bV.out (bL.out.same af) bJ.out (fun p hp=>by
        have:=bR p.2 (List.mem_map_of_mem hp)
        have:=Nat.mul_le_mul_left 4096 aN
        omega)
      rw [aU.out,<-HM.out] at b6
      clear bR aN
      go_wp2_with fail
      refine b6.mono ?_
      rintro e w3 ⟨v3,g3,E3,rfl,r1,r2,r4,r5,r6⟩
      obtain ⟨bD,rfl,cB,bB,_,_⟩:=r1.open_map
      have r1:=hid r1
      have r2:=hid r2
      have r4:=hid r4
      go_wp2_with fail
      go_roundg j
      case measure=>omega
      case rel =>
       refine ⟨q+1,E3,some ⟨g3,0,none⟩,bD,rfl,by go_num,by omega,hid (Own.cells r1.out.toOwn),r4,hid ?_,cB,bB,hid (fun _ ad e hm=>by
        injection e with e
        subst e
        simp at hm
        have:=af.size
        have:=aR.out
        omega),af.trans_same r5⟩
       rw [r2.out,cI.out,bz.out]
       rfl
  ·have cg:i<n:=by omega
   have a5:i<freq.length:=by rw [<-HN.out];exact cg
   obtain ⟨g,o,rfl,ai⟩:=(hc.same ap).at_ a5
   have cd:=HF.out freq[i] (zG a5)
   have bX:freq[i]=freq.getD i 0:=by rw [zD,zF a5];rfl
   rw [bX] at ai cd
   have ab:=coinsTo_succ freq i
   obtain ⟨f,bN⟩:=zX (freq.getD i 0)
   rw [<-bN] at ai cd ab
   have a8:wr.cell? ⟨g,o+i,none⟩=some (.int .i64 f):=ai
   have ce:(0:Int)<=(i:Int):=by omega
   have cf:(i:Int)<(n:Int):=by omega
   have t3:decide ((f:Int)<0)=false:=zA (by omega)
   have t4:decide ((1099511627776:Int)<(f:Int))=false:=zA (by omega)
   obtain ⟨A6,cu,rfl,aY,bo,_⟩:=ag.open_map
   clear ai bN bX a5
   by_cases hf0:0<f
   ·rw [if_pos hf0] at ab
    have bG:=hid ab
    have t5:decide ((0:Int)<(f:Int))=true:=zB (by omega)
    clear ab
    have aj:=hid ak
    have ca:=hid aH
    have bu:=hid ag.lt
    have bb:=hid a9
    obtain ⟨m,hm⟩:=zX (E.length)
    have HM:=hid hm
    rw [<-hm] at aY ag a9 ⊢
    clear ak aH hm
    obtain ⟨wx,aG⟩:=zX ((wr.alloc (.cells #[.int .i64 f,.int .i64 i,.slice none 0 0] 252)).alloc (.cells #[.pointer (some ⟨wr.heap.size,0,none⟩)] 250))
    have aw:Chg [] wr wx:=by rw [aG];exact (((zR [] wr).alloc _).alloc _)
    have be:=ag.same aw
    have ck:wx.cell? ⟨wr.heap.size+1,0,none⟩=some (.pointer (some ⟨wr.heap.size,0,none⟩)):=by
     rw [aG]
     have:=(Blk.new (wr.alloc (.cells #[.int .i64 f,.int .i64 i,.slice none 0 0] 252)) 250 #[.pointer (some ⟨wr.heap.size,0,none⟩)]).cell 0
     simp
    have bY:Blk wx wr.heap.size 252 #[.int .i64 f,.int .i64 i,.slice none 0 0]:=by
     rw [aG]
     exact (Blk.new wr _ _).alloc _
    have ay:wx.heap.size=wr.heap.size+2:=by rw [aG];simp
    have bW:(E.map encE).length=m:=by rw [zE];exact HM.out.symm
    have HX:=hid aG
    have cJ:=hid bY
    have aP:=hid ay
    have bK:=hid bW
    clear aG bY ay bW
    go_wp2_with (at_builtin;rw [<-HX.out];refine wpList_append_o1 rfl rfl ptr_elem rfl rfl be (.pointer (some ⟨wr.heap.size,0,none⟩)) rfl ck rfl ?c1 ?c2 ?_)
    case c1=>rw [bK.out];omega
    case c2=>rw [bK.out];omega
    intro g2 cl w5 cM aZ
    go_wp2_with fail
    go_roundg j
    case measure=>omega
    case rel =>
     have bq:Chg [] w w5:=(ap.trans_same aw).trans aZ.chg (fun x hx => .inr (ca.out x hx))
     have cp:w.heap.size<=g2:=by
      rcases aZ.new g2 (by simp) with h5 | h5
      ·exact ca.out _ h5
      ·have:=ap.size;have:=aP.out;omega
     have a2:∀ x,x<wx.heap.size->x∉F6->x≠g2:=fun x hx hn e=>by
      rcases aZ.new g2 (by simp) with h5 | h5
      ·exact hn (e ▸ h5)
      ·omega
     have ay:=aP.out
     have cb:wr.heap.size∉F6:=fun h=>by have:=bu.out _ h;omega
     refine ⟨i+1,E++[(wr.heap.size,.coin i f)],[g2],by go_num,by omega,?_,hid ?_,?_,?_,?_,bq⟩
     ·have e:(E++[(wr.heap.size,El.coin i f)]).map encE=E.map encE++[.pointer (some ⟨wr.heap.size,0,none⟩)]:=by rw [zM];rfl
      rw [e]
      exact cM.toOwn
     ·rw [zM,HE.out,bG.out];rfl
     ·rw [zC,List.length_singleton];have:=bb.out;omega
     ·intro p hp
      rcases zP.1 hp with h5 | h5
      ·have h6:=((aj.out p h5).same aw).imp (Q:=fun x=>x∉F6/\x≠g2) fun x hx h7=>⟨h7,a2 x hx h7⟩
       exact (h6.chg aZ.chg (fun x hx h=>h.1 hx)).imp fun x _ h=>by simpa using h.2
      ·rw [zU.1 h5]
       exact ⟨by simpa using a2 _ (by omega) cb,cJ.out.chg aZ.chg cb⟩
     ·intro x hx
      rw [zU.1 hx]
      exact cp
   ·obtain rfl:f=0:=by omega
    rw [if_neg hf0,List.append_nil] at ab
    have bG:=hid ab
    clear ab
    go_wp2_with fail
    go_roundg j
    case measure=>omega
    case rel=>exact ⟨i+1,E,F6,by go_num,by omega,ag,hid (by rw [bG.out];exact HE.out),by omega,ak,aH,ap⟩
def maxN (l:List Nat):Nat:=l.foldl max 0
theorem maxN_snoc (l:List Nat) (x:Nat):maxN (l++[x])=max (maxN l) x:=by simp [maxN]
theorem maxN_le {l:List Nat} {m:Nat} (h:∀ n∈l,n<=m):maxN l<=m:=by
 have aa:∀ (l:List Nat) (a:Nat),a<=m->(∀ n∈l,n<=m)->l.foldl max a<=m:=by
  intro l
  induction l with
  | nil=>intro a ha _;exact ha
  | cons x l ih =>
   intro a ha h
   exact ih _ (by have:=h x (by simp);omega) fun n hn=>h n (by simp [hn])
 exact aa l 0 (Nat.zero_le _) h
theorem maxN_ge {l:List Nat} {x:Nat} (h:x∈l):x<=maxN l:=by
 have aa:∀ (l:List Nat) (a:Nat),a<=l.foldl max a/\∀ x∈l,x<=l.foldl max a:=by
  intro l
  induction l with
  | nil=>intro a;exact ⟨zQ _,by simp⟩
  | cons y l ih =>
   intro a
   obtain ⟨h1,h2⟩:=ih (max a y)
   refine ⟨Nat.le_trans (Nat.le_max_left _ _) h1,fun x hx => ?_⟩
   rcases zJ.1 hx with rfl | hx
   ·exact Nat.le_trans (Nat.le_max_right _ _) h1
   ·exact h2 x hx
 exact (aa l 0).2 x h
theorem usedN_snoc (l:List Nat) (x:Nat):usedN (l++[x])=usedN l+if 0<x then 1 else 0:=by
 unfold usedN
 rw [List.countP_append,List.countP_cons]
 simp
theorem kraft_snoc (l:List Nat) (x:Nat):kraft (l++[x])=kraft l+if x=0 then 0 else 2^(24-x):=by simp [kraft]
theorem kraft_take (l:List Nat) (i:Nat):kraft (l.take i)<=kraft l:=by
 have e:kraft l=kraft (l.take i)+kraft (l.drop i):=by
  conv=>lhs;rw [<-List.take_append_drop i l]
  unfold kraft
  rw [zM,List.sum_append]
 omega
theorem max_one {lens:List Nat} (h1:usedN lens=1) (h2:∀ n∈lens,n<=1):maxN lens=1:=by
 have h3:=maxN_le h2
 have h4:0<usedN lens:=by omega
 obtain ⟨x,hx,hp⟩:=List.countP_pos_iff.1 h4
 have h5:=maxN_ge hx
 have h6:0<x:=of_decide_eq_true hp
 omega
theorem nat_at {w:World} {A:Option Addr} {l:List Nat} (h:Cells i64 w A l) {i:Nat} (hi:i<l.length):∃ g o,A=some ⟨g,o,none⟩/\w.cell? ⟨g,o+i,none⟩=some (.int .i64 (l[i]:Nat)):=by
 obtain ⟨g,o,e,c⟩:=h.at_ hi
 exact ⟨g,o,e,c⟩
theorem full_yes (lens:List Nat) (A:Option Addr) (cap:Nat) (w:World) (hf:FullL lens) (hc:Cells i64 w A lens) :
  Calls Tryz.prog 221 #[.slice A lens.length cap] w fun e w'=>e=.returned (.bool true)/\w=w':=by
 have hk:=kraft_le hf
 have ay:=hf.n1
 have aA:=hf.n2
 have af:(usedN lens=1/\maxN lens=1)\/(usedN lens≠1/\kraft lens=16777216):=by
  rcases hf.full with ⟨h1,h2⟩ | ⟨h1,h2⟩
  ·exact .inl ⟨h1,max_one h1 h2⟩
  ·exact .inr ⟨h1,h2⟩
 have aq:=hf.le
 obtain ⟨n,hn⟩:=zX (lens.length)
 rw [<-hn] at ay aA ⊢
 have HN:=hid hn
 have ai:=hid af
 have ax:=hid aq
 have HK:=hid hk
 clear hn af aq hf hk
 have t1:decide ((n:Int)<1)=false:=zA (by omega)
 have t2:decide ((1024:Int)<(n:Int))=false:=zA (by omega)
 go_enter Tryz.func221,Tryz.ntmps221
 go_wp2_with fail
 go_loopg [3,4,5,18] n (fun j vu vl vs iv wr=>∃ (i u m s:Nat),iv=.int .i64 i/\vu=.int .i64 u/\vl=.int .i64 m/\vs=.int .i64 s/\i+j=n/\Hid (u=usedN (lens.take i))/\Hid (m=maxN (lens.take i))/\Hid (s=kraft (lens.take i))/\u<=i/\m<=24/\s<=16777216/\w=wr)
 case atStart=>exact ⟨0,0,0,0,rfl,rfl,rfl,rfl,by omega,hid rfl,hid rfl,hid rfl,by omega,by omega,by omega,rfl⟩
 case round =>
  obtain ⟨i,u,m,s,rfl,rfl,rfl,rfl,aF,HU,HM,HS,hu,hm,hs,rfl⟩:=hrel
  rcases gk with _ | j
  ·obtain rfl:i=n:=by omega
   have ad:lens.take i=lens:=by rw [HN.out,zN]
   rcases ai.out with ⟨h1,h2⟩ | ⟨h1,h2⟩
   ·have e1:u=1:=by rw [HU.out,ad];exact h1
    have e2:m=1:=by rw [HM.out,ad];exact h2
    subst e1
    subst e2
    clear h1 h2 ad
    go_wp2
    go_ret
    exact ⟨rfl,rfl⟩
   ·have e1:u≠1:=by rw [HU.out,ad];exact h1
    have e2:s=16777216:=by rw [HS.out,ad];exact h2
    have t3:((u:Int)==1)=false:=by rw [beq_eq_false_iff_ne];omega
    subst e2
    clear h1 h2 ad e1
    go_wp2
    go_ret
    exact ⟨rfl,rfl⟩
  ·have aw:i<n:=by omega
   have ag:i<lens.length:=by rw [<-HN.out];exact aw
   obtain ⟨g,o,rfl,ae⟩:=nat_at hc ag
   have am:=ax.out lens[i] (zG ag)
   have ap:=take_snoc' lens ag
   have ac:=usedN_snoc (lens.take i) lens[i]
   have ab:=maxN_snoc (lens.take i) lens[i]
   have aa:=kraft_snoc (lens.take i) lens[i]
   have ao:=kraft_take lens (i+1)
   rw [<-ap] at ac ab aa
   rw [<-HU.out] at ac
   rw [<-HM.out] at ab
   rw [<-HS.out] at aa
   obtain ⟨x,hx⟩:=zX (lens[i])
   rw [<-hx] at ae am ac ab aa
   have aB:(0:Int)<=(i:Int):=by omega
   have aC:(i:Int)<(n:Int):=by omega
   have t3:decide ((x:Int)<0)=false:=zA (by omega)
   have t4:decide ((24:Int)<(x:Int))=false:=zA (by omega)
   clear ap hx ag
   by_cases hx0:0<x
   ·have t5:decide ((0:Int)<(x:Int))=true:=zB (by omega)
    rw [if_pos hx0] at ac
    rw [if_neg (by omega)] at aa
    obtain ⟨m2,ah⟩:=zX (max m x)
    have az:max (m:Int) (x:Int)=(m2:Int):=by rw [ah];omega
    have aG:(if (m:Int)<(x:Int) then (x:Int) else (m:Int))=(m2:Int):=by rw [ah];split<;>omega
    obtain ⟨y,hy⟩:=zX (24-x)
    have aD:(24:Int)-(x:Int)=(y:Int):=by omega
    rw [<-hy] at aa
    rw [<-ah] at ab
    have hp:(2:Nat)^y<=16777216:=Nat.le_trans (Nat.pow_le_pow_right (n:=2) (by decide) (show y<=24 by omega)) (by decide)
    obtain ⟨P,hP⟩:=zX (2^y)
    have aE:(2:Int)^y=(P:Int):=by rw [hP];simp
    rw [<-hP] at aa hp
    have au:s+P<=16777216:=by have:=HK.out;omega
    have av:y<=24:=by omega
    have al:=hid ac
    have aj:=hid ab
    have an:=hid aa
    have ak:m2<=24:=by omega
    clear ac ab aa ao ah hP hy
    go_wp2_with fail
    go_roundg j
    case measure=>omega
    case rel=>exact ⟨i+1,u+1,m2,s+P,by go_num,by go_num,rfl,by go_num,by omega,hid al.out.symm,hid aj.out.symm,hid an.out.symm,by omega,ak,au,rfl⟩
   ·obtain rfl:x=0:=by omega
    rw [if_neg hx0] at ac
    rw [if_pos rfl] at aa
    have ar:max m 0=m:=by omega
    rw [ar] at ab
    have al:=hid ac
    have aj:=hid ab
    have an:=hid aa
    clear ac ab aa ao ar
    go_wp2_with fail
    go_roundg j
    case measure=>omega
    case rel=>exact ⟨i+1,u,m,s,by go_num,rfl,rfl,rfl,by omega,hid al.out.symm,hid aj.out.symm,hid an.out.symm,by omega,hm,hs,rfl⟩
theorem ranked_ok (lens:List Nat) (A:Option Addr) (cap:Nat) (w:World) (hl:lens.length<=1024) (hc:Cells i64 w A lens) :
  Calls Tryz.prog 257 #[.slice A lens.length cap] w fun e w'=>∃ v F,e=.returned v/\Own w' 3 v F ((rankL lens).map i64)/\Chg [] w w'/\∀ x∈F,w.heap.size<=x:=by
 obtain ⟨n,hn⟩:=zX (lens.length)
 rw [<-hn] at hl ⊢
 have HN:=hid hn
 clear hn
 go_enter Tryz.func257,Tryz.ntmps257
 go_wp2_with fail
 go_loopg [3,4,5,6] 24 (fun j vo vn v5 v6 wr=>∃ (m:Nat) (F:List Nat),vn=.int .i64 (m+1:Nat)/\m+j=24/\Own wr 3 vo F ((rankTo lens m).map i64)/\(∀ x∈F,w.heap.size<=x)/\Chg [] w wr)
 case atStart=>exact ⟨0,[],rfl,rfl,Own.nil _ _,by simp,zR _ _⟩
 case round =>
  obtain ⟨m,F,rfl,aA,aa,hF,ab⟩:=hrel
  rcases gk with _ | ko
  ·obtain rfl:m=24:=by omega
   go_wp2
   obtain ⟨Ar,cr,rfl,_⟩:=aa.open_map
   go_ret
   exact ⟨_,rfl,F,aa,ab,hF⟩
  ·obtain ⟨q,hq⟩:=zX (m+1)
   rw [<-hq]
   have t1:decide ((q:Int)<=24)=true:=zB (by omega)
   have HQ:=hid hq
   have au:q<=24:=by omega
   have aj:=rankTo_succ lens m
   rw [<-hq,<-HN.out] at aj
   have ao:=hid aj
   have ax:=rank_len lens m
   rw [<-HN.out] at ax
   clear hq aj
   go_wp2_with fail
   go_loopg [3,5,6,13] n (fun j vo v5 v6 iv wr=>∃ (i:Nat) (F:List Nat),iv=.int .i64 i/\i+j=n/\Own wr 3 vo F ((rankTo lens m++blockTo lens q i).map i64)/\(blockTo lens q i).length<=i/\(∀ x∈F,w.heap.size<=x)/\Chg [] w wr)
   case atStart=>exact ⟨0,F,rfl,by omega,by simpa [blockTo] using aa,by simp [blockTo],hF,ab⟩
   case round =>
    clear aa hF ab
    obtain ⟨i,F,rfl,aC,aa,aB,hF,ab⟩:=hrel
    obtain ⟨Ar,cr,rfl,aq,av,_⟩:=aa.open_map
    rcases gk with _ | j
    ·obtain rfl:i=n:=by omega
     rw [<-ao.out] at aa
     have ai:(rankTo lens m++blockTo lens q i).length=(rankTo lens q).length:=by rw [ao.out]
     rw [ai]
     go_wp2_with fail
     go_roundg ko
     case measure=>omega
     case rel =>
      refine ⟨q,F,by go_num,by have:=HQ.out;omega,aa,hF,ab⟩
    ·have ar:i<n:=by omega
     have ah:i<lens.length:=by rw [<-HN.out];exact ar
     obtain ⟨g,o,rfl,ad⟩:=nat_at (hc.same ab) ah
     have ac:=blockTo_succ lens q i
     have am:lenAt lens i=lens[i]:=by simp [lenAt,zD,ah]
     rw [am] at ac
     obtain ⟨x,hx⟩:=zX (lens[i])
     rw [<-hx] at ad ac
     have ay:(0:Int)<=(i:Int):=by omega
     have az:(i:Int)<(n:Int):=by omega
     clear am hx ah
     by_cases hxq:x=q
     ·subst hxq
      rw [if_pos rfl] at ac
      have ae:=hid ac
      obtain ⟨r,hr⟩:=zX ((rankTo lens m++blockTo lens x i).length)
      have aD:r<=2048:=by rw [hr,zC];omega
      have al:((rankTo lens m++blockTo lens x i).map i64).length=r:=by rw [zE];exact hr.symm
      rw [<-hr] at aa ⊢
      have af:=aa.alloc (.cells #[.int .i64 i] 3)
      have hu:(wr.alloc (.cells #[.int .i64 i] 3)).cell? ⟨wr.heap.size,0,none⟩=some (.int .i64 i):=by simp
      have ak:=hid al
      have HF:=hid hF
      have ag:Hid (Chg [] w (wr.alloc (.cells #[.int .i64 i] 3))):=hid (ab.alloc _)
      clear ac hr al hF
      go_wp2_with (at_builtin;refine wpList_append_o1 rfl rfl int_elem rfl rfl af (.int .i64 i) rfl hu rfl ?c1 ?c2 ?_)
      case c1=>rw [ak.out];omega
      case c2=>rw [ak.out];omega
      intro g2 aw w5 an ap
      go_wp2_with fail
      go_roundg j
      case measure=>omega
      case rel =>
       refine ⟨i+1,[g2],by go_num,by omega,?_,?_,?_,ag.out.trans ap.chg (fun x hx => .inr (HF.out x hx))⟩
       ·have e:(rankTo lens m++blockTo lens x (i+1)).map i64=(rankTo lens m++blockTo lens x i).map i64++[.int .i64 i]:=by
         rw [ae.out,<-zH,zM];rfl
        have e2:(List.map i64 (rankTo lens m++blockTo lens x i)).length+1=(rankTo lens m).length+(blockTo lens x i).length+1:=by simp
        rw [e]
        simp only [zM,zH] at an ⊢
        exact an.toOwn
       ·rw [ae.out,zC,List.length_singleton];omega
       ·intro y hy
        rw [zU.1 hy]
        rcases ap.new g2 (by simp) with h5 | h5
        ·exact HF.out _ h5
        ·have:=ab.size
         have e:(wr.alloc (.cells #[.int .i64 i] 3)).heap.size=wr.heap.size+1:=by simp
         omega
     ·have t2:((x:Int)==(q:Int))=false:=by rw [beq_eq_false_iff_ne];omega
      rw [if_neg hxq,List.append_nil] at ac
      have ae:=hid ac
      clear ac
      go_wp2_with fail
      go_roundg j
      case measure=>omega
      case rel=>exact ⟨i+1,F,by go_num,by omega,by rw [ae.out];exact aa,by rw [ae.out];omega,hF,ab⟩
def u64v (x:Nat):Value:=.int .u64 x
theorem u64_elem:Elem Tryz.prog 256 37 (.int .u64 0) 1 8:=.mk' Tryz.underlying256 (by kernel_rfl)
theorem codes_ok (lens:List Nat) (A:Option Addr) (cap:Nat) (w:World) (hf:FullL lens) (hc:Cells i64 w A lens) :
  Calls Tryz.prog 222 #[.slice A lens.length cap] w fun e w'=>∃ v g,e=.returned (.tuple #[v,.int .i64 0])/\Row w' 37 v g ((wordsL lens).map u64v)/\Chg [] w w'/\w.heap.size<=g:=by
 have aI:=full_yes lens A cap w hf hc
 have a5:=hf.n1
 have aV:=hf.n2
 have aB:=fun w hc=>ranked_ok lens A cap w aV hc
 have aJ:=rank_len lens 24
 obtain ⟨n,hn⟩:=zX (lens.length)
 have br:=run_make1 (P:=Tryz.prog) u64_elem rfl .i64 .i64 n (by omega) (by omega)
 rw [<-hn] at a5 aV aI aB aJ ⊢
 have HN:=hid hn
 have HF:=hid hf
 have aZ:=hid aB
 clear hn hf aB
 have ax:=wordsTo_len lens
 rw [<-HN.out] at ax
 have aX:=hid ax
 clear ax
 go_enter Tryz.func222,Tryz.ntmps222
 go_wp2_with fail
 refine aI.mono ?_
 rintro e w' ⟨rfl,rfl⟩
 obtain ⟨w1,av⟩:=zX (w.alloc (.cells (Array.replicate n (Value.int .u64 0)) 37))
 obtain ⟨B,hB⟩:=zX (w.heap.size)
 have aF:Row w1 37 (.slice (some ⟨B,0,none⟩) n n) B ((wordsTo lens 0).map u64v):=by
  have:=Row.made w 37 (List.replicate n (Value.int .u64 0)) (by simp [maxLen];omega)
  rw [av,hB]
  have e:(wordsTo lens 0).map u64v=List.replicate n (Value.int .u64 0):=by
   unfold wordsTo
   rw [List.map_replicate,<-HN.out]
   rfl
  rw [e]
  simpa using this
 have aj:Chg [] w w1:=by rw [av];exact (zR [] w).alloc _
 have ap:=aZ.out w1 (hc.same aj)
 have a6:=hid av
 have HB:=hid hB
 clear av hB aI
 go_wp2_with fail
 rw [<-a6.out,<-HB.out]
 refine ap.mono ?_
 rintro e w2 ⟨vr,Fr,rfl,ak,aO,aN⟩
 obtain ⟨Ar,cr,rfl,ay,a7,a0⟩:=ak.open_map
 have al:=aF.chg aO (by simp)
 have ar:=aj.trans_same aO
 obtain ⟨rl,ag⟩:=zX ((rankL lens).length)
 have a2:rl<=n:=by rw [ag];exact aJ
 rw [<-ag] at ay ⊢
 have aU:=hid ag
 have aL:w.heap.size<=B:=by have:=HB.out;omega
 have aH:∀ x∈[B],x∉Fr:=fun x hx hm=>by
  rw [zU.1 hx] at hm
  have:=aN _ hm
  have h6:=aF.lt
  omega
 have aE:Apt Ar (rankL lens) [B]:=ak.apt (fun x hx hm=>aH x hm hx)
 have be:=al.lt
 clear ap aF ak aj ag aN aJ
 go_wp2_with fail
 go_loopg [5,6,8,18] rl (fun j vw vb v8 iv wr=>∃ (k wd bf:Nat),iv=.int .i64 k/\vw=.int .u64 wd/\vb=.int .i64 bf/\k+j=rl/\Hid ((k=0/\wd=0/\bf=0)\/(0<k/\wd=wordAt lens (k-1)/\bf=lenAt lens ((rankL lens).getD (k-1) 0)))/\Row wr 37 (.slice (some ⟨B,0,none⟩) n n) B ((wordsTo lens k).map u64v)/\Chg [B] w2 wr)
 case atStart=>exact ⟨0,0,0,rfl,rfl,rfl,by omega,hid (.inl ⟨rfl,rfl,rfl⟩),al,zR _ _⟩
 case round =>
  clear al
  obtain ⟨k,wd,bf,rfl,rfl,rfl,bq,HK,ae,am⟩:=hrel
  rcases gk with _ | j
  ·obtain rfl:k=rl:=by omega
   have e:wordsL lens=wordsTo lens k:=by unfold wordsL;rw [aU.out]
   have aA:Chg [] w wr:=ar.trans am (fun x hx=>by rw [zU.1 hx];exact .inr aL)
   have HE:=hid e
   clear e
   go_wp2
   go_ret2
   refine ⟨_,B,rfl,?_,aA,aL⟩
   rw [HE.out]
   exact ae
  ·have ao:k<(rankL lens).length:=by rw [<-aU.out];omega
   have bh:k<rl:=by omega
   obtain ⟨aR,ai,au⟩:=rank_lenAt ao
   have aq:=a0.keep aE am
   obtain ⟨gr,a8,rfl,bk,aM⟩:=aq.ex (by omega)
   have cs:=aM k ((rankL lens).getD k 0) (by rw [zD,zF ao];rfl)
   have aT:Cells i64 wr A lens:=(hc.same ar).keep (fun _ ad e hm=>by
    obtain ⟨b9,o9,e9,a1,_⟩:=hc.ex (by have:=HN.out;omega)
    rw [e] at e9
    injection e9 with e9
    subst e9
    simp at hm
    omega) am
   obtain ⟨gl,ol,e7,bn,aS⟩:=aT.ex (by rw [<-HN.out];omega)
   have cl:=aS ((rankL lens).getD k 0) (lenAt lens ((rankL lens).getD k 0)) (by unfold lenAt;rw [zD (l:=lens),zF au];rfl)
   obtain ⟨aW,aY,_,_,aK,aP⟩:=ae.open_map
   have aQ:(wordsTo lens k).length=n:=aX.out k
   have cw:=aK ((rankL lens).getD k 0) ((wordsTo lens k).getD ((rankL lens).getD k 0) 0) (by rw [zD (l:=wordsTo lens k),zF (by rw [wordsTo_len];exact au)];rfl)
   have fw:=aP ((rankL lens).getD k 0)
   have ac:=ae.set_ (i:=(rankL lens).getD k 0) (by rw [zE,wordsTo_len];exact au) (u64v (wordAt lens k))
   rw [<-List.map_set] at ac
   have az:wordsTo lens (k+1)=(wordsTo lens k).set ((rankL lens).getD k 0) (wordAt lens k):=rfl
   rw [<-az] at ac
   have af:=wordAt_lt HF.out ao
   rw [<-HN.out] at au
   have aa:∀ (h:0<k),wordAt lens k=(wordAt lens (k-1)+1)*2^(lenAt lens ((rankL lens).getD k 0)-lenAt lens ((rankL lens).getD (k-1) 0))/\lenAt lens ((rankL lens).getD (k-1) 0)<=lenAt lens ((rankL lens).getD k 0)/\0<lenAt lens ((rankL lens).getD (k-1) 0):=fun h=>by
    have h5:=wordAt_succ (lens:=lens) (k:=k-1) (by omega)
    have e:k-1+1=k:=by omega
    rw [e] at h5
    exact ⟨h5,rank_le (by omega) ao,(rank_lenAt (k:=k-1) (by omega)).1⟩
   have aw:k=0->wordAt lens k=0:=fun h=>by rw [h,wordAt_zero]
   obtain ⟨s,hs⟩:=zX ((rankL lens).getD k 0)
   rw [<-hs] at cs cl cw fw ac aR ai au af aa az
   obtain ⟨L,hL⟩:=zX (lenAt lens s)
   rw [<-hL] at cl aR ai af aa
   obtain ⟨wn,aG⟩:=zX (wordAt lens k)
   rw [<-aG] at ac af aa aw
   have ah:Hid ((k+1=0/\wn=0/\L=0)\/(0<k+1/\wn=wordAt lens (k+1-1)/\L=lenAt lens ((rankL lens).getD (k+1-1) 0))):=hid (.inr ⟨by omega,by rw [Nat.add_sub_cancel];exact aG,by rw [Nat.add_sub_cancel,<-hs];exact hL⟩)
   have bp:wr.cell? ⟨gr,a8+k,none⟩=some (.int .i64 s):=cs
   have bm:wr.cell? ⟨gl,ol+s,none⟩=some (.int .i64 L):=cl
   have bd:wr.cell? ⟨B,s,none⟩=some (.int .u64 ((wordsTo lens k).getD s 0:Nat)):=cw
   have aC:wn<16777216:=Nat.lt_of_lt_of_le af (Nat.le_trans (Nat.pow_le_pow_right (n:=2) (by decide) ai) (by decide))
   have ab:Row (wr.setCell ⟨B,s,none⟩ (.int .u64 wn)) 37 (.slice (some ⟨B,0,none⟩) n n) B ((wordsTo lens (k+1)).map u64v):=ac
   have ab:=hid ab
   generalize (wordsTo lens k).getD s 0=wo at *
   have ba:(0:Int)<=(k:Int):=by omega
   have bc:(k:Int)<(rl:Int):=by omega
   have bg:(0:Int)<=(s:Int):=by omega
   have bo:(s:Int)<(n:Int):=by omega
   have a3:gl≠B:=by
    obtain ⟨b9,o9,e9,a1,_⟩:=hc.ex (by have:=HN.out;omega)
    rw [e7] at e9
    injection e9 with e9
    injection e9 with e9 _ _
    omega
   subst e7
   have HR:=hid ae
   clear aY aM aS aK aP ac cs cl cw hL aG hs az ao af ae aq aT
   by_cases hk0:k=0
   ·rcases HK.out with ⟨a9,h2,h3⟩ | ⟨h1,_⟩
    ·clear a9
     subst h2
     subst h3
     have aD:=aw hk0
     subst aD
     have bb:=hid hk0
     clear aa aw hk0
     go_wp2_with fail
     go_roundg j
     case measure=>omega
     case rel=>exact ⟨k+1,0,L,by go_num,rfl,rfl,by omega,hid (by rcases ah.out with ⟨h,_⟩ | h;omega;exact .inr h),ab.out,am.setCell (.inl (by simp)) _⟩
    ·omega
   ·rcases HK.out with ⟨h1,_⟩ | ⟨h1,h2,h3⟩
    ·omega
    ·obtain ⟨k1,k2,k3⟩:=aa h1
     rw [<-h2,<-h3] at k1
     rw [<-h3] at k2 k3
     obtain ⟨d,hd⟩:=zX (L-bf)
     rw [<-hd] at k1
     have bj:(L:Int)-(bf:Int)=(d:Int):=by omega
     have a4:d<=24:=by omega
     have t1:decide ((0:Int)<(bf:Int))=true:=zB (by omega)
     have an:((wd:Int)+1)*(2:Int)^d=(wn:Int):=by rw [k1];simp
     have bi:IntKind.u64.wrap (((wd:Int)+1)*(2:Int)^d)=(wn:Int):=by rw [an];exact IntWalk.u64_in _ (by omega)
     have bl:wd+1<=16777216:=by
      have:wd+1<=wn:=by rw [k1];exact Nat.le_mul_of_pos_right _ (Nat.two_pow_pos _)
      omega
     clear k1 h2 h3 hd aa aw HK k2 hk0
     go_wp2_with fail
     go_roundg j
     case measure=>omega
     case rel=>exact ⟨k+1,wn,L,by go_num,rfl,rfl,by omega,ah,ab.out,am.setCell (.inl (by simp)) _⟩
end Go.Proofs.YtepjepkgcdfboaaGreatDoor
