/- package prefix by its contracts, the third part: next. -/
import Derived.Test.YtepjepkgcdfboaaGreatDoorMg13
import Derived.Deep.RegionHeld3
set_option linter.unusedVariables false
set_option linter.unusedSimpArgs false
set_option maxHeartbeats 4000000
set_option maxRecDepth 100000
namespace Go.Proofs.YtepjepkgcdfboaaGreatDoor
open Go.RowKit
theorem c1z (a b:El):∀ l:List El,l.length%2=0->a1o (l++[a,b])=a1o l++[.pack a b]
 | [],_=>rfl
 | [_],h=>by simp at h
 | x::y::l,h=>by
  have:=c1z a b l (by simp at h;omega)
  simp only [List.cons_append,a1o,this]
theorem c2a (l:List El) (q:Nat) (h:2*q+1<l.length):a1o (l.take (2*q+2))=a1o (l.take (2*q))++[.pack l[2*q] l[2*q+1]]:=by
 have e1:l.take (2*q+2)=l.take (2*q)++[l[2*q],l[2*q+1]]:=by
  rw [a0o l h,a0o l (by omega),zH]
  rfl
 rw [e1,c1z _ _ _ (by rw [zI];omega)]
theorem c3v (l:List El) {q:Nat} (h1:2*q<=l.length) (h2:l.length<=2*q+1):a1o (l.take (2*q))=a1o l:=by
 by_cases h:l.length=2*q
 ·rw [<-h,zN]
 ·have hl:l.length=2*q+1:=by omega
  have e:l=l.take (2*q)++[l[2*q]'(by omega)]:=by
   rw [<-a0o l (by omega),zT (by omega)]
  have aa:∀ (m:List El) (a:El),m.length%2=0->a1o (m++[a])=a1o m:=by
   intro m a
   induction m using a1o.induct with
   | case1 x y m im =>
    intro hm
    simp only [List.cons_append,a1o]
    rw [im (by simp at hm;omega)]
   | case2 m hm0 =>
    intro hm
    cases m with
    | nil=>rfl
    | cons x m =>
     cases m with
     | nil=>simp at hm
     | cons y m=>exact absurd rfl (hm0 x y m)
  conv=>rhs;rw [e]
  rw [aa _ _ (by rw [zI];omega)]
theorem c7t:b6m Tryz.prog 249 250 (.pointer none) 1 8:=.mk' Tryz.underlying249 (by kernel_rfl)
theorem e7h (l:List PE):∀ u∈l.map b9i,u.oneCell'=true:=by
 intro u hu
 obtain ⟨p,_,rfl⟩:=List.mem_map.1 hu
 rfl
theorem f1w (P:Nat->Prop) (w:World) (hP:∀ x,w.heap.size<=x->P x) (AC AR:Option Addr) (cC cR:Nat) (C R:List PE) (h2:2<=C.length) (hCl:C.length<=1024) (hRl:R.length<=4096) (hcC:a0d b9i w AC C) (hcR:a0d b9i w AR R) (hEC:Els P w C) (hER:Els P w R) (hwt:∀ p∈R,p.2.wt<=1125899906842624) :
  Calls Tryz.prog 219 #[.slice AC C.length cC,.slice AR R.length cR] w fun e w'=>∃ v g E',e=.returned v/\Row w' 250 v g (E'.map b9i)/\E'.map (·.2)=c4h (C.map (·.2)++a1o (R.map (·.2)))/\Els P w' E'/\Chg [] w w'/\w.heap.size<=g:=by
 obtain ⟨n,hn⟩:=zX (R.length)
 obtain ⟨c,hc⟩:=zX (C.length)
 rw [<-hn] at hRl ⊢
 rw [<-hc] at h2 hCl ⊢
 have HN:=hid hn
 have HC:=hid hc
 have aY:=hid hwt
 have aX:=hid hEC
 have aU:=hid hP
 have aR:=hid hER
 clear hn hc hwt hEC hER hP
 have ak:a0d (fun u=>u) w AC (C.map b9i):=⟨fun h0=>by
  obtain ⟨b,o,e1,e2,e3⟩:=hcC.ex (by simpa using h0)
  exact ⟨b,o,e1,e2,fun i a ha=>by
   rw [zW] at ha
   cases hC:C[i]? with
   | none=>rw [hC] at ha;cases ha
   | some p=>rw [hC] at ha;injection ha with ha;rw [<-ha];exact e3 i p hC⟩⟩
 go_enter Tryz.func219,Tryz.ntmps219
 go_wp2_with (at_builtin;refine a1m rfl rfl c7t rfl rfl (Own.nil w 250) (C.map b9i) c rfl ?c1 ?c2 ?c3 ?c4 ?c5 ?_)
 case c1=>rw [zE];exact HC.out
 case c2=>exact ak
 case c3=>exact e7h _
 case c4=>rw [zE,<-HC.out];simp;omega
 case c5=>rw [zE,<-HC.out];simp;omega
 intro v1 F1 w1 h1 h3
 have av:=h1.cases
 rcases av with ⟨_,aA,_⟩ | ⟨g1,ao,rfl⟩
 ·exfalso
  have:=congrArg List.length aA
  rw [zE,<-HC.out] at this
  simp at this
  omega
 have aV:w.heap.size<=g1:=by
  rcases h3.new g1 (by simp) with h | h
  ·simp at h
  ·exact h
 have aQ:Chg [] w w1:=h3.chg
 clear h1 h3 ak hcC
 have bk:(C.map (·.2)).length=c:=by rw [zE,HC.out]
 obtain ⟨T,hT⟩:=zX (R.map (·.2))
 have a2:T.length=n:=by rw [hT,zE,HN.out]
 have HT:=hid hT
 have aH:=hid a2
 clear hT a2 bk
 go_wp2
 go_loopg [5,6] n (fun k vo vi' wr=>∃ (q:Nat) (Q:List PE) (g0:Nat),vi'=.int .i64 ((2*q:Nat):Int)/\2*q<=n/\n<=2*q+k/\Row wr 250 vo g0 ((C++Q).map b9i)/\Hid (Q.map (·.2)=a1o (T.take (2*q)))/\Q.length=q/\Els (fun x=>x≠g0/\P x) wr Q/\w.heap.size<=g0/\Chg [] w wr)
 case atStart=>exact ⟨0,[],g1,rfl,by omega,by omega,by rw [List.append_nil];exact ao,hid (by simp [a1o]),rfl,by intro p hp;simp at hp,aV,aQ⟩
 case round =>
  clear ao aQ aV
  obtain ⟨q,Q,g0,rfl,aJ,a8,aa,HQ,aE,am,aD,ac⟩:=hrel
  obtain ⟨ba,rfl,al,aN,_,_⟩:=aa.oq
  have ay:(C++Q).length=c+q:=by rw [zC,<-HC.out,aE]
  rw [ay] at al ⊢
  by_cases hend:n<=2*q+1
  ·have t1:decide (((2*q:Nat):Int)+1<(n:Int))=false:=zA (by omega)
   have aS:=d6z wr _ g0 (C++Q) (by omega) (by omega) aa (by
    intro p hp
    rcases zP.1 hp with h5 | h5
    ·exact ((aX.out p h5).imp (Q:=fun x=>x≠g0) fun x hx _=>by omega).same ac
    ·exact (am p h5).imp fun x _ h=>h.1)
   rw [ay] at aS
   have bd:Hid (Els (fun x=>x≠g0/\P x) wr (C++Q)):=hid (by
    intro p hp
    rcases zP.1 hp with h5 | h5
    ·exact ((aX.out p h5).imp (Q:=fun x=>x≠g0/\P x) fun x hx h=>⟨by omega,h⟩).same ac
    ·exact am p h5)
   clear am
   go_wp2_with fail
   refine aS.mono ?_
   rintro e w2 ⟨rfl,k3,k4⟩
   have k1:=c5v (fun p:PE=>p.2) (C++Q) ((C++Q).headD default)
   have k0:=d1w (fun p:PE=>p.2) (C++Q) ((C++Q).headD default)
   obtain ⟨E',a1⟩:=zX (c8m (fun p:PE=>p.2) (C++Q) ((C++Q).headD default))
   rw [<-a1] at k0 k1 k3
   have K0:=hid k0
   have K1:=hid k1
   clear k0 k1 a1
   go_wp2
   go_ret
   refine ⟨_,g0,E',rfl,k3,?_,?_,ac.trans k4 (fun x hx=>by rw [zU.1 hx];exact .inr aD),aD⟩
   ·have e1:=K0.out
    rw [zM,HQ.out,c3v T (by rw [aH.out];exact aJ) (by rw [aH.out];exact hend),HT.out] at e1
    exact e1
   ·intro p hp
    have h5:=bd.out p (K1.out.mem_iff.1 hp)
    exact (h5.chg k4 (fun x hx=>by rw [zU.1 hx];simp)).imp fun _ _ h=>h.2
  ·rcases gk with _ | gk
   ·omega
   ·have t1:decide (((2*q:Nat):Int)+1<(n:Int))=true:=zB (by omega)
    have aB:2*q+1<R.length:=by rw [<-HN.out];omega
    have ar:=hcR.same ac
    obtain ⟨gr,af,rfl,aO,aL⟩:=ar.ex (by omega)
    have p1:=aL (2*q) _ (zF (by omega))
    have p2:=aL (2*q+1) _ (zF aB)
    have m1:R[2*q]∈R:=zG _
    have m2:R[2*q+1]∈R:=zG _
    have aw:a1o (T.take (2*(q+1)))=a1o (T.take (2*q))++[.pack R[2*q].2 R[2*q+1].2]:=by
     have:=c2a T q (by rw [aH.out];omega)
     rw [show 2*(q+1)=2*q+2 by omega,this]
     congr 3<;>simp [HT.out]
    have aP:=aY.out _ m1
    have aT:=aY.out _ m2
    have ah:=aR.out _ m1
    have aj:=aR.out _ m2
    generalize R[2*q]=x1 at *
    generalize R[2*q+1]=x2 at *
    obtain ⟨b1,ae⟩:=x1
    obtain ⟨b2,ad⟩:=x2
    simp only at aP aT ah aj aw
    have c1:=(ah.same ac).head.2.2
    have c2:=(aj.same ac).head.2.2
    have aW:wr.cell? ⟨gr,af+2*q,none⟩=some (.pointer (some ⟨b1,0,none⟩)):=p1
    have aI:wr.cell? ⟨gr,af+(2*q+1),none⟩=some (.pointer (some ⟨b2,0,none⟩)):=p2
    obtain ⟨i,hi⟩:=zX (2*q)
    rw [<-hi] at aW aI t1 aJ a8 hend aB aw ⊢
    have bc:=hid aw
    have HI:=hid hi
    have a3:=hid ah
    have a6:=hid aj
    have bq:=hid am
    have a0:=hid ac
    have br:(0:Int)<=(i:Int):=by omega
    have bz:(i:Int)<(n:Int):=by omega
    obtain ⟨i1,aZ⟩:=zX (i+1)
    have bu:(i1:Int)<(n:Int):=by omega
    have bs:(0:Int)<=(i1:Int):=by omega
    have a4:(i:Int)+1=(i1:Int):=by omega
    have a7:IntKind.i64.wrap (i1:Int)=(i1:Int):=IntWalk.i64_in _ (by omega)
    have bx:IntKind.i64.wrap ((i:Int)+1)=(i1:Int):=by rw [a4];exact a7
    rw [<-aZ] at aI
    clear aZ
    have aq:IntKind.i64.wrap (((ae.wt:Nat):Int)+((ad.wt:Nat):Int))=((ae.wt+ad.wt:Nat):Int):=by
     have e:((ae.wt:Nat):Int)+((ad.wt:Nat):Int)=((ae.wt+ad.wt:Nat):Int):=by simp
     rw [e]
     exact IntWalk.i64_in _ (by omega)
    have hS:∀ w',Chg [g0] wr w'->w'.cell? ⟨gr,af+i,none⟩=some (.pointer (some ⟨b1,0,none⟩))/\w'.cell? ⟨gr,af+i1,none⟩=some (.pointer (some ⟨b2,0,none⟩))/\w'.cell? ⟨b1,0,none⟩=some (.int .i64 ae.wt)/\w'.cell? ⟨b2,0,none⟩=some (.int .i64 ad.wt):=by
     intro w' ax
     obtain ⟨bA,bB,e',bh,_⟩:=hcR.ex (by omega)
     injection e' with e'
     injection e' with e1 e2 _
     subst e1
     have q1:=ah.head.2.1
     have q2:=aj.head.2.1
     exact ⟨(World.cell?_of_block (w:=wr) (ax.block gr aO (by simp;omega))).trans aW,(World.cell?_of_block (w:=wr) (ax.block gr aO (by simp;omega))).trans aI,
      (World.cell?_of_block (w:=wr) (ax.block b1 (Nat.lt_of_lt_of_le q1 ac.size) (by simp;omega))).trans c1,(World.cell?_of_block (w:=wr) (ax.block b2 (Nat.lt_of_lt_of_le q2 ac.size) (by simp;omega))).trans c2⟩
    obtain ⟨k1,aG⟩:=zX (ae.wt)
    obtain ⟨k2,aF⟩:=zX (ad.wt)
    rw [<-aG] at c1 aP aq hS
    rw [<-aF] at c2 aT aq hS
    have bi:=hid aG
    have a9:=hid aF
    have be:=hid aE
    have HS:=hid hS
    have aK:=aa.toOwn
    have bg:=aa.lt
    have bw:((C++Q).map b9i).length<=8192:=by rw [zE,ay];omega
    clear aL p1 p2 m1 m2 aw ah aj am ar hi aE hS aG aF
    have bf:Hid (i+1<n):=hid (by omega)
    clear aJ hend aB
    obtain ⟨wx,aM⟩:=zX ((((wr.alloc (.cells #[.pointer (some ⟨b1,0,none⟩),.pointer (some ⟨b2,0,none⟩)] 250)).alloc (.cells #[.int .i64 ((k1:Int)+(k2:Int)),.int .i64 0,.slice (some ⟨wr.heap.size,0,none⟩) 2 2] 252)).alloc (.cells #[.pointer (some ⟨wr.heap.size+1,0,none⟩)] 250)).drew)
    have ab:Chg [] wr wx:=by rw [aM];exact (((((zR [] wr).alloc _).alloc _).alloc _).drew)
    have ai:=aK.same ab
    rw [ay] at ai
    have bl:wx.cell? ⟨wr.heap.size+2,0,none⟩=some (.pointer (some ⟨wr.heap.size+1,0,none⟩)):=by
     rw [aM]
     have:=(Blk.new ((wr.alloc (.cells #[.pointer (some ⟨b1,0,none⟩),.pointer (some ⟨b2,0,none⟩)] 250)).alloc (.cells #[.int .i64 ((k1:Int)+(k2:Int)),.int .i64 0,.slice (some ⟨wr.heap.size,0,none⟩) 2 2] 252)) 250 #[.pointer (some ⟨wr.heap.size+1,0,none⟩)]).cell 0
     simpa using this
    have HX:=hid aM
    have bm:Hid (Chg [g0] wr wx):=hid (ab.mono (by simp))
    go_wp2
    go_region_held3 (fun w'=>w'.cell? ⟨gr,af+i,none⟩=some (.pointer (some ⟨b1,0,none⟩))/\w'.cell? ⟨gr,af+i1,none⟩=some (.pointer (some ⟨b2,0,none⟩))/\w'.cell? ⟨b1,0,none⟩=some (.int .i64 k1)/\w'.cell? ⟨b2,0,none⟩=some (.int .i64 k2)) (first | (go_keep;done) | exact HS.out _ ((zR [g0] wr).alloc _) | exact HS.out _ (((zR [g0] wr).alloc _).alloc _) | exact HS.out _ ((((zR [g0] wr).alloc _).alloc _).alloc _) | exact HS.out _ (((((zR [g0] wr).alloc _).alloc _).alloc _).drew) | exact HS.out _ (bm.out.tq (a0u.chg (by assumption))))
     (first | (rw [<-HX.out];refine a3x (by rfl) (by rfl) c7t (by rfl) (by rfl) ai (.pointer (some ⟨wr.heap.size+1,0,none⟩)) (by rfl) bl (by rfl) (by omega) (by omega) ?_;intro g2 bo w5 a5 an))
    go_wp2_with fail
    go_roundg gk
    case measure=>omega
    case rel =>
     have bp:wx.heap.size=wr.heap.size+3:=by rw [HX.out];simp
     have ap:g2=g0\/wr.heap.size+3<=g2:=by
      rcases an.new g2 (by simp) with h5 | h5
      ·exact .inl (by simpa using h5)
      ·exact .inr (by omega)
     have bj:Blk wx wr.heap.size 250 #[.pointer (some ⟨b1,0,none⟩),.pointer (some ⟨b2,0,none⟩)]:=by
      rw [HX.out]
      exact (((Blk.new wr _ _).alloc _).alloc _).drew
     have bn:Blk wx (wr.heap.size+1) 252 #[.int .i64 ((k1:Int)+(k2:Int)),.int .i64 0,.slice (some ⟨wr.heap.size,0,none⟩) 2 2]:=by
      rw [HX.out]
      have:=Blk.new (wr.alloc (.cells #[.pointer (some ⟨b1,0,none⟩),.pointer (some ⟨b2,0,none⟩)] 250)) 252 #[.int .i64 ((k1:Int)+(k2:Int)),.int .i64 0,.slice (some ⟨wr.heap.size,0,none⟩) 2 2]
      have e:(wr.alloc (.cells #[.pointer (some ⟨b1,0,none⟩),.pointer (some ⟨b2,0,none⟩)] 250)).heap.size=wr.heap.size+1:=by simp
      rw [e] at this
      exact (this.alloc _).drew
     have aC:=bj.chg an.chg (by simp;omega)
     have az:=bn.chg an.chg (by simp;omega)
     have au:Chg [] w w5:=(a0.out.tq ab).trans an.chg (fun x hx=>by rw [zU.1 hx];exact .inr aD)
     have bv:=a0.out.size
     have ag:∀ (e:El) (bb:Nat),c9c P w e bb->c9c (fun x=>x≠g2/\P x) w5 e bb:=fun e bb h=>(h.imp (Q:=fun x=>x≠g2/\P x) fun x hx h9=>⟨by rcases ap with rfl | h6<;>omega,h9⟩).same au
     refine ⟨q+1,Q++[(wr.heap.size+1,.pack ae ad)],g2,?_,?_,?_,?_,hid ?_,?_,?_,?_,au⟩
     ·have e:((2*(q+1):Nat):Int)=(i:Int)+2:=by have:=HI.out;omega
      rw [e]
     ·have:=HI.out;have:=bf.out;omega
     ·have:=HI.out;omega
     ·have e:(C++(Q++[(wr.heap.size+1,El.pack ae ad)])).map b9i=(C++Q).map b9i++[.pointer (some ⟨wr.heap.size+1,0,none⟩)]:=by
       rw [<-zH,zM];rfl
      rw [e]
      have e2:((C++Q).map b9i).length+1=C.length+Q.length+1:=by simp
      rw [<-e2]
      exact a5
     ·rw [zM,HQ.out,bc.out,HI.out];rfl
     ·rw [zC,be.out];rfl
     ·intro p hp
      rcases zP.1 hp with h5 | h5
      ·have h6:=((bq.out p h5).same ab).imp (Q:=fun x=>x≠g0/\x≠g2/\P x) fun x hx h7=>⟨h7.1,by rcases ap with rfl | h8;exact h7.1;omega,h7.2⟩
       exact (h6.chg an.chg (fun x hx=>by rw [zU.1 hx];simp)).imp fun _ _ h=>h.2
      ·rw [zU.1 h5]
       refine ⟨wr.heap.size,b1,b2,?_,?_,?_,aC,ag _ _ a3.out,ag _ _ a6.out⟩
       ·exact ⟨by rcases ap with rfl | h6<;>omega,aU.out _ (by omega)⟩
       ·exact ⟨by rcases ap with rfl | h6<;>omega,aU.out _ (by omega)⟩
       ·rw [<-bi.out,<-a9.out,Int.natCast_add]
        exact az
     ·rcases ap with rfl | h6<;>omega
def a5f (t:El) (l:List Nat):List Nat:=l.mapIdx fun s x=>x+t.occ s
def El.symsIn (n:Nat):El->Prop
 | .coin s _=>s<n
 | .pack a b=>a.symsIn n/\b.symsIn n
theorem c4p (t:El) (l:List Nat):(a5f t l).length=l.length:=by simp [a5f]
theorem d2o (t:El) (l:List Nat) {s:Nat} (h:s<l.length):(a5f t l).getD s 0=l.getD s 0+t.occ s:=by
 simp [a5f,zD,h]
theorem d2p (a b:El) (l:List Nat):a5f b (a5f a l)=a5f (.pack a b) l:=by
 unfold a5f
 rw [List.mapIdx_mapIdx]
 congr 1
 funext s x
 show x+a.occ s+b.occ s=x+(a.occ s+b.occ s)
 omega
theorem d2n (s k:Nat) (l:List Nat) (h:s<l.length):a5f (.coin s k) l=l.set s (l.getD s 0+1):=by
 apply List.ext_getElem?
 intro i
 unfold a5f
 rw [List.getElem?_mapIdx,List.getElem?_set]
 by_cases hi:s=i
 ·subst hi
  rw [if_pos rfl,if_pos h,zD,zF h]
  simp [El.occ]
 ·rw [if_neg hi]
  cases hl:l[i]? with
  | none=>rfl
  | some x =>
   simp only [Option.map_some,El.occ]
   rw [if_neg hi]
   rfl
theorem e7a (g cap n:Nat):∀ (t:El) (b:Nat) (l:List Nat) (w:World),l.length=n->t.symsIn n->(∀ s,l.getD s 0+t.occ s<=4096)->c9c (·≠g) w t b->Row w 3 (.slice (some ⟨g,0,none⟩) n cap) g (l.map i64) ->
  Calls Tryz.prog 220 #[.pointer (some ⟨b,0,none⟩),.slice (some ⟨g,0,none⟩) n cap] w fun e w'=>e=.returned (.tuple #[])/\Row w' 3 (.slice (some ⟨g,0,none⟩) n cap) g ((a5f t l).map i64)/\Chg [g] w w':=by
 intro t
 induction t with
 | coin s k =>
  intro b l w hl hs hb hE hr
  have an:s<n:=hs
  obtain ⟨hP,hB⟩:=hE
  have b1:=hB.cell 1
  have b2:=hB.cell 2
  simp at b1 b2
  have hx:(l.getD s 0:Nat)+1<=4096:=by
   have:=hb s
   simpa [El.occ] using this
  have ac:=hr.set_ (i:=s) (by rw [zE,hl];exact an) (i64 (l.getD s 0+1))
  rw [<-List.map_set,<-d2n s k l (by omega)] at ac
  obtain ⟨am,e1,_,_,aa,ae⟩:=hr.oq
  have c1:=aa s (l.getD s 0) (by rw [zD,zF (by omega)];rfl)
  have f1:=ae s
  have ap:w.cell? ⟨g,s,none⟩=some (.int .i64 ((l.getD s 0:Nat):Int)):=c1
  have ab:Row (w.setCell ⟨g,s,none⟩ (.int .i64 ((l.getD s 0+1:Nat):Int))) 3 (.slice (some ⟨g,0,none⟩) n cap) g ((a5f (.coin s k) l).map i64):=ac
  have h0:(0:Int)<=(s:Int):=by omega
  have h1:(s:Int)<(n:Int):=by omega
  generalize a5f (.coin s k) l=l' at *
  generalize l.getD s 0=x at *
  have e2:((x+1:Nat):Int)=(x:Int)+1:=by simp
  rw [e2] at ab
  clear ac aa ae hb c1 e1 hr hl hs hB
  go_enter Tryz.func220,Tryz.ntmps220
  go_wp2
  refine bodyPost_ret (results_none rfl _ _ _) rfl ?_
  exact ⟨rfl,ab,(zR [g] w).setCell (.inl (by simp)) _⟩
 | pack x y ihx ihy =>
  intro b l w hl hs hb hE hr
  obtain ⟨gp,b1,b2,hP,ai,hB,hG,hx,hy⟩:=hE
  have c2:=hB.cell 2
  simp at c2
  have p0:=hG.cell 0
  have p1:=hG.cell 1
  simp at p0 p1
  obtain ⟨aj,ak⟩:=hs
  have ah:∀ s,l.getD s 0+x.occ s<=4096:=fun s=>by
   have:l.getD s 0+(x.occ s+y.occ s)<=4096:=hb s
   omega
  have af:∀ s,(a5f x l).getD s 0+y.occ s<=4096:=fun s=>by
   have h9:l.getD s 0+(x.occ s+y.occ s)<=4096:=hb s
   by_cases h:s<l.length
   ·rw [d2o _ _ h];omega
   ·rw [zD,List.getElem?_eq_none (by rw [c4p];omega)]
    show 0+_<=_
    omega
  have i1:=fun w=>ihx b1 l w hl aj ah
  have i2:=fun w=>ihy b2 (a5f x l) w ((c4p _ _).trans hl) ak af
  have al:=d2p x y l
  rw [al] at i2
  have I1:=hid i1
  have I2:=hid i2
  have HG:=hid hG
  have HX:=hid hx
  have HY:=hid hy
  generalize a5f x l=lx at *
  generalize a5f (.pack x y) l=ly at *
  clear i1 i2 ihx ihy hb ah af aj ak al hl hB hG hx hy
  go_enter Tryz.func220,Tryz.ntmps220
  go_wp2
  go_loopg [26] 2 (fun j iv wr=>∃ i:Nat,iv=.int .i64 i/\i+j=2/\Chg [g] w wr/\Hid (i=0/\Row wr 3 (.slice (some ⟨g,0,none⟩) n cap) g (l.map i64)\/i=1/\Row wr 3 (.slice (some ⟨g,0,none⟩) n cap) g (lx.map i64)\/i=2/\Row wr 3 (.slice (some ⟨g,0,none⟩) n cap) g (ly.map i64)))
  case atStart=>exact ⟨0,rfl,rfl,zR _ _,hid (.inl ⟨rfl,hr⟩)⟩
  case round =>
   clear hr
   obtain ⟨i,rfl,ao,ad,HR⟩:=hrel
   have ag:∀ x∈[g],¬ (x≠g):=by intro x hx;simp at hx;simp [hx]
   have q0:=(HG.out.chg ad (by simpa using fun h=>ai h)).cell 0
   have q1:=(HG.out.chg ad (by simpa using fun h=>ai h)).cell 1
   simp at q0 q1
   rcases HR.out with ⟨rfl,hr⟩ | ⟨rfl,hr⟩ | ⟨rfl,hr⟩
   ·obtain rfl:gk=2:=by omega
    have hc:=I1.out wr (HX.out.chg ad ag) hr
    clear HR hr
    go_wp2_with fail
    refine hc.mono ?_
    rintro e w2 ⟨rfl,k1,k2⟩
    go_wp2
    go_roundg 1
    case measure=>omega
    case rel=>exact ⟨1,rfl,rfl,ad.tq k2,hid (.inr (.inl ⟨rfl,k1⟩))⟩
   ·obtain rfl:gk=1:=by omega
    have hc:=I2.out wr (HY.out.chg ad ag) hr
    clear HR hr
    go_wp2_with fail
    refine hc.mono ?_
    rintro e w2 ⟨rfl,k1,k2⟩
    go_wp2
    go_roundg 0
    case measure=>omega
    case rel=>exact ⟨2,rfl,rfl,ad.tq k2,hid (.inr (.inr ⟨rfl,k1⟩))⟩
   ·obtain rfl:gk=0:=by omega
    go_wp2
    go_end0
    exact ⟨rfl,hr,ad⟩
theorem d9z {n:Nat}:∀ l:List El,(∀ e∈l,e.symsIn n)->∀ e∈a1o l,e.symsIn n:=by
 intro l
 induction l using a1o.induct with
 | case1 a b l il =>
  intro h e he
  rw [a1o] at he
  rcases zJ.1 he with rfl | he
  ·exact ⟨h a (by simp),h b (by simp)⟩
  ·exact il (fun e h1=>h e (by simp [h1])) e he
 | case2 l hl =>
  intro _ e he
  cases l with
  | nil=>simp [a1o] at he
  | cons a l =>
   cases l with
   | nil=>simp [a1o] at he
   | cons b l=>exact absurd rfl (hl a b l)
theorem Rows.syms {n:Nat} {C:List El} (hC:c6a n C) {j:Nat} {R:List El} (h:Rows C j R):∀ e∈R,e.symsIn n:=by
 have hc:∀ e∈C,e.symsIn n:=fun e he=>by
  obtain ⟨s,w,rfl,h1,_⟩:=hC.coin e he
  exact h1
 induction h with
 | one hp hs=>exact fun e he=>hc e (hp.mem_iff.1 he)
 | next h hp hs ih =>
  intro e he
  rcases zP.1 (hp.mem_iff.1 he) with h5 | h5
  ·exact hc e h5
  ·exact d9z _ ih e h5
theorem d3s (n:Nat) (S:List El) (t:El):a4i n (S++[t])=a5f t (a4i n S):=by
 apply List.ext_getElem
 ·simp [a4i,a5f]
 ·intro i h1 h2
  simp [a4i,a5f,a6f]
theorem d1g (s i:Nat) (S:List El):a6f s (S.take i)<=a6f s S:=by
 have e:=b4f s (S.take i) (S.drop i)
 rw [List.take_append_drop] at e
 omega
theorem e9c {n s:Nat} (hs:s<n) (hn:n<=1024):b3p ((List.replicate n 0).set s 1):=by
 have aa:∀ m∈(List.replicate n 0).set s 1,m<=1:=fun m hm=>by
  rcases List.mem_or_eq_of_mem_set hm with h | h
  ·have:=List.eq_of_mem_replicate h;omega
  ·omega
 refine ⟨by simp;omega,by simp;omega,fun m hm=>by have:=aa m hm;omega,.inl ⟨?_,aa⟩⟩
 unfold b2l
 rw [List.countP_set (by simpa using hs)]
 simp
theorem f1z {n s i:Nat} (hs:s<n) (hi:i<n):0<((List.replicate n 0).set s 1).getD i 0 ↔ i=s:=by
 rw [zD,List.getElem?_set]
 by_cases h:s=i
 ·subst h
  rw [if_pos rfl,if_pos (by simpa using hs)]
  simp
 ·rw [if_neg h,List.getElem?_replicate,if_pos hi]
  simp
  exact fun h2=>h h2.symm
structure d5d (freq lens:List Nat):Prop where
 len:lens.length=freq.length
 full:b3p lens
 used:∀ s,s<freq.length->(0<lens.getD s 0 ↔ 0<freq.getD s 0)
 le:∀ n∈lens,n<=12
theorem d6p {freq:List Nat} (h1:freq.length<=1024) {s f:Nat} (hc:a0v freq freq.length=[.coin s f]):s<freq.length/\d5d freq ((List.replicate freq.length 0).set s 1):=by
 have hm:El.coin s f∈a0v freq freq.length:=by rw [hc];simp
 obtain ⟨s',h2,h3,h4⟩:=a7z hm
 injection h4 with h4 h5
 subst h4
 refine ⟨h2,by simp,e9c h2 h1,fun i hi => ?_,fun m hm => ?_⟩
 ·rw [f1z h2 hi]
  have h6:=a9j freq i freq.length
  rw [hc] at h6
  have e:a0m i [El.coin s f]=if s=i then 1 else 0:=by
   unfold a0m
   rw [List.countP_cons]
   simp [El.isCoin]
  rw [e] at h6
  constructor
  ·intro h9;rw [h9];exact h3
  ·intro h7
   rw [if_pos (show i<freq.length/\0<freq.getD i 0 from ⟨hi,h7⟩)] at h6
   by_cases h8:s=i
   ·exact h8.symm
   ·rw [if_neg h8] at h6;omega
 ·rcases List.mem_or_eq_of_mem_set hm with h | h
  ·have:=List.eq_of_mem_replicate h;omega
  ·omega
theorem Row.zerosN (w:World) (n:Nat) (h:n<=1048576):Row (w.alloc (.cells (List.replicate n (Value.int .i64 0)).toArray 3)) 3 (.slice (some ⟨w.heap.size,0,none⟩) n n) w.heap.size ((List.replicate n 0).map i64):=by
 have:=Row.made w 3 (List.replicate n (Value.int .i64 0)) (by simp [maxLen];omega)
 rw [List.map_replicate]
 simpa [i64] using this
def b3q (w:World) (freq:List Nat) (e:Ending) (w':World):Prop :=
 ∃ v g,e=.returned (.tuple #[v,.int .i64 0])/\Row w' 3 v g ((a7d freq).map i64)/\d5d freq (a7d freq)/\Chg [] w w'/\w.heap.size<=g
theorem d9j (w:World) (freq:List Nat) (A:Option Addr) (cap:Nat) (h1:1<=freq.length) (h2:freq.length<=256) (hf:∀ f∈freq,f<=4096) (hpos:0<(a0v freq freq.length).length) (hc:a0d i64 w A freq) :
  Calls Tryz.prog 168 #[.slice A freq.length cap,.int .i64 12] w (b3q w freq):=by
 obtain ⟨n,hn⟩:=zX (freq.length)
 rw [<-hn] at h1 h2 hpos ⊢
 have cV:=a1p (P:=Tryz.prog) a0p rfl .i64 .i64 n (by omega) (by omega)
 have HN:=hid hn
 have HF:=hid hf
 have bo:=hid hpos
 clear hn hf hpos
 have t1:decide ((n:Int)<1)=false:=zA (by omega)
 have t2:decide ((1024:Int)<(n:Int))=false:=zA (by omega)
 go_enter Tryz.func168,Tryz.ntmps168
 go_wp2_with fail
 go_loopg [6,7,8,31] n (fun j v6 v7 v8 iv wr=>∃ (i:Nat) (E:List PE) (F6:List Nat),iv=.int .i64 i/\i+j=n/\Own wr 250 v6 F6 (E.map b9i)/\Hid (E.map (·.2)=a0v freq i)/\E.length<=i/\Els (fun x=>x∉F6) wr E/\(∀ x∈F6,w.heap.size<=x)/\Chg [] w wr)
 case atStart=>exact ⟨0,[],[],rfl,by omega,Own.nil _ _,hid rfl,by simp,by intro p hp;simp at hp,by simp,zR _ _⟩
 case round =>
  obtain ⟨i,E,F6,rfl,c4,ae,HE,bp,al,aJ,au⟩:=hrel
  rcases gk with _ | j
  ·obtain rfl:i=n:=by omega
   have bU:E.length=(a0v freq i).length:=by rw [<-HE.out,zE]
   have hpos:=bo.out
   rw [<-bU] at hpos
   rcases ae.cases with ⟨_,a9,_⟩ | ⟨gc,ac,rfl⟩
   ·exfalso
    have:=congrArg List.length a9
    rw [zE] at this
    simp at this
    rw [this] at hpos
    simp at hpos
   obtain ⟨aU,rfl,ap,ay,an,_⟩:=ac.oq
   have cp:w.heap.size<=gc:=aJ gc (by simp)
   have ao:Els (·≠gc) wr E:=al.imp fun x _ h=>by simpa using h
   have bw:Hid (E.map (·.2)=a0v freq i):=HE
   obtain ⟨c,bv⟩:=zX (E.length)
   rw [<-bv] at ap hpos bp ⊢
   have aT:=hid bv
   have aj:=hid ao
   have bn:=hid ac
   have aO:=hid an
   have cK:=au.size
   have bG:=ac.lt
   have t6:((c:Int)==0)=false:=by rw [beq_eq_false_iff_ne];omega
   have t7:decide ((4096:Int)<(c:Int))=false:=zA (by omega)
   clear bU bv ae al ao ac an aJ
   by_cases hc1:c=1
   ·have t8:((c:Int)==1)=true:=by rw [beq_iff_eq];omega
    have cq:∃ b s f,E=[(b,El.coin s f)]/\a0v freq i=[.coin s f]:=by
     have h3:=aT.out
     obtain ⟨⟨b,t⟩,hb⟩:=List.length_eq_one_iff.1 (h3.symm.trans hc1)
     have h4:=bw.out
     rw [hb] at h4
     have hm:t∈a0v freq i:=by rw [<-h4];simp
     obtain ⟨s,_,_,rfl⟩:=a7z hm
     exact ⟨b,s,_,hb,h4.symm⟩
    obtain ⟨b,s,f,rfl,bx⟩:=cq
    have a7:=d6p (freq:=freq) (by rw [<-HN.out];omega) (by rw [<-HN.out];exact bx)
    rw [<-HN.out] at a7
    have bu:Hid (a0v freq freq.length=[.coin s f]):=hid (by rw [<-HN.out];exact bx)
    have c5:wr.cell? ⟨gc,0,none⟩=some (.pointer (some ⟨b,0,none⟩)):=aO.out 0 _ rfl
    have az:=aj.out (b,.coin s f) (by simp)
    have cT:b<wr.heap.size:=az.2.lt
    have cQ:wr.cell? ⟨b,1,none⟩=some (.int .i64 s):=by
     have:=az.2.cell 1
     simpa using this
    have aF:=Row.zerosN wr i (by omega)
    have cr:=hid a7
    have bI:=a7.1
    have c3:(0:Int)<=(s:Int):=by omega
    have cJ:(s:Int)<(i:Int):=by omega
    have aw:=aF.set_ (i:=s) (by simpa using bI) (i64 1)
    rw [<-List.map_set] at aw
    have cC:=hid aw
    obtain ⟨ct,cs,_,_,bN,bY⟩:=aF.oq
    clear cs
    have cx:=bN s 0 (by rw [List.getElem?_replicate,if_pos bI])
    have cw:=bY s
    have c0:gc≠wr.heap.size:=by omega
    have c6:b≠wr.heap.size:=by omega
    subst hc1
    clear a7 aw aF bN bY az bx
    go_wp2_with fail
    go_ret2
    have e:(Array.replicate i (Value.int .i64 0)).setIfInBounds s (.int .i64 1)=(((List.replicate i 0).set s 1).map i64).toArray:=by
     rw [List.map_set,List.map_replicate]
     show ((List.replicate i (Value.int .i64 0)).toArray).setIfInBounds s (.int .i64 1)=_
     rw [List.setIfInBounds_toArray]
     rfl
    have am:=Row.made wr 3 (((List.replicate i 0).set s 1).map i64) (by simp [maxLen];omega)
    rw [<-e] at am
    have bC:(((List.replicate i 0).set s 1).map i64).length=i:=by simp
    rw [bC] at am
    have aK:=c5j bu.out
    rw [<-HN.out] at aK
    unfold b3q
    rw [aK]
    exact ⟨_,wr.heap.size,rfl,am,cr.out.2,au.alloc _,cK⟩
   ·have t8:((c:Int)==1)=false:=by rw [beq_eq_false_iff_ne];omega
    have ci:=b3u freq i
    have bj:=fun w2 (hc2:Chg [] wr w2)=>d6z w2 _ gc E (by rw [<-aT.out];omega) (by rw [<-aT.out];omega) (bn.out.chg hc2 (by simp)) (aj.out.same hc2)
    rw [<-aT.out] at bj
    obtain ⟨gl,bl⟩:=zX (wr.heap.size)
    obtain ⟨w1,a3⟩:=zX (wr.alloc (.cells (Array.replicate i (Value.int .i64 0)) 3))
    have aF:Row w1 3 (.slice (some ⟨gl,0,none⟩) i i) gl ((List.replicate i 0).map i64):=by
     rw [a3,bl]
     exact Row.zerosN wr i (by omega)
    have ak:Chg [] wr w1:=by rw [a3];exact (zR [] wr).alloc _
    have aH:=bj w1 ak
    have cl:Els (fun x=>x≠gl) w1 E:=fun p hp=>((aj.out p hp).imp (Q:=fun x=>x≠gl/\x≠gc) fun x hx h=>⟨by omega,h⟩).same ak |>.imp fun _ _ h=>h.1
    have a0:Els (fun x=>x≠gl/\x≠gc) w1 E:=fun p hp=>((aj.out p hp).imp (Q:=fun x=>x≠gl/\x≠gc) fun x hx h=>⟨by omega,h⟩).same ak
    have ce:=hid a3
    have co:=hid bl
    have bb:=hid a0
    have cA:=hid aF
    clear bj cl a0 aF a3
    have ar:gc≠gl:=by omega
    have aY:w.heap.size<=gl:=by omega
    have bE:=hid (au.tq ak)
    clear bl ak
    go_wp2_with fail
    rw [<-ce.out,<-co.out]
    refine aH.mono ?_
    rintro e w2 ⟨rfl,k3,k4⟩
    have k1:=c5v (fun p:PE=>p.2) E (E.headD default)
    have k0:=d1w (fun p:PE=>p.2) E (E.headD default)
    obtain ⟨E',cb⟩:=zX (c8m (fun p:PE=>p.2) E (E.headD default))
    rw [<-cb] at k0 k1 k3
    rw [bw.out] at k0
    clear cb
    have ax:E'.length=c:=by rw [k1.length_eq];exact aT.out.symm
    have af:=a9k freq
    obtain ⟨C,hC⟩:=zX (a0v freq i)
    rw [<-HN.out,<-hC] at af
    have av:(E'.map (·.2)).Perm C:=by rw [hC,<-bw.out];exact k1.map _
    have b6:E'.map (·.2)=e0i C 0:=by rw [hC];exact k0
    have a1:Els (fun x=>x≠gl) w2 E':=fun p hp=>((bb.out p (k1.mem_iff.1 hp)).chg k4 (fun x hx=>by rw [zU.1 hx];simp)).imp fun _ _ h=>h.1
    have cd:a0d b9i w2 (some ⟨gc,0,none⟩) E':=by
     have cu:=k3
     have:=cu.toOwn
     exact Own.cells this
    have aA:=cA.out.chg k4 (by simpa using fun h=>ar h.symm)
    have aN:Chg [] w w2:=bE.out.trans k4 (fun x hx=>by rw [zU.1 hx];exact .inr cp)
    have bR:C.length=c:=by rw [<-av.length_eq,zE,ax]
    have aL:∀ e∈C,e.wt<=4096:=fun e he=>by
     rw [hC] at he
     obtain ⟨s,hs,_,rfl⟩:=a7z he
     show freq.getD s 0<=4096
     rw [zD]
     cases hx:freq[s]? with
     | none=>exact Nat.zero_le _
     | some x=>exact HF.out x (List.mem_of_getElem? hx)
    have bS:=hid af
    have HC:=hid hC
    have cW:=hid av
    have a2:=hid ax
    have aE:=hid bR
    have cz:=hid aL
    have b1:=hid cd
    have bM:=hid a1
    have aQ:=hid aA.lt
    have ba:=hid aA
    have cm:Hid (E'.map (·.2)=c4h C):=hid (by rw [hC];exact k0)
    clear k0 k1 k3 k4 aH af hC av ax bR aL a1 cd aA au hc bG
    have cc:=aN.size
    go_wp2_with fail
    go_loopg [10,80] 11 (fun j v10 iv wk=>∃ (q:Nat) (R:List PE) (AR:Option Addr) (cR:Nat),v10=.slice AR R.length cR/\iv=.int .i64 q/\q+j=11/\Hid (a0d b9i wk AR R)/\Hid (Els (fun x=>x≠gl) wk R)/\Hid (R.map (·.2)=e0i C q)/\R.length<=cR/\cR<=9223372036854775807/\Hid (Apt AR R [gl])/\Chg [] w2 wk)
    case atStart=>exact ⟨0,E',some ⟨gc,0,none⟩,aU,by rw [a2.out],rfl,rfl,b1,bM,hid b6,by rw [a2.out];exact ap,ay,hid (fun _ ad e hm=>by injection e with e;subst e;simp at hm;exact ar hm),zR _ _⟩
    case round =>
     clear b6
     obtain ⟨wk,rfl⟩:=zX (wr)
     obtain ⟨q,R,AR,cR,rfl,rfl,cS,bH,bL,bi,cM,cj,cL,ag⟩:=hrel
     have bA:Rows C (q+1) (R.map (·.2)):=by rw [bi.out];exact b7j C q
     have aa:=Rows.length bS.out (by rw [aE.out];omega) bA
     have aB:=hid bA
     clear bA
     have cP:R.length<=2*c:=by
      rw [zE,aE.out] at aa
      generalize (c-1) / 2^(q+1-1)=z at aa
      omega
     obtain ⟨m,hm⟩:=zX (R.length)
     rw [<-hm] at cM cP ⊢
     have HM:=hid hm
     have aP:=hid aa
     clear hm aa
     rcases gk with _ | j
     ·obtain rfl:q=11:=by omega
      have aa:=aP.out
      have ca:=HM.out
      have ah:=b8c (freq:=freq) (by rw [<-HN.out];omega) (by rw [<-HN.out,<-HC.out,aE.out];omega) (R:=R.map (·.2)) (by rw [<-HN.out,<-HC.out];exact aB.out)
      rw [<-HN.out,<-HC.out,aE.out] at ah
      have aq:=Rows.syms bS.out aB.out
      have cE:2*c-2<=m:=by
       rw [zE,aE.out,<-ca] at aa
       have:(c-1) / 2^(11+1-1)=0:=Nat.div_eq_of_lt (by omega)
       omega
      obtain ⟨k,hk⟩:=zX (2*c-2)
      rw [<-hk] at ah cE
      have cU:(2:Int)*(c:Int)-2=(k:Int):=by omega
      have cX:(0:Int)<=(k:Int):=by omega
      have cY:(k:Int)<=(cR:Int):=by omega
      have aM:=ba.out.chg ag (by simp)
      have b9:=hid ah
      have cv:=hid aq
      have bK:=bH.out
      obtain ⟨gR,oR,rfl,cG,b5⟩:=bK.ex (by omega)
      have br:gR≠gl:=fun e=>cL.out (by omega) _ rfl (by simp [e])
      have cI:=hid b5
      have HK:=hid hk
      clear ah aq aa ca bK b5 hk
      go_wp2_with fail
      go_loopg [93] k (fun j iv wz=>∃ (t:Nat),iv=.int .i64 t/\t+j=k/\Row wz 3 (.slice (some ⟨gl,0,none⟩) i i) gl ((a4i i ((R.map (·.2)).take t)).map i64)/\Chg [gl] wk wz)
      case atStart=>exact ⟨0,rfl,by omega,by rw [List.take_zero,d9k];exact aM,zR _ _⟩
      case round =>
       clear aM
       obtain ⟨t,rfl,cZ,ac,a5⟩:=hrel
       rcases gk with _ | j
       ·obtain rfl:t=k:=by omega
        have bf:Chg [] w wr:=(aN.tq ag).trans a5 (fun x hx=>by rw [zU.1 hx];exact .inr aY)
        have aS:d5d freq (a4i i ((R.map (·.2)).take t)):=by
         obtain ⟨f1,f2,f3⟩:=b9.out
         refine ⟨by rw [a7m];exact HN.out,f1,fun s hs=>f2 s (by rw [HN.out];exact hs),fun n hn => ?_⟩
         obtain ⟨s,_,rfl⟩:=List.mem_map.1 hn
         exact f3 s
        have cn:=hid aS
        clear aS
        go_wp2
        go_ret2
        have aK:=c1k (freq:=freq) (by rw [<-HN.out,<-HC.out,aE.out];omega)
        rw [<-HN.out,<-HC.out,<-bi.out,aE.out,<-HK.out] at aK
        unfold b3q
        rw [aK]
        exact ⟨_,gl,rfl,ac,cn.out,bf,aY⟩
       ·have a4:t<R.length:=by rw [<-HM.out];omega
        have bB:t+1<=k:=by omega
        have b2:=(bL.out R[t] (zG _)).chg a5 (fun x hx=>by rw [zU.1 hx];simp)
        have bO:=(World.cell?_of_block (w:=wk) (a5.block gR cG (by simpa using br))).trans (cI.out t _ (zF a4))
        have b3:t<(R.map (·.2)).length:=by rw [zE];exact a4
        have bd:(R.map (·.2)).take (t+1)=(R.map (·.2)).take t++[R[t].2]:=by
         rw [a0o _ b3];simp
        have bD:=d3s i ((R.map (·.2)).take t) R[t].2
        rw [<-bd] at bD
        have b7:=cv.out R[t].2 (List.mem_map_of_mem (zG a4))
        have aI:∀ s,(a4i i ((R.map (·.2)).take t)).getD s 0+R[t].2.occ s<=4096:=by
         intro s
         have e1:a6f s ((R.map (·.2)).take (t+1))=a6f s ((R.map (·.2)).take t)+R[t].2.occ s:=by
          rw [bd,b4f];simp [a6f]
         have e2:a6f s ((R.map (·.2)).take (t+1))<=12:=by
          have e3:(R.map (·.2)).take (t+1)=((R.map (·.2)).take k).take (t+1):=by rw [List.take_take,Nat.min_eq_left bB]
          rw [e3]
          exact Nat.le_trans (d1g _ _ _) (b9.out.2.2 s)
         by_cases hs:s<i
         ·rw [c1l _ hs];omega
         ·rw [zD,List.getElem?_eq_none (by rw [a7m];omega)]
          show 0+_<=_
          omega
        have bc:=e7a gl i i R[t].2 R[t].1 (a4i i ((R.map (·.2)).take t)) wr (a7m _ _) b7 aI b2 ac
        rw [<-bD] at bc
        obtain ⟨pb,be⟩:=zX (R[t].1)
        have cN:wr.cell? ⟨gR,oR+t,none⟩=some (.pointer (some ⟨pb,0,none⟩)):=by rw [be];exact bO
        rw [<-be] at bc
        have cf:(0:Int)<=(t:Int):=by omega
        have cH:(t:Int)<(k:Int):=by omega
        clear aI b7 bD bd b3 bO b2 a4 be ac
        go_wp2_with fail
        refine bc.mono ?_
        rintro e w4 ⟨rfl,r1,r2⟩
        go_wp2_with fail
        go_roundg j
        case measure=>omega
        case rel=>exact ⟨t+1,by go_num,by omega,r1,a5.tq r2⟩
     ·have bQ:=Rows.wt_le cz.out aB.out
      have aR:2^(q+1)<=4096:=Nat.le_trans (Nat.pow_le_pow_right (n:=2) (by decide) (show q+1<=12 by omega)) (by decide)
      have bX:=f1w (fun x=>x≠gl) wk (fun x hx=>by have:=ag.size;have:=aQ.out;omega) (some ⟨gc,0,none⟩) AR aU cR E' R (by rw [a2.out];omega) (by rw [a2.out];omega) (by rw [<-HM.out];omega)
       (b1.out.same ag) bH.out (bM.out.same ag) bL.out (fun p hp=>by
        have:=bQ p.2 (List.mem_map_of_mem hp)
        have:=Nat.mul_le_mul_left 4096 aR
        omega)
      rw [a2.out,<-HM.out] at bX
      clear bQ aR
      go_wp2_with fail
      refine bX.mono ?_
      rintro e w3 ⟨v3,g3,E3,rfl,r1,r2,r4,r5,r6⟩
      obtain ⟨a8,rfl,ch,bm,_,_⟩:=r1.oq
      have r1:=hid r1
      have r2:=hid r2
      have r4:=hid r4
      go_wp2_with fail
      go_roundg j
      case measure=>omega
      case rel =>
       refine ⟨q+1,E3,some ⟨g3,0,none⟩,a8,rfl,by go_num,by omega,hid (Own.cells r1.out.toOwn),r4,hid ?_,ch,bm,hid (fun _ ad e hm=>by
        injection e with e
        subst e
        simp at hm
        have:=ag.size
        have:=aQ.out
        omega),ag.tq r5⟩
       rw [r2.out,cm.out,bi.out]
       rfl
  ·have ck:i<n:=by omega
   have a6:i<freq.length:=by rw [<-HN.out];exact ck
   obtain ⟨g,o,rfl,ai⟩:=(hc.same au).at_ a6
   have bW:=HF.out freq[i] (zG a6)
   have bJ:freq[i]=freq.getD i 0:=by rw [zD,zF a6];rfl
   rw [bJ] at ai bW
   have ab:=b7z freq i
   obtain ⟨f,bP⟩:=zX (freq.getD i 0)
   rw [<-bP] at ai bW ab
   have bk:wr.cell? ⟨g,o+i,none⟩=some (.int .i64 f):=ai
   have cf:(0:Int)<=(i:Int):=by omega
   have cH:(i:Int)<(n:Int):=by omega
   have t3:decide ((f:Int)<0)=false:=zA (by omega)
   have t4:decide ((1099511627776:Int)<(f:Int))=false:=zA (by omega)
   obtain ⟨A6,cD,rfl,aZ,bz,_⟩:=ae.oq
   clear ai bP bJ a6
   by_cases hf0:0<f
   ·rw [if_pos hf0] at ab
    have bh:=hid ab
    have t5:decide ((0:Int)<(f:Int))=true:=zB (by omega)
    clear ab
    have aj:=hid al
    have b4:=hid aJ
    have bq:=hid ae.lt
    have bs:=hid bp
    obtain ⟨m,hm⟩:=zX (E.length)
    have HM:=hid hm
    rw [<-hm] at aZ ae bp ⊢
    clear al aJ hm
    obtain ⟨wx,aG⟩:=zX ((wr.alloc (.cells #[.int .i64 f,.int .i64 i,.slice none 0 0] 252)).alloc (.cells #[.pointer (some ⟨wr.heap.size,0,none⟩)] 250))
    have aD:Chg [] wr wx:=by rw [aG];exact (((zR [] wr).alloc _).alloc _)
    have bg:=ae.same aD
    have cy:wx.cell? ⟨wr.heap.size+1,0,none⟩=some (.pointer (some ⟨wr.heap.size,0,none⟩)):=by
     rw [aG]
     have:=(Blk.new (wr.alloc (.cells #[.int .i64 f,.int .i64 i,.slice none 0 0] 252)) 250 #[.pointer (some ⟨wr.heap.size,0,none⟩)]).cell 0
     simp
    have bT:Blk wx wr.heap.size 252 #[.int .i64 f,.int .i64 i,.slice none 0 0]:=by
     rw [aG]
     exact (Blk.new wr _ _).alloc _
    have aC:wx.heap.size=wr.heap.size+2:=by rw [aG];simp
    have b0:(E.map b9i).length=m:=by rw [zE];exact HM.out.symm
    have HX:=hid aG
    have cB:=hid bT
    have aX:=hid aC
    have bZ:=hid b0
    clear aG bT aC b0
    go_wp2_with (at_builtin;rw [<-HX.out];refine a0f rfl rfl c7t rfl rfl bg (.pointer (some ⟨wr.heap.size,0,none⟩)) rfl cy rfl ?c1 ?c2 ?_)
    case c1=>rw [bZ.out];omega
    case c2=>rw [bZ.out];omega
    intro g2 cF w5 cg aW
    go_wp2_with fail
    go_roundg j
    case measure=>omega
    case rel =>
     have bF:Chg [] w w5:=(au.tq aD).trans aW.chg (fun x hx => .inr (b4.out x hx))
     have cO:w.heap.size<=g2:=by
      rcases aW.new g2 (by simp) with h5 | h5
      ·exact b4.out _ h5
      ·have:=au.size;have:=aX.out;omega
     have aV:∀ x,x<wx.heap.size->x∉F6->x≠g2:=fun x hx hn e=>by
      rcases aW.new g2 (by simp) with h5 | h5
      ·exact hn (e ▸ h5)
      ·omega
     have aC:=aX.out
     have bV:wr.heap.size∉F6:=fun h=>by have:=bq.out _ h;omega
     refine ⟨i+1,E++[(wr.heap.size,.coin i f)],[g2],by go_num,by omega,?_,hid ?_,?_,?_,?_,bF⟩
     ·have e:(E++[(wr.heap.size,El.coin i f)]).map b9i=E.map b9i++[.pointer (some ⟨wr.heap.size,0,none⟩)]:=by rw [zM];rfl
      rw [e]
      exact cg.toOwn
     ·rw [zM,HE.out,bh.out];rfl
     ·rw [zC,List.length_singleton];have:=bs.out;omega
     ·intro p hp
      rcases zP.1 hp with h5 | h5
      ·have h6:=((aj.out p h5).same aD).imp (Q:=fun x=>x∉F6/\x≠g2) fun x hx h7=>⟨h7,aV x hx h7⟩
       exact (h6.chg aW.chg (fun x hx h=>h.1 hx)).imp fun x _ h=>by simpa using h.2
      ·rw [zU.1 h5]
       exact ⟨by simpa using aV _ (by omega) bV,cB.out.chg aW.chg bV⟩
     ·intro x hx
      rw [zU.1 hx]
      exact cO
   ·obtain rfl:f=0:=by omega
    rw [if_neg hf0,List.append_nil] at ab
    have bh:=hid ab
    clear ab
    go_wp2_with fail
    go_roundg j
    case measure=>omega
    case rel=>exact ⟨i+1,E,F6,by go_num,by omega,ae,hid (by rw [bh.out];exact HE.out),by omega,al,aJ,au⟩
def b3k (l:List Nat):Nat:=l.foldl max 0
theorem e3q (l:List Nat) (x:Nat):b3k (l++[x])=max (b3k l) x:=by simp [b3k]
theorem f1s {l:List Nat} {m:Nat} (h:∀ n∈l,n<=m):b3k l<=m:=by
 have aa:∀ (l:List Nat) (a:Nat),a<=m->(∀ n∈l,n<=m)->l.foldl max a<=m:=by
  intro l
  induction l with
  | nil=>intro a ha _;exact ha
  | cons x l ih =>
   intro a ha h
   exact ih _ (by have:=h x (by simp);omega) fun n hn=>h n (by simp [hn])
 exact aa l 0 (Nat.zero_le _) h
theorem c1n {l:List Nat} {x:Nat} (h:x∈l):x<=b3k l:=by
 have aa:∀ (l:List Nat) (a:Nat),a<=l.foldl max a/\∀ x∈l,x<=l.foldl max a:=by
  intro l
  induction l with
  | nil=>intro a;exact ⟨zQ _,by simp⟩
  | cons y l ih =>
   intro a
   obtain ⟨h1,h2⟩:=ih (max a y)
   refine ⟨Nat.le_trans (Nat.le_max_left _ _) h1,fun x hx => ?_⟩
   rcases zJ.1 hx with rfl | hx
   ·exact Nat.le_trans (Nat.le_max_right _ _) h1
   ·exact h2 x hx
 exact (aa l 0).2 x h
theorem e0t (l:List Nat) (x:Nat):b2l (l++[x])=b2l l+if 0<x then 1 else 0:=by
 unfold b2l
 rw [List.countP_append,List.countP_cons]
 simp
theorem d9d (l:List Nat) (x:Nat):a9t (l++[x])=a9t l+if x=0 then 0 else 2^(24-x):=by simp [a9t]
theorem d9e (l:List Nat) (i:Nat):a9t (l.take i)<=a9t l:=by
 have e:a9t l=a9t (l.take i)+a9t (l.drop i):=by
  conv=>lhs;rw [<-List.take_append_drop i l]
  unfold a9t
  rw [zM,List.sum_append]
 omega
theorem f1t {lens:List Nat} (h1:b2l lens=1) (h2:∀ n∈lens,n<=1):b3k lens=1:=by
 have h3:=f1s h2
 have h4:0<b2l lens:=by omega
 obtain ⟨x,hx,hp⟩:=List.countP_pos_iff.1 h4
 have h5:=c1n hx
 have h6:0<x:=of_decide_eq_true hp
 omega
theorem d1d {w:World} {A:Option Addr} {l:List Nat} (h:a0d i64 w A l) {i:Nat} (hi:i<l.length):∃ g o,A=some ⟨g,o,none⟩/\w.cell? ⟨g,o+i,none⟩=some (.int .i64 (l[i]:Nat)):=by
 obtain ⟨g,o,e,c⟩:=h.at_ hi
 exact ⟨g,o,e,c⟩
theorem d5x (lens:List Nat) (A:Option Addr) (cap:Nat) (w:World) (hf:b3p lens) (hc:a0d i64 w A lens) :
  Calls Tryz.prog 221 #[.slice A lens.length cap] w fun e w'=>e=.returned (.bool true)/\w=w':=by
 have hk:=d6l hf
 have aA:=hf.n1
 have av:=hf.n2
 have ae:(b2l lens=1/\b3k lens=1)\/(b2l lens≠1/\a9t lens=16777216):=by
  rcases hf.full with ⟨h1,h2⟩ | ⟨h1,h2⟩
  ·exact .inl ⟨h1,f1t h1 h2⟩
  ·exact .inr ⟨h1,h2⟩
 have ar:=hf.le
 obtain ⟨n,hn⟩:=zX (lens.length)
 rw [<-hn] at aA av ⊢
 have HN:=hid hn
 have aj:=hid ae
 have ay:=hid ar
 have HK:=hid hk
 clear hn ae ar hf hk
 have t1:decide ((n:Int)<1)=false:=zA (by omega)
 have t2:decide ((1024:Int)<(n:Int))=false:=zA (by omega)
 go_enter Tryz.func221,Tryz.ntmps221
 go_wp2_with fail
 go_loopg [3,4,5,18] n (fun j vu vl vs iv wr=>∃ (i u m s:Nat),iv=.int .i64 i/\vu=.int .i64 u/\vl=.int .i64 m/\vs=.int .i64 s/\i+j=n/\Hid (u=b2l (lens.take i))/\Hid (m=b3k (lens.take i))/\Hid (s=a9t (lens.take i))/\u<=i/\m<=24/\s<=16777216/\w=wr)
 case atStart=>exact ⟨0,0,0,0,rfl,rfl,rfl,rfl,by omega,hid rfl,hid rfl,hid rfl,by omega,by omega,by omega,rfl⟩
 case round =>
  obtain ⟨i,u,m,s,rfl,rfl,rfl,rfl,aG,HU,HM,HS,hu,hm,hs,rfl⟩:=hrel
  rcases gk with _ | j
  ·obtain rfl:i=n:=by omega
   have ad:lens.take i=lens:=by rw [HN.out,zN]
   rcases aj.out with ⟨h1,h2⟩ | ⟨h1,h2⟩
   ·have e1:u=1:=by rw [HU.out,ad];exact h1
    have e2:m=1:=by rw [HM.out,ad];exact h2
    subst e1
    subst e2
    clear h1 h2 ad
    go_wp2
    go_ret
    exact ⟨rfl,rfl⟩
   ·have e1:u≠1:=by rw [HU.out,ad];exact h1
    have e2:s=16777216:=by rw [HS.out,ad];exact h2
    have t3:((u:Int)==1)=false:=by rw [beq_eq_false_iff_ne];omega
    subst e2
    clear h1 h2 ad e1
    go_wp2
    go_ret
    exact ⟨rfl,rfl⟩
  ·have ax:i<n:=by omega
   have ag:i<lens.length:=by rw [<-HN.out];exact ax
   obtain ⟨g,o,rfl,af⟩:=d1d hc ag
   have ai:=ay.out lens[i] (zG ag)
   have aq:=a0o lens ag
   have ab:=e0t (lens.take i) lens[i]
   have ac:=e3q (lens.take i) lens[i]
   have aa:=d9d (lens.take i) lens[i]
   have ao:=d9e lens (i+1)
   rw [<-aq] at ab ac aa
   rw [<-HU.out] at ab
   rw [<-HM.out] at ac
   rw [<-HS.out] at aa
   obtain ⟨x,hx⟩:=zX (lens[i])
   rw [<-hx] at af ai ab ac aa
   have aB:(0:Int)<=(i:Int):=by omega
   have aF:(i:Int)<(n:Int):=by omega
   have t3:decide ((x:Int)<0)=false:=zA (by omega)
   have t4:decide ((24:Int)<(x:Int))=false:=zA (by omega)
   clear aq hx ag
   by_cases hx0:0<x
   ·have t5:decide ((0:Int)<(x:Int))=true:=zB (by omega)
    rw [if_pos hx0] at ab
    rw [if_neg (by omega)] at aa
    obtain ⟨m2,ah⟩:=zX (max m x)
    have au:max (m:Int) (x:Int)=(m2:Int):=by rw [ah];omega
    have aE:(if (m:Int)<(x:Int) then (x:Int) else (m:Int))=(m2:Int):=by rw [ah];split<;>omega
    obtain ⟨y,hy⟩:=zX (24-x)
    have aC:(24:Int)-(x:Int)=(y:Int):=by omega
    rw [<-hy] at aa
    rw [<-ah] at ac
    have hp:(2:Nat)^y<=16777216:=Nat.le_trans (Nat.pow_le_pow_right (n:=2) (by decide) (show y<=24 by omega)) (by decide)
    obtain ⟨P,hP⟩:=zX (2^y)
    have aD:(2:Int)^y=(P:Int):=by rw [hP];simp
    rw [<-hP] at aa hp
    have aw:s+P<=16777216:=by have:=HK.out;omega
    have az:y<=24:=by omega
    have ak:=hid ab
    have an:=hid ac
    have al:=hid aa
    have am:m2<=24:=by omega
    clear ab ac aa ao ah hP hy
    go_wp2_with fail
    go_roundg j
    case measure=>omega
    case rel=>exact ⟨i+1,u+1,m2,s+P,by go_num,by go_num,rfl,by go_num,by omega,hid ak.out.symm,hid an.out.symm,hid al.out.symm,by omega,am,aw,rfl⟩
   ·obtain rfl:x=0:=by omega
    rw [if_neg hx0] at ab
    rw [if_pos rfl] at aa
    have ap:max m 0=m:=by omega
    rw [ap] at ac
    have ak:=hid ab
    have an:=hid ac
    have al:=hid aa
    clear ab ac aa ao ap
    go_wp2_with fail
    go_roundg j
    case measure=>omega
    case rel=>exact ⟨i+1,u,m,s,by go_num,rfl,rfl,rfl,by omega,hid ak.out.symm,hid an.out.symm,hid al.out.symm,by omega,hm,hs,rfl⟩
theorem d1p (lens:List Nat) (A:Option Addr) (cap:Nat) (w:World) (hl:lens.length<=1024) (hc:a0d i64 w A lens) :
  Calls Tryz.prog 257 #[.slice A lens.length cap] w fun e w'=>∃ v F,e=.returned v/\Own w' 3 v F ((a0q lens).map i64)/\Chg [] w w'/\∀ x∈F,w.heap.size<=x:=by
 obtain ⟨n,hn⟩:=zX (lens.length)
 rw [<-hn] at hl ⊢
 have HN:=hid hn
 clear hn
 go_enter Tryz.func257,Tryz.ntmps257
 go_wp2_with fail
 go_loopg [3,4,5,6] 24 (fun j vo vn v5 v6 wr=>∃ (m:Nat) (F:List Nat),vn=.int .i64 (m+1:Nat)/\m+j=24/\Own wr 3 vo F ((a1s lens m).map i64)/\(∀ x∈F,w.heap.size<=x)/\Chg [] w wr)
 case atStart=>exact ⟨0,[],rfl,rfl,Own.nil _ _,by simp,zR _ _⟩
 case round =>
  obtain ⟨m,F,rfl,aB,aa,hF,ab⟩:=hrel
  rcases gk with _ | ko
  ·obtain rfl:m=24:=by omega
   go_wp2
   obtain ⟨Ar,cr,rfl,_⟩:=aa.oq
   go_ret
   exact ⟨_,rfl,F,aa,ab,hF⟩
  ·obtain ⟨q,hq⟩:=zX (m+1)
   rw [<-hq]
   have t1:decide ((q:Int)<=24)=true:=zB (by omega)
   have HQ:=hid hq
   have aq:q<=24:=by omega
   have ah:=a6d lens m
   rw [<-hq,<-HN.out] at ah
   have an:=hid ah
   have av:=b9n lens m
   rw [<-HN.out] at av
   clear hq ah
   go_wp2_with fail
   go_loopg [3,5,6,13] n (fun j vo v5 v6 iv wr=>∃ (i:Nat) (F:List Nat),iv=.int .i64 i/\i+j=n/\Own wr 3 vo F ((a1s lens m++a0w lens q i).map i64)/\(a0w lens q i).length<=i/\(∀ x∈F,w.heap.size<=x)/\Chg [] w wr)
   case atStart=>exact ⟨0,F,rfl,by omega,by simpa [a0w] using aa,by simp [a0w],hF,ab⟩
   case round =>
    clear aa hF ab
    obtain ⟨i,F,rfl,aD,aa,aC,hF,ab⟩:=hrel
    obtain ⟨Ar,cr,rfl,aw,au,_⟩:=aa.oq
    rcases gk with _ | j
    ·obtain rfl:i=n:=by omega
     rw [<-an.out] at aa
     have ag:(a1s lens m++a0w lens q i).length=(a1s lens q).length:=by rw [an.out]
     rw [ag]
     go_wp2_with fail
     go_roundg ko
     case measure=>omega
     case rel =>
      refine ⟨q,F,by go_num,by have:=HQ.out;omega,aa,hF,ab⟩
    ·have ax:i<n:=by omega
     have aj:i<lens.length:=by rw [<-HN.out];exact ax
     obtain ⟨g,o,rfl,af⟩:=d1d (hc.same ab) aj
     have ac:=c9m lens q i
     have am:a0g lens i=lens[i]:=by simp [a0g,zD,aj]
     rw [am] at ac
     obtain ⟨x,hx⟩:=zX (lens[i])
     rw [<-hx] at af ac
     have ay:(0:Int)<=(i:Int):=by omega
     have aA:(i:Int)<(n:Int):=by omega
     clear am hx aj
     by_cases hxq:x=q
     ·subst hxq
      rw [if_pos rfl] at ac
      have ae:=hid ac
      obtain ⟨r,hr⟩:=zX ((a1s lens m++a0w lens x i).length)
      have az:r<=2048:=by rw [hr,zC];omega
      have ak:((a1s lens m++a0w lens x i).map i64).length=r:=by rw [zE];exact hr.symm
      rw [<-hr] at aa ⊢
      have ad:=aa.alloc (.cells #[.int .i64 i] 3)
      have hu:(wr.alloc (.cells #[.int .i64 i] 3)).cell? ⟨wr.heap.size,0,none⟩=some (.int .i64 i):=by simp
      have ap:=hid ak
      have HF:=hid hF
      have ai:Hid (Chg [] w (wr.alloc (.cells #[.int .i64 i] 3))):=hid (ab.alloc _)
      clear ac hr ak hF
      go_wp2_with (at_builtin;refine a0f rfl rfl a0p rfl rfl ad (.int .i64 i) rfl hu rfl ?c1 ?c2 ?_)
      case c1=>rw [ap.out];omega
      case c2=>rw [ap.out];omega
      intro g2 ar w5 al ao
      go_wp2_with fail
      go_roundg j
      case measure=>omega
      case rel =>
       refine ⟨i+1,[g2],by go_num,by omega,?_,?_,?_,ai.out.trans ao.chg (fun x hx => .inr (HF.out x hx))⟩
       ·have e:(a1s lens m++a0w lens x (i+1)).map i64=(a1s lens m++a0w lens x i).map i64++[.int .i64 i]:=by
         rw [ae.out,<-zH,zM];rfl
        have e2:(List.map i64 (a1s lens m++a0w lens x i)).length+1=(a1s lens m).length+(a0w lens x i).length+1:=by simp
        rw [e]
        simp only [zM,zH] at al ⊢
        exact al.toOwn
       ·rw [ae.out,zC,List.length_singleton];omega
       ·intro y hy
        rw [zU.1 hy]
        rcases ao.new g2 (by simp) with h5 | h5
        ·exact HF.out _ h5
        ·have:=ab.size
         have e:(wr.alloc (.cells #[.int .i64 i] 3)).heap.size=wr.heap.size+1:=by simp
         omega
     ·have t2:((x:Int)==(q:Int))=false:=by rw [beq_eq_false_iff_ne];omega
      rw [if_neg hxq,List.append_nil] at ac
      have ae:=hid ac
      clear ac
      go_wp2_with fail
      go_roundg j
      case measure=>omega
      case rel=>exact ⟨i+1,F,by go_num,by omega,by rw [ae.out];exact aa,by rw [ae.out];omega,hF,ab⟩
def f3b (x:Nat):Value:=.int .u64 x
theorem f0g:b6m Tryz.prog 256 37 (.int .u64 0) 1 8:=.mk' Tryz.underlying256 (by kernel_rfl)
theorem d5j (lens:List Nat) (A:Option Addr) (cap:Nat) (w:World) (hf:b3p lens) (hc:a0d i64 w A lens) :
  Calls Tryz.prog 222 #[.slice A lens.length cap] w fun e w'=>∃ v g,e=.returned (.tuple #[v,.int .i64 0])/\Row w' 37 v g ((b0d lens).map f3b)/\Chg [] w w'/\w.heap.size<=g:=by
 have az:=d5x lens A cap w hf hc
 have a8:=hf.n1
 have aS:=hf.n2
 have ay:=fun w hc=>d1p lens A cap w aS hc
 have aD:=b9n lens 24
 obtain ⟨n,hn⟩:=zX (lens.length)
 have bm:=a1p (P:=Tryz.prog) f0g rfl .i64 .i64 n (by omega) (by omega)
 rw [<-hn] at a8 aS az ay aD ⊢
 have HN:=hid hn
 have HF:=hid hf
 have a0:=hid ay
 clear hn hf ay
 have aA:=a3s lens
 rw [<-HN.out] at aA
 have aY:=hid aA
 clear aA
 go_enter Tryz.func222,Tryz.ntmps222
 go_wp2_with fail
 refine az.mono ?_
 rintro e w' ⟨rfl,rfl⟩
 obtain ⟨w1,av⟩:=zX (w.alloc (.cells (Array.replicate n (Value.int .u64 0)) 37))
 obtain ⟨B,hB⟩:=zX (w.heap.size)
 have aJ:Row w1 37 (.slice (some ⟨B,0,none⟩) n n) B ((a3j lens 0).map f3b):=by
  have:=Row.made w 37 (List.replicate n (Value.int .u64 0)) (by simp [maxLen];omega)
  rw [av,hB]
  have e:(a3j lens 0).map f3b=List.replicate n (Value.int .u64 0):=by
   unfold a3j
   rw [List.map_replicate,<-HN.out]
   rfl
  rw [e]
  simpa using this
 have ak:Chg [] w w1:=by rw [av];exact (zR [] w).alloc _
 have au:=a0.out w1 (hc.same ak)
 have aZ:=hid av
 have HB:=hid hB
 clear av hB az
 go_wp2_with fail
 rw [<-aZ.out,<-HB.out]
 refine au.mono ?_
 rintro e w2 ⟨vr,Fr,rfl,al,aT,aR⟩
 obtain ⟨Ar,cr,rfl,aC,a3,a9⟩:=al.oq
 have ai:=aJ.chg aT (by simp)
 have an:=ak.tq aT
 obtain ⟨rl,ag⟩:=zX ((a0q lens).length)
 have aX:rl<=n:=by rw [ag];exact aD
 rw [<-ag] at aC ⊢
 have aQ:=hid ag
 have aO:w.heap.size<=B:=by have:=HB.out;omega
 have aH:∀ x∈[B],x∉Fr:=fun x hx hm=>by
  rw [zU.1 hx] at hm
  have:=aR _ hm
  have h6:=aJ.lt
  omega
 have aB:Apt Ar (a0q lens) [B]:=al.apt (fun x hx hm=>aH x hm hx)
 have bh:=ai.lt
 clear au aJ al ak ag aR aD
 go_wp2_with fail
 go_loopg [5,6,8,18] rl (fun j vw vb v8 iv wr=>∃ (k wd bf:Nat),iv=.int .i64 k/\vw=.int .u64 wd/\vb=.int .i64 bf/\k+j=rl/\Hid ((k=0/\wd=0/\bf=0)\/(0<k/\wd=a4x lens (k-1)/\bf=a0g lens ((a0q lens).getD (k-1) 0)))/\Row wr 37 (.slice (some ⟨B,0,none⟩) n n) B ((a3j lens k).map f3b)/\Chg [B] w2 wr)
 case atStart=>exact ⟨0,0,0,rfl,rfl,rfl,by omega,hid (.inl ⟨rfl,rfl,rfl⟩),ai,zR _ _⟩
 case round =>
  clear ai
  obtain ⟨k,wd,bf,rfl,rfl,rfl,bq,HK,af,ar⟩:=hrel
  rcases gk with _ | j
  ·obtain rfl:k=rl:=by omega
   have e:b0d lens=a3j lens k:=by unfold b0d;rw [aQ.out]
   have aI:Chg [] w wr:=an.trans ar (fun x hx=>by rw [zU.1 hx];exact .inr aO)
   have HE:=hid e
   clear e
   go_wp2
   go_ret2
   refine ⟨_,B,rfl,?_,aI,aO⟩
   rw [HE.out]
   exact af
  ·have ap:k<(a0q lens).length:=by rw [<-aQ.out];omega
   have bo:k<rl:=by omega
   obtain ⟨aL,aj,ao⟩:=a4q ap
   have aq:=a9.keep aB ar
   obtain ⟨gr,aW,rfl,ba,aK⟩:=aq.ex (by omega)
   have cs:=aK k ((a0q lens).getD k 0) (by rw [zD,zF ap];rfl)
   have aM:a0d i64 wr A lens:=(hc.same an).keep (fun _ ad e hm=>by
    obtain ⟨b9,o9,e9,a1,_⟩:=hc.ex (by have:=HN.out;omega)
    rw [e] at e9
    injection e9 with e9
    subst e9
    simp at hm
    omega) ar
   obtain ⟨gl,ol,e7,bp,aN⟩:=aM.ex (by rw [<-HN.out];omega)
   have cl:=aN ((a0q lens).getD k 0) (a0g lens ((a0q lens).getD k 0)) (by unfold a0g;rw [zD (l:=lens),zF ao];rfl)
   obtain ⟨a6,a2,_,_,aV,aP⟩:=af.oq
   have aU:(a3j lens k).length=n:=aY.out k
   have cw:=aV ((a0q lens).getD k 0) ((a3j lens k).getD ((a0q lens).getD k 0) 0) (by rw [zD (l:=a3j lens k),zF (by rw [a3s];exact ao)];rfl)
   have fw:=aP ((a0q lens).getD k 0)
   have ac:=af.set_ (i:=(a0q lens).getD k 0) (by rw [zE,a3s];exact ao) (f3b (a4x lens k))
   rw [<-List.map_set] at ac
   have aE:a3j lens (k+1)=(a3j lens k).set ((a0q lens).getD k 0) (a4x lens k):=rfl
   rw [<-aE] at ac
   have ae:=d2g HF.out ap
   rw [<-HN.out] at ao
   have aa:∀ (h:0<k),a4x lens k=(a4x lens (k-1)+1)*2^(a0g lens ((a0q lens).getD k 0)-a0g lens ((a0q lens).getD (k-1) 0))/\a0g lens ((a0q lens).getD (k-1) 0)<=a0g lens ((a0q lens).getD k 0)/\0<a0g lens ((a0q lens).getD (k-1) 0):=fun h=>by
    have h5:=d5a (lens:=lens) (k:=k-1) (by omega)
    have e:k-1+1=k:=by omega
    rw [e] at h5
    exact ⟨h5,c2m (by omega) ap,(a4q (k:=k-1) (by omega)).1⟩
   have aw:k=0->a4x lens k=0:=fun h=>by rw [h,d5b]
   obtain ⟨s,hs⟩:=zX ((a0q lens).getD k 0)
   rw [<-hs] at cs cl cw fw ac aL aj ao ae aa aE
   obtain ⟨L,hL⟩:=zX (a0g lens s)
   rw [<-hL] at cl aL aj ae aa
   obtain ⟨wn,aG⟩:=zX (a4x lens k)
   rw [<-aG] at ac ae aa aw
   have ah:Hid ((k+1=0/\wn=0/\L=0)\/(0<k+1/\wn=a4x lens (k+1-1)/\L=a0g lens ((a0q lens).getD (k+1-1) 0))):=hid (.inr ⟨by omega,by rw [Nat.add_sub_cancel];exact aG,by rw [Nat.add_sub_cancel,<-hs];exact hL⟩)
   have br:wr.cell? ⟨gr,aW+k,none⟩=some (.int .i64 s):=cs
   have bg:wr.cell? ⟨gl,ol+s,none⟩=some (.int .i64 L):=cl
   have bb:wr.cell? ⟨B,s,none⟩=some (.int .u64 ((a3j lens k).getD s 0:Nat)):=cw
   have aF:wn<16777216:=Nat.lt_of_lt_of_le ae (Nat.le_trans (Nat.pow_le_pow_right (n:=2) (by decide) aj) (by decide))
   have ab:Row (wr.setCell ⟨B,s,none⟩ (.int .u64 wn)) 37 (.slice (some ⟨B,0,none⟩) n n) B ((a3j lens (k+1)).map f3b):=ac
   have ab:=hid ab
   generalize (a3j lens k).getD s 0=wo at *
   have bc:(0:Int)<=(k:Int):=by omega
   have bj:(k:Int)<(rl:Int):=by omega
   have bn:(0:Int)<=(s:Int):=by omega
   have bi:(s:Int)<(n:Int):=by omega
   have a4:gl≠B:=by
    obtain ⟨b9,o9,e9,a1,_⟩:=hc.ex (by have:=HN.out;omega)
    rw [e7] at e9
    injection e9 with e9
    injection e9 with e9 _ _
    omega
   subst e7
   have HR:=hid af
   clear a2 aK aN aV aP ac cs cl cw hL aG hs aE ap ae af aq aM
   by_cases hk0:k=0
   ·rcases HK.out with ⟨a7,h2,h3⟩ | ⟨h1,_⟩
    ·clear a7
     subst h2
     subst h3
     have ax:=aw hk0
     subst ax
     have bd:=hid hk0
     clear aa aw hk0
     go_wp2_with fail
     go_roundg j
     case measure=>omega
     case rel=>exact ⟨k+1,0,L,by go_num,rfl,rfl,by omega,hid (by rcases ah.out with ⟨h,_⟩ | h;omega;exact .inr h),ab.out,ar.setCell (.inl (by simp)) _⟩
    ·omega
   ·rcases HK.out with ⟨h1,_⟩ | ⟨h1,h2,h3⟩
    ·omega
    ·obtain ⟨k1,k2,k3⟩:=aa h1
     rw [<-h2,<-h3] at k1
     rw [<-h3] at k2 k3
     obtain ⟨d,hd⟩:=zX (L-bf)
     rw [<-hd] at k1
     have bk:(L:Int)-(bf:Int)=(d:Int):=by omega
     have a5:d<=24:=by omega
     have t1:decide ((0:Int)<(bf:Int))=true:=zB (by omega)
     have am:((wd:Int)+1)*(2:Int)^d=(wn:Int):=by rw [k1];simp
     have bl:IntKind.u64.wrap (((wd:Int)+1)*(2:Int)^d)=(wn:Int):=by rw [am];exact IntWalk.u64_in _ (by omega)
     have be:wd+1<=16777216:=by
      have:wd+1<=wn:=by rw [k1];exact Nat.le_mul_of_pos_right _ (Nat.two_pow_pos _)
      omega
     clear k1 h2 h3 hd aa aw HK k2 hk0
     go_wp2_with fail
     go_roundg j
     case measure=>omega
     case rel=>exact ⟨k+1,wn,L,by go_num,rfl,rfl,by omega,ah,ab.out,ar.setCell (.inl (by simp)) _⟩
end Go.Proofs.YtepjepkgcdfboaaGreatDoor
