/- package prefix by its contracts, the third part: next. -/
import Derived.Test.YtepjepkgcdfboaaGreatDoorMg13
import Derived.Deep.RegionHeld3
set_option linter.unusedVariables false
set_option linter.unusedSimpArgs false
set_option maxHeartbeats 4000000
set_option maxRecDepth 100000
namespace Go.Proofs.YtepjepkgcdfboaaGreatDoor
open Go.RowKit
theorem c1z (a b:El):∀ l:List El,l.length%2=0->a1o (l++[a,b])=a1o l++[.pack a b]
 | [],_=>rfl
 | [_],h=>by simp at h
 | x::y::l,h=>by
  have:=c1z a b l (by simp at h;omega)
  simp only [List.cons_append,a1o,this]
theorem c2a (l:List El) (q:Nat) (h:2*q+1<l.length):a1o (l.take (2*q+2))=a1o (l.take (2*q))++[.pack l[2*q] l[2*q+1]]:=by
 have e1:l.take (2*q+2)=l.take (2*q)++[l[2*q],l[2*q+1]]:=by
  rw [a0o l h,a0o l (by omega),zH]
  rfl
 rw [e1,c1z _ _ _ (by rw [zI];omega)]
theorem c3v (l:List El) {q:Nat} (h1:2*q<=l.length) (h2:l.length<=2*q+1):a1o (l.take (2*q))=a1o l:=by
 by_cases h:l.length=2*q
 ·rw [<-h,zN]
 ·have hl:l.length=2*q+1:=by omega
  have e:l=l.take (2*q)++[l[2*q]'(by omega)]:=by
   rw [<-a0o l (by omega),zT (by omega)]
  have aa:∀ (m:List El) (a:El),m.length%2=0->a1o (m++[a])=a1o m:=by
   intro m a
   induction m using a1o.induct with
   | case1 x y m im =>
    intro hm
    simp only [List.cons_append,a1o]
    rw [im (by simp at hm;omega)]
   | case2 m hm0 =>
    intro hm
    cases m with
    | nil=>rfl
    | cons x m =>
     cases m with
     | nil=>simp at hm
     | cons y m=>exact absurd rfl (hm0 x y m)
  conv=>rhs;rw [e]
  rw [aa _ _ (by rw [zI];omega)]
theorem c7t:b6m Tryz.prog 249 250 (.pointer none) 1 8:=.mk' Tryz.underlying249 (by kernel_rfl)
theorem e7h (l:List PE):∀ u∈l.map b9i,u.oneCell'=true:=by
 intro u hu
 obtain ⟨p,_,rfl⟩:=List.mem_map.1 hu
 rfl
theorem f1w (P:Nat->Prop) (w:World) (hP:∀ x,w.heap.size<=x->P x) (AC AR:Option Addr) (cC cR:Nat) (C R:List PE) (h2:2<=C.length) (hCl:C.length<=1024) (hRl:R.length<=4096) (hcC:a0d b9i w AC C) (hcR:a0d b9i w AR R) (hEC:Els P w C) (hER:Els P w R) (hwt:∀ p∈R,p.2.wt<=1125899906842624) :
  Calls Tryz.prog 219 #[.slice AC C.length cC,.slice AR R.length cR] w fun e w'=>∃ v g E',e=.returned v/\Row w' 250 v g (E'.map b9i)/\E'.map (·.2)=c4h (C.map (·.2)++a1o (R.map (·.2)))/\Els P w' E'/\Chg [] w w'/\w.heap.size<=g:=by
 obtain ⟨n,hn⟩:=zX (R.length)
 obtain ⟨c,hc⟩:=zX (C.length)
 rw [<-hn] at hRl ⊢
 rw [<-hc] at h2 hCl ⊢
 have HN:=hid hn
 have HC:=hid hc
 have aU:=hid hwt
 have aO:=hid hEC
 have aV:=hid hP
 have aP:=hid hER
 clear hn hc hwt hEC hER hP
 have am:a0d (fun u=>u) w AC (C.map b9i):=⟨fun h0=>by
  obtain ⟨b,o,e1,e2,e3⟩:=hcC.ex (by simpa using h0)
  exact ⟨b,o,e1,e2,fun i a ha=>by
   rw [zW] at ha
   cases hC:C[i]? with
   | none=>rw [hC] at ha;cases ha
   | some p=>rw [hC] at ha;injection ha with ha;rw [<-ha];exact e3 i p hC⟩⟩
 go_enter Tryz.func219,Tryz.ntmps219
 go_wp2_with (at_builtin;refine a1m rfl rfl c7t rfl rfl (Own.nil w 250) (C.map b9i) c rfl ?c1 ?c2 ?c3 ?c4 ?c5 ?_)
 case c1=>rw [zE];exact HC.out
 case c2=>exact am
 case c3=>exact e7h _
 case c4=>rw [zE,<-HC.out];simp;omega
 case c5=>rw [zE,<-HC.out];simp;omega
 intro v1 F1 w1 h1 h3
 have ah:=h1.cases
 rcases ah with ⟨_,aD,_⟩ | ⟨g1,ak,rfl⟩
 ·exfalso
  have:=congrArg List.length aD
  rw [zE,<-HC.out] at this
  simp at this
  omega
 have aS:w.heap.size<=g1:=by
  rcases h3.new g1 (by simp) with h | h
  ·simp at h
  ·exact h
 have aQ:Chg [] w w1:=h3.chg
 clear h1 h3 am hcC
 have bj:(C.map (·.2)).length=c:=by rw [zE,HC.out]
 obtain ⟨T,hT⟩:=zX (R.map (·.2))
 have a2:T.length=n:=by rw [hT,zE,HN.out]
 have HT:=hid hT
 have aM:=hid a2
 clear hT a2 bj
 go_wp2
 go_loopg [5,6] n (fun k vo vi' wr=>∃ (q:Nat) (Q:List PE) (g0:Nat),vi'=.int .i64 ((2*q:Nat):Int)/\2*q<=n/\n<=2*q+k/\Row wr 250 vo g0 ((C++Q).map b9i)/\Hid (Q.map (·.2)=a1o (T.take (2*q)))/\Q.length=q/\Els (fun x=>x≠g0/\P x) wr Q/\w.heap.size<=g0/\Chg [] w wr)
 case atStart=>exact ⟨0,[],g1,rfl,by omega,by omega,by rw [List.append_nil];exact ak,hid (by simp [a1o]),rfl,by intro p hp;simp at hp,aS,aQ⟩
 case round =>
  clear ak aQ aS
  obtain ⟨q,Q,g0,rfl,aH,a9,aa,HQ,aC,aq,aN,ab⟩:=hrel
  obtain ⟨a5,rfl,aj,aL,_,_⟩:=aa.oq
  have aw:(C++Q).length=c+q:=by rw [zC,<-HC.out,aC]
  rw [aw] at aj ⊢
  by_cases hend:n<=2*q+1
  ·have t1:decide (((2*q:Nat):Int)+1<(n:Int))=false:=zA (by omega)
   have aX:=d6z wr _ g0 (C++Q) (by omega) (by omega) aa (by
    intro p hp
    rcases zP.1 hp with h5 | h5
    ·exact ((aO.out p h5).imp (Q:=fun x=>x≠g0) fun x hx _=>by omega).same ab
    ·exact (aq p h5).imp fun x _ h=>h.1)
   rw [aw] at aX
   have a6:Hid (Els (fun x=>x≠g0/\P x) wr (C++Q)):=hid (by
    intro p hp
    rcases zP.1 hp with h5 | h5
    ·exact ((aO.out p h5).imp (Q:=fun x=>x≠g0/\P x) fun x hx h=>⟨by omega,h⟩).same ab
    ·exact aq p h5)
   clear aq
   go_wp2_with fail
   refine aX.mono ?_
   rintro e w2 ⟨rfl,k3,k4⟩
   have k1:=c5v (fun p:PE=>p.2) (C++Q) ((C++Q).headD default)
   have k0:=d1w (fun p:PE=>p.2) (C++Q) ((C++Q).headD default)
   obtain ⟨E',aZ⟩:=zX (c8m (fun p:PE=>p.2) (C++Q) ((C++Q).headD default))
   rw [<-aZ] at k0 k1 k3
   have K0:=hid k0
   have K1:=hid k1
   clear k0 k1 aZ
   go_wp2
   go_ret
   refine ⟨_,g0,E',rfl,k3,?_,?_,ab.trans k4 (fun x hx=>by rw [zU.1 hx];exact .inr aN),aN⟩
   ·have e1:=K0.out
    rw [zM,HQ.out,c3v T (by rw [aM.out];exact aH) (by rw [aM.out];exact hend),HT.out] at e1
    exact e1
   ·intro p hp
    have h5:=a6.out p (K1.out.mem_iff.1 hp)
    exact (h5.chg k4 (fun x hx=>by rw [zU.1 hx];simp)).imp fun _ _ h=>h.2
  ·rcases gk with _ | gk
   ·omega
   ·have t1:decide (((2*q:Nat):Int)+1<(n:Int))=true:=zB (by omega)
    have aK:2*q+1<R.length:=by rw [<-HN.out];omega
    have au:=hcR.same ab
    obtain ⟨gr,af,rfl,aR,aJ⟩:=au.ex (by omega)
    have p1:=aJ (2*q) _ (zF (by omega))
    have p2:=aJ (2*q+1) _ (zF aK)
    have m1:R[2*q]∈R:=zG _
    have m2:R[2*q+1]∈R:=zG _
    have ax:a1o (T.take (2*(q+1)))=a1o (T.take (2*q))++[.pack R[2*q].2 R[2*q+1].2]:=by
     have:=c2a T q (by rw [aM.out];omega)
     rw [show 2*(q+1)=2*q+2 by omega,this]
     congr 3<;>simp [HT.out]
    have a1:=aU.out _ m1
    have a0:=aU.out _ m2
    have av:=aP.out _ m1
    have al:=aP.out _ m2
    generalize R[2*q]=x1 at *
    generalize R[2*q+1]=x2 at *
    obtain ⟨b1,ae⟩:=x1
    obtain ⟨b2,ad⟩:=x2
    simp only at a1 a0 av al ax
    have c1:=(av.same ab).head.2.2
    have c2:=(al.same ab).head.2.2
    have aT:wr.cell? ⟨gr,af+2*q,none⟩=some (.pointer (some ⟨b1,0,none⟩)):=p1
    have aA:wr.cell? ⟨gr,af+(2*q+1),none⟩=some (.pointer (some ⟨b2,0,none⟩)):=p2
    obtain ⟨i,hi⟩:=zX (2*q)
    rw [<-hi] at aT aA t1 aH a9 hend aK ax ⊢
    have a8:=hid ax
    have HI:=hid hi
    have bq:=hid av
    have a3:=hid al
    have bd:=hid aq
    have aW:=hid ab
    have bx:(0:Int)<=(i:Int):=by omega
    have bu:(i:Int)<(n:Int):=by omega
    obtain ⟨i1,aY⟩:=zX (i+1)
    have bs:(i1:Int)<(n:Int):=by omega
    have bB:(0:Int)<=(i1:Int):=by omega
    have bg:(i:Int)+1=(i1:Int):=by omega
    have bf:IntKind.i64.wrap (i1:Int)=(i1:Int):=IntWalk.i64_in _ (by omega)
    have br:IntKind.i64.wrap ((i:Int)+1)=(i1:Int):=by rw [bg];exact bf
    rw [<-aY] at aA
    clear aY
    have ap:IntKind.i64.wrap (((ae.wt:Nat):Int)+((ad.wt:Nat):Int))=((ae.wt+ad.wt:Nat):Int):=by
     have e:((ae.wt:Nat):Int)+((ad.wt:Nat):Int)=((ae.wt+ad.wt:Nat):Int):=by simp
     rw [e]
     exact IntWalk.i64_in _ (by omega)
    have hS:∀ w',Chg [g0] wr w'->w'.cell? ⟨gr,af+i,none⟩=some (.pointer (some ⟨b1,0,none⟩))/\w'.cell? ⟨gr,af+i1,none⟩=some (.pointer (some ⟨b2,0,none⟩))/\w'.cell? ⟨b1,0,none⟩=some (.int .i64 ae.wt)/\w'.cell? ⟨b2,0,none⟩=some (.int .i64 ad.wt):=by
     intro w' ay
     obtain ⟨bw,bA,e',bn,_⟩:=hcR.ex (by omega)
     injection e' with e'
     injection e' with e1 e2 _
     subst e1
     have q1:=av.head.2.1
     have q2:=al.head.2.1
     exact ⟨(World.cell?_of_block (w:=wr) (ay.block gr aR (by simp;omega))).trans aT,(World.cell?_of_block (w:=wr) (ay.block gr aR (by simp;omega))).trans aA,
      (World.cell?_of_block (w:=wr) (ay.block b1 (Nat.lt_of_lt_of_le q1 ab.size) (by simp;omega))).trans c1,(World.cell?_of_block (w:=wr) (ay.block b2 (Nat.lt_of_lt_of_le q2 ab.size) (by simp;omega))).trans c2⟩
    obtain ⟨k1,az⟩:=zX (ae.wt)
    obtain ⟨k2,aG⟩:=zX (ad.wt)
    rw [<-az] at c1 a1 ap hS
    rw [<-aG] at c2 a0 ap hS
    have bl:=hid az
    have bc:=hid aG
    have ba:=hid aC
    have HS:=hid hS
    have aE:=aa.toOwn
    have be:=aa.lt
    have bv:((C++Q).map b9i).length<=8192:=by rw [zE,aw];omega
    clear aJ p1 p2 m1 m2 ax av al aq au hi aC hS az aG
    have bp:Hid (i+1<n):=hid (by omega)
    clear aH hend aK
    obtain ⟨wx,aF⟩:=zX ((((wr.alloc (.cells #[.pointer (some ⟨b1,0,none⟩),.pointer (some ⟨b2,0,none⟩)] 250)).alloc (.cells #[.int .i64 ((k1:Int)+(k2:Int)),.int .i64 0,.slice (some ⟨wr.heap.size,0,none⟩) 2 2] 252)).alloc (.cells #[.pointer (some ⟨wr.heap.size+1,0,none⟩)] 250)).drew)
    have ac:Chg [] wr wx:=by rw [aF];exact (((((zR [] wr).alloc _).alloc _).alloc _).drew)
    have an:=aE.same ac
    rw [aw] at an
    have bk:wx.cell? ⟨wr.heap.size+2,0,none⟩=some (.pointer (some ⟨wr.heap.size+1,0,none⟩)):=by
     rw [aF]
     have:=(Blk.new ((wr.alloc (.cells #[.pointer (some ⟨b1,0,none⟩),.pointer (some ⟨b2,0,none⟩)] 250)).alloc (.cells #[.int .i64 ((k1:Int)+(k2:Int)),.int .i64 0,.slice (some ⟨wr.heap.size,0,none⟩) 2 2] 252)) 250 #[.pointer (some ⟨wr.heap.size+1,0,none⟩)]).cell 0
     simpa using this
    have HX:=hid aF
    have a7:Hid (Chg [g0] wr wx):=hid (ac.mono (by simp))
    go_wp2
    go_region_held3 (fun w'=>w'.cell? ⟨gr,af+i,none⟩=some (.pointer (some ⟨b1,0,none⟩))/\w'.cell? ⟨gr,af+i1,none⟩=some (.pointer (some ⟨b2,0,none⟩))/\w'.cell? ⟨b1,0,none⟩=some (.int .i64 k1)/\w'.cell? ⟨b2,0,none⟩=some (.int .i64 k2)) (first | (go_keep;done) | exact HS.out _ ((zR [g0] wr).alloc _) | exact HS.out _ (((zR [g0] wr).alloc _).alloc _) | exact HS.out _ ((((zR [g0] wr).alloc _).alloc _).alloc _) | exact HS.out _ (((((zR [g0] wr).alloc _).alloc _).alloc _).drew) | exact HS.out _ (a7.out.tq (a0u.chg (by assumption))))
     (first | (rw [<-HX.out];refine a3x (by rfl) (by rfl) c7t (by rfl) (by rfl) an (.pointer (some ⟨wr.heap.size+1,0,none⟩)) (by rfl) bk (by rfl) (by omega) (by omega) ?_;intro g2 bi w5 bm ag))
    go_wp2_with fail
    go_roundg gk
    case measure=>omega
    case rel =>
     have bh:wx.heap.size=wr.heap.size+3:=by rw [HX.out];simp
     have ai:g2=g0\/wr.heap.size+3<=g2:=by
      rcases ag.new g2 (by simp) with h5 | h5
      ·exact .inl (by simpa using h5)
      ·exact .inr (by omega)
     have a4:Blk wx wr.heap.size 250 #[.pointer (some ⟨b1,0,none⟩),.pointer (some ⟨b2,0,none⟩)]:=by
      rw [HX.out]
      exact (((Blk.new wr _ _).alloc _).alloc _).drew
     have bo:Blk wx (wr.heap.size+1) 252 #[.int .i64 ((k1:Int)+(k2:Int)),.int .i64 0,.slice (some ⟨wr.heap.size,0,none⟩) 2 2]:=by
      rw [HX.out]
      have:=Blk.new (wr.alloc (.cells #[.pointer (some ⟨b1,0,none⟩),.pointer (some ⟨b2,0,none⟩)] 250)) 252 #[.int .i64 ((k1:Int)+(k2:Int)),.int .i64 0,.slice (some ⟨wr.heap.size,0,none⟩) 2 2]
      have e:(wr.alloc (.cells #[.pointer (some ⟨b1,0,none⟩),.pointer (some ⟨b2,0,none⟩)] 250)).heap.size=wr.heap.size+1:=by simp
      rw [e] at this
      exact (this.alloc _).drew
     have aB:=a4.chg ag.chg (by simp;omega)
     have aI:=bo.chg ag.chg (by simp;omega)
     have ar:Chg [] w w5:=(aW.out.tq ac).trans ag.chg (fun x hx=>by rw [zU.1 hx];exact .inr aN)
     have bz:=aW.out.size
     have ao:∀ (e:El) (bb:Nat),c9c P w e bb->c9c (fun x=>x≠g2/\P x) w5 e bb:=fun e bb h=>(h.imp (Q:=fun x=>x≠g2/\P x) fun x hx h9=>⟨by rcases ai with rfl | h6<;>omega,h9⟩).same ar
     refine ⟨q+1,Q++[(wr.heap.size+1,.pack ae ad)],g2,?_,?_,?_,?_,hid ?_,?_,?_,?_,ar⟩
     ·have e:((2*(q+1):Nat):Int)=(i:Int)+2:=by have:=HI.out;omega
      rw [e]
     ·have:=HI.out;have:=bp.out;omega
     ·have:=HI.out;omega
     ·have e:(C++(Q++[(wr.heap.size+1,El.pack ae ad)])).map b9i=(C++Q).map b9i++[.pointer (some ⟨wr.heap.size+1,0,none⟩)]:=by
       rw [<-zH,zM];rfl
      rw [e]
      have e2:((C++Q).map b9i).length+1=C.length+Q.length+1:=by simp
      rw [<-e2]
      exact bm
     ·rw [zM,HQ.out,a8.out,HI.out];rfl
     ·rw [zC,ba.out];rfl
     ·intro p hp
      rcases zP.1 hp with h5 | h5
      ·have h6:=((bd.out p h5).same ac).imp (Q:=fun x=>x≠g0/\x≠g2/\P x) fun x hx h7=>⟨h7.1,by rcases ai with rfl | h8;exact h7.1;omega,h7.2⟩
       exact (h6.chg ag.chg (fun x hx=>by rw [zU.1 hx];simp)).imp fun _ _ h=>h.2
      ·rw [zU.1 h5]
       refine ⟨wr.heap.size,b1,b2,?_,?_,?_,aB,ao _ _ bq.out,ao _ _ a3.out⟩
       ·exact ⟨by rcases ai with rfl | h6<;>omega,aV.out _ (by omega)⟩
       ·exact ⟨by rcases ai with rfl | h6<;>omega,aV.out _ (by omega)⟩
       ·rw [<-bl.out,<-bc.out,Int.natCast_add]
        exact aI
     ·rcases ai with rfl | h6<;>omega
def a5f (t:El) (l:List Nat):List Nat:=l.mapIdx fun s x=>x+t.occ s
def El.symsIn (n:Nat):El->Prop
 | .coin s _=>s<n
 | .pack a b=>a.symsIn n/\b.symsIn n
theorem c4p (t:El) (l:List Nat):(a5f t l).length=l.length:=by simp [a5f]
theorem d2o (t:El) (l:List Nat) {s:Nat} (h:s<l.length):(a5f t l).getD s 0=l.getD s 0+t.occ s:=by
 simp [a5f,zD,h]
theorem d2p (a b:El) (l:List Nat):a5f b (a5f a l)=a5f (.pack a b) l:=by
 unfold a5f
 rw [List.mapIdx_mapIdx]
 congr 1
 funext s x
 show x+a.occ s+b.occ s=x+(a.occ s+b.occ s)
 omega
theorem d2n (s k:Nat) (l:List Nat) (h:s<l.length):a5f (.coin s k) l=l.set s (l.getD s 0+1):=by
 apply List.ext_getElem?
 intro i
 unfold a5f
 rw [List.getElem?_mapIdx,List.getElem?_set]
 by_cases hi:s=i
 ·subst hi
  rw [if_pos rfl,if_pos h,zD,zF h]
  simp [El.occ]
 ·rw [if_neg hi]
  cases hl:l[i]? with
  | none=>rfl
  | some x =>
   simp only [Option.map_some,El.occ]
   rw [if_neg hi]
   rfl
theorem e7a (g cap n:Nat):∀ (t:El) (b:Nat) (l:List Nat) (w:World),l.length=n->t.symsIn n->(∀ s,l.getD s 0+t.occ s<=4096)->c9c (·≠g) w t b->Row w 3 (.slice (some ⟨g,0,none⟩) n cap) g (l.map i64) ->
  Calls Tryz.prog 220 #[.pointer (some ⟨b,0,none⟩),.slice (some ⟨g,0,none⟩) n cap] w fun e w'=>e=.returned (.tuple #[])/\Row w' 3 (.slice (some ⟨g,0,none⟩) n cap) g ((a5f t l).map i64)/\Chg [g] w w':=by
 intro t
 induction t with
 | coin s k =>
  intro b l w hl hs hb hE hr
  have an:s<n:=hs
  obtain ⟨hP,hB⟩:=hE
  have b1:=hB.cell 1
  have b2:=hB.cell 2
  simp at b1 b2
  have hx:(l.getD s 0:Nat)+1<=4096:=by
   have:=hb s
   simpa [El.occ] using this
  have ac:=hr.set_ (i:=s) (by rw [zE,hl];exact an) (i64 (l.getD s 0+1))
  rw [<-List.map_set,<-d2n s k l (by omega)] at ac
  obtain ⟨am,e1,_,_,aa,ae⟩:=hr.oq
  have c1:=aa s (l.getD s 0) (by rw [zD,zF (by omega)];rfl)
  have f1:=ae s
  have ao:w.cell? ⟨g,s,none⟩=some (.int .i64 ((l.getD s 0:Nat):Int)):=c1
  have ab:Row (w.setCell ⟨g,s,none⟩ (.int .i64 ((l.getD s 0+1:Nat):Int))) 3 (.slice (some ⟨g,0,none⟩) n cap) g ((a5f (.coin s k) l).map i64):=ac
  have h0:(0:Int)<=(s:Int):=by omega
  have h1:(s:Int)<(n:Int):=by omega
  generalize a5f (.coin s k) l=l' at *
  generalize l.getD s 0=x at *
  have e2:((x+1:Nat):Int)=(x:Int)+1:=by simp
  rw [e2] at ab
  clear ac aa ae hb c1 e1 hr hl hs hB
  go_enter Tryz.func220,Tryz.ntmps220
  go_wp2
  refine bodyPost_ret (results_none rfl _ _ _) rfl ?_
  exact ⟨rfl,ab,(zR [g] w).setCell (.inl (by simp)) _⟩
 | pack x y ihx ihy =>
  intro b l w hl hs hb hE hr
  obtain ⟨gp,b1,b2,hP,ak,hB,hG,hx,hy⟩:=hE
  have c2:=hB.cell 2
  simp at c2
  have p0:=hG.cell 0
  have p1:=hG.cell 1
  simp at p0 p1
  obtain ⟨ai,af⟩:=hs
  have al:∀ s,l.getD s 0+x.occ s<=4096:=fun s=>by
   have:l.getD s 0+(x.occ s+y.occ s)<=4096:=hb s
   omega
  have aj:∀ s,(a5f x l).getD s 0+y.occ s<=4096:=fun s=>by
   have h9:l.getD s 0+(x.occ s+y.occ s)<=4096:=hb s
   by_cases h:s<l.length
   ·rw [d2o _ _ h];omega
   ·rw [zD,List.getElem?_eq_none (by rw [c4p];omega)]
    show 0+_<=_
    omega
  have i1:=fun w=>ihx b1 l w hl ai al
  have i2:=fun w=>ihy b2 (a5f x l) w ((c4p _ _).trans hl) af aj
  have ah:=d2p x y l
  rw [ah] at i2
  have I1:=hid i1
  have I2:=hid i2
  have HG:=hid hG
  have HX:=hid hx
  have HY:=hid hy
  generalize a5f x l=lx at *
  generalize a5f (.pack x y) l=ly at *
  clear i1 i2 ihx ihy hb al aj ai af ah hl hB hG hx hy
  go_enter Tryz.func220,Tryz.ntmps220
  go_wp2
  go_loopg [26] 2 (fun j iv wr=>∃ i:Nat,iv=.int .i64 i/\i+j=2/\Chg [g] w wr/\Hid (i=0/\Row wr 3 (.slice (some ⟨g,0,none⟩) n cap) g (l.map i64)\/i=1/\Row wr 3 (.slice (some ⟨g,0,none⟩) n cap) g (lx.map i64)\/i=2/\Row wr 3 (.slice (some ⟨g,0,none⟩) n cap) g (ly.map i64)))
  case atStart=>exact ⟨0,rfl,rfl,zR _ _,hid (.inl ⟨rfl,hr⟩)⟩
  case round =>
   clear hr
   obtain ⟨i,rfl,ap,ad,HR⟩:=hrel
   have ag:∀ x∈[g],¬ (x≠g):=by intro x hx;simp at hx;simp [hx]
   have q0:=(HG.out.chg ad (by simpa using fun h=>ak h)).cell 0
   have q1:=(HG.out.chg ad (by simpa using fun h=>ak h)).cell 1
   simp at q0 q1
   rcases HR.out with ⟨rfl,hr⟩ | ⟨rfl,hr⟩ | ⟨rfl,hr⟩
   ·obtain rfl:gk=2:=by omega
    have hc:=I1.out wr (HX.out.chg ad ag) hr
    clear HR hr
    go_wp2_with fail
    refine hc.mono ?_
    rintro e w2 ⟨rfl,k1,k2⟩
    go_wp2
    go_roundg 1
    case measure=>omega
    case rel=>exact ⟨1,rfl,rfl,ad.tq k2,hid (.inr (.inl ⟨rfl,k1⟩))⟩
   ·obtain rfl:gk=1:=by omega
    have hc:=I2.out wr (HY.out.chg ad ag) hr
    clear HR hr
    go_wp2_with fail
    refine hc.mono ?_
    rintro e w2 ⟨rfl,k1,k2⟩
    go_wp2
    go_roundg 0
    case measure=>omega
    case rel=>exact ⟨2,rfl,rfl,ad.tq k2,hid (.inr (.inr ⟨rfl,k1⟩))⟩
   ·obtain rfl:gk=0:=by omega
    go_wp2
    go_end0
    exact ⟨rfl,hr,ad⟩
theorem d9z {n:Nat}:∀ l:List El,(∀ e∈l,e.symsIn n)->∀ e∈a1o l,e.symsIn n:=by
 intro l
 induction l using a1o.induct with
 | case1 a b l il =>
  intro h e he
  rw [a1o] at he
  rcases zJ.1 he with rfl | he
  ·exact ⟨h a (by simp),h b (by simp)⟩
  ·exact il (fun e h1=>h e (by simp [h1])) e he
 | case2 l hl =>
  intro _ e he
  cases l with
  | nil=>simp [a1o] at he
  | cons a l =>
   cases l with
   | nil=>simp [a1o] at he
   | cons b l=>exact absurd rfl (hl a b l)
theorem Rows.syms {n:Nat} {C:List El} (hC:c6a n C) {j:Nat} {R:List El} (h:Rows C j R):∀ e∈R,e.symsIn n:=by
 have hc:∀ e∈C,e.symsIn n:=fun e he=>by
  obtain ⟨s,w,rfl,h1,_⟩:=hC.coin e he
  exact h1
 induction h with
 | one hp hs=>exact fun e he=>hc e (hp.mem_iff.1 he)
 | next h hp hs ih =>
  intro e he
  rcases zP.1 (hp.mem_iff.1 he) with h5 | h5
  ·exact hc e h5
  ·exact d9z _ ih e h5
theorem d3s (n:Nat) (S:List El) (t:El):a4i n (S++[t])=a5f t (a4i n S):=by
 apply List.ext_getElem
 ·simp [a4i,a5f]
 ·intro i h1 h2
  simp [a4i,a5f,a6f]
theorem d1g (s i:Nat) (S:List El):a6f s (S.take i)<=a6f s S:=by
 have e:=b4f s (S.take i) (S.drop i)
 rw [List.take_append_drop] at e
 omega
theorem e9c {n s:Nat} (hs:s<n) (hn:n<=1024):b3p ((List.replicate n 0).set s 1):=by
 have aa:∀ m∈(List.replicate n 0).set s 1,m<=1:=fun m hm=>by
  rcases List.mem_or_eq_of_mem_set hm with h | h
  ·have:=List.eq_of_mem_replicate h;omega
  ·omega
 refine ⟨by simp;omega,by simp;omega,fun m hm=>by have:=aa m hm;omega,.inl ⟨?_,aa⟩⟩
 unfold b2l
 rw [List.countP_set (by simpa using hs)]
 simp
theorem f1z {n s i:Nat} (hs:s<n) (hi:i<n):0<((List.replicate n 0).set s 1).getD i 0 ↔ i=s:=by
 rw [zD,List.getElem?_set]
 by_cases h:s=i
 ·subst h
  rw [if_pos rfl,if_pos (by simpa using hs)]
  simp
 ·rw [if_neg h,List.getElem?_replicate,if_pos hi]
  simp
  exact fun h2=>h h2.symm
structure d5d (freq lens:List Nat):Prop where
 len:lens.length=freq.length
 full:b3p lens
 used:∀ s,s<freq.length->(0<lens.getD s 0 ↔ 0<freq.getD s 0)
 le:∀ n∈lens,n<=12
theorem d6p {freq:List Nat} (h1:freq.length<=1024) {s f:Nat} (hc:a0v freq freq.length=[.coin s f]):s<freq.length/\d5d freq ((List.replicate freq.length 0).set s 1):=by
 have hm:El.coin s f∈a0v freq freq.length:=by rw [hc];simp
 obtain ⟨s',h2,h3,h4⟩:=a7z hm
 injection h4 with h4 h5
 subst h4
 refine ⟨h2,by simp,e9c h2 h1,fun i hi => ?_,fun m hm => ?_⟩
 ·rw [f1z h2 hi]
  have h6:=a9j freq i freq.length
  rw [hc] at h6
  have e:a0m i [El.coin s f]=if s=i then 1 else 0:=by
   unfold a0m
   rw [List.countP_cons]
   simp [El.isCoin]
  rw [e] at h6
  constructor
  ·intro h9;rw [h9];exact h3
  ·intro h7
   rw [if_pos (show i<freq.length/\0<freq.getD i 0 from ⟨hi,h7⟩)] at h6
   by_cases h8:s=i
   ·exact h8.symm
   ·rw [if_neg h8] at h6;omega
 ·rcases List.mem_or_eq_of_mem_set hm with h | h
  ·have:=List.eq_of_mem_replicate h;omega
  ·omega
theorem Row.zerosN (w:World) (n:Nat) (h:n<=1048576):Row (w.alloc (.cells (List.replicate n (Value.int .i64 0)).toArray 3)) 3 (.slice (some ⟨w.heap.size,0,none⟩) n n) w.heap.size ((List.replicate n 0).map i64):=by
 have:=Row.made w 3 (List.replicate n (Value.int .i64 0)) (by simp [maxLen];omega)
 rw [List.map_replicate]
 simpa [i64] using this
def b3q (w:World) (freq:List Nat) (e:Ending) (w':World):Prop :=
 ∃ v g,e=.returned (.tuple #[v,.int .i64 0])/\Row w' 3 v g ((a7d freq).map i64)/\d5d freq (a7d freq)/\Chg [] w w'/\w.heap.size<=g
theorem d9j (w:World) (freq:List Nat) (A:Option Addr) (cap:Nat) (h1:1<=freq.length) (h2:freq.length<=256) (hf:∀ f∈freq,f<=4096) (hpos:0<(a0v freq freq.length).length) (hc:a0d i64 w A freq) :
  Calls Tryz.prog 168 #[.slice A freq.length cap,.int .i64 12] w (b3q w freq):=by
 obtain ⟨n,hn⟩:=zX (freq.length)
 rw [<-hn] at h1 h2 hpos ⊢
 have cT:=a1p (P:=Tryz.prog) a0p rfl .i64 .i64 n (by omega) (by omega)
 have HN:=hid hn
 have HF:=hid hf
 have bB:=hid hpos
 clear hn hf hpos
 have t1:decide ((n:Int)<1)=false:=zA (by omega)
 have t2:decide ((1024:Int)<(n:Int))=false:=zA (by omega)
 go_enter Tryz.func168,Tryz.ntmps168
 go_wp2_with fail
 go_loopg [6,7,8,31] n (fun j v6 v7 v8 iv wr=>∃ (i:Nat) (E:List PE) (F6:List Nat),iv=.int .i64 i/\i+j=n/\Own wr 250 v6 F6 (E.map b9i)/\Hid (E.map (·.2)=a0v freq i)/\E.length<=i/\Els (fun x=>x∉F6) wr E/\(∀ x∈F6,w.heap.size<=x)/\Chg [] w wr)
 case atStart=>exact ⟨0,[],[],rfl,by omega,Own.nil _ _,hid rfl,by simp,by intro p hp;simp at hp,by simp,zR _ _⟩
 case round =>
  obtain ⟨i,E,F6,rfl,cU,af,HE,bb,al,aT,ao⟩:=hrel
  rcases gk with _ | j
  ·obtain rfl:i=n:=by omega
   have bP:E.length=(a0v freq i).length:=by rw [<-HE.out,zE]
   have hpos:=bB.out
   rw [<-bP] at hpos
   rcases af.cases with ⟨_,bf,_⟩ | ⟨gc,ac,rfl⟩
   ·exfalso
    have:=congrArg List.length bf
    rw [zE] at this
    simp at this
    rw [this] at hpos
    simp at hpos
   obtain ⟨aV,rfl,au,az,an,_⟩:=ac.oq
   have cP:w.heap.size<=gc:=aT gc (by simp)
   have ar:Els (·≠gc) wr E:=al.imp fun x _ h=>by simpa using h
   have a8:Hid (E.map (·.2)=a0v freq i):=HE
   obtain ⟨c,bF⟩:=zX (E.length)
   rw [<-bF] at au hpos bb ⊢
   have aY:=hid bF
   have aj:=hid ar
   have bg:=hid ac
   have a0:=hid an
   have cy:=ao.size
   have bx:=ac.lt
   have t6:((c:Int)==0)=false:=by rw [beq_eq_false_iff_ne];omega
   have t7:decide ((4096:Int)<(c:Int))=false:=zA (by omega)
   clear bP bF af al ar ac an aT
   by_cases hc1:c=1
   ·have t8:((c:Int)==1)=true:=by rw [beq_iff_eq];omega
    have cB:∃ b s f,E=[(b,El.coin s f)]/\a0v freq i=[.coin s f]:=by
     have h3:=aY.out
     obtain ⟨⟨b,t⟩,hb⟩:=List.length_eq_one_iff.1 (h3.symm.trans hc1)
     have h4:=a8.out
     rw [hb] at h4
     have hm:t∈a0v freq i:=by rw [<-h4];simp
     obtain ⟨s,_,_,rfl⟩:=a7z hm
     exact ⟨b,s,_,hb,h4.symm⟩
    obtain ⟨b,s,f,rfl,bk⟩:=cB
    have a6:=d6p (freq:=freq) (by rw [<-HN.out];omega) (by rw [<-HN.out];exact bk)
    rw [<-HN.out] at a6
    have bA:Hid (a0v freq freq.length=[.coin s f]):=hid (by rw [<-HN.out];exact bk)
    have c3:wr.cell? ⟨gc,0,none⟩=some (.pointer (some ⟨b,0,none⟩)):=a0.out 0 _ rfl
    have aC:=aj.out (b,.coin s f) (by simp)
    have c6:b<wr.heap.size:=aC.2.lt
    have cw:wr.cell? ⟨b,1,none⟩=some (.int .i64 s):=by
     have:=aC.2.cell 1
     simpa using this
    have aG:=Row.zerosN wr i (by omega)
    have cH:=hid a6
    have bJ:=a6.1
    have cX:(0:Int)<=(s:Int):=by omega
    have ce:(s:Int)<(i:Int):=by omega
    have aA:=aG.set_ (i:=s) (by simpa using bJ) (i64 1)
    rw [<-List.map_set] at aA
    have cp:=hid aA
    obtain ⟨cr,cf,_,_,b5,b1⟩:=aG.oq
    clear cf
    have cj:=b5 s 0 (by rw [List.getElem?_replicate,if_pos bJ])
    have cq:=b1 s
    have cY:gc≠wr.heap.size:=by omega
    have c4:b≠wr.heap.size:=by omega
    subst hc1
    clear a6 aA aG b5 b1 aC bk
    go_wp2_with fail
    go_ret2
    have e:(Array.replicate i (Value.int .i64 0)).setIfInBounds s (.int .i64 1)=(((List.replicate i 0).set s 1).map i64).toArray:=by
     rw [List.map_set,List.map_replicate]
     show ((List.replicate i (Value.int .i64 0)).toArray).setIfInBounds s (.int .i64 1)=_
     rw [List.setIfInBounds_toArray]
     rfl
    have am:=Row.made wr 3 (((List.replicate i 0).set s 1).map i64) (by simp [maxLen];omega)
    rw [<-e] at am
    have bE:(((List.replicate i 0).set s 1).map i64).length=i:=by simp
    rw [bE] at am
    have aI:=c5j bA.out
    rw [<-HN.out] at aI
    unfold b3q
    rw [aI]
    exact ⟨_,wr.heap.size,rfl,am,cH.out.2,ao.alloc _,cy⟩
   ·have t8:((c:Int)==1)=false:=by rw [beq_eq_false_iff_ne];omega
    have cn:=b3u freq i
    have bu:=fun w2 (hc2:Chg [] wr w2)=>d6z w2 _ gc E (by rw [<-aY.out];omega) (by rw [<-aY.out];omega) (bg.out.chg hc2 (by simp)) (aj.out.same hc2)
    rw [<-aY.out] at bu
    obtain ⟨gl,bn⟩:=zX (wr.heap.size)
    obtain ⟨w1,a3⟩:=zX (wr.alloc (.cells (Array.replicate i (Value.int .i64 0)) 3))
    have aG:Row w1 3 (.slice (some ⟨gl,0,none⟩) i i) gl ((List.replicate i 0).map i64):=by
     rw [a3,bn]
     exact Row.zerosN wr i (by omega)
    have ak:Chg [] wr w1:=by rw [a3];exact (zR [] wr).alloc _
    have aM:=bu w1 ak
    have cA:Els (fun x=>x≠gl) w1 E:=fun p hp=>((aj.out p hp).imp (Q:=fun x=>x≠gl/\x≠gc) fun x hx h=>⟨by omega,h⟩).same ak |>.imp fun _ _ h=>h.1
    have a1:Els (fun x=>x≠gl/\x≠gc) w1 E:=fun p hp=>((aj.out p hp).imp (Q:=fun x=>x≠gl/\x≠gc) fun x hx h=>⟨by omega,h⟩).same ak
    have cM:=hid a3
    have cN:=hid bn
    have bp:=hid a1
    have cO:=hid aG
    clear bu cA a1 aG a3
    have aq:gc≠gl:=by omega
    have aR:w.heap.size<=gl:=by omega
    have bD:=hid (ao.tq ak)
    clear bn ak
    go_wp2_with fail
    rw [<-cM.out,<-cN.out]
    refine aM.mono ?_
    rintro e w2 ⟨rfl,k3,k4⟩
    have k1:=c5v (fun p:PE=>p.2) E (E.headD default)
    have k0:=d1w (fun p:PE=>p.2) E (E.headD default)
    obtain ⟨E',bX⟩:=zX (c8m (fun p:PE=>p.2) E (E.headD default))
    rw [<-bX] at k0 k1 k3
    rw [a8.out] at k0
    clear bX
    have aB:E'.length=c:=by rw [k1.length_eq];exact aY.out.symm
    have ag:=a9k freq
    obtain ⟨C,hC⟩:=zX (a0v freq i)
    rw [<-HN.out,<-hC] at ag
    have aD:(E'.map (·.2)).Perm C:=by rw [hC,<-a8.out];exact k1.map _
    have bT:E'.map (·.2)=e0i C 0:=by rw [hC];exact k0
    have aK:Els (fun x=>x≠gl) w2 E':=fun p hp=>((bp.out p (k1.mem_iff.1 hp)).chg k4 (fun x hx=>by rw [zU.1 hx];simp)).imp fun _ _ h=>h.1
    have bQ:a0d b9i w2 (some ⟨gc,0,none⟩) E':=by
     have cI:=k3
     have:=cI.toOwn
     exact Own.cells this
    have aE:=cO.out.chg k4 (by simpa using fun h=>aq h.symm)
    have aS:Chg [] w w2:=bD.out.trans k4 (fun x hx=>by rw [zU.1 hx];exact .inr cP)
    have bY:C.length=c:=by rw [<-aD.length_eq,zE,aB]
    have aX:∀ e∈C,e.wt<=4096:=fun e he=>by
     rw [hC] at he
     obtain ⟨s,hs,_,rfl⟩:=a7z he
     show freq.getD s 0<=4096
     rw [zD]
     cases hx:freq[s]? with
     | none=>exact Nat.zero_le _
     | some x=>exact HF.out x (List.mem_of_getElem? hx)
    have b2:=hid ag
    have HC:=hid hC
    have cW:=hid aD
    have aO:=hid aB
    have av:=hid bY
    have cC:=hid aX
    have b9:=hid bQ
    have cc:=hid aK
    have aU:=hid aE.lt
    have bC:=hid aE
    have cD:Hid (E'.map (·.2)=c4h C):=hid (by rw [hC];exact k0)
    clear k0 k1 k3 k4 aM ag hC aD aB bY aX aK bQ aE ao hc bx
    have bW:=aS.size
    go_wp2_with fail
    go_loopg [10,80] 11 (fun j v10 iv wk=>∃ (q:Nat) (R:List PE) (AR:Option Addr) (cR:Nat),v10=.slice AR R.length cR/\iv=.int .i64 q/\q+j=11/\Hid (a0d b9i wk AR R)/\Hid (Els (fun x=>x≠gl) wk R)/\Hid (R.map (·.2)=e0i C q)/\R.length<=cR/\cR<=9223372036854775807/\Hid (Apt AR R [gl])/\Chg [] w2 wk)
    case atStart=>exact ⟨0,E',some ⟨gc,0,none⟩,aV,by rw [aO.out],rfl,rfl,b9,cc,hid bT,by rw [aO.out];exact au,az,hid (fun _ ad e hm=>by injection e with e;subst e;simp at hm;exact aq hm),zR _ _⟩
    case round =>
     clear bT
     obtain ⟨wk,rfl⟩:=zX (wr)
     obtain ⟨q,R,AR,cR,rfl,rfl,cZ,bU,bI,bq,ch,cl,ci,ae⟩:=hrel
     have ba:Rows C (q+1) (R.map (·.2)):=by rw [bq.out];exact b7j C q
     have aa:=Rows.length b2.out (by rw [av.out];omega) ba
     have aw:=hid ba
     clear ba
     have cL:R.length<=2*c:=by
      rw [zE,av.out] at aa
      generalize (c-1) / 2^(q+1-1)=z at aa
      omega
     obtain ⟨m,hm⟩:=zX (R.length)
     rw [<-hm] at ch cL ⊢
     have HM:=hid hm
     have a2:=hid aa
     clear hm aa
     rcases gk with _ | j
     ·obtain rfl:q=11:=by omega
      have aa:=a2.out
      have cb:=HM.out
      have ai:=b8c (freq:=freq) (by rw [<-HN.out];omega) (by rw [<-HN.out,<-HC.out,av.out];omega) (R:=R.map (·.2)) (by rw [<-HN.out,<-HC.out];exact aw.out)
      rw [<-HN.out,<-HC.out,av.out] at ai
      have ap:=Rows.syms b2.out aw.out
      have ct:2*c-2<=m:=by
       rw [zE,av.out,<-cb] at aa
       have:(c-1) / 2^(11+1-1)=0:=Nat.div_eq_of_lt (by omega)
       omega
      obtain ⟨k,hk⟩:=zX (2*c-2)
      rw [<-hk] at ai ct
      have cV:(2:Int)*(c:Int)-2=(k:Int):=by omega
      have c0:(0:Int)<=(k:Int):=by omega
      have cS:(k:Int)<=(cR:Int):=by omega
      have aH:=bC.out.chg ae (by simp)
      have b0:=hid ai
      have cu:=hid ap
      have b6:=bU.out
      obtain ⟨gR,oR,rfl,cJ,bZ⟩:=b6.ex (by omega)
      have bl:gR≠gl:=fun e=>ci.out (by omega) _ rfl (by simp [e])
      have cG:=hid bZ
      have HK:=hid hk
      clear ai ap aa cb b6 bZ hk
      go_wp2_with fail
      go_loopg [93] k (fun j iv wz=>∃ (t:Nat),iv=.int .i64 t/\t+j=k/\Row wz 3 (.slice (some ⟨gl,0,none⟩) i i) gl ((a4i i ((R.map (·.2)).take t)).map i64)/\Chg [gl] wk wz)
      case atStart=>exact ⟨0,rfl,by omega,by rw [List.take_zero,d9k];exact aH,zR _ _⟩
      case round =>
       clear aH
       obtain ⟨t,rfl,c5,ac,a5⟩:=hrel
       rcases gk with _ | j
       ·obtain rfl:t=k:=by omega
        have bv:Chg [] w wr:=(aS.tq ae).trans a5 (fun x hx=>by rw [zU.1 hx];exact .inr aR)
        have aZ:d5d freq (a4i i ((R.map (·.2)).take t)):=by
         obtain ⟨f1,f2,f3⟩:=b0.out
         refine ⟨by rw [a7m];exact HN.out,f1,fun s hs=>f2 s (by rw [HN.out];exact hs),fun n hn => ?_⟩
         obtain ⟨s,_,rfl⟩:=List.mem_map.1 hn
         exact f3 s
        have co:=hid aZ
        clear aZ
        go_wp2
        go_ret2
        have aI:=c1k (freq:=freq) (by rw [<-HN.out,<-HC.out,av.out];omega)
        rw [<-HN.out,<-HC.out,<-bq.out,av.out,<-HK.out] at aI
        unfold b3q
        rw [aI]
        exact ⟨_,gl,rfl,ac,co.out,bv,aR⟩
       ·have a7:t<R.length:=by rw [<-HM.out];omega
        have bh:t+1<=k:=by omega
        have bL:=(bI.out R[t] (zG _)).chg a5 (fun x hx=>by rw [zU.1 hx];simp)
        have bR:=(World.cell?_of_block (w:=wk) (a5.block gR cJ (by simpa using bl))).trans (cG.out t _ (zF a7))
        have b3:t<(R.map (·.2)).length:=by rw [zE];exact a7
        have bG:(R.map (·.2)).take (t+1)=(R.map (·.2)).take t++[R[t].2]:=by
         rw [a0o _ b3];simp
        have bi:=d3s i ((R.map (·.2)).take t) R[t].2
        rw [<-bG] at bi
        have bK:=cu.out R[t].2 (List.mem_map_of_mem (zG a7))
        have aP:∀ s,(a4i i ((R.map (·.2)).take t)).getD s 0+R[t].2.occ s<=4096:=by
         intro s
         have e1:a6f s ((R.map (·.2)).take (t+1))=a6f s ((R.map (·.2)).take t)+R[t].2.occ s:=by
          rw [bG,b4f];simp [a6f]
         have e2:a6f s ((R.map (·.2)).take (t+1))<=12:=by
          have e3:(R.map (·.2)).take (t+1)=((R.map (·.2)).take k).take (t+1):=by rw [List.take_take,Nat.min_eq_left bh]
          rw [e3]
          exact Nat.le_trans (d1g _ _ _) (b0.out.2.2 s)
         by_cases hs:s<i
         ·rw [c1l _ hs];omega
         ·rw [zD,List.getElem?_eq_none (by rw [a7m];omega)]
          show 0+_<=_
          omega
        have be:=e7a gl i i R[t].2 R[t].1 (a4i i ((R.map (·.2)).take t)) wr (a7m _ _) bK aP bL ac
        rw [<-bi] at be
        obtain ⟨pb,bd⟩:=zX (R[t].1)
        have cv:wr.cell? ⟨gR,oR+t,none⟩=some (.pointer (some ⟨pb,0,none⟩)):=by rw [bd];exact bR
        rw [<-bd] at be
        have cz:(0:Int)<=(t:Int):=by omega
        have ck:(t:Int)<(k:Int):=by omega
        clear aP bK bi bG b3 bR bL a7 bd ac
        go_wp2_with fail
        refine be.mono ?_
        rintro e w4 ⟨rfl,r1,r2⟩
        go_wp2_with fail
        go_roundg j
        case measure=>omega
        case rel=>exact ⟨t+1,by go_num,by omega,r1,a5.tq r2⟩
     ·have bO:=Rows.wt_le cC.out aw.out
      have aW:2^(q+1)<=4096:=Nat.le_trans (Nat.pow_le_pow_right (n:=2) (by decide) (show q+1<=12 by omega)) (by decide)
      have ca:=f1w (fun x=>x≠gl) wk (fun x hx=>by have:=ae.size;have:=aU.out;omega) (some ⟨gc,0,none⟩) AR aV cR E' R (by rw [aO.out];omega) (by rw [aO.out];omega) (by rw [<-HM.out];omega)
       (b9.out.same ae) bU.out (cc.out.same ae) bI.out (fun p hp=>by
        have:=bO p.2 (List.mem_map_of_mem hp)
        have:=Nat.mul_le_mul_left 4096 aW
        omega)
      rw [aO.out,<-HM.out] at ca
      clear bO aW
      go_wp2_with fail
      refine ca.mono ?_
      rintro e w3 ⟨v3,g3,E3,rfl,r1,r2,r4,r5,r6⟩
      obtain ⟨bm,rfl,cg,a9,_,_⟩:=r1.oq
      have r1:=hid r1
      have r2:=hid r2
      have r4:=hid r4
      go_wp2_with fail
      go_roundg j
      case measure=>omega
      case rel =>
       refine ⟨q+1,E3,some ⟨g3,0,none⟩,bm,rfl,by go_num,by omega,hid (Own.cells r1.out.toOwn),r4,hid ?_,cg,a9,hid (fun _ ad e hm=>by
        injection e with e
        subst e
        simp at hm
        have:=ae.size
        have:=aU.out
        omega),ae.tq r5⟩
       rw [r2.out,cD.out,bq.out]
       rfl
  ·have cs:i<n:=by omega
   have a4:i<freq.length:=by rw [<-HN.out];exact cs
   obtain ⟨g,o,rfl,ah⟩:=(hc.same ao).at_ a4
   have b4:=HF.out freq[i] (zG a4)
   have b7:freq[i]=freq.getD i 0:=by rw [zD,zF a4];rfl
   rw [b7] at ah b4
   have ab:=b7z freq i
   obtain ⟨f,bV⟩:=zX (freq.getD i 0)
   rw [<-bV] at ah b4 ab
   have bc:wr.cell? ⟨g,o+i,none⟩=some (.int .i64 f):=ah
   have cz:(0:Int)<=(i:Int):=by omega
   have ck:(i:Int)<(n:Int):=by omega
   have t3:decide ((f:Int)<0)=false:=zA (by omega)
   have t4:decide ((1099511627776:Int)<(f:Int))=false:=zA (by omega)
   obtain ⟨A6,cE,rfl,aN,bj,_⟩:=af.oq
   clear ah bV b7 a4
   by_cases hf0:0<f
   ·rw [if_pos hf0] at ab
    have bs:=hid ab
    have t5:decide ((0:Int)<(f:Int))=true:=zB (by omega)
    clear ab
    have aj:=hid al
    have bN:=hid aT
    have bo:=hid af.lt
    have bz:=hid bb
    obtain ⟨m,hm⟩:=zX (E.length)
    have HM:=hid hm
    rw [<-hm] at aN af bb ⊢
    clear al aT hm
    obtain ⟨wx,aF⟩:=zX ((wr.alloc (.cells #[.int .i64 f,.int .i64 i,.slice none 0 0] 252)).alloc (.cells #[.pointer (some ⟨wr.heap.size,0,none⟩)] 250))
    have ax:Chg [] wr wx:=by rw [aF];exact (((zR [] wr).alloc _).alloc _)
    have br:=af.same ax
    have cF:wx.cell? ⟨wr.heap.size+1,0,none⟩=some (.pointer (some ⟨wr.heap.size,0,none⟩)):=by
     rw [aF]
     have:=(Blk.new (wr.alloc (.cells #[.int .i64 f,.int .i64 i,.slice none 0 0] 252)) 250 #[.pointer (some ⟨wr.heap.size,0,none⟩)]).cell 0
     simp
    have bH:Blk wx wr.heap.size 252 #[.int .i64 f,.int .i64 i,.slice none 0 0]:=by
     rw [aF]
     exact (Blk.new wr _ _).alloc _
    have ay:wx.heap.size=wr.heap.size+2:=by rw [aF];simp
    have cd:(E.map b9i).length=m:=by rw [zE];exact HM.out.symm
    have HX:=hid aF
    have cQ:=hid bH
    have aL:=hid ay
    have bM:=hid cd
    clear aF bH ay cd
    go_wp2_with (at_builtin;rw [<-HX.out];refine a0f rfl rfl c7t rfl rfl br (.pointer (some ⟨wr.heap.size,0,none⟩)) rfl cF rfl ?c1 ?c2 ?_)
    case c1=>rw [bM.out];omega
    case c2=>rw [bM.out];omega
    intro g2 cx w5 cK aJ
    go_wp2_with fail
    go_roundg j
    case measure=>omega
    case rel =>
     have bw:Chg [] w w5:=(ao.tq ax).trans aJ.chg (fun x hx => .inr (bN.out x hx))
     have cm:w.heap.size<=g2:=by
      rcases aJ.new g2 (by simp) with h5 | h5
      ·exact bN.out _ h5
      ·have:=ao.size;have:=aL.out;omega
     have aQ:∀ x,x<wx.heap.size->x∉F6->x≠g2:=fun x hx hn e=>by
      rcases aJ.new g2 (by simp) with h5 | h5
      ·exact hn (e ▸ h5)
      ·omega
     have ay:=aL.out
     have bS:wr.heap.size∉F6:=fun h=>by have:=bo.out _ h;omega
     refine ⟨i+1,E++[(wr.heap.size,.coin i f)],[g2],by go_num,by omega,?_,hid ?_,?_,?_,?_,bw⟩
     ·have e:(E++[(wr.heap.size,El.coin i f)]).map b9i=E.map b9i++[.pointer (some ⟨wr.heap.size,0,none⟩)]:=by rw [zM];rfl
      rw [e]
      exact cK.toOwn
     ·rw [zM,HE.out,bs.out];rfl
     ·rw [zC,List.length_singleton];have:=bz.out;omega
     ·intro p hp
      rcases zP.1 hp with h5 | h5
      ·have h6:=((aj.out p h5).same ax).imp (Q:=fun x=>x∉F6/\x≠g2) fun x hx h7=>⟨h7,aQ x hx h7⟩
       exact (h6.chg aJ.chg (fun x hx h=>h.1 hx)).imp fun x _ h=>by simpa using h.2
      ·rw [zU.1 h5]
       exact ⟨by simpa using aQ _ (by omega) bS,cQ.out.chg aJ.chg bS⟩
     ·intro x hx
      rw [zU.1 hx]
      exact cm
   ·obtain rfl:f=0:=by omega
    rw [if_neg hf0,List.append_nil] at ab
    have bs:=hid ab
    clear ab
    go_wp2_with fail
    go_roundg j
    case measure=>omega
    case rel=>exact ⟨i+1,E,F6,by go_num,by omega,af,hid (by rw [bs.out];exact HE.out),by omega,al,aT,ao⟩
def b3k (l:List Nat):Nat:=l.foldl max 0
theorem e3q (l:List Nat) (x:Nat):b3k (l++[x])=max (b3k l) x:=by simp [b3k]
theorem f1s {l:List Nat} {m:Nat} (h:∀ n∈l,n<=m):b3k l<=m:=by
 have aa:∀ (l:List Nat) (a:Nat),a<=m->(∀ n∈l,n<=m)->l.foldl max a<=m:=by
  intro l
  induction l with
  | nil=>intro a ha _;exact ha
  | cons x l ih =>
   intro a ha h
   exact ih _ (by have:=h x (by simp);omega) fun n hn=>h n (by simp [hn])
 exact aa l 0 (Nat.zero_le _) h
theorem c1n {l:List Nat} {x:Nat} (h:x∈l):x<=b3k l:=by
 have aa:∀ (l:List Nat) (a:Nat),a<=l.foldl max a/\∀ x∈l,x<=l.foldl max a:=by
  intro l
  induction l with
  | nil=>intro a;exact ⟨zQ _,by simp⟩
  | cons y l ih =>
   intro a
   obtain ⟨h1,h2⟩:=ih (max a y)
   refine ⟨Nat.le_trans (Nat.le_max_left _ _) h1,fun x hx => ?_⟩
   rcases zJ.1 hx with rfl | hx
   ·exact Nat.le_trans (Nat.le_max_right _ _) h1
   ·exact h2 x hx
 exact (aa l 0).2 x h
theorem e0t (l:List Nat) (x:Nat):b2l (l++[x])=b2l l+if 0<x then 1 else 0:=by
 unfold b2l
 rw [List.countP_append,List.countP_cons]
 simp
theorem d9d (l:List Nat) (x:Nat):a9t (l++[x])=a9t l+if x=0 then 0 else 2^(24-x):=by simp [a9t]
theorem d9e (l:List Nat) (i:Nat):a9t (l.take i)<=a9t l:=by
 have e:a9t l=a9t (l.take i)+a9t (l.drop i):=by
  conv=>lhs;rw [<-List.take_append_drop i l]
  unfold a9t
  rw [zM,List.sum_append]
 omega
theorem f1t {lens:List Nat} (h1:b2l lens=1) (h2:∀ n∈lens,n<=1):b3k lens=1:=by
 have h3:=f1s h2
 have h4:0<b2l lens:=by omega
 obtain ⟨x,hx,hp⟩:=List.countP_pos_iff.1 h4
 have h5:=c1n hx
 have h6:0<x:=of_decide_eq_true hp
 omega
theorem d1d {w:World} {A:Option Addr} {l:List Nat} (h:a0d i64 w A l) {i:Nat} (hi:i<l.length):∃ g o,A=some ⟨g,o,none⟩/\w.cell? ⟨g,o+i,none⟩=some (.int .i64 (l[i]:Nat)):=by
 obtain ⟨g,o,e,c⟩:=h.at_ hi
 exact ⟨g,o,e,c⟩
theorem d5x (lens:List Nat) (A:Option Addr) (cap:Nat) (w:World) (hf:b3p lens) (hc:a0d i64 w A lens) :
  Calls Tryz.prog 221 #[.slice A lens.length cap] w fun e w'=>e=.returned (.bool true)/\w=w':=by
 have hk:=d6l hf
 have au:=hf.n1
 have az:=hf.n2
 have ae:(b2l lens=1/\b3k lens=1)\/(b2l lens≠1/\a9t lens=16777216):=by
  rcases hf.full with ⟨h1,h2⟩ | ⟨h1,h2⟩
  ·exact .inl ⟨h1,f1t h1 h2⟩
  ·exact .inr ⟨h1,h2⟩
 have ao:=hf.le
 obtain ⟨n,hn⟩:=zX (lens.length)
 rw [<-hn] at au az ⊢
 have HN:=hid hn
 have am:=hid ae
 have ay:=hid ao
 have HK:=hid hk
 clear hn ae ao hf hk
 have t1:decide ((n:Int)<1)=false:=zA (by omega)
 have t2:decide ((1024:Int)<(n:Int))=false:=zA (by omega)
 go_enter Tryz.func221,Tryz.ntmps221
 go_wp2_with fail
 go_loopg [3,4,5,18] n (fun j vu vl vs iv wr=>∃ (i u m s:Nat),iv=.int .i64 i/\vu=.int .i64 u/\vl=.int .i64 m/\vs=.int .i64 s/\i+j=n/\Hid (u=b2l (lens.take i))/\Hid (m=b3k (lens.take i))/\Hid (s=a9t (lens.take i))/\u<=i/\m<=24/\s<=16777216/\w=wr)
 case atStart=>exact ⟨0,0,0,0,rfl,rfl,rfl,rfl,by omega,hid rfl,hid rfl,hid rfl,by omega,by omega,by omega,rfl⟩
 case round =>
  obtain ⟨i,u,m,s,rfl,rfl,rfl,rfl,aD,HU,HM,HS,hu,hm,hs,rfl⟩:=hrel
  rcases gk with _ | j
  ·obtain rfl:i=n:=by omega
   have ad:lens.take i=lens:=by rw [HN.out,zN]
   rcases am.out with ⟨h1,h2⟩ | ⟨h1,h2⟩
   ·have e1:u=1:=by rw [HU.out,ad];exact h1
    have e2:m=1:=by rw [HM.out,ad];exact h2
    subst e1
    subst e2
    clear h1 h2 ad
    go_wp2
    go_ret
    exact ⟨rfl,rfl⟩
   ·have e1:u≠1:=by rw [HU.out,ad];exact h1
    have e2:s=16777216:=by rw [HS.out,ad];exact h2
    have t3:((u:Int)==1)=false:=by rw [beq_eq_false_iff_ne];omega
    subst e2
    clear h1 h2 ad e1
    go_wp2
    go_ret
    exact ⟨rfl,rfl⟩
  ·have av:i<n:=by omega
   have ah:i<lens.length:=by rw [<-HN.out];exact av
   obtain ⟨g,o,rfl,af⟩:=d1d hc ah
   have ai:=ay.out lens[i] (zG ah)
   have ar:=a0o lens ah
   have ac:=e0t (lens.take i) lens[i]
   have ab:=e3q (lens.take i) lens[i]
   have aa:=d9d (lens.take i) lens[i]
   have aq:=d9e lens (i+1)
   rw [<-ar] at ac ab aa
   rw [<-HU.out] at ac
   rw [<-HM.out] at ab
   rw [<-HS.out] at aa
   obtain ⟨x,hx⟩:=zX (lens[i])
   rw [<-hx] at af ai ac ab aa
   have aG:(0:Int)<=(i:Int):=by omega
   have aF:(i:Int)<(n:Int):=by omega
   have t3:decide ((x:Int)<0)=false:=zA (by omega)
   have t4:decide ((24:Int)<(x:Int))=false:=zA (by omega)
   clear ar hx ah
   by_cases hx0:0<x
   ·have t5:decide ((0:Int)<(x:Int))=true:=zB (by omega)
    rw [if_pos hx0] at ac
    rw [if_neg (by omega)] at aa
    obtain ⟨m2,ag⟩:=zX (max m x)
    have aw:max (m:Int) (x:Int)=(m2:Int):=by rw [ag];omega
    have aC:(if (m:Int)<(x:Int) then (x:Int) else (m:Int))=(m2:Int):=by rw [ag];split<;>omega
    obtain ⟨y,hy⟩:=zX (24-x)
    have aE:(24:Int)-(x:Int)=(y:Int):=by omega
    rw [<-hy] at aa
    rw [<-ag] at ab
    have hp:(2:Nat)^y<=16777216:=Nat.le_trans (Nat.pow_le_pow_right (n:=2) (by decide) (show y<=24 by omega)) (by decide)
    obtain ⟨P,hP⟩:=zX (2^y)
    have aB:(2:Int)^y=(P:Int):=by rw [hP];simp
    rw [<-hP] at aa hp
    have ax:s+P<=16777216:=by have:=HK.out;omega
    have aA:y<=24:=by omega
    have an:=hid ac
    have al:=hid ab
    have ak:=hid aa
    have aj:m2<=24:=by omega
    clear ac ab aa aq ag hP hy
    go_wp2_with fail
    go_roundg j
    case measure=>omega
    case rel=>exact ⟨i+1,u+1,m2,s+P,by go_num,by go_num,rfl,by go_num,by omega,hid an.out.symm,hid al.out.symm,hid ak.out.symm,by omega,aj,ax,rfl⟩
   ·obtain rfl:x=0:=by omega
    rw [if_neg hx0] at ac
    rw [if_pos rfl] at aa
    have ap:max m 0=m:=by omega
    rw [ap] at ab
    have an:=hid ac
    have al:=hid ab
    have ak:=hid aa
    clear ac ab aa aq ap
    go_wp2_with fail
    go_roundg j
    case measure=>omega
    case rel=>exact ⟨i+1,u,m,s,by go_num,rfl,rfl,rfl,by omega,hid an.out.symm,hid al.out.symm,hid ak.out.symm,by omega,hm,hs,rfl⟩
theorem d1p (lens:List Nat) (A:Option Addr) (cap:Nat) (w:World) (hl:lens.length<=1024) (hc:a0d i64 w A lens) :
  Calls Tryz.prog 257 #[.slice A lens.length cap] w fun e w'=>∃ v F,e=.returned v/\Own w' 3 v F ((a0q lens).map i64)/\Chg [] w w'/\∀ x∈F,w.heap.size<=x:=by
 obtain ⟨n,hn⟩:=zX (lens.length)
 rw [<-hn] at hl ⊢
 have HN:=hid hn
 clear hn
 go_enter Tryz.func257,Tryz.ntmps257
 go_wp2_with fail
 go_loopg [3,4,5,6] 24 (fun j vo vn v5 v6 wr=>∃ (m:Nat) (F:List Nat),vn=.int .i64 (m+1:Nat)/\m+j=24/\Own wr 3 vo F ((a1s lens m).map i64)/\(∀ x∈F,w.heap.size<=x)/\Chg [] w wr)
 case atStart=>exact ⟨0,[],rfl,rfl,Own.nil _ _,by simp,zR _ _⟩
 case round =>
  obtain ⟨m,F,rfl,az,aa,hF,ab⟩:=hrel
  rcases gk with _ | ko
  ·obtain rfl:m=24:=by omega
   go_wp2
   obtain ⟨Ar,cr,rfl,_⟩:=aa.oq
   go_ret
   exact ⟨_,rfl,F,aa,ab,hF⟩
  ·obtain ⟨q,hq⟩:=zX (m+1)
   rw [<-hq]
   have t1:decide ((q:Int)<=24)=true:=zB (by omega)
   have HQ:=hid hq
   have av:q<=24:=by omega
   have ag:=a6d lens m
   rw [<-hq,<-HN.out] at ag
   have an:=hid ag
   have aw:=b9n lens m
   rw [<-HN.out] at aw
   clear hq ag
   go_wp2_with fail
   go_loopg [3,5,6,13] n (fun j vo v5 v6 iv wr=>∃ (i:Nat) (F:List Nat),iv=.int .i64 i/\i+j=n/\Own wr 3 vo F ((a1s lens m++a0w lens q i).map i64)/\(a0w lens q i).length<=i/\(∀ x∈F,w.heap.size<=x)/\Chg [] w wr)
   case atStart=>exact ⟨0,F,rfl,by omega,by simpa [a0w] using aa,by simp [a0w],hF,ab⟩
   case round =>
    clear aa hF ab
    obtain ⟨i,F,rfl,aB,aa,ay,hF,ab⟩:=hrel
    obtain ⟨Ar,cr,rfl,au,aq,_⟩:=aa.oq
    rcases gk with _ | j
    ·obtain rfl:i=n:=by omega
     rw [<-an.out] at aa
     have aj:(a1s lens m++a0w lens q i).length=(a1s lens q).length:=by rw [an.out]
     rw [aj]
     go_wp2_with fail
     go_roundg ko
     case measure=>omega
     case rel =>
      refine ⟨q,F,by go_num,by have:=HQ.out;omega,aa,hF,ab⟩
    ·have ar:i<n:=by omega
     have ai:i<lens.length:=by rw [<-HN.out];exact ar
     obtain ⟨g,o,rfl,ae⟩:=d1d (hc.same ab) ai
     have ac:=c9m lens q i
     have al:a0g lens i=lens[i]:=by simp [a0g,zD,ai]
     rw [al] at ac
     obtain ⟨x,hx⟩:=zX (lens[i])
     rw [<-hx] at ae ac
     have aD:(0:Int)<=(i:Int):=by omega
     have aC:(i:Int)<(n:Int):=by omega
     clear al hx ai
     by_cases hxq:x=q
     ·subst hxq
      rw [if_pos rfl] at ac
      have ad:=hid ac
      obtain ⟨r,hr⟩:=zX ((a1s lens m++a0w lens x i).length)
      have aA:r<=2048:=by rw [hr,zC];omega
      have ak:((a1s lens m++a0w lens x i).map i64).length=r:=by rw [zE];exact hr.symm
      rw [<-hr] at aa ⊢
      have af:=aa.alloc (.cells #[.int .i64 i] 3)
      have hu:(wr.alloc (.cells #[.int .i64 i] 3)).cell? ⟨wr.heap.size,0,none⟩=some (.int .i64 i):=by simp
      have ao:=hid ak
      have HF:=hid hF
      have ah:Hid (Chg [] w (wr.alloc (.cells #[.int .i64 i] 3))):=hid (ab.alloc _)
      clear ac hr ak hF
      go_wp2_with (at_builtin;refine a0f rfl rfl a0p rfl rfl af (.int .i64 i) rfl hu rfl ?c1 ?c2 ?_)
      case c1=>rw [ao.out];omega
      case c2=>rw [ao.out];omega
      intro g2 ax w5 ap am
      go_wp2_with fail
      go_roundg j
      case measure=>omega
      case rel =>
       refine ⟨i+1,[g2],by go_num,by omega,?_,?_,?_,ah.out.trans am.chg (fun x hx => .inr (HF.out x hx))⟩
       ·have e:(a1s lens m++a0w lens x (i+1)).map i64=(a1s lens m++a0w lens x i).map i64++[.int .i64 i]:=by
         rw [ad.out,<-zH,zM];rfl
        have e2:(List.map i64 (a1s lens m++a0w lens x i)).length+1=(a1s lens m).length+(a0w lens x i).length+1:=by simp
        rw [e]
        simp only [zM,zH] at ap ⊢
        exact ap.toOwn
       ·rw [ad.out,zC,List.length_singleton];omega
       ·intro y hy
        rw [zU.1 hy]
        rcases am.new g2 (by simp) with h5 | h5
        ·exact HF.out _ h5
        ·have:=ab.size
         have e:(wr.alloc (.cells #[.int .i64 i] 3)).heap.size=wr.heap.size+1:=by simp
         omega
     ·have t2:((x:Int)==(q:Int))=false:=by rw [beq_eq_false_iff_ne];omega
      rw [if_neg hxq,List.append_nil] at ac
      have ad:=hid ac
      clear ac
      go_wp2_with fail
      go_roundg j
      case measure=>omega
      case rel=>exact ⟨i+1,F,by go_num,by omega,by rw [ad.out];exact aa,by rw [ad.out];omega,hF,ab⟩
def f3b (x:Nat):Value:=.int .u64 x
theorem f0g:b6m Tryz.prog 256 37 (.int .u64 0) 1 8:=.mk' Tryz.underlying256 (by kernel_rfl)
theorem d5j (lens:List Nat) (A:Option Addr) (cap:Nat) (w:World) (hf:b3p lens) (hc:a0d i64 w A lens) :
  Calls Tryz.prog 222 #[.slice A lens.length cap] w fun e w'=>∃ v g,e=.returned (.tuple #[v,.int .i64 0])/\Row w' 37 v g ((b0d lens).map f3b)/\Chg [] w w'/\w.heap.size<=g:=by
 have aB:=d5x lens A cap w hf hc
 have aY:=hf.n1
 have aS:=hf.n2
 have aI:=fun w hc=>d1p lens A cap w aS hc
 have aE:=b9n lens 24
 obtain ⟨n,hn⟩:=zX (lens.length)
 have be:=a1p (P:=Tryz.prog) f0g rfl .i64 .i64 n (by omega) (by omega)
 rw [<-hn] at aY aS aB aI aE ⊢
 have HN:=hid hn
 have HF:=hid hf
 have aX:=hid aI
 clear hn hf aI
 have ax:=a3s lens
 rw [<-HN.out] at ax
 have a3:=hid ax
 clear ax
 go_enter Tryz.func222,Tryz.ntmps222
 go_wp2_with fail
 refine aB.mono ?_
 rintro e w' ⟨rfl,rfl⟩
 obtain ⟨w1,aw⟩:=zX (w.alloc (.cells (Array.replicate n (Value.int .u64 0)) 37))
 obtain ⟨B,hB⟩:=zX (w.heap.size)
 have aH:Row w1 37 (.slice (some ⟨B,0,none⟩) n n) B ((a3j lens 0).map f3b):=by
  have:=Row.made w 37 (List.replicate n (Value.int .u64 0)) (by simp [maxLen];omega)
  rw [aw,hB]
  have e:(a3j lens 0).map f3b=List.replicate n (Value.int .u64 0):=by
   unfold a3j
   rw [List.map_replicate,<-HN.out]
   rfl
  rw [e]
  simpa using this
 have ai:Chg [] w w1:=by rw [aw];exact (zR [] w).alloc _
 have aq:=aX.out w1 (hc.same ai)
 have a1:=hid aw
 have HB:=hid hB
 clear aw hB aB
 go_wp2_with fail
 rw [<-a1.out,<-HB.out]
 refine aq.mono ?_
 rintro e w2 ⟨vr,Fr,rfl,ak,aR,aV⟩
 obtain ⟨Ar,cr,rfl,az,aW,a8⟩:=ak.oq
 have aj:=aH.chg aR (by simp)
 have an:=ai.tq aR
 obtain ⟨rl,ag⟩:=zX ((a0q lens).length)
 have aZ:rl<=n:=by rw [ag];exact aE
 rw [<-ag] at az ⊢
 have aP:=hid ag
 have aU:w.heap.size<=B:=by have:=HB.out;omega
 have aA:∀ x∈[B],x∉Fr:=fun x hx hm=>by
  rw [zU.1 hx] at hm
  have:=aV _ hm
  have h6:=aH.lt
  omega
 have ay:Apt Ar (a0q lens) [B]:=ak.apt (fun x hx hm=>aA x hm hx)
 have bb:=aj.lt
 clear aq aH ak ai ag aV aE
 go_wp2_with fail
 go_loopg [5,6,8,18] rl (fun j vw vb v8 iv wr=>∃ (k wd bf:Nat),iv=.int .i64 k/\vw=.int .u64 wd/\vb=.int .i64 bf/\k+j=rl/\Hid ((k=0/\wd=0/\bf=0)\/(0<k/\wd=a4x lens (k-1)/\bf=a0g lens ((a0q lens).getD (k-1) 0)))/\Row wr 37 (.slice (some ⟨B,0,none⟩) n n) B ((a3j lens k).map f3b)/\Chg [B] w2 wr)
 case atStart=>exact ⟨0,0,0,rfl,rfl,rfl,by omega,hid (.inl ⟨rfl,rfl,rfl⟩),aj,zR _ _⟩
 case round =>
  clear aj
  obtain ⟨k,wd,bf,rfl,rfl,rfl,bk,HK,ae,au⟩:=hrel
  rcases gk with _ | j
  ·obtain rfl:k=rl:=by omega
   have e:b0d lens=a3j lens k:=by unfold b0d;rw [aP.out]
   have aD:Chg [] w wr:=an.trans au (fun x hx=>by rw [zU.1 hx];exact .inr aU)
   have HE:=hid e
   clear e
   go_wp2
   go_ret2
   refine ⟨_,B,rfl,?_,aD,aU⟩
   rw [HE.out]
   exact ae
  ·have ap:k<(a0q lens).length:=by rw [<-aP.out];omega
   have bc:k<rl:=by omega
   obtain ⟨aT,al,ar⟩:=a4q ap
   have am:=a8.keep ay au
   obtain ⟨gr,a5,rfl,bl,aK⟩:=am.ex (by omega)
   have cs:=aK k ((a0q lens).getD k 0) (by rw [zD,zF ap];rfl)
   have aL:a0d i64 wr A lens:=(hc.same an).keep (fun _ ad e hm=>by
    obtain ⟨b9,o9,e9,a7,_⟩:=hc.ex (by have:=HN.out;omega)
    rw [e] at e9
    injection e9 with e9
    subst e9
    simp at hm
    omega) au
   obtain ⟨gl,ol,e7,bm,aM⟩:=aL.ex (by rw [<-HN.out];omega)
   have cl:=aM ((a0q lens).getD k 0) (a0g lens ((a0q lens).getD k 0)) (by unfold a0g;rw [zD (l:=lens),zF ar];rfl)
   obtain ⟨a2,a6,_,_,aN,aO⟩:=ae.oq
   have aQ:(a3j lens k).length=n:=a3.out k
   have cw:=aN ((a0q lens).getD k 0) ((a3j lens k).getD ((a0q lens).getD k 0) 0) (by rw [zD (l:=a3j lens k),zF (by rw [a3s];exact ar)];rfl)
   have fw:=aO ((a0q lens).getD k 0)
   have ac:=ae.set_ (i:=(a0q lens).getD k 0) (by rw [zE,a3s];exact ar) (f3b (a4x lens k))
   rw [<-List.map_set] at ac
   have aF:a3j lens (k+1)=(a3j lens k).set ((a0q lens).getD k 0) (a4x lens k):=rfl
   rw [<-aF] at ac
   have af:=d2g HF.out ap
   rw [<-HN.out] at ar
   have aa:∀ (h:0<k),a4x lens k=(a4x lens (k-1)+1)*2^(a0g lens ((a0q lens).getD k 0)-a0g lens ((a0q lens).getD (k-1) 0))/\a0g lens ((a0q lens).getD (k-1) 0)<=a0g lens ((a0q lens).getD k 0)/\0<a0g lens ((a0q lens).getD (k-1) 0):=fun h=>by
    have h5:=d5a (lens:=lens) (k:=k-1) (by omega)
    have e:k-1+1=k:=by omega
    rw [e] at h5
    exact ⟨h5,c2m (by omega) ap,(a4q (k:=k-1) (by omega)).1⟩
   have av:k=0->a4x lens k=0:=fun h=>by rw [h,d5b]
   obtain ⟨s,hs⟩:=zX ((a0q lens).getD k 0)
   rw [<-hs] at cs cl cw fw ac aT al ar af aa aF
   obtain ⟨L,hL⟩:=zX (a0g lens s)
   rw [<-hL] at cl aT al af aa
   obtain ⟨wn,aJ⟩:=zX (a4x lens k)
   rw [<-aJ] at ac af aa av
   have ah:Hid ((k+1=0/\wn=0/\L=0)\/(0<k+1/\wn=a4x lens (k+1-1)/\L=a0g lens ((a0q lens).getD (k+1-1) 0))):=hid (.inr ⟨by omega,by rw [Nat.add_sub_cancel];exact aJ,by rw [Nat.add_sub_cancel,<-hs];exact hL⟩)
   have bp:wr.cell? ⟨gr,a5+k,none⟩=some (.int .i64 s):=cs
   have bi:wr.cell? ⟨gl,ol+s,none⟩=some (.int .i64 L):=cl
   have bj:wr.cell? ⟨B,s,none⟩=some (.int .u64 ((a3j lens k).getD s 0:Nat)):=cw
   have aC:wn<16777216:=Nat.lt_of_lt_of_le af (Nat.le_trans (Nat.pow_le_pow_right (n:=2) (by decide) al) (by decide))
   have ab:Row (wr.setCell ⟨B,s,none⟩ (.int .u64 wn)) 37 (.slice (some ⟨B,0,none⟩) n n) B ((a3j lens (k+1)).map f3b):=ac
   have ab:=hid ab
   generalize (a3j lens k).getD s 0=wo at *
   have bq:(0:Int)<=(k:Int):=by omega
   have bn:(k:Int)<(rl:Int):=by omega
   have bg:(0:Int)<=(s:Int):=by omega
   have bo:(s:Int)<(n:Int):=by omega
   have a4:gl≠B:=by
    obtain ⟨b9,o9,e9,a7,_⟩:=hc.ex (by have:=HN.out;omega)
    rw [e7] at e9
    injection e9 with e9
    injection e9 with e9 _ _
    omega
   subst e7
   have HR:=hid ae
   clear a6 aK aM aN aO ac cs cl cw hL aJ hs aF ap af ae am aL
   by_cases hk0:k=0
   ·rcases HK.out with ⟨a9,h2,h3⟩ | ⟨h1,_⟩
    ·clear a9
     subst h2
     subst h3
     have aG:=av hk0
     subst aG
     have bd:=hid hk0
     clear aa av hk0
     go_wp2_with fail
     go_roundg j
     case measure=>omega
     case rel=>exact ⟨k+1,0,L,by go_num,rfl,rfl,by omega,hid (by rcases ah.out with ⟨h,_⟩ | h;omega;exact .inr h),ab.out,au.setCell (.inl (by simp)) _⟩
    ·omega
   ·rcases HK.out with ⟨h1,_⟩ | ⟨h1,h2,h3⟩
    ·omega
    ·obtain ⟨k1,k2,k3⟩:=aa h1
     rw [<-h2,<-h3] at k1
     rw [<-h3] at k2 k3
     obtain ⟨d,hd⟩:=zX (L-bf)
     rw [<-hd] at k1
     have ba:(L:Int)-(bf:Int)=(d:Int):=by omega
     have a0:d<=24:=by omega
     have t1:decide ((0:Int)<(bf:Int))=true:=zB (by omega)
     have ao:((wd:Int)+1)*(2:Int)^d=(wn:Int):=by rw [k1];simp
     have br:IntKind.u64.wrap (((wd:Int)+1)*(2:Int)^d)=(wn:Int):=by rw [ao];exact IntWalk.u64_in _ (by omega)
     have bh:wd+1<=16777216:=by
      have:wd+1<=wn:=by rw [k1];exact Nat.le_mul_of_pos_right _ (Nat.two_pow_pos _)
      omega
     clear k1 h2 h3 hd aa av HK k2 hk0
     go_wp2_with fail
     go_roundg j
     case measure=>omega
     case rel=>exact ⟨k+1,wn,L,by go_num,rfl,rfl,by omega,ah,ab.out,au.setCell (.inl (by simp)) _⟩
end Go.Proofs.YtepjepkgcdfboaaGreatDoor
