/- package prefix by its contracts, the third part: next. -/
import Derived.Test.YtepjepkgcdfboaaGreatDoorMg13
import Derived.Deep.RegionHeld3
set_option linter.unusedVariables false
set_option linter.unusedSimpArgs false
set_option maxHeartbeats 4000000
set_option maxRecDepth 100000
namespace Go.Proofs.YtepjepkgcdfboaaGreatDoor
open Go.RowKit
theorem c1z (a b:El):∀ l:List El,l.length%2=0->a1o (l++[a,b])=a1o l++[.pack a b]
 | [],_=>rfl
 | [_],h=>by simp at h
 | x::y::l,h=>by
  have:=c1z a b l (by simp at h;omega)
  simp only [List.cons_append,a1o,this]
theorem c2a (l:List El) (q:Nat) (h:2*q+1<l.length):a1o (l.take (2*q+2))=a1o (l.take (2*q))++[.pack l[2*q] l[2*q+1]]:=by
 have e1:l.take (2*q+2)=l.take (2*q)++[l[2*q],l[2*q+1]]:=by
  rw [a0o l h,a0o l (by omega),zH]
  rfl
 rw [e1,c1z _ _ _ (by rw [zI];omega)]
theorem c3v (l:List El) {q:Nat} (h1:2*q<=l.length) (h2:l.length<=2*q+1):a1o (l.take (2*q))=a1o l:=by
 by_cases h:l.length=2*q
 ·rw [<-h,zN]
 ·have hl:l.length=2*q+1:=by omega
  have e:l=l.take (2*q)++[l[2*q]'(by omega)]:=by
   rw [<-a0o l (by omega),zT (by omega)]
  have aa:∀ (m:List El) (a:El),m.length%2=0->a1o (m++[a])=a1o m:=by
   intro m a
   induction m using a1o.induct with
   | case1 x y m im =>
    intro hm
    simp only [List.cons_append,a1o]
    rw [im (by simp at hm;omega)]
   | case2 m hm0 =>
    intro hm
    cases m with
    | nil=>rfl
    | cons x m =>
     cases m with
     | nil=>simp at hm
     | cons y m=>exact absurd rfl (hm0 x y m)
  conv=>rhs;rw [e]
  rw [aa _ _ (by rw [zI];omega)]
theorem c7t:b6m Tryz.prog 249 250 (.pointer none) 1 8:=.mk' Tryz.underlying249 (by kernel_rfl)
theorem e7h (l:List PE):∀ u∈l.map b9i,u.oneCell'=true:=by
 intro u hu
 obtain ⟨p,_,rfl⟩:=List.mem_map.1 hu
 rfl
theorem f1w (P:Nat->Prop) (w:World) (hP:∀ x,w.heap.size<=x->P x) (AC AR:Option Addr) (cC cR:Nat) (C R:List PE) (h2:2<=C.length) (hCl:C.length<=1024) (hRl:R.length<=4096) (hcC:a0d b9i w AC C) (hcR:a0d b9i w AR R) (hEC:Els P w C) (hER:Els P w R) (hwt:∀ p∈R,p.2.wt<=1125899906842624) :
  Calls Tryz.prog 219 #[.slice AC C.length cC,.slice AR R.length cR] w fun e w'=>∃ v g E',e=.returned v/\Row w' 250 v g (E'.map b9i)/\E'.map (·.2)=c4h (C.map (·.2)++a1o (R.map (·.2)))/\Els P w' E'/\Chg [] w w'/\w.heap.size<=g:=by
 obtain ⟨n,hn⟩:=zX (R.length)
 obtain ⟨c,hc⟩:=zX (C.length)
 rw [<-hn] at hRl ⊢
 rw [<-hc] at h2 hCl ⊢
 have HN:=hid hn
 have HC:=hid hc
 have aZ:=hid hwt
 have aP:=hid hEC
 have a1:=hid hP
 have aV:=hid hER
 clear hn hc hwt hEC hER hP
 have ah:a0d (fun u=>u) w AC (C.map b9i):=⟨fun h0=>by
  obtain ⟨b,o,e1,e2,e3⟩:=hcC.ex (by simpa using h0)
  exact ⟨b,o,e1,e2,fun i a ha=>by
   rw [zW] at ha
   cases hC:C[i]? with
   | none=>rw [hC] at ha;cases ha
   | some p=>rw [hC] at ha;injection ha with ha;rw [<-ha];exact e3 i p hC⟩⟩
 go_enter Tryz.func219,Tryz.ntmps219
 go_wp2_with (at_builtin;refine a1m rfl rfl c7t rfl rfl (Own.nil w 250) (C.map b9i) c rfl ?c1 ?c2 ?c3 ?c4 ?c5 ?_)
 case c1=>rw [zE];exact HC.out
 case c2=>exact ah
 case c3=>exact e7h _
 case c4=>rw [zE,<-HC.out];simp;omega
 case c5=>rw [zE,<-HC.out];simp;omega
 intro v1 F1 w1 h1 h3
 have ap:=h1.cases
 rcases ap with ⟨_,aE,_⟩ | ⟨g1,ak,rfl⟩
 ·exfalso
  have:=congrArg List.length aE
  rw [zE,<-HC.out] at this
  simp at this
  omega
 have aO:w.heap.size<=g1:=by
  rcases h3.new g1 (by simp) with h | h
  ·simp at h
  ·exact h
 have aY:Chg [] w w1:=h3.chg
 clear h1 h3 ah hcC
 have a4:(C.map (·.2)).length=c:=by rw [zE,HC.out]
 obtain ⟨T,hT⟩:=zX (R.map (·.2))
 have aR:T.length=n:=by rw [hT,zE,HN.out]
 have HT:=hid hT
 have aM:=hid aR
 clear hT aR a4
 go_wp2
 go_loopg [5,6] n (fun k vo vi' wr=>∃ (q:Nat) (Q:List PE) (g0:Nat),vi'=.int .i64 ((2*q:Nat):Int)/\2*q<=n/\n<=2*q+k/\Row wr 250 vo g0 ((C++Q).map b9i)/\Hid (Q.map (·.2)=a1o (T.take (2*q)))/\Q.length=q/\Els (fun x=>x≠g0/\P x) wr Q/\w.heap.size<=g0/\Chg [] w wr)
 case atStart=>exact ⟨0,[],g1,rfl,by omega,by omega,by rw [List.append_nil];exact ak,hid (by simp [a1o]),rfl,by intro p hp;simp at hp,aO,aY⟩
 case round =>
  clear ak aY aO
  obtain ⟨q,Q,g0,rfl,aK,bf,ab,HQ,aD,au,az,aa⟩:=hrel
  obtain ⟨bd,rfl,aj,aB,_,_⟩:=ab.oq
  have ay:(C++Q).length=c+q:=by rw [zC,<-HC.out,aD]
  rw [ay] at aj ⊢
  by_cases hend:n<=2*q+1
  ·have t1:decide (((2*q:Nat):Int)+1<(n:Int))=false:=zA (by omega)
   have aT:=d6z wr _ g0 (C++Q) (by omega) (by omega) ab (by
    intro p hp
    rcases zP.1 hp with h5 | h5
    ·exact ((aP.out p h5).imp (Q:=fun x=>x≠g0) fun x hx _=>by omega).same aa
    ·exact (au p h5).imp fun x _ h=>h.1)
   rw [ay] at aT
   have bl:Hid (Els (fun x=>x≠g0/\P x) wr (C++Q)):=hid (by
    intro p hp
    rcases zP.1 hp with h5 | h5
    ·exact ((aP.out p h5).imp (Q:=fun x=>x≠g0/\P x) fun x hx h=>⟨by omega,h⟩).same aa
    ·exact au p h5)
   clear au
   go_wp2_with fail
   refine aT.mono ?_
   rintro e w2 ⟨rfl,k3,k4⟩
   have k1:=c5v (fun p:PE=>p.2) (C++Q) ((C++Q).headD default)
   have k0:=d1w (fun p:PE=>p.2) (C++Q) ((C++Q).headD default)
   obtain ⟨E',aU⟩:=zX (c8m (fun p:PE=>p.2) (C++Q) ((C++Q).headD default))
   rw [<-aU] at k0 k1 k3
   have K0:=hid k0
   have K1:=hid k1
   clear k0 k1 aU
   go_wp2
   go_ret
   refine ⟨_,g0,E',rfl,k3,?_,?_,aa.trans k4 (fun x hx=>by rw [zU.1 hx];exact .inr az),az⟩
   ·have e1:=K0.out
    rw [zM,HQ.out,c3v T (by rw [aM.out];exact aK) (by rw [aM.out];exact hend),HT.out] at e1
    exact e1
   ·intro p hp
    have h5:=bl.out p (K1.out.mem_iff.1 hp)
    exact (h5.chg k4 (fun x hx=>by rw [zU.1 hx];simp)).imp fun _ _ h=>h.2
  ·rcases gk with _ | gk
   ·omega
   ·have t1:decide (((2*q:Nat):Int)+1<(n:Int))=true:=zB (by omega)
    have aG:2*q+1<R.length:=by rw [<-HN.out];omega
    have aq:=hcR.same aa
    obtain ⟨gr,af,rfl,aW,aA⟩:=aq.ex (by omega)
    have p1:=aA (2*q) _ (zF (by omega))
    have p2:=aA (2*q+1) _ (zF aG)
    have m1:R[2*q]∈R:=zG _
    have m2:R[2*q+1]∈R:=zG _
    have aw:a1o (T.take (2*(q+1)))=a1o (T.take (2*q))++[.pack R[2*q].2 R[2*q+1].2]:=by
     have:=c2a T q (by rw [aM.out];omega)
     rw [show 2*(q+1)=2*q+2 by omega,this]
     congr 3<;>simp [HT.out]
    have aX:=aZ.out _ m1
    have a2:=aZ.out _ m2
    have av:=aV.out _ m1
    have ar:=aV.out _ m2
    generalize R[2*q]=x1 at *
    generalize R[2*q+1]=x2 at *
    obtain ⟨b1,ad⟩:=x1
    obtain ⟨b2,ae⟩:=x2
    simp only at aX a2 av ar aw
    have c1:=(av.same aa).head.2.2
    have c2:=(ar.same aa).head.2.2
    have aS:wr.cell? ⟨gr,af+2*q,none⟩=some (.pointer (some ⟨b1,0,none⟩)):=p1
    have aI:wr.cell? ⟨gr,af+(2*q+1),none⟩=some (.pointer (some ⟨b2,0,none⟩)):=p2
    obtain ⟨i,hi⟩:=zX (2*q)
    rw [<-hi] at aS aI t1 aK bf hend aG aw ⊢
    have a3:=hid aw
    have HI:=hid hi
    have bk:=hid av
    have bh:=hid ar
    have ba:=hid au
    have a0:=hid aa
    have bB:(0:Int)<=(i:Int):=by omega
    have br:(i:Int)<(n:Int):=by omega
    obtain ⟨i1,aQ⟩:=zX (i+1)
    have bs:(i1:Int)<(n:Int):=by omega
    have bA:(0:Int)<=(i1:Int):=by omega
    have be:(i:Int)+1=(i1:Int):=by omega
    have bn:IntKind.i64.wrap (i1:Int)=(i1:Int):=IntWalk.i64_in _ (by omega)
    have bv:IntKind.i64.wrap ((i:Int)+1)=(i1:Int):=by rw [be];exact bn
    rw [<-aQ] at aI
    clear aQ
    have ag:IntKind.i64.wrap (((ad.wt:Nat):Int)+((ae.wt:Nat):Int))=((ad.wt+ae.wt:Nat):Int):=by
     have e:((ad.wt:Nat):Int)+((ae.wt:Nat):Int)=((ad.wt+ae.wt:Nat):Int):=by simp
     rw [e]
     exact IntWalk.i64_in _ (by omega)
    have hS:∀ w',Chg [g0] wr w'->w'.cell? ⟨gr,af+i,none⟩=some (.pointer (some ⟨b1,0,none⟩))/\w'.cell? ⟨gr,af+i1,none⟩=some (.pointer (some ⟨b2,0,none⟩))/\w'.cell? ⟨b1,0,none⟩=some (.int .i64 ad.wt)/\w'.cell? ⟨b2,0,none⟩=some (.int .i64 ae.wt):=by
     intro w' ax
     obtain ⟨bw,bz,e',bo,_⟩:=hcR.ex (by omega)
     injection e' with e'
     injection e' with e1 e2 _
     subst e1
     have q1:=av.head.2.1
     have q2:=ar.head.2.1
     exact ⟨(World.cell?_of_block (w:=wr) (ax.block gr aW (by simp;omega))).trans aS,(World.cell?_of_block (w:=wr) (ax.block gr aW (by simp;omega))).trans aI,
      (World.cell?_of_block (w:=wr) (ax.block b1 (Nat.lt_of_lt_of_le q1 aa.size) (by simp;omega))).trans c1,(World.cell?_of_block (w:=wr) (ax.block b2 (Nat.lt_of_lt_of_le q2 aa.size) (by simp;omega))).trans c2⟩
    obtain ⟨k1,aH⟩:=zX (ad.wt)
    obtain ⟨k2,aL⟩:=zX (ae.wt)
    rw [<-aH] at c1 aX ag hS
    rw [<-aL] at c2 a2 ag hS
    have bi:=hid aH
    have a5:=hid aL
    have bc:=hid aD
    have HS:=hid hS
    have aJ:=ab.toOwn
    have a8:=ab.lt
    have bu:((C++Q).map b9i).length<=8192:=by rw [zE,ay];omega
    clear aA p1 p2 m1 m2 aw av ar au aq hi aD hS aH aL
    have bj:Hid (i+1<n):=hid (by omega)
    clear aK hend aG
    obtain ⟨wx,aN⟩:=zX ((((wr.alloc (.cells #[.pointer (some ⟨b1,0,none⟩),.pointer (some ⟨b2,0,none⟩)] 250)).alloc (.cells #[.int .i64 ((k1:Int)+(k2:Int)),.int .i64 0,.slice (some ⟨wr.heap.size,0,none⟩) 2 2] 252)).alloc (.cells #[.pointer (some ⟨wr.heap.size+1,0,none⟩)] 250)).drew)
    have ac:Chg [] wr wx:=by rw [aN];exact (((((zR [] wr).alloc _).alloc _).alloc _).drew)
    have al:=aJ.same ac
    rw [ay] at al
    have bm:wx.cell? ⟨wr.heap.size+2,0,none⟩=some (.pointer (some ⟨wr.heap.size+1,0,none⟩)):=by
     rw [aN]
     have:=(Blk.new ((wr.alloc (.cells #[.pointer (some ⟨b1,0,none⟩),.pointer (some ⟨b2,0,none⟩)] 250)).alloc (.cells #[.int .i64 ((k1:Int)+(k2:Int)),.int .i64 0,.slice (some ⟨wr.heap.size,0,none⟩) 2 2] 252)) 250 #[.pointer (some ⟨wr.heap.size+1,0,none⟩)]).cell 0
     simpa using this
    have HX:=hid aN
    have a7:Hid (Chg [g0] wr wx):=hid (ac.mono (by simp))
    go_wp2
    go_region_held3 (fun w'=>w'.cell? ⟨gr,af+i,none⟩=some (.pointer (some ⟨b1,0,none⟩))/\w'.cell? ⟨gr,af+i1,none⟩=some (.pointer (some ⟨b2,0,none⟩))/\w'.cell? ⟨b1,0,none⟩=some (.int .i64 k1)/\w'.cell? ⟨b2,0,none⟩=some (.int .i64 k2)) (first | (go_keep;done) | exact HS.out _ ((zR [g0] wr).alloc _) | exact HS.out _ (((zR [g0] wr).alloc _).alloc _) | exact HS.out _ ((((zR [g0] wr).alloc _).alloc _).alloc _) | exact HS.out _ (((((zR [g0] wr).alloc _).alloc _).alloc _).drew) | exact HS.out _ (a7.out.tq (a0u.chg (by assumption))))
     (first | (rw [<-HX.out];refine a3x (by rfl) (by rfl) c7t (by rfl) (by rfl) al (.pointer (some ⟨wr.heap.size+1,0,none⟩)) (by rfl) bm (by rfl) (by omega) (by omega) ?_;intro g2 bq w5 bp am))
    go_wp2_with fail
    go_roundg gk
    case measure=>omega
    case rel =>
     have a9:wx.heap.size=wr.heap.size+3:=by rw [HX.out];simp
     have ao:g2=g0\/wr.heap.size+3<=g2:=by
      rcases am.new g2 (by simp) with h5 | h5
      ·exact .inl (by simpa using h5)
      ·exact .inr (by omega)
     have bg:Blk wx wr.heap.size 250 #[.pointer (some ⟨b1,0,none⟩),.pointer (some ⟨b2,0,none⟩)]:=by
      rw [HX.out]
      exact (((Blk.new wr _ _).alloc _).alloc _).drew
     have a6:Blk wx (wr.heap.size+1) 252 #[.int .i64 ((k1:Int)+(k2:Int)),.int .i64 0,.slice (some ⟨wr.heap.size,0,none⟩) 2 2]:=by
      rw [HX.out]
      have:=Blk.new (wr.alloc (.cells #[.pointer (some ⟨b1,0,none⟩),.pointer (some ⟨b2,0,none⟩)] 250)) 252 #[.int .i64 ((k1:Int)+(k2:Int)),.int .i64 0,.slice (some ⟨wr.heap.size,0,none⟩) 2 2]
      have e:(wr.alloc (.cells #[.pointer (some ⟨b1,0,none⟩),.pointer (some ⟨b2,0,none⟩)] 250)).heap.size=wr.heap.size+1:=by simp
      rw [e] at this
      exact (this.alloc _).drew
     have aC:=bg.chg am.chg (by simp;omega)
     have aF:=a6.chg am.chg (by simp;omega)
     have an:Chg [] w w5:=(a0.out.tq ac).trans am.chg (fun x hx=>by rw [zU.1 hx];exact .inr az)
     have bx:=a0.out.size
     have ai:∀ (e:El) (bb:Nat),c9c P w e bb->c9c (fun x=>x≠g2/\P x) w5 e bb:=fun e bb h=>(h.imp (Q:=fun x=>x≠g2/\P x) fun x hx h9=>⟨by rcases ao with rfl | h6<;>omega,h9⟩).same an
     refine ⟨q+1,Q++[(wr.heap.size+1,.pack ad ae)],g2,?_,?_,?_,?_,hid ?_,?_,?_,?_,an⟩
     ·have e:((2*(q+1):Nat):Int)=(i:Int)+2:=by have:=HI.out;omega
      rw [e]
     ·have:=HI.out;have:=bj.out;omega
     ·have:=HI.out;omega
     ·have e:(C++(Q++[(wr.heap.size+1,El.pack ad ae)])).map b9i=(C++Q).map b9i++[.pointer (some ⟨wr.heap.size+1,0,none⟩)]:=by
       rw [<-zH,zM];rfl
      rw [e]
      have e2:((C++Q).map b9i).length+1=C.length+Q.length+1:=by simp
      rw [<-e2]
      exact bp
     ·rw [zM,HQ.out,a3.out,HI.out];rfl
     ·rw [zC,bc.out];rfl
     ·intro p hp
      rcases zP.1 hp with h5 | h5
      ·have h6:=((ba.out p h5).same ac).imp (Q:=fun x=>x≠g0/\x≠g2/\P x) fun x hx h7=>⟨h7.1,by rcases ao with rfl | h8;exact h7.1;omega,h7.2⟩
       exact (h6.chg am.chg (fun x hx=>by rw [zU.1 hx];simp)).imp fun _ _ h=>h.2
      ·rw [zU.1 h5]
       refine ⟨wr.heap.size,b1,b2,?_,?_,?_,aC,ai _ _ bk.out,ai _ _ bh.out⟩
       ·exact ⟨by rcases ao with rfl | h6<;>omega,a1.out _ (by omega)⟩
       ·exact ⟨by rcases ao with rfl | h6<;>omega,a1.out _ (by omega)⟩
       ·rw [<-bi.out,<-a5.out,Int.natCast_add]
        exact aF
     ·rcases ao with rfl | h6<;>omega
def a5f (t:El) (l:List Nat):List Nat:=l.mapIdx fun s x=>x+t.occ s
def El.symsIn (n:Nat):El->Prop
 | .coin s _=>s<n
 | .pack a b=>a.symsIn n/\b.symsIn n
theorem c4p (t:El) (l:List Nat):(a5f t l).length=l.length:=by simp [a5f]
theorem d2o (t:El) (l:List Nat) {s:Nat} (h:s<l.length):(a5f t l).getD s 0=l.getD s 0+t.occ s:=by
 simp [a5f,zD,h]
theorem d2p (a b:El) (l:List Nat):a5f b (a5f a l)=a5f (.pack a b) l:=by
 unfold a5f
 rw [List.mapIdx_mapIdx]
 congr 1
 funext s x
 show x+a.occ s+b.occ s=x+(a.occ s+b.occ s)
 omega
theorem d2n (s k:Nat) (l:List Nat) (h:s<l.length):a5f (.coin s k) l=l.set s (l.getD s 0+1):=by
 apply List.ext_getElem?
 intro i
 unfold a5f
 rw [List.getElem?_mapIdx,List.getElem?_set]
 by_cases hi:s=i
 ·subst hi
  rw [if_pos rfl,if_pos h,zD,zF h]
  simp [El.occ]
 ·rw [if_neg hi]
  cases hl:l[i]? with
  | none=>rfl
  | some x =>
   simp only [Option.map_some,El.occ]
   rw [if_neg hi]
   rfl
theorem e7a (g cap n:Nat):∀ (t:El) (b:Nat) (l:List Nat) (w:World),l.length=n->t.symsIn n->(∀ s,l.getD s 0+t.occ s<=4096)->c9c (·≠g) w t b->Row w 3 (.slice (some ⟨g,0,none⟩) n cap) g (l.map i64) ->
  Calls Tryz.prog 220 #[.pointer (some ⟨b,0,none⟩),.slice (some ⟨g,0,none⟩) n cap] w fun e w'=>e=.returned (.tuple #[])/\Row w' 3 (.slice (some ⟨g,0,none⟩) n cap) g ((a5f t l).map i64)/\Chg [g] w w':=by
 intro t
 induction t with
 | coin s k =>
  intro b l w hl hs hb hE hr
  have am:s<n:=hs
  obtain ⟨hP,hB⟩:=hE
  have b1:=hB.cell 1
  have b2:=hB.cell 2
  simp at b1 b2
  have hx:(l.getD s 0:Nat)+1<=4096:=by
   have:=hb s
   simpa [El.occ] using this
  have ad:=hr.set_ (i:=s) (by rw [zE,hl];exact am) (i64 (l.getD s 0+1))
  rw [<-List.map_set,<-d2n s k l (by omega)] at ad
  obtain ⟨an,e1,_,_,aa,ae⟩:=hr.oq
  have c1:=aa s (l.getD s 0) (by rw [zD,zF (by omega)];rfl)
  have f1:=ae s
  have ap:w.cell? ⟨g,s,none⟩=some (.int .i64 ((l.getD s 0:Nat):Int)):=c1
  have ab:Row (w.setCell ⟨g,s,none⟩ (.int .i64 ((l.getD s 0+1:Nat):Int))) 3 (.slice (some ⟨g,0,none⟩) n cap) g ((a5f (.coin s k) l).map i64):=ad
  have h0:(0:Int)<=(s:Int):=by omega
  have h1:(s:Int)<(n:Int):=by omega
  generalize a5f (.coin s k) l=l' at *
  generalize l.getD s 0=x at *
  have e2:((x+1:Nat):Int)=(x:Int)+1:=by simp
  rw [e2] at ab
  clear ad aa ae hb c1 e1 hr hl hs hB
  go_enter Tryz.func220,Tryz.ntmps220
  go_wp2
  refine bodyPost_ret (results_none rfl _ _ _) rfl ?_
  exact ⟨rfl,ab,(zR [g] w).setCell (.inl (by simp)) _⟩
 | pack x y ihx ihy =>
  intro b l w hl hs hb hE hr
  obtain ⟨gp,b1,b2,hP,ag,hB,hG,hx,hy⟩:=hE
  have c2:=hB.cell 2
  simp at c2
  have p0:=hG.cell 0
  have p1:=hG.cell 1
  simp at p0 p1
  obtain ⟨af,aj⟩:=hs
  have ai:∀ s,l.getD s 0+x.occ s<=4096:=fun s=>by
   have:l.getD s 0+(x.occ s+y.occ s)<=4096:=hb s
   omega
  have ak:∀ s,(a5f x l).getD s 0+y.occ s<=4096:=fun s=>by
   have h9:l.getD s 0+(x.occ s+y.occ s)<=4096:=hb s
   by_cases h:s<l.length
   ·rw [d2o _ _ h];omega
   ·rw [zD,List.getElem?_eq_none (by rw [c4p];omega)]
    show 0+_<=_
    omega
  have i1:=fun w=>ihx b1 l w hl af ai
  have i2:=fun w=>ihy b2 (a5f x l) w ((c4p _ _).trans hl) aj ak
  have al:=d2p x y l
  rw [al] at i2
  have I1:=hid i1
  have I2:=hid i2
  have HG:=hid hG
  have HX:=hid hx
  have HY:=hid hy
  generalize a5f x l=lx at *
  generalize a5f (.pack x y) l=ly at *
  clear i1 i2 ihx ihy hb ai ak af aj al hl hB hG hx hy
  go_enter Tryz.func220,Tryz.ntmps220
  go_wp2
  go_loopg [26] 2 (fun j iv wr=>∃ i:Nat,iv=.int .i64 i/\i+j=2/\Chg [g] w wr/\Hid (i=0/\Row wr 3 (.slice (some ⟨g,0,none⟩) n cap) g (l.map i64)\/i=1/\Row wr 3 (.slice (some ⟨g,0,none⟩) n cap) g (lx.map i64)\/i=2/\Row wr 3 (.slice (some ⟨g,0,none⟩) n cap) g (ly.map i64)))
  case atStart=>exact ⟨0,rfl,rfl,zR _ _,hid (.inl ⟨rfl,hr⟩)⟩
  case round =>
   clear hr
   obtain ⟨i,rfl,ao,ac,HR⟩:=hrel
   have ah:∀ x∈[g],¬ (x≠g):=by intro x hx;simp at hx;simp [hx]
   have q0:=(HG.out.chg ac (by simpa using fun h=>ag h)).cell 0
   have q1:=(HG.out.chg ac (by simpa using fun h=>ag h)).cell 1
   simp at q0 q1
   rcases HR.out with ⟨rfl,hr⟩ | ⟨rfl,hr⟩ | ⟨rfl,hr⟩
   ·obtain rfl:gk=2:=by omega
    have hc:=I1.out wr (HX.out.chg ac ah) hr
    clear HR hr
    go_wp2_with fail
    refine hc.mono ?_
    rintro e w2 ⟨rfl,k1,k2⟩
    go_wp2
    go_roundg 1
    case measure=>omega
    case rel=>exact ⟨1,rfl,rfl,ac.tq k2,hid (.inr (.inl ⟨rfl,k1⟩))⟩
   ·obtain rfl:gk=1:=by omega
    have hc:=I2.out wr (HY.out.chg ac ah) hr
    clear HR hr
    go_wp2_with fail
    refine hc.mono ?_
    rintro e w2 ⟨rfl,k1,k2⟩
    go_wp2
    go_roundg 0
    case measure=>omega
    case rel=>exact ⟨2,rfl,rfl,ac.tq k2,hid (.inr (.inr ⟨rfl,k1⟩))⟩
   ·obtain rfl:gk=0:=by omega
    go_wp2
    go_end0
    exact ⟨rfl,hr,ac⟩
theorem d9z {n:Nat}:∀ l:List El,(∀ e∈l,e.symsIn n)->∀ e∈a1o l,e.symsIn n:=by
 intro l
 induction l using a1o.induct with
 | case1 a b l il =>
  intro h e he
  rw [a1o] at he
  rcases zJ.1 he with rfl | he
  ·exact ⟨h a (by simp),h b (by simp)⟩
  ·exact il (fun e h1=>h e (by simp [h1])) e he
 | case2 l hl =>
  intro _ e he
  cases l with
  | nil=>simp [a1o] at he
  | cons a l =>
   cases l with
   | nil=>simp [a1o] at he
   | cons b l=>exact absurd rfl (hl a b l)
theorem Rows.syms {n:Nat} {C:List El} (hC:c6a n C) {j:Nat} {R:List El} (h:Rows C j R):∀ e∈R,e.symsIn n:=by
 have hc:∀ e∈C,e.symsIn n:=fun e he=>by
  obtain ⟨s,w,rfl,h1,_⟩:=hC.coin e he
  exact h1
 induction h with
 | one hp hs=>exact fun e he=>hc e (hp.mem_iff.1 he)
 | next h hp hs ih =>
  intro e he
  rcases zP.1 (hp.mem_iff.1 he) with h5 | h5
  ·exact hc e h5
  ·exact d9z _ ih e h5
theorem d3s (n:Nat) (S:List El) (t:El):a4i n (S++[t])=a5f t (a4i n S):=by
 apply List.ext_getElem
 ·simp [a4i,a5f]
 ·intro i h1 h2
  simp [a4i,a5f,a6f]
theorem d1g (s i:Nat) (S:List El):a6f s (S.take i)<=a6f s S:=by
 have e:=b4f s (S.take i) (S.drop i)
 rw [List.take_append_drop] at e
 omega
theorem e9c {n s:Nat} (hs:s<n) (hn:n<=1024):b3p ((List.replicate n 0).set s 1):=by
 have aa:∀ m∈(List.replicate n 0).set s 1,m<=1:=fun m hm=>by
  rcases List.mem_or_eq_of_mem_set hm with h | h
  ·have:=List.eq_of_mem_replicate h;omega
  ·omega
 refine ⟨by simp;omega,by simp;omega,fun m hm=>by have:=aa m hm;omega,.inl ⟨?_,aa⟩⟩
 unfold b2l
 rw [List.countP_set (by simpa using hs)]
 simp
theorem f1z {n s i:Nat} (hs:s<n) (hi:i<n):0<((List.replicate n 0).set s 1).getD i 0 ↔ i=s:=by
 rw [zD,List.getElem?_set]
 by_cases h:s=i
 ·subst h
  rw [if_pos rfl,if_pos (by simpa using hs)]
  simp
 ·rw [if_neg h,List.getElem?_replicate,if_pos hi]
  simp
  exact fun h2=>h h2.symm
structure d5d (freq lens:List Nat):Prop where
 len:lens.length=freq.length
 full:b3p lens
 used:∀ s,s<freq.length->(0<lens.getD s 0 ↔ 0<freq.getD s 0)
 le:∀ n∈lens,n<=12
theorem d6p {freq:List Nat} (h1:freq.length<=1024) {s f:Nat} (hc:a0v freq freq.length=[.coin s f]):s<freq.length/\d5d freq ((List.replicate freq.length 0).set s 1):=by
 have hm:El.coin s f∈a0v freq freq.length:=by rw [hc];simp
 obtain ⟨s',h2,h3,h4⟩:=a7z hm
 injection h4 with h4 h5
 subst h4
 refine ⟨h2,by simp,e9c h2 h1,fun i hi => ?_,fun m hm => ?_⟩
 ·rw [f1z h2 hi]
  have h6:=a9j freq i freq.length
  rw [hc] at h6
  have e:a0m i [El.coin s f]=if s=i then 1 else 0:=by
   unfold a0m
   rw [List.countP_cons]
   simp [El.isCoin]
  rw [e] at h6
  constructor
  ·intro h9;rw [h9];exact h3
  ·intro h7
   rw [if_pos (show i<freq.length/\0<freq.getD i 0 from ⟨hi,h7⟩)] at h6
   by_cases h8:s=i
   ·exact h8.symm
   ·rw [if_neg h8] at h6;omega
 ·rcases List.mem_or_eq_of_mem_set hm with h | h
  ·have:=List.eq_of_mem_replicate h;omega
  ·omega
theorem Row.zerosN (w:World) (n:Nat) (h:n<=1048576):Row (w.alloc (.cells (List.replicate n (Value.int .i64 0)).toArray 3)) 3 (.slice (some ⟨w.heap.size,0,none⟩) n n) w.heap.size ((List.replicate n 0).map i64):=by
 have:=Row.made w 3 (List.replicate n (Value.int .i64 0)) (by simp [maxLen];omega)
 rw [List.map_replicate]
 simpa [i64] using this
def b3q (w:World) (freq:List Nat) (e:Ending) (w':World):Prop :=
 ∃ v g,e=.returned (.tuple #[v,.int .i64 0])/\Row w' 3 v g ((a7d freq).map i64)/\d5d freq (a7d freq)/\Chg [] w w'/\w.heap.size<=g
theorem d9j (w:World) (freq:List Nat) (A:Option Addr) (cap:Nat) (h1:1<=freq.length) (h2:freq.length<=256) (hf:∀ f∈freq,f<=4096) (hpos:0<(a0v freq freq.length).length) (hc:a0d i64 w A freq) :
  Calls Tryz.prog 168 #[.slice A freq.length cap,.int .i64 12] w (b3q w freq):=by
 obtain ⟨n,hn⟩:=zX (freq.length)
 rw [<-hn] at h1 h2 hpos ⊢
 have c3:=a1p (P:=Tryz.prog) a0p rfl .i64 .i64 n (by omega) (by omega)
 have HN:=hid hn
 have HF:=hid hf
 have bp:=hid hpos
 clear hn hf hpos
 have t1:decide ((n:Int)<1)=false:=zA (by omega)
 have t2:decide ((1024:Int)<(n:Int))=false:=zA (by omega)
 go_enter Tryz.func168,Tryz.ntmps168
 go_wp2_with fail
 go_loopg [6,7,8,31] n (fun j v6 v7 v8 iv wr=>∃ (i:Nat) (E:List PE) (F6:List Nat),iv=.int .i64 i/\i+j=n/\Own wr 250 v6 F6 (E.map b9i)/\Hid (E.map (·.2)=a0v freq i)/\E.length<=i/\Els (fun x=>x∉F6) wr E/\(∀ x∈F6,w.heap.size<=x)/\Chg [] w wr)
 case atStart=>exact ⟨0,[],[],rfl,by omega,Own.nil _ _,hid rfl,by simp,by intro p hp;simp at hp,by simp,zR _ _⟩
 case round =>
  obtain ⟨i,E,F6,rfl,cZ,ag,HE,ba,am,aO,ap⟩:=hrel
  rcases gk with _ | j
  ·obtain rfl:i=n:=by omega
   have bM:E.length=(a0v freq i).length:=by rw [<-HE.out,zE]
   have hpos:=bp.out
   rw [<-bM] at hpos
   rcases ag.cases with ⟨_,bi,_⟩ | ⟨gc,ac,rfl⟩
   ·exfalso
    have:=congrArg List.length bi
    rw [zE] at this
    simp at this
    rw [this] at hpos
    simp at hpos
   obtain ⟨aN,rfl,aq,aD,al,_⟩:=ac.oq
   have cO:w.heap.size<=gc:=aO gc (by simp)
   have au:Els (·≠gc) wr E:=am.imp fun x _ h=>by simpa using h
   have bg:Hid (E.map (·.2)=a0v freq i):=HE
   obtain ⟨c,be⟩:=zX (E.length)
   rw [<-be] at aq hpos ba ⊢
   have aQ:=hid be
   have aj:=hid au
   have bE:=hid ac
   have aH:=hid al
   have cw:=ap.size
   have bn:=ac.lt
   have t6:((c:Int)==0)=false:=by rw [beq_eq_false_iff_ne];omega
   have t7:decide ((4096:Int)<(c:Int))=false:=zA (by omega)
   clear bM be ag am au ac al aO
   by_cases hc1:c=1
   ·have t8:((c:Int)==1)=true:=by rw [beq_iff_eq];omega
    have co:∃ b s f,E=[(b,El.coin s f)]/\a0v freq i=[.coin s f]:=by
     have h3:=aQ.out
     obtain ⟨⟨b,t⟩,hb⟩:=List.length_eq_one_iff.1 (h3.symm.trans hc1)
     have h4:=bg.out
     rw [hb] at h4
     have hm:t∈a0v freq i:=by rw [<-h4];simp
     obtain ⟨s,_,_,rfl⟩:=a7z hm
     exact ⟨b,s,_,hb,h4.symm⟩
    obtain ⟨b,s,f,rfl,bj⟩:=co
    have a3:=d6p (freq:=freq) (by rw [<-HN.out];omega) (by rw [<-HN.out];exact bj)
    rw [<-HN.out] at a3
    have bm:Hid (a0v freq freq.length=[.coin s f]):=hid (by rw [<-HN.out];exact bj)
    have cV:wr.cell? ⟨gc,0,none⟩=some (.pointer (some ⟨b,0,none⟩)):=aH.out 0 _ rfl
    have av:=aj.out (b,.coin s f) (by simp)
    have c5:b<wr.heap.size:=av.2.lt
    have cl:wr.cell? ⟨b,1,none⟩=some (.int .i64 s):=by
     have:=av.2.cell 1
     simpa using this
    have aF:=Row.zerosN wr i (by omega)
    have cn:=hid a3
    have b5:=a3.1
    have cX:(0:Int)<=(s:Int):=by omega
    have cF:(s:Int)<(i:Int):=by omega
    have az:=aF.set_ (i:=s) (by simpa using b5) (i64 1)
    rw [<-List.map_set] at az
    have cf:=hid az
    obtain ⟨cu,cv,_,_,b7,bH⟩:=aF.oq
    clear cv
    have cm:=b7 s 0 (by rw [List.getElem?_replicate,if_pos b5])
    have cG:=bH s
    have c6:gc≠wr.heap.size:=by omega
    have c0:b≠wr.heap.size:=by omega
    subst hc1
    clear a3 az aF b7 bH av bj
    go_wp2_with fail
    go_ret2
    have e:(Array.replicate i (Value.int .i64 0)).setIfInBounds s (.int .i64 1)=(((List.replicate i 0).set s 1).map i64).toArray:=by
     rw [List.map_set,List.map_replicate]
     show ((List.replicate i (Value.int .i64 0)).toArray).setIfInBounds s (.int .i64 1)=_
     rw [List.setIfInBounds_toArray]
     rfl
    have ak:=Row.made wr 3 (((List.replicate i 0).set s 1).map i64) (by simp [maxLen];omega)
    rw [<-e] at ak
    have bq:(((List.replicate i 0).set s 1).map i64).length=i:=by simp
    rw [bq] at ak
    have aU:=c5j bm.out
    rw [<-HN.out] at aU
    unfold b3q
    rw [aU]
    exact ⟨_,wr.heap.size,rfl,ak,cn.out.2,ap.alloc _,cw⟩
   ·have t8:((c:Int)==1)=false:=by rw [beq_eq_false_iff_ne];omega
    have cp:=b3u freq i
    have bv:=fun w2 (hc2:Chg [] wr w2)=>d6z w2 _ gc E (by rw [<-aQ.out];omega) (by rw [<-aQ.out];omega) (bE.out.chg hc2 (by simp)) (aj.out.same hc2)
    rw [<-aQ.out] at bv
    obtain ⟨gl,bw⟩:=zX (wr.heap.size)
    obtain ⟨w1,a4⟩:=zX (wr.alloc (.cells (Array.replicate i (Value.int .i64 0)) 3))
    have aF:Row w1 3 (.slice (some ⟨gl,0,none⟩) i i) gl ((List.replicate i 0).map i64):=by
     rw [a4,bw]
     exact Row.zerosN wr i (by omega)
    have an:Chg [] wr w1:=by rw [a4];exact (zR [] wr).alloc _
    have a2:=bv w1 an
    have ck:Els (fun x=>x≠gl) w1 E:=fun p hp=>((aj.out p hp).imp (Q:=fun x=>x≠gl/\x≠gc) fun x hx h=>⟨by omega,h⟩).same an |>.imp fun _ _ h=>h.1
    have a1:Els (fun x=>x≠gl/\x≠gc) w1 E:=fun p hp=>((aj.out p hp).imp (Q:=fun x=>x≠gl/\x≠gc) fun x hx h=>⟨by omega,h⟩).same an
    have cL:=hid a4
    have cz:=hid bw
    have bz:=hid a1
    have cr:=hid aF
    clear bv ck a1 aF a4
    have ar:gc≠gl:=by omega
    have aP:w.heap.size<=gl:=by omega
    have bB:=hid (ap.tq an)
    clear bw an
    go_wp2_with fail
    rw [<-cL.out,<-cz.out]
    refine a2.mono ?_
    rintro e w2 ⟨rfl,k3,k4⟩
    have k1:=c5v (fun p:PE=>p.2) E (E.headD default)
    have k0:=d1w (fun p:PE=>p.2) E (E.headD default)
    obtain ⟨E',bW⟩:=zX (c8m (fun p:PE=>p.2) E (E.headD default))
    rw [<-bW] at k0 k1 k3
    rw [bg.out] at k0
    clear bW
    have aC:E'.length=c:=by rw [k1.length_eq];exact aQ.out.symm
    have af:=a9k freq
    obtain ⟨C,hC⟩:=zX (a0v freq i)
    rw [<-HN.out,<-hC] at af
    have aE:(E'.map (·.2)).Perm C:=by rw [hC,<-bg.out];exact k1.map _
    have b6:E'.map (·.2)=e0i C 0:=by rw [hC];exact k0
    have aI:Els (fun x=>x≠gl) w2 E':=fun p hp=>((bz.out p (k1.mem_iff.1 hp)).chg k4 (fun x hx=>by rw [zU.1 hx];simp)).imp fun _ _ h=>h.1
    have b1:a0d b9i w2 (some ⟨gc,0,none⟩) E':=by
     have cB:=k3
     have:=cB.toOwn
     exact Own.cells this
    have ay:=cr.out.chg k4 (by simpa using fun h=>ar h.symm)
    have aW:Chg [] w w2:=bB.out.trans k4 (fun x hx=>by rw [zU.1 hx];exact .inr cO)
    have b9:C.length=c:=by rw [<-aE.length_eq,zE,aC]
    have aS:∀ e∈C,e.wt<=4096:=fun e he=>by
     rw [hC] at he
     obtain ⟨s,hs,_,rfl⟩:=a7z he
     show freq.getD s 0<=4096
     rw [zD]
     cases hx:freq[s]? with
     | none=>exact Nat.zero_le _
     | some x=>exact HF.out x (List.mem_of_getElem? hx)
    have bV:=hid af
    have HC:=hid hC
    have cS:=hid aE
    have a0:=hid aC
    have aA:=hid b9
    have cE:=hid aS
    have bN:=hid b1
    have bJ:=hid aI
    have aV:=hid ay.lt
    have bu:=hid ay
    have cI:Hid (E'.map (·.2)=c4h C):=hid (by rw [hC];exact k0)
    clear k0 k1 k3 k4 a2 af hC aE aC b9 aS aI b1 ay ap hc bn
    have bS:=aW.size
    go_wp2_with fail
    go_loopg [10,80] 11 (fun j v10 iv wk=>∃ (q:Nat) (R:List PE) (AR:Option Addr) (cR:Nat),v10=.slice AR R.length cR/\iv=.int .i64 q/\q+j=11/\Hid (a0d b9i wk AR R)/\Hid (Els (fun x=>x≠gl) wk R)/\Hid (R.map (·.2)=e0i C q)/\R.length<=cR/\cR<=9223372036854775807/\Hid (Apt AR R [gl])/\Chg [] w2 wk)
    case atStart=>exact ⟨0,E',some ⟨gc,0,none⟩,aN,by rw [a0.out],rfl,rfl,bN,bJ,hid b6,by rw [a0.out];exact aq,aD,hid (fun _ ad e hm=>by injection e with e;subst e;simp at hm;exact ar hm),zR _ _⟩
    case round =>
     clear b6
     obtain ⟨wk,rfl⟩:=zX (wr)
     obtain ⟨q,R,AR,cR,rfl,rfl,cT,bQ,bZ,bk,cg,cs,cN,ae⟩:=hrel
     have bh:Rows C (q+1) (R.map (·.2)):=by rw [bk.out];exact b7j C q
     have ab:=Rows.length bV.out (by rw [aA.out];omega) bh
     have aw:=hid bh
     clear bh
     have cM:R.length<=2*c:=by
      rw [zE,aA.out] at ab
      generalize (c-1) / 2^(q+1-1)=z at ab
      omega
     obtain ⟨m,hm⟩:=zX (R.length)
     rw [<-hm] at cg cM ⊢
     have HM:=hid hm
     have aT:=hid ab
     clear hm ab
     rcases gk with _ | j
     ·obtain rfl:q=11:=by omega
      have ab:=aT.out
      have bK:=HM.out
      have ai:=b8c (freq:=freq) (by rw [<-HN.out];omega) (by rw [<-HN.out,<-HC.out,aA.out];omega) (R:=R.map (·.2)) (by rw [<-HN.out,<-HC.out];exact aw.out)
      rw [<-HN.out,<-HC.out,aA.out] at ai
      have ao:=Rows.syms bV.out aw.out
      have cy:2*c-2<=m:=by
       rw [zE,aA.out,<-bK] at ab
       have:(c-1) / 2^(11+1-1)=0:=Nat.div_eq_of_lt (by omega)
       omega
      obtain ⟨k,hk⟩:=zX (2*c-2)
      rw [<-hk] at ai cy
      have cU:(2:Int)*(c:Int)-2=(k:Int):=by omega
      have cY:(0:Int)<=(k:Int):=by omega
      have cW:(k:Int)<=(cR:Int):=by omega
      have aX:=bu.out.chg ae (by simp)
      have ca:=hid ai
      have ce:=hid ao
      have bP:=bQ.out
      obtain ⟨gR,oR,rfl,ci,bL⟩:=bP.ex (by omega)
      have bC:gR≠gl:=fun e=>cN.out (by omega) _ rfl (by simp [e])
      have cx:=hid bL
      have HK:=hid hk
      clear ai ao ab bK bP bL hk
      go_wp2_with fail
      go_loopg [93] k (fun j iv wz=>∃ (t:Nat),iv=.int .i64 t/\t+j=k/\Row wz 3 (.slice (some ⟨gl,0,none⟩) i i) gl ((a4i i ((R.map (·.2)).take t)).map i64)/\Chg [gl] wk wz)
      case atStart=>exact ⟨0,rfl,by omega,by rw [List.take_zero,d9k];exact aX,zR _ _⟩
      case round =>
       clear aX
       obtain ⟨t,rfl,c4,ac,a5⟩:=hrel
       rcases gk with _ | j
       ·obtain rfl:t=k:=by omega
        have bf:Chg [] w wr:=(aW.tq ae).trans a5 (fun x hx=>by rw [zU.1 hx];exact .inr aP)
        have aZ:d5d freq (a4i i ((R.map (·.2)).take t)):=by
         obtain ⟨f1,f2,f3⟩:=ca.out
         refine ⟨by rw [a7m];exact HN.out,f1,fun s hs=>f2 s (by rw [HN.out];exact hs),fun n hn => ?_⟩
         obtain ⟨s,_,rfl⟩:=List.mem_map.1 hn
         exact f3 s
        have cq:=hid aZ
        clear aZ
        go_wp2
        go_ret2
        have aU:=c1k (freq:=freq) (by rw [<-HN.out,<-HC.out,aA.out];omega)
        rw [<-HN.out,<-HC.out,<-bk.out,aA.out,<-HK.out] at aU
        unfold b3q
        rw [aU]
        exact ⟨_,gl,rfl,ac,cq.out,bf,aP⟩
       ·have a7:t<R.length:=by rw [<-HM.out];omega
        have bA:t+1<=k:=by omega
        have b2:=(bZ.out R[t] (zG _)).chg a5 (fun x hx=>by rw [zU.1 hx];simp)
        have bO:=(World.cell?_of_block (w:=wk) (a5.block gR ci (by simpa using bC))).trans (cx.out t _ (zF a7))
        have bR:t<(R.map (·.2)).length:=by rw [zE];exact a7
        have bb:(R.map (·.2)).take (t+1)=(R.map (·.2)).take t++[R[t].2]:=by
         rw [a0o _ bR];simp
        have a9:=d3s i ((R.map (·.2)).take t) R[t].2
        rw [<-bb] at a9
        have b4:=ce.out R[t].2 (List.mem_map_of_mem (zG a7))
        have aK:∀ s,(a4i i ((R.map (·.2)).take t)).getD s 0+R[t].2.occ s<=4096:=by
         intro s
         have e1:a6f s ((R.map (·.2)).take (t+1))=a6f s ((R.map (·.2)).take t)+R[t].2.occ s:=by
          rw [bb,b4f];simp [a6f]
         have e2:a6f s ((R.map (·.2)).take (t+1))<=12:=by
          have e3:(R.map (·.2)).take (t+1)=((R.map (·.2)).take k).take (t+1):=by rw [List.take_take,Nat.min_eq_left bA]
          rw [e3]
          exact Nat.le_trans (d1g _ _ _) (ca.out.2.2 s)
         by_cases hs:s<i
         ·rw [c1l _ hs];omega
         ·rw [zD,List.getElem?_eq_none (by rw [a7m];omega)]
          show 0+_<=_
          omega
        have bc:=e7a gl i i R[t].2 R[t].1 (a4i i ((R.map (·.2)).take t)) wr (a7m _ _) b4 aK b2 ac
        rw [<-a9] at bc
        obtain ⟨pb,bs⟩:=zX (R[t].1)
        have ch:wr.cell? ⟨gR,oR+t,none⟩=some (.pointer (some ⟨pb,0,none⟩)):=by rw [bs];exact bO
        rw [<-bs] at bc
        have cJ:(0:Int)<=(t:Int):=by omega
        have cj:(t:Int)<(k:Int):=by omega
        clear aK b4 a9 bb bR bO b2 a7 bs ac
        go_wp2_with fail
        refine bc.mono ?_
        rintro e w4 ⟨rfl,r1,r2⟩
        go_wp2_with fail
        go_roundg j
        case measure=>omega
        case rel=>exact ⟨t+1,by go_num,by omega,r1,a5.tq r2⟩
     ·have b0:=Rows.wt_le cE.out aw.out
      have aL:2^(q+1)<=4096:=Nat.le_trans (Nat.pow_le_pow_right (n:=2) (by decide) (show q+1<=12 by omega)) (by decide)
      have cc:=f1w (fun x=>x≠gl) wk (fun x hx=>by have:=ae.size;have:=aV.out;omega) (some ⟨gc,0,none⟩) AR aN cR E' R (by rw [a0.out];omega) (by rw [a0.out];omega) (by rw [<-HM.out];omega)
       (bN.out.same ae) bQ.out (bJ.out.same ae) bZ.out (fun p hp=>by
        have:=b0 p.2 (List.mem_map_of_mem hp)
        have:=Nat.mul_le_mul_left 4096 aL
        omega)
      rw [a0.out,<-HM.out] at cc
      clear b0 aL
      go_wp2_with fail
      refine cc.mono ?_
      rintro e w3 ⟨v3,g3,E3,rfl,r1,r2,r4,r5,r6⟩
      obtain ⟨bd,rfl,cD,bx,_,_⟩:=r1.oq
      have r1:=hid r1
      have r2:=hid r2
      have r4:=hid r4
      go_wp2_with fail
      go_roundg j
      case measure=>omega
      case rel =>
       refine ⟨q+1,E3,some ⟨g3,0,none⟩,bd,rfl,by go_num,by omega,hid (Own.cells r1.out.toOwn),r4,hid ?_,cD,bx,hid (fun _ ad e hm=>by
        injection e with e
        subst e
        simp at hm
        have:=ae.size
        have:=aV.out
        omega),ae.tq r5⟩
       rw [r2.out,cI.out,bk.out]
       rfl
  ·have ct:i<n:=by omega
   have a6:i<freq.length:=by rw [<-HN.out];exact ct
   obtain ⟨g,o,rfl,ah⟩:=(hc.same ap).at_ a6
   have cb:=HF.out freq[i] (zG a6)
   have bT:freq[i]=freq.getD i 0:=by rw [zD,zF a6];rfl
   rw [bT] at ah cb
   have aa:=b7z freq i
   obtain ⟨f,cd⟩:=zX (freq.getD i 0)
   rw [<-cd] at ah cb aa
   have a8:wr.cell? ⟨g,o+i,none⟩=some (.int .i64 f):=ah
   have cJ:(0:Int)<=(i:Int):=by omega
   have cj:(i:Int)<(n:Int):=by omega
   have t3:decide ((f:Int)<0)=false:=zA (by omega)
   have t4:decide ((1099511627776:Int)<(f:Int))=false:=zA (by omega)
   obtain ⟨A6,cA,rfl,aR,bD,_⟩:=ag.oq
   clear ah cd bT a6
   by_cases hf0:0<f
   ·rw [if_pos hf0] at aa
    have br:=hid aa
    have t5:decide ((0:Int)<(f:Int))=true:=zB (by omega)
    clear aa
    have aj:=hid am
    have b3:=hid aO
    have bG:=hid ag.lt
    have bF:=hid ba
    obtain ⟨m,hm⟩:=zX (E.length)
    have HM:=hid hm
    rw [<-hm] at aR ag ba ⊢
    clear am aO hm
    obtain ⟨wx,aG⟩:=zX ((wr.alloc (.cells #[.int .i64 f,.int .i64 i,.slice none 0 0] 252)).alloc (.cells #[.pointer (some ⟨wr.heap.size,0,none⟩)] 250))
    have aB:Chg [] wr wx:=by rw [aG];exact (((zR [] wr).alloc _).alloc _)
    have bl:=ag.same aB
    have cH:wx.cell? ⟨wr.heap.size+1,0,none⟩=some (.pointer (some ⟨wr.heap.size,0,none⟩)):=by
     rw [aG]
     have:=(Blk.new (wr.alloc (.cells #[.int .i64 f,.int .i64 i,.slice none 0 0] 252)) 250 #[.pointer (some ⟨wr.heap.size,0,none⟩)]).cell 0
     simp
    have bY:Blk wx wr.heap.size 252 #[.int .i64 f,.int .i64 i,.slice none 0 0]:=by
     rw [aG]
     exact (Blk.new wr _ _).alloc _
    have ax:wx.heap.size=wr.heap.size+2:=by rw [aG];simp
    have bX:(E.map b9i).length=m:=by rw [zE];exact HM.out.symm
    have HX:=hid aG
    have cK:=hid bY
    have aJ:=hid ax
    have bI:=hid bX
    clear aG bY ax bX
    go_wp2_with (at_builtin;rw [<-HX.out];refine a0f rfl rfl c7t rfl rfl bl (.pointer (some ⟨wr.heap.size,0,none⟩)) rfl cH rfl ?c1 ?c2 ?_)
    case c1=>rw [bI.out];omega
    case c2=>rw [bI.out];omega
    intro g2 cQ w5 cP aM
    go_wp2_with fail
    go_roundg j
    case measure=>omega
    case rel =>
     have bo:Chg [] w w5:=(ap.tq aB).trans aM.chg (fun x hx => .inr (b3.out x hx))
     have cC:w.heap.size<=g2:=by
      rcases aM.new g2 (by simp) with h5 | h5
      ·exact b3.out _ h5
      ·have:=ap.size;have:=aJ.out;omega
     have aY:∀ x,x<wx.heap.size->x∉F6->x≠g2:=fun x hx hn e=>by
      rcases aM.new g2 (by simp) with h5 | h5
      ·exact hn (e ▸ h5)
      ·omega
     have ax:=aJ.out
     have bU:wr.heap.size∉F6:=fun h=>by have:=bG.out _ h;omega
     refine ⟨i+1,E++[(wr.heap.size,.coin i f)],[g2],by go_num,by omega,?_,hid ?_,?_,?_,?_,bo⟩
     ·have e:(E++[(wr.heap.size,El.coin i f)]).map b9i=E.map b9i++[.pointer (some ⟨wr.heap.size,0,none⟩)]:=by rw [zM];rfl
      rw [e]
      exact cP.toOwn
     ·rw [zM,HE.out,br.out];rfl
     ·rw [zC,List.length_singleton];have:=bF.out;omega
     ·intro p hp
      rcases zP.1 hp with h5 | h5
      ·have h6:=((aj.out p h5).same aB).imp (Q:=fun x=>x∉F6/\x≠g2) fun x hx h7=>⟨h7,aY x hx h7⟩
       exact (h6.chg aM.chg (fun x hx h=>h.1 hx)).imp fun x _ h=>by simpa using h.2
      ·rw [zU.1 h5]
       exact ⟨by simpa using aY _ (by omega) bU,cK.out.chg aM.chg bU⟩
     ·intro x hx
      rw [zU.1 hx]
      exact cC
   ·obtain rfl:f=0:=by omega
    rw [if_neg hf0,List.append_nil] at aa
    have br:=hid aa
    clear aa
    go_wp2_with fail
    go_roundg j
    case measure=>omega
    case rel=>exact ⟨i+1,E,F6,by go_num,by omega,ag,hid (by rw [br.out];exact HE.out),by omega,am,aO,ap⟩
def b3k (l:List Nat):Nat:=l.foldl max 0
theorem e3q (l:List Nat) (x:Nat):b3k (l++[x])=max (b3k l) x:=by simp [b3k]
theorem f1s {l:List Nat} {m:Nat} (h:∀ n∈l,n<=m):b3k l<=m:=by
 have aa:∀ (l:List Nat) (a:Nat),a<=m->(∀ n∈l,n<=m)->l.foldl max a<=m:=by
  intro l
  induction l with
  | nil=>intro a ha _;exact ha
  | cons x l ih =>
   intro a ha h
   exact ih _ (by have:=h x (by simp);omega) fun n hn=>h n (by simp [hn])
 exact aa l 0 (Nat.zero_le _) h
theorem c1n {l:List Nat} {x:Nat} (h:x∈l):x<=b3k l:=by
 have aa:∀ (l:List Nat) (a:Nat),a<=l.foldl max a/\∀ x∈l,x<=l.foldl max a:=by
  intro l
  induction l with
  | nil=>intro a;exact ⟨zQ _,by simp⟩
  | cons y l ih =>
   intro a
   obtain ⟨h1,h2⟩:=ih (max a y)
   refine ⟨Nat.le_trans (Nat.le_max_left _ _) h1,fun x hx => ?_⟩
   rcases zJ.1 hx with rfl | hx
   ·exact Nat.le_trans (Nat.le_max_right _ _) h1
   ·exact h2 x hx
 exact (aa l 0).2 x h
theorem e0t (l:List Nat) (x:Nat):b2l (l++[x])=b2l l+if 0<x then 1 else 0:=by
 unfold b2l
 rw [List.countP_append,List.countP_cons]
 simp
theorem d9d (l:List Nat) (x:Nat):a9t (l++[x])=a9t l+if x=0 then 0 else 2^(24-x):=by simp [a9t]
theorem d9e (l:List Nat) (i:Nat):a9t (l.take i)<=a9t l:=by
 have e:a9t l=a9t (l.take i)+a9t (l.drop i):=by
  conv=>lhs;rw [<-List.take_append_drop i l]
  unfold a9t
  rw [zM,List.sum_append]
 omega
theorem f1t {lens:List Nat} (h1:b2l lens=1) (h2:∀ n∈lens,n<=1):b3k lens=1:=by
 have h3:=f1s h2
 have h4:0<b2l lens:=by omega
 obtain ⟨x,hx,hp⟩:=List.countP_pos_iff.1 h4
 have h5:=c1n hx
 have h6:0<x:=of_decide_eq_true hp
 omega
theorem d1d {w:World} {A:Option Addr} {l:List Nat} (h:a0d i64 w A l) {i:Nat} (hi:i<l.length):∃ g o,A=some ⟨g,o,none⟩/\w.cell? ⟨g,o+i,none⟩=some (.int .i64 (l[i]:Nat)):=by
 obtain ⟨g,o,e,c⟩:=h.at_ hi
 exact ⟨g,o,e,c⟩
theorem d5x (lens:List Nat) (A:Option Addr) (cap:Nat) (w:World) (hf:b3p lens) (hc:a0d i64 w A lens) :
  Calls Tryz.prog 221 #[.slice A lens.length cap] w fun e w'=>e=.returned (.bool true)/\w=w':=by
 have hk:=d6l hf
 have ax:=hf.n1
 have aw:=hf.n2
 have af:(b2l lens=1/\b3k lens=1)\/(b2l lens≠1/\a9t lens=16777216):=by
  rcases hf.full with ⟨h1,h2⟩ | ⟨h1,h2⟩
  ·exact .inl ⟨h1,f1t h1 h2⟩
  ·exact .inr ⟨h1,h2⟩
 have ar:=hf.le
 obtain ⟨n,hn⟩:=zX (lens.length)
 rw [<-hn] at ax aw ⊢
 have HN:=hid hn
 have am:=hid af
 have au:=hid ar
 have HK:=hid hk
 clear hn af ar hf hk
 have t1:decide ((n:Int)<1)=false:=zA (by omega)
 have t2:decide ((1024:Int)<(n:Int))=false:=zA (by omega)
 go_enter Tryz.func221,Tryz.ntmps221
 go_wp2_with fail
 go_loopg [3,4,5,18] n (fun j vu vl vs iv wr=>∃ (i u m s:Nat),iv=.int .i64 i/\vu=.int .i64 u/\vl=.int .i64 m/\vs=.int .i64 s/\i+j=n/\Hid (u=b2l (lens.take i))/\Hid (m=b3k (lens.take i))/\Hid (s=a9t (lens.take i))/\u<=i/\m<=24/\s<=16777216/\w=wr)
 case atStart=>exact ⟨0,0,0,0,rfl,rfl,rfl,rfl,by omega,hid rfl,hid rfl,hid rfl,by omega,by omega,by omega,rfl⟩
 case round =>
  obtain ⟨i,u,m,s,rfl,rfl,rfl,rfl,aD,HU,HM,HS,hu,hm,hs,rfl⟩:=hrel
  rcases gk with _ | j
  ·obtain rfl:i=n:=by omega
   have ad:lens.take i=lens:=by rw [HN.out,zN]
   rcases am.out with ⟨h1,h2⟩ | ⟨h1,h2⟩
   ·have e1:u=1:=by rw [HU.out,ad];exact h1
    have e2:m=1:=by rw [HM.out,ad];exact h2
    subst e1
    subst e2
    clear h1 h2 ad
    go_wp2
    go_ret
    exact ⟨rfl,rfl⟩
   ·have e1:u≠1:=by rw [HU.out,ad];exact h1
    have e2:s=16777216:=by rw [HS.out,ad];exact h2
    have t3:((u:Int)==1)=false:=by rw [beq_eq_false_iff_ne];omega
    subst e2
    clear h1 h2 ad e1
    go_wp2
    go_ret
    exact ⟨rfl,rfl⟩
  ·have av:i<n:=by omega
   have ah:i<lens.length:=by rw [<-HN.out];exact av
   obtain ⟨g,o,rfl,ae⟩:=d1d hc ah
   have al:=au.out lens[i] (zG ah)
   have aq:=a0o lens ah
   have ab:=e0t (lens.take i) lens[i]
   have ac:=e3q (lens.take i) lens[i]
   have aa:=d9d (lens.take i) lens[i]
   have ao:=d9e lens (i+1)
   rw [<-aq] at ab ac aa
   rw [<-HU.out] at ab
   rw [<-HM.out] at ac
   rw [<-HS.out] at aa
   obtain ⟨x,hx⟩:=zX (lens[i])
   rw [<-hx] at ae al ab ac aa
   have aE:(0:Int)<=(i:Int):=by omega
   have aC:(i:Int)<(n:Int):=by omega
   have t3:decide ((x:Int)<0)=false:=zA (by omega)
   have t4:decide ((24:Int)<(x:Int))=false:=zA (by omega)
   clear aq hx ah
   by_cases hx0:0<x
   ·have t5:decide ((0:Int)<(x:Int))=true:=zB (by omega)
    rw [if_pos hx0] at ab
    rw [if_neg (by omega)] at aa
    obtain ⟨m2,ag⟩:=zX (max m x)
    have az:max (m:Int) (x:Int)=(m2:Int):=by rw [ag];omega
    have aF:(if (m:Int)<(x:Int) then (x:Int) else (m:Int))=(m2:Int):=by rw [ag];split<;>omega
    obtain ⟨y,hy⟩:=zX (24-x)
    have aG:(24:Int)-(x:Int)=(y:Int):=by omega
    rw [<-hy] at aa
    rw [<-ag] at ac
    have hp:(2:Nat)^y<=16777216:=Nat.le_trans (Nat.pow_le_pow_right (n:=2) (by decide) (show y<=24 by omega)) (by decide)
    obtain ⟨P,hP⟩:=zX (2^y)
    have aB:(2:Int)^y=(P:Int):=by rw [hP];simp
    rw [<-hP] at aa hp
    have aA:s+P<=16777216:=by have:=HK.out;omega
    have ay:y<=24:=by omega
    have ai:=hid ab
    have an:=hid ac
    have ak:=hid aa
    have aj:m2<=24:=by omega
    clear ab ac aa ao ag hP hy
    go_wp2_with fail
    go_roundg j
    case measure=>omega
    case rel=>exact ⟨i+1,u+1,m2,s+P,by go_num,by go_num,rfl,by go_num,by omega,hid ai.out.symm,hid an.out.symm,hid ak.out.symm,by omega,aj,aA,rfl⟩
   ·obtain rfl:x=0:=by omega
    rw [if_neg hx0] at ab
    rw [if_pos rfl] at aa
    have ap:max m 0=m:=by omega
    rw [ap] at ac
    have ai:=hid ab
    have an:=hid ac
    have ak:=hid aa
    clear ab ac aa ao ap
    go_wp2_with fail
    go_roundg j
    case measure=>omega
    case rel=>exact ⟨i+1,u,m,s,by go_num,rfl,rfl,rfl,by omega,hid ai.out.symm,hid an.out.symm,hid ak.out.symm,by omega,hm,hs,rfl⟩
theorem d1p (lens:List Nat) (A:Option Addr) (cap:Nat) (w:World) (hl:lens.length<=1024) (hc:a0d i64 w A lens) :
  Calls Tryz.prog 257 #[.slice A lens.length cap] w fun e w'=>∃ v F,e=.returned v/\Own w' 3 v F ((a0q lens).map i64)/\Chg [] w w'/\∀ x∈F,w.heap.size<=x:=by
 obtain ⟨n,hn⟩:=zX (lens.length)
 rw [<-hn] at hl ⊢
 have HN:=hid hn
 clear hn
 go_enter Tryz.func257,Tryz.ntmps257
 go_wp2_with fail
 go_loopg [3,4,5,6] 24 (fun j vo vn v5 v6 wr=>∃ (m:Nat) (F:List Nat),vn=.int .i64 (m+1:Nat)/\m+j=24/\Own wr 3 vo F ((a1s lens m).map i64)/\(∀ x∈F,w.heap.size<=x)/\Chg [] w wr)
 case atStart=>exact ⟨0,[],rfl,rfl,Own.nil _ _,by simp,zR _ _⟩
 case round =>
  obtain ⟨m,F,rfl,aC,aa,hF,ab⟩:=hrel
  rcases gk with _ | ko
  ·obtain rfl:m=24:=by omega
   go_wp2
   obtain ⟨Ar,cr,rfl,_⟩:=aa.oq
   go_ret
   exact ⟨_,rfl,F,aa,ab,hF⟩
  ·obtain ⟨q,hq⟩:=zX (m+1)
   rw [<-hq]
   have t1:decide ((q:Int)<=24)=true:=zB (by omega)
   have HQ:=hid hq
   have ar:q<=24:=by omega
   have aj:=a6d lens m
   rw [<-hq,<-HN.out] at aj
   have ap:=hid aj
   have aq:=b9n lens m
   rw [<-HN.out] at aq
   clear hq aj
   go_wp2_with fail
   go_loopg [3,5,6,13] n (fun j vo v5 v6 iv wr=>∃ (i:Nat) (F:List Nat),iv=.int .i64 i/\i+j=n/\Own wr 3 vo F ((a1s lens m++a0w lens q i).map i64)/\(a0w lens q i).length<=i/\(∀ x∈F,w.heap.size<=x)/\Chg [] w wr)
   case atStart=>exact ⟨0,F,rfl,by omega,by simpa [a0w] using aa,by simp [a0w],hF,ab⟩
   case round =>
    clear aa hF ab
    obtain ⟨i,F,rfl,az,aa,aD,hF,ab⟩:=hrel
    obtain ⟨Ar,cr,rfl,ax,av,_⟩:=aa.oq
    rcases gk with _ | j
    ·obtain rfl:i=n:=by omega
     rw [<-ap.out] at aa
     have ah:(a1s lens m++a0w lens q i).length=(a1s lens q).length:=by rw [ap.out]
     rw [ah]
     go_wp2_with fail
     go_roundg ko
     case measure=>omega
     case rel =>
      refine ⟨q,F,by go_num,by have:=HQ.out;omega,aa,hF,ab⟩
    ·have au:i<n:=by omega
     have ai:i<lens.length:=by rw [<-HN.out];exact au
     obtain ⟨g,o,rfl,ad⟩:=d1d (hc.same ab) ai
     have ac:=c9m lens q i
     have ak:a0g lens i=lens[i]:=by simp [a0g,zD,ai]
     rw [ak] at ac
     obtain ⟨x,hx⟩:=zX (lens[i])
     rw [<-hx] at ad ac
     have aA:(0:Int)<=(i:Int):=by omega
     have ay:(i:Int)<(n:Int):=by omega
     clear ak hx ai
     by_cases hxq:x=q
     ·subst hxq
      rw [if_pos rfl] at ac
      have ae:=hid ac
      obtain ⟨r,hr⟩:=zX ((a1s lens m++a0w lens x i).length)
      have aB:r<=2048:=by rw [hr,zC];omega
      have an:((a1s lens m++a0w lens x i).map i64).length=r:=by rw [zE];exact hr.symm
      rw [<-hr] at aa ⊢
      have af:=aa.alloc (.cells #[.int .i64 i] 3)
      have hu:(wr.alloc (.cells #[.int .i64 i] 3)).cell? ⟨wr.heap.size,0,none⟩=some (.int .i64 i):=by simp
      have al:=hid an
      have HF:=hid hF
      have ag:Hid (Chg [] w (wr.alloc (.cells #[.int .i64 i] 3))):=hid (ab.alloc _)
      clear ac hr an hF
      go_wp2_with (at_builtin;refine a0f rfl rfl a0p rfl rfl af (.int .i64 i) rfl hu rfl ?c1 ?c2 ?_)
      case c1=>rw [al.out];omega
      case c2=>rw [al.out];omega
      intro g2 aw w5 ao am
      go_wp2_with fail
      go_roundg j
      case measure=>omega
      case rel =>
       refine ⟨i+1,[g2],by go_num,by omega,?_,?_,?_,ag.out.trans am.chg (fun x hx => .inr (HF.out x hx))⟩
       ·have e:(a1s lens m++a0w lens x (i+1)).map i64=(a1s lens m++a0w lens x i).map i64++[.int .i64 i]:=by
         rw [ae.out,<-zH,zM];rfl
        have e2:(List.map i64 (a1s lens m++a0w lens x i)).length+1=(a1s lens m).length+(a0w lens x i).length+1:=by simp
        rw [e]
        simp only [zM,zH] at ao ⊢
        exact ao.toOwn
       ·rw [ae.out,zC,List.length_singleton];omega
       ·intro y hy
        rw [zU.1 hy]
        rcases am.new g2 (by simp) with h5 | h5
        ·exact HF.out _ h5
        ·have:=ab.size
         have e:(wr.alloc (.cells #[.int .i64 i] 3)).heap.size=wr.heap.size+1:=by simp
         omega
     ·have t2:((x:Int)==(q:Int))=false:=by rw [beq_eq_false_iff_ne];omega
      rw [if_neg hxq,List.append_nil] at ac
      have ae:=hid ac
      clear ac
      go_wp2_with fail
      go_roundg j
      case measure=>omega
      case rel=>exact ⟨i+1,F,by go_num,by omega,by rw [ae.out];exact aa,by rw [ae.out];omega,hF,ab⟩
def f3b (x:Nat):Value:=.int .u64 x
theorem f0g:b6m Tryz.prog 256 37 (.int .u64 0) 1 8:=.mk' Tryz.underlying256 (by kernel_rfl)
theorem d5j (lens:List Nat) (A:Option Addr) (cap:Nat) (w:World) (hf:b3p lens) (hc:a0d i64 w A lens) :
  Calls Tryz.prog 222 #[.slice A lens.length cap] w fun e w'=>∃ v g,e=.returned (.tuple #[v,.int .i64 0])/\Row w' 37 v g ((b0d lens).map f3b)/\Chg [] w w'/\w.heap.size<=g:=by
 have aG:=d5x lens A cap w hf hc
 have a5:=hf.n1
 have aN:=hf.n2
 have aF:=fun w hc=>d1p lens A cap w aN hc
 have ay:=b9n lens 24
 obtain ⟨n,hn⟩:=zX (lens.length)
 have bq:=a1p (P:=Tryz.prog) f0g rfl .i64 .i64 n (by omega) (by omega)
 rw [<-hn] at a5 aN aG aF ay ⊢
 have HN:=hid hn
 have HF:=hid hf
 have a0:=hid aF
 clear hn hf aF
 have az:=a3s lens
 rw [<-HN.out] at az
 have aX:=hid az
 clear az
 go_enter Tryz.func222,Tryz.ntmps222
 go_wp2_with fail
 refine aG.mono ?_
 rintro e w' ⟨rfl,rfl⟩
 obtain ⟨w1,aw⟩:=zX (w.alloc (.cells (Array.replicate n (Value.int .u64 0)) 37))
 obtain ⟨B,hB⟩:=zX (w.heap.size)
 have aD:Row w1 37 (.slice (some ⟨B,0,none⟩) n n) B ((a3j lens 0).map f3b):=by
  have:=Row.made w 37 (List.replicate n (Value.int .u64 0)) (by simp [maxLen];omega)
  rw [aw,hB]
  have e:(a3j lens 0).map f3b=List.replicate n (Value.int .u64 0):=by
   unfold a3j
   rw [List.map_replicate,<-HN.out]
   rfl
  rw [e]
  simpa using this
 have ak:Chg [] w w1:=by rw [aw];exact (zR [] w).alloc _
 have ao:=a0.out w1 (hc.same ak)
 have a4:=hid aw
 have HB:=hid hB
 clear aw hB aG
 go_wp2_with fail
 rw [<-a4.out,<-HB.out]
 refine ao.mono ?_
 rintro e w2 ⟨vr,Fr,rfl,aj,aS,aQ⟩
 obtain ⟨Ar,cr,rfl,aJ,a9,aZ⟩:=aj.oq
 have al:=aD.chg aS (by simp)
 have aq:=ak.tq aS
 obtain ⟨rl,ag⟩:=zX ((a0q lens).length)
 have a7:rl<=n:=by rw [ag];exact ay
 rw [<-ag] at aJ ⊢
 have aV:=hid ag
 have aR:w.heap.size<=B:=by have:=HB.out;omega
 have aH:∀ x∈[B],x∉Fr:=fun x hx hm=>by
  rw [zU.1 hx] at hm
  have:=aQ _ hm
  have h6:=aD.lt
  omega
 have aC:Apt Ar (a0q lens) [B]:=aj.apt (fun x hx hm=>aH x hm hx)
 have ba:=al.lt
 clear ao aD aj ak ag aQ ay
 go_wp2_with fail
 go_loopg [5,6,8,18] rl (fun j vw vb v8 iv wr=>∃ (k wd bf:Nat),iv=.int .i64 k/\vw=.int .u64 wd/\vb=.int .i64 bf/\k+j=rl/\Hid ((k=0/\wd=0/\bf=0)\/(0<k/\wd=a4x lens (k-1)/\bf=a0g lens ((a0q lens).getD (k-1) 0)))/\Row wr 37 (.slice (some ⟨B,0,none⟩) n n) B ((a3j lens k).map f3b)/\Chg [B] w2 wr)
 case atStart=>exact ⟨0,0,0,rfl,rfl,rfl,by omega,hid (.inl ⟨rfl,rfl,rfl⟩),al,zR _ _⟩
 case round =>
  clear al
  obtain ⟨k,wd,bf,rfl,rfl,rfl,bk,HK,af,ap⟩:=hrel
  rcases gk with _ | j
  ·obtain rfl:k=rl:=by omega
   have e:b0d lens=a3j lens k:=by unfold b0d;rw [aV.out]
   have ax:Chg [] w wr:=aq.trans ap (fun x hx=>by rw [zU.1 hx];exact .inr aR)
   have HE:=hid e
   clear e
   go_wp2
   go_ret2
   refine ⟨_,B,rfl,?_,ax,aR⟩
   rw [HE.out]
   exact af
  ·have au:k<(a0q lens).length:=by rw [<-aV.out];omega
   have bg:k<rl:=by omega
   obtain ⟨aM,ai,ar⟩:=a4q au
   have am:=aZ.keep aC ap
   obtain ⟨gr,a6,rfl,bm,aK⟩:=am.ex (by omega)
   have cs:=aK k ((a0q lens).getD k 0) (by rw [zD,zF au];rfl)
   have aU:a0d i64 wr A lens:=(hc.same aq).keep (fun _ ad e hm=>by
    obtain ⟨b9,o9,e9,a8,_⟩:=hc.ex (by have:=HN.out;omega)
    rw [e] at e9
    injection e9 with e9
    subst e9
    simp at hm
    omega) ap
   obtain ⟨gl,ol,e7,bd,aL⟩:=aU.ex (by rw [<-HN.out];omega)
   have cl:=aL ((a0q lens).getD k 0) (a0g lens ((a0q lens).getD k 0)) (by unfold a0g;rw [zD (l:=lens),zF ar];rfl)
   obtain ⟨a1,aY,_,_,aT,aP⟩:=af.oq
   have aO:(a3j lens k).length=n:=aX.out k
   have cw:=aT ((a0q lens).getD k 0) ((a3j lens k).getD ((a0q lens).getD k 0) 0) (by rw [zD (l:=a3j lens k),zF (by rw [a3s];exact ar)];rfl)
   have fw:=aP ((a0q lens).getD k 0)
   have ac:=af.set_ (i:=(a0q lens).getD k 0) (by rw [zE,a3s];exact ar) (f3b (a4x lens k))
   rw [<-List.map_set] at ac
   have aI:a3j lens (k+1)=(a3j lens k).set ((a0q lens).getD k 0) (a4x lens k):=rfl
   rw [<-aI] at ac
   have ae:=d2g HF.out au
   rw [<-HN.out] at ar
   have aa:∀ (h:0<k),a4x lens k=(a4x lens (k-1)+1)*2^(a0g lens ((a0q lens).getD k 0)-a0g lens ((a0q lens).getD (k-1) 0))/\a0g lens ((a0q lens).getD (k-1) 0)<=a0g lens ((a0q lens).getD k 0)/\0<a0g lens ((a0q lens).getD (k-1) 0):=fun h=>by
    have h5:=d5a (lens:=lens) (k:=k-1) (by omega)
    have e:k-1+1=k:=by omega
    rw [e] at h5
    exact ⟨h5,c2m (by omega) au,(a4q (k:=k-1) (by omega)).1⟩
   have av:k=0->a4x lens k=0:=fun h=>by rw [h,d5b]
   obtain ⟨s,hs⟩:=zX ((a0q lens).getD k 0)
   rw [<-hs] at cs cl cw fw ac aM ai ar ae aa aI
   obtain ⟨L,hL⟩:=zX (a0g lens s)
   rw [<-hL] at cl aM ai ae aa
   obtain ⟨wn,aB⟩:=zX (a4x lens k)
   rw [<-aB] at ac ae aa av
   have ah:Hid ((k+1=0/\wn=0/\L=0)\/(0<k+1/\wn=a4x lens (k+1-1)/\L=a0g lens ((a0q lens).getD (k+1-1) 0))):=hid (.inr ⟨by omega,by rw [Nat.add_sub_cancel];exact aB,by rw [Nat.add_sub_cancel,<-hs];exact hL⟩)
   have bo:wr.cell? ⟨gr,a6+k,none⟩=some (.int .i64 s):=cs
   have bc:wr.cell? ⟨gl,ol+s,none⟩=some (.int .i64 L):=cl
   have br:wr.cell? ⟨B,s,none⟩=some (.int .u64 ((a3j lens k).getD s 0:Nat)):=cw
   have aE:wn<16777216:=Nat.lt_of_lt_of_le ae (Nat.le_trans (Nat.pow_le_pow_right (n:=2) (by decide) ai) (by decide))
   have ab:Row (wr.setCell ⟨B,s,none⟩ (.int .u64 wn)) 37 (.slice (some ⟨B,0,none⟩) n n) B ((a3j lens (k+1)).map f3b):=ac
   have ab:=hid ab
   generalize (a3j lens k).getD s 0=wo at *
   have bj:(0:Int)<=(k:Int):=by omega
   have be:(k:Int)<(rl:Int):=by omega
   have bn:(0:Int)<=(s:Int):=by omega
   have bh:(s:Int)<(n:Int):=by omega
   have a2:gl≠B:=by
    obtain ⟨b9,o9,e9,a8,_⟩:=hc.ex (by have:=HN.out;omega)
    rw [e7] at e9
    injection e9 with e9
    injection e9 with e9 _ _
    omega
   subst e7
   have HR:=hid af
   clear aY aK aL aT aP ac cs cl cw hL aB hs aI au ae af am aU
   by_cases hk0:k=0
   ·rcases HK.out with ⟨a3,h2,h3⟩ | ⟨h1,_⟩
    ·clear a3
     subst h2
     subst h3
     have aA:=av hk0
     subst aA
     have bi:=hid hk0
     clear aa av hk0
     go_wp2_with fail
     go_roundg j
     case measure=>omega
     case rel=>exact ⟨k+1,0,L,by go_num,rfl,rfl,by omega,hid (by rcases ah.out with ⟨h,_⟩ | h;omega;exact .inr h),ab.out,ap.setCell (.inl (by simp)) _⟩
    ·omega
   ·rcases HK.out with ⟨h1,_⟩ | ⟨h1,h2,h3⟩
    ·omega
    ·obtain ⟨k1,k2,k3⟩:=aa h1
     rw [<-h2,<-h3] at k1
     rw [<-h3] at k2 k3
     obtain ⟨d,hd⟩:=zX (L-bf)
     rw [<-hd] at k1
     have bp:(L:Int)-(bf:Int)=(d:Int):=by omega
     have aW:d<=24:=by omega
     have t1:decide ((0:Int)<(bf:Int))=true:=zB (by omega)
     have an:((wd:Int)+1)*(2:Int)^d=(wn:Int):=by rw [k1];simp
     have bb:IntKind.u64.wrap (((wd:Int)+1)*(2:Int)^d)=(wn:Int):=by rw [an];exact IntWalk.u64_in _ (by omega)
     have bl:wd+1<=16777216:=by
      have:wd+1<=wn:=by rw [k1];exact Nat.le_mul_of_pos_right _ (Nat.two_pow_pos _)
      omega
     clear k1 h2 h3 hd aa av HK k2 hk0
     go_wp2_with fail
     go_roundg j
     case measure=>omega
     case rel=>exact ⟨k+1,wn,L,by go_num,rfl,rfl,by omega,ah,ab.out,ap.setCell (.inl (by simp)) _⟩
end Go.Proofs.YtepjepkgcdfboaaGreatDoor
