/- package hue by its contracts: pictures turned and turned back. Printed by wip/mkhue2.py. -/
import Derived.Test.YtepjepkgcdfboaaGreatDoorMg40
import Derived.Test.YtepjepkgcdfboaaGreatDoorMg42
set_option linter.unusedVariables false
set_option linter.unusedSimpArgs false
set_option maxHeartbeats 2000000
set_option maxRecDepth 100000
namespace Go.Proofs.YtepjepkgcdfboaaGreatDoor
open Go.RowKit
def e0z (P:List (List Int)) (i k:Nat):List Int:=(List.range 4).map fun j=>if j<k then (P.getD j []).getD i 0 else 0
theorem c2h {P:List (List Int)} (i:Nat):e0z P i P.length=pt4 P i:=by
 unfold e0z pt4
 apply List.map_congr_left
 intro j _
 split
 ·rfl
 ·rename_i h
  rw [zD (l:=P),List.getElem?_eq_none (by omega)]
  rfl
theorem c7s (P:List (List Int)) (i:Nat) {k:Nat} (hk:k<4):(e0z P i k).set k ((P.getD k []).getD i 0)=e0z P i (k+1):=by
 rcases (by omega:k=0\/k=1\/k=2\/k=3) with rfl | rfl | rfl | rfl<;>rfl
theorem c7r (P:List (List Int)) (i k:Nat):(e0z P i k).length=4:=by simp [e0z]
theorem Blk.set_vi {w:World} {g:Nat} {t:TypeId} {l:List Int} (h:Blk w g t (l.map vi).toArray) (k:Nat) (v:Int):Blk (w.setCell ⟨g,k,none⟩ (.int .i64 v)) g t ((l.set k v).map vi).toArray:=by
 have h1:=h.set_ k (.int .i64 v)
 have e:(l.map vi).toArray.setIfInBounds k (.int .i64 v)=((l.set k v).map vi).toArray:=by
  apply Array.ext'
  simp [List.map_set,vi]
 rwa [e] at h1
theorem Blk.vi_cell {w:World} {g:Nat} {t:TypeId} {l:List Int} (h:Blk w g t (l.map vi).toArray) {k:Nat} (hk:k<l.length):w.cell? ⟨g,k,none⟩=some (.int .i64 (l.getD k 0)):=by
 rw [h.cell k,zD,zF hk]
 simp [vi,hk]
theorem b5n {l:List Int} (h:l.length=4):∃ a b c e,l=[a,b,c,e]:=by
 match l,h with
 | [a,b,c,e],_=>exact ⟨a,b,c,e,rfl⟩
structure Box (w:World) (x:Nat) (a b c v:Value):Prop where
 blk:Blk w x 27 #[a,b,c,v]
theorem Box.cells {w:World} {x:Nat} {a b c v:Value} (h:Box w x a b c v):w.cell? ⟨x,0,none⟩=some a/\w.cell? ⟨x,1,none⟩=some b/\w.cell? ⟨x,2,none⟩=some c/\w.cell? ⟨x,3,none⟩=some v:=⟨h.blk.cell 0,h.blk.cell 1,h.blk.cell 2,h.blk.cell 3⟩
theorem Box.chg {w w':World} {x:Nat} {a b c v:Value} {F:List Nat} (h:Box w x a b c v) (hc:Chg F w w') (hx:x∉F):Box w' x a b c v:=⟨h.blk.chg hc hx⟩
theorem Box.same {w w':World} {x:Nat} {a b c v:Value} (h:Box w x a b c v) (hc:Chg [] w w'):Box w' x a b c v:=⟨h.blk.chg hc (by simp)⟩
theorem d6v {p q:a2a} (h:p.Ok) (hq:q.Ok) (ha:c9a p q):b8z p q (p.W*p.H) 0=q:=by
 obtain ⟨W,H,d,P⟩:=q
 have e:=e3u (P:=p.P) (Q:=P) (N:=p.W*p.H) ha.n.symm (fun j hj=>h.len _ (a0n hj)) (fun j hj=>by
  have:=hq.len _ (a0n (P:=P) (j:=j) (by rw [<-show p.P.length=P.length from ha.n];exact hj))
  rw [<-show p.W=W from ha.W,<-show p.H=H from ha.H] at this
  exact this)
 unfold b8z
 rw [e]
 have h1:p.W=W:=ha.W
 have h2:p.H=H:=ha.H
 have h3:p.d=d:=ha.d
 rw [h1,h2,h3]
theorem b1x {F:Func} {Q:Ending->World->Prop} {a:Act} {Y:World} {C:Nat} {z0 z1 z2 z3 v0 v1 v2 v3:Value} (hY:Box Y C z0 z1 z2 z3)
  (h:∀ X,Box X C v0 v1 v2 v3->Chg [C] Y X->bodyPost Tryz.prog F Q .ret a X) :
  bodyPost Tryz.prog F Q .ret a ((((Y.setCell ⟨C,0,none⟩ v0).setCell ⟨C,1,none⟩ v1).setCell ⟨C,2,none⟩ v2).setCell ⟨C,3,none⟩ v3) :=
 a9x hY.blk fun X h1 h2=>h X ⟨h1⟩ h2
def a2x (w:World) (p:a2a) (e:Ending) (w':World):Prop :=
 ∃ (gP capP:Nat) (xs:List Value) (gs:List Nat),e=.returned (.tuple #[a6y p gP 0 capP,.int .i64 0])/\a1x w' p gP capP xs gs/\Chg [] w w'/\∀ x∈gP::gs,w.heap.size<=x
def f0j:Value:=.agg #[.int .i64 0,.int .i64 0,.int .i64 0,.slice none 0 0]
theorem e2w {w:World} {p:a2a} {g o:Nat} {B:Nat->Option Addr} {c:Nat->Nat} {G:List Nat} (cap:Nat) (h:a4l w p g o B c G) (k:Nat) (k4:k<=4) (hm:b9k p.P.length k=false) :
  Calls Tryz.prog 13 #[a6y p g o cap,.int .i64 k] w fun e w'=>e=.returned (.tuple #[f0j,.int .i64 1])/\Chg [] w w':=by
 have ad:=h.ok
 have af:∀ w',Chg [] w w'->_:=fun w' (hc':Chg [] w w')=>c1d cap (h.same hc')
 have ah:=fun w'=>c0z p.P.length k w' ad.n0 ad.n1 k4
 rw [hm] at ah
 unfold a6y at af ⊢
 obtain ⟨w1,aa⟩:=zX (((w.alloc (.cells #[.int .i64 p.W,.int .i64 p.H,.int .i64 p.d,.slice (some ⟨g,o,none⟩) p.P.length cap] 27)).alloc (.cells #[.int .i64 0,.int .i64 0,.int .i64 0,.slice none 0 0] 27)))
 have ae:Box w1 w.heap.size (.int .i64 p.W) (.int .i64 p.H) (.int .i64 p.d) (.slice (some ⟨g,o,none⟩) p.P.length cap):=⟨by rw [aa];exact (Blk.new w _ _).alloc _⟩
 have ai:Box w1 (w.heap.size+1) (.int .i64 0) (.int .i64 0) (.int .i64 0) (.slice none 0 0):=⟨by rw [aa];exact Blk.new2 w _ _ _⟩
 have ag:Chg [] w w1:=by rw [aa];exact ((zR [] w).alloc _).alloc _
 have ak:=hid aa
 have aj:=hid ag
 have an:=hid ae
 have am:=hid ai
 have al:=hid af
 obtain ⟨a0,a1,a2,a3⟩:=ae.cells
 clear aa ag ae ai af ad h hm
 go_enter Tryz.func13,Tryz.ntmps13
 go_wp2_with fail
 rw [<-ak.out]
 refine (al.out w1 aj.out).mono ?_
 rintro e w2 ⟨rfl,ab⟩
 obtain ⟨a0,a1,a2,a3⟩:=(an.out.same ab).cells
 have hz:=am.out.same ab
 obtain ⟨z0,z1,z2,z3⟩:=hz.cells
 have f0:=hz.blk.frozen 0
 have f1:=hz.blk.frozen 1
 have f2:=hz.blk.frozen 2
 have f3:=hz.blk.frozen 3
 have ac:=hid (aj.out.tq ab)
 have HZ:=hid hz
 clear ab hz
 go_wp2_with fail
 refine (ah _).mono ?_
 rintro e w3 ⟨rfl,rfl⟩
 go_wp2_with fail
 refine b1x HZ.out ?_
 intro X hX hY
 obtain ⟨x0,x1,x2,x3⟩:=hX.cells
 refine bodyPost_ret (v:=.tuple #[f0j,.int .i64 1]) (by simp [results,Tryz.results13,go_sem,x0,x1,x2,x3,f0j]) rfl ?_
 exact ⟨rfl,ac.out.trans hY (fun x hx => .inr (by simp at hx;omega))⟩
theorem d6e {w:World} {p:a2a} {g o:Nat} {B:Nat->Option Addr} {c:Nat->Nat} {G:List Nat} (cap:Nat) (h:a4l w p g o B c G) (k:Nat) (k4:k<=4) (hm:b9k p.P.length k=true) :
  Calls Tryz.prog 13 #[a6y p g o cap,.int .i64 k] w (a2x w (a3p k p)):=by
 unfold a2x
 have ab:=h.ok
 have aX:∀ w',Chg [] w w'->_:=fun w' (hc':Chg [] w w')=>c1d cap (h.same hc')
 have aU:∀ w',Chg [] w w'->_:=fun w' (hc':Chg [] w w')=>e1r cap (h.same hc')
 have aY:=fun w'=>c0z p.P.length k w' ab.n0 ab.n1 k4
 rw [hm] at aY
 obtain ⟨q,hq⟩:=zX (a3p k p)
 have bM:q.Ok:=by rw [hq];exact b2t ab k
 have az:c9a p q:=by rw [hq];exact ⟨rfl,rfl,rfl,(a3y _ _ _).symm⟩
 have aT:∀ i wz,i<p.W*p.H->∃ a b c e y0 y1 y2 y3,pt4 p.P i=[a,b,c,e]/\Calls Tryz.prog 44 #[.agg #[.int .i64 a,.int .i64 b,.int .i64 c,.int .i64 e],.int .i64 k,.int .i64 p.d] wz (fun en w'=>en=.returned (.agg #[.int .i64 y0,.int .i64 y1,.int .i64 y2,.int .i64 y3])/\Chg [] wz w')/\∀ j,j<p.P.length->(q.P.getD j []).getD i 0=[y0,y1,y2,y3].getD j 0:=by
  intro i wz hi
  obtain ⟨y0,y1,y2,y3,hy⟩:=b5n (e2n k p.d ((p.P.getD 0 []).getD i 0) ((p.P.getD 1 []).getD i 0) ((p.P.getD 2 []).getD i 0) ((p.P.getD 3 []).getD i 0))
  have hc:=d8u k p.d _ _ _ _ wz ab.d0 ab.d1 k4 (a6a ab i 0) (a6a ab i 1) (a6a ab i 2) (a6a ab i 3)
  rw [hy] at hc
  refine ⟨_,_,_,_,y0,y1,y2,y3,e4v _ _,hc,fun j hj => ?_⟩
  rw [hq,<-hy]
  exact b6g hj hi
 obtain ⟨n,hn⟩:=zX (p.P.length)
 obtain ⟨N,hN⟩:=zX (p.W*p.H)
 have cm:n<=4:=by rw [hn];exact ab.n1
 have co:N<=4096:=by rw [hN];exact ab.area
 have bu:∀ wz,Chg [] w wz->∀ j,j<n->∃ b q,wz.cell? ⟨g,o+j,none⟩=some (.slice (some ⟨b,q,none⟩) N (c j))/\b∈G/\∀ i,i<N->wz.cell? ⟨b,q+i,none⟩=some (.int .i64 ((p.P.getD j []).getD i 0)):=by
  intro wz hc j hj
  rw [hn] at hj
  obtain ⟨b,q,e,hb,bS⟩:=(h.same hc).at_ hj
  have aH:=(h.same hc).cell j hj
  rw [e,<-hN] at aH
  exact ⟨b,q,aH,hb,fun i hi=>bS i (by rw [<-hN];exact hi)⟩
 have bN:=h.gG
 have bD:=h.lt
 rw [<-hN] at aT
 rw [<-hq]
 have bE:a6y q=fun gP o' cap' => .agg #[.int .i64 p.W,.int .i64 p.H,.int .i64 p.d,.slice (some ⟨gP,o',none⟩) n cap']:=by
  funext gP o' cap'
  unfold a6y
  rw [az.W,az.H,az.d,hn,az.n]
 rw [bE]
 unfold a6y at aX aU ⊢
 rw [<-hn] at aX aU aY aT ⊢
 obtain ⟨w1,aK⟩:=zX (((w.alloc (.cells #[.int .i64 p.W,.int .i64 p.H,.int .i64 p.d,.slice (some ⟨g,o,none⟩) n cap] 27)).alloc (.cells #[.int .i64 0,.int .i64 0,.int .i64 0,.slice none 0 0] 27)))
 obtain ⟨X2,aA⟩:=zX (w.heap.size)
 obtain ⟨X4,ap⟩:=zX (X2+1)
 have a7:Box w1 X2 (.int .i64 p.W) (.int .i64 p.H) (.int .i64 p.d) (.slice (some ⟨g,o,none⟩) n cap):=⟨by rw [aK,aA];exact (Blk.new w _ _).alloc _⟩
 have bc:Box w1 X4 (.int .i64 0) (.int .i64 0) (.int .i64 0) (.slice none 0 0):=⟨by rw [aK,ap,aA];exact Blk.new2 w _ _ _⟩
 have bK:Chg [] w w1:=by rw [aK];exact ((zR [] w).alloc _).alloc _
 have HX:Hid (X2=w.heap.size/\X4=X2+1/\X4<w1.heap.size):=hid ⟨aA,ap,bc.blk.lt⟩
 have ck:(p.W:Int)*(p.H:Int)=(N:Int):=by rw [hN];simp
 have cn:=ab.w1
 have cr:=ab.h1
 have cl:=ab.d1
 have HN:Hid (n=p.P.length/\N=p.W*p.H):=hid ⟨hn,hN⟩
 have cg:=hid aK
 have am:=hid bK
 have bm:=hid a7
 have cb:=hid bc
 have bP:=hid aX
 have bZ:=hid aU
 have bR:=hid bu
 have b4:=hid aT
 have a9:=hid ab
 have HQ:=hid bM
 have aO:=hid az
 have be:=hid bD
 have bz:=hid bN
 have bQ:=hid aA
 have bW:=hid ap
 obtain ⟨a0,a1,a2,a3⟩:=a7.cells
 clear aK bK a7 bc aX ab h hm aA ap aU bu aT hn hN hq bM az bE bD bN
 go_enter Tryz.func13,Tryz.ntmps13
 go_wp2_with fail
 rw [<-cg.out,<-bQ.out,<-bW.out]
 refine (bP.out w1 am.out).mono ?_
 rintro e w2 ⟨rfl,bg⟩
 obtain ⟨a0,a1,a2,a3⟩:=(bm.out.same bg).cells
 have ay:=hid bg
 clear bg
 go_wp2_with fail
 refine (aY _).mono ?_
 rintro e w3 ⟨rfl,rfl⟩
 clear aY
 go_wp2_with fail
 refine (bZ.out w2 (am.out.tq ay.out)).mono ?_
 rintro e w3 ⟨gP,ad,xs,gs,rfl,aj,bC,aB⟩
 obtain ⟨w4,aF⟩:=zX (w3.alloc (.cells #[.int .i64 p.W,.int .i64 p.H,.int .i64 p.d,.slice (some ⟨gP,0,none⟩) n ad] 27))
 obtain ⟨X6,aZ⟩:=zX (w3.heap.size)
 have bk:Chg [] w3 w4:=by rw [aF];exact (zR [] w3).alloc _
 have bn:Box w4 X6 (.int .i64 p.W) (.int .i64 p.H) (.int .i64 p.d) (.slice (some ⟨gP,0,none⟩) n ad):=⟨by rw [aF,aZ];exact Blk.new w3 _ _⟩
 have ar:Chg [] w1 w4:=(ay.out.tq bC).tq bk
 have bv:∀ x∈gP::gs,w1.heap.size<=x/\x<X6:=fun x hx=>⟨by have:=aB x hx;have:=ay.out.size;omega,by
  rw [aZ]
  rcases zJ.1 hx with rfl | h1
  ·exact aj.ltP
  ·exact aj.pl.lt x h1⟩
 have al:=aj.same bk
 obtain ⟨a0,a1,a2,a3⟩:=(bm.out.same ar).cells
 rw [aF] at a0 a1 a2 a3
 have aC:=bn.blk.lt
 have ch:=hid aF
 have ca:=hid aZ
 have aa:=hid ar
 have aq:=hid bv
 have ba:=hid al
 have cf:=hid bn
 have af:=hid aC
 clear aF aZ bk bn ar bv al bC aB aj aC
 go_wp2_with fail
 rw [<-ch.out,<-ca.out]
 go_loopg [7,8,9,10,11,12,32] N (fun j v7 v8 v9 v10 v11 v12 v32 wr=>∃ i:Nat,v32=.int .i64 i/\i+j=N/\Hid (a1x wr (b8z p q i 0) gP ad xs gs)/\Hid (Chg gs w4 wr))
 case atStart=>exact ⟨0,rfl,by omega,hid (by unfold b8z;rw [c1p];exact ba.out),hid (zR _ _)⟩
 case round =>
  obtain ⟨i,rfl,cp,HO,ax⟩:=hrel
  have aN:∀ x,x<w1.heap.size\/X6<=x->x∉gP::gs:=fun x hx hm=>by have:=aq.out x hm;omega
  have ai:=hid aN
  have bI:=fun (E:List Nat) wz (hz:Chg E wr wz) (hE:∀ x,x<w1.heap.size\/x=X6->x∉E)=>And.intro
   ((((bm.out.same aa.out).chg ax.out (fun hm=>ai.out X2 (.inl (by have:=HX.out;omega)) (by simp [hm]))).chg hz (hE X2 (.inl (by have:=HX.out;omega)))))
   (And.intro ((((cb.out.same aa.out).chg ax.out (fun hm=>ai.out X4 (.inl (by have:=HX.out;omega)) (by simp [hm]))).chg hz (hE X4 (.inl (by have:=HX.out;omega)))))
   ((cf.out.chg ax.out (fun hm=>ai.out X6 (.inr (zQ _)) (by simp [hm]))).chg hz (hE X6 (.inr rfl))))
  have aL:=hid bI
  clear bI aN
  rcases gk with _ | j
  ·obtain rfl:i=N:=by omega
   have t1:decide ((i:Int)<(i:Int))=false:=by simp
   obtain ⟨h1,h2,h3⟩:=aL.out [] wr (zR _ _) (by simp)
   obtain ⟨a0,a1,a2,a3⟩:=h1.cells
   obtain ⟨b0,b1,b2,b3⟩:=h3.cells
   obtain ⟨z0,z1,z2,z3⟩:=h2.cells
   have f0:=h2.blk.frozen 0
   have f1:=h2.blk.frozen 1
   have f2:=h2.blk.frozen 2
   have f3:=h2.blk.frozen 3
   have HZ:=hid h2
   clear h1 h2 h3
   go_wp2_with fail
   refine b1x HZ.out ?_
   intro X hX hY
   obtain ⟨x0,x1,x2,x3⟩:=hX.cells
   refine bodyPost_ret (v:=.tuple #[.agg #[.int .i64 p.W,.int .i64 p.H,.int .i64 p.d,.slice (some ⟨gP,0,none⟩) n ad],.int .i64 0]) (by simp [results,Tryz.results13,go_sem,x0,x1,x2,x3]) rfl ?_
   have ho:=HO.out
   have e:=HN.out.2
   rw [e,d6v a9.out HQ.out aO.out] at ho
   have ap:X4∉gP::gs:=ai.out X4 (.inl (by have:=HX.out;omega))
   refine ⟨gP,ad,xs,gs,rfl,ho.chg hY (by simp;exact fun e=>ap (by simp [e])) (fun x hx hm=>by simp at hm;subst hm;exact ap (by simp [hx])),?_,fun x hx=>by have:=aq.out x hx;have:=am.out.size;omega⟩
   refine ((am.out.tq aa.out).trans ax.out (fun x hx => .inr ?_)).trans hY (fun x hx => .inr ?_)
   ·have:=aq.out x (by simp [hx]);have:=am.out.size;omega
   ·simp at hx
    have:=HX.out
    omega
  ·have hi:i<N:=by omega
   have t1:decide ((i:Int)<(N:Int))=true:=zB (by omega)
   obtain ⟨wo,rfl⟩:=zX (wr)
   obtain ⟨wr0,ae⟩:=zX (wo.alloc (.cells #[.int .i64 0,.int .i64 0,.int .i64 0,.int .i64 0] 86))
   obtain ⟨X8,aV⟩:=zX (wo.heap.size)
   have aQ:Chg [] wo wr0:=by rw [ae];exact (zR [] wo).alloc _
   have bA:Blk wr0 X8 86 ((e0z p.P i 0).map vi).toArray:=by rw [ae,aV];exact Blk.new wo _ _
   have aI:w4.heap.size<=X8:=by rw [aV];exact ax.out.size
   obtain ⟨h1,h2,h3⟩:=aL.out [] wr0 aQ (by simp)
   obtain ⟨a0,a1,a2,a3⟩:=h1.cells
   have an:=HO.out.same aQ
   rw [ae] at a0 a1 a2 a3
   have bV:=hid ae
   have bT:=hid aV
   have bw:=hid aQ
   have b6:=hid bA
   have ac:=hid aI
   have bX:=hid an
   clear ae aV aQ bA h1 h2 h3 aI an
   have bq:∀ wz,Chg [X8] wr0 wz->∀ j,j<n->∃ b q,wz.cell? ⟨g,o+j,none⟩=some (.slice (some ⟨b,q,none⟩) N (c j))/\wz.cell? ⟨b,q+i,none⟩=some (.int .i64 ((p.P.getD j []).getD i 0)):=by
    intro wz hz j hj
    have bx:Chg (X8::gs) w wz:=(((am.out.tq aa.out).mono (F':=X8::gs) (by simp)).trans (ax.out.mono (F':=X8::gs) (by simp +contextual)) (fun x hx => .inl hx)).trans ((bw.out.mono (F':=X8::gs) (by simp)).trans (hz.mono (F':=X8::gs) (by simp +contextual)) (fun x hx => .inl hx)) (fun x hx => .inl hx)
    obtain ⟨b,q,e1,hb,e2⟩:=bR.out w (zR _ _) j hj
    have aE:∀ x∈G,x∉X8::gs:=fun x hx hm=>by
     have:=be.out x hx
     rcases zJ.1 hm with rfl | hm
     ·have:=ac.out;have:=am.out.size;have:=aa.out.size;omega
     ·have:=aq.out x (by simp [hm]);have:=am.out.size;omega
    exact ⟨b,q,(World.cell?_of_block (w:=w) (bx.block g (be.out g bz.out) (aE g bz.out))).trans e1,(World.cell?_of_block (w:=w) (bx.block b (be.out b hb) (aE b hb))).trans (e2 i hi)⟩
   have bj:=hid bq
   clear bq
   go_wp2_with fail
   rw [<-bV.out,<-bT.out]
   go_loopg [9,10,38] n (fun j2 v9 v10 v38 wz=>∃ k2:Nat,v38=.int .i64 k2/\k2+j2=n/\Hid (Blk wz X8 86 ((e0z p.P i k2).map vi).toArray)/\Hid (Chg [X8] wr0 wz))
   case atStart=>exact ⟨0,rfl,by omega,b6,hid (zR _ _)⟩
   case round =>
    obtain ⟨k2,rfl,cq,aW,bi⟩:=hrel
    rcases gk with _ | j2
    ·obtain rfl:k2=n:=by omega
     have t2:decide ((k2:Int)<(k2:Int))=false:=by simp
     have aD:∀ x,x<w1.heap.size\/x=X6->x∉[X8]:=fun x hx hm=>by simp at hm;have:=ac.out;have:=af.out;have:=aa.out.size;omega
     have av:Chg [X8] wo wr:=(bw.out.mono (by simp)).trans bi.out (fun x hx => .inl hx)
     obtain ⟨h1,h2,h3⟩:=aL.out [X8] wr av aD
     obtain ⟨a0,a1,a2,a3⟩:=h1.cells
     have ak:=aW.out
     rw [HN.out.1,c2h] at ak
     obtain ⟨a,b,c',e',y0,y1,y2,y3,bL,ao,hy⟩:=b4.out i wr hi
     rw [bL] at ak
     have k0:=ak.cell 0
     have k1:=ak.cell 1
     have a5:=ak.cell 2
     have k3:=ak.cell 3
     simp [vi] at k0 k1 a5 k3
     have aJ:=hid ao
     have HY:=hid hy
     have bh:=hid ak
     have bf:=hid av
     clear aD av h1 h2 h3 ak bL ao hy
     go_wp2_with fail
     refine aJ.out.mono ?_
     rintro e w9 ⟨rfl,bb⟩
     have ag:=bh.out.chg bb (by simp)
     have k0:=ag.cell 0
     have k1:=ag.cell 1
     have a5:=ag.cell 2
     have k3:=ag.cell 3
     have f0:=ag.frozen 0
     have f1:=ag.frozen 1
     have f2:=ag.frozen 2
     have f3:=ag.frozen 3
     simp [vi] at k0 k1 a5 k3
     obtain ⟨wB,aM⟩:=zX (((((w9.setCell ⟨X8,0,none⟩ (.int .i64 y0)).setCell ⟨X8,1,none⟩ (.int .i64 y1)).setCell ⟨X8,2,none⟩ (.int .i64 y2)).setCell ⟨X8,3,none⟩ (.int .i64 y3)))
     have bG:Blk wB X8 86 (([y0,y1,y2,y3]:List Int).map vi).toArray:=by
      rw [aM]
      have:=(((ag.set_ 0 (.int .i64 y0)).set_ 1 (.int .i64 y1)).set_ 2 (.int .i64 y2)).set_ 3 (.int .i64 y3)
      simpa [vi] using this
     have aP:Chg [X8] wo wB:=by
      have:=((((zR [X8] w9).setCell (p:=⟨X8,0,none⟩) (.inl (by simp)) (.int .i64 y0)).setCell (p:=⟨X8,1,none⟩) (.inl (by simp)) (.int .i64 y1)).setCell (p:=⟨X8,2,none⟩) (.inl (by simp)) (.int .i64 y2)).setCell (p:=⟨X8,3,none⟩) (.inl (by simp)) (.int .i64 y3)
      rw [aM]
      exact (bf.out.tq (bb.mono (by simp))).tq this
     have aD:∀ x,x<w1.heap.size\/x=X6->x∉[X8]:=fun x hx hm=>by simp at hm;have:=ac.out;have:=af.out;have:=aa.out.size;omega
     have aw:∀ x∈gP::gs,x∉[X8]:=fun x hx hm=>by simp at hm;have:=aq.out x hx;have:=ac.out;have:=af.out;omega
     obtain ⟨h1,h2,h3⟩:=aL.out [X8] wB aP aD
     obtain ⟨b0,b1,b2,b3⟩:=h3.cells
     have aG:=HO.out.chg aP (aw gP (by simp)) (fun x hx=>aw x (by simp [hx]))
     have b5:=hid aM
     have b9:=hid bG
     have bH:=hid aP
     have bY:=hid aG
     rw [aM] at b0 b1 b2 b3
     clear ag aM bG aP aG h1 h2 h3 aD aw a0 a1 a2 a3 bb
     go_wp2_with fail
     rw [<-b5.out]
     clear b0 b1 b2 b3 k0 k1 a5 k3 f0 f1 f2 f3
     go_loopg [11,12,58] k2 (fun j2 v11 v12 v58 wz=>∃ k3:Nat,v58=.int .i64 k3/\k3+j2=k2/\Hid (a1x wz (b8z p q i k3) gP ad xs gs)/\Hid (Chg gs wB wz))
     case atStart=>exact ⟨0,rfl,by omega,bY,hid (zR _ _)⟩
     case round =>
      obtain ⟨k3,rfl,cd,a4,ah⟩:=hrel
      have h8:X8∉gs:=fun hm=>by have:=aq.out X8 (by simp [hm]);have:=ac.out;have:=af.out;omega
      have bl:=b9.out.chg ah.out h8
      rcases gk with _ | j3
      ·obtain rfl:k3=k2:=by omega
       have t3:decide ((k3:Int)<(k3:Int))=false:=by simp
       clear bl h8
       go_wp2_with fail
       go_roundg j
       case measure=>omega
       case rel =>
        refine ⟨i+1,by go_num,by omega,hid ?_,hid ?_⟩
        ·have:=a4.out
         unfold b8z at this ⊢
         rw [HN.out.1,d1b] at this
         exact this
        ·refine (ax.out.trans bH.out (fun x hx => .inr (by simp at hx;have:=ac.out;omega))).trans ah.out (fun x hx => .inl hx)
      ·have cj:k3<k2:=by omega
       have t3:decide ((k3:Int)<(k2:Int))=true:=zB (by omega)
       have aS:k3<(b8z p q i k3).P.length:=by show _<(b1u _ _ _ _).length;rw [a4j,<-HN.out.1];exact cj
       obtain ⟨g3,c3,e1,e2,e3,e4⟩:=a4.out.plane aS
       have a6:(b8z p q i k3).W*(b8z p q i k3).H=N:=HN.out.2.symm
       rw [a6] at e1 e3 e4
       have au:((b8z p q i k3).P.getD k3 []).length=N:=by rw [<-a6];exact (a4.out.ok).len _ (a0n aS)
       obtain ⟨_,_,_,_,aH,br⟩:=e3.oq
       have cc:=br i
       have bF:wr.cell? ⟨g3,i,none⟩=some (.int .i64 (((b8z p q i k3).P.getD k3 []).getD i 0)):=by
        refine aH i _ ?_
        rw [zD (l:=(b8z p q i k3).P.getD k3 []),zF (by rw [au];exact hi)]
        rfl
       have bU:=bl.vi_cell (k:=k3) (by simp;omega)
       obtain ⟨h1,h2,bJ⟩:=aL.out (X8::gs) wr ((bH.out.mono (by simp)).trans (ah.out.mono (by simp +contextual)) (fun x hx => .inl hx)) (fun x hx hm=>by
        rcases zJ.1 hm with e | hm
        ·have:=ac.out;have:=af.out;have:=aa.out.size;omega
        ·have:=aq.out x (by simp [hm]);omega)
       obtain ⟨b0,b1,b2,b3⟩:=bJ.cells
       have bo:a1x (wr.setCell ⟨g3,i,none⟩ (.int .i64 ([y0,y1,y2,y3].getD k3 0))) (b8z p q i (k3+1)) gP ad xs gs:=by
        refine a4.out.sample e1 e2 aS e3 (by rw [au];exact hi) (e3t a9.out HQ.out aO.out _ _) ?_
        rw [<-HY.out k3 (by have:=HN.out.1;omega)]
        exact (c5l (by have:=HN.out.1;omega) (by rw [a9.out.len _ (a0n (by have:=HN.out.1;omega)),<-HN.out.2];exact hi) (by rw [HQ.out.len _ (a0n (by have:=HN.out.1;have:=aO.out.n;omega)),<-aO.out.W,<-aO.out.H,<-HN.out.2];exact hi)).symm
       have bB:g3∈gs:=List.mem_of_getElem? e2
       have bp:Chg gs wB (wr.setCell ⟨g3,i,none⟩ (.int .i64 ([y0,y1,y2,y3].getD k3 0))):=ah.out.setCell (.inl bB) _
       obtain ⟨yv,bs⟩:=zX ([y0,y1,y2,y3].getD k3 0)
       rw [<-bs] at bU bo bp
       have b7:=hid bo
       have bO:=hid bp
       clear bo bp bs h1 h2 bJ bl h8 e1 e2 e3 br aH a6 au bB aS
       go_wp2_with fail
       go_roundg j3
       case measure=>omega
       case rel=>exact ⟨k3+1,by go_num,by omega,b7,bO⟩
    ·have ce:k2<n:=by omega
     have t2:decide ((k2:Int)<(n:Int))=true:=zB (by omega)
     obtain ⟨b,q',e1,e2⟩:=bj.out wr bi.out k2 ce
     have hf:=aW.out.frozen k2
     have cs:=aW.out.vi_cell (k:=k2) (by rw [c7r];omega)
     have aR:=aW.out.set_vi k2 ((p.P.getD k2 []).getD i 0)
     rw [c7s p.P i (by omega)] at aR
     have a8:Chg [X8] wr0 (wr.setCell ⟨X8,k2,none⟩ (.int .i64 ((p.P.getD k2 []).getD i 0))):=bi.out.setCell (.inl (by simp)) _
     obtain ⟨v,hv⟩:=zX ((p.P.getD k2 []).getD i 0)
     rw [<-hv] at e2 aR a8
     have ci:=hid aR
     have bd:=hid a8
     clear aR a8 hv
     go_wp2_with fail
     go_roundg j2
     case measure=>omega
     case rel=>exact ⟨k2+1,by go_num,by omega,ci,bd⟩
theorem e7x {w:World} {p:a2a} {g o:Nat} {B:Nat->Option Addr} {c:Nat->Nat} {G:List Nat} (cap:Nat) (h:a4l w p g o B c G) (k:Nat) (k4:k<=4) (hm:b9k p.P.length k=true) :
  Calls Tryz.prog 103 #[a6y p g o cap,.int .i64 k] w (a2x w (c9h k p)):=by
 unfold a2x
 have ab:=h.ok
 have aX:∀ w',Chg [] w w'->_:=fun w' (hc':Chg [] w w')=>c1d cap (h.same hc')
 have aU:∀ w',Chg [] w w'->_:=fun w' (hc':Chg [] w w')=>e1r cap (h.same hc')
 have aY:=fun w'=>c0z p.P.length k w' ab.n0 ab.n1 k4
 rw [hm] at aY
 obtain ⟨q,hq⟩:=zX (c9h k p)
 have bM:q.Ok:=by rw [hq];exact d5g ab k
 have az:c9a p q:=by rw [hq];exact ⟨rfl,rfl,rfl,(a3y _ _ _).symm⟩
 have aT:∀ i wz,i<p.W*p.H->∃ a b c e y0 y1 y2 y3,pt4 p.P i=[a,b,c,e]/\Calls Tryz.prog 136 #[.agg #[.int .i64 a,.int .i64 b,.int .i64 c,.int .i64 e],.int .i64 k,.int .i64 p.d] wz (fun en w'=>en=.returned (.agg #[.int .i64 y0,.int .i64 y1,.int .i64 y2,.int .i64 y3])/\Chg [] wz w')/\∀ j,j<p.P.length->(q.P.getD j []).getD i 0=[y0,y1,y2,y3].getD j 0:=by
  intro i wz hi
  obtain ⟨y0,y1,y2,y3,hy⟩:=b5n (e1g k p.d ((p.P.getD 0 []).getD i 0) ((p.P.getD 1 []).getD i 0) ((p.P.getD 2 []).getD i 0) ((p.P.getD 3 []).getD i 0))
  have hc:=d8e k p.d _ _ _ _ wz ab.d0 ab.d1 k4 (a6a ab i 0) (a6a ab i 1) (a6a ab i 2) (a6a ab i 3)
  rw [hy] at hc
  refine ⟨_,_,_,_,y0,y1,y2,y3,e4v _ _,hc,fun j hj => ?_⟩
  rw [hq,<-hy]
  exact b6g hj hi
 obtain ⟨n,hn⟩:=zX (p.P.length)
 obtain ⟨N,hN⟩:=zX (p.W*p.H)
 have cm:n<=4:=by rw [hn];exact ab.n1
 have co:N<=4096:=by rw [hN];exact ab.area
 have bu:∀ wz,Chg [] w wz->∀ j,j<n->∃ b q,wz.cell? ⟨g,o+j,none⟩=some (.slice (some ⟨b,q,none⟩) N (c j))/\b∈G/\∀ i,i<N->wz.cell? ⟨b,q+i,none⟩=some (.int .i64 ((p.P.getD j []).getD i 0)):=by
  intro wz hc j hj
  rw [hn] at hj
  obtain ⟨b,q,e,hb,bS⟩:=(h.same hc).at_ hj
  have aH:=(h.same hc).cell j hj
  rw [e,<-hN] at aH
  exact ⟨b,q,aH,hb,fun i hi=>bS i (by rw [<-hN];exact hi)⟩
 have bN:=h.gG
 have bD:=h.lt
 rw [<-hN] at aT
 rw [<-hq]
 have bE:a6y q=fun gP o' cap' => .agg #[.int .i64 p.W,.int .i64 p.H,.int .i64 p.d,.slice (some ⟨gP,o',none⟩) n cap']:=by
  funext gP o' cap'
  unfold a6y
  rw [az.W,az.H,az.d,hn,az.n]
 rw [bE]
 unfold a6y at aX aU ⊢
 rw [<-hn] at aX aU aY aT ⊢
 obtain ⟨w1,aK⟩:=zX (((w.alloc (.cells #[.int .i64 p.W,.int .i64 p.H,.int .i64 p.d,.slice (some ⟨g,o,none⟩) n cap] 27)).alloc (.cells #[.int .i64 0,.int .i64 0,.int .i64 0,.slice none 0 0] 27)))
 obtain ⟨X2,aA⟩:=zX (w.heap.size)
 obtain ⟨X4,ap⟩:=zX (X2+1)
 have a7:Box w1 X2 (.int .i64 p.W) (.int .i64 p.H) (.int .i64 p.d) (.slice (some ⟨g,o,none⟩) n cap):=⟨by rw [aK,aA];exact (Blk.new w _ _).alloc _⟩
 have bc:Box w1 X4 (.int .i64 0) (.int .i64 0) (.int .i64 0) (.slice none 0 0):=⟨by rw [aK,ap,aA];exact Blk.new2 w _ _ _⟩
 have bK:Chg [] w w1:=by rw [aK];exact ((zR [] w).alloc _).alloc _
 have HX:Hid (X2=w.heap.size/\X4=X2+1/\X4<w1.heap.size):=hid ⟨aA,ap,bc.blk.lt⟩
 have ck:(p.W:Int)*(p.H:Int)=(N:Int):=by rw [hN];simp
 have cn:=ab.w1
 have cr:=ab.h1
 have cl:=ab.d1
 have HN:Hid (n=p.P.length/\N=p.W*p.H):=hid ⟨hn,hN⟩
 have cg:=hid aK
 have am:=hid bK
 have bm:=hid a7
 have cb:=hid bc
 have bP:=hid aX
 have bZ:=hid aU
 have bR:=hid bu
 have b4:=hid aT
 have a9:=hid ab
 have HQ:=hid bM
 have aO:=hid az
 have be:=hid bD
 have bz:=hid bN
 have bQ:=hid aA
 have bW:=hid ap
 obtain ⟨a0,a1,a2,a3⟩:=a7.cells
 clear aK bK a7 bc aX ab h hm aA ap aU bu aT hn hN hq bM az bE bD bN
 go_enter Tryz.func103,Tryz.ntmps103
 go_wp2_with fail
 rw [<-cg.out,<-bQ.out,<-bW.out]
 refine (bP.out w1 am.out).mono ?_
 rintro e w2 ⟨rfl,bg⟩
 obtain ⟨a0,a1,a2,a3⟩:=(bm.out.same bg).cells
 have ay:=hid bg
 clear bg
 go_wp2_with fail
 refine (aY _).mono ?_
 rintro e w3 ⟨rfl,rfl⟩
 clear aY
 go_wp2_with fail
 refine (bZ.out w2 (am.out.tq ay.out)).mono ?_
 rintro e w3 ⟨gP,ad,xs,gs,rfl,aj,bC,aB⟩
 obtain ⟨w4,aF⟩:=zX (w3.alloc (.cells #[.int .i64 p.W,.int .i64 p.H,.int .i64 p.d,.slice (some ⟨gP,0,none⟩) n ad] 27))
 obtain ⟨X6,aZ⟩:=zX (w3.heap.size)
 have bk:Chg [] w3 w4:=by rw [aF];exact (zR [] w3).alloc _
 have bn:Box w4 X6 (.int .i64 p.W) (.int .i64 p.H) (.int .i64 p.d) (.slice (some ⟨gP,0,none⟩) n ad):=⟨by rw [aF,aZ];exact Blk.new w3 _ _⟩
 have ar:Chg [] w1 w4:=(ay.out.tq bC).tq bk
 have bv:∀ x∈gP::gs,w1.heap.size<=x/\x<X6:=fun x hx=>⟨by have:=aB x hx;have:=ay.out.size;omega,by
  rw [aZ]
  rcases zJ.1 hx with rfl | h1
  ·exact aj.ltP
  ·exact aj.pl.lt x h1⟩
 have al:=aj.same bk
 obtain ⟨a0,a1,a2,a3⟩:=(bm.out.same ar).cells
 rw [aF] at a0 a1 a2 a3
 have aC:=bn.blk.lt
 have ch:=hid aF
 have ca:=hid aZ
 have aa:=hid ar
 have aq:=hid bv
 have ba:=hid al
 have cf:=hid bn
 have af:=hid aC
 clear aF aZ bk bn ar bv al bC aB aj aC
 go_wp2_with fail
 rw [<-ch.out,<-ca.out]
 go_loopg [7,8,9,10,11,12,32] N (fun j v7 v8 v9 v10 v11 v12 v32 wr=>∃ i:Nat,v32=.int .i64 i/\i+j=N/\Hid (a1x wr (b8z p q i 0) gP ad xs gs)/\Hid (Chg gs w4 wr))
 case atStart=>exact ⟨0,rfl,by omega,hid (by unfold b8z;rw [c1p];exact ba.out),hid (zR _ _)⟩
 case round =>
  obtain ⟨i,rfl,cp,HO,ax⟩:=hrel
  have aN:∀ x,x<w1.heap.size\/X6<=x->x∉gP::gs:=fun x hx hm=>by have:=aq.out x hm;omega
  have ai:=hid aN
  have bI:=fun (E:List Nat) wz (hz:Chg E wr wz) (hE:∀ x,x<w1.heap.size\/x=X6->x∉E)=>And.intro
   ((((bm.out.same aa.out).chg ax.out (fun hm=>ai.out X2 (.inl (by have:=HX.out;omega)) (by simp [hm]))).chg hz (hE X2 (.inl (by have:=HX.out;omega)))))
   (And.intro ((((cb.out.same aa.out).chg ax.out (fun hm=>ai.out X4 (.inl (by have:=HX.out;omega)) (by simp [hm]))).chg hz (hE X4 (.inl (by have:=HX.out;omega)))))
   ((cf.out.chg ax.out (fun hm=>ai.out X6 (.inr (zQ _)) (by simp [hm]))).chg hz (hE X6 (.inr rfl))))
  have aL:=hid bI
  clear bI aN
  rcases gk with _ | j
  ·obtain rfl:i=N:=by omega
   have t1:decide ((i:Int)<(i:Int))=false:=by simp
   obtain ⟨h1,h2,h3⟩:=aL.out [] wr (zR _ _) (by simp)
   obtain ⟨a0,a1,a2,a3⟩:=h1.cells
   obtain ⟨b0,b1,b2,b3⟩:=h3.cells
   obtain ⟨z0,z1,z2,z3⟩:=h2.cells
   have f0:=h2.blk.frozen 0
   have f1:=h2.blk.frozen 1
   have f2:=h2.blk.frozen 2
   have f3:=h2.blk.frozen 3
   have HZ:=hid h2
   clear h1 h2 h3
   go_wp2_with fail
   refine b1x HZ.out ?_
   intro X hX hY
   obtain ⟨x0,x1,x2,x3⟩:=hX.cells
   refine bodyPost_ret (v:=.tuple #[.agg #[.int .i64 p.W,.int .i64 p.H,.int .i64 p.d,.slice (some ⟨gP,0,none⟩) n ad],.int .i64 0]) (by simp [results,Tryz.results103,go_sem,x0,x1,x2,x3]) rfl ?_
   have ho:=HO.out
   have e:=HN.out.2
   rw [e,d6v a9.out HQ.out aO.out] at ho
   have ap:X4∉gP::gs:=ai.out X4 (.inl (by have:=HX.out;omega))
   refine ⟨gP,ad,xs,gs,rfl,ho.chg hY (by simp;exact fun e=>ap (by simp [e])) (fun x hx hm=>by simp at hm;subst hm;exact ap (by simp [hx])),?_,fun x hx=>by have:=aq.out x hx;have:=am.out.size;omega⟩
   refine ((am.out.tq aa.out).trans ax.out (fun x hx => .inr ?_)).trans hY (fun x hx => .inr ?_)
   ·have:=aq.out x (by simp [hx]);have:=am.out.size;omega
   ·simp at hx
    have:=HX.out
    omega
  ·have hi:i<N:=by omega
   have t1:decide ((i:Int)<(N:Int))=true:=zB (by omega)
   obtain ⟨wo,rfl⟩:=zX (wr)
   obtain ⟨wr0,ae⟩:=zX (wo.alloc (.cells #[.int .i64 0,.int .i64 0,.int .i64 0,.int .i64 0] 86))
   obtain ⟨X8,aV⟩:=zX (wo.heap.size)
   have aQ:Chg [] wo wr0:=by rw [ae];exact (zR [] wo).alloc _
   have bA:Blk wr0 X8 86 ((e0z p.P i 0).map vi).toArray:=by rw [ae,aV];exact Blk.new wo _ _
   have aI:w4.heap.size<=X8:=by rw [aV];exact ax.out.size
   obtain ⟨h1,h2,h3⟩:=aL.out [] wr0 aQ (by simp)
   obtain ⟨a0,a1,a2,a3⟩:=h1.cells
   have an:=HO.out.same aQ
   rw [ae] at a0 a1 a2 a3
   have bV:=hid ae
   have bT:=hid aV
   have bw:=hid aQ
   have b6:=hid bA
   have ac:=hid aI
   have bX:=hid an
   clear ae aV aQ bA h1 h2 h3 aI an
   have bq:∀ wz,Chg [X8] wr0 wz->∀ j,j<n->∃ b q,wz.cell? ⟨g,o+j,none⟩=some (.slice (some ⟨b,q,none⟩) N (c j))/\wz.cell? ⟨b,q+i,none⟩=some (.int .i64 ((p.P.getD j []).getD i 0)):=by
    intro wz hz j hj
    have bx:Chg (X8::gs) w wz:=(((am.out.tq aa.out).mono (F':=X8::gs) (by simp)).trans (ax.out.mono (F':=X8::gs) (by simp +contextual)) (fun x hx => .inl hx)).trans ((bw.out.mono (F':=X8::gs) (by simp)).trans (hz.mono (F':=X8::gs) (by simp +contextual)) (fun x hx => .inl hx)) (fun x hx => .inl hx)
    obtain ⟨b,q,e1,hb,e2⟩:=bR.out w (zR _ _) j hj
    have aE:∀ x∈G,x∉X8::gs:=fun x hx hm=>by
     have:=be.out x hx
     rcases zJ.1 hm with rfl | hm
     ·have:=ac.out;have:=am.out.size;have:=aa.out.size;omega
     ·have:=aq.out x (by simp [hm]);have:=am.out.size;omega
    exact ⟨b,q,(World.cell?_of_block (w:=w) (bx.block g (be.out g bz.out) (aE g bz.out))).trans e1,(World.cell?_of_block (w:=w) (bx.block b (be.out b hb) (aE b hb))).trans (e2 i hi)⟩
   have bj:=hid bq
   clear bq
   go_wp2_with fail
   rw [<-bV.out,<-bT.out]
   go_loopg [9,10,38] n (fun j2 v9 v10 v38 wz=>∃ k2:Nat,v38=.int .i64 k2/\k2+j2=n/\Hid (Blk wz X8 86 ((e0z p.P i k2).map vi).toArray)/\Hid (Chg [X8] wr0 wz))
   case atStart=>exact ⟨0,rfl,by omega,b6,hid (zR _ _)⟩
   case round =>
    obtain ⟨k2,rfl,cq,aW,bi⟩:=hrel
    rcases gk with _ | j2
    ·obtain rfl:k2=n:=by omega
     have t2:decide ((k2:Int)<(k2:Int))=false:=by simp
     have aD:∀ x,x<w1.heap.size\/x=X6->x∉[X8]:=fun x hx hm=>by simp at hm;have:=ac.out;have:=af.out;have:=aa.out.size;omega
     have av:Chg [X8] wo wr:=(bw.out.mono (by simp)).trans bi.out (fun x hx => .inl hx)
     obtain ⟨h1,h2,h3⟩:=aL.out [X8] wr av aD
     obtain ⟨a0,a1,a2,a3⟩:=h1.cells
     have ak:=aW.out
     rw [HN.out.1,c2h] at ak
     obtain ⟨a,b,c',e',y0,y1,y2,y3,bL,ao,hy⟩:=b4.out i wr hi
     rw [bL] at ak
     have k0:=ak.cell 0
     have k1:=ak.cell 1
     have a5:=ak.cell 2
     have k3:=ak.cell 3
     simp [vi] at k0 k1 a5 k3
     have aJ:=hid ao
     have HY:=hid hy
     have bh:=hid ak
     have bf:=hid av
     clear aD av h1 h2 h3 ak bL ao hy
     go_wp2_with fail
     refine aJ.out.mono ?_
     rintro e w9 ⟨rfl,bb⟩
     have ag:=bh.out.chg bb (by simp)
     have k0:=ag.cell 0
     have k1:=ag.cell 1
     have a5:=ag.cell 2
     have k3:=ag.cell 3
     have f0:=ag.frozen 0
     have f1:=ag.frozen 1
     have f2:=ag.frozen 2
     have f3:=ag.frozen 3
     simp [vi] at k0 k1 a5 k3
     obtain ⟨wB,aM⟩:=zX (((((w9.setCell ⟨X8,0,none⟩ (.int .i64 y0)).setCell ⟨X8,1,none⟩ (.int .i64 y1)).setCell ⟨X8,2,none⟩ (.int .i64 y2)).setCell ⟨X8,3,none⟩ (.int .i64 y3)))
     have bG:Blk wB X8 86 (([y0,y1,y2,y3]:List Int).map vi).toArray:=by
      rw [aM]
      have:=(((ag.set_ 0 (.int .i64 y0)).set_ 1 (.int .i64 y1)).set_ 2 (.int .i64 y2)).set_ 3 (.int .i64 y3)
      simpa [vi] using this
     have aP:Chg [X8] wo wB:=by
      have:=((((zR [X8] w9).setCell (p:=⟨X8,0,none⟩) (.inl (by simp)) (.int .i64 y0)).setCell (p:=⟨X8,1,none⟩) (.inl (by simp)) (.int .i64 y1)).setCell (p:=⟨X8,2,none⟩) (.inl (by simp)) (.int .i64 y2)).setCell (p:=⟨X8,3,none⟩) (.inl (by simp)) (.int .i64 y3)
      rw [aM]
      exact (bf.out.tq (bb.mono (by simp))).tq this
     have aD:∀ x,x<w1.heap.size\/x=X6->x∉[X8]:=fun x hx hm=>by simp at hm;have:=ac.out;have:=af.out;have:=aa.out.size;omega
     have aw:∀ x∈gP::gs,x∉[X8]:=fun x hx hm=>by simp at hm;have:=aq.out x hx;have:=ac.out;have:=af.out;omega
     obtain ⟨h1,h2,h3⟩:=aL.out [X8] wB aP aD
     obtain ⟨b0,b1,b2,b3⟩:=h3.cells
     have aG:=HO.out.chg aP (aw gP (by simp)) (fun x hx=>aw x (by simp [hx]))
     have b5:=hid aM
     have b9:=hid bG
     have bH:=hid aP
     have bY:=hid aG
     rw [aM] at b0 b1 b2 b3
     clear ag aM bG aP aG h1 h2 h3 aD aw a0 a1 a2 a3 bb
     go_wp2_with fail
     rw [<-b5.out]
     clear b0 b1 b2 b3 k0 k1 a5 k3 f0 f1 f2 f3
     go_loopg [11,12,58] k2 (fun j2 v11 v12 v58 wz=>∃ k3:Nat,v58=.int .i64 k3/\k3+j2=k2/\Hid (a1x wz (b8z p q i k3) gP ad xs gs)/\Hid (Chg gs wB wz))
     case atStart=>exact ⟨0,rfl,by omega,bY,hid (zR _ _)⟩
     case round =>
      obtain ⟨k3,rfl,cd,a4,ah⟩:=hrel
      have h8:X8∉gs:=fun hm=>by have:=aq.out X8 (by simp [hm]);have:=ac.out;have:=af.out;omega
      have bl:=b9.out.chg ah.out h8
      rcases gk with _ | j3
      ·obtain rfl:k3=k2:=by omega
       have t3:decide ((k3:Int)<(k3:Int))=false:=by simp
       clear bl h8
       go_wp2_with fail
       go_roundg j
       case measure=>omega
       case rel =>
        refine ⟨i+1,by go_num,by omega,hid ?_,hid ?_⟩
        ·have:=a4.out
         unfold b8z at this ⊢
         rw [HN.out.1,d1b] at this
         exact this
        ·refine (ax.out.trans bH.out (fun x hx => .inr (by simp at hx;have:=ac.out;omega))).trans ah.out (fun x hx => .inl hx)
      ·have cj:k3<k2:=by omega
       have t3:decide ((k3:Int)<(k2:Int))=true:=zB (by omega)
       have aS:k3<(b8z p q i k3).P.length:=by show _<(b1u _ _ _ _).length;rw [a4j,<-HN.out.1];exact cj
       obtain ⟨g3,c3,e1,e2,e3,e4⟩:=a4.out.plane aS
       have a6:(b8z p q i k3).W*(b8z p q i k3).H=N:=HN.out.2.symm
       rw [a6] at e1 e3 e4
       have au:((b8z p q i k3).P.getD k3 []).length=N:=by rw [<-a6];exact (a4.out.ok).len _ (a0n aS)
       obtain ⟨_,_,_,_,aH,br⟩:=e3.oq
       have cc:=br i
       have bF:wr.cell? ⟨g3,i,none⟩=some (.int .i64 (((b8z p q i k3).P.getD k3 []).getD i 0)):=by
        refine aH i _ ?_
        rw [zD (l:=(b8z p q i k3).P.getD k3 []),zF (by rw [au];exact hi)]
        rfl
       have bU:=bl.vi_cell (k:=k3) (by simp;omega)
       obtain ⟨h1,h2,bJ⟩:=aL.out (X8::gs) wr ((bH.out.mono (by simp)).trans (ah.out.mono (by simp +contextual)) (fun x hx => .inl hx)) (fun x hx hm=>by
        rcases zJ.1 hm with e | hm
        ·have:=ac.out;have:=af.out;have:=aa.out.size;omega
        ·have:=aq.out x (by simp [hm]);omega)
       obtain ⟨b0,b1,b2,b3⟩:=bJ.cells
       have bo:a1x (wr.setCell ⟨g3,i,none⟩ (.int .i64 ([y0,y1,y2,y3].getD k3 0))) (b8z p q i (k3+1)) gP ad xs gs:=by
        refine a4.out.sample e1 e2 aS e3 (by rw [au];exact hi) (e3t a9.out HQ.out aO.out _ _) ?_
        rw [<-HY.out k3 (by have:=HN.out.1;omega)]
        exact (c5l (by have:=HN.out.1;omega) (by rw [a9.out.len _ (a0n (by have:=HN.out.1;omega)),<-HN.out.2];exact hi) (by rw [HQ.out.len _ (a0n (by have:=HN.out.1;have:=aO.out.n;omega)),<-aO.out.W,<-aO.out.H,<-HN.out.2];exact hi)).symm
       have bB:g3∈gs:=List.mem_of_getElem? e2
       have bp:Chg gs wB (wr.setCell ⟨g3,i,none⟩ (.int .i64 ([y0,y1,y2,y3].getD k3 0))):=ah.out.setCell (.inl bB) _
       obtain ⟨yv,bs⟩:=zX ([y0,y1,y2,y3].getD k3 0)
       rw [<-bs] at bU bo bp
       have b7:=hid bo
       have bO:=hid bp
       clear bo bp bs h1 h2 bJ bl h8 e1 e2 e3 br aH a6 au bB aS
       go_wp2_with fail
       go_roundg j3
       case measure=>omega
       case rel=>exact ⟨k3+1,by go_num,by omega,b7,bO⟩
    ·have ce:k2<n:=by omega
     have t2:decide ((k2:Int)<(n:Int))=true:=zB (by omega)
     obtain ⟨b,q',e1,e2⟩:=bj.out wr bi.out k2 ce
     have hf:=aW.out.frozen k2
     have cs:=aW.out.vi_cell (k:=k2) (by rw [c7r];omega)
     have aR:=aW.out.set_vi k2 ((p.P.getD k2 []).getD i 0)
     rw [c7s p.P i (by omega)] at aR
     have a8:Chg [X8] wr0 (wr.setCell ⟨X8,k2,none⟩ (.int .i64 ((p.P.getD k2 []).getD i 0))):=bi.out.setCell (.inl (by simp)) _
     obtain ⟨v,hv⟩:=zX ((p.P.getD k2 []).getD i 0)
     rw [<-hv] at e2 aR a8
     have ci:=hid aR
     have bd:=hid a8
     clear aR a8 hv
     go_wp2_with fail
     go_roundg j2
     case measure=>omega
     case rel=>exact ⟨k2+1,by go_num,by omega,ci,bd⟩
theorem e8b {w:World} {p:a2a} {g o:Nat} {B:Nat->Option Addr} {c:Nat->Nat} {G:List Nat} (cap:Nat) (h:a4l w p g o B c G) :
  Calls Tryz.prog 122 #[a6y p g o cap] w fun e w'=>e=.returned (.int .i64 (b8w p))/\Chg [] w w':=by
 have aa:=h.ok
 have ag:∀ w',Chg [] w w'->_:=fun w' (hc':Chg [] w w')=>c1d cap (h.same hc')
 obtain ⟨n,hn⟩:=zX (p.P.length)
 obtain ⟨N,hN⟩:=zX (p.W*p.H)
 have aT:n<=4:=by rw [hn];exact aa.n1
 have a8:N<=4096:=by rw [hN];exact aa.area
 have ar:∀ wz,Chg [] w wz->∀ j,j<n->∃ b q,wz.cell? ⟨g,o+j,none⟩=some (.slice (some ⟨b,q,none⟩) N (c j))/\∀ i,i<N->wz.cell? ⟨b,q+i,none⟩=some (.int .i64 ((p.P.getD j []).getD i 0)):=by
  intro wz hc j hj
  rw [hn] at hj
  obtain ⟨b,q,e,hb,aK⟩:=(h.same hc).at_ hj
  have ad:=(h.same hc).cell j hj
  rw [e,<-hN] at ad
  exact ⟨b,q,ad,fun i hi=>aK i (by rw [<-hN];exact hi)⟩
 have aB:∀ v wz,_:=fun v wz=>a7x v p.d wz aa.d0 aa.d1
 have aE:∀ v,_:=fun v=>b5j v aa.d0 aa.d1
 have av:=fun k=>d3p aa k
 have aD:=fun l k=>d3o l p.W aa.d0 aa.d1 k
 have aC:∀ j i,In4 p.d ((p.P.getD j []).getD i 0):=fun j i=>a6a aa i j
 obtain ⟨aU,aV⟩:=a9c aa.d0 aa.d1
 unfold a6y at ag ⊢
 rw [<-hn] at ag ⊢
 have ad:b8w p=e8a p n:=by rw [hn];rfl
 rw [ad]
 obtain ⟨w1,ah⟩:=zX (w.alloc (.cells #[.int .i64 p.W,.int .i64 p.H,.int .i64 p.d,.slice (some ⟨g,o,none⟩) n cap] 27))
 obtain ⟨X,hX⟩:=zX (w.heap.size)
 have al:Box w1 X (.int .i64 p.W) (.int .i64 p.H) (.int .i64 p.d) (.slice (some ⟨g,o,none⟩) n cap):=⟨by rw [ah,hX];exact Blk.new w _ _⟩
 have aA:Chg [] w w1:=by rw [ah];exact (zR [] w).alloc _
 have a7:=aa.w0
 have a5:=aa.w1
 have bc:=aa.d1
 have HN:Hid (n=p.P.length/\N=p.W*p.H):=hid ⟨hn,hN⟩
 have aN:=hid ah
 have aH:=hid hX
 have ay:=hid aA
 have aM:=hid al
 have aG:=hid ag
 have aJ:=hid ar
 have az:=hid aB
 have ax:=hid aE
 have aI:=hid av
 have aL:=hid aD
 have aF:=hid aC
 obtain ⟨a0,a1,a2,a3⟩:=al.cells
 clear ah aA al ag aa h hX ar hn hN aB aE av aD ad aC
 go_enter Tryz.func122,Tryz.ntmps122
 go_wp2_with fail
 rw [<-aN.out,<-aH.out]
 refine (aG.out w1 ay.out).mono ?_
 rintro e w2 ⟨rfl,an⟩
 obtain ⟨a0,a1,a2,a3⟩:=(aM.out.same an).cells
 have ae:=hid (ay.out.tq an)
 clear an
 go_wp2_with fail
 go_loopg [3,5,6,7,8,9,16,20,21,22] n (fun j v3 v5 v6 v7 v8 v9 v16 v20 v21 v22 wr=>∃ k:Nat,v16=.int .i64 k/\k+j=n/\v3=.int .i64 (e8a p k:Int)/\w2=wr)
 case atStart=>exact ⟨0,rfl,by omega,rfl,rfl⟩
 case round =>
  obtain ⟨k,rfl,a4,rfl,rfl⟩:=hrel
  rcases gk with _ | j
  ·obtain rfl:k=n:=by omega
   have t1:decide ((k:Int)<(k:Int))=false:=by simp
   go_wp2_with fail
   go_ret
   exact ⟨rfl,ae.out⟩
  ·have hk:k<n:=by omega
   have t1:decide ((k:Int)<(n:Int))=true:=zB (by omega)
   obtain ⟨b,q,e1,e2⟩:=aJ.out w2 ae.out k hk
   have au:=hid e2
   have aq:=aI.out k
   obtain ⟨T,hT⟩:=zX (e8a p k)
   rw [<-hT] at aq ⊢
   have HT:=hid hT
   have aW:T<=600000000:=by omega
   clear e2 aq hT
   go_wp2_with fail
   go_loopg [3,6,7,8,9,22] N (fun j2 v3 v6 v7 v8 v9 v22 wr=>∃ i:Nat,v22=.int .i64 i/\i+j2=N/\v3=.int .i64 ((T+e7z (p.P.getD k []) p.W p.d i:Nat):Int)/\w2=wr)
   case atStart=>exact ⟨0,rfl,by omega,rfl,rfl⟩
   case round =>
    obtain ⟨i,rfl,aZ,rfl,rfl⟩:=hrel
    rcases gk with _ | j2
    ·obtain rfl:i=N:=by omega
     have t2:decide ((i:Int)<(i:Int))=false:=by simp
     go_wp2_with fail
     go_roundg j
     case measure=>omega
     case rel=>exact ⟨k+1,by go_num,by omega,by rw [d0o,<-HT.out,<-HN.out.2],rfl⟩
    ·have hi:i<N:=by omega
     have t2:decide ((i:Int)<(N:Int))=true:=zB (by omega)
     have e2:=au.out i hi
     obtain ⟨l,hl⟩:=zX (p.P.getD k [])
     have ab:=d0n l p.W p.d i
     have ap:=aL.out l i
     obtain ⟨v,hv⟩:=zX (l.getD i 0)
     have aj:=aF.out k i
     rw [<-hl] at e2 aj ⊢
     rw [<-hv] at e2 ab aj
     obtain ⟨aX,a6⟩:=aj
     obtain ⟨x,hx⟩:=zX (i%p.W)
     have aQ:(i:Int)%(p.W:Int)=(x:Int):=by rw [hx];simp
     have a9:(i:Int).tmod (p.W:Int)=(x:Int):=by rw [Int.tmod_eq_emod_of_nonneg (by omega)];exact aQ
     have aR:(p.W:Int)≠0:=by omega
     have bf:x<p.W:=by rw [hx];exact Nat.mod_lt _ (by omega)
     obtain ⟨S,hS⟩:=zX (e7z l p.W p.d i)
     rw [<-hS,<-hx] at ab
     rw [<-hS] at ap ⊢
     have be:S<=200000000:=by omega
     have ai:=hid hl
     by_cases h0:x=0
     ·have t3:decide (0<x)=false:=zA (by omega)
      rw [if_pos h0] at ab
      have hf:=fun wz=>az.out (v-0) wz
      obtain ⟨f0,f1⟩:=ax.out (v-0)
      obtain ⟨f,af⟩:=zX (a1b (v-0) p.d)
      rw [<-af] at ab hf f0 f1
      rw [show v-0=v by omega] at hf
      have am:(if f < -f then -f else f)=(f.natAbs:Int):=by split<;>omega
      have ac:(if -f<f then f else -f)=(f.natAbs:Int):=by split<;>omega
      obtain ⟨A,hA⟩:=zX (f.natAbs)
      rw [<-hA] at ab am ac
      have aP:A<=32768:=by omega
      have ak:=hid ab
      clear ab ap af hS hx hl hv h0 hA
      go_wp2_with (go_at_call 84;refine (hf _).mono ?_;rintro e w' ⟨rfl,rfl⟩)
      go_roundg j2
      case measure=>omega
      case rel=>exact ⟨i+1,by go_num,by omega,by rw [<-ai.out,ak.out,<-Nat.add_assoc,Int.natCast_add (T+S) A];go_num,rfl⟩
     ·have t3:decide (0<x)=true:=zB (by omega)
      rw [if_neg h0] at ab
      have bd:0<i:=by
       rcases Nat.eq_zero_or_pos i with h1 | h1
       ·exfalso;rw [h1,Nat.zero_mod] at hx;exact h0 hx
       ·exact h1
      obtain ⟨i1,aw⟩:∃ i1,i=i1+1:=⟨i-1,by omega⟩
      have e3:=au.out i1 (by omega)
      rw [show q+i1=q+(i-1) by omega] at e3
      have ao:=aF.out k i1
      rw [show i-1=i1 by omega] at ab
      obtain ⟨u,hu⟩:=zX (l.getD i1 0)
      rw [<-ai.out] at e3 ao
      rw [<-hu] at e3 ab ao
      obtain ⟨aY,ba⟩:=ao
      have aS:0<=(i:Int)-1:=by omega
      have aO:i1<N:=by omega
      have hf:=fun wz=>az.out (v-u) wz
      obtain ⟨f0,f1⟩:=ax.out (v-u)
      obtain ⟨f,af⟩:=zX (a1b (v-u) p.d)
      rw [<-af] at ab hf f0 f1
      have am:(if f < -f then -f else f)=(f.natAbs:Int):=by split<;>omega
      have ac:(if -f<f then f else -f)=(f.natAbs:Int):=by split<;>omega
      obtain ⟨A,hA⟩:=zX (f.natAbs)
      rw [<-hA] at ab am ac
      have aP:A<=32768:=by omega
      have ak:=hid ab
      have bb:=hid aw
      clear ab ap af hS hx hl hv h0 hA hu aw
      go_wp2_with (go_at_call 84;refine (hf _).mono ?_;rintro e w' ⟨rfl,rfl⟩)
      go_roundg j2
      case measure=>omega
      case rel=>exact ⟨i+1,by go_num,by omega,by rw [<-ai.out,ak.out,<-Nat.add_assoc,Int.natCast_add (T+S) A];go_num,rfl⟩
theorem e7y {w:World} {p:a2a} {g o:Nat} {B:Nat->Option Addr} {c:Nat->Nat} {G:List Nat} (cap:Nat) (h:a4l w p g o B c G) :
  Calls Tryz.prog 90 #[a6y p g o cap] w fun e w'=>e=.returned (.int .i64 (a7t p 4))/\Chg [] w w':=by
 have aj:=h.ok
 have af:∀ w' k,Chg [] w w'->k<=4->b9k p.P.length k=true->_:=fun w' k (hc':Chg [] w w') k4 hm=>d6e cap (h.same hc') k k4 hm
 have az:∀ w' k,Chg [] w w'->k<=4->b9k p.P.length k=false->_:=fun w' k (hc':Chg [] w w') k4 hm=>e2w cap (h.same hc') k k4 hm
 have au:=b4v aj 0
 have aG:=fun k=>d3p (b2t aj k) (a3p k p).P.length
 have ap:∀ k,(a3p k p).P.length=p.P.length:=fun k=>a3y _ _ _
 have aT:=aj.n1
 have aC:∀ k,b8w (a3p k p)<=536870912:=fun k=>by
  have h1:=aG k
  have h2:=ap k
  unfold b8w
  rw [h2] at h1 ⊢
  omega
 unfold a2x at af
 unfold a6y f0j at *
 have al:∀ k gP cP,(.agg #[.int .i64 ((a3p k p).W:Int),.int .i64 ((a3p k p).H:Int),.int .i64 ((a3p k p).d:Int),.slice (some ⟨gP,0,none⟩) (a3p k p).P.length cP]:Value)=.agg #[.int .i64 p.W,.int .i64 p.H,.int .i64 p.d,.slice (some ⟨gP,0,none⟩) p.P.length cP]:=fun k gP cP=>by rw [ap];rfl
 have an:∀ {wz:World} {k gP cP:Nat} {xs:List Value} {gs:List Nat},a1x wz (a3p k p) gP cP xs gs->Calls Tryz.prog 122 #[.agg #[.int .i64 p.W,.int .i64 p.H,.int .i64 p.d,.slice (some ⟨gP,0,none⟩) p.P.length cP]] wz fun e w'=>e=.returned (.int .i64 (b8w (a3p k p)))/\Chg [] wz w':=fun {wz k gP cP xs gs} aa=>by
  have h1:=e8b cP aa.at_
  unfold a6y at h1
  rw [al] at h1
  exact h1
 simp only [al] at af
 obtain ⟨n,hn⟩:=zX (p.P.length)
 simp only [<-hn] at af az an au ⊢
 obtain ⟨w1,ak⟩:=zX (w.alloc (.cells #[.int .i64 p.W,.int .i64 p.H,.int .i64 p.d,.slice (some ⟨g,o,none⟩) n cap] 27))
 obtain ⟨X,hX⟩:=zX (w.heap.size)
 have ar:Box w1 X (.int .i64 p.W) (.int .i64 p.H) (.int .i64 p.d) (.slice (some ⟨g,o,none⟩) n cap):=⟨by rw [ak,hX];exact Blk.new w _ _⟩
 have aD:Chg [] w w1:=by rw [ak];exact (zR [] w).alloc _
 have aF:∀ m,a7t p (m+1)=if b9k n (m+1)=true/\b8w (a3p (m+1) p)<b8w (a3p (a7t p m) p) then m+1 else a7t p m:=fun m=>by rw [hn];rfl
 have aP:=hid ak
 have aI:=hid hX
 have am:=hid aD
 have aO:=hid ar
 have aN:=hid af
 have aJ:=hid az
 have aE:=hid (fun wz k gP cP xs gs (h:a1x wz (a3p k p) gP cP xs gs)=>an h)
 have aL:=hid au
 have aH:=hid aC
 have ah:=hid aF
 have aM:=hid (b9g p)
 obtain ⟨a0,a1,a2,a3⟩:=ar.cells
 clear ak aD ar aj h hX hn af az an au aG ap aC al aF
 go_enter Tryz.func90,Tryz.ntmps90
 go_wp2_with fail
 rw [<-aP.out,<-aI.out]
 go_loopg [3,4,5,6,7,8,9,10] 5 (fun j v3 v4 v5 v6 v7 v8 v9 v10 wr=>∃ k:Nat,v10=.int .i64 k/\k+j=5/\((k=0/\v3=.int .i64 0/\v4=.int .i64 0/\v5=.bool false)\/∃ m,k=m+1/\v3=.int .i64 (a7t p m:Int)/\v4=.int .i64 (b8w (a3p (a7t p m) p):Int)/\v5=.bool true)/\Hid (Chg [] w1 wr))
 case atStart=>exact ⟨0,rfl,rfl,.inl ⟨rfl,rfl,rfl,rfl⟩,hid (zR _ _)⟩
 case round =>
  obtain ⟨k,rfl,aS,ax,ac⟩:=hrel
  rcases gk with _ | j
  ·obtain rfl:k=5:=by omega
   rcases ax with ⟨h0,_⟩ | ⟨m,hm,rfl,rfl,rfl⟩
   ·omega
   ·obtain rfl:m=4:=by omega
    go_wp2_with fail
    go_ret
    exact ⟨rfl,am.out.tq ac.out⟩
  ·have t1:decide ((k:Int)<5)=true:=zB (by omega)
   obtain ⟨a0,a1,a2,a3⟩:=(aO.out.same ac.out).cells
   have aA:k<=4:=by omega
   cases hmk:b9k n k with
   | false =>
    have hf:=aJ.out wr k (am.out.tq ac.out) aA hmk
    rcases ax with ⟨h0,_⟩ | ⟨m,hm,rfl,rfl,rfl⟩
    ·subst h0;have:=aL.out;simp only [a7t] at this;rw [this] at hmk;cases hmk
    ·have HM:=hid hm
     clear hm
     go_wp2_with fail
     refine hf.mono ?_
     rintro e w2 ⟨rfl,ae⟩
     go_wp2_with fail
     go_roundg j
     case measure=>omega
     case rel =>
      refine ⟨k+1,by go_num,by omega,.inr ⟨m+1,by rw [<-HM.out],?_,?_,rfl⟩,hid ((ac.out.tq ae).alloc _)⟩
      ·rw [ah.out,<-HM.out,hmk,if_neg (by simp)]
      ·rw [ah.out,<-HM.out,hmk,if_neg (by simp)]
   | true =>
    have hf:=aN.out wr k (am.out.tq ac.out) aA hmk
    have hA:=aH.out k
    obtain ⟨A,ao⟩:=zX (b8w (a3p k p))
    rw [<-ao] at hA
    have HA:=hid ao
    clear ao
    rcases ax with ⟨h0,rfl,rfl,rfl⟩ | ⟨m,hm,rfl,rfl,rfl⟩
    ·have HM:=hid h0
     clear h0
     go_wp2_with fail
     refine hf.mono ?_
     rintro e w2 ⟨gP,cP,xs,gs,rfl,aa,ae,-⟩
     obtain ⟨w3,ad⟩:=zX (w2.alloc (.cells #[.int .i64 p.W,.int .i64 p.H,.int .i64 p.d,.slice (some ⟨gP,0,none⟩) n cP] 27))
     have ab:Chg [] w2 w3:=by rw [ad];exact (zR [] w2).alloc _
     have hc:=aE.out w3 k gP cP xs gs (aa.same ab)
     rw [<-HA.out] at hc
     have aq:=hid ad
     have av:=hid ((ac.out.tq ae).tq ab)
     clear hf aa ae ab ad
     go_wp2_with fail
     rw [<-aq.out]
     refine hc.mono ?_
     rintro e w4 ⟨rfl,ai⟩
     go_wp2_with fail
     go_roundg j
     case measure=>omega
     case rel=>exact ⟨k+1,by go_num,by omega,.inr ⟨0,by rw [HM.out],by rw [HM.out];rfl,by rw [HA.out,HM.out];rfl,rfl⟩,hid (av.out.tq ai)⟩
    ·have aK:=aH.out (a7t p m)
     obtain ⟨Bm,aw⟩:=zX (b8w (a3p (a7t p m) p))
     obtain ⟨Km,ag⟩:=zX (a7t p m)
     rw [<-aw] at aK ⊢
     rw [<-ag]
     have aR:=aM.out m
     rw [<-ag] at aR
     have ay:=hid aw
     have aQ:=hid ag
     have HM:=hid hm
     clear aw ag hm
     go_wp2_with fail
     refine hf.mono ?_
     rintro e w2 ⟨gP,cP,xs,gs,rfl,aa,ae,-⟩
     obtain ⟨w3,ad⟩:=zX (w2.alloc (.cells #[.int .i64 p.W,.int .i64 p.H,.int .i64 p.d,.slice (some ⟨gP,0,none⟩) n cP] 27))
     have ab:Chg [] w2 w3:=by rw [ad];exact (zR [] w2).alloc _
     have hc:=aE.out w3 k gP cP xs gs (aa.same ab)
     rw [<-HA.out] at hc
     have aq:=hid ad
     have av:=hid ((ac.out.tq ae).tq ab)
     clear hf aa ae ab ad
     go_wp2_with fail
     rw [<-aq.out]
     refine hc.mono ?_
     rintro e w4 ⟨rfl,ai⟩
     have aB:=hid (av.out.tq ai)
     clear hc ai
     by_cases hlt:A<Bm
     ·have t2:decide (A<Bm)=true:=zB hlt
      have e:a7t p (m+1)=k:=by
       have e:=ah.out m
       rw [e,<-HM.out,hmk,<-HA.out,<-ay.out,if_pos ⟨rfl,hlt⟩]
      have HE:=hid e
      clear e hlt
      go_wp2_with fail
      go_roundg j
      case measure=>omega
      case rel=>exact ⟨k+1,by go_num,by omega,.inr ⟨m+1,by rw [<-HM.out],by rw [HE.out],by rw [HE.out,HA.out],rfl⟩,aB⟩
     ·have t2:decide (A<Bm)=false:=zA hlt
      have e:a7t p (m+1)=a7t p m:=by
       have e:=ah.out m
       rw [e,<-HM.out,hmk,<-HA.out,<-ay.out,if_neg (fun h=>hlt h.2)]
      have HE:=hid e
      clear e hlt
      go_wp2_with fail
      go_roundg j
      case measure=>omega
      case rel=>exact ⟨k+1,by go_num,by omega,.inr ⟨m+1,by rw [<-HM.out],by rw [HE.out,aQ.out],by rw [HE.out,ay.out],rfl⟩,aB⟩
end Go.Proofs.YtepjepkgcdfboaaGreatDoor
