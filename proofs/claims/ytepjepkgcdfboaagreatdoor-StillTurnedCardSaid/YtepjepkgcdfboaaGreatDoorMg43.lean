/- package hue by its contracts: pictures turned and turned back. Printed by wip/mkhue2.py. -/
import Derived.Test.YtepjepkgcdfboaaGreatDoorMg40
import Derived.Test.YtepjepkgcdfboaaGreatDoorMg42
set_option linter.unusedVariables false
set_option linter.unusedSimpArgs false
set_option maxHeartbeats 2000000
set_option maxRecDepth 100000
namespace Go.Proofs.YtepjepkgcdfboaaGreatDoor
open Go.RowKit
def e0z (P:List (List Int)) (i k:Nat):List Int:=(List.range 4).map fun j=>if j<k then (P.getD j []).getD i 0 else 0
theorem c2h {P:List (List Int)} (i:Nat):e0z P i P.length=pt4 P i:=by
 unfold e0z pt4
 apply List.map_congr_left
 intro j _
 split
 ·rfl
 ·rename_i h
  rw [zD (l:=P),List.getElem?_eq_none (by omega)]
  rfl
theorem c7s (P:List (List Int)) (i:Nat) {k:Nat} (hk:k<4):(e0z P i k).set k ((P.getD k []).getD i 0)=e0z P i (k+1):=by
 rcases (by omega:k=0\/k=1\/k=2\/k=3) with rfl | rfl | rfl | rfl<;>rfl
theorem c7r (P:List (List Int)) (i k:Nat):(e0z P i k).length=4:=by simp [e0z]
theorem Blk.set_vi {w:World} {g:Nat} {t:TypeId} {l:List Int} (h:Blk w g t (l.map vi).toArray) (k:Nat) (v:Int):Blk (w.setCell ⟨g,k,none⟩ (.int .i64 v)) g t ((l.set k v).map vi).toArray:=by
 have h1:=h.set_ k (.int .i64 v)
 have e:(l.map vi).toArray.setIfInBounds k (.int .i64 v)=((l.set k v).map vi).toArray:=by
  apply Array.ext'
  simp [List.map_set,vi]
 rwa [e] at h1
theorem Blk.vi_cell {w:World} {g:Nat} {t:TypeId} {l:List Int} (h:Blk w g t (l.map vi).toArray) {k:Nat} (hk:k<l.length):w.cell? ⟨g,k,none⟩=some (.int .i64 (l.getD k 0)):=by
 rw [h.cell k,zD,zF hk]
 simp [vi,hk]
theorem b5n {l:List Int} (h:l.length=4):∃ a b c e,l=[a,b,c,e]:=by
 match l,h with
 | [a,b,c,e],_=>exact ⟨a,b,c,e,rfl⟩
structure Box (w:World) (x:Nat) (a b c v:Value):Prop where
 blk:Blk w x 27 #[a,b,c,v]
theorem Box.cells {w:World} {x:Nat} {a b c v:Value} (h:Box w x a b c v):w.cell? ⟨x,0,none⟩=some a/\w.cell? ⟨x,1,none⟩=some b/\w.cell? ⟨x,2,none⟩=some c/\w.cell? ⟨x,3,none⟩=some v:=⟨h.blk.cell 0,h.blk.cell 1,h.blk.cell 2,h.blk.cell 3⟩
theorem Box.chg {w w':World} {x:Nat} {a b c v:Value} {F:List Nat} (h:Box w x a b c v) (hc:Chg F w w') (hx:x∉F):Box w' x a b c v:=⟨h.blk.chg hc hx⟩
theorem Box.same {w w':World} {x:Nat} {a b c v:Value} (h:Box w x a b c v) (hc:Chg [] w w'):Box w' x a b c v:=⟨h.blk.chg hc (by simp)⟩
theorem d6v {p q:a2a} (h:p.Ok) (hq:q.Ok) (ha:c9a p q):b8z p q (p.W*p.H) 0=q:=by
 obtain ⟨W,H,d,P⟩:=q
 have e:=e3u (P:=p.P) (Q:=P) (N:=p.W*p.H) ha.n.symm (fun j hj=>h.len _ (a0n hj)) (fun j hj=>by
  have:=hq.len _ (a0n (P:=P) (j:=j) (by rw [<-show p.P.length=P.length from ha.n];exact hj))
  rw [<-show p.W=W from ha.W,<-show p.H=H from ha.H] at this
  exact this)
 unfold b8z
 rw [e]
 have h1:p.W=W:=ha.W
 have h2:p.H=H:=ha.H
 have h3:p.d=d:=ha.d
 rw [h1,h2,h3]
theorem b1x {F:Func} {Q:Ending->World->Prop} {a:Act} {Y:World} {C:Nat} {z0 z1 z2 z3 v0 v1 v2 v3:Value} (hY:Box Y C z0 z1 z2 z3)
  (h:∀ X,Box X C v0 v1 v2 v3->Chg [C] Y X->bodyPost Tryz.prog F Q .ret a X) :
  bodyPost Tryz.prog F Q .ret a ((((Y.setCell ⟨C,0,none⟩ v0).setCell ⟨C,1,none⟩ v1).setCell ⟨C,2,none⟩ v2).setCell ⟨C,3,none⟩ v3) :=
 a9x hY.blk fun X h1 h2=>h X ⟨h1⟩ h2
def a2x (w:World) (p:a2a) (e:Ending) (w':World):Prop :=
 ∃ (gP capP:Nat) (xs:List Value) (gs:List Nat),e=.returned (.tuple #[a6y p gP 0 capP,.int .i64 0])/\a1x w' p gP capP xs gs/\Chg [] w w'/\∀ x∈gP::gs,w.heap.size<=x
def f0j:Value:=.agg #[.int .i64 0,.int .i64 0,.int .i64 0,.slice none 0 0]
theorem e2w {w:World} {p:a2a} {g o:Nat} {B:Nat->Option Addr} {c:Nat->Nat} {G:List Nat} (cap:Nat) (h:a4l w p g o B c G) (k:Nat) (k4:k<=4) (hm:b9k p.P.length k=false) :
  Calls Tryz.prog 13 #[a6y p g o cap,.int .i64 k] w fun e w'=>e=.returned (.tuple #[f0j,.int .i64 1])/\Chg [] w w':=by
 have af:=h.ok
 have ac:∀ w',Chg [] w w'->_:=fun w' (hc':Chg [] w w')=>c1d cap (h.same hc')
 have ag:=fun w'=>c0z p.P.length k w' af.n0 af.n1 k4
 rw [hm] at ag
 unfold a6y at ac ⊢
 obtain ⟨w1,aa⟩:=zX (((w.alloc (.cells #[.int .i64 p.W,.int .i64 p.H,.int .i64 p.d,.slice (some ⟨g,o,none⟩) p.P.length cap] 27)).alloc (.cells #[.int .i64 0,.int .i64 0,.int .i64 0,.slice none 0 0] 27)))
 have ae:Box w1 w.heap.size (.int .i64 p.W) (.int .i64 p.H) (.int .i64 p.d) (.slice (some ⟨g,o,none⟩) p.P.length cap):=⟨by rw [aa];exact (Blk.new w _ _).alloc _⟩
 have ah:Box w1 (w.heap.size+1) (.int .i64 0) (.int .i64 0) (.int .i64 0) (.slice none 0 0):=⟨by rw [aa];exact Blk.new2 w _ _ _⟩
 have ai:Chg [] w w1:=by rw [aa];exact ((zR [] w).alloc _).alloc _
 have al:=hid aa
 have aj:=hid ai
 have ak:=hid ae
 have am:=hid ah
 have an:=hid ac
 obtain ⟨a0,a1,a2,a3⟩:=ae.cells
 clear aa ai ae ah ac af h hm
 go_enter Tryz.func13,Tryz.ntmps13
 go_wp2_with fail
 rw [<-al.out]
 refine (an.out w1 aj.out).mono ?_
 rintro e w2 ⟨rfl,ab⟩
 obtain ⟨a0,a1,a2,a3⟩:=(ak.out.same ab).cells
 have hz:=am.out.same ab
 obtain ⟨z0,z1,z2,z3⟩:=hz.cells
 have f0:=hz.blk.frozen 0
 have f1:=hz.blk.frozen 1
 have f2:=hz.blk.frozen 2
 have f3:=hz.blk.frozen 3
 have ad:=hid (aj.out.tq ab)
 have HZ:=hid hz
 clear ab hz
 go_wp2_with fail
 refine (ag _).mono ?_
 rintro e w3 ⟨rfl,rfl⟩
 go_wp2_with fail
 refine b1x HZ.out ?_
 intro X hX hY
 obtain ⟨x0,x1,x2,x3⟩:=hX.cells
 refine bodyPost_ret (v:=.tuple #[f0j,.int .i64 1]) (by simp [results,Tryz.results13,go_sem,x0,x1,x2,x3,f0j]) rfl ?_
 exact ⟨rfl,ad.out.trans hY (fun x hx => .inr (by simp at hx;omega))⟩
theorem d6e {w:World} {p:a2a} {g o:Nat} {B:Nat->Option Addr} {c:Nat->Nat} {G:List Nat} (cap:Nat) (h:a4l w p g o B c G) (k:Nat) (k4:k<=4) (hm:b9k p.P.length k=true) :
  Calls Tryz.prog 13 #[a6y p g o cap,.int .i64 k] w (a2x w (a3p k p)):=by
 unfold a2x
 have ab:=h.ok
 have aU:∀ w',Chg [] w w'->_:=fun w' (hc':Chg [] w w')=>c1d cap (h.same hc')
 have aZ:∀ w',Chg [] w w'->_:=fun w' (hc':Chg [] w w')=>e1r cap (h.same hc')
 have aV:=fun w'=>c0z p.P.length k w' ab.n0 ab.n1 k4
 rw [hm] at aV
 obtain ⟨q,hq⟩:=zX (a3p k p)
 have bL:q.Ok:=by rw [hq];exact b2t ab k
 have az:c9a p q:=by rw [hq];exact ⟨rfl,rfl,rfl,(a3y _ _ _).symm⟩
 have aY:∀ i wz,i<p.W*p.H->∃ a b c e y0 y1 y2 y3,pt4 p.P i=[a,b,c,e]/\Calls Tryz.prog 44 #[.agg #[.int .i64 a,.int .i64 b,.int .i64 c,.int .i64 e],.int .i64 k,.int .i64 p.d] wz (fun en w'=>en=.returned (.agg #[.int .i64 y0,.int .i64 y1,.int .i64 y2,.int .i64 y3])/\Chg [] wz w')/\∀ j,j<p.P.length->(q.P.getD j []).getD i 0=[y0,y1,y2,y3].getD j 0:=by
  intro i wz hi
  obtain ⟨y0,y1,y2,y3,hy⟩:=b5n (e2n k p.d ((p.P.getD 0 []).getD i 0) ((p.P.getD 1 []).getD i 0) ((p.P.getD 2 []).getD i 0) ((p.P.getD 3 []).getD i 0))
  have hc:=d8u k p.d _ _ _ _ wz ab.d0 ab.d1 k4 (a6a ab i 0) (a6a ab i 1) (a6a ab i 2) (a6a ab i 3)
  rw [hy] at hc
  refine ⟨_,_,_,_,y0,y1,y2,y3,e4v _ _,hc,fun j hj => ?_⟩
  rw [hq,<-hy]
  exact b6g hj hi
 obtain ⟨n,hn⟩:=zX (p.P.length)
 obtain ⟨N,hN⟩:=zX (p.W*p.H)
 have cq:n<=4:=by rw [hn];exact ab.n1
 have co:N<=4096:=by rw [hN];exact ab.area
 have bz:∀ wz,Chg [] w wz->∀ j,j<n->∃ b q,wz.cell? ⟨g,o+j,none⟩=some (.slice (some ⟨b,q,none⟩) N (c j))/\b∈G/\∀ i,i<N->wz.cell? ⟨b,q+i,none⟩=some (.int .i64 ((p.P.getD j []).getD i 0)):=by
  intro wz hc j hj
  rw [hn] at hj
  obtain ⟨b,q,e,hb,b7⟩:=(h.same hc).at_ hj
  have aM:=(h.same hc).cell j hj
  rw [e,<-hN] at aM
  exact ⟨b,q,aM,hb,fun i hi=>b7 i (by rw [<-hN];exact hi)⟩
 have bE:=h.gG
 have bx:=h.lt
 rw [<-hN] at aY
 rw [<-hq]
 have bH:a6y q=fun gP o' cap' => .agg #[.int .i64 p.W,.int .i64 p.H,.int .i64 p.d,.slice (some ⟨gP,o',none⟩) n cap']:=by
  funext gP o' cap'
  unfold a6y
  rw [az.W,az.H,az.d,hn,az.n]
 rw [bH]
 unfold a6y at aU aZ ⊢
 rw [<-hn] at aU aZ aV aY ⊢
 obtain ⟨w1,aB⟩:=zX (((w.alloc (.cells #[.int .i64 p.W,.int .i64 p.H,.int .i64 p.d,.slice (some ⟨g,o,none⟩) n cap] 27)).alloc (.cells #[.int .i64 0,.int .i64 0,.int .i64 0,.slice none 0 0] 27)))
 obtain ⟨X2,aO⟩:=zX (w.heap.size)
 obtain ⟨X4,au⟩:=zX (X2+1)
 have bm:Box w1 X2 (.int .i64 p.W) (.int .i64 p.H) (.int .i64 p.d) (.slice (some ⟨g,o,none⟩) n cap):=⟨by rw [aB,aO];exact (Blk.new w _ _).alloc _⟩
 have a8:Box w1 X4 (.int .i64 0) (.int .i64 0) (.int .i64 0) (.slice none 0 0):=⟨by rw [aB,au,aO];exact Blk.new2 w _ _ _⟩
 have bG:Chg [] w w1:=by rw [aB];exact ((zR [] w).alloc _).alloc _
 have HX:Hid (X2=w.heap.size/\X4=X2+1/\X4<w1.heap.size):=hid ⟨aO,au,a8.blk.lt⟩
 have cl:(p.W:Int)*(p.H:Int)=(N:Int):=by rw [hN];simp
 have cm:=ab.w1
 have cp:=ab.h1
 have ck:=ab.d1
 have HN:Hid (n=p.P.length/\N=p.W*p.H):=hid ⟨hn,hN⟩
 have bQ:=hid aB
 have ak:=hid bG
 have bk:=hid bm
 have bX:=hid a8
 have ch:=hid aU
 have cb:=hid aZ
 have bT:=hid bz
 have bS:=hid aY
 have bd:=hid ab
 have HQ:=hid bL
 have aD:=hid az
 have bc:=hid bx
 have bJ:=hid bE
 have b9:=hid aO
 have bW:=hid au
 obtain ⟨a0,a1,a2,a3⟩:=bm.cells
 clear aB bG bm a8 aU ab h hm aO au aZ bz aY hn hN hq bL az bH bx bE
 go_enter Tryz.func13,Tryz.ntmps13
 go_wp2_with fail
 rw [<-bQ.out,<-b9.out,<-bW.out]
 refine (ch.out w1 ak.out).mono ?_
 rintro e w2 ⟨rfl,bo⟩
 obtain ⟨a0,a1,a2,a3⟩:=(bk.out.same bo).cells
 have ap:=hid bo
 clear bo
 go_wp2_with fail
 refine (aV _).mono ?_
 rintro e w3 ⟨rfl,rfl⟩
 clear aV
 go_wp2_with fail
 refine (cb.out w2 (ak.out.tq ap.out)).mono ?_
 rintro e w3 ⟨gP,ad,xs,gs,rfl,aj,bv,aA⟩
 obtain ⟨w4,aL⟩:=zX (w3.alloc (.cells #[.int .i64 p.W,.int .i64 p.H,.int .i64 p.d,.slice (some ⟨gP,0,none⟩) n ad] 27))
 obtain ⟨X6,aX⟩:=zX (w3.heap.size)
 have a9:Chg [] w3 w4:=by rw [aL];exact (zR [] w3).alloc _
 have a7:Box w4 X6 (.int .i64 p.W) (.int .i64 p.H) (.int .i64 p.d) (.slice (some ⟨gP,0,none⟩) n ad):=⟨by rw [aL,aX];exact Blk.new w3 _ _⟩
 have av:Chg [] w1 w4:=(ap.out.tq bv).tq a9
 have bB:∀ x∈gP::gs,w1.heap.size<=x/\x<X6:=fun x hx=>⟨by have:=aA x hx;have:=ap.out.size;omega,by
  rw [aX]
  rcases zJ.1 hx with rfl | h1
  ·exact aj.ltP
  ·exact aj.pl.lt x h1⟩
 have an:=aj.same a9
 obtain ⟨a0,a1,a2,a3⟩:=(bk.out.same av).cells
 rw [aL] at a0 a1 a2 a3
 have aC:=a7.blk.lt
 have ce:=hid aL
 have bY:=hid aX
 have aa:=hid av
 have ar:=hid bB
 have bl:=hid an
 have b4:=hid a7
 have ae:=hid aC
 clear aL aX a9 a7 av bB an bv aA aj aC
 go_wp2_with fail
 rw [<-ce.out,<-bY.out]
 go_loopg [7,8,9,10,11,12,32] N (fun j v7 v8 v9 v10 v11 v12 v32 wr=>∃ i:Nat,v32=.int .i64 i/\i+j=N/\Hid (a1x wr (b8z p q i 0) gP ad xs gs)/\Hid (Chg gs w4 wr))
 case atStart=>exact ⟨0,rfl,by omega,hid (by unfold b8z;rw [c1p];exact bl.out),hid (zR _ _)⟩
 case round =>
  obtain ⟨i,rfl,cs,HO,ay⟩:=hrel
  have aK:∀ x,x<w1.heap.size\/X6<=x->x∉gP::gs:=fun x hx hm=>by have:=ar.out x hm;omega
  have ai:=hid aK
  have bu:=fun (E:List Nat) wz (hz:Chg E wr wz) (hE:∀ x,x<w1.heap.size\/x=X6->x∉E)=>And.intro
   ((((bk.out.same aa.out).chg ay.out (fun hm=>ai.out X2 (.inl (by have:=HX.out;omega)) (by simp [hm]))).chg hz (hE X2 (.inl (by have:=HX.out;omega)))))
   (And.intro ((((bX.out.same aa.out).chg ay.out (fun hm=>ai.out X4 (.inl (by have:=HX.out;omega)) (by simp [hm]))).chg hz (hE X4 (.inl (by have:=HX.out;omega)))))
   ((b4.out.chg ay.out (fun hm=>ai.out X6 (.inr (zQ _)) (by simp [hm]))).chg hz (hE X6 (.inr rfl))))
  have aE:=hid bu
  clear bu aK
  rcases gk with _ | j
  ·obtain rfl:i=N:=by omega
   have t1:decide ((i:Int)<(i:Int))=false:=by simp
   obtain ⟨h1,h2,h3⟩:=aE.out [] wr (zR _ _) (by simp)
   obtain ⟨a0,a1,a2,a3⟩:=h1.cells
   obtain ⟨b0,b1,b2,b3⟩:=h3.cells
   obtain ⟨z0,z1,z2,z3⟩:=h2.cells
   have f0:=h2.blk.frozen 0
   have f1:=h2.blk.frozen 1
   have f2:=h2.blk.frozen 2
   have f3:=h2.blk.frozen 3
   have HZ:=hid h2
   clear h1 h2 h3
   go_wp2_with fail
   refine b1x HZ.out ?_
   intro X hX hY
   obtain ⟨x0,x1,x2,x3⟩:=hX.cells
   refine bodyPost_ret (v:=.tuple #[.agg #[.int .i64 p.W,.int .i64 p.H,.int .i64 p.d,.slice (some ⟨gP,0,none⟩) n ad],.int .i64 0]) (by simp [results,Tryz.results13,go_sem,x0,x1,x2,x3]) rfl ?_
   have ho:=HO.out
   have e:=HN.out.2
   rw [e,d6v bd.out HQ.out aD.out] at ho
   have au:X4∉gP::gs:=ai.out X4 (.inl (by have:=HX.out;omega))
   refine ⟨gP,ad,xs,gs,rfl,ho.chg hY (by simp;exact fun e=>au (by simp [e])) (fun x hx hm=>by simp at hm;subst hm;exact au (by simp [hx])),?_,fun x hx=>by have:=ar.out x hx;have:=ak.out.size;omega⟩
   refine ((ak.out.tq aa.out).trans ay.out (fun x hx => .inr ?_)).trans hY (fun x hx => .inr ?_)
   ·have:=ar.out x (by simp [hx]);have:=ak.out.size;omega
   ·simp at hx
    have:=HX.out
    omega
  ·have hi:i<N:=by omega
   have t1:decide ((i:Int)<(N:Int))=true:=zB (by omega)
   obtain ⟨wo,rfl⟩:=zX (wr)
   obtain ⟨wr0,af⟩:=zX (wo.alloc (.cells #[.int .i64 0,.int .i64 0,.int .i64 0,.int .i64 0] 86))
   obtain ⟨X8,a4⟩:=zX (wo.heap.size)
   have aS:Chg [] wo wr0:=by rw [af];exact (zR [] wo).alloc _
   have bq:Blk wr0 X8 86 ((e0z p.P i 0).map vi).toArray:=by rw [af,a4];exact Blk.new wo _ _
   have aN:w4.heap.size<=X8:=by rw [a4];exact ay.out.size
   obtain ⟨h1,h2,h3⟩:=aE.out [] wr0 aS (by simp)
   obtain ⟨a0,a1,a2,a3⟩:=h1.cells
   have al:=HO.out.same aS
   rw [af] at a0 a1 a2 a3
   have bO:=hid af
   have bV:=hid a4
   have bs:=hid aS
   have cg:=hid bq
   have ac:=hid aN
   have cf:=hid al
   clear af a4 aS bq h1 h2 h3 aN al
   have bI:∀ wz,Chg [X8] wr0 wz->∀ j,j<n->∃ b q,wz.cell? ⟨g,o+j,none⟩=some (.slice (some ⟨b,q,none⟩) N (c j))/\wz.cell? ⟨b,q+i,none⟩=some (.int .i64 ((p.P.getD j []).getD i 0)):=by
    intro wz hz j hj
    have bK:Chg (X8::gs) w wz:=(((ak.out.tq aa.out).mono (F':=X8::gs) (by simp)).trans (ay.out.mono (F':=X8::gs) (by simp +contextual)) (fun x hx => .inl hx)).trans ((bs.out.mono (F':=X8::gs) (by simp)).trans (hz.mono (F':=X8::gs) (by simp +contextual)) (fun x hx => .inl hx)) (fun x hx => .inl hx)
    obtain ⟨b,q,e1,hb,e2⟩:=bT.out w (zR _ _) j hj
    have aF:∀ x∈G,x∉X8::gs:=fun x hx hm=>by
     have:=bc.out x hx
     rcases zJ.1 hm with rfl | hm
     ·have:=ac.out;have:=ak.out.size;have:=aa.out.size;omega
     ·have:=ar.out x (by simp [hm]);have:=ak.out.size;omega
    exact ⟨b,q,(World.cell?_of_block (w:=w) (bK.block g (bc.out g bJ.out) (aF g bJ.out))).trans e1,(World.cell?_of_block (w:=w) (bK.block b (bc.out b hb) (aF b hb))).trans (e2 i hi)⟩
   have bj:=hid bI
   clear bI
   go_wp2_with fail
   rw [<-bO.out,<-bV.out]
   go_loopg [9,10,38] n (fun j2 v9 v10 v38 wz=>∃ k2:Nat,v38=.int .i64 k2/\k2+j2=n/\Hid (Blk wz X8 86 ((e0z p.P i k2).map vi).toArray)/\Hid (Chg [X8] wr0 wz))
   case atStart=>exact ⟨0,rfl,by omega,cg,hid (zR _ _)⟩
   case round =>
    obtain ⟨k2,rfl,cn,aP,bb⟩:=hrel
    rcases gk with _ | j2
    ·obtain rfl:k2=n:=by omega
     have t2:decide ((k2:Int)<(k2:Int))=false:=by simp
     have aI:∀ x,x<w1.heap.size\/x=X6->x∉[X8]:=fun x hx hm=>by simp at hm;have:=ac.out;have:=ae.out;have:=aa.out.size;omega
     have aw:Chg [X8] wo wr:=(bs.out.mono (by simp)).trans bb.out (fun x hx => .inl hx)
     obtain ⟨h1,h2,h3⟩:=aE.out [X8] wr aw aI
     obtain ⟨a0,a1,a2,a3⟩:=h1.cells
     have ao:=aP.out
     rw [HN.out.1,c2h] at ao
     obtain ⟨a,b,c',e',y0,y1,y2,y3,bF,am,hy⟩:=bS.out i wr hi
     rw [bF] at ao
     have k0:=ao.cell 0
     have k1:=ao.cell 1
     have aQ:=ao.cell 2
     have k3:=ao.cell 3
     simp [vi] at k0 k1 aQ k3
     have aJ:=hid am
     have HY:=hid hy
     have be:=hid ao
     have ba:=hid aw
     clear aI aw h1 h2 h3 ao bF am hy
     go_wp2_with fail
     refine aJ.out.mono ?_
     rintro e w9 ⟨rfl,bf⟩
     have ag:=be.out.chg bf (by simp)
     have k0:=ag.cell 0
     have k1:=ag.cell 1
     have aQ:=ag.cell 2
     have k3:=ag.cell 3
     have f0:=ag.frozen 0
     have f1:=ag.frozen 1
     have f2:=ag.frozen 2
     have f3:=ag.frozen 3
     simp [vi] at k0 k1 aQ k3
     obtain ⟨wB,aH⟩:=zX (((((w9.setCell ⟨X8,0,none⟩ (.int .i64 y0)).setCell ⟨X8,1,none⟩ (.int .i64 y1)).setCell ⟨X8,2,none⟩ (.int .i64 y2)).setCell ⟨X8,3,none⟩ (.int .i64 y3)))
     have bM:Blk wB X8 86 (([y0,y1,y2,y3]:List Int).map vi).toArray:=by
      rw [aH]
      have:=(((ag.set_ 0 (.int .i64 y0)).set_ 1 (.int .i64 y1)).set_ 2 (.int .i64 y2)).set_ 3 (.int .i64 y3)
      simpa [vi] using this
     have aW:Chg [X8] wo wB:=by
      have:=((((zR [X8] w9).setCell (p:=⟨X8,0,none⟩) (.inl (by simp)) (.int .i64 y0)).setCell (p:=⟨X8,1,none⟩) (.inl (by simp)) (.int .i64 y1)).setCell (p:=⟨X8,2,none⟩) (.inl (by simp)) (.int .i64 y2)).setCell (p:=⟨X8,3,none⟩) (.inl (by simp)) (.int .i64 y3)
      rw [aH]
      exact (ba.out.tq (bf.mono (by simp))).tq this
     have aI:∀ x,x<w1.heap.size\/x=X6->x∉[X8]:=fun x hx hm=>by simp at hm;have:=ac.out;have:=ae.out;have:=aa.out.size;omega
     have aq:∀ x∈gP::gs,x∉[X8]:=fun x hx hm=>by simp at hm;have:=ar.out x hx;have:=ac.out;have:=ae.out;omega
     obtain ⟨h1,h2,h3⟩:=aE.out [X8] wB aW aI
     obtain ⟨b0,b1,b2,b3⟩:=h3.cells
     have aG:=HO.out.chg aW (aq gP (by simp)) (fun x hx=>aq x (by simp [hx]))
     have bU:=hid aH
     have bR:=hid bM
     have bD:=hid aW
     have cc:=hid aG
     rw [aH] at b0 b1 b2 b3
     clear ag aH bM aW aG h1 h2 h3 aI aq a0 a1 a2 a3 bf
     go_wp2_with fail
     rw [<-bU.out]
     clear b0 b1 b2 b3 k0 k1 aQ k3 f0 f1 f2 f3
     go_loopg [11,12,58] k2 (fun j2 v11 v12 v58 wz=>∃ k3:Nat,v58=.int .i64 k3/\k3+j2=k2/\Hid (a1x wz (b8z p q i k3) gP ad xs gs)/\Hid (Chg gs wB wz))
     case atStart=>exact ⟨0,rfl,by omega,cc,hid (zR _ _)⟩
     case round =>
      obtain ⟨k3,rfl,cj,a5,ah⟩:=hrel
      have h8:X8∉gs:=fun hm=>by have:=ar.out X8 (by simp [hm]);have:=ac.out;have:=ae.out;omega
      have a6:=bR.out.chg ah.out h8
      rcases gk with _ | j3
      ·obtain rfl:k3=k2:=by omega
       have t3:decide ((k3:Int)<(k3:Int))=false:=by simp
       clear a6 h8
       go_wp2_with fail
       go_roundg j
       case measure=>omega
       case rel =>
        refine ⟨i+1,by go_num,by omega,hid ?_,hid ?_⟩
        ·have:=a5.out
         unfold b8z at this ⊢
         rw [HN.out.1,d1b] at this
         exact this
        ·refine (ay.out.trans bD.out (fun x hx => .inr (by simp at hx;have:=ac.out;omega))).trans ah.out (fun x hx => .inl hx)
      ·have cd:k3<k2:=by omega
       have t3:decide ((k3:Int)<(k2:Int))=true:=zB (by omega)
       have aT:k3<(b8z p q i k3).P.length:=by show _<(b1u _ _ _ _).length;rw [a4j,<-HN.out.1];exact cd
       obtain ⟨g3,c3,e1,e2,e3,e4⟩:=a5.out.plane aT
       have bg:(b8z p q i k3).W*(b8z p q i k3).H=N:=HN.out.2.symm
       rw [bg] at e1 e3 e4
       have ax:((b8z p q i k3).P.getD k3 []).length=N:=by rw [<-bg];exact (a5.out.ok).len _ (a0n aT)
       obtain ⟨_,_,_,_,aM,br⟩:=e3.oq
       have bP:=br i
       have bN:wr.cell? ⟨g3,i,none⟩=some (.int .i64 (((b8z p q i k3).P.getD k3 []).getD i 0)):=by
        refine aM i _ ?_
        rw [zD (l:=(b8z p q i k3).P.getD k3 []),zF (by rw [ax];exact hi)]
        rfl
       have b5:=a6.vi_cell (k:=k3) (by simp;omega)
       obtain ⟨h1,h2,bA⟩:=aE.out (X8::gs) wr ((bD.out.mono (by simp)).trans (ah.out.mono (by simp +contextual)) (fun x hx => .inl hx)) (fun x hx hm=>by
        rcases zJ.1 hm with e | hm
        ·have:=ac.out;have:=ae.out;have:=aa.out.size;omega
        ·have:=ar.out x (by simp [hm]);omega)
       obtain ⟨b0,b1,b2,b3⟩:=bA.cells
       have bi:a1x (wr.setCell ⟨g3,i,none⟩ (.int .i64 ([y0,y1,y2,y3].getD k3 0))) (b8z p q i (k3+1)) gP ad xs gs:=by
        refine a5.out.sample e1 e2 aT e3 (by rw [ax];exact hi) (e3t bd.out HQ.out aD.out _ _) ?_
        rw [<-HY.out k3 (by have:=HN.out.1;omega)]
        exact (c5l (by have:=HN.out.1;omega) (by rw [bd.out.len _ (a0n (by have:=HN.out.1;omega)),<-HN.out.2];exact hi) (by rw [HQ.out.len _ (a0n (by have:=HN.out.1;have:=aD.out.n;omega)),<-aD.out.W,<-aD.out.H,<-HN.out.2];exact hi)).symm
       have bC:g3∈gs:=List.mem_of_getElem? e2
       have bh:Chg gs wB (wr.setCell ⟨g3,i,none⟩ (.int .i64 ([y0,y1,y2,y3].getD k3 0))):=ah.out.setCell (.inl bC) _
       obtain ⟨yv,bw⟩:=zX ([y0,y1,y2,y3].getD k3 0)
       rw [<-bw] at b5 bi bh
       have ci:=hid bi
       have bZ:=hid bh
       clear bi bh bw h1 h2 bA a6 h8 e1 e2 e3 br aM bg ax bC aT
       go_wp2_with fail
       go_roundg j3
       case measure=>omega
       case rel=>exact ⟨k3+1,by go_num,by omega,ci,bZ⟩
    ·have b6:k2<n:=by omega
     have t2:decide ((k2:Int)<(n:Int))=true:=zB (by omega)
     obtain ⟨b,q',e1,e2⟩:=bj.out wr bb.out k2 b6
     have hf:=aP.out.frozen k2
     have cr:=aP.out.vi_cell (k:=k2) (by rw [c7r];omega)
     have aR:=aP.out.set_vi k2 ((p.P.getD k2 []).getD i 0)
     rw [c7s p.P i (by omega)] at aR
     have bp:Chg [X8] wr0 (wr.setCell ⟨X8,k2,none⟩ (.int .i64 ((p.P.getD k2 []).getD i 0))):=bb.out.setCell (.inl (by simp)) _
     obtain ⟨v,hv⟩:=zX ((p.P.getD k2 []).getD i 0)
     rw [<-hv] at e2 aR bp
     have ca:=hid aR
     have bn:=hid bp
     clear aR bp hv
     go_wp2_with fail
     go_roundg j2
     case measure=>omega
     case rel=>exact ⟨k2+1,by go_num,by omega,ca,bn⟩
theorem e7x {w:World} {p:a2a} {g o:Nat} {B:Nat->Option Addr} {c:Nat->Nat} {G:List Nat} (cap:Nat) (h:a4l w p g o B c G) (k:Nat) (k4:k<=4) (hm:b9k p.P.length k=true) :
  Calls Tryz.prog 103 #[a6y p g o cap,.int .i64 k] w (a2x w (c9h k p)):=by
 unfold a2x
 have ab:=h.ok
 have aU:∀ w',Chg [] w w'->_:=fun w' (hc':Chg [] w w')=>c1d cap (h.same hc')
 have aZ:∀ w',Chg [] w w'->_:=fun w' (hc':Chg [] w w')=>e1r cap (h.same hc')
 have aV:=fun w'=>c0z p.P.length k w' ab.n0 ab.n1 k4
 rw [hm] at aV
 obtain ⟨q,hq⟩:=zX (c9h k p)
 have bL:q.Ok:=by rw [hq];exact d5g ab k
 have az:c9a p q:=by rw [hq];exact ⟨rfl,rfl,rfl,(a3y _ _ _).symm⟩
 have aY:∀ i wz,i<p.W*p.H->∃ a b c e y0 y1 y2 y3,pt4 p.P i=[a,b,c,e]/\Calls Tryz.prog 136 #[.agg #[.int .i64 a,.int .i64 b,.int .i64 c,.int .i64 e],.int .i64 k,.int .i64 p.d] wz (fun en w'=>en=.returned (.agg #[.int .i64 y0,.int .i64 y1,.int .i64 y2,.int .i64 y3])/\Chg [] wz w')/\∀ j,j<p.P.length->(q.P.getD j []).getD i 0=[y0,y1,y2,y3].getD j 0:=by
  intro i wz hi
  obtain ⟨y0,y1,y2,y3,hy⟩:=b5n (e1g k p.d ((p.P.getD 0 []).getD i 0) ((p.P.getD 1 []).getD i 0) ((p.P.getD 2 []).getD i 0) ((p.P.getD 3 []).getD i 0))
  have hc:=d8e k p.d _ _ _ _ wz ab.d0 ab.d1 k4 (a6a ab i 0) (a6a ab i 1) (a6a ab i 2) (a6a ab i 3)
  rw [hy] at hc
  refine ⟨_,_,_,_,y0,y1,y2,y3,e4v _ _,hc,fun j hj => ?_⟩
  rw [hq,<-hy]
  exact b6g hj hi
 obtain ⟨n,hn⟩:=zX (p.P.length)
 obtain ⟨N,hN⟩:=zX (p.W*p.H)
 have cq:n<=4:=by rw [hn];exact ab.n1
 have co:N<=4096:=by rw [hN];exact ab.area
 have bz:∀ wz,Chg [] w wz->∀ j,j<n->∃ b q,wz.cell? ⟨g,o+j,none⟩=some (.slice (some ⟨b,q,none⟩) N (c j))/\b∈G/\∀ i,i<N->wz.cell? ⟨b,q+i,none⟩=some (.int .i64 ((p.P.getD j []).getD i 0)):=by
  intro wz hc j hj
  rw [hn] at hj
  obtain ⟨b,q,e,hb,b7⟩:=(h.same hc).at_ hj
  have aM:=(h.same hc).cell j hj
  rw [e,<-hN] at aM
  exact ⟨b,q,aM,hb,fun i hi=>b7 i (by rw [<-hN];exact hi)⟩
 have bE:=h.gG
 have bx:=h.lt
 rw [<-hN] at aY
 rw [<-hq]
 have bH:a6y q=fun gP o' cap' => .agg #[.int .i64 p.W,.int .i64 p.H,.int .i64 p.d,.slice (some ⟨gP,o',none⟩) n cap']:=by
  funext gP o' cap'
  unfold a6y
  rw [az.W,az.H,az.d,hn,az.n]
 rw [bH]
 unfold a6y at aU aZ ⊢
 rw [<-hn] at aU aZ aV aY ⊢
 obtain ⟨w1,aB⟩:=zX (((w.alloc (.cells #[.int .i64 p.W,.int .i64 p.H,.int .i64 p.d,.slice (some ⟨g,o,none⟩) n cap] 27)).alloc (.cells #[.int .i64 0,.int .i64 0,.int .i64 0,.slice none 0 0] 27)))
 obtain ⟨X2,aO⟩:=zX (w.heap.size)
 obtain ⟨X4,au⟩:=zX (X2+1)
 have bm:Box w1 X2 (.int .i64 p.W) (.int .i64 p.H) (.int .i64 p.d) (.slice (some ⟨g,o,none⟩) n cap):=⟨by rw [aB,aO];exact (Blk.new w _ _).alloc _⟩
 have a8:Box w1 X4 (.int .i64 0) (.int .i64 0) (.int .i64 0) (.slice none 0 0):=⟨by rw [aB,au,aO];exact Blk.new2 w _ _ _⟩
 have bG:Chg [] w w1:=by rw [aB];exact ((zR [] w).alloc _).alloc _
 have HX:Hid (X2=w.heap.size/\X4=X2+1/\X4<w1.heap.size):=hid ⟨aO,au,a8.blk.lt⟩
 have cl:(p.W:Int)*(p.H:Int)=(N:Int):=by rw [hN];simp
 have cm:=ab.w1
 have cp:=ab.h1
 have ck:=ab.d1
 have HN:Hid (n=p.P.length/\N=p.W*p.H):=hid ⟨hn,hN⟩
 have bQ:=hid aB
 have ak:=hid bG
 have bk:=hid bm
 have bX:=hid a8
 have ch:=hid aU
 have cb:=hid aZ
 have bT:=hid bz
 have bS:=hid aY
 have bd:=hid ab
 have HQ:=hid bL
 have aD:=hid az
 have bc:=hid bx
 have bJ:=hid bE
 have b9:=hid aO
 have bW:=hid au
 obtain ⟨a0,a1,a2,a3⟩:=bm.cells
 clear aB bG bm a8 aU ab h hm aO au aZ bz aY hn hN hq bL az bH bx bE
 go_enter Tryz.func103,Tryz.ntmps103
 go_wp2_with fail
 rw [<-bQ.out,<-b9.out,<-bW.out]
 refine (ch.out w1 ak.out).mono ?_
 rintro e w2 ⟨rfl,bo⟩
 obtain ⟨a0,a1,a2,a3⟩:=(bk.out.same bo).cells
 have ap:=hid bo
 clear bo
 go_wp2_with fail
 refine (aV _).mono ?_
 rintro e w3 ⟨rfl,rfl⟩
 clear aV
 go_wp2_with fail
 refine (cb.out w2 (ak.out.tq ap.out)).mono ?_
 rintro e w3 ⟨gP,ad,xs,gs,rfl,aj,bv,aA⟩
 obtain ⟨w4,aL⟩:=zX (w3.alloc (.cells #[.int .i64 p.W,.int .i64 p.H,.int .i64 p.d,.slice (some ⟨gP,0,none⟩) n ad] 27))
 obtain ⟨X6,aX⟩:=zX (w3.heap.size)
 have a9:Chg [] w3 w4:=by rw [aL];exact (zR [] w3).alloc _
 have a7:Box w4 X6 (.int .i64 p.W) (.int .i64 p.H) (.int .i64 p.d) (.slice (some ⟨gP,0,none⟩) n ad):=⟨by rw [aL,aX];exact Blk.new w3 _ _⟩
 have av:Chg [] w1 w4:=(ap.out.tq bv).tq a9
 have bB:∀ x∈gP::gs,w1.heap.size<=x/\x<X6:=fun x hx=>⟨by have:=aA x hx;have:=ap.out.size;omega,by
  rw [aX]
  rcases zJ.1 hx with rfl | h1
  ·exact aj.ltP
  ·exact aj.pl.lt x h1⟩
 have an:=aj.same a9
 obtain ⟨a0,a1,a2,a3⟩:=(bk.out.same av).cells
 rw [aL] at a0 a1 a2 a3
 have aC:=a7.blk.lt
 have ce:=hid aL
 have bY:=hid aX
 have aa:=hid av
 have ar:=hid bB
 have bl:=hid an
 have b4:=hid a7
 have ae:=hid aC
 clear aL aX a9 a7 av bB an bv aA aj aC
 go_wp2_with fail
 rw [<-ce.out,<-bY.out]
 go_loopg [7,8,9,10,11,12,32] N (fun j v7 v8 v9 v10 v11 v12 v32 wr=>∃ i:Nat,v32=.int .i64 i/\i+j=N/\Hid (a1x wr (b8z p q i 0) gP ad xs gs)/\Hid (Chg gs w4 wr))
 case atStart=>exact ⟨0,rfl,by omega,hid (by unfold b8z;rw [c1p];exact bl.out),hid (zR _ _)⟩
 case round =>
  obtain ⟨i,rfl,cs,HO,ay⟩:=hrel
  have aK:∀ x,x<w1.heap.size\/X6<=x->x∉gP::gs:=fun x hx hm=>by have:=ar.out x hm;omega
  have ai:=hid aK
  have bu:=fun (E:List Nat) wz (hz:Chg E wr wz) (hE:∀ x,x<w1.heap.size\/x=X6->x∉E)=>And.intro
   ((((bk.out.same aa.out).chg ay.out (fun hm=>ai.out X2 (.inl (by have:=HX.out;omega)) (by simp [hm]))).chg hz (hE X2 (.inl (by have:=HX.out;omega)))))
   (And.intro ((((bX.out.same aa.out).chg ay.out (fun hm=>ai.out X4 (.inl (by have:=HX.out;omega)) (by simp [hm]))).chg hz (hE X4 (.inl (by have:=HX.out;omega)))))
   ((b4.out.chg ay.out (fun hm=>ai.out X6 (.inr (zQ _)) (by simp [hm]))).chg hz (hE X6 (.inr rfl))))
  have aE:=hid bu
  clear bu aK
  rcases gk with _ | j
  ·obtain rfl:i=N:=by omega
   have t1:decide ((i:Int)<(i:Int))=false:=by simp
   obtain ⟨h1,h2,h3⟩:=aE.out [] wr (zR _ _) (by simp)
   obtain ⟨a0,a1,a2,a3⟩:=h1.cells
   obtain ⟨b0,b1,b2,b3⟩:=h3.cells
   obtain ⟨z0,z1,z2,z3⟩:=h2.cells
   have f0:=h2.blk.frozen 0
   have f1:=h2.blk.frozen 1
   have f2:=h2.blk.frozen 2
   have f3:=h2.blk.frozen 3
   have HZ:=hid h2
   clear h1 h2 h3
   go_wp2_with fail
   refine b1x HZ.out ?_
   intro X hX hY
   obtain ⟨x0,x1,x2,x3⟩:=hX.cells
   refine bodyPost_ret (v:=.tuple #[.agg #[.int .i64 p.W,.int .i64 p.H,.int .i64 p.d,.slice (some ⟨gP,0,none⟩) n ad],.int .i64 0]) (by simp [results,Tryz.results103,go_sem,x0,x1,x2,x3]) rfl ?_
   have ho:=HO.out
   have e:=HN.out.2
   rw [e,d6v bd.out HQ.out aD.out] at ho
   have au:X4∉gP::gs:=ai.out X4 (.inl (by have:=HX.out;omega))
   refine ⟨gP,ad,xs,gs,rfl,ho.chg hY (by simp;exact fun e=>au (by simp [e])) (fun x hx hm=>by simp at hm;subst hm;exact au (by simp [hx])),?_,fun x hx=>by have:=ar.out x hx;have:=ak.out.size;omega⟩
   refine ((ak.out.tq aa.out).trans ay.out (fun x hx => .inr ?_)).trans hY (fun x hx => .inr ?_)
   ·have:=ar.out x (by simp [hx]);have:=ak.out.size;omega
   ·simp at hx
    have:=HX.out
    omega
  ·have hi:i<N:=by omega
   have t1:decide ((i:Int)<(N:Int))=true:=zB (by omega)
   obtain ⟨wo,rfl⟩:=zX (wr)
   obtain ⟨wr0,af⟩:=zX (wo.alloc (.cells #[.int .i64 0,.int .i64 0,.int .i64 0,.int .i64 0] 86))
   obtain ⟨X8,a4⟩:=zX (wo.heap.size)
   have aS:Chg [] wo wr0:=by rw [af];exact (zR [] wo).alloc _
   have bq:Blk wr0 X8 86 ((e0z p.P i 0).map vi).toArray:=by rw [af,a4];exact Blk.new wo _ _
   have aN:w4.heap.size<=X8:=by rw [a4];exact ay.out.size
   obtain ⟨h1,h2,h3⟩:=aE.out [] wr0 aS (by simp)
   obtain ⟨a0,a1,a2,a3⟩:=h1.cells
   have al:=HO.out.same aS
   rw [af] at a0 a1 a2 a3
   have bO:=hid af
   have bV:=hid a4
   have bs:=hid aS
   have cg:=hid bq
   have ac:=hid aN
   have cf:=hid al
   clear af a4 aS bq h1 h2 h3 aN al
   have bI:∀ wz,Chg [X8] wr0 wz->∀ j,j<n->∃ b q,wz.cell? ⟨g,o+j,none⟩=some (.slice (some ⟨b,q,none⟩) N (c j))/\wz.cell? ⟨b,q+i,none⟩=some (.int .i64 ((p.P.getD j []).getD i 0)):=by
    intro wz hz j hj
    have bK:Chg (X8::gs) w wz:=(((ak.out.tq aa.out).mono (F':=X8::gs) (by simp)).trans (ay.out.mono (F':=X8::gs) (by simp +contextual)) (fun x hx => .inl hx)).trans ((bs.out.mono (F':=X8::gs) (by simp)).trans (hz.mono (F':=X8::gs) (by simp +contextual)) (fun x hx => .inl hx)) (fun x hx => .inl hx)
    obtain ⟨b,q,e1,hb,e2⟩:=bT.out w (zR _ _) j hj
    have aF:∀ x∈G,x∉X8::gs:=fun x hx hm=>by
     have:=bc.out x hx
     rcases zJ.1 hm with rfl | hm
     ·have:=ac.out;have:=ak.out.size;have:=aa.out.size;omega
     ·have:=ar.out x (by simp [hm]);have:=ak.out.size;omega
    exact ⟨b,q,(World.cell?_of_block (w:=w) (bK.block g (bc.out g bJ.out) (aF g bJ.out))).trans e1,(World.cell?_of_block (w:=w) (bK.block b (bc.out b hb) (aF b hb))).trans (e2 i hi)⟩
   have bj:=hid bI
   clear bI
   go_wp2_with fail
   rw [<-bO.out,<-bV.out]
   go_loopg [9,10,38] n (fun j2 v9 v10 v38 wz=>∃ k2:Nat,v38=.int .i64 k2/\k2+j2=n/\Hid (Blk wz X8 86 ((e0z p.P i k2).map vi).toArray)/\Hid (Chg [X8] wr0 wz))
   case atStart=>exact ⟨0,rfl,by omega,cg,hid (zR _ _)⟩
   case round =>
    obtain ⟨k2,rfl,cn,aP,bb⟩:=hrel
    rcases gk with _ | j2
    ·obtain rfl:k2=n:=by omega
     have t2:decide ((k2:Int)<(k2:Int))=false:=by simp
     have aI:∀ x,x<w1.heap.size\/x=X6->x∉[X8]:=fun x hx hm=>by simp at hm;have:=ac.out;have:=ae.out;have:=aa.out.size;omega
     have aw:Chg [X8] wo wr:=(bs.out.mono (by simp)).trans bb.out (fun x hx => .inl hx)
     obtain ⟨h1,h2,h3⟩:=aE.out [X8] wr aw aI
     obtain ⟨a0,a1,a2,a3⟩:=h1.cells
     have ao:=aP.out
     rw [HN.out.1,c2h] at ao
     obtain ⟨a,b,c',e',y0,y1,y2,y3,bF,am,hy⟩:=bS.out i wr hi
     rw [bF] at ao
     have k0:=ao.cell 0
     have k1:=ao.cell 1
     have aQ:=ao.cell 2
     have k3:=ao.cell 3
     simp [vi] at k0 k1 aQ k3
     have aJ:=hid am
     have HY:=hid hy
     have be:=hid ao
     have ba:=hid aw
     clear aI aw h1 h2 h3 ao bF am hy
     go_wp2_with fail
     refine aJ.out.mono ?_
     rintro e w9 ⟨rfl,bf⟩
     have ag:=be.out.chg bf (by simp)
     have k0:=ag.cell 0
     have k1:=ag.cell 1
     have aQ:=ag.cell 2
     have k3:=ag.cell 3
     have f0:=ag.frozen 0
     have f1:=ag.frozen 1
     have f2:=ag.frozen 2
     have f3:=ag.frozen 3
     simp [vi] at k0 k1 aQ k3
     obtain ⟨wB,aH⟩:=zX (((((w9.setCell ⟨X8,0,none⟩ (.int .i64 y0)).setCell ⟨X8,1,none⟩ (.int .i64 y1)).setCell ⟨X8,2,none⟩ (.int .i64 y2)).setCell ⟨X8,3,none⟩ (.int .i64 y3)))
     have bM:Blk wB X8 86 (([y0,y1,y2,y3]:List Int).map vi).toArray:=by
      rw [aH]
      have:=(((ag.set_ 0 (.int .i64 y0)).set_ 1 (.int .i64 y1)).set_ 2 (.int .i64 y2)).set_ 3 (.int .i64 y3)
      simpa [vi] using this
     have aW:Chg [X8] wo wB:=by
      have:=((((zR [X8] w9).setCell (p:=⟨X8,0,none⟩) (.inl (by simp)) (.int .i64 y0)).setCell (p:=⟨X8,1,none⟩) (.inl (by simp)) (.int .i64 y1)).setCell (p:=⟨X8,2,none⟩) (.inl (by simp)) (.int .i64 y2)).setCell (p:=⟨X8,3,none⟩) (.inl (by simp)) (.int .i64 y3)
      rw [aH]
      exact (ba.out.tq (bf.mono (by simp))).tq this
     have aI:∀ x,x<w1.heap.size\/x=X6->x∉[X8]:=fun x hx hm=>by simp at hm;have:=ac.out;have:=ae.out;have:=aa.out.size;omega
     have aq:∀ x∈gP::gs,x∉[X8]:=fun x hx hm=>by simp at hm;have:=ar.out x hx;have:=ac.out;have:=ae.out;omega
     obtain ⟨h1,h2,h3⟩:=aE.out [X8] wB aW aI
     obtain ⟨b0,b1,b2,b3⟩:=h3.cells
     have aG:=HO.out.chg aW (aq gP (by simp)) (fun x hx=>aq x (by simp [hx]))
     have bU:=hid aH
     have bR:=hid bM
     have bD:=hid aW
     have cc:=hid aG
     rw [aH] at b0 b1 b2 b3
     clear ag aH bM aW aG h1 h2 h3 aI aq a0 a1 a2 a3 bf
     go_wp2_with fail
     rw [<-bU.out]
     clear b0 b1 b2 b3 k0 k1 aQ k3 f0 f1 f2 f3
     go_loopg [11,12,58] k2 (fun j2 v11 v12 v58 wz=>∃ k3:Nat,v58=.int .i64 k3/\k3+j2=k2/\Hid (a1x wz (b8z p q i k3) gP ad xs gs)/\Hid (Chg gs wB wz))
     case atStart=>exact ⟨0,rfl,by omega,cc,hid (zR _ _)⟩
     case round =>
      obtain ⟨k3,rfl,cj,a5,ah⟩:=hrel
      have h8:X8∉gs:=fun hm=>by have:=ar.out X8 (by simp [hm]);have:=ac.out;have:=ae.out;omega
      have a6:=bR.out.chg ah.out h8
      rcases gk with _ | j3
      ·obtain rfl:k3=k2:=by omega
       have t3:decide ((k3:Int)<(k3:Int))=false:=by simp
       clear a6 h8
       go_wp2_with fail
       go_roundg j
       case measure=>omega
       case rel =>
        refine ⟨i+1,by go_num,by omega,hid ?_,hid ?_⟩
        ·have:=a5.out
         unfold b8z at this ⊢
         rw [HN.out.1,d1b] at this
         exact this
        ·refine (ay.out.trans bD.out (fun x hx => .inr (by simp at hx;have:=ac.out;omega))).trans ah.out (fun x hx => .inl hx)
      ·have cd:k3<k2:=by omega
       have t3:decide ((k3:Int)<(k2:Int))=true:=zB (by omega)
       have aT:k3<(b8z p q i k3).P.length:=by show _<(b1u _ _ _ _).length;rw [a4j,<-HN.out.1];exact cd
       obtain ⟨g3,c3,e1,e2,e3,e4⟩:=a5.out.plane aT
       have bg:(b8z p q i k3).W*(b8z p q i k3).H=N:=HN.out.2.symm
       rw [bg] at e1 e3 e4
       have ax:((b8z p q i k3).P.getD k3 []).length=N:=by rw [<-bg];exact (a5.out.ok).len _ (a0n aT)
       obtain ⟨_,_,_,_,aM,br⟩:=e3.oq
       have bP:=br i
       have bN:wr.cell? ⟨g3,i,none⟩=some (.int .i64 (((b8z p q i k3).P.getD k3 []).getD i 0)):=by
        refine aM i _ ?_
        rw [zD (l:=(b8z p q i k3).P.getD k3 []),zF (by rw [ax];exact hi)]
        rfl
       have b5:=a6.vi_cell (k:=k3) (by simp;omega)
       obtain ⟨h1,h2,bA⟩:=aE.out (X8::gs) wr ((bD.out.mono (by simp)).trans (ah.out.mono (by simp +contextual)) (fun x hx => .inl hx)) (fun x hx hm=>by
        rcases zJ.1 hm with e | hm
        ·have:=ac.out;have:=ae.out;have:=aa.out.size;omega
        ·have:=ar.out x (by simp [hm]);omega)
       obtain ⟨b0,b1,b2,b3⟩:=bA.cells
       have bi:a1x (wr.setCell ⟨g3,i,none⟩ (.int .i64 ([y0,y1,y2,y3].getD k3 0))) (b8z p q i (k3+1)) gP ad xs gs:=by
        refine a5.out.sample e1 e2 aT e3 (by rw [ax];exact hi) (e3t bd.out HQ.out aD.out _ _) ?_
        rw [<-HY.out k3 (by have:=HN.out.1;omega)]
        exact (c5l (by have:=HN.out.1;omega) (by rw [bd.out.len _ (a0n (by have:=HN.out.1;omega)),<-HN.out.2];exact hi) (by rw [HQ.out.len _ (a0n (by have:=HN.out.1;have:=aD.out.n;omega)),<-aD.out.W,<-aD.out.H,<-HN.out.2];exact hi)).symm
       have bC:g3∈gs:=List.mem_of_getElem? e2
       have bh:Chg gs wB (wr.setCell ⟨g3,i,none⟩ (.int .i64 ([y0,y1,y2,y3].getD k3 0))):=ah.out.setCell (.inl bC) _
       obtain ⟨yv,bw⟩:=zX ([y0,y1,y2,y3].getD k3 0)
       rw [<-bw] at b5 bi bh
       have ci:=hid bi
       have bZ:=hid bh
       clear bi bh bw h1 h2 bA a6 h8 e1 e2 e3 br aM bg ax bC aT
       go_wp2_with fail
       go_roundg j3
       case measure=>omega
       case rel=>exact ⟨k3+1,by go_num,by omega,ci,bZ⟩
    ·have b6:k2<n:=by omega
     have t2:decide ((k2:Int)<(n:Int))=true:=zB (by omega)
     obtain ⟨b,q',e1,e2⟩:=bj.out wr bb.out k2 b6
     have hf:=aP.out.frozen k2
     have cr:=aP.out.vi_cell (k:=k2) (by rw [c7r];omega)
     have aR:=aP.out.set_vi k2 ((p.P.getD k2 []).getD i 0)
     rw [c7s p.P i (by omega)] at aR
     have bp:Chg [X8] wr0 (wr.setCell ⟨X8,k2,none⟩ (.int .i64 ((p.P.getD k2 []).getD i 0))):=bb.out.setCell (.inl (by simp)) _
     obtain ⟨v,hv⟩:=zX ((p.P.getD k2 []).getD i 0)
     rw [<-hv] at e2 aR bp
     have ca:=hid aR
     have bn:=hid bp
     clear aR bp hv
     go_wp2_with fail
     go_roundg j2
     case measure=>omega
     case rel=>exact ⟨k2+1,by go_num,by omega,ca,bn⟩
theorem e8b {w:World} {p:a2a} {g o:Nat} {B:Nat->Option Addr} {c:Nat->Nat} {G:List Nat} (cap:Nat) (h:a4l w p g o B c G) :
  Calls Tryz.prog 122 #[a6y p g o cap] w fun e w'=>e=.returned (.int .i64 (b8w p))/\Chg [] w w':=by
 have aa:=h.ok
 have ah:∀ w',Chg [] w w'->_:=fun w' (hc':Chg [] w w')=>c1d cap (h.same hc')
 obtain ⟨n,hn⟩:=zX (p.P.length)
 obtain ⟨N,hN⟩:=zX (p.W*p.H)
 have bd:n<=4:=by rw [hn];exact aa.n1
 have be:N<=4096:=by rw [hN];exact aa.area
 have aw:∀ wz,Chg [] w wz->∀ j,j<n->∃ b q,wz.cell? ⟨g,o+j,none⟩=some (.slice (some ⟨b,q,none⟩) N (c j))/\∀ i,i<N->wz.cell? ⟨b,q+i,none⟩=some (.int .i64 ((p.P.getD j []).getD i 0)):=by
  intro wz hc j hj
  rw [hn] at hj
  obtain ⟨b,q,e,hb,aH⟩:=(h.same hc).at_ hj
  have ae:=(h.same hc).cell j hj
  rw [e,<-hN] at ae
  exact ⟨b,q,ae,fun i hi=>aH i (by rw [<-hN];exact hi)⟩
 have au:∀ v wz,_:=fun v wz=>a7x v p.d wz aa.d0 aa.d1
 have aA:∀ v,_:=fun v=>b5j v aa.d0 aa.d1
 have aC:=fun k=>d3p aa k
 have az:=fun l k=>d3o l p.W aa.d0 aa.d1 k
 have aE:∀ j i,In4 p.d ((p.P.getD j []).getD i 0):=fun j i=>a6a aa i j
 obtain ⟨ba,bb⟩:=a9c aa.d0 aa.d1
 unfold a6y at ah ⊢
 rw [<-hn] at ah ⊢
 have ae:b8w p=e8a p n:=by rw [hn];rfl
 rw [ae]
 obtain ⟨w1,ag⟩:=zX (w.alloc (.cells #[.int .i64 p.W,.int .i64 p.H,.int .i64 p.d,.slice (some ⟨g,o,none⟩) n cap] 27))
 obtain ⟨X,hX⟩:=zX (w.heap.size)
 have ak:Box w1 X (.int .i64 p.W) (.int .i64 p.H) (.int .i64 p.d) (.slice (some ⟨g,o,none⟩) n cap):=⟨by rw [ag,hX];exact Blk.new w _ _⟩
 have ay:Chg [] w w1:=by rw [ag];exact (zR [] w).alloc _
 have a9:=aa.w0
 have a7:=aa.w1
 have aT:=aa.d1
 have HN:Hid (n=p.P.length/\N=p.W*p.H):=hid ⟨hn,hN⟩
 have aG:=hid ag
 have aJ:=hid hX
 have av:=hid ay
 have aP:=hid ak
 have aK:=hid ah
 have aN:=hid aw
 have aq:=hid au
 have ax:=hid aA
 have aM:=hid aC
 have aQ:=hid az
 have aF:=hid aE
 obtain ⟨a0,a1,a2,a3⟩:=ak.cells
 clear ag ay ak ah aa h hX aw hn hN au aA aC az ae aE
 go_enter Tryz.func122,Tryz.ntmps122
 go_wp2_with fail
 rw [<-aG.out,<-aJ.out]
 refine (aK.out w1 av.out).mono ?_
 rintro e w2 ⟨rfl,an⟩
 obtain ⟨a0,a1,a2,a3⟩:=(aP.out.same an).cells
 have af:=hid (av.out.tq an)
 clear an
 go_wp2_with fail
 go_loopg [3,5,6,7,8,9,16,20,21,22] n (fun j v3 v5 v6 v7 v8 v9 v16 v20 v21 v22 wr=>∃ k:Nat,v16=.int .i64 k/\k+j=n/\v3=.int .i64 (e8a p k:Int)/\w2=wr)
 case atStart=>exact ⟨0,rfl,by omega,rfl,rfl⟩
 case round =>
  obtain ⟨k,rfl,bc,rfl,rfl⟩:=hrel
  rcases gk with _ | j
  ·obtain rfl:k=n:=by omega
   have t1:decide ((k:Int)<(k:Int))=false:=by simp
   go_wp2_with fail
   go_ret
   exact ⟨rfl,af.out⟩
  ·have hk:k<n:=by omega
   have t1:decide ((k:Int)<(n:Int))=true:=zB (by omega)
   obtain ⟨b,q,e1,e2⟩:=aN.out w2 af.out k hk
   have aD:=hid e2
   have aB:=aM.out k
   obtain ⟨T,hT⟩:=zX (e8a p k)
   rw [<-hT] at aB ⊢
   have HT:=hid hT
   have a8:T<=600000000:=by omega
   clear e2 aB hT
   go_wp2_with fail
   go_loopg [3,6,7,8,9,22] N (fun j2 v3 v6 v7 v8 v9 v22 wr=>∃ i:Nat,v22=.int .i64 i/\i+j2=N/\v3=.int .i64 ((T+e7z (p.P.getD k []) p.W p.d i:Nat):Int)/\w2=wr)
   case atStart=>exact ⟨0,rfl,by omega,rfl,rfl⟩
   case round =>
    obtain ⟨i,rfl,a6,rfl,rfl⟩:=hrel
    rcases gk with _ | j2
    ·obtain rfl:i=N:=by omega
     have t2:decide ((i:Int)<(i:Int))=false:=by simp
     go_wp2_with fail
     go_roundg j
     case measure=>omega
     case rel=>exact ⟨k+1,by go_num,by omega,by rw [d0o,<-HT.out,<-HN.out.2],rfl⟩
    ·have hi:i<N:=by omega
     have t2:decide ((i:Int)<(N:Int))=true:=zB (by omega)
     have e2:=aD.out i hi
     obtain ⟨l,hl⟩:=zX (p.P.getD k [])
     have ab:=d0n l p.W p.d i
     have am:=aQ.out l i
     obtain ⟨v,hv⟩:=zX (l.getD i 0)
     have ao:=aF.out k i
     rw [<-hl] at e2 ao ⊢
     rw [<-hv] at e2 ab ao
     obtain ⟨a5,a4⟩:=ao
     obtain ⟨x,hx⟩:=zX (i%p.W)
     have aO:(i:Int)%(p.W:Int)=(x:Int):=by rw [hx];simp
     have aX:(i:Int).tmod (p.W:Int)=(x:Int):=by rw [Int.tmod_eq_emod_of_nonneg (by omega)];exact aO
     have aR:(p.W:Int)≠0:=by omega
     have aU:x<p.W:=by rw [hx];exact Nat.mod_lt _ (by omega)
     obtain ⟨S,hS⟩:=zX (e7z l p.W p.d i)
     rw [<-hS,<-hx] at ab
     rw [<-hS] at am ⊢
     have aV:S<=200000000:=by omega
     have al:=hid hl
     by_cases h0:x=0
     ·have t3:decide (0<x)=false:=zA (by omega)
      rw [if_pos h0] at ab
      have hf:=fun wz=>aq.out (v-0) wz
      obtain ⟨f0,f1⟩:=ax.out (v-0)
      obtain ⟨f,ad⟩:=zX (a1b (v-0) p.d)
      rw [<-ad] at ab hf f0 f1
      rw [show v-0=v by omega] at hf
      have aj:(if f < -f then -f else f)=(f.natAbs:Int):=by split<;>omega
      have ac:(if -f<f then f else -f)=(f.natAbs:Int):=by split<;>omega
      obtain ⟨A,hA⟩:=zX (f.natAbs)
      rw [<-hA] at ab aj ac
      have aI:A<=32768:=by omega
      have ai:=hid ab
      clear ab am ad hS hx hl hv h0 hA
      go_wp2_with (go_at_call 84;refine (hf _).mono ?_;rintro e w' ⟨rfl,rfl⟩)
      go_roundg j2
      case measure=>omega
      case rel=>exact ⟨i+1,by go_num,by omega,by rw [<-al.out,ai.out,<-Nat.add_assoc,Int.natCast_add (T+S) A];go_num,rfl⟩
     ·have t3:decide (0<x)=true:=zB (by omega)
      rw [if_neg h0] at ab
      have aW:0<i:=by
       rcases Nat.eq_zero_or_pos i with h1 | h1
       ·exfalso;rw [h1,Nat.zero_mod] at hx;exact h0 hx
       ·exact h1
      obtain ⟨i1,ar⟩:∃ i1,i=i1+1:=⟨i-1,by omega⟩
      have e3:=aD.out i1 (by omega)
      rw [show q+i1=q+(i-1) by omega] at e3
      have ap:=aF.out k i1
      rw [show i-1=i1 by omega] at ab
      obtain ⟨u,hu⟩:=zX (l.getD i1 0)
      rw [<-al.out] at e3 ap
      rw [<-hu] at e3 ab ap
      obtain ⟨aZ,aY⟩:=ap
      have bf:0<=(i:Int)-1:=by omega
      have aL:i1<N:=by omega
      have hf:=fun wz=>aq.out (v-u) wz
      obtain ⟨f0,f1⟩:=ax.out (v-u)
      obtain ⟨f,ad⟩:=zX (a1b (v-u) p.d)
      rw [<-ad] at ab hf f0 f1
      have aj:(if f < -f then -f else f)=(f.natAbs:Int):=by split<;>omega
      have ac:(if -f<f then f else -f)=(f.natAbs:Int):=by split<;>omega
      obtain ⟨A,hA⟩:=zX (f.natAbs)
      rw [<-hA] at ab aj ac
      have aI:A<=32768:=by omega
      have ai:=hid ab
      have aS:=hid ar
      clear ab am ad hS hx hl hv h0 hA hu ar
      go_wp2_with (go_at_call 84;refine (hf _).mono ?_;rintro e w' ⟨rfl,rfl⟩)
      go_roundg j2
      case measure=>omega
      case rel=>exact ⟨i+1,by go_num,by omega,by rw [<-al.out,ai.out,<-Nat.add_assoc,Int.natCast_add (T+S) A];go_num,rfl⟩
theorem e7y {w:World} {p:a2a} {g o:Nat} {B:Nat->Option Addr} {c:Nat->Nat} {G:List Nat} (cap:Nat) (h:a4l w p g o B c G) :
  Calls Tryz.prog 90 #[a6y p g o cap] w fun e w'=>e=.returned (.int .i64 (a7t p 4))/\Chg [] w w':=by
 have aj:=h.ok
 have af:∀ w' k,Chg [] w w'->k<=4->b9k p.P.length k=true->_:=fun w' k (hc':Chg [] w w') k4 hm=>d6e cap (h.same hc') k k4 hm
 have aw:∀ w' k,Chg [] w w'->k<=4->b9k p.P.length k=false->_:=fun w' k (hc':Chg [] w w') k4 hm=>e2w cap (h.same hc') k k4 hm
 have am:=b4v aj 0
 have aE:=fun k=>d3p (b2t aj k) (a3p k p).P.length
 have ay:∀ k,(a3p k p).P.length=p.P.length:=fun k=>a3y _ _ _
 have aT:=aj.n1
 have aA:∀ k,b8w (a3p k p)<=536870912:=fun k=>by
  have h1:=aE k
  have h2:=ay k
  unfold b8w
  rw [h2] at h1 ⊢
  omega
 unfold a2x at af
 unfold a6y f0j at *
 have av:∀ k gP cP,(.agg #[.int .i64 ((a3p k p).W:Int),.int .i64 ((a3p k p).H:Int),.int .i64 ((a3p k p).d:Int),.slice (some ⟨gP,0,none⟩) (a3p k p).P.length cP]:Value)=.agg #[.int .i64 p.W,.int .i64 p.H,.int .i64 p.d,.slice (some ⟨gP,0,none⟩) p.P.length cP]:=fun k gP cP=>by rw [ay];rfl
 have al:∀ {wz:World} {k gP cP:Nat} {xs:List Value} {gs:List Nat},a1x wz (a3p k p) gP cP xs gs->Calls Tryz.prog 122 #[.agg #[.int .i64 p.W,.int .i64 p.H,.int .i64 p.d,.slice (some ⟨gP,0,none⟩) p.P.length cP]] wz fun e w'=>e=.returned (.int .i64 (b8w (a3p k p)))/\Chg [] wz w':=fun {wz k gP cP xs gs} aa=>by
  have h1:=e8b cP aa.at_
  unfold a6y at h1
  rw [av] at h1
  exact h1
 simp only [av] at af
 obtain ⟨n,hn⟩:=zX (p.P.length)
 simp only [<-hn] at af aw al am ⊢
 obtain ⟨w1,ag⟩:=zX (w.alloc (.cells #[.int .i64 p.W,.int .i64 p.H,.int .i64 p.d,.slice (some ⟨g,o,none⟩) n cap] 27))
 obtain ⟨X,hX⟩:=zX (w.heap.size)
 have an:Box w1 X (.int .i64 p.W) (.int .i64 p.H) (.int .i64 p.d) (.slice (some ⟨g,o,none⟩) n cap):=⟨by rw [ag,hX];exact Blk.new w _ _⟩
 have aF:Chg [] w w1:=by rw [ag];exact (zR [] w).alloc _
 have aC:∀ m,a7t p (m+1)=if b9k n (m+1)=true/\b8w (a3p (m+1) p)<b8w (a3p (a7t p m) p) then m+1 else a7t p m:=fun m=>by rw [hn];rfl
 have aI:=hid ag
 have aK:=hid hX
 have ap:=hid aF
 have aP:=hid an
 have aJ:=hid af
 have aO:=hid aw
 have aD:=hid (fun wz k gP cP xs gs (h:a1x wz (a3p k p) gP cP xs gs)=>al h)
 have aN:=hid am
 have aH:=hid aA
 have ai:=hid aC
 have aQ:=hid (b9g p)
 obtain ⟨a0,a1,a2,a3⟩:=an.cells
 clear ag aF an aj h hX hn af aw al am aE ay aA av aC
 go_enter Tryz.func90,Tryz.ntmps90
 go_wp2_with fail
 rw [<-aI.out,<-aK.out]
 go_loopg [3,4,5,6,7,8,9,10] 5 (fun j v3 v4 v5 v6 v7 v8 v9 v10 wr=>∃ k:Nat,v10=.int .i64 k/\k+j=5/\((k=0/\v3=.int .i64 0/\v4=.int .i64 0/\v5=.bool false)\/∃ m,k=m+1/\v3=.int .i64 (a7t p m:Int)/\v4=.int .i64 (b8w (a3p (a7t p m) p):Int)/\v5=.bool true)/\Hid (Chg [] w1 wr))
 case atStart=>exact ⟨0,rfl,rfl,.inl ⟨rfl,rfl,rfl,rfl⟩,hid (zR _ _)⟩
 case round =>
  obtain ⟨k,rfl,aS,au,ae⟩:=hrel
  rcases gk with _ | j
  ·obtain rfl:k=5:=by omega
   rcases au with ⟨h0,_⟩ | ⟨m,hm,rfl,rfl,rfl⟩
   ·omega
   ·obtain rfl:m=4:=by omega
    go_wp2_with fail
    go_ret
    exact ⟨rfl,ap.out.tq ae.out⟩
  ·have t1:decide ((k:Int)<5)=true:=zB (by omega)
   obtain ⟨a0,a1,a2,a3⟩:=(aP.out.same ae.out).cells
   have aG:k<=4:=by omega
   cases hmk:b9k n k with
   | false =>
    have hf:=aO.out wr k (ap.out.tq ae.out) aG hmk
    rcases au with ⟨h0,_⟩ | ⟨m,hm,rfl,rfl,rfl⟩
    ·subst h0;have:=aN.out;simp only [a7t] at this;rw [this] at hmk;cases hmk
    ·have HM:=hid hm
     clear hm
     go_wp2_with fail
     refine hf.mono ?_
     rintro e w2 ⟨rfl,ad⟩
     go_wp2_with fail
     go_roundg j
     case measure=>omega
     case rel =>
      refine ⟨k+1,by go_num,by omega,.inr ⟨m+1,by rw [<-HM.out],?_,?_,rfl⟩,hid ((ae.out.tq ad).alloc _)⟩
      ·rw [ai.out,<-HM.out,hmk,if_neg (by simp)]
      ·rw [ai.out,<-HM.out,hmk,if_neg (by simp)]
   | true =>
    have hf:=aJ.out wr k (ap.out.tq ae.out) aG hmk
    have hA:=aH.out k
    obtain ⟨A,ar⟩:=zX (b8w (a3p k p))
    rw [<-ar] at hA
    have HA:=hid ar
    clear ar
    rcases au with ⟨h0,rfl,rfl,rfl⟩ | ⟨m,hm,rfl,rfl,rfl⟩
    ·have HM:=hid h0
     clear h0
     go_wp2_with fail
     refine hf.mono ?_
     rintro e w2 ⟨gP,cP,xs,gs,rfl,aa,ad,-⟩
     obtain ⟨w3,ab⟩:=zX (w2.alloc (.cells #[.int .i64 p.W,.int .i64 p.H,.int .i64 p.d,.slice (some ⟨gP,0,none⟩) n cP] 27))
     have ac:Chg [] w2 w3:=by rw [ab];exact (zR [] w2).alloc _
     have hc:=aD.out w3 k gP cP xs gs (aa.same ac)
     rw [<-HA.out] at hc
     have az:=hid ab
     have aq:=hid ((ae.out.tq ad).tq ac)
     clear hf aa ad ac ab
     go_wp2_with fail
     rw [<-az.out]
     refine hc.mono ?_
     rintro e w4 ⟨rfl,ak⟩
     go_wp2_with fail
     go_roundg j
     case measure=>omega
     case rel=>exact ⟨k+1,by go_num,by omega,.inr ⟨0,by rw [HM.out],by rw [HM.out];rfl,by rw [HA.out,HM.out];rfl,rfl⟩,hid (aq.out.tq ak)⟩
    ·have aL:=aH.out (a7t p m)
     obtain ⟨Bm,ax⟩:=zX (b8w (a3p (a7t p m) p))
     obtain ⟨Km,ah⟩:=zX (a7t p m)
     rw [<-ax] at aL ⊢
     rw [<-ah]
     have aM:=aQ.out m
     rw [<-ah] at aM
     have ao:=hid ax
     have aR:=hid ah
     have HM:=hid hm
     clear ax ah hm
     go_wp2_with fail
     refine hf.mono ?_
     rintro e w2 ⟨gP,cP,xs,gs,rfl,aa,ad,-⟩
     obtain ⟨w3,ab⟩:=zX (w2.alloc (.cells #[.int .i64 p.W,.int .i64 p.H,.int .i64 p.d,.slice (some ⟨gP,0,none⟩) n cP] 27))
     have ac:Chg [] w2 w3:=by rw [ab];exact (zR [] w2).alloc _
     have hc:=aD.out w3 k gP cP xs gs (aa.same ac)
     rw [<-HA.out] at hc
     have az:=hid ab
     have aq:=hid ((ae.out.tq ad).tq ac)
     clear hf aa ad ac ab
     go_wp2_with fail
     rw [<-az.out]
     refine hc.mono ?_
     rintro e w4 ⟨rfl,ak⟩
     have aB:=hid (aq.out.tq ak)
     clear hc ak
     by_cases hlt:A<Bm
     ·have t2:decide (A<Bm)=true:=zB hlt
      have e:a7t p (m+1)=k:=by
       have e:=ai.out m
       rw [e,<-HM.out,hmk,<-HA.out,<-ao.out,if_pos ⟨rfl,hlt⟩]
      have HE:=hid e
      clear e hlt
      go_wp2_with fail
      go_roundg j
      case measure=>omega
      case rel=>exact ⟨k+1,by go_num,by omega,.inr ⟨m+1,by rw [<-HM.out],by rw [HE.out],by rw [HE.out,HA.out],rfl⟩,aB⟩
     ·have t2:decide (A<Bm)=false:=zA hlt
      have e:a7t p (m+1)=a7t p m:=by
       have e:=ai.out m
       rw [e,<-HM.out,hmk,<-HA.out,<-ao.out,if_neg (fun h=>hlt h.2)]
      have HE:=hid e
      clear e hlt
      go_wp2_with fail
      go_roundg j
      case measure=>omega
      case rel=>exact ⟨k+1,by go_num,by omega,.inr ⟨m+1,by rw [<-HM.out],by rw [HE.out,aR.out],by rw [HE.out,ao.out],rfl⟩,aB⟩
end Go.Proofs.YtepjepkgcdfboaaGreatDoor
