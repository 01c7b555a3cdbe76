/- package hue by its contracts: pictures turned and turned back. Printed by wip/mkhue2.py. -/
import Derived.Test.YtepjepkgcdfboaaGreatDoorMg40
import Derived.Test.YtepjepkgcdfboaaGreatDoorMg42
set_option linter.unusedVariables false
set_option linter.unusedSimpArgs false
set_option maxHeartbeats 2000000
set_option maxRecDepth 100000
namespace Go.Proofs.YtepjepkgcdfboaaGreatDoor
open Go.RowKit
def e0z (P:List (List Int)) (i k:Nat):List Int:=(List.range 4).map fun j=>if j<k then (P.getD j []).getD i 0 else 0
theorem c2h {P:List (List Int)} (i:Nat):e0z P i P.length=pt4 P i:=by
 unfold e0z pt4
 apply List.map_congr_left
 intro j _
 split
 ·rfl
 ·rename_i h
  rw [zD (l:=P),List.getElem?_eq_none (by omega)]
  rfl
theorem c7s (P:List (List Int)) (i:Nat) {k:Nat} (hk:k<4):(e0z P i k).set k ((P.getD k []).getD i 0)=e0z P i (k+1):=by
 rcases (by omega:k=0\/k=1\/k=2\/k=3) with rfl | rfl | rfl | rfl<;>rfl
theorem c7r (P:List (List Int)) (i k:Nat):(e0z P i k).length=4:=by simp [e0z]
theorem Blk.set_vi {w:World} {g:Nat} {t:TypeId} {l:List Int} (h:Blk w g t (l.map vi).toArray) (k:Nat) (v:Int):Blk (w.setCell ⟨g,k,none⟩ (.int .i64 v)) g t ((l.set k v).map vi).toArray:=by
 have h1:=h.set_ k (.int .i64 v)
 have e:(l.map vi).toArray.setIfInBounds k (.int .i64 v)=((l.set k v).map vi).toArray:=by
  apply Array.ext'
  simp [List.map_set,vi]
 rwa [e] at h1
theorem Blk.vi_cell {w:World} {g:Nat} {t:TypeId} {l:List Int} (h:Blk w g t (l.map vi).toArray) {k:Nat} (hk:k<l.length):w.cell? ⟨g,k,none⟩=some (.int .i64 (l.getD k 0)):=by
 rw [h.cell k,zD,zF hk]
 simp [vi,hk]
theorem b5n {l:List Int} (h:l.length=4):∃ a b c e,l=[a,b,c,e]:=by
 match l,h with
 | [a,b,c,e],_=>exact ⟨a,b,c,e,rfl⟩
structure Box (w:World) (x:Nat) (a b c v:Value):Prop where
 blk:Blk w x 27 #[a,b,c,v]
theorem Box.cells {w:World} {x:Nat} {a b c v:Value} (h:Box w x a b c v):w.cell? ⟨x,0,none⟩=some a/\w.cell? ⟨x,1,none⟩=some b/\w.cell? ⟨x,2,none⟩=some c/\w.cell? ⟨x,3,none⟩=some v:=⟨h.blk.cell 0,h.blk.cell 1,h.blk.cell 2,h.blk.cell 3⟩
theorem Box.chg {w w':World} {x:Nat} {a b c v:Value} {F:List Nat} (h:Box w x a b c v) (hc:Chg F w w') (hx:x∉F):Box w' x a b c v:=⟨h.blk.chg hc hx⟩
theorem Box.same {w w':World} {x:Nat} {a b c v:Value} (h:Box w x a b c v) (hc:Chg [] w w'):Box w' x a b c v:=⟨h.blk.chg hc (by simp)⟩
theorem d6v {p q:a2a} (h:p.Ok) (hq:q.Ok) (ha:c9a p q):b8z p q (p.W*p.H) 0=q:=by
 obtain ⟨W,H,d,P⟩:=q
 have e:=e3u (P:=p.P) (Q:=P) (N:=p.W*p.H) ha.n.symm (fun j hj=>h.len _ (a0n hj)) (fun j hj=>by
  have:=hq.len _ (a0n (P:=P) (j:=j) (by rw [<-show p.P.length=P.length from ha.n];exact hj))
  rw [<-show p.W=W from ha.W,<-show p.H=H from ha.H] at this
  exact this)
 unfold b8z
 rw [e]
 have h1:p.W=W:=ha.W
 have h2:p.H=H:=ha.H
 have h3:p.d=d:=ha.d
 rw [h1,h2,h3]
theorem b1x {F:Func} {Q:Ending->World->Prop} {a:Act} {Y:World} {C:Nat} {z0 z1 z2 z3 v0 v1 v2 v3:Value} (hY:Box Y C z0 z1 z2 z3)
  (h:∀ X,Box X C v0 v1 v2 v3->Chg [C] Y X->bodyPost Tryz.prog F Q .ret a X) :
  bodyPost Tryz.prog F Q .ret a ((((Y.setCell ⟨C,0,none⟩ v0).setCell ⟨C,1,none⟩ v1).setCell ⟨C,2,none⟩ v2).setCell ⟨C,3,none⟩ v3) :=
 a9x hY.blk fun X h1 h2=>h X ⟨h1⟩ h2
def a2x (w:World) (p:a2a) (e:Ending) (w':World):Prop :=
 ∃ (gP capP:Nat) (xs:List Value) (gs:List Nat),e=.returned (.tuple #[a6y p gP 0 capP,.int .i64 0])/\a1x w' p gP capP xs gs/\Chg [] w w'/\∀ x∈gP::gs,w.heap.size<=x
def f0j:Value:=.agg #[.int .i64 0,.int .i64 0,.int .i64 0,.slice none 0 0]
theorem e2w {w:World} {p:a2a} {g o:Nat} {B:Nat->Option Addr} {c:Nat->Nat} {G:List Nat} (cap:Nat) (h:a4l w p g o B c G) (k:Nat) (k4:k<=4) (hm:b9k p.P.length k=false) :
  Calls Tryz.prog 13 #[a6y p g o cap,.int .i64 k] w fun e w'=>e=.returned (.tuple #[f0j,.int .i64 1])/\Chg [] w w':=by
 have ae:=h.ok
 have ad:∀ w',Chg [] w w'->_:=fun w' (hc':Chg [] w w')=>c1d cap (h.same hc')
 have aj:=fun w'=>c0z p.P.length k w' ae.n0 ae.n1 k4
 rw [hm] at aj
 unfold a6y at ad ⊢
 obtain ⟨w1,aa⟩:=zX (((w.alloc (.cells #[.int .i64 p.W,.int .i64 p.H,.int .i64 p.d,.slice (some ⟨g,o,none⟩) p.P.length cap] 27)).alloc (.cells #[.int .i64 0,.int .i64 0,.int .i64 0,.slice none 0 0] 27)))
 have af:Box w1 w.heap.size (.int .i64 p.W) (.int .i64 p.H) (.int .i64 p.d) (.slice (some ⟨g,o,none⟩) p.P.length cap):=⟨by rw [aa];exact (Blk.new w _ _).alloc _⟩
 have ai:Box w1 (w.heap.size+1) (.int .i64 0) (.int .i64 0) (.int .i64 0) (.slice none 0 0):=⟨by rw [aa];exact Blk.new2 w _ _ _⟩
 have ah:Chg [] w w1:=by rw [aa];exact ((zR [] w).alloc _).alloc _
 have am:=hid aa
 have ag:=hid ah
 have an:=hid af
 have al:=hid ai
 have ak:=hid ad
 obtain ⟨a0,a1,a2,a3⟩:=af.cells
 clear aa ah af ai ad ae h hm
 go_enter Tryz.func13,Tryz.ntmps13
 go_wp2_with fail
 rw [<-am.out]
 refine (ak.out w1 ag.out).mono ?_
 rintro e w2 ⟨rfl,ab⟩
 obtain ⟨a0,a1,a2,a3⟩:=(an.out.same ab).cells
 have hz:=al.out.same ab
 obtain ⟨z0,z1,z2,z3⟩:=hz.cells
 have f0:=hz.blk.frozen 0
 have f1:=hz.blk.frozen 1
 have f2:=hz.blk.frozen 2
 have f3:=hz.blk.frozen 3
 have ac:=hid (ag.out.tq ab)
 have HZ:=hid hz
 clear ab hz
 go_wp2_with fail
 refine (aj _).mono ?_
 rintro e w3 ⟨rfl,rfl⟩
 go_wp2_with fail
 refine b1x HZ.out ?_
 intro X hX hY
 obtain ⟨x0,x1,x2,x3⟩:=hX.cells
 refine bodyPost_ret (v:=.tuple #[f0j,.int .i64 1]) (by simp [results,Tryz.results13,go_sem,x0,x1,x2,x3,f0j]) rfl ?_
 exact ⟨rfl,ac.out.trans hY (fun x hx => .inr (by simp at hx;omega))⟩
theorem d6e {w:World} {p:a2a} {g o:Nat} {B:Nat->Option Addr} {c:Nat->Nat} {G:List Nat} (cap:Nat) (h:a4l w p g o B c G) (k:Nat) (k4:k<=4) (hm:b9k p.P.length k=true) :
  Calls Tryz.prog 13 #[a6y p g o cap,.int .i64 k] w (a2x w (a3p k p)):=by
 unfold a2x
 have ab:=h.ok
 have aZ:∀ w',Chg [] w w'->_:=fun w' (hc':Chg [] w w')=>c1d cap (h.same hc')
 have aV:∀ w',Chg [] w w'->_:=fun w' (hc':Chg [] w w')=>e1r cap (h.same hc')
 have aR:=fun w'=>c0z p.P.length k w' ab.n0 ab.n1 k4
 rw [hm] at aR
 obtain ⟨q,hq⟩:=zX (a3p k p)
 have bw:q.Ok:=by rw [hq];exact b2t ab k
 have az:c9a p q:=by rw [hq];exact ⟨rfl,rfl,rfl,(a3y _ _ _).symm⟩
 have aS:∀ i wz,i<p.W*p.H->∃ a b c e y0 y1 y2 y3,pt4 p.P i=[a,b,c,e]/\Calls Tryz.prog 44 #[.agg #[.int .i64 a,.int .i64 b,.int .i64 c,.int .i64 e],.int .i64 k,.int .i64 p.d] wz (fun en w'=>en=.returned (.agg #[.int .i64 y0,.int .i64 y1,.int .i64 y2,.int .i64 y3])/\Chg [] wz w')/\∀ j,j<p.P.length->(q.P.getD j []).getD i 0=[y0,y1,y2,y3].getD j 0:=by
  intro i wz hi
  obtain ⟨y0,y1,y2,y3,hy⟩:=b5n (e2n k p.d ((p.P.getD 0 []).getD i 0) ((p.P.getD 1 []).getD i 0) ((p.P.getD 2 []).getD i 0) ((p.P.getD 3 []).getD i 0))
  have hc:=d8u k p.d _ _ _ _ wz ab.d0 ab.d1 k4 (a6a ab i 0) (a6a ab i 1) (a6a ab i 2) (a6a ab i 3)
  rw [hy] at hc
  refine ⟨_,_,_,_,y0,y1,y2,y3,e4v _ _,hc,fun j hj => ?_⟩
  rw [hq,<-hy]
  exact b6g hj hi
 obtain ⟨n,hn⟩:=zX (p.P.length)
 obtain ⟨N,hN⟩:=zX (p.W*p.H)
 have cn:n<=4:=by rw [hn];exact ab.n1
 have cl:N<=4096:=by rw [hN];exact ab.area
 have bL:∀ wz,Chg [] w wz->∀ j,j<n->∃ b q,wz.cell? ⟨g,o+j,none⟩=some (.slice (some ⟨b,q,none⟩) N (c j))/\b∈G/\∀ i,i<N->wz.cell? ⟨b,q+i,none⟩=some (.int .i64 ((p.P.getD j []).getD i 0)):=by
  intro wz hc j hj
  rw [hn] at hj
  obtain ⟨b,q,e,hb,b5⟩:=(h.same hc).at_ hj
  have aA:=(h.same hc).cell j hj
  rw [e,<-hN] at aA
  exact ⟨b,q,aA,hb,fun i hi=>b5 i (by rw [<-hN];exact hi)⟩
 have bq:=h.gG
 have bM:=h.lt
 rw [<-hN] at aS
 rw [<-hq]
 have bG:a6y q=fun gP o' cap' => .agg #[.int .i64 p.W,.int .i64 p.H,.int .i64 p.d,.slice (some ⟨gP,o',none⟩) n cap']:=by
  funext gP o' cap'
  unfold a6y
  rw [az.W,az.H,az.d,hn,az.n]
 rw [bG]
 unfold a6y at aZ aV ⊢
 rw [<-hn] at aZ aV aR aS ⊢
 obtain ⟨w1,aD⟩:=zX (((w.alloc (.cells #[.int .i64 p.W,.int .i64 p.H,.int .i64 p.d,.slice (some ⟨g,o,none⟩) n cap] 27)).alloc (.cells #[.int .i64 0,.int .i64 0,.int .i64 0,.slice none 0 0] 27)))
 obtain ⟨X2,aI⟩:=zX (w.heap.size)
 obtain ⟨X4,ax⟩:=zX (X2+1)
 have a8:Box w1 X2 (.int .i64 p.W) (.int .i64 p.H) (.int .i64 p.d) (.slice (some ⟨g,o,none⟩) n cap):=⟨by rw [aD,aI];exact (Blk.new w _ _).alloc _⟩
 have a7:Box w1 X4 (.int .i64 0) (.int .i64 0) (.int .i64 0) (.slice none 0 0):=⟨by rw [aD,ax,aI];exact Blk.new2 w _ _ _⟩
 have bD:Chg [] w w1:=by rw [aD];exact ((zR [] w).alloc _).alloc _
 have HX:Hid (X2=w.heap.size/\X4=X2+1/\X4<w1.heap.size):=hid ⟨aI,ax,a7.blk.lt⟩
 have cs:(p.W:Int)*(p.H:Int)=(N:Int):=by rw [hN];simp
 have cr:=ab.w1
 have cm:=ab.h1
 have co:=ab.d1
 have HN:Hid (n=p.P.length/\N=p.W*p.H):=hid ⟨hn,hN⟩
 have ce:=hid aD
 have an:=hid bD
 have bp:=hid a8
 have bS:=hid a7
 have b4:=hid aZ
 have bY:=hid aV
 have ch:=hid bL
 have cd:=hid aS
 have bc:=hid ab
 have HQ:=hid bw
 have aF:=hid az
 have bd:=hid bM
 have bB:=hid bq
 have bX:=hid aI
 have cg:=hid ax
 obtain ⟨a0,a1,a2,a3⟩:=a8.cells
 clear aD bD a8 a7 aZ ab h hm aI ax aV bL aS hn hN hq bw az bG bM bq
 go_enter Tryz.func13,Tryz.ntmps13
 go_wp2_with fail
 rw [<-ce.out,<-bX.out,<-cg.out]
 refine (b4.out w1 an.out).mono ?_
 rintro e w2 ⟨rfl,bj⟩
 obtain ⟨a0,a1,a2,a3⟩:=(bp.out.same bj).cells
 have av:=hid bj
 clear bj
 go_wp2_with fail
 refine (aR _).mono ?_
 rintro e w3 ⟨rfl,rfl⟩
 clear aR
 go_wp2_with fail
 refine (bY.out w2 (an.out.tq av.out)).mono ?_
 rintro e w3 ⟨gP,ac,xs,gs,rfl,ai,bz,aJ⟩
 obtain ⟨w4,aH⟩:=zX (w3.alloc (.cells #[.int .i64 p.W,.int .i64 p.H,.int .i64 p.d,.slice (some ⟨gP,0,none⟩) n ac] 27))
 obtain ⟨X6,aP⟩:=zX (w3.heap.size)
 have bf:Chg [] w3 w4:=by rw [aH];exact (zR [] w3).alloc _
 have bb:Box w4 X6 (.int .i64 p.W) (.int .i64 p.H) (.int .i64 p.d) (.slice (some ⟨gP,0,none⟩) n ac):=⟨by rw [aH,aP];exact Blk.new w3 _ _⟩
 have au:Chg [] w1 w4:=(av.out.tq bz).tq bf
 have br:∀ x∈gP::gs,w1.heap.size<=x/\x<X6:=fun x hx=>⟨by have:=aJ x hx;have:=av.out.size;omega,by
  rw [aP]
  rcases zJ.1 hx with rfl | h1
  ·exact ai.ltP
  ·exact ai.pl.lt x h1⟩
 have al:=ai.same bf
 obtain ⟨a0,a1,a2,a3⟩:=(bp.out.same au).cells
 rw [aH] at a0 a1 a2 a3
 have aN:=bb.blk.lt
 have ca:=hid aH
 have cc:=hid aP
 have aa:=hid au
 have ar:=hid br
 have bl:=hid al
 have ci:=hid bb
 have af:=hid aN
 clear aH aP bf bb au br al bz aJ ai aN
 go_wp2_with fail
 rw [<-ca.out,<-cc.out]
 go_loopg [7,8,9,10,11,12,32] N (fun j v7 v8 v9 v10 v11 v12 v32 wr=>∃ i:Nat,v32=.int .i64 i/\i+j=N/\Hid (a1x wr (b8z p q i 0) gP ac xs gs)/\Hid (Chg gs w4 wr))
 case atStart=>exact ⟨0,rfl,by omega,hid (by unfold b8z;rw [c1p];exact bl.out),hid (zR _ _)⟩
 case round =>
  obtain ⟨i,rfl,ck,HO,aw⟩:=hrel
  have aE:∀ x,x<w1.heap.size\/X6<=x->x∉gP::gs:=fun x hx hm=>by have:=ar.out x hm;omega
  have ah:=hid aE
  have bC:=fun (E:List Nat) wz (hz:Chg E wr wz) (hE:∀ x,x<w1.heap.size\/x=X6->x∉E)=>And.intro
   ((((bp.out.same aa.out).chg aw.out (fun hm=>ah.out X2 (.inl (by have:=HX.out;omega)) (by simp [hm]))).chg hz (hE X2 (.inl (by have:=HX.out;omega)))))
   (And.intro ((((bS.out.same aa.out).chg aw.out (fun hm=>ah.out X4 (.inl (by have:=HX.out;omega)) (by simp [hm]))).chg hz (hE X4 (.inl (by have:=HX.out;omega)))))
   ((ci.out.chg aw.out (fun hm=>ah.out X6 (.inr (zQ _)) (by simp [hm]))).chg hz (hE X6 (.inr rfl))))
  have aB:=hid bC
  clear bC aE
  rcases gk with _ | j
  ·obtain rfl:i=N:=by omega
   have t1:decide ((i:Int)<(i:Int))=false:=by simp
   obtain ⟨h1,h2,h3⟩:=aB.out [] wr (zR _ _) (by simp)
   obtain ⟨a0,a1,a2,a3⟩:=h1.cells
   obtain ⟨b0,b1,b2,b3⟩:=h3.cells
   obtain ⟨z0,z1,z2,z3⟩:=h2.cells
   have f0:=h2.blk.frozen 0
   have f1:=h2.blk.frozen 1
   have f2:=h2.blk.frozen 2
   have f3:=h2.blk.frozen 3
   have HZ:=hid h2
   clear h1 h2 h3
   go_wp2_with fail
   refine b1x HZ.out ?_
   intro X hX hY
   obtain ⟨x0,x1,x2,x3⟩:=hX.cells
   refine bodyPost_ret (v:=.tuple #[.agg #[.int .i64 p.W,.int .i64 p.H,.int .i64 p.d,.slice (some ⟨gP,0,none⟩) n ac],.int .i64 0]) (by simp [results,Tryz.results13,go_sem,x0,x1,x2,x3]) rfl ?_
   have ho:=HO.out
   have e:=HN.out.2
   rw [e,d6v bc.out HQ.out aF.out] at ho
   have ax:X4∉gP::gs:=ah.out X4 (.inl (by have:=HX.out;omega))
   refine ⟨gP,ac,xs,gs,rfl,ho.chg hY (by simp;exact fun e=>ax (by simp [e])) (fun x hx hm=>by simp at hm;subst hm;exact ax (by simp [hx])),?_,fun x hx=>by have:=ar.out x hx;have:=an.out.size;omega⟩
   refine ((an.out.tq aa.out).trans aw.out (fun x hx => .inr ?_)).trans hY (fun x hx => .inr ?_)
   ·have:=ar.out x (by simp [hx]);have:=an.out.size;omega
   ·simp at hx
    have:=HX.out
    omega
  ·have hi:i<N:=by omega
   have t1:decide ((i:Int)<(N:Int))=true:=zB (by omega)
   obtain ⟨wo,rfl⟩:=zX (wr)
   obtain ⟨wr0,ae⟩:=zX (wo.alloc (.cells #[.int .i64 0,.int .i64 0,.int .i64 0,.int .i64 0] 86))
   obtain ⟨X8,aX⟩:=zX (wo.heap.size)
   have aW:Chg [] wo wr0:=by rw [ae];exact (zR [] wo).alloc _
   have bJ:Blk wr0 X8 86 ((e0z p.P i 0).map vi).toArray:=by rw [ae,aX];exact Blk.new wo _ _
   have aO:w4.heap.size<=X8:=by rw [aX];exact aw.out.size
   obtain ⟨h1,h2,h3⟩:=aB.out [] wr0 aW (by simp)
   obtain ⟨a0,a1,a2,a3⟩:=h1.cells
   have am:=HO.out.same aW
   rw [ae] at a0 a1 a2 a3
   have bQ:=hid ae
   have b9:=hid aX
   have bK:=hid aW
   have bV:=hid bJ
   have ad:=hid aO
   have cj:=hid am
   clear ae aX aW bJ h1 h2 h3 aO am
   have bs:∀ wz,Chg [X8] wr0 wz->∀ j,j<n->∃ b q,wz.cell? ⟨g,o+j,none⟩=some (.slice (some ⟨b,q,none⟩) N (c j))/\wz.cell? ⟨b,q+i,none⟩=some (.int .i64 ((p.P.getD j []).getD i 0)):=by
    intro wz hz j hj
    have bH:Chg (X8::gs) w wz:=(((an.out.tq aa.out).mono (F':=X8::gs) (by simp)).trans (aw.out.mono (F':=X8::gs) (by simp +contextual)) (fun x hx => .inl hx)).trans ((bK.out.mono (F':=X8::gs) (by simp)).trans (hz.mono (F':=X8::gs) (by simp +contextual)) (fun x hx => .inl hx)) (fun x hx => .inl hx)
    obtain ⟨b,q,e1,hb,e2⟩:=ch.out w (zR _ _) j hj
    have aM:∀ x∈G,x∉X8::gs:=fun x hx hm=>by
     have:=bd.out x hx
     rcases zJ.1 hm with rfl | hm
     ·have:=ad.out;have:=an.out.size;have:=aa.out.size;omega
     ·have:=ar.out x (by simp [hm]);have:=an.out.size;omega
    exact ⟨b,q,(World.cell?_of_block (w:=w) (bH.block g (bd.out g bB.out) (aM g bB.out))).trans e1,(World.cell?_of_block (w:=w) (bH.block b (bd.out b hb) (aM b hb))).trans (e2 i hi)⟩
   have bi:=hid bs
   clear bs
   go_wp2_with fail
   rw [<-bQ.out,<-b9.out]
   go_loopg [9,10,38] n (fun j2 v9 v10 v38 wz=>∃ k2:Nat,v38=.int .i64 k2/\k2+j2=n/\Hid (Blk wz X8 86 ((e0z p.P i k2).map vi).toArray)/\Hid (Chg [X8] wr0 wz))
   case atStart=>exact ⟨0,rfl,by omega,bV,hid (zR _ _)⟩
   case round =>
    obtain ⟨k2,rfl,cq,aU,be⟩:=hrel
    rcases gk with _ | j2
    ·obtain rfl:k2=n:=by omega
     have t2:decide ((k2:Int)<(k2:Int))=false:=by simp
     have aG:∀ x,x<w1.heap.size\/x=X6->x∉[X8]:=fun x hx hm=>by simp at hm;have:=ad.out;have:=af.out;have:=aa.out.size;omega
     have aq:Chg [X8] wo wr:=(bK.out.mono (by simp)).trans be.out (fun x hx => .inl hx)
     obtain ⟨h1,h2,h3⟩:=aB.out [X8] wr aq aG
     obtain ⟨a0,a1,a2,a3⟩:=h1.cells
     have ak:=aU.out
     rw [HN.out.1,c2h] at ak
     obtain ⟨a,b,c',e',y0,y1,y2,y3,bE,ao,hy⟩:=cd.out i wr hi
     rw [bE] at ak
     have k0:=ak.cell 0
     have k1:=ak.cell 1
     have aQ:=ak.cell 2
     have k3:=ak.cell 3
     simp [vi] at k0 k1 aQ k3
     have aC:=hid ao
     have HY:=hid hy
     have bo:=hid ak
     have bm:=hid aq
     clear aG aq h1 h2 h3 ak bE ao hy
     go_wp2_with fail
     refine aC.out.mono ?_
     rintro e w9 ⟨rfl,bh⟩
     have ag:=bo.out.chg bh (by simp)
     have k0:=ag.cell 0
     have k1:=ag.cell 1
     have aQ:=ag.cell 2
     have k3:=ag.cell 3
     have f0:=ag.frozen 0
     have f1:=ag.frozen 1
     have f2:=ag.frozen 2
     have f3:=ag.frozen 3
     simp [vi] at k0 k1 aQ k3
     obtain ⟨wB,aL⟩:=zX (((((w9.setCell ⟨X8,0,none⟩ (.int .i64 y0)).setCell ⟨X8,1,none⟩ (.int .i64 y1)).setCell ⟨X8,2,none⟩ (.int .i64 y2)).setCell ⟨X8,3,none⟩ (.int .i64 y3)))
     have bA:Blk wB X8 86 (([y0,y1,y2,y3]:List Int).map vi).toArray:=by
      rw [aL]
      have:=(((ag.set_ 0 (.int .i64 y0)).set_ 1 (.int .i64 y1)).set_ 2 (.int .i64 y2)).set_ 3 (.int .i64 y3)
      simpa [vi] using this
     have aT:Chg [X8] wo wB:=by
      have:=((((zR [X8] w9).setCell (p:=⟨X8,0,none⟩) (.inl (by simp)) (.int .i64 y0)).setCell (p:=⟨X8,1,none⟩) (.inl (by simp)) (.int .i64 y1)).setCell (p:=⟨X8,2,none⟩) (.inl (by simp)) (.int .i64 y2)).setCell (p:=⟨X8,3,none⟩) (.inl (by simp)) (.int .i64 y3)
      rw [aL]
      exact (bm.out.tq (bh.mono (by simp))).tq this
     have aG:∀ x,x<w1.heap.size\/x=X6->x∉[X8]:=fun x hx hm=>by simp at hm;have:=ad.out;have:=af.out;have:=aa.out.size;omega
     have ap:∀ x∈gP::gs,x∉[X8]:=fun x hx hm=>by simp at hm;have:=ar.out x hx;have:=ad.out;have:=af.out;omega
     obtain ⟨h1,h2,h3⟩:=aB.out [X8] wB aT aG
     obtain ⟨b0,b1,b2,b3⟩:=h3.cells
     have aK:=HO.out.chg aT (ap gP (by simp)) (fun x hx=>ap x (by simp [hx]))
     have cb:=hid aL
     have cf:=hid bA
     have bx:=hid aT
     have b7:=hid aK
     rw [aL] at b0 b1 b2 b3
     clear ag aL bA aT aK h1 h2 h3 aG ap a0 a1 a2 a3 bh
     go_wp2_with fail
     rw [<-cb.out]
     clear b0 b1 b2 b3 k0 k1 aQ k3 f0 f1 f2 f3
     go_loopg [11,12,58] k2 (fun j2 v11 v12 v58 wz=>∃ k3:Nat,v58=.int .i64 k3/\k3+j2=k2/\Hid (a1x wz (b8z p q i k3) gP ac xs gs)/\Hid (Chg gs wB wz))
     case atStart=>exact ⟨0,rfl,by omega,b7,hid (zR _ _)⟩
     case round =>
      obtain ⟨k3,rfl,bT,a5,aj⟩:=hrel
      have h8:X8∉gs:=fun hm=>by have:=ar.out X8 (by simp [hm]);have:=ad.out;have:=af.out;omega
      have bn:=cf.out.chg aj.out h8
      rcases gk with _ | j3
      ·obtain rfl:k3=k2:=by omega
       have t3:decide ((k3:Int)<(k3:Int))=false:=by simp
       clear bn h8
       go_wp2_with fail
       go_roundg j
       case measure=>omega
       case rel =>
        refine ⟨i+1,by go_num,by omega,hid ?_,hid ?_⟩
        ·have:=a5.out
         unfold b8z at this ⊢
         rw [HN.out.1,d1b] at this
         exact this
        ·refine (aw.out.trans bx.out (fun x hx => .inr (by simp at hx;have:=ad.out;omega))).trans aj.out (fun x hx => .inl hx)
      ·have bP:k3<k2:=by omega
       have t3:decide ((k3:Int)<(k2:Int))=true:=zB (by omega)
       have a4:k3<(b8z p q i k3).P.length:=by show _<(b1u _ _ _ _).length;rw [a4j,<-HN.out.1];exact bP
       obtain ⟨g3,c3,e1,e2,e3,e4⟩:=a5.out.plane a4
       have ba:(b8z p q i k3).W*(b8z p q i k3).H=N:=HN.out.2.symm
       rw [ba] at e1 e3 e4
       have ay:((b8z p q i k3).P.getD k3 []).length=N:=by rw [<-ba];exact (a5.out.ok).len _ (a0n a4)
       obtain ⟨_,_,_,_,aA,bI⟩:=e3.oq
       have bW:=bI i
       have bF:wr.cell? ⟨g3,i,none⟩=some (.int .i64 (((b8z p q i k3).P.getD k3 []).getD i 0)):=by
        refine aA i _ ?_
        rw [zD (l:=(b8z p q i k3).P.getD k3 []),zF (by rw [ay];exact hi)]
        rfl
       have bO:=bn.vi_cell (k:=k3) (by simp;omega)
       obtain ⟨h1,h2,bu⟩:=aB.out (X8::gs) wr ((bx.out.mono (by simp)).trans (aj.out.mono (by simp +contextual)) (fun x hx => .inl hx)) (fun x hx hm=>by
        rcases zJ.1 hm with e | hm
        ·have:=ad.out;have:=af.out;have:=aa.out.size;omega
        ·have:=ar.out x (by simp [hm]);omega)
       obtain ⟨b0,b1,b2,b3⟩:=bu.cells
       have bk:a1x (wr.setCell ⟨g3,i,none⟩ (.int .i64 ([y0,y1,y2,y3].getD k3 0))) (b8z p q i (k3+1)) gP ac xs gs:=by
        refine a5.out.sample e1 e2 a4 e3 (by rw [ay];exact hi) (e3t bc.out HQ.out aF.out _ _) ?_
        rw [<-HY.out k3 (by have:=HN.out.1;omega)]
        exact (c5l (by have:=HN.out.1;omega) (by rw [bc.out.len _ (a0n (by have:=HN.out.1;omega)),<-HN.out.2];exact hi) (by rw [HQ.out.len _ (a0n (by have:=HN.out.1;have:=aF.out.n;omega)),<-aF.out.W,<-aF.out.H,<-HN.out.2];exact hi)).symm
       have bN:g3∈gs:=List.mem_of_getElem? e2
       have bg:Chg gs wB (wr.setCell ⟨g3,i,none⟩ (.int .i64 ([y0,y1,y2,y3].getD k3 0))):=aj.out.setCell (.inl bN) _
       obtain ⟨yv,bv⟩:=zX ([y0,y1,y2,y3].getD k3 0)
       rw [<-bv] at bO bk bg
       have bR:=hid bk
       have b6:=hid bg
       clear bk bg bv h1 h2 bu bn h8 e1 e2 e3 bI aA ba ay bN a4
       go_wp2_with fail
       go_roundg j3
       case measure=>omega
       case rel=>exact ⟨k3+1,by go_num,by omega,bR,b6⟩
    ·have bU:k2<n:=by omega
     have t2:decide ((k2:Int)<(n:Int))=true:=zB (by omega)
     obtain ⟨b,q',e1,e2⟩:=bi.out wr be.out k2 bU
     have hf:=aU.out.frozen k2
     have cp:=aU.out.vi_cell (k:=k2) (by rw [c7r];omega)
     have aY:=aU.out.set_vi k2 ((p.P.getD k2 []).getD i 0)
     rw [c7s p.P i (by omega)] at aY
     have a9:Chg [X8] wr0 (wr.setCell ⟨X8,k2,none⟩ (.int .i64 ((p.P.getD k2 []).getD i 0))):=be.out.setCell (.inl (by simp)) _
     obtain ⟨v,hv⟩:=zX ((p.P.getD k2 []).getD i 0)
     rw [<-hv] at e2 aY a9
     have bZ:=hid aY
     have a6:=hid a9
     clear aY a9 hv
     go_wp2_with fail
     go_roundg j2
     case measure=>omega
     case rel=>exact ⟨k2+1,by go_num,by omega,bZ,a6⟩
theorem e7x {w:World} {p:a2a} {g o:Nat} {B:Nat->Option Addr} {c:Nat->Nat} {G:List Nat} (cap:Nat) (h:a4l w p g o B c G) (k:Nat) (k4:k<=4) (hm:b9k p.P.length k=true) :
  Calls Tryz.prog 103 #[a6y p g o cap,.int .i64 k] w (a2x w (c9h k p)):=by
 unfold a2x
 have ab:=h.ok
 have aZ:∀ w',Chg [] w w'->_:=fun w' (hc':Chg [] w w')=>c1d cap (h.same hc')
 have aV:∀ w',Chg [] w w'->_:=fun w' (hc':Chg [] w w')=>e1r cap (h.same hc')
 have aR:=fun w'=>c0z p.P.length k w' ab.n0 ab.n1 k4
 rw [hm] at aR
 obtain ⟨q,hq⟩:=zX (c9h k p)
 have bw:q.Ok:=by rw [hq];exact d5g ab k
 have az:c9a p q:=by rw [hq];exact ⟨rfl,rfl,rfl,(a3y _ _ _).symm⟩
 have aS:∀ i wz,i<p.W*p.H->∃ a b c e y0 y1 y2 y3,pt4 p.P i=[a,b,c,e]/\Calls Tryz.prog 136 #[.agg #[.int .i64 a,.int .i64 b,.int .i64 c,.int .i64 e],.int .i64 k,.int .i64 p.d] wz (fun en w'=>en=.returned (.agg #[.int .i64 y0,.int .i64 y1,.int .i64 y2,.int .i64 y3])/\Chg [] wz w')/\∀ j,j<p.P.length->(q.P.getD j []).getD i 0=[y0,y1,y2,y3].getD j 0:=by
  intro i wz hi
  obtain ⟨y0,y1,y2,y3,hy⟩:=b5n (e1g k p.d ((p.P.getD 0 []).getD i 0) ((p.P.getD 1 []).getD i 0) ((p.P.getD 2 []).getD i 0) ((p.P.getD 3 []).getD i 0))
  have hc:=d8e k p.d _ _ _ _ wz ab.d0 ab.d1 k4 (a6a ab i 0) (a6a ab i 1) (a6a ab i 2) (a6a ab i 3)
  rw [hy] at hc
  refine ⟨_,_,_,_,y0,y1,y2,y3,e4v _ _,hc,fun j hj => ?_⟩
  rw [hq,<-hy]
  exact b6g hj hi
 obtain ⟨n,hn⟩:=zX (p.P.length)
 obtain ⟨N,hN⟩:=zX (p.W*p.H)
 have cn:n<=4:=by rw [hn];exact ab.n1
 have cl:N<=4096:=by rw [hN];exact ab.area
 have bL:∀ wz,Chg [] w wz->∀ j,j<n->∃ b q,wz.cell? ⟨g,o+j,none⟩=some (.slice (some ⟨b,q,none⟩) N (c j))/\b∈G/\∀ i,i<N->wz.cell? ⟨b,q+i,none⟩=some (.int .i64 ((p.P.getD j []).getD i 0)):=by
  intro wz hc j hj
  rw [hn] at hj
  obtain ⟨b,q,e,hb,b5⟩:=(h.same hc).at_ hj
  have aA:=(h.same hc).cell j hj
  rw [e,<-hN] at aA
  exact ⟨b,q,aA,hb,fun i hi=>b5 i (by rw [<-hN];exact hi)⟩
 have bq:=h.gG
 have bM:=h.lt
 rw [<-hN] at aS
 rw [<-hq]
 have bG:a6y q=fun gP o' cap' => .agg #[.int .i64 p.W,.int .i64 p.H,.int .i64 p.d,.slice (some ⟨gP,o',none⟩) n cap']:=by
  funext gP o' cap'
  unfold a6y
  rw [az.W,az.H,az.d,hn,az.n]
 rw [bG]
 unfold a6y at aZ aV ⊢
 rw [<-hn] at aZ aV aR aS ⊢
 obtain ⟨w1,aD⟩:=zX (((w.alloc (.cells #[.int .i64 p.W,.int .i64 p.H,.int .i64 p.d,.slice (some ⟨g,o,none⟩) n cap] 27)).alloc (.cells #[.int .i64 0,.int .i64 0,.int .i64 0,.slice none 0 0] 27)))
 obtain ⟨X2,aI⟩:=zX (w.heap.size)
 obtain ⟨X4,ax⟩:=zX (X2+1)
 have a8:Box w1 X2 (.int .i64 p.W) (.int .i64 p.H) (.int .i64 p.d) (.slice (some ⟨g,o,none⟩) n cap):=⟨by rw [aD,aI];exact (Blk.new w _ _).alloc _⟩
 have a7:Box w1 X4 (.int .i64 0) (.int .i64 0) (.int .i64 0) (.slice none 0 0):=⟨by rw [aD,ax,aI];exact Blk.new2 w _ _ _⟩
 have bD:Chg [] w w1:=by rw [aD];exact ((zR [] w).alloc _).alloc _
 have HX:Hid (X2=w.heap.size/\X4=X2+1/\X4<w1.heap.size):=hid ⟨aI,ax,a7.blk.lt⟩
 have cs:(p.W:Int)*(p.H:Int)=(N:Int):=by rw [hN];simp
 have cr:=ab.w1
 have cm:=ab.h1
 have co:=ab.d1
 have HN:Hid (n=p.P.length/\N=p.W*p.H):=hid ⟨hn,hN⟩
 have ce:=hid aD
 have an:=hid bD
 have bp:=hid a8
 have bS:=hid a7
 have b4:=hid aZ
 have bY:=hid aV
 have ch:=hid bL
 have cd:=hid aS
 have bc:=hid ab
 have HQ:=hid bw
 have aF:=hid az
 have bd:=hid bM
 have bB:=hid bq
 have bX:=hid aI
 have cg:=hid ax
 obtain ⟨a0,a1,a2,a3⟩:=a8.cells
 clear aD bD a8 a7 aZ ab h hm aI ax aV bL aS hn hN hq bw az bG bM bq
 go_enter Tryz.func103,Tryz.ntmps103
 go_wp2_with fail
 rw [<-ce.out,<-bX.out,<-cg.out]
 refine (b4.out w1 an.out).mono ?_
 rintro e w2 ⟨rfl,bj⟩
 obtain ⟨a0,a1,a2,a3⟩:=(bp.out.same bj).cells
 have av:=hid bj
 clear bj
 go_wp2_with fail
 refine (aR _).mono ?_
 rintro e w3 ⟨rfl,rfl⟩
 clear aR
 go_wp2_with fail
 refine (bY.out w2 (an.out.tq av.out)).mono ?_
 rintro e w3 ⟨gP,ac,xs,gs,rfl,ai,bz,aJ⟩
 obtain ⟨w4,aH⟩:=zX (w3.alloc (.cells #[.int .i64 p.W,.int .i64 p.H,.int .i64 p.d,.slice (some ⟨gP,0,none⟩) n ac] 27))
 obtain ⟨X6,aP⟩:=zX (w3.heap.size)
 have bf:Chg [] w3 w4:=by rw [aH];exact (zR [] w3).alloc _
 have bb:Box w4 X6 (.int .i64 p.W) (.int .i64 p.H) (.int .i64 p.d) (.slice (some ⟨gP,0,none⟩) n ac):=⟨by rw [aH,aP];exact Blk.new w3 _ _⟩
 have au:Chg [] w1 w4:=(av.out.tq bz).tq bf
 have br:∀ x∈gP::gs,w1.heap.size<=x/\x<X6:=fun x hx=>⟨by have:=aJ x hx;have:=av.out.size;omega,by
  rw [aP]
  rcases zJ.1 hx with rfl | h1
  ·exact ai.ltP
  ·exact ai.pl.lt x h1⟩
 have al:=ai.same bf
 obtain ⟨a0,a1,a2,a3⟩:=(bp.out.same au).cells
 rw [aH] at a0 a1 a2 a3
 have aN:=bb.blk.lt
 have ca:=hid aH
 have cc:=hid aP
 have aa:=hid au
 have ar:=hid br
 have bl:=hid al
 have ci:=hid bb
 have af:=hid aN
 clear aH aP bf bb au br al bz aJ ai aN
 go_wp2_with fail
 rw [<-ca.out,<-cc.out]
 go_loopg [7,8,9,10,11,12,32] N (fun j v7 v8 v9 v10 v11 v12 v32 wr=>∃ i:Nat,v32=.int .i64 i/\i+j=N/\Hid (a1x wr (b8z p q i 0) gP ac xs gs)/\Hid (Chg gs w4 wr))
 case atStart=>exact ⟨0,rfl,by omega,hid (by unfold b8z;rw [c1p];exact bl.out),hid (zR _ _)⟩
 case round =>
  obtain ⟨i,rfl,ck,HO,aw⟩:=hrel
  have aE:∀ x,x<w1.heap.size\/X6<=x->x∉gP::gs:=fun x hx hm=>by have:=ar.out x hm;omega
  have ah:=hid aE
  have bC:=fun (E:List Nat) wz (hz:Chg E wr wz) (hE:∀ x,x<w1.heap.size\/x=X6->x∉E)=>And.intro
   ((((bp.out.same aa.out).chg aw.out (fun hm=>ah.out X2 (.inl (by have:=HX.out;omega)) (by simp [hm]))).chg hz (hE X2 (.inl (by have:=HX.out;omega)))))
   (And.intro ((((bS.out.same aa.out).chg aw.out (fun hm=>ah.out X4 (.inl (by have:=HX.out;omega)) (by simp [hm]))).chg hz (hE X4 (.inl (by have:=HX.out;omega)))))
   ((ci.out.chg aw.out (fun hm=>ah.out X6 (.inr (zQ _)) (by simp [hm]))).chg hz (hE X6 (.inr rfl))))
  have aB:=hid bC
  clear bC aE
  rcases gk with _ | j
  ·obtain rfl:i=N:=by omega
   have t1:decide ((i:Int)<(i:Int))=false:=by simp
   obtain ⟨h1,h2,h3⟩:=aB.out [] wr (zR _ _) (by simp)
   obtain ⟨a0,a1,a2,a3⟩:=h1.cells
   obtain ⟨b0,b1,b2,b3⟩:=h3.cells
   obtain ⟨z0,z1,z2,z3⟩:=h2.cells
   have f0:=h2.blk.frozen 0
   have f1:=h2.blk.frozen 1
   have f2:=h2.blk.frozen 2
   have f3:=h2.blk.frozen 3
   have HZ:=hid h2
   clear h1 h2 h3
   go_wp2_with fail
   refine b1x HZ.out ?_
   intro X hX hY
   obtain ⟨x0,x1,x2,x3⟩:=hX.cells
   refine bodyPost_ret (v:=.tuple #[.agg #[.int .i64 p.W,.int .i64 p.H,.int .i64 p.d,.slice (some ⟨gP,0,none⟩) n ac],.int .i64 0]) (by simp [results,Tryz.results103,go_sem,x0,x1,x2,x3]) rfl ?_
   have ho:=HO.out
   have e:=HN.out.2
   rw [e,d6v bc.out HQ.out aF.out] at ho
   have ax:X4∉gP::gs:=ah.out X4 (.inl (by have:=HX.out;omega))
   refine ⟨gP,ac,xs,gs,rfl,ho.chg hY (by simp;exact fun e=>ax (by simp [e])) (fun x hx hm=>by simp at hm;subst hm;exact ax (by simp [hx])),?_,fun x hx=>by have:=ar.out x hx;have:=an.out.size;omega⟩
   refine ((an.out.tq aa.out).trans aw.out (fun x hx => .inr ?_)).trans hY (fun x hx => .inr ?_)
   ·have:=ar.out x (by simp [hx]);have:=an.out.size;omega
   ·simp at hx
    have:=HX.out
    omega
  ·have hi:i<N:=by omega
   have t1:decide ((i:Int)<(N:Int))=true:=zB (by omega)
   obtain ⟨wo,rfl⟩:=zX (wr)
   obtain ⟨wr0,ae⟩:=zX (wo.alloc (.cells #[.int .i64 0,.int .i64 0,.int .i64 0,.int .i64 0] 86))
   obtain ⟨X8,aX⟩:=zX (wo.heap.size)
   have aW:Chg [] wo wr0:=by rw [ae];exact (zR [] wo).alloc _
   have bJ:Blk wr0 X8 86 ((e0z p.P i 0).map vi).toArray:=by rw [ae,aX];exact Blk.new wo _ _
   have aO:w4.heap.size<=X8:=by rw [aX];exact aw.out.size
   obtain ⟨h1,h2,h3⟩:=aB.out [] wr0 aW (by simp)
   obtain ⟨a0,a1,a2,a3⟩:=h1.cells
   have am:=HO.out.same aW
   rw [ae] at a0 a1 a2 a3
   have bQ:=hid ae
   have b9:=hid aX
   have bK:=hid aW
   have bV:=hid bJ
   have ad:=hid aO
   have cj:=hid am
   clear ae aX aW bJ h1 h2 h3 aO am
   have bs:∀ wz,Chg [X8] wr0 wz->∀ j,j<n->∃ b q,wz.cell? ⟨g,o+j,none⟩=some (.slice (some ⟨b,q,none⟩) N (c j))/\wz.cell? ⟨b,q+i,none⟩=some (.int .i64 ((p.P.getD j []).getD i 0)):=by
    intro wz hz j hj
    have bH:Chg (X8::gs) w wz:=(((an.out.tq aa.out).mono (F':=X8::gs) (by simp)).trans (aw.out.mono (F':=X8::gs) (by simp +contextual)) (fun x hx => .inl hx)).trans ((bK.out.mono (F':=X8::gs) (by simp)).trans (hz.mono (F':=X8::gs) (by simp +contextual)) (fun x hx => .inl hx)) (fun x hx => .inl hx)
    obtain ⟨b,q,e1,hb,e2⟩:=ch.out w (zR _ _) j hj
    have aM:∀ x∈G,x∉X8::gs:=fun x hx hm=>by
     have:=bd.out x hx
     rcases zJ.1 hm with rfl | hm
     ·have:=ad.out;have:=an.out.size;have:=aa.out.size;omega
     ·have:=ar.out x (by simp [hm]);have:=an.out.size;omega
    exact ⟨b,q,(World.cell?_of_block (w:=w) (bH.block g (bd.out g bB.out) (aM g bB.out))).trans e1,(World.cell?_of_block (w:=w) (bH.block b (bd.out b hb) (aM b hb))).trans (e2 i hi)⟩
   have bi:=hid bs
   clear bs
   go_wp2_with fail
   rw [<-bQ.out,<-b9.out]
   go_loopg [9,10,38] n (fun j2 v9 v10 v38 wz=>∃ k2:Nat,v38=.int .i64 k2/\k2+j2=n/\Hid (Blk wz X8 86 ((e0z p.P i k2).map vi).toArray)/\Hid (Chg [X8] wr0 wz))
   case atStart=>exact ⟨0,rfl,by omega,bV,hid (zR _ _)⟩
   case round =>
    obtain ⟨k2,rfl,cq,aU,be⟩:=hrel
    rcases gk with _ | j2
    ·obtain rfl:k2=n:=by omega
     have t2:decide ((k2:Int)<(k2:Int))=false:=by simp
     have aG:∀ x,x<w1.heap.size\/x=X6->x∉[X8]:=fun x hx hm=>by simp at hm;have:=ad.out;have:=af.out;have:=aa.out.size;omega
     have aq:Chg [X8] wo wr:=(bK.out.mono (by simp)).trans be.out (fun x hx => .inl hx)
     obtain ⟨h1,h2,h3⟩:=aB.out [X8] wr aq aG
     obtain ⟨a0,a1,a2,a3⟩:=h1.cells
     have ak:=aU.out
     rw [HN.out.1,c2h] at ak
     obtain ⟨a,b,c',e',y0,y1,y2,y3,bE,ao,hy⟩:=cd.out i wr hi
     rw [bE] at ak
     have k0:=ak.cell 0
     have k1:=ak.cell 1
     have aQ:=ak.cell 2
     have k3:=ak.cell 3
     simp [vi] at k0 k1 aQ k3
     have aC:=hid ao
     have HY:=hid hy
     have bo:=hid ak
     have bm:=hid aq
     clear aG aq h1 h2 h3 ak bE ao hy
     go_wp2_with fail
     refine aC.out.mono ?_
     rintro e w9 ⟨rfl,bh⟩
     have ag:=bo.out.chg bh (by simp)
     have k0:=ag.cell 0
     have k1:=ag.cell 1
     have aQ:=ag.cell 2
     have k3:=ag.cell 3
     have f0:=ag.frozen 0
     have f1:=ag.frozen 1
     have f2:=ag.frozen 2
     have f3:=ag.frozen 3
     simp [vi] at k0 k1 aQ k3
     obtain ⟨wB,aL⟩:=zX (((((w9.setCell ⟨X8,0,none⟩ (.int .i64 y0)).setCell ⟨X8,1,none⟩ (.int .i64 y1)).setCell ⟨X8,2,none⟩ (.int .i64 y2)).setCell ⟨X8,3,none⟩ (.int .i64 y3)))
     have bA:Blk wB X8 86 (([y0,y1,y2,y3]:List Int).map vi).toArray:=by
      rw [aL]
      have:=(((ag.set_ 0 (.int .i64 y0)).set_ 1 (.int .i64 y1)).set_ 2 (.int .i64 y2)).set_ 3 (.int .i64 y3)
      simpa [vi] using this
     have aT:Chg [X8] wo wB:=by
      have:=((((zR [X8] w9).setCell (p:=⟨X8,0,none⟩) (.inl (by simp)) (.int .i64 y0)).setCell (p:=⟨X8,1,none⟩) (.inl (by simp)) (.int .i64 y1)).setCell (p:=⟨X8,2,none⟩) (.inl (by simp)) (.int .i64 y2)).setCell (p:=⟨X8,3,none⟩) (.inl (by simp)) (.int .i64 y3)
      rw [aL]
      exact (bm.out.tq (bh.mono (by simp))).tq this
     have aG:∀ x,x<w1.heap.size\/x=X6->x∉[X8]:=fun x hx hm=>by simp at hm;have:=ad.out;have:=af.out;have:=aa.out.size;omega
     have ap:∀ x∈gP::gs,x∉[X8]:=fun x hx hm=>by simp at hm;have:=ar.out x hx;have:=ad.out;have:=af.out;omega
     obtain ⟨h1,h2,h3⟩:=aB.out [X8] wB aT aG
     obtain ⟨b0,b1,b2,b3⟩:=h3.cells
     have aK:=HO.out.chg aT (ap gP (by simp)) (fun x hx=>ap x (by simp [hx]))
     have cb:=hid aL
     have cf:=hid bA
     have bx:=hid aT
     have b7:=hid aK
     rw [aL] at b0 b1 b2 b3
     clear ag aL bA aT aK h1 h2 h3 aG ap a0 a1 a2 a3 bh
     go_wp2_with fail
     rw [<-cb.out]
     clear b0 b1 b2 b3 k0 k1 aQ k3 f0 f1 f2 f3
     go_loopg [11,12,58] k2 (fun j2 v11 v12 v58 wz=>∃ k3:Nat,v58=.int .i64 k3/\k3+j2=k2/\Hid (a1x wz (b8z p q i k3) gP ac xs gs)/\Hid (Chg gs wB wz))
     case atStart=>exact ⟨0,rfl,by omega,b7,hid (zR _ _)⟩
     case round =>
      obtain ⟨k3,rfl,bT,a5,aj⟩:=hrel
      have h8:X8∉gs:=fun hm=>by have:=ar.out X8 (by simp [hm]);have:=ad.out;have:=af.out;omega
      have bn:=cf.out.chg aj.out h8
      rcases gk with _ | j3
      ·obtain rfl:k3=k2:=by omega
       have t3:decide ((k3:Int)<(k3:Int))=false:=by simp
       clear bn h8
       go_wp2_with fail
       go_roundg j
       case measure=>omega
       case rel =>
        refine ⟨i+1,by go_num,by omega,hid ?_,hid ?_⟩
        ·have:=a5.out
         unfold b8z at this ⊢
         rw [HN.out.1,d1b] at this
         exact this
        ·refine (aw.out.trans bx.out (fun x hx => .inr (by simp at hx;have:=ad.out;omega))).trans aj.out (fun x hx => .inl hx)
      ·have bP:k3<k2:=by omega
       have t3:decide ((k3:Int)<(k2:Int))=true:=zB (by omega)
       have a4:k3<(b8z p q i k3).P.length:=by show _<(b1u _ _ _ _).length;rw [a4j,<-HN.out.1];exact bP
       obtain ⟨g3,c3,e1,e2,e3,e4⟩:=a5.out.plane a4
       have ba:(b8z p q i k3).W*(b8z p q i k3).H=N:=HN.out.2.symm
       rw [ba] at e1 e3 e4
       have ay:((b8z p q i k3).P.getD k3 []).length=N:=by rw [<-ba];exact (a5.out.ok).len _ (a0n a4)
       obtain ⟨_,_,_,_,aA,bI⟩:=e3.oq
       have bW:=bI i
       have bF:wr.cell? ⟨g3,i,none⟩=some (.int .i64 (((b8z p q i k3).P.getD k3 []).getD i 0)):=by
        refine aA i _ ?_
        rw [zD (l:=(b8z p q i k3).P.getD k3 []),zF (by rw [ay];exact hi)]
        rfl
       have bO:=bn.vi_cell (k:=k3) (by simp;omega)
       obtain ⟨h1,h2,bu⟩:=aB.out (X8::gs) wr ((bx.out.mono (by simp)).trans (aj.out.mono (by simp +contextual)) (fun x hx => .inl hx)) (fun x hx hm=>by
        rcases zJ.1 hm with e | hm
        ·have:=ad.out;have:=af.out;have:=aa.out.size;omega
        ·have:=ar.out x (by simp [hm]);omega)
       obtain ⟨b0,b1,b2,b3⟩:=bu.cells
       have bk:a1x (wr.setCell ⟨g3,i,none⟩ (.int .i64 ([y0,y1,y2,y3].getD k3 0))) (b8z p q i (k3+1)) gP ac xs gs:=by
        refine a5.out.sample e1 e2 a4 e3 (by rw [ay];exact hi) (e3t bc.out HQ.out aF.out _ _) ?_
        rw [<-HY.out k3 (by have:=HN.out.1;omega)]
        exact (c5l (by have:=HN.out.1;omega) (by rw [bc.out.len _ (a0n (by have:=HN.out.1;omega)),<-HN.out.2];exact hi) (by rw [HQ.out.len _ (a0n (by have:=HN.out.1;have:=aF.out.n;omega)),<-aF.out.W,<-aF.out.H,<-HN.out.2];exact hi)).symm
       have bN:g3∈gs:=List.mem_of_getElem? e2
       have bg:Chg gs wB (wr.setCell ⟨g3,i,none⟩ (.int .i64 ([y0,y1,y2,y3].getD k3 0))):=aj.out.setCell (.inl bN) _
       obtain ⟨yv,bv⟩:=zX ([y0,y1,y2,y3].getD k3 0)
       rw [<-bv] at bO bk bg
       have bR:=hid bk
       have b6:=hid bg
       clear bk bg bv h1 h2 bu bn h8 e1 e2 e3 bI aA ba ay bN a4
       go_wp2_with fail
       go_roundg j3
       case measure=>omega
       case rel=>exact ⟨k3+1,by go_num,by omega,bR,b6⟩
    ·have bU:k2<n:=by omega
     have t2:decide ((k2:Int)<(n:Int))=true:=zB (by omega)
     obtain ⟨b,q',e1,e2⟩:=bi.out wr be.out k2 bU
     have hf:=aU.out.frozen k2
     have cp:=aU.out.vi_cell (k:=k2) (by rw [c7r];omega)
     have aY:=aU.out.set_vi k2 ((p.P.getD k2 []).getD i 0)
     rw [c7s p.P i (by omega)] at aY
     have a9:Chg [X8] wr0 (wr.setCell ⟨X8,k2,none⟩ (.int .i64 ((p.P.getD k2 []).getD i 0))):=be.out.setCell (.inl (by simp)) _
     obtain ⟨v,hv⟩:=zX ((p.P.getD k2 []).getD i 0)
     rw [<-hv] at e2 aY a9
     have bZ:=hid aY
     have a6:=hid a9
     clear aY a9 hv
     go_wp2_with fail
     go_roundg j2
     case measure=>omega
     case rel=>exact ⟨k2+1,by go_num,by omega,bZ,a6⟩
theorem e8b {w:World} {p:a2a} {g o:Nat} {B:Nat->Option Addr} {c:Nat->Nat} {G:List Nat} (cap:Nat) (h:a4l w p g o B c G) :
  Calls Tryz.prog 122 #[a6y p g o cap] w fun e w'=>e=.returned (.int .i64 (b8w p))/\Chg [] w w':=by
 have aa:=h.ok
 have ag:∀ w',Chg [] w w'->_:=fun w' (hc':Chg [] w w')=>c1d cap (h.same hc')
 obtain ⟨n,hn⟩:=zX (p.P.length)
 obtain ⟨N,hN⟩:=zX (p.W*p.H)
 have a5:n<=4:=by rw [hn];exact aa.n1
 have aS:N<=4096:=by rw [hN];exact aa.area
 have aB:∀ wz,Chg [] w wz->∀ j,j<n->∃ b q,wz.cell? ⟨g,o+j,none⟩=some (.slice (some ⟨b,q,none⟩) N (c j))/\∀ i,i<N->wz.cell? ⟨b,q+i,none⟩=some (.int .i64 ((p.P.getD j []).getD i 0)):=by
  intro wz hc j hj
  rw [hn] at hj
  obtain ⟨b,q,e,hb,aI⟩:=(h.same hc).at_ hj
  have ae:=(h.same hc).cell j hj
  rw [e,<-hN] at ae
  exact ⟨b,q,ae,fun i hi=>aI i (by rw [<-hN];exact hi)⟩
 have az:∀ v wz,_:=fun v wz=>a7x v p.d wz aa.d0 aa.d1
 have aD:∀ v,_:=fun v=>b5j v aa.d0 aa.d1
 have ar:=fun k=>d3p aa k
 have aF:=fun l k=>d3o l p.W aa.d0 aa.d1 k
 have aC:∀ j i,In4 p.d ((p.P.getD j []).getD i 0):=fun j i=>a6a aa i j
 obtain ⟨aT,aU⟩:=a9c aa.d0 aa.d1
 unfold a6y at ag ⊢
 rw [<-hn] at ag ⊢
 have ae:b8w p=e8a p n:=by rw [hn];rfl
 rw [ae]
 obtain ⟨w1,ah⟩:=zX (w.alloc (.cells #[.int .i64 p.W,.int .i64 p.H,.int .i64 p.d,.slice (some ⟨g,o,none⟩) n cap] 27))
 obtain ⟨X,hX⟩:=zX (w.heap.size)
 have ao:Box w1 X (.int .i64 p.W) (.int .i64 p.H) (.int .i64 p.d) (.slice (some ⟨g,o,none⟩) n cap):=⟨by rw [ah,hX];exact Blk.new w _ _⟩
 have aq:Chg [] w w1:=by rw [ah];exact (zR [] w).alloc _
 have bd:=aa.w0
 have a6:=aa.w1
 have ba:=aa.d1
 have HN:Hid (n=p.P.length/\N=p.W*p.H):=hid ⟨hn,hN⟩
 have aJ:=hid ah
 have aO:=hid hX
 have aw:=hid aq
 have aR:=hid ao
 have aH:=hid ag
 have aK:=hid aB
 have au:=hid az
 have ax:=hid aD
 have aL:=hid ar
 have aP:=hid aF
 have aE:=hid aC
 obtain ⟨a0,a1,a2,a3⟩:=ao.cells
 clear ah aq ao ag aa h hX aB hn hN az aD ar aF ae aC
 go_enter Tryz.func122,Tryz.ntmps122
 go_wp2_with fail
 rw [<-aJ.out,<-aO.out]
 refine (aH.out w1 aw.out).mono ?_
 rintro e w2 ⟨rfl,am⟩
 obtain ⟨a0,a1,a2,a3⟩:=(aR.out.same am).cells
 have ad:=hid (aw.out.tq am)
 clear am
 go_wp2_with fail
 go_loopg [3,5,6,7,8,9,16,20,21,22] n (fun j v3 v5 v6 v7 v8 v9 v16 v20 v21 v22 wr=>∃ k:Nat,v16=.int .i64 k/\k+j=n/\v3=.int .i64 (e8a p k:Int)/\w2=wr)
 case atStart=>exact ⟨0,rfl,by omega,rfl,rfl⟩
 case round =>
  obtain ⟨k,rfl,a7,rfl,rfl⟩:=hrel
  rcases gk with _ | j
  ·obtain rfl:k=n:=by omega
   have t1:decide ((k:Int)<(k:Int))=false:=by simp
   go_wp2_with fail
   go_ret
   exact ⟨rfl,ad.out⟩
  ·have hk:k<n:=by omega
   have t1:decide ((k:Int)<(n:Int))=true:=zB (by omega)
   obtain ⟨b,q,e1,e2⟩:=aK.out w2 ad.out k hk
   have ay:=hid e2
   have av:=aL.out k
   obtain ⟨T,hT⟩:=zX (e8a p k)
   rw [<-hT] at av ⊢
   have HT:=hid hT
   have bb:T<=600000000:=by omega
   clear e2 av hT
   go_wp2_with fail
   go_loopg [3,6,7,8,9,22] N (fun j2 v3 v6 v7 v8 v9 v22 wr=>∃ i:Nat,v22=.int .i64 i/\i+j2=N/\v3=.int .i64 ((T+e7z (p.P.getD k []) p.W p.d i:Nat):Int)/\w2=wr)
   case atStart=>exact ⟨0,rfl,by omega,rfl,rfl⟩
   case round =>
    obtain ⟨i,rfl,a4,rfl,rfl⟩:=hrel
    rcases gk with _ | j2
    ·obtain rfl:i=N:=by omega
     have t2:decide ((i:Int)<(i:Int))=false:=by simp
     go_wp2_with fail
     go_roundg j
     case measure=>omega
     case rel=>exact ⟨k+1,by go_num,by omega,by rw [d0o,<-HT.out,<-HN.out.2],rfl⟩
    ·have hi:i<N:=by omega
     have t2:decide ((i:Int)<(N:Int))=true:=zB (by omega)
     have e2:=ay.out i hi
     obtain ⟨l,hl⟩:=zX (p.P.getD k [])
     have ab:=d0n l p.W p.d i
     have al:=aP.out l i
     obtain ⟨v,hv⟩:=zX (l.getD i 0)
     have ap:=aE.out k i
     rw [<-hl] at e2 ap ⊢
     rw [<-hv] at e2 ab ap
     obtain ⟨a9,be⟩:=ap
     obtain ⟨x,hx⟩:=zX (i%p.W)
     have aM:(i:Int)%(p.W:Int)=(x:Int):=by rw [hx];simp
     have bc:(i:Int).tmod (p.W:Int)=(x:Int):=by rw [Int.tmod_eq_emod_of_nonneg (by omega)];exact aM
     have aQ:(p.W:Int)≠0:=by omega
     have aY:x<p.W:=by rw [hx];exact Nat.mod_lt _ (by omega)
     obtain ⟨S,hS⟩:=zX (e7z l p.W p.d i)
     rw [<-hS,<-hx] at ab
     rw [<-hS] at al ⊢
     have aX:S<=200000000:=by omega
     have an:=hid hl
     by_cases h0:x=0
     ·have t3:decide (0<x)=false:=zA (by omega)
      rw [if_pos h0] at ab
      have hf:=fun wz=>au.out (v-0) wz
      obtain ⟨f0,f1⟩:=ax.out (v-0)
      obtain ⟨f,af⟩:=zX (a1b (v-0) p.d)
      rw [<-af] at ab hf f0 f1
      rw [show v-0=v by omega] at hf
      have ak:(if f < -f then -f else f)=(f.natAbs:Int):=by split<;>omega
      have ac:(if -f<f then f else -f)=(f.natAbs:Int):=by split<;>omega
      obtain ⟨A,hA⟩:=zX (f.natAbs)
      rw [<-hA] at ab ak ac
      have aG:A<=32768:=by omega
      have aj:=hid ab
      clear ab al af hS hx hl hv h0 hA
      go_wp2_with (go_at_call 84;refine (hf _).mono ?_;rintro e w' ⟨rfl,rfl⟩)
      go_roundg j2
      case measure=>omega
      case rel=>exact ⟨i+1,by go_num,by omega,by rw [<-an.out,aj.out,<-Nat.add_assoc,Int.natCast_add (T+S) A];go_num,rfl⟩
     ·have t3:decide (0<x)=true:=zB (by omega)
      rw [if_neg h0] at ab
      have aV:0<i:=by
       rcases Nat.eq_zero_or_pos i with h1 | h1
       ·exfalso;rw [h1,Nat.zero_mod] at hx;exact h0 hx
       ·exact h1
      obtain ⟨i1,aA⟩:∃ i1,i=i1+1:=⟨i-1,by omega⟩
      have e3:=ay.out i1 (by omega)
      rw [show q+i1=q+(i-1) by omega] at e3
      have ai:=aE.out k i1
      rw [show i-1=i1 by omega] at ab
      obtain ⟨u,hu⟩:=zX (l.getD i1 0)
      rw [<-an.out] at e3 ai
      rw [<-hu] at e3 ab ai
      obtain ⟨aZ,a8⟩:=ai
      have aW:0<=(i:Int)-1:=by omega
      have aN:i1<N:=by omega
      have hf:=fun wz=>au.out (v-u) wz
      obtain ⟨f0,f1⟩:=ax.out (v-u)
      obtain ⟨f,af⟩:=zX (a1b (v-u) p.d)
      rw [<-af] at ab hf f0 f1
      have ak:(if f < -f then -f else f)=(f.natAbs:Int):=by split<;>omega
      have ac:(if -f<f then f else -f)=(f.natAbs:Int):=by split<;>omega
      obtain ⟨A,hA⟩:=zX (f.natAbs)
      rw [<-hA] at ab ak ac
      have aG:A<=32768:=by omega
      have aj:=hid ab
      have bf:=hid aA
      clear ab al af hS hx hl hv h0 hA hu aA
      go_wp2_with (go_at_call 84;refine (hf _).mono ?_;rintro e w' ⟨rfl,rfl⟩)
      go_roundg j2
      case measure=>omega
      case rel=>exact ⟨i+1,by go_num,by omega,by rw [<-an.out,aj.out,<-Nat.add_assoc,Int.natCast_add (T+S) A];go_num,rfl⟩
theorem e7y {w:World} {p:a2a} {g o:Nat} {B:Nat->Option Addr} {c:Nat->Nat} {G:List Nat} (cap:Nat) (h:a4l w p g o B c G) :
  Calls Tryz.prog 90 #[a6y p g o cap] w fun e w'=>e=.returned (.int .i64 (a7t p 4))/\Chg [] w w':=by
 have ah:=h.ok
 have af:∀ w' k,Chg [] w w'->k<=4->b9k p.P.length k=true->_:=fun w' k (hc':Chg [] w w') k4 hm=>d6e cap (h.same hc') k k4 hm
 have ax:∀ w' k,Chg [] w w'->k<=4->b9k p.P.length k=false->_:=fun w' k (hc':Chg [] w w') k4 hm=>e2w cap (h.same hc') k k4 hm
 have al:=b4v ah 0
 have aD:=fun k=>d3p (b2t ah k) (a3p k p).P.length
 have au:∀ k,(a3p k p).P.length=p.P.length:=fun k=>a3y _ _ _
 have aS:=ah.n1
 have aC:∀ k,b8w (a3p k p)<=536870912:=fun k=>by
  have h1:=aD k
  have h2:=au k
  unfold b8w
  rw [h2] at h1 ⊢
  omega
 unfold a2x at af
 unfold a6y f0j at *
 have av:∀ k gP cP,(.agg #[.int .i64 ((a3p k p).W:Int),.int .i64 ((a3p k p).H:Int),.int .i64 ((a3p k p).d:Int),.slice (some ⟨gP,0,none⟩) (a3p k p).P.length cP]:Value)=.agg #[.int .i64 p.W,.int .i64 p.H,.int .i64 p.d,.slice (some ⟨gP,0,none⟩) p.P.length cP]:=fun k gP cP=>by rw [au];rfl
 have aq:∀ {wz:World} {k gP cP:Nat} {xs:List Value} {gs:List Nat},a1x wz (a3p k p) gP cP xs gs->Calls Tryz.prog 122 #[.agg #[.int .i64 p.W,.int .i64 p.H,.int .i64 p.d,.slice (some ⟨gP,0,none⟩) p.P.length cP]] wz fun e w'=>e=.returned (.int .i64 (b8w (a3p k p)))/\Chg [] wz w':=fun {wz k gP cP xs gs} aa=>by
  have h1:=e8b cP aa.at_
  unfold a6y at h1
  rw [av] at h1
  exact h1
 simp only [av] at af
 obtain ⟨n,hn⟩:=zX (p.P.length)
 simp only [<-hn] at af ax aq al ⊢
 obtain ⟨w1,ak⟩:=zX (w.alloc (.cells #[.int .i64 p.W,.int .i64 p.H,.int .i64 p.d,.slice (some ⟨g,o,none⟩) n cap] 27))
 obtain ⟨X,hX⟩:=zX (w.heap.size)
 have aw:Box w1 X (.int .i64 p.W) (.int .i64 p.H) (.int .i64 p.d) (.slice (some ⟨g,o,none⟩) n cap):=⟨by rw [ak,hX];exact Blk.new w _ _⟩
 have aB:Chg [] w w1:=by rw [ak];exact (zR [] w).alloc _
 have aH:∀ m,a7t p (m+1)=if b9k n (m+1)=true/\b8w (a3p (m+1) p)<b8w (a3p (a7t p m) p) then m+1 else a7t p m:=fun m=>by rw [hn];rfl
 have aJ:=hid ak
 have aQ:=hid hX
 have ao:=hid aB
 have aR:=hid aw
 have aL:=hid af
 have aM:=hid ax
 have aE:=hid (fun wz k gP cP xs gs (h:a1x wz (a3p k p) gP cP xs gs)=>aq h)
 have aN:=hid al
 have aF:=hid aC
 have ag:=hid aH
 have aK:=hid (b9g p)
 obtain ⟨a0,a1,a2,a3⟩:=aw.cells
 clear ak aB aw ah h hX hn af ax aq al aD au aC av aH
 go_enter Tryz.func90,Tryz.ntmps90
 go_wp2_with fail
 rw [<-aJ.out,<-aQ.out]
 go_loopg [3,4,5,6,7,8,9,10] 5 (fun j v3 v4 v5 v6 v7 v8 v9 v10 wr=>∃ k:Nat,v10=.int .i64 k/\k+j=5/\((k=0/\v3=.int .i64 0/\v4=.int .i64 0/\v5=.bool false)\/∃ m,k=m+1/\v3=.int .i64 (a7t p m:Int)/\v4=.int .i64 (b8w (a3p (a7t p m) p):Int)/\v5=.bool true)/\Hid (Chg [] w1 wr))
 case atStart=>exact ⟨0,rfl,rfl,.inl ⟨rfl,rfl,rfl,rfl⟩,hid (zR _ _)⟩
 case round =>
  obtain ⟨k,rfl,aT,ar,ab⟩:=hrel
  rcases gk with _ | j
  ·obtain rfl:k=5:=by omega
   rcases ar with ⟨h0,_⟩ | ⟨m,hm,rfl,rfl,rfl⟩
   ·omega
   ·obtain rfl:m=4:=by omega
    go_wp2_with fail
    go_ret
    exact ⟨rfl,ao.out.tq ab.out⟩
  ·have t1:decide ((k:Int)<5)=true:=zB (by omega)
   obtain ⟨a0,a1,a2,a3⟩:=(aR.out.same ab.out).cells
   have aG:k<=4:=by omega
   cases hmk:b9k n k with
   | false =>
    have hf:=aM.out wr k (ao.out.tq ab.out) aG hmk
    rcases ar with ⟨h0,_⟩ | ⟨m,hm,rfl,rfl,rfl⟩
    ·subst h0;have:=aN.out;simp only [a7t] at this;rw [this] at hmk;cases hmk
    ·have HM:=hid hm
     clear hm
     go_wp2_with fail
     refine hf.mono ?_
     rintro e w2 ⟨rfl,ad⟩
     go_wp2_with fail
     go_roundg j
     case measure=>omega
     case rel =>
      refine ⟨k+1,by go_num,by omega,.inr ⟨m+1,by rw [<-HM.out],?_,?_,rfl⟩,hid ((ab.out.tq ad).alloc _)⟩
      ·rw [ag.out,<-HM.out,hmk,if_neg (by simp)]
      ·rw [ag.out,<-HM.out,hmk,if_neg (by simp)]
   | true =>
    have hf:=aL.out wr k (ao.out.tq ab.out) aG hmk
    have hA:=aF.out k
    obtain ⟨A,az⟩:=zX (b8w (a3p k p))
    rw [<-az] at hA
    have HA:=hid az
    clear az
    rcases ar with ⟨h0,rfl,rfl,rfl⟩ | ⟨m,hm,rfl,rfl,rfl⟩
    ·have HM:=hid h0
     clear h0
     go_wp2_with fail
     refine hf.mono ?_
     rintro e w2 ⟨gP,cP,xs,gs,rfl,aa,ad,-⟩
     obtain ⟨w3,ae⟩:=zX (w2.alloc (.cells #[.int .i64 p.W,.int .i64 p.H,.int .i64 p.d,.slice (some ⟨gP,0,none⟩) n cP] 27))
     have ac:Chg [] w2 w3:=by rw [ae];exact (zR [] w2).alloc _
     have hc:=aE.out w3 k gP cP xs gs (aa.same ac)
     rw [<-HA.out] at hc
     have an:=hid ae
     have am:=hid ((ab.out.tq ad).tq ac)
     clear hf aa ad ac ae
     go_wp2_with fail
     rw [<-an.out]
     refine hc.mono ?_
     rintro e w4 ⟨rfl,ai⟩
     go_wp2_with fail
     go_roundg j
     case measure=>omega
     case rel=>exact ⟨k+1,by go_num,by omega,.inr ⟨0,by rw [HM.out],by rw [HM.out];rfl,by rw [HA.out,HM.out];rfl,rfl⟩,hid (am.out.tq ai)⟩
    ·have aO:=aF.out (a7t p m)
     obtain ⟨Bm,ay⟩:=zX (b8w (a3p (a7t p m) p))
     obtain ⟨Km,aj⟩:=zX (a7t p m)
     rw [<-ay] at aO ⊢
     rw [<-aj]
     have aI:=aK.out m
     rw [<-aj] at aI
     have ap:=hid ay
     have aP:=hid aj
     have HM:=hid hm
     clear ay aj hm
     go_wp2_with fail
     refine hf.mono ?_
     rintro e w2 ⟨gP,cP,xs,gs,rfl,aa,ad,-⟩
     obtain ⟨w3,ae⟩:=zX (w2.alloc (.cells #[.int .i64 p.W,.int .i64 p.H,.int .i64 p.d,.slice (some ⟨gP,0,none⟩) n cP] 27))
     have ac:Chg [] w2 w3:=by rw [ae];exact (zR [] w2).alloc _
     have hc:=aE.out w3 k gP cP xs gs (aa.same ac)
     rw [<-HA.out] at hc
     have an:=hid ae
     have am:=hid ((ab.out.tq ad).tq ac)
     clear hf aa ad ac ae
     go_wp2_with fail
     rw [<-an.out]
     refine hc.mono ?_
     rintro e w4 ⟨rfl,ai⟩
     have aA:=hid (am.out.tq ai)
     clear hc ai
     by_cases hlt:A<Bm
     ·have t2:decide (A<Bm)=true:=zB hlt
      have e:a7t p (m+1)=k:=by
       have e:=ag.out m
       rw [e,<-HM.out,hmk,<-HA.out,<-ap.out,if_pos ⟨rfl,hlt⟩]
      have HE:=hid e
      clear e hlt
      go_wp2_with fail
      go_roundg j
      case measure=>omega
      case rel=>exact ⟨k+1,by go_num,by omega,.inr ⟨m+1,by rw [<-HM.out],by rw [HE.out],by rw [HE.out,HA.out],rfl⟩,aA⟩
     ·have t2:decide (A<Bm)=false:=zA hlt
      have e:a7t p (m+1)=a7t p m:=by
       have e:=ag.out m
       rw [e,<-HM.out,hmk,<-HA.out,<-ap.out,if_neg (fun h=>hlt h.2)]
      have HE:=hid e
      clear e hlt
      go_wp2_with fail
      go_roundg j
      case measure=>omega
      case rel=>exact ⟨k+1,by go_num,by omega,.inr ⟨m+1,by rw [<-HM.out],by rw [HE.out,aP.out],by rw [HE.out,ap.out],rfl⟩,aA⟩
end Go.Proofs.YtepjepkgcdfboaaGreatDoor
