/- package hue by its contracts: pictures turned and turned back. Printed by wip/mkhue2.py. -/
import Derived.Test.YtepjepkgcdfboaaGreatDoorMg40
import Derived.Test.YtepjepkgcdfboaaGreatDoorMg42
set_option linter.unusedVariables false
set_option linter.unusedSimpArgs false
set_option maxHeartbeats 2000000
set_option maxRecDepth 100000
namespace Go.Proofs.YtepjepkgcdfboaaGreatDoor
open Go.RowKit
def ptTo (P:List (List Int)) (i k:Nat):List Int:=(List.range 4).map fun j=>if j<k then (P.getD j []).getD i 0 else 0
theorem ptTo_full {P:List (List Int)} (i:Nat):ptTo P i P.length=pt4 P i:=by
 unfold ptTo pt4
 apply List.map_congr_left
 intro j _
 split
 ·rfl
 ·rename_i h
  rw [zD (l:=P),List.getElem?_eq_none (by omega)]
  rfl
theorem ptTo_set (P:List (List Int)) (i:Nat) {k:Nat} (hk:k<4):(ptTo P i k).set k ((P.getD k []).getD i 0)=ptTo P i (k+1):=by
 rcases (by omega:k=0\/k=1\/k=2\/k=3) with rfl | rfl | rfl | rfl<;>rfl
theorem ptTo_len (P:List (List Int)) (i k:Nat):(ptTo P i k).length=4:=by simp [ptTo]
theorem Blk.set_vi {w:World} {g:Nat} {t:TypeId} {l:List Int} (h:Blk w g t (l.map vi).toArray) (k:Nat) (v:Int):Blk (w.setCell ⟨g,k,none⟩ (.int .i64 v)) g t ((l.set k v).map vi).toArray:=by
 have h1:=h.set_ k (.int .i64 v)
 have e:(l.map vi).toArray.setIfInBounds k (.int .i64 v)=((l.set k v).map vi).toArray:=by
  apply Array.ext'
  simp [List.map_set,vi]
 rwa [e] at h1
theorem Blk.vi_cell {w:World} {g:Nat} {t:TypeId} {l:List Int} (h:Blk w g t (l.map vi).toArray) {k:Nat} (hk:k<l.length):w.cell? ⟨g,k,none⟩=some (.int .i64 (l.getD k 0)):=by
 rw [h.cell k,zD,zF hk]
 simp [vi,hk]
theorem list_four {l:List Int} (h:l.length=4):∃ a b c e,l=[a,b,c,e]:=by
 match l,h with
 | [a,b,c,e],_=>exact ⟨a,b,c,e,rfl⟩
structure Box (w:World) (x:Nat) (a b c v:Value):Prop where
 blk:Blk w x 27 #[a,b,c,v]
theorem Box.cells {w:World} {x:Nat} {a b c v:Value} (h:Box w x a b c v):w.cell? ⟨x,0,none⟩=some a/\w.cell? ⟨x,1,none⟩=some b/\w.cell? ⟨x,2,none⟩=some c/\w.cell? ⟨x,3,none⟩=some v:=⟨h.blk.cell 0,h.blk.cell 1,h.blk.cell 2,h.blk.cell 3⟩
theorem Box.chg {w w':World} {x:Nat} {a b c v:Value} {F:List Nat} (h:Box w x a b c v) (hc:Chg F w w') (hx:x∉F):Box w' x a b c v:=⟨h.blk.chg hc hx⟩
theorem Box.same {w w':World} {x:Nat} {a b c v:Value} (h:Box w x a b c v) (hc:Chg [] w w'):Box w' x a b c v:=⟨h.blk.chg hc (by simp)⟩
theorem midD_end {p q:PicD} (h:p.Ok) (hq:q.Ok) (ha:AlikeD p q):midD p q (p.W*p.H) 0=q:=by
 obtain ⟨W,H,d,P⟩:=q
 have e:=midPl_end (P:=p.P) (Q:=P) (N:=p.W*p.H) ha.n.symm (fun j hj=>h.len _ (getD_mem_or hj)) (fun j hj=>by
  have:=hq.len _ (getD_mem_or (P:=P) (j:=j) (by rw [<-show p.P.length=P.length from ha.n];exact hj))
  rw [<-show p.W=W from ha.W,<-show p.H=H from ha.H] at this
  exact this)
 unfold midD
 rw [e]
 have h1:p.W=W:=ha.W
 have h2:p.H=H:=ha.H
 have h3:p.d=d:=ha.d
 rw [h1,h2,h3]
theorem pic_ret {F:Func} {Q:Ending->World->Prop} {a:Act} {Y:World} {C:Nat} {z0 z1 z2 z3 v0 v1 v2 v3:Value} (hY:Box Y C z0 z1 z2 z3)
  (h:∀ X,Box X C v0 v1 v2 v3->Chg [C] Y X->bodyPost Tryz.prog F Q .ret a X) :
  bodyPost Tryz.prog F Q .ret a ((((Y.setCell ⟨C,0,none⟩ v0).setCell ⟨C,1,none⟩ v1).setCell ⟨C,2,none⟩ v2).setCell ⟨C,3,none⟩ v3) :=
 pt_ret hY.blk fun X h1 h2=>h X ⟨h1⟩ h2
def TurnPost (w:World) (p:PicD) (e:Ending) (w':World):Prop :=
 ∃ (gP capP:Nat) (xs:List Value) (gs:List Nat),e=.returned (.tuple #[picV p gP 0 capP,.int .i64 0])/\PicOwn w' p gP capP xs gs/\Chg [] w w'/\∀ x∈gP::gs,w.heap.size<=x
def zPic:Value:=.agg #[.int .i64 0,.int .i64 0,.int .i64 0,.slice none 0 0]
theorem hfore_bad {w:World} {p:PicD} {g o:Nat} {B:Nat->Option Addr} {c:Nat->Nat} {G:List Nat} (cap:Nat) (h:PicAt w p g o B c G) (k:Nat) (k4:k<=4) (hm:mayH p.P.length k=false) :
  Calls Tryz.prog 13 #[picV p g o cap,.int .i64 k] w fun e w'=>e=.returned (.tuple #[zPic,.int .i64 1])/\Chg [] w w':=by
 have af:=h.ok
 have ae:∀ w',Chg [] w w'->_:=fun w' (hc':Chg [] w w')=>is_yes cap (h.same hc')
 have ai:=fun w'=>hmay_ok p.P.length k w' af.n0 af.n1 k4
 rw [hm] at ai
 unfold picV at ae ⊢
 obtain ⟨w1,aa⟩:=zX (((w.alloc (.cells #[.int .i64 p.W,.int .i64 p.H,.int .i64 p.d,.slice (some ⟨g,o,none⟩) p.P.length cap] 27)).alloc (.cells #[.int .i64 0,.int .i64 0,.int .i64 0,.slice none 0 0] 27)))
 have ad:Box w1 w.heap.size (.int .i64 p.W) (.int .i64 p.H) (.int .i64 p.d) (.slice (some ⟨g,o,none⟩) p.P.length cap):=⟨by rw [aa];exact (Blk.new w _ _).alloc _⟩
 have aj:Box w1 (w.heap.size+1) (.int .i64 0) (.int .i64 0) (.int .i64 0) (.slice none 0 0):=⟨by rw [aa];exact Blk.new2 w _ _ _⟩
 have ah:Chg [] w w1:=by rw [aa];exact ((zR [] w).alloc _).alloc _
 have al:=hid aa
 have ag:=hid ah
 have ak:=hid ad
 have am:=hid aj
 have an:=hid ae
 obtain ⟨a0,a1,a2,a3⟩:=ad.cells
 clear aa ah ad aj ae af h hm
 go_enter Tryz.func13,Tryz.ntmps13
 go_wp2_with fail
 rw [<-al.out]
 refine (an.out w1 ag.out).mono ?_
 rintro e w2 ⟨rfl,ab⟩
 obtain ⟨a0,a1,a2,a3⟩:=(ak.out.same ab).cells
 have hz:=am.out.same ab
 obtain ⟨z0,z1,z2,z3⟩:=hz.cells
 have f0:=hz.blk.frozen 0
 have f1:=hz.blk.frozen 1
 have f2:=hz.blk.frozen 2
 have f3:=hz.blk.frozen 3
 have ac:=hid (ag.out.trans_same ab)
 have HZ:=hid hz
 clear ab hz
 go_wp2_with fail
 refine (ai _).mono ?_
 rintro e w3 ⟨rfl,rfl⟩
 go_wp2_with fail
 refine pic_ret HZ.out ?_
 intro X hX hY
 obtain ⟨x0,x1,x2,x3⟩:=hX.cells
 refine bodyPost_ret (v:=.tuple #[zPic,.int .i64 1]) (by simp [results,Tryz.results13,go_sem,x0,x1,x2,x3,zPic]) rfl ?_
 exact ⟨rfl,ac.out.trans hY (fun x hx => .inr (by simp at hx;omega))⟩
theorem hfore_ok {w:World} {p:PicD} {g o:Nat} {B:Nat->Option Addr} {c:Nat->Nat} {G:List Nat} (cap:Nat) (h:PicAt w p g o B c G) (k:Nat) (k4:k<=4) (hm:mayH p.P.length k=true) :
  Calls Tryz.prog 13 #[picV p g o cap,.int .i64 k] w (TurnPost w (foreH k p)):=by
 unfold TurnPost
 have ab:=h.ok
 have aP:∀ w',Chg [] w w'->_:=fun w' (hc':Chg [] w w')=>is_yes cap (h.same hc')
 have aQ:∀ w',Chg [] w w'->_:=fun w' (hc':Chg [] w w')=>copy_ok cap (h.same hc')
 have aR:=fun w'=>hmay_ok p.P.length k w' ab.n0 ab.n1 k4
 rw [hm] at aR
 obtain ⟨q,hq⟩:=zX (foreH k p)
 have bF:q.Ok:=by rw [hq];exact foreH_ok ab k
 have az:AlikeD p q:=by rw [hq];exact ⟨rfl,rfl,rfl,(turnPl_len _ _ _).symm⟩
 have a4:∀ i wz,i<p.W*p.H->∃ a b c e y0 y1 y2 y3,pt4 p.P i=[a,b,c,e]/\Calls Tryz.prog 44 #[.agg #[.int .i64 a,.int .i64 b,.int .i64 c,.int .i64 e],.int .i64 k,.int .i64 p.d] wz (fun en w'=>en=.returned (.agg #[.int .i64 y0,.int .i64 y1,.int .i64 y2,.int .i64 y3])/\Chg [] wz w')/\∀ j,j<p.P.length->(q.P.getD j []).getD i 0=[y0,y1,y2,y3].getD j 0:=by
  intro i wz hi
  obtain ⟨y0,y1,y2,y3,hy⟩:=list_four (foreP_len k p.d ((p.P.getD 0 []).getD i 0) ((p.P.getD 1 []).getD i 0) ((p.P.getD 2 []).getD i 0) ((p.P.getD 3 []).getD i 0))
  have hc:=fore_point k p.d _ _ _ _ wz ab.d0 ab.d1 k4 (pt4_in ab i 0) (pt4_in ab i 1) (pt4_in ab i 2) (pt4_in ab i 3)
  rw [hy] at hc
  refine ⟨_,_,_,_,y0,y1,y2,y3,pt4_eq _ _,hc,fun j hj => ?_⟩
  rw [hq,<-hy]
  exact turnPl_at hj hi
 obtain ⟨n,hn⟩:=zX (p.P.length)
 obtain ⟨N,hN⟩:=zX (p.W*p.H)
 have cq:n<=4:=by rw [hn];exact ab.n1
 have ck:N<=4096:=by rw [hN];exact ab.area
 have bs:∀ wz,Chg [] w wz->∀ j,j<n->∃ b q,wz.cell? ⟨g,o+j,none⟩=some (.slice (some ⟨b,q,none⟩) N (c j))/\b∈G/\∀ i,i<N->wz.cell? ⟨b,q+i,none⟩=some (.int .i64 ((p.P.getD j []).getD i 0)):=by
  intro wz hc j hj
  rw [hn] at hj
  obtain ⟨b,q,e,hb,cc⟩:=(h.same hc).at_ hj
  have aI:=(h.same hc).cell j hj
  rw [e,<-hN] at aI
  exact ⟨b,q,aI,hb,fun i hi=>cc i (by rw [<-hN];exact hi)⟩
 have bw:=h.gG
 have br:=h.lt
 rw [<-hN] at a4
 rw [<-hq]
 have bK:picV q=fun gP o' cap' => .agg #[.int .i64 p.W,.int .i64 p.H,.int .i64 p.d,.slice (some ⟨gP,o',none⟩) n cap']:=by
  funext gP o' cap'
  unfold picV
  rw [az.W,az.H,az.d,hn,az.n]
 rw [bK]
 unfold picV at aP aQ ⊢
 rw [<-hn] at aP aQ aR a4 ⊢
 obtain ⟨w1,aB⟩:=zX (((w.alloc (.cells #[.int .i64 p.W,.int .i64 p.H,.int .i64 p.d,.slice (some ⟨g,o,none⟩) n cap] 27)).alloc (.cells #[.int .i64 0,.int .i64 0,.int .i64 0,.slice none 0 0] 27)))
 obtain ⟨X2,aD⟩:=zX (w.heap.size)
 obtain ⟨X4,ap⟩:=zX (X2+1)
 have a7:Box w1 X2 (.int .i64 p.W) (.int .i64 p.H) (.int .i64 p.d) (.slice (some ⟨g,o,none⟩) n cap):=⟨by rw [aB,aD];exact (Blk.new w _ _).alloc _⟩
 have a8:Box w1 X4 (.int .i64 0) (.int .i64 0) (.int .i64 0) (.slice none 0 0):=⟨by rw [aB,ap,aD];exact Blk.new2 w _ _ _⟩
 have bN:Chg [] w w1:=by rw [aB];exact ((zR [] w).alloc _).alloc _
 have HX:Hid (X2=w.heap.size/\X4=X2+1/\X4<w1.heap.size):=hid ⟨aD,ap,a8.blk.lt⟩
 have cl:(p.W:Int)*(p.H:Int)=(N:Int):=by rw [hN];simp
 have cn:=ab.w1
 have cr:=ab.h1
 have cp:=ab.d1
 have HN:Hid (n=p.P.length/\N=p.W*p.H):=hid ⟨hn,hN⟩
 have b6:=hid aB
 have ak:=hid bN
 have bo:=hid a7
 have bY:=hid a8
 have bV:=hid aP
 have bR:=hid aQ
 have cb:=hid bs
 have ce:=hid a4
 have a9:=hid ab
 have HQ:=hid bF
 have aC:=hid az
 have bh:=hid br
 have bC:=hid bw
 have ci:=hid aD
 have b7:=hid ap
 obtain ⟨a0,a1,a2,a3⟩:=a7.cells
 clear aB bN a7 a8 aP ab h hm aD ap aQ bs a4 hn hN hq bF az bK br bw
 go_enter Tryz.func13,Tryz.ntmps13
 go_wp2_with fail
 rw [<-b6.out,<-ci.out,<-b7.out]
 refine (bV.out w1 ak.out).mono ?_
 rintro e w2 ⟨rfl,bc⟩
 obtain ⟨a0,a1,a2,a3⟩:=(bo.out.same bc).cells
 have au:=hid bc
 clear bc
 go_wp2_with fail
 refine (aR _).mono ?_
 rintro e w3 ⟨rfl,rfl⟩
 clear aR
 go_wp2_with fail
 refine (bR.out w2 (ak.out.trans_same au.out)).mono ?_
 rintro e w3 ⟨gP,ad,xs,gs,rfl,aj,bH,aN⟩
 obtain ⟨w4,aM⟩:=zX (w3.alloc (.cells #[.int .i64 p.W,.int .i64 p.H,.int .i64 p.d,.slice (some ⟨gP,0,none⟩) n ad] 27))
 obtain ⟨X6,a5⟩:=zX (w3.heap.size)
 have bp:Chg [] w3 w4:=by rw [aM];exact (zR [] w3).alloc _
 have bb:Box w4 X6 (.int .i64 p.W) (.int .i64 p.H) (.int .i64 p.d) (.slice (some ⟨gP,0,none⟩) n ad):=⟨by rw [aM,a5];exact Blk.new w3 _ _⟩
 have aq:Chg [] w1 w4:=(au.out.trans_same bH).trans_same bp
 have bL:∀ x∈gP::gs,w1.heap.size<=x/\x<X6:=fun x hx=>⟨by have:=aN x hx;have:=au.out.size;omega,by
  rw [a5]
  rcases zJ.1 hx with rfl | h1
  ·exact aj.ltP
  ·exact aj.pl.lt x h1⟩
 have am:=aj.same bp
 obtain ⟨a0,a1,a2,a3⟩:=(bo.out.same aq).cells
 rw [aM] at a0 a1 a2 a3
 have aG:=bb.blk.lt
 have bO:=hid aM
 have bS:=hid a5
 have aa:=hid aq
 have aw:=hid bL
 have bg:=hid am
 have b9:=hid bb
 have af:=hid aG
 clear aM a5 bp bb aq bL am bH aN aj aG
 go_wp2_with fail
 rw [<-bO.out,<-bS.out]
 go_loopg [7,8,9,10,11,12,32] N (fun j v7 v8 v9 v10 v11 v12 v32 wr=>∃ i:Nat,v32=.int .i64 i/\i+j=N/\Hid (PicOwn wr (midD p q i 0) gP ad xs gs)/\Hid (Chg gs w4 wr))
 case atStart=>exact ⟨0,rfl,by omega,hid (by unfold midD;rw [midPl_start];exact bg.out),hid (zR _ _)⟩
 case round =>
  obtain ⟨i,rfl,cs,HO,ay⟩:=hrel
  have aK:∀ x,x<w1.heap.size\/X6<=x->x∉gP::gs:=fun x hx hm=>by have:=aw.out x hm;omega
  have ai:=hid aK
  have bJ:=fun (E:List Nat) wz (hz:Chg E wr wz) (hE:∀ x,x<w1.heap.size\/x=X6->x∉E)=>And.intro
   ((((bo.out.same aa.out).chg ay.out (fun hm=>ai.out X2 (.inl (by have:=HX.out;omega)) (by simp [hm]))).chg hz (hE X2 (.inl (by have:=HX.out;omega)))))
   (And.intro ((((bY.out.same aa.out).chg ay.out (fun hm=>ai.out X4 (.inl (by have:=HX.out;omega)) (by simp [hm]))).chg hz (hE X4 (.inl (by have:=HX.out;omega)))))
   ((b9.out.chg ay.out (fun hm=>ai.out X6 (.inr (zQ _)) (by simp [hm]))).chg hz (hE X6 (.inr rfl))))
  have aH:=hid bJ
  clear bJ aK
  rcases gk with _ | j
  ·obtain rfl:i=N:=by omega
   have t1:decide ((i:Int)<(i:Int))=false:=by simp
   obtain ⟨h1,h2,h3⟩:=aH.out [] wr (zR _ _) (by simp)
   obtain ⟨a0,a1,a2,a3⟩:=h1.cells
   obtain ⟨b0,b1,b2,b3⟩:=h3.cells
   obtain ⟨z0,z1,z2,z3⟩:=h2.cells
   have f0:=h2.blk.frozen 0
   have f1:=h2.blk.frozen 1
   have f2:=h2.blk.frozen 2
   have f3:=h2.blk.frozen 3
   have HZ:=hid h2
   clear h1 h2 h3
   go_wp2_with fail
   refine pic_ret HZ.out ?_
   intro X hX hY
   obtain ⟨x0,x1,x2,x3⟩:=hX.cells
   refine bodyPost_ret (v:=.tuple #[.agg #[.int .i64 p.W,.int .i64 p.H,.int .i64 p.d,.slice (some ⟨gP,0,none⟩) n ad],.int .i64 0]) (by simp [results,Tryz.results13,go_sem,x0,x1,x2,x3]) rfl ?_
   have ho:=HO.out
   have e:=HN.out.2
   rw [e,midD_end a9.out HQ.out aC.out] at ho
   have ap:X4∉gP::gs:=ai.out X4 (.inl (by have:=HX.out;omega))
   refine ⟨gP,ad,xs,gs,rfl,ho.chg hY (by simp;exact fun e=>ap (by simp [e])) (fun x hx hm=>by simp at hm;subst hm;exact ap (by simp [hx])),?_,fun x hx=>by have:=aw.out x hx;have:=ak.out.size;omega⟩
   refine ((ak.out.trans_same aa.out).trans ay.out (fun x hx => .inr ?_)).trans hY (fun x hx => .inr ?_)
   ·have:=aw.out x (by simp [hx]);have:=ak.out.size;omega
   ·simp at hx
    have:=HX.out
    omega
  ·have hi:i<N:=by omega
   have t1:decide ((i:Int)<(N:Int))=true:=zB (by omega)
   obtain ⟨wo,rfl⟩:=zX (wr)
   obtain ⟨wr0,ae⟩:=zX (wo.alloc (.cells #[.int .i64 0,.int .i64 0,.int .i64 0,.int .i64 0] 86))
   obtain ⟨X8,aY⟩:=zX (wo.heap.size)
   have aU:Chg [] wo wr0:=by rw [ae];exact (zR [] wo).alloc _
   have bA:Blk wr0 X8 86 ((ptTo p.P i 0).map vi).toArray:=by rw [ae,aY];exact Blk.new wo _ _
   have aE:w4.heap.size<=X8:=by rw [aY];exact ay.out.size
   obtain ⟨h1,h2,h3⟩:=aH.out [] wr0 aU (by simp)
   obtain ⟨a0,a1,a2,a3⟩:=h1.cells
   have al:=HO.out.same aU
   rw [ae] at a0 a1 a2 a3
   have bX:=hid ae
   have bP:=hid aY
   have bv:=hid aU
   have ca:=hid bA
   have ac:=hid aE
   have bW:=hid al
   clear ae aY aU bA h1 h2 h3 aE al
   have bM:∀ wz,Chg [X8] wr0 wz->∀ j,j<n->∃ b q,wz.cell? ⟨g,o+j,none⟩=some (.slice (some ⟨b,q,none⟩) N (c j))/\wz.cell? ⟨b,q+i,none⟩=some (.int .i64 ((p.P.getD j []).getD i 0)):=by
    intro wz hz j hj
    have bz:Chg (X8::gs) w wz:=(((ak.out.trans_same aa.out).mono (F':=X8::gs) (by simp)).trans (ay.out.mono (F':=X8::gs) (by simp +contextual)) (fun x hx => .inl hx)).trans ((bv.out.mono (F':=X8::gs) (by simp)).trans (hz.mono (F':=X8::gs) (by simp +contextual)) (fun x hx => .inl hx)) (fun x hx => .inl hx)
    obtain ⟨b,q,e1,hb,e2⟩:=cb.out w (zR _ _) j hj
    have aF:∀ x∈G,x∉X8::gs:=fun x hx hm=>by
     have:=bh.out x hx
     rcases zJ.1 hm with rfl | hm
     ·have:=ac.out;have:=ak.out.size;have:=aa.out.size;omega
     ·have:=aw.out x (by simp [hm]);have:=ak.out.size;omega
    exact ⟨b,q,(World.cell?_of_block (w:=w) (bz.block g (bh.out g bC.out) (aF g bC.out))).trans e1,(World.cell?_of_block (w:=w) (bz.block b (bh.out b hb) (aF b hb))).trans (e2 i hi)⟩
   have bn:=hid bM
   clear bM
   go_wp2_with fail
   rw [<-bX.out,<-bP.out]
   go_loopg [9,10,38] n (fun j2 v9 v10 v38 wz=>∃ k2:Nat,v38=.int .i64 k2/\k2+j2=n/\Hid (Blk wz X8 86 ((ptTo p.P i k2).map vi).toArray)/\Hid (Chg [X8] wr0 wz))
   case atStart=>exact ⟨0,rfl,by omega,ca,hid (zR _ _)⟩
   case round =>
    obtain ⟨k2,rfl,cm,aS,bd⟩:=hrel
    rcases gk with _ | j2
    ·obtain rfl:k2=n:=by omega
     have t2:decide ((k2:Int)<(k2:Int))=false:=by simp
     have aJ:∀ x,x<w1.heap.size\/x=X6->x∉[X8]:=fun x hx hm=>by simp at hm;have:=ac.out;have:=af.out;have:=aa.out.size;omega
     have av:Chg [X8] wo wr:=(bv.out.mono (by simp)).trans bd.out (fun x hx => .inl hx)
     obtain ⟨h1,h2,h3⟩:=aH.out [X8] wr av aJ
     obtain ⟨a0,a1,a2,a3⟩:=h1.cells
     have ao:=aS.out
     rw [HN.out.1,ptTo_full] at ao
     obtain ⟨a,b,c',e',y0,y1,y2,y3,bI,an,hy⟩:=ce.out i wr hi
     rw [bI] at ao
     have k0:=ao.cell 0
     have k1:=ao.cell 1
     have aV:=ao.cell 2
     have k3:=ao.cell 3
     simp [vi] at k0 k1 aV k3
     have aL:=hid an
     have HY:=hid hy
     have a6:=hid ao
     have be:=hid av
     clear aJ av h1 h2 h3 ao bI an hy
     go_wp2_with fail
     refine aL.out.mono ?_
     rintro e w9 ⟨rfl,bk⟩
     have ag:=a6.out.chg bk (by simp)
     have k0:=ag.cell 0
     have k1:=ag.cell 1
     have aV:=ag.cell 2
     have k3:=ag.cell 3
     have f0:=ag.frozen 0
     have f1:=ag.frozen 1
     have f2:=ag.frozen 2
     have f3:=ag.frozen 3
     simp [vi] at k0 k1 aV k3
     obtain ⟨wB,aO⟩:=zX (((((w9.setCell ⟨X8,0,none⟩ (.int .i64 y0)).setCell ⟨X8,1,none⟩ (.int .i64 y1)).setCell ⟨X8,2,none⟩ (.int .i64 y2)).setCell ⟨X8,3,none⟩ (.int .i64 y3)))
     have bD:Blk wB X8 86 (([y0,y1,y2,y3]:List Int).map vi).toArray:=by
      rw [aO]
      have:=(((ag.set_ 0 (.int .i64 y0)).set_ 1 (.int .i64 y1)).set_ 2 (.int .i64 y2)).set_ 3 (.int .i64 y3)
      simpa [vi] using this
     have aW:Chg [X8] wo wB:=by
      have:=((((zR [X8] w9).setCell (p:=⟨X8,0,none⟩) (.inl (by simp)) (.int .i64 y0)).setCell (p:=⟨X8,1,none⟩) (.inl (by simp)) (.int .i64 y1)).setCell (p:=⟨X8,2,none⟩) (.inl (by simp)) (.int .i64 y2)).setCell (p:=⟨X8,3,none⟩) (.inl (by simp)) (.int .i64 y3)
      rw [aO]
      exact (be.out.trans_same (bk.mono (by simp))).trans_same this
     have aJ:∀ x,x<w1.heap.size\/x=X6->x∉[X8]:=fun x hx hm=>by simp at hm;have:=ac.out;have:=af.out;have:=aa.out.size;omega
     have ar:∀ x∈gP::gs,x∉[X8]:=fun x hx hm=>by simp at hm;have:=aw.out x hx;have:=ac.out;have:=af.out;omega
     obtain ⟨h1,h2,h3⟩:=aH.out [X8] wB aW aJ
     obtain ⟨b0,b1,b2,b3⟩:=h3.cells
     have aA:=HO.out.chg aW (ar gP (by simp)) (fun x hx=>ar x (by simp [hx]))
     have bT:=hid aO
     have bQ:=hid bD
     have bB:=hid aW
     have cd:=hid aA
     rw [aO] at b0 b1 b2 b3
     clear ag aO bD aW aA h1 h2 h3 aJ ar a0 a1 a2 a3 bk
     go_wp2_with fail
     rw [<-bT.out]
     clear b0 b1 b2 b3 k0 k1 aV k3 f0 f1 f2 f3
     go_loopg [11,12,58] k2 (fun j2 v11 v12 v58 wz=>∃ k3:Nat,v58=.int .i64 k3/\k3+j2=k2/\Hid (PicOwn wz (midD p q i k3) gP ad xs gs)/\Hid (Chg gs wB wz))
     case atStart=>exact ⟨0,rfl,by omega,cd,hid (zR _ _)⟩
     case round =>
      obtain ⟨k3,rfl,ch,aZ,ah⟩:=hrel
      have h8:X8∉gs:=fun hm=>by have:=aw.out X8 (by simp [hm]);have:=ac.out;have:=af.out;omega
      have bf:=bQ.out.chg ah.out h8
      rcases gk with _ | j3
      ·obtain rfl:k3=k2:=by omega
       have t3:decide ((k3:Int)<(k3:Int))=false:=by simp
       clear bf h8
       go_wp2_with fail
       go_roundg j
       case measure=>omega
       case rel =>
        refine ⟨i+1,by go_num,by omega,hid ?_,hid ?_⟩
        ·have:=aZ.out
         unfold midD at this ⊢
         rw [HN.out.1,midPl_row] at this
         exact this
        ·refine (ay.out.trans bB.out (fun x hx => .inr (by simp at hx;have:=ac.out;omega))).trans ah.out (fun x hx => .inl hx)
      ·have b5:k3<k2:=by omega
       have t3:decide ((k3:Int)<(k2:Int))=true:=zB (by omega)
       have aT:k3<(midD p q i k3).P.length:=by show _<(midPl _ _ _ _).length;rw [midPl_len,<-HN.out.1];exact b5
       obtain ⟨g3,c3,e1,e2,e3,e4⟩:=aZ.out.plane aT
       have bj:(midD p q i k3).W*(midD p q i k3).H=N:=HN.out.2.symm
       rw [bj] at e1 e3 e4
       have ax:((midD p q i k3).P.getD k3 []).length=N:=by rw [<-bj];exact (aZ.out.ok).len _ (getD_mem_or aT)
       obtain ⟨_,_,_,_,aI,bu⟩:=e3.open_map
       have b4:=bu i
       have bG:wr.cell? ⟨g3,i,none⟩=some (.int .i64 (((midD p q i k3).P.getD k3 []).getD i 0)):=by
        refine aI i _ ?_
        rw [zD (l:=(midD p q i k3).P.getD k3 []),zF (by rw [ax];exact hi)]
        rfl
       have cf:=bf.vi_cell (k:=k3) (by simp;omega)
       obtain ⟨h1,h2,bx⟩:=aH.out (X8::gs) wr ((bB.out.mono (by simp)).trans (ah.out.mono (by simp +contextual)) (fun x hx => .inl hx)) (fun x hx hm=>by
        rcases zJ.1 hm with e | hm
        ·have:=ac.out;have:=af.out;have:=aa.out.size;omega
        ·have:=aw.out x (by simp [hm]);omega)
       obtain ⟨b0,b1,b2,b3⟩:=bx.cells
       have bl:PicOwn (wr.setCell ⟨g3,i,none⟩ (.int .i64 ([y0,y1,y2,y3].getD k3 0))) (midD p q i (k3+1)) gP ad xs gs:=by
        refine aZ.out.sample e1 e2 aT e3 (by rw [ax];exact hi) (midD_ok a9.out HQ.out aC.out _ _) ?_
        rw [<-HY.out k3 (by have:=HN.out.1;omega)]
        exact (midPl_step (by have:=HN.out.1;omega) (by rw [a9.out.len _ (getD_mem_or (by have:=HN.out.1;omega)),<-HN.out.2];exact hi) (by rw [HQ.out.len _ (getD_mem_or (by have:=HN.out.1;have:=aC.out.n;omega)),<-aC.out.W,<-aC.out.H,<-HN.out.2];exact hi)).symm
       have bE:g3∈gs:=List.mem_of_getElem? e2
       have bm:Chg gs wB (wr.setCell ⟨g3,i,none⟩ (.int .i64 ([y0,y1,y2,y3].getD k3 0))):=ah.out.setCell (.inl bE) _
       obtain ⟨yv,bq⟩:=zX ([y0,y1,y2,y3].getD k3 0)
       rw [<-bq] at cf bl bm
       have cg:=hid bl
       have bZ:=hid bm
       clear bl bm bq h1 h2 bx bf h8 e1 e2 e3 bu aI bj ax bE aT
       go_wp2_with fail
       go_roundg j3
       case measure=>omega
       case rel=>exact ⟨k3+1,by go_num,by omega,cg,bZ⟩
    ·have bU:k2<n:=by omega
     have t2:decide ((k2:Int)<(n:Int))=true:=zB (by omega)
     obtain ⟨b,q',e1,e2⟩:=bn.out wr bd.out k2 bU
     have hf:=aS.out.frozen k2
     have co:=aS.out.vi_cell (k:=k2) (by rw [ptTo_len];omega)
     have aX:=aS.out.set_vi k2 ((p.P.getD k2 []).getD i 0)
     rw [ptTo_set p.P i (by omega)] at aX
     have bi:Chg [X8] wr0 (wr.setCell ⟨X8,k2,none⟩ (.int .i64 ((p.P.getD k2 []).getD i 0))):=bd.out.setCell (.inl (by simp)) _
     obtain ⟨v,hv⟩:=zX ((p.P.getD k2 []).getD i 0)
     rw [<-hv] at e2 aX bi
     have cj:=hid aX
     have ba:=hid bi
     clear aX bi hv
     go_wp2_with fail
     go_roundg j2
     case measure=>omega
     case rel=>exact ⟨k2+1,by go_num,by omega,cj,ba⟩
theorem hback_ok {w:World} {p:PicD} {g o:Nat} {B:Nat->Option Addr} {c:Nat->Nat} {G:List Nat} (cap:Nat) (h:PicAt w p g o B c G) (k:Nat) (k4:k<=4) (hm:mayH p.P.length k=true) :
  Calls Tryz.prog 103 #[picV p g o cap,.int .i64 k] w (TurnPost w (backH k p)):=by
 unfold TurnPost
 have ab:=h.ok
 have aP:∀ w',Chg [] w w'->_:=fun w' (hc':Chg [] w w')=>is_yes cap (h.same hc')
 have aQ:∀ w',Chg [] w w'->_:=fun w' (hc':Chg [] w w')=>copy_ok cap (h.same hc')
 have aR:=fun w'=>hmay_ok p.P.length k w' ab.n0 ab.n1 k4
 rw [hm] at aR
 obtain ⟨q,hq⟩:=zX (backH k p)
 have bF:q.Ok:=by rw [hq];exact backH_ok ab k
 have az:AlikeD p q:=by rw [hq];exact ⟨rfl,rfl,rfl,(turnPl_len _ _ _).symm⟩
 have a4:∀ i wz,i<p.W*p.H->∃ a b c e y0 y1 y2 y3,pt4 p.P i=[a,b,c,e]/\Calls Tryz.prog 136 #[.agg #[.int .i64 a,.int .i64 b,.int .i64 c,.int .i64 e],.int .i64 k,.int .i64 p.d] wz (fun en w'=>en=.returned (.agg #[.int .i64 y0,.int .i64 y1,.int .i64 y2,.int .i64 y3])/\Chg [] wz w')/\∀ j,j<p.P.length->(q.P.getD j []).getD i 0=[y0,y1,y2,y3].getD j 0:=by
  intro i wz hi
  obtain ⟨y0,y1,y2,y3,hy⟩:=list_four (backP_len k p.d ((p.P.getD 0 []).getD i 0) ((p.P.getD 1 []).getD i 0) ((p.P.getD 2 []).getD i 0) ((p.P.getD 3 []).getD i 0))
  have hc:=back_point k p.d _ _ _ _ wz ab.d0 ab.d1 k4 (pt4_in ab i 0) (pt4_in ab i 1) (pt4_in ab i 2) (pt4_in ab i 3)
  rw [hy] at hc
  refine ⟨_,_,_,_,y0,y1,y2,y3,pt4_eq _ _,hc,fun j hj => ?_⟩
  rw [hq,<-hy]
  exact turnPl_at hj hi
 obtain ⟨n,hn⟩:=zX (p.P.length)
 obtain ⟨N,hN⟩:=zX (p.W*p.H)
 have cq:n<=4:=by rw [hn];exact ab.n1
 have ck:N<=4096:=by rw [hN];exact ab.area
 have bs:∀ wz,Chg [] w wz->∀ j,j<n->∃ b q,wz.cell? ⟨g,o+j,none⟩=some (.slice (some ⟨b,q,none⟩) N (c j))/\b∈G/\∀ i,i<N->wz.cell? ⟨b,q+i,none⟩=some (.int .i64 ((p.P.getD j []).getD i 0)):=by
  intro wz hc j hj
  rw [hn] at hj
  obtain ⟨b,q,e,hb,cc⟩:=(h.same hc).at_ hj
  have aI:=(h.same hc).cell j hj
  rw [e,<-hN] at aI
  exact ⟨b,q,aI,hb,fun i hi=>cc i (by rw [<-hN];exact hi)⟩
 have bw:=h.gG
 have br:=h.lt
 rw [<-hN] at a4
 rw [<-hq]
 have bK:picV q=fun gP o' cap' => .agg #[.int .i64 p.W,.int .i64 p.H,.int .i64 p.d,.slice (some ⟨gP,o',none⟩) n cap']:=by
  funext gP o' cap'
  unfold picV
  rw [az.W,az.H,az.d,hn,az.n]
 rw [bK]
 unfold picV at aP aQ ⊢
 rw [<-hn] at aP aQ aR a4 ⊢
 obtain ⟨w1,aB⟩:=zX (((w.alloc (.cells #[.int .i64 p.W,.int .i64 p.H,.int .i64 p.d,.slice (some ⟨g,o,none⟩) n cap] 27)).alloc (.cells #[.int .i64 0,.int .i64 0,.int .i64 0,.slice none 0 0] 27)))
 obtain ⟨X2,aD⟩:=zX (w.heap.size)
 obtain ⟨X4,ap⟩:=zX (X2+1)
 have a7:Box w1 X2 (.int .i64 p.W) (.int .i64 p.H) (.int .i64 p.d) (.slice (some ⟨g,o,none⟩) n cap):=⟨by rw [aB,aD];exact (Blk.new w _ _).alloc _⟩
 have a8:Box w1 X4 (.int .i64 0) (.int .i64 0) (.int .i64 0) (.slice none 0 0):=⟨by rw [aB,ap,aD];exact Blk.new2 w _ _ _⟩
 have bN:Chg [] w w1:=by rw [aB];exact ((zR [] w).alloc _).alloc _
 have HX:Hid (X2=w.heap.size/\X4=X2+1/\X4<w1.heap.size):=hid ⟨aD,ap,a8.blk.lt⟩
 have cl:(p.W:Int)*(p.H:Int)=(N:Int):=by rw [hN];simp
 have cn:=ab.w1
 have cr:=ab.h1
 have cp:=ab.d1
 have HN:Hid (n=p.P.length/\N=p.W*p.H):=hid ⟨hn,hN⟩
 have b6:=hid aB
 have ak:=hid bN
 have bo:=hid a7
 have bY:=hid a8
 have bV:=hid aP
 have bR:=hid aQ
 have cb:=hid bs
 have ce:=hid a4
 have a9:=hid ab
 have HQ:=hid bF
 have aC:=hid az
 have bh:=hid br
 have bC:=hid bw
 have ci:=hid aD
 have b7:=hid ap
 obtain ⟨a0,a1,a2,a3⟩:=a7.cells
 clear aB bN a7 a8 aP ab h hm aD ap aQ bs a4 hn hN hq bF az bK br bw
 go_enter Tryz.func103,Tryz.ntmps103
 go_wp2_with fail
 rw [<-b6.out,<-ci.out,<-b7.out]
 refine (bV.out w1 ak.out).mono ?_
 rintro e w2 ⟨rfl,bc⟩
 obtain ⟨a0,a1,a2,a3⟩:=(bo.out.same bc).cells
 have au:=hid bc
 clear bc
 go_wp2_with fail
 refine (aR _).mono ?_
 rintro e w3 ⟨rfl,rfl⟩
 clear aR
 go_wp2_with fail
 refine (bR.out w2 (ak.out.trans_same au.out)).mono ?_
 rintro e w3 ⟨gP,ad,xs,gs,rfl,aj,bH,aN⟩
 obtain ⟨w4,aM⟩:=zX (w3.alloc (.cells #[.int .i64 p.W,.int .i64 p.H,.int .i64 p.d,.slice (some ⟨gP,0,none⟩) n ad] 27))
 obtain ⟨X6,a5⟩:=zX (w3.heap.size)
 have bp:Chg [] w3 w4:=by rw [aM];exact (zR [] w3).alloc _
 have bb:Box w4 X6 (.int .i64 p.W) (.int .i64 p.H) (.int .i64 p.d) (.slice (some ⟨gP,0,none⟩) n ad):=⟨by rw [aM,a5];exact Blk.new w3 _ _⟩
 have aq:Chg [] w1 w4:=(au.out.trans_same bH).trans_same bp
 have bL:∀ x∈gP::gs,w1.heap.size<=x/\x<X6:=fun x hx=>⟨by have:=aN x hx;have:=au.out.size;omega,by
  rw [a5]
  rcases zJ.1 hx with rfl | h1
  ·exact aj.ltP
  ·exact aj.pl.lt x h1⟩
 have am:=aj.same bp
 obtain ⟨a0,a1,a2,a3⟩:=(bo.out.same aq).cells
 rw [aM] at a0 a1 a2 a3
 have aG:=bb.blk.lt
 have bO:=hid aM
 have bS:=hid a5
 have aa:=hid aq
 have aw:=hid bL
 have bg:=hid am
 have b9:=hid bb
 have af:=hid aG
 clear aM a5 bp bb aq bL am bH aN aj aG
 go_wp2_with fail
 rw [<-bO.out,<-bS.out]
 go_loopg [7,8,9,10,11,12,32] N (fun j v7 v8 v9 v10 v11 v12 v32 wr=>∃ i:Nat,v32=.int .i64 i/\i+j=N/\Hid (PicOwn wr (midD p q i 0) gP ad xs gs)/\Hid (Chg gs w4 wr))
 case atStart=>exact ⟨0,rfl,by omega,hid (by unfold midD;rw [midPl_start];exact bg.out),hid (zR _ _)⟩
 case round =>
  obtain ⟨i,rfl,cs,HO,ay⟩:=hrel
  have aK:∀ x,x<w1.heap.size\/X6<=x->x∉gP::gs:=fun x hx hm=>by have:=aw.out x hm;omega
  have ai:=hid aK
  have bJ:=fun (E:List Nat) wz (hz:Chg E wr wz) (hE:∀ x,x<w1.heap.size\/x=X6->x∉E)=>And.intro
   ((((bo.out.same aa.out).chg ay.out (fun hm=>ai.out X2 (.inl (by have:=HX.out;omega)) (by simp [hm]))).chg hz (hE X2 (.inl (by have:=HX.out;omega)))))
   (And.intro ((((bY.out.same aa.out).chg ay.out (fun hm=>ai.out X4 (.inl (by have:=HX.out;omega)) (by simp [hm]))).chg hz (hE X4 (.inl (by have:=HX.out;omega)))))
   ((b9.out.chg ay.out (fun hm=>ai.out X6 (.inr (zQ _)) (by simp [hm]))).chg hz (hE X6 (.inr rfl))))
  have aH:=hid bJ
  clear bJ aK
  rcases gk with _ | j
  ·obtain rfl:i=N:=by omega
   have t1:decide ((i:Int)<(i:Int))=false:=by simp
   obtain ⟨h1,h2,h3⟩:=aH.out [] wr (zR _ _) (by simp)
   obtain ⟨a0,a1,a2,a3⟩:=h1.cells
   obtain ⟨b0,b1,b2,b3⟩:=h3.cells
   obtain ⟨z0,z1,z2,z3⟩:=h2.cells
   have f0:=h2.blk.frozen 0
   have f1:=h2.blk.frozen 1
   have f2:=h2.blk.frozen 2
   have f3:=h2.blk.frozen 3
   have HZ:=hid h2
   clear h1 h2 h3
   go_wp2_with fail
   refine pic_ret HZ.out ?_
   intro X hX hY
   obtain ⟨x0,x1,x2,x3⟩:=hX.cells
   refine bodyPost_ret (v:=.tuple #[.agg #[.int .i64 p.W,.int .i64 p.H,.int .i64 p.d,.slice (some ⟨gP,0,none⟩) n ad],.int .i64 0]) (by simp [results,Tryz.results103,go_sem,x0,x1,x2,x3]) rfl ?_
   have ho:=HO.out
   have e:=HN.out.2
   rw [e,midD_end a9.out HQ.out aC.out] at ho
   have ap:X4∉gP::gs:=ai.out X4 (.inl (by have:=HX.out;omega))
   refine ⟨gP,ad,xs,gs,rfl,ho.chg hY (by simp;exact fun e=>ap (by simp [e])) (fun x hx hm=>by simp at hm;subst hm;exact ap (by simp [hx])),?_,fun x hx=>by have:=aw.out x hx;have:=ak.out.size;omega⟩
   refine ((ak.out.trans_same aa.out).trans ay.out (fun x hx => .inr ?_)).trans hY (fun x hx => .inr ?_)
   ·have:=aw.out x (by simp [hx]);have:=ak.out.size;omega
   ·simp at hx
    have:=HX.out
    omega
  ·have hi:i<N:=by omega
   have t1:decide ((i:Int)<(N:Int))=true:=zB (by omega)
   obtain ⟨wo,rfl⟩:=zX (wr)
   obtain ⟨wr0,ae⟩:=zX (wo.alloc (.cells #[.int .i64 0,.int .i64 0,.int .i64 0,.int .i64 0] 86))
   obtain ⟨X8,aY⟩:=zX (wo.heap.size)
   have aU:Chg [] wo wr0:=by rw [ae];exact (zR [] wo).alloc _
   have bA:Blk wr0 X8 86 ((ptTo p.P i 0).map vi).toArray:=by rw [ae,aY];exact Blk.new wo _ _
   have aE:w4.heap.size<=X8:=by rw [aY];exact ay.out.size
   obtain ⟨h1,h2,h3⟩:=aH.out [] wr0 aU (by simp)
   obtain ⟨a0,a1,a2,a3⟩:=h1.cells
   have al:=HO.out.same aU
   rw [ae] at a0 a1 a2 a3
   have bX:=hid ae
   have bP:=hid aY
   have bv:=hid aU
   have ca:=hid bA
   have ac:=hid aE
   have bW:=hid al
   clear ae aY aU bA h1 h2 h3 aE al
   have bM:∀ wz,Chg [X8] wr0 wz->∀ j,j<n->∃ b q,wz.cell? ⟨g,o+j,none⟩=some (.slice (some ⟨b,q,none⟩) N (c j))/\wz.cell? ⟨b,q+i,none⟩=some (.int .i64 ((p.P.getD j []).getD i 0)):=by
    intro wz hz j hj
    have bz:Chg (X8::gs) w wz:=(((ak.out.trans_same aa.out).mono (F':=X8::gs) (by simp)).trans (ay.out.mono (F':=X8::gs) (by simp +contextual)) (fun x hx => .inl hx)).trans ((bv.out.mono (F':=X8::gs) (by simp)).trans (hz.mono (F':=X8::gs) (by simp +contextual)) (fun x hx => .inl hx)) (fun x hx => .inl hx)
    obtain ⟨b,q,e1,hb,e2⟩:=cb.out w (zR _ _) j hj
    have aF:∀ x∈G,x∉X8::gs:=fun x hx hm=>by
     have:=bh.out x hx
     rcases zJ.1 hm with rfl | hm
     ·have:=ac.out;have:=ak.out.size;have:=aa.out.size;omega
     ·have:=aw.out x (by simp [hm]);have:=ak.out.size;omega
    exact ⟨b,q,(World.cell?_of_block (w:=w) (bz.block g (bh.out g bC.out) (aF g bC.out))).trans e1,(World.cell?_of_block (w:=w) (bz.block b (bh.out b hb) (aF b hb))).trans (e2 i hi)⟩
   have bn:=hid bM
   clear bM
   go_wp2_with fail
   rw [<-bX.out,<-bP.out]
   go_loopg [9,10,38] n (fun j2 v9 v10 v38 wz=>∃ k2:Nat,v38=.int .i64 k2/\k2+j2=n/\Hid (Blk wz X8 86 ((ptTo p.P i k2).map vi).toArray)/\Hid (Chg [X8] wr0 wz))
   case atStart=>exact ⟨0,rfl,by omega,ca,hid (zR _ _)⟩
   case round =>
    obtain ⟨k2,rfl,cm,aS,bd⟩:=hrel
    rcases gk with _ | j2
    ·obtain rfl:k2=n:=by omega
     have t2:decide ((k2:Int)<(k2:Int))=false:=by simp
     have aJ:∀ x,x<w1.heap.size\/x=X6->x∉[X8]:=fun x hx hm=>by simp at hm;have:=ac.out;have:=af.out;have:=aa.out.size;omega
     have av:Chg [X8] wo wr:=(bv.out.mono (by simp)).trans bd.out (fun x hx => .inl hx)
     obtain ⟨h1,h2,h3⟩:=aH.out [X8] wr av aJ
     obtain ⟨a0,a1,a2,a3⟩:=h1.cells
     have ao:=aS.out
     rw [HN.out.1,ptTo_full] at ao
     obtain ⟨a,b,c',e',y0,y1,y2,y3,bI,an,hy⟩:=ce.out i wr hi
     rw [bI] at ao
     have k0:=ao.cell 0
     have k1:=ao.cell 1
     have aV:=ao.cell 2
     have k3:=ao.cell 3
     simp [vi] at k0 k1 aV k3
     have aL:=hid an
     have HY:=hid hy
     have a6:=hid ao
     have be:=hid av
     clear aJ av h1 h2 h3 ao bI an hy
     go_wp2_with fail
     refine aL.out.mono ?_
     rintro e w9 ⟨rfl,bk⟩
     have ag:=a6.out.chg bk (by simp)
     have k0:=ag.cell 0
     have k1:=ag.cell 1
     have aV:=ag.cell 2
     have k3:=ag.cell 3
     have f0:=ag.frozen 0
     have f1:=ag.frozen 1
     have f2:=ag.frozen 2
     have f3:=ag.frozen 3
     simp [vi] at k0 k1 aV k3
     obtain ⟨wB,aO⟩:=zX (((((w9.setCell ⟨X8,0,none⟩ (.int .i64 y0)).setCell ⟨X8,1,none⟩ (.int .i64 y1)).setCell ⟨X8,2,none⟩ (.int .i64 y2)).setCell ⟨X8,3,none⟩ (.int .i64 y3)))
     have bD:Blk wB X8 86 (([y0,y1,y2,y3]:List Int).map vi).toArray:=by
      rw [aO]
      have:=(((ag.set_ 0 (.int .i64 y0)).set_ 1 (.int .i64 y1)).set_ 2 (.int .i64 y2)).set_ 3 (.int .i64 y3)
      simpa [vi] using this
     have aW:Chg [X8] wo wB:=by
      have:=((((zR [X8] w9).setCell (p:=⟨X8,0,none⟩) (.inl (by simp)) (.int .i64 y0)).setCell (p:=⟨X8,1,none⟩) (.inl (by simp)) (.int .i64 y1)).setCell (p:=⟨X8,2,none⟩) (.inl (by simp)) (.int .i64 y2)).setCell (p:=⟨X8,3,none⟩) (.inl (by simp)) (.int .i64 y3)
      rw [aO]
      exact (be.out.trans_same (bk.mono (by simp))).trans_same this
     have aJ:∀ x,x<w1.heap.size\/x=X6->x∉[X8]:=fun x hx hm=>by simp at hm;have:=ac.out;have:=af.out;have:=aa.out.size;omega
     have ar:∀ x∈gP::gs,x∉[X8]:=fun x hx hm=>by simp at hm;have:=aw.out x hx;have:=ac.out;have:=af.out;omega
     obtain ⟨h1,h2,h3⟩:=aH.out [X8] wB aW aJ
     obtain ⟨b0,b1,b2,b3⟩:=h3.cells
     have aA:=HO.out.chg aW (ar gP (by simp)) (fun x hx=>ar x (by simp [hx]))
     have bT:=hid aO
     have bQ:=hid bD
     have bB:=hid aW
     have cd:=hid aA
     rw [aO] at b0 b1 b2 b3
     clear ag aO bD aW aA h1 h2 h3 aJ ar a0 a1 a2 a3 bk
     go_wp2_with fail
     rw [<-bT.out]
     clear b0 b1 b2 b3 k0 k1 aV k3 f0 f1 f2 f3
     go_loopg [11,12,58] k2 (fun j2 v11 v12 v58 wz=>∃ k3:Nat,v58=.int .i64 k3/\k3+j2=k2/\Hid (PicOwn wz (midD p q i k3) gP ad xs gs)/\Hid (Chg gs wB wz))
     case atStart=>exact ⟨0,rfl,by omega,cd,hid (zR _ _)⟩
     case round =>
      obtain ⟨k3,rfl,ch,aZ,ah⟩:=hrel
      have h8:X8∉gs:=fun hm=>by have:=aw.out X8 (by simp [hm]);have:=ac.out;have:=af.out;omega
      have bf:=bQ.out.chg ah.out h8
      rcases gk with _ | j3
      ·obtain rfl:k3=k2:=by omega
       have t3:decide ((k3:Int)<(k3:Int))=false:=by simp
       clear bf h8
       go_wp2_with fail
       go_roundg j
       case measure=>omega
       case rel =>
        refine ⟨i+1,by go_num,by omega,hid ?_,hid ?_⟩
        ·have:=aZ.out
         unfold midD at this ⊢
         rw [HN.out.1,midPl_row] at this
         exact this
        ·refine (ay.out.trans bB.out (fun x hx => .inr (by simp at hx;have:=ac.out;omega))).trans ah.out (fun x hx => .inl hx)
      ·have b5:k3<k2:=by omega
       have t3:decide ((k3:Int)<(k2:Int))=true:=zB (by omega)
       have aT:k3<(midD p q i k3).P.length:=by show _<(midPl _ _ _ _).length;rw [midPl_len,<-HN.out.1];exact b5
       obtain ⟨g3,c3,e1,e2,e3,e4⟩:=aZ.out.plane aT
       have bj:(midD p q i k3).W*(midD p q i k3).H=N:=HN.out.2.symm
       rw [bj] at e1 e3 e4
       have ax:((midD p q i k3).P.getD k3 []).length=N:=by rw [<-bj];exact (aZ.out.ok).len _ (getD_mem_or aT)
       obtain ⟨_,_,_,_,aI,bu⟩:=e3.open_map
       have b4:=bu i
       have bG:wr.cell? ⟨g3,i,none⟩=some (.int .i64 (((midD p q i k3).P.getD k3 []).getD i 0)):=by
        refine aI i _ ?_
        rw [zD (l:=(midD p q i k3).P.getD k3 []),zF (by rw [ax];exact hi)]
        rfl
       have cf:=bf.vi_cell (k:=k3) (by simp;omega)
       obtain ⟨h1,h2,bx⟩:=aH.out (X8::gs) wr ((bB.out.mono (by simp)).trans (ah.out.mono (by simp +contextual)) (fun x hx => .inl hx)) (fun x hx hm=>by
        rcases zJ.1 hm with e | hm
        ·have:=ac.out;have:=af.out;have:=aa.out.size;omega
        ·have:=aw.out x (by simp [hm]);omega)
       obtain ⟨b0,b1,b2,b3⟩:=bx.cells
       have bl:PicOwn (wr.setCell ⟨g3,i,none⟩ (.int .i64 ([y0,y1,y2,y3].getD k3 0))) (midD p q i (k3+1)) gP ad xs gs:=by
        refine aZ.out.sample e1 e2 aT e3 (by rw [ax];exact hi) (midD_ok a9.out HQ.out aC.out _ _) ?_
        rw [<-HY.out k3 (by have:=HN.out.1;omega)]
        exact (midPl_step (by have:=HN.out.1;omega) (by rw [a9.out.len _ (getD_mem_or (by have:=HN.out.1;omega)),<-HN.out.2];exact hi) (by rw [HQ.out.len _ (getD_mem_or (by have:=HN.out.1;have:=aC.out.n;omega)),<-aC.out.W,<-aC.out.H,<-HN.out.2];exact hi)).symm
       have bE:g3∈gs:=List.mem_of_getElem? e2
       have bm:Chg gs wB (wr.setCell ⟨g3,i,none⟩ (.int .i64 ([y0,y1,y2,y3].getD k3 0))):=ah.out.setCell (.inl bE) _
       obtain ⟨yv,bq⟩:=zX ([y0,y1,y2,y3].getD k3 0)
       rw [<-bq] at cf bl bm
       have cg:=hid bl
       have bZ:=hid bm
       clear bl bm bq h1 h2 bx bf h8 e1 e2 e3 bu aI bj ax bE aT
       go_wp2_with fail
       go_roundg j3
       case measure=>omega
       case rel=>exact ⟨k3+1,by go_num,by omega,cg,bZ⟩
    ·have bU:k2<n:=by omega
     have t2:decide ((k2:Int)<(n:Int))=true:=zB (by omega)
     obtain ⟨b,q',e1,e2⟩:=bn.out wr bd.out k2 bU
     have hf:=aS.out.frozen k2
     have co:=aS.out.vi_cell (k:=k2) (by rw [ptTo_len];omega)
     have aX:=aS.out.set_vi k2 ((p.P.getD k2 []).getD i 0)
     rw [ptTo_set p.P i (by omega)] at aX
     have bi:Chg [X8] wr0 (wr.setCell ⟨X8,k2,none⟩ (.int .i64 ((p.P.getD k2 []).getD i 0))):=bd.out.setCell (.inl (by simp)) _
     obtain ⟨v,hv⟩:=zX ((p.P.getD k2 []).getD i 0)
     rw [<-hv] at e2 aX bi
     have cj:=hid aX
     have ba:=hid bi
     clear aX bi hv
     go_wp2_with fail
     go_roundg j2
     case measure=>omega
     case rel=>exact ⟨k2+1,by go_num,by omega,cj,ba⟩
theorem hcost_ok {w:World} {p:PicD} {g o:Nat} {B:Nat->Option Addr} {c:Nat->Nat} {G:List Nat} (cap:Nat) (h:PicAt w p g o B c G) :
  Calls Tryz.prog 122 #[picV p g o cap] w fun e w'=>e=.returned (.int .i64 (costH p))/\Chg [] w w':=by
 have aa:=h.ok
 have ag:∀ w',Chg [] w w'->_:=fun w' (hc':Chg [] w w')=>is_yes cap (h.same hc')
 obtain ⟨n,hn⟩:=zX (p.P.length)
 obtain ⟨N,hN⟩:=zX (p.W*p.H)
 have bc:n<=4:=by rw [hn];exact aa.n1
 have aZ:N<=4096:=by rw [hN];exact aa.area
 have ay:∀ wz,Chg [] w wz->∀ j,j<n->∃ b q,wz.cell? ⟨g,o+j,none⟩=some (.slice (some ⟨b,q,none⟩) N (c j))/\∀ i,i<N->wz.cell? ⟨b,q+i,none⟩=some (.int .i64 ((p.P.getD j []).getD i 0)):=by
  intro wz hc j hj
  rw [hn] at hj
  obtain ⟨b,q,e,hb,aP⟩:=(h.same hc).at_ hj
  have af:=(h.same hc).cell j hj
  rw [e,<-hN] at af
  exact ⟨b,q,af,fun i hi=>aP i (by rw [<-hN];exact hi)⟩
 have aF:∀ v wz,_:=fun v wz=>fold_ok v p.d wz aa.d0 aa.d1
 have aA:∀ v,_:=fun v=>fold_b v aa.d0 aa.d1
 have aq:=fun k=>hcTo_le aa k
 have ax:=fun l k=>hcPl_le l p.W aa.d0 aa.d1 k
 have aC:∀ j i,In4 p.d ((p.P.getD j []).getD i 0):=fun j i=>pt4_in aa i j
 obtain ⟨aU,a9⟩:=pow_d aa.d0 aa.d1
 unfold picV at ag ⊢
 rw [<-hn] at ag ⊢
 have af:costH p=hcTo p n:=by rw [hn];rfl
 rw [af]
 obtain ⟨w1,ah⟩:=zX (w.alloc (.cells #[.int .i64 p.W,.int .i64 p.H,.int .i64 p.d,.slice (some ⟨g,o,none⟩) n cap] 27))
 obtain ⟨X,hX⟩:=zX (w.heap.size)
 have ai:Box w1 X (.int .i64 p.W) (.int .i64 p.H) (.int .i64 p.d) (.slice (some ⟨g,o,none⟩) n cap):=⟨by rw [ah,hX];exact Blk.new w _ _⟩
 have aE:Chg [] w w1:=by rw [ah];exact (zR [] w).alloc _
 have a6:=aa.w0
 have aY:=aa.w1
 have ba:=aa.d1
 have HN:Hid (n=p.P.length/\N=p.W*p.H):=hid ⟨hn,hN⟩
 have aO:=hid ah
 have aL:=hid hX
 have aB:=hid aE
 have aN:=hid ai
 have aQ:=hid ag
 have aR:=hid ay
 have aw:=hid aF
 have aD:=hid aA
 have aH:=hid aq
 have aI:=hid ax
 have av:=hid aC
 obtain ⟨a0,a1,a2,a3⟩:=ai.cells
 clear ah aE ai ag aa h hX ay hn hN aF aA aq ax af aC
 go_enter Tryz.func122,Tryz.ntmps122
 go_wp2_with fail
 rw [<-aO.out,<-aL.out]
 refine (aQ.out w1 aB.out).mono ?_
 rintro e w2 ⟨rfl,al⟩
 obtain ⟨a0,a1,a2,a3⟩:=(aN.out.same al).cells
 have ad:=hid (aB.out.trans_same al)
 clear al
 go_wp2_with fail
 go_loopg [3,5,6,7,8,9,16,20,21,22] n (fun j v3 v5 v6 v7 v8 v9 v16 v20 v21 v22 wr=>∃ k:Nat,v16=.int .i64 k/\k+j=n/\v3=.int .i64 (hcTo p k:Int)/\w2=wr)
 case atStart=>exact ⟨0,rfl,by omega,rfl,rfl⟩
 case round =>
  obtain ⟨k,rfl,be,rfl,rfl⟩:=hrel
  rcases gk with _ | j
  ·obtain rfl:k=n:=by omega
   have t1:decide ((k:Int)<(k:Int))=false:=by simp
   go_wp2_with fail
   go_ret
   exact ⟨rfl,ad.out⟩
  ·have hk:k<n:=by omega
   have t1:decide ((k:Int)<(n:Int))=true:=zB (by omega)
   obtain ⟨b,q,e1,e2⟩:=aR.out w2 ad.out k hk
   have az:=hid e2
   have au:=aH.out k
   obtain ⟨T,hT⟩:=zX (hcTo p k)
   rw [<-hT] at au ⊢
   have HT:=hid hT
   have aW:T<=600000000:=by omega
   clear e2 au hT
   go_wp2_with fail
   go_loopg [3,6,7,8,9,22] N (fun j2 v3 v6 v7 v8 v9 v22 wr=>∃ i:Nat,v22=.int .i64 i/\i+j2=N/\v3=.int .i64 ((T+hcPl (p.P.getD k []) p.W p.d i:Nat):Int)/\w2=wr)
   case atStart=>exact ⟨0,rfl,by omega,rfl,rfl⟩
   case round =>
    obtain ⟨i,rfl,bd,rfl,rfl⟩:=hrel
    rcases gk with _ | j2
    ·obtain rfl:i=N:=by omega
     have t2:decide ((i:Int)<(i:Int))=false:=by simp
     go_wp2_with fail
     go_roundg j
     case measure=>omega
     case rel=>exact ⟨k+1,by go_num,by omega,by rw [hcTo_succ,<-HT.out,<-HN.out.2],rfl⟩
    ·have hi:i<N:=by omega
     have t2:decide ((i:Int)<(N:Int))=true:=zB (by omega)
     have e2:=az.out i hi
     obtain ⟨l,hl⟩:=zX (p.P.getD k [])
     have ab:=hcPl_succ l p.W p.d i
     have am:=aI.out l i
     obtain ⟨v,hv⟩:=zX (l.getD i 0)
     have ak:=av.out k i
     rw [<-hl] at e2 ak ⊢
     rw [<-hv] at e2 ab ak
     obtain ⟨bf,aT⟩:=ak
     obtain ⟨x,hx⟩:=zX (i%p.W)
     have aJ:(i:Int)%(p.W:Int)=(x:Int):=by rw [hx];simp
     have a4:(i:Int).tmod (p.W:Int)=(x:Int):=by rw [Int.tmod_eq_emod_of_nonneg (by omega)];exact aJ
     have aG:(p.W:Int)≠0:=by omega
     have aV:x<p.W:=by rw [hx];exact Nat.mod_lt _ (by omega)
     obtain ⟨S,hS⟩:=zX (hcPl l p.W p.d i)
     rw [<-hS,<-hx] at ab
     rw [<-hS] at am ⊢
     have a5:S<=200000000:=by omega
     have an:=hid hl
     by_cases h0:x=0
     ·have t3:decide (0<x)=false:=zA (by omega)
      rw [if_pos h0] at ab
      have hf:=fun wz=>aw.out (v-0) wz
      obtain ⟨f0,f1⟩:=aD.out (v-0)
      obtain ⟨f,ae⟩:=zX (foldI (v-0) p.d)
      rw [<-ae] at ab hf f0 f1
      rw [show v-0=v by omega] at hf
      have ap:(if f < -f then -f else f)=(f.natAbs:Int):=by split<;>omega
      have ac:(if -f<f then f else -f)=(f.natAbs:Int):=by split<;>omega
      obtain ⟨A,hA⟩:=zX (f.natAbs)
      rw [<-hA] at ab ap ac
      have aK:A<=32768:=by omega
      have aj:=hid ab
      clear ab am ae hS hx hl hv h0 hA
      go_wp2_with (go_at_call 84;refine (hf _).mono ?_;rintro e w' ⟨rfl,rfl⟩)
      go_roundg j2
      case measure=>omega
      case rel=>exact ⟨i+1,by go_num,by omega,by rw [<-an.out,aj.out,<-Nat.add_assoc,Int.natCast_add (T+S) A];go_num,rfl⟩
     ·have t3:decide (0<x)=true:=zB (by omega)
      rw [if_neg h0] at ab
      have aS:0<i:=by
       rcases Nat.eq_zero_or_pos i with h1 | h1
       ·exfalso;rw [h1,Nat.zero_mod] at hx;exact h0 hx
       ·exact h1
      obtain ⟨i1,ar⟩:∃ i1,i=i1+1:=⟨i-1,by omega⟩
      have e3:=az.out i1 (by omega)
      rw [show q+i1=q+(i-1) by omega] at e3
      have ao:=av.out k i1
      rw [show i-1=i1 by omega] at ab
      obtain ⟨u,hu⟩:=zX (l.getD i1 0)
      rw [<-an.out] at e3 ao
      rw [<-hu] at e3 ab ao
      obtain ⟨a7,aX⟩:=ao
      have a8:0<=(i:Int)-1:=by omega
      have aM:i1<N:=by omega
      have hf:=fun wz=>aw.out (v-u) wz
      obtain ⟨f0,f1⟩:=aD.out (v-u)
      obtain ⟨f,ae⟩:=zX (foldI (v-u) p.d)
      rw [<-ae] at ab hf f0 f1
      have ap:(if f < -f then -f else f)=(f.natAbs:Int):=by split<;>omega
      have ac:(if -f<f then f else -f)=(f.natAbs:Int):=by split<;>omega
      obtain ⟨A,hA⟩:=zX (f.natAbs)
      rw [<-hA] at ab ap ac
      have aK:A<=32768:=by omega
      have aj:=hid ab
      have bb:=hid ar
      clear ab am ae hS hx hl hv h0 hA hu ar
      go_wp2_with (go_at_call 84;refine (hf _).mono ?_;rintro e w' ⟨rfl,rfl⟩)
      go_roundg j2
      case measure=>omega
      case rel=>exact ⟨i+1,by go_num,by omega,by rw [<-an.out,aj.out,<-Nat.add_assoc,Int.natCast_add (T+S) A];go_num,rfl⟩
theorem hbest_ok {w:World} {p:PicD} {g o:Nat} {B:Nat->Option Addr} {c:Nat->Nat} {G:List Nat} (cap:Nat) (h:PicAt w p g o B c G) :
  Calls Tryz.prog 90 #[picV p g o cap] w fun e w'=>e=.returned (.int .i64 (bestH p 4))/\Chg [] w w':=by
 have ak:=h.ok
 have af:∀ w' k,Chg [] w w'->k<=4->mayH p.P.length k=true->_:=fun w' k (hc':Chg [] w w') k4 hm=>hfore_ok cap (h.same hc') k k4 hm
 have av:∀ w' k,Chg [] w w'->k<=4->mayH p.P.length k=false->_:=fun w' k (hc':Chg [] w w') k4 hm=>hfore_bad cap (h.same hc') k k4 hm
 have aq:=bestH_may ak 0
 have aD:=fun k=>hcTo_le (foreH_ok ak k) (foreH k p).P.length
 have az:∀ k,(foreH k p).P.length=p.P.length:=fun k=>turnPl_len _ _ _
 have aS:=ak.n1
 have aE:∀ k,costH (foreH k p)<=536870912:=fun k=>by
  have h1:=aD k
  have h2:=az k
  unfold costH
  rw [h2] at h1 ⊢
  omega
 unfold TurnPost at af
 unfold picV zPic at *
 have ao:∀ k gP cP,(.agg #[.int .i64 ((foreH k p).W:Int),.int .i64 ((foreH k p).H:Int),.int .i64 ((foreH k p).d:Int),.slice (some ⟨gP,0,none⟩) (foreH k p).P.length cP]:Value)=.agg #[.int .i64 p.W,.int .i64 p.H,.int .i64 p.d,.slice (some ⟨gP,0,none⟩) p.P.length cP]:=fun k gP cP=>by rw [az];rfl
 have ar:∀ {wz:World} {k gP cP:Nat} {xs:List Value} {gs:List Nat},PicOwn wz (foreH k p) gP cP xs gs->Calls Tryz.prog 122 #[.agg #[.int .i64 p.W,.int .i64 p.H,.int .i64 p.d,.slice (some ⟨gP,0,none⟩) p.P.length cP]] wz fun e w'=>e=.returned (.int .i64 (costH (foreH k p)))/\Chg [] wz w':=fun {wz k gP cP xs gs} aa=>by
  have h1:=hcost_ok cP aa.at_
  unfold picV at h1
  rw [ao] at h1
  exact h1
 simp only [ao] at af
 obtain ⟨n,hn⟩:=zX (p.P.length)
 simp only [<-hn] at af av ar aq ⊢
 obtain ⟨w1,ag⟩:=zX (w.alloc (.cells #[.int .i64 p.W,.int .i64 p.H,.int .i64 p.d,.slice (some ⟨g,o,none⟩) n cap] 27))
 obtain ⟨X,hX⟩:=zX (w.heap.size)
 have an:Box w1 X (.int .i64 p.W) (.int .i64 p.H) (.int .i64 p.d) (.slice (some ⟨g,o,none⟩) n cap):=⟨by rw [ag,hX];exact Blk.new w _ _⟩
 have aG:Chg [] w w1:=by rw [ag];exact (zR [] w).alloc _
 have aH:∀ m,bestH p (m+1)=if mayH n (m+1)=true/\costH (foreH (m+1) p)<costH (foreH (bestH p m) p) then m+1 else bestH p m:=fun m=>by rw [hn];rfl
 have aN:=hid ag
 have aK:=hid hX
 have aw:=hid aG
 have aL:=hid an
 have aI:=hid af
 have aQ:=hid av
 have aA:=hid (fun wz k gP cP xs gs (h:PicOwn wz (foreH k p) gP cP xs gs)=>ar h)
 have aJ:=hid aq
 have aF:=hid aE
 have ah:=hid aH
 have aO:=hid (bestH_le p)
 obtain ⟨a0,a1,a2,a3⟩:=an.cells
 clear ag aG an ak h hX hn af av ar aq aD az aE ao aH
 go_enter Tryz.func90,Tryz.ntmps90
 go_wp2_with fail
 rw [<-aN.out,<-aK.out]
 go_loopg [3,4,5,6,7,8,9,10] 5 (fun j v3 v4 v5 v6 v7 v8 v9 v10 wr=>∃ k:Nat,v10=.int .i64 k/\k+j=5/\((k=0/\v3=.int .i64 0/\v4=.int .i64 0/\v5=.bool false)\/∃ m,k=m+1/\v3=.int .i64 (bestH p m:Int)/\v4=.int .i64 (costH (foreH (bestH p m) p):Int)/\v5=.bool true)/\Hid (Chg [] w1 wr))
 case atStart=>exact ⟨0,rfl,rfl,.inl ⟨rfl,rfl,rfl,rfl⟩,hid (zR _ _)⟩
 case round =>
  obtain ⟨k,rfl,aT,ap,ae⟩:=hrel
  rcases gk with _ | j
  ·obtain rfl:k=5:=by omega
   rcases ap with ⟨h0,_⟩ | ⟨m,hm,rfl,rfl,rfl⟩
   ·omega
   ·obtain rfl:m=4:=by omega
    go_wp2_with fail
    go_ret
    exact ⟨rfl,aw.out.trans_same ae.out⟩
  ·have t1:decide ((k:Int)<5)=true:=zB (by omega)
   obtain ⟨a0,a1,a2,a3⟩:=(aL.out.same ae.out).cells
   have aC:k<=4:=by omega
   cases hmk:mayH n k with
   | false =>
    have hf:=aQ.out wr k (aw.out.trans_same ae.out) aC hmk
    rcases ap with ⟨h0,_⟩ | ⟨m,hm,rfl,rfl,rfl⟩
    ·subst h0;have:=aJ.out;simp only [bestH] at this;rw [this] at hmk;cases hmk
    ·have HM:=hid hm
     clear hm
     go_wp2_with fail
     refine hf.mono ?_
     rintro e w2 ⟨rfl,ac⟩
     go_wp2_with fail
     go_roundg j
     case measure=>omega
     case rel =>
      refine ⟨k+1,by go_num,by omega,.inr ⟨m+1,by rw [<-HM.out],?_,?_,rfl⟩,hid ((ae.out.trans_same ac).alloc _)⟩
      ·rw [ah.out,<-HM.out,hmk,if_neg (by simp)]
      ·rw [ah.out,<-HM.out,hmk,if_neg (by simp)]
   | true =>
    have hf:=aI.out wr k (aw.out.trans_same ae.out) aC hmk
    have hA:=aF.out k
    obtain ⟨A,au⟩:=zX (costH (foreH k p))
    rw [<-au] at hA
    have HA:=hid au
    clear au
    rcases ap with ⟨h0,rfl,rfl,rfl⟩ | ⟨m,hm,rfl,rfl,rfl⟩
    ·have HM:=hid h0
     clear h0
     go_wp2_with fail
     refine hf.mono ?_
     rintro e w2 ⟨gP,cP,xs,gs,rfl,aa,ac,-⟩
     obtain ⟨w3,ad⟩:=zX (w2.alloc (.cells #[.int .i64 p.W,.int .i64 p.H,.int .i64 p.d,.slice (some ⟨gP,0,none⟩) n cP] 27))
     have ab:Chg [] w2 w3:=by rw [ad];exact (zR [] w2).alloc _
     have hc:=aA.out w3 k gP cP xs gs (aa.same ab)
     rw [<-HA.out] at hc
     have al:=hid ad
     have am:=hid ((ae.out.trans_same ac).trans_same ab)
     clear hf aa ac ab ad
     go_wp2_with fail
     rw [<-al.out]
     refine hc.mono ?_
     rintro e w4 ⟨rfl,aj⟩
     go_wp2_with fail
     go_roundg j
     case measure=>omega
     case rel=>exact ⟨k+1,by go_num,by omega,.inr ⟨0,by rw [HM.out],by rw [HM.out];rfl,by rw [HA.out,HM.out];rfl,rfl⟩,hid (am.out.trans_same aj)⟩
    ·have aR:=aF.out (bestH p m)
     obtain ⟨Bm,ay⟩:=zX (costH (foreH (bestH p m) p))
     obtain ⟨Km,ai⟩:=zX (bestH p m)
     rw [<-ay] at aR ⊢
     rw [<-ai]
     have aM:=aO.out m
     rw [<-ai] at aM
     have ax:=hid ay
     have aP:=hid ai
     have HM:=hid hm
     clear ay ai hm
     go_wp2_with fail
     refine hf.mono ?_
     rintro e w2 ⟨gP,cP,xs,gs,rfl,aa,ac,-⟩
     obtain ⟨w3,ad⟩:=zX (w2.alloc (.cells #[.int .i64 p.W,.int .i64 p.H,.int .i64 p.d,.slice (some ⟨gP,0,none⟩) n cP] 27))
     have ab:Chg [] w2 w3:=by rw [ad];exact (zR [] w2).alloc _
     have hc:=aA.out w3 k gP cP xs gs (aa.same ab)
     rw [<-HA.out] at hc
     have al:=hid ad
     have am:=hid ((ae.out.trans_same ac).trans_same ab)
     clear hf aa ac ab ad
     go_wp2_with fail
     rw [<-al.out]
     refine hc.mono ?_
     rintro e w4 ⟨rfl,aj⟩
     have aB:=hid (am.out.trans_same aj)
     clear hc aj
     by_cases hlt:A<Bm
     ·have t2:decide (A<Bm)=true:=zB hlt
      have e:bestH p (m+1)=k:=by
       have e:=ah.out m
       rw [e,<-HM.out,hmk,<-HA.out,<-ax.out,if_pos ⟨rfl,hlt⟩]
      have HE:=hid e
      clear e hlt
      go_wp2_with fail
      go_roundg j
      case measure=>omega
      case rel=>exact ⟨k+1,by go_num,by omega,.inr ⟨m+1,by rw [<-HM.out],by rw [HE.out],by rw [HE.out,HA.out],rfl⟩,aB⟩
     ·have t2:decide (A<Bm)=false:=zA hlt
      have e:bestH p (m+1)=bestH p m:=by
       have e:=ah.out m
       rw [e,<-HM.out,hmk,<-HA.out,<-ax.out,if_neg (fun h=>hlt h.2)]
      have HE:=hid e
      clear e hlt
      go_wp2_with fail
      go_roundg j
      case measure=>omega
      case rel=>exact ⟨k+1,by go_num,by omega,.inr ⟨m+1,by rw [<-HM.out],by rw [HE.out,aP.out],by rw [HE.out,ax.out],rfl⟩,aB⟩
end Go.Proofs.YtepjepkgcdfboaaGreatDoor
