/- package move by its contracts: Encode. -/
import Derived.Test.YtijpbkakncglgaaGreatDoorMg44
set_option linter.unusedVariables false
set_option linter.unusedSimpArgs false
set_option maxHeartbeats 4000000
set_option maxRecDepth 100000
namespace Go.Proofs.YtijpbkakncglgaaGreatDoor
open Go.RowKit
theorem two_elem:Elem Tryz.prog 34 55 (.agg #[.int .i64 0,.int .i64 0]) 2 16:=.mk' Tryz.underlying34 (by kernel_rfl)
def BestMs (p q:PicD) (ss:List Sq) (ms:List (Int × Int)) (i:Nat):Prop:=∀ k,k<i→∃ c,BestM p q (sqAt ss k) (fun _=>True) (ms.getD k (0,0)).1 (ms.getD k (0,0)).2 c
theorem BestMs.snoc {p q:PicD} {ss:List Sq} {ms:List (Int × Int)} {i:Nat} (h:BestMs p q ss ms i) (hl:ms.length=i) {dx dy:Int} {c:Nat} (hb:BestM p q (sqAt ss i) (fun _=>True) dx dy c):BestMs p q ss (ms++[(dx,dy)]) (i+1):=fun k hk=>by
 rcases Nat.lt_or_ge k i with h1 | h1
 ·obtain ⟨c',h2⟩:=h k h1
  refine ⟨c',?_⟩
  have e:(ms++[(dx,dy)]).getD k (0,0)=ms.getD k (0,0):=by
   rw [zD,zD,List.getElem?_append_left (by omega)]
  rw [e]
  exact h2
 ·obtain rfl:k=i:=by omega
  have e:(ms++[(dx,dy)]).getD k (0,0)=(dx,dy):=by
   rw [zD,←hl]
   simp
  rw [e]
  exact ⟨c,hb⟩
def EncPost (w:World) (p q:PicD) (e:Ending) (w':World):Prop :=
 ∃ v G9 ms,e=.returned (.tuple #[v,.int .i64 0])∧Own w' 5 v G9 ((mvBytes p q ms).map b8)∧ms.length=(gridL q.W q.H 8).length∧BestMs p q (gridL q.W q.H 8) ms (gridL q.W q.H 8).length∧Chg [] w w'∧(∀ x∈G9,w.heap.size≤x)∧MvBits p q ms
theorem encode_ok {w:World} {p q:PicD} {g o:Nat} {B:Nat→Option Addr} {c:Nat→Nat} {G:List Nat} (cap:Nat) (h:PicAt w p g o B c G)
  {g' o':Nat} {B':Nat→Option Addr} {c':Nat→Nat} {G':List Nat} (cap':Nat) (h':PicAt w q g' o' B' c' G') (ha:AlikeD p q) (hp:Pts w) :
  Calls Tryz.prog 7 #[picV p g o cap,picV q g' o' cap'] w (EncPost w p q):=by
 have hok:=h.ok
 have hok':=h'.ok
 have hal:=fun w' (hc:Chg [] w w')=>alike_yes cap (h.same hc) cap' (h'.same hc) ha
 have hgr:=fun w'=>mgrid_ok hok' g' o' cap' w'
 unfold EncPost
 obtain ⟨ss,hss⟩:∃ ss,ss=gridL q.W q.H 8:=⟨_,rfl⟩
 have hsin:∀ s∈ss,SqIn p.W p.H s:=fun s hs=>by
  rw [hss] at hs
  obtain ⟨a,b⟩:=grid_in (by decide) s hs
  exact ⟨by rw [ha.W];exact a,by rw [ha.H];exact b⟩
 have hn4:ss.length≤4096:=by rw [hss];exact grid8_len hok'.w1 hok'.h1
 have hby:=fun w' (hc:Chg [] w w') AM capM ms hM hml hmo=>by_ok cap (h.same hc) cap' (h'.same hc) ha (hp.same hc) AM capM ms hM hml hmo
 rw [←hss] at hgr ⊢
 simp only [←hss] at hby
 obtain ⟨n,hn⟩:∃ n,n=ss.length:=⟨_,rfl⟩
 have hse:∀ w',Chg [] w w'→∀ i,i<n→_:=fun w' hc i hi=>search_ok cap (h.same hc) cap' (h'.same hc) ha (sqAt ss i) (hsin _ (sqAt_mem (by omega)))
 unfold picV sqV at hse
 unfold picV at hal hgr hby ⊢
 obtain ⟨w1,hw1⟩:∃ w1,w1=((w.alloc (.cells #[.int .i64 p.W,.int .i64 p.H,.int .i64 p.d,.slice (some ⟨g,o,none⟩) p.P.length cap] 25)).alloc (.cells #[.int .i64 q.W,.int .i64 q.H,.int .i64 q.d,.slice (some ⟨g',o',none⟩) q.P.length cap'] 25)):=⟨_,rfl⟩
 have hb1:Blk w1 w.heap.size 25 #[.int .i64 p.W,.int .i64 p.H,.int .i64 p.d,.slice (some ⟨g,o,none⟩) p.P.length cap]:=by rw [hw1];exact (Blk.new w _ _).alloc _
 have hb2:Blk w1 (w.heap.size+1) 25 #[.int .i64 q.W,.int .i64 q.H,.int .i64 q.d,.slice (some ⟨g',o',none⟩) q.P.length cap']:=by rw [hw1];exact Blk.new2 w _ _ _
 have hC1:Chg [] w w1:=by rw [hw1];exact ((Chg.refl [] w).alloc _).alloc _
 have hbox:=fun wz (hc:Chg [] w1 wz)=>And.intro (And.intro ((hb1.chg hc (by simp)).cell 0) (And.intro ((hb1.chg hc (by simp)).cell 1) (And.intro ((hb1.chg hc (by simp)).cell 2) ((hb1.chg hc (by simp)).cell 3)))) (And.intro ((hb2.chg hc (by simp)).cell 0) (And.intro ((hb2.chg hc (by simp)).cell 1) (And.intro ((hb2.chg hc (by simp)).cell 2) ((hb2.chg hc (by simp)).cell 3))))
 have HW1:=hid hw1
 have HC1:=hid hC1
 have HAL:=hid hal
 have HGR:=hid hgr
 have HN:=hid hn
 have HBOX:=hid hbox
 have HBY:=hid hby
 have HSE:=hid hse
 have hn41:n≤4096:=by omega
 clear hal hgr hb1 hb2 hw1 hC1 hsin hok hok' h h' ha hp hn hss hn4 hbox hby hse
 go_enter Tryz.func7,Tryz.ntmps7
 go_wp2_with fail
 rw [←HW1.out]
 refine (HAL.out w1 HC1.out).mono ?_
 rintro e w2 ⟨rfl,ch2⟩
 obtain ⟨⟨a0,a1,a2,a3⟩,⟨b0,b1,b2,b3⟩⟩:=HBOX.out w2 ch2
 have HCH2:=hid ch2
 clear ch2
 go_wp2_with fail
 refine (HGR.out w2).mono ?_
 rintro e w3 ⟨v8,F8,rfl,hsq,ch3,hF8⟩
 obtain ⟨A8,c8,rfl,h81,h82,hc8,-⟩:=OwnK.open_ hsq
 have HCH3:=hid (HCH2.out.trans_same ch3)
 have HC8:=hid hc8
 rw [←HN.out]
 clear hsq ch3 hF8 hc8 a0 a1 a2 a3 b0 b1 b2 b3
 go_wp2_with fail
 go_loopg [6,8,9,10,11,19] n (fun j v6 v8 v9 v10 v11 v19 wr=>∃ (i:Nat) (ms:List (Int × Int)) (F:List Nat),v19=.int .i64 i∧i+j=n∧Hid (OwnK wr 55 2 v6 F i (ms.flatMap mvCells))∧Hid (ms.length=i)∧Hid (BestMs p q ss ms i)∧Hid (Chg [] w3 wr)∧Hid (∀ x∈F,w3.heap.size≤x))
 case atStart=>exact ⟨0,[],[],rfl,by omega,hid (OwnK.nil _ _ _),hid rfl,hid (fun k hk=>by omega),hid (Chg.refl _ _),hid (by simp)⟩
 case round =>
  obtain ⟨i,ms,F,rfl,hij,HO,HML,HB,HCH,HF⟩:=hrel
  obtain ⟨⟨a0,a1,a2,a3⟩,⟨b0,b1,b2,b3⟩⟩:=HBOX.out wr (HCH3.out.trans_same HCH.out)
  rcases gk with _ | j
  ·obtain rfl:i=n:=by omega
   have t1:decide (i<i)=false:=by simp
   obtain ⟨AM,cM,rfl,hm1,hm2,hcM,-⟩:=HO.out.open_
   have hby:=HBY.out wr ((HC1.out.trans_same HCH3.out).trans_same HCH.out) AM cM ms hcM (by rw [HML.out];exact HN.out) (fun k hk=>by
    obtain ⟨c,hb⟩:=HB.out k (by rw [←HML.out];exact hk)
    exact hb.ok)
   rw [HML.out] at hby
   have HBYY:=hid hby
   clear hby hm1 hm2 hcM
   go_wp2_with fail
   refine HBYY.out.mono ?_
   rintro e w9 ⟨v9,G9,rfl,hown9,ch9,hG9,hmb9⟩
   go_wp2
   refine bodyPost_ret (v:=.tuple #[v9,.int .i64 0]) (by simp [results,Tryz.results7,go_sem]) rfl ?_
   refine ⟨v9,G9,ms,rfl,hown9,by rw [HML.out];exact HN.out,by rw [←HN.out];exact HB.out,((HC1.out.trans_same HCH3.out).trans_same HCH.out).trans_same ch9,fun x hx => ?_,hmb9⟩
   have h1:=hG9 x hx
   have h2:=((HC1.out.trans_same HCH3.out).trans_same HCH.out).size
   omega
  ·have hi:i<n:=by omega
   have t1:decide (i<n)=true:=zB hi
   have hil:i<ss.length:=by rw [←HN.out];exact hi
   obtain ⟨g8,o8,hA8,x0,x1,x2,x3⟩:=sq_cell (HC8.out.same HCH.out) hil
   subst hA8
   have hbx:=HBOX.out _ (((HCH3.out.trans_same HCH.out)).alloc (.cells #[.int .i64 ((sqAt ss i).x:Int),.int .i64 ((sqAt ss i).y:Int),.int .i64 ((sqAt ss i).w:Int),.int .i64 ((sqAt ss i).h:Int)] 45))
   obtain ⟨⟨c0,c1,c2,c3⟩,⟨d0,d1,d2,d3⟩⟩:=hbx
   have hse:=HSE.out _ ((((HC1.out.trans_same HCH3.out).trans_same HCH.out)).alloc (.cells #[.int .i64 ((sqAt ss i).x:Int),.int .i64 ((sqAt ss i).y:Int),.int .i64 ((sqAt ss i).w:Int),.int .i64 ((sqAt ss i).h:Int)] 45)) i hi
   unfold SearchPost at hse
   have HSEE:=hid hse
   clear hse hil
   go_wp2_with fail
   refine HSEE.out.mono ?_
   rintro e w5 ⟨dx,dy,cc,rfl,hb,ch5⟩
   have HCH5:=hid ((HCH.out.alloc (.cells #[.int .i64 ((sqAt ss i).x:Int),.int .i64 ((sqAt ss i).y:Int),.int .i64 ((sqAt ss i).w:Int),.int .i64 ((sqAt ss i).h:Int)] 45)).trans_same ch5)
   have hown:=((HO.out.same ((Chg.refl [] wr).alloc (.cells #[.int .i64 ((sqAt ss i).x:Int),.int .i64 ((sqAt ss i).y:Int),.int .i64 ((sqAt ss i).w:Int),.int .i64 ((sqAt ss i).h:Int)] 45))).same ch5).same ((Chg.refl [] w5).alloc (.cells #[.int .i64 dx,.int .i64 dy] 55))
   have hblk:=Blk.new w5 55 #[.int .i64 dx,.int .i64 dy]
   have HBS:=hid (HB.out.snoc HML.out hb)
   clear hb ch5 a0 a1 a2 a3 b0 b1 b2 b3 c0 c1 c2 c3 d0 d1 d2 d3 x0 x1 x2 x3
   go_wp2_with (at_builtin;refine wpList_append_k1 rfl rfl two_elem rfl (by decide) rfl hown [.int .i64 dx,.int .i64 dy] rfl rfl ?c1 ?c2 ?c3 ?c4 ?_)
   case c1 =>
    intro q u hq
    match q,hq with
    | 0,hq=>rw [←hq];exact hblk.cell 0
    | 1,hq=>rw [←hq];exact hblk.cell 1
    | q+2,hq=>simp at hq
   case c2=>intro u hu;simp at hu;rcases hu with rfl | rfl<;>rfl
   case c3=>omega
   case c4=>omega
   intro g9 cap9 w9 hown9 hgr9
   have HO9:=hid hown9
   have HC9:Hid (Chg [] w3 w9):=hid ((HCH5.out.alloc _).trans hgr9.chg (fun x hx => .inr (HF.out x hx)))
   have hnew:Hid (∀ x∈[g9],w3.heap.size≤x):=hid (fun x hx=>by
    rcases hgr9.new x hx with h | h
    ·exact HF.out x h
    ·have:=HCH5.out.size;rw [alloc_size] at h;omega)
   clear hown9 hgr9 hown hblk
   go_wp2_with fail
   go_roundg j
   case measure=>omega
   case rel =>
    refine ⟨i+1,ms++[(dx,dy)],[g9],by go_num,by omega,hid ?_,hid (by rw [zC,HML.out];rfl),HBS,HC9,hnew⟩
    rw [List.flatMap_append]
    exact HO9.out
def MSearchPost (w:World) (p q:PicD) (x y:Nat) (e:Ending) (w':World):Prop :=
 ∃ (dx dy:Int) (c:Nat) (s:Sq),e=.returned (.tuple #[.int .i64 dx,.int .i64 dy,.int .i64 c])∧s∈gridL q.W q.H 8∧s.x=x∧s.y=y∧BestM p q s (fun _=>True) dx dy c∧Chg [] w w'
theorem msearch_ok {w:World} {p q:PicD} {g o:Nat} {B:Nat→Option Addr} {c:Nat→Nat} {G:List Nat} (cap:Nat) (h:PicAt w p g o B c G)
  {g' o':Nat} {B':Nat→Option Addr} {c':Nat→Nat} {G':List Nat} (cap':Nat) (h':PicAt w q g' o' B' c' G') (ha:AlikeD p q) (k0:Nat) (hk0:k0<(gridL q.W q.H 8).length) (x y:Nat) (hx:(sqAt (gridL q.W q.H 8) k0).x=x) (hy:(sqAt (gridL q.W q.H 8) k0).y=y) :
  Calls Tryz.prog 21 #[picV p g o cap,picV q g' o' cap',.int .i64 x,.int .i64 y] w (MSearchPost w p q x y):=by
 have hok:=h.ok
 have hok':=h'.ok
 have hal:=fun w' (hc:Chg [] w w')=>alike_yes cap (h.same hc) cap' (h'.same hc) ha
 have hgr:=fun w'=>mgrid_ok hok' g' o' cap' w'
 unfold MSearchPost
 obtain ⟨ss,hss⟩:∃ ss,ss=gridL q.W q.H 8:=⟨_,rfl⟩
 have hsin:∀ s∈ss,SqIn p.W p.H s:=fun s hs=>by
  rw [hss] at hs
  obtain ⟨a,b⟩:=grid_in (by decide) s hs
  exact ⟨by rw [ha.W];exact a,by rw [ha.H];exact b⟩
 have hn4:ss.length≤4096:=by rw [hss];exact grid8_len hok'.w1 hok'.h1
 rw [←hss] at hgr hk0 hx hy ⊢
 obtain ⟨n,hn⟩:∃ n,n=ss.length:=⟨_,rfl⟩
 have hse:∀ w',Chg [] w w'→∀ i,i<n→_:=fun w' hc i hi=>search_ok cap (h.same hc) cap' (h'.same hc) ha (sqAt ss i) (hsin _ (sqAt_mem (by omega)))
 unfold picV sqV at hse
 unfold picV at hal hgr ⊢
 obtain ⟨w1,hw1⟩:∃ w1,w1=((w.alloc (.cells #[.int .i64 p.W,.int .i64 p.H,.int .i64 p.d,.slice (some ⟨g,o,none⟩) p.P.length cap] 25)).alloc (.cells #[.int .i64 q.W,.int .i64 q.H,.int .i64 q.d,.slice (some ⟨g',o',none⟩) q.P.length cap'] 25)):=⟨_,rfl⟩
 have hb1:Blk w1 w.heap.size 25 #[.int .i64 p.W,.int .i64 p.H,.int .i64 p.d,.slice (some ⟨g,o,none⟩) p.P.length cap]:=by rw [hw1];exact (Blk.new w _ _).alloc _
 have hb2:Blk w1 (w.heap.size+1) 25 #[.int .i64 q.W,.int .i64 q.H,.int .i64 q.d,.slice (some ⟨g',o',none⟩) q.P.length cap']:=by rw [hw1];exact Blk.new2 w _ _ _
 have hC1:Chg [] w w1:=by rw [hw1];exact ((Chg.refl [] w).alloc _).alloc _
 have hbox:=fun wz (hc:Chg [] w1 wz)=>And.intro (And.intro ((hb1.chg hc (by simp)).cell 0) (And.intro ((hb1.chg hc (by simp)).cell 1) (And.intro ((hb1.chg hc (by simp)).cell 2) ((hb1.chg hc (by simp)).cell 3)))) (And.intro ((hb2.chg hc (by simp)).cell 0) (And.intro ((hb2.chg hc (by simp)).cell 1) (And.intro ((hb2.chg hc (by simp)).cell 2) ((hb2.chg hc (by simp)).cell 3))))
 have HW1:=hid hw1
 have HC1:=hid hC1
 have HAL:=hid hal
 have HGR:=hid hgr
 have HN:=hid hn
 have HBOX:=hid hbox
 have HSE:=hid hse
 have hn41:n≤4096:=by omega
 have hx4:x≤64:=by have h1:=(hsin _ (sqAt_mem hk0)).x;have h2:=hok.w1;omega
 have hy4:y≤64:=by have h1:=(hsin _ (sqAt_mem hk0)).y;have h2:=hok.h1;omega
 have hxb:∀ k,k<n→(sqAt ss k).x≤64∧(sqAt ss k).y≤64:=fun k hk=>by have h1:=(hsin _ (sqAt_mem (i:=k) (ss:=ss) (by omega))).x;have h2:=hok.w1;have h3:=(hsin _ (sqAt_mem (i:=k) (ss:=ss) (by omega))).y;have h4:=hok.h1;omega
 have HXB:=hid hxb
 have HK0:=hid (And.intro hk0 (And.intro hx hy))
 clear hxb hk0 hx hy
 clear hal hgr hb1 hb2 hw1 hC1 hsin hok hok' h h' ha hn hss hn4 hbox hse
 go_enter Tryz.func21,Tryz.ntmps21
 go_wp2_with fail
 rw [←HW1.out]
 refine (HAL.out w1 HC1.out).mono ?_
 rintro e w2 ⟨rfl,ch2⟩
 obtain ⟨⟨a0,a1,a2,a3⟩,⟨b0,b1,b2,b3⟩⟩:=HBOX.out w2 ch2
 have HCH2:=hid ch2
 clear ch2
 go_wp2_with fail
 refine (HGR.out w2).mono ?_
 rintro e w3 ⟨v8,F8,rfl,hsq,ch3,hF8⟩
 obtain ⟨A8,c8,rfl,h81,h82,hc8,-⟩:=OwnK.open_ hsq
 have HCH3:=hid (HCH2.out.trans_same ch3)
 have HC8:=hid hc8
 rw [←HN.out]
 clear hsq ch3 hF8 hc8 a0 a1 a2 a3 b0 b1 b2 b3
 go_wp2_with fail
 go_loopg [8,9,10,12,20] n (fun j v8 v9 v10 v12 v20 wr=>∃ i:Nat,v20=.int .i64 i∧i+j=n∧i≤k0∧Hid (Chg [] w3 wr))
 case atStart=>exact ⟨0,rfl,by omega,Nat.zero_le _,hid (Chg.refl _ _)⟩
 case round =>
  obtain ⟨i,rfl,hij,hik,HCH⟩:=hrel
  obtain ⟨⟨a0,a1,a2,a3⟩,⟨b0,b1,b2,b3⟩⟩:=HBOX.out wr (HCH3.out.trans_same HCH.out)
  rcases gk with _ | j
  ·exfalso
   have:=HK0.out.1
   have:=HN.out
   omega
  ·have hi:i<n:=by omega
   have t1:decide (i<n)=true:=zB hi
   have hil:i<ss.length:=by rw [←HN.out];exact hi
   obtain ⟨g8,o8,hA8,x0,x1,x2,x3⟩:=sq_cell (HC8.out.same HCH.out) hil
   subst hA8
   have hbx:=HBOX.out _ (((HCH3.out.trans_same HCH.out)).alloc (.cells #[.int .i64 ((sqAt ss i).x:Int),.int .i64 ((sqAt ss i).y:Int),.int .i64 ((sqAt ss i).w:Int),.int .i64 ((sqAt ss i).h:Int)] 45))
   obtain ⟨⟨c0,c1,c2,c3⟩,⟨d0,d1,d2,d3⟩⟩:=hbx
   have hse:=HSE.out _ ((((HC1.out.trans_same HCH3.out).trans_same HCH.out)).alloc (.cells #[.int .i64 ((sqAt ss i).x:Int),.int .i64 ((sqAt ss i).y:Int),.int .i64 ((sqAt ss i).w:Int),.int .i64 ((sqAt ss i).h:Int)] 45)) i hi
   unfold SearchPost at hse
   have HSEE:=hid hse
   obtain ⟨bx,by_⟩:=HXB.out i hi
   clear hse
   by_cases hm:(sqAt ss i).x=x∧(sqAt ss i).y=y
   ·have t2:(((sqAt ss i).x:Int)==(x:Int))=true:=by rw [beq_iff_eq];omega
    have t3:(((sqAt ss i).y:Int)==(y:Int))=true:=by rw [beq_iff_eq];omega
    have HMM:=hid hm
    have HIL:=hid hil
    clear hm hil
    go_wp2_with fail
    refine HSEE.out.mono ?_
    rintro e w5 ⟨dx,dy,cc,rfl,hb,ch5⟩
    go_wp2
    refine bodyPost_ret (v:=.tuple #[.int .i64 dx,.int .i64 dy,.int .i64 cc]) (by simp [results,Tryz.results21,go_sem]) rfl ?_
    exact ⟨dx,dy,cc,sqAt ss i,rfl,sqAt_mem HIL.out,HMM.out.1,HMM.out.2,hb,((((HC1.out.trans_same HCH3.out).trans_same HCH.out)).alloc _).trans_same ch5⟩
   ·have hlt:i<k0:=by
     rcases Nat.lt_or_ge i k0 with h1 | h1
     ·exact h1
     ·exfalso
      obtain rfl:i=k0:=by omega
      exact hm ⟨HK0.out.2.1,HK0.out.2.2⟩
    have tall:(((sqAt ss i).x:Int)==(x:Int))=false∨((((sqAt ss i).x:Int)==(x:Int))=true∧(((sqAt ss i).y:Int)==(y:Int))=false):=by
     by_cases q1:(sqAt ss i).x=x
     ·right
      exact ⟨by rw [beq_iff_eq];omega,by rw [beq_eq_false_iff_ne];intro q2;exact hm ⟨q1,by omega⟩⟩
     ·left
      rw [beq_eq_false_iff_ne]
      omega
    clear hm hil
    rcases tall with t2 | ⟨t2,t3⟩
    all_goals
     go_wp2_with fail
     go_roundg j
     case measure=>omega
     case rel=>exact ⟨i+1,by go_num,by omega,by omega,hid (HCH.out.alloc _)⟩
def pA:PicD:=⟨3,1,4,[[7,0,0]]⟩
def pB:PicD:=⟨3,1,4,[[0,7,0]]⟩
theorem lit_ok (l:List Int) (h:l.length=3) (hs:SmpOk 4 l):PicD.Ok ⟨3,1,4,[l]⟩ where
 w0:=by simp
 w1:=by simp
 h0:=by simp
 h1:=by simp
 d0:=by simp
 d1:=by simp
 n0:=by simp
 n1:=by simp
 len:=fun x hx=>by simp at hx;subst hx;exact h
 smp:=fun x hx=>by simp at hx;subst hx;exact hs
theorem pA_ok:pA.Ok:=lit_ok _ rfl (fun v hv=>by simp at hv;rcases hv with rfl | rfl | rfl<;>decide)
theorem pB_ok:pB.Ok:=lit_ok _ rfl (fun v hv=>by simp at hv;rcases hv with rfl | rfl | rfl<;>decide)
theorem pAB:AlikeD pA pB:=⟨rfl,rfl,rfl,rfl⟩
theorem pAA:AlikeD pA pA:=⟨rfl,rfl,rfl,rfl⟩
theorem grid_lit:gridL 3 1 8=[⟨0,0,3,1⟩]:=by rfl
theorem mv_lit {m:Int × Int} (h:mvOk 3 1 ⟨0,0,3,1⟩ m):m=(0,0):=by
 obtain ⟨a,b⟩:=m
 obtain ⟨_,_,_,_,h1,h2,h3,h4⟩:=h
 simp only at h1 h2 h3 h4
 have e1:a=0:=by omega
 have e2:b=0:=by omega
 rw [e1,e2]
theorem ms_lit {p q:PicD} (hp1:p.W=3) (hp2:p.H=1) (hq1:q.W=3) (hq2:q.H=1) {ms:List (Int × Int)} (hl:ms.length=(gridL q.W q.H 8).length) (hb:BestMs p q (gridL q.W q.H 8) ms (gridL q.W q.H 8).length):ms=[(0,0)]:=by
 rw [hq1,hq2,grid_lit] at hl hb
 obtain ⟨c,h⟩:=hb 0 (by simp)
 have h1:=h.ok
 rw [hp1,hp2] at h1
 have h2:=mv_lit h1
 match ms,hl with
 | [m],_=>rw [show ([m]:List (Int × Int)).getD 0 (0,0)=m from rfl] at h2;rw [show m=(m.1,m.2) from rfl,h2]
theorem best_ok {p q:PicD} {ms:List (Int × Int)} (hl:ms.length=(gridL q.W q.H 8).length) (hb:BestMs p q (gridL q.W q.H 8) ms (gridL q.W q.H 8).length):∀ i,i<ms.length→mvOk p.W p.H (sqAt (gridL q.W q.H 8) i) (ms.getD i (0,0)):=fun i hi=>by
 obtain ⟨c,h⟩:=hb i (by omega)
 exact h.ok
theorem body_AA:mvBody pA pA [(0,0)]=[0]:=by kernel_rfl
theorem cost_AB:costB pA pB ⟨0,0,3,1⟩ (0,0)=14:=by kernel_rfl
theorem sums_AB:picSum pA≠picSum pB:=by decide +kernel
theorem sum_other {body:List Nat} (hb:∀ d∈body,d<256):sumL pA body≠sumL pB body:=fun h=>by
 unfold sumL at h
 have hlt:∀ p:PicD,p.Ok→∀ d∈body++big4 (picSum p),d<256:=fun p hp d hd=>by
  rcases List.mem_append.1 hd with h1 | h1
  ·exact hb d h1
  ·exact big4_lt _ d h1
 have h1:=big4_inj (crcN_lt (hlt pA pA_ok)) (crcN_lt (hlt pB pB_ok)) h
 have h2:big4 (picSum pA)=big4 (picSum pB):=by
  have k:=crc_last hb (Nat.mod_lt _ (by decide)) (Nat.mod_lt _ (by decide)) (Nat.mod_lt _ (by decide)) (Nat.mod_lt _ (by decide)) (Nat.mod_lt _ (by decide)) (Nat.mod_lt _ (by decide)) (Nat.mod_lt _ (by decide)) (Nat.mod_lt _ (by decide)) h1
  unfold big4
  rw [k.1,k.2.1,k.2.2.1,k.2.2.2]
 exact sums_AB (big4_inj (picSum_lt pA_ok) (picSum_lt pB_ok) h2)
theorem body_bounds {p q:PicD} (hq:q.Ok) {ms:List (Int × Int)} (hbit:MvBits p q ms):0<(mvBody p q ms).length∧(mvBody p q ms).length≤1000000000∧∀ d∈mvBody p q ms,d<256:=by
 have hs8:∀ s∈gridL q.W q.H 8,1≤s.w∧s.w≤8∧1≤s.h∧s.h≤8:=grid_ok (by decide)
 have hn4:=grid8_len hq.w1 hq.h1
 have hbl:=moveBits_len p q (ss:=gridL q.W q.H 8) ms hs8 hq.d0 hq.d1 hq.n1 _ (Nat.le_refl _)
 have hbp:=moveBits_pos p q (gridL q.W q.H 8) ms (gridL q.W q.H 8).length
 have hn0:0<(gridL q.W q.H 8).length:=by
  rcases Nat.eq_zero_or_pos (gridL q.W q.H 8).length with h0 | h0
  ·exfalso
   have h1:=area_grid (w:=q.W) (h:=q.H) (s:=8) (by decide)
   rw [List.eq_nil_of_length_eq_zero h0] at h1
   have h2:=hq.pos
   simp [area] at h1
   omega
  ·exact h0
 have hlen:(mvBody p q ms).length=((moveBits p q (gridL q.W q.H 8) ms (gridL q.W q.H 8).length).length+7) / 8:=by
  unfold mvBody
  rw [packed_len,padF_len]
  omega
 refine ⟨by omega,by omega,?_⟩
 unfold mvBody
 exact packed_dig (mem_padF hbit)
theorem lit_at {w:World} {s t:Nat} {l:List Int} (hl:l.length=3) (hok:PicD.Ok ⟨3,1,4,[l]⟩) (h1:Blk w s 3 (l.map vi).toArray) (h2:Blk w t 22 #[.slice (some ⟨s,0,none⟩) 3 3]) :
  PicAt w ⟨3,1,4,[l]⟩ t 0 (fun _=>some ⟨s,0,none⟩) (fun _=>3) [s,t] where
 ok:=hok
 gG:=by simp
 lt:=fun x hx=>by simp at hx;rcases hx with rfl | rfl;exact h1.lt;exact h2.lt
 cell:=fun i hi=>by
  simp at hi
  subst hi
  exact h2.cell 0
 cells:=fun i hi=>by
  simp at hi
  subst hi
  refine ⟨fun _=>⟨s,0,rfl,h1.lt,fun k a hk => ?_⟩⟩
  rw [Nat.zero_add,h1.cell k]
  have hk':l[k]?=some a:=by simpa using hk
  simp [hk']
 blk:=fun i hi ad e=>by injection e with e;subst e;simp
 cap:=fun i hi=>by simp
theorem own_row {w:World} {e:TypeId} {v:Value} {F:List Nat} {ys:List Value} {N:Nat} (h:Own w e v F ys) (hl:ys.length=N) (h0:0<N):∃ g c,v=.slice (some ⟨g,0,none⟩) N c∧Row w e (.slice (some ⟨g,0,none⟩) N c) g ys∧F=[g]:=by
 rcases h.cases with ⟨_,he,_⟩ | ⟨g,hr,hF⟩
 ·rw [he] at hl
  simp at hl
  omega
 ·have hr2:=hr
  obtain ⟨c,rfl,_⟩:=hr.open_
  rw [hl] at hr2 ⊢
  exact ⟨g,c,rfl,hr2,hF⟩
theorem copy24_ok {w:World} {p:PicD} {g o:Nat} {B:Nat→Option Addr} {c:Nat→Nat} {G:List Nat} (cap:Nat) (h:PicAt w p g o B c G) :
  Calls Tryz.prog 17 #[picV p g o cap] w fun e w'=>∃ (gP capP:Nat) (xs:List Value) (gs:List Nat),e=.returned (picV p gP 0 capP)∧PicOwn w' p gP capP xs gs∧Chg [] w w'∧∀ x∈gP::gs,w.heap.size≤x:=by
 have hok:=h.ok
 unfold picV
 obtain ⟨W,hW⟩:∃ W,W=p.W:=⟨_,rfl⟩
 obtain ⟨H,hH⟩:∃ H,H=p.H:=⟨_,rfl⟩
 obtain ⟨d,hd⟩:∃ d,d=p.d:=⟨_,rfl⟩
 obtain ⟨n,hn⟩:∃ n,n=p.P.length:=⟨_,rfl⟩
 obtain ⟨N,hN⟩:∃ N,N=W*H:=⟨_,rfl⟩
 rw [←hW,←hH,←hd,←hn]
 have hn4:n≤4:=by rw [hn];exact hok.n1
 have hn0:1≤n:=by rw [hn];exact hok.n0
 have hcl:∀ w',Chg [] w w'→∀ i,i<n→∃ b q,w'.cell? ⟨g,o+i,none⟩=some (.slice (some ⟨b,q,none⟩) N (c i))∧∀ w1,Chg [] w w1→Cells (fun u=>u) w1 (some ⟨b,q,none⟩) ((p.P.getD i []).map vi):=by
  intro w' hc i hi
  rw [hn] at hi
  obtain ⟨b,q,e,hb,hk⟩:=h.at_ hi
  have hce:=(h.same hc).cell i hi
  rw [e,←hW,←hH,←hN] at hce
  refine ⟨b,q,hce,fun w1 hc1 => ?_⟩
  have hcells:=(h.same hc1).cells i hi
  rw [e] at hcells
  refine ⟨fun h0 => ?_⟩
  obtain ⟨b,o,e1,e2,e3⟩:=hcells.ex (by simpa using h0)
  refine ⟨b,o,e1,e2,fun i a ha => ?_⟩
  rw [List.getElem?_map] at ha
  obtain ⟨x,hx,rfl⟩:=Option.map_eq_some_iff.1 ha
  exact e3 i x hx
 have hlen:∀ i,i<n→(p.P.getD i []).length=N:=fun i hi=>by rw [hN,hW,hH];exact h.len (by rw [←hn];exact hi)
 have hN0:0<N:=by rw [hN,hW,hH];exact hok.pos
 have hN4:N≤4096:=by rw [hN,hW,hH];exact hok.area
 have hbx:∀ (cs:Array Value),Blk ((w.alloc (.cells #[.int .i64 W,.int .i64 H,.int .i64 d,.slice (some ⟨g,o,none⟩) n cap] 25)).alloc (.cells cs 25)) w.heap.size 25 #[.int .i64 W,.int .i64 H,.int .i64 d,.slice (some ⟨g,o,none⟩) n cap]:=fun cs=>(Blk.new w _ _).alloc _
 obtain ⟨wA,hwA⟩:∃ wA,wA=((w.alloc (.cells #[.int .i64 W,.int .i64 H,.int .i64 d,.slice (some ⟨g,o,none⟩) n cap] 25)).alloc (.cells #[.int .i64 0,.int .i64 0,.int .i64 0,.slice none 0 0] 25)):=⟨_,rfl⟩
 have chA:Chg [] w wA:=by rw [hwA];exact ((Chg.refl [] w).alloc _).alloc _
 obtain ⟨w1,hw1⟩:∃ w1,w1=wA.alloc (.cells #[.int .i64 W,.int .i64 H,.int .i64 d,.slice none 0 0] 25):=⟨_,rfl⟩
 obtain ⟨rb,hrb⟩:∃ rb,rb=w.heap.size+1:=⟨_,rfl⟩
 obtain ⟨cb,hcb⟩:∃ cb,cb=rb+1:=⟨_,rfl⟩
 have hszA:wA.heap.size=cb:=by rw [hwA,alloc_size,alloc_size,hcb,hrb]
 have hst:CpSt [] wA W H d cb w1 (.slice none 0 0) [] [] [] []:=by
  refine ⟨by rw [hw1,←hszA];exact Blk.new wA _ _,Own.nil _ _,PlRows.nil _,by simp,by simp,by simp,?_,by simp,by rw [hw1];exact (Chg.refl [] wA).alloc _⟩
  intro x hx
  simp at hx
  omega
 have hbxA:Blk wA w.heap.size 25 #[.int .i64 W,.int .i64 H,.int .i64 d,.slice (some ⟨g,o,none⟩) n cap]:=by rw [hwA];exact hbx _
 have hrbk:Blk wA rb 25 #[.int .i64 0,.int .i64 0,.int .i64 0,.slice none 0 0]:=by rw [hwA,hrb];exact Blk.new2 w _ _ _
 rw [hwA] at hw1
 have HP:Hid (p.P.length=n):=hid hn.symm
 have HEQ:Hid (p=⟨W,H,d,p.P⟩):=hid (by rw [hW,hH,hd])
 have HOK:=hid hok
 have HW1:=hid hw1
 have HRB:=hid hrb
 have HCB:=hid hcb
 have HRK:=hid hrbk
 have HST:=hid hst
 have HCA:=hid chA
 have HSA:=hid hszA
 have HCL:=hid hcl
 have HLEN:=hid hlen
 have HGL:=hid (h.lt g h.gG)
 have HBX:=hid hbxA
 have hne:rb≠cb:=by omega
 clear hW hH hd hn hN hok hw1 chA hcl h hst hrbk hwA hrb hcb hszA hlen hbx hbxA
 go_enter Tryz.func17,Tryz.ntmps17
 go_wp2_with fail
 rw [←HW1.out,←HRB.out,←HCB.out]
 go_loopg [4] n (fun j v16 wr=>∃ (i:Nat) (vP:Value) (F:List Nat) (xs:List Value) (gs:List Nat),v16=.int .i64 i∧i+j=n∧Hid (CpSt [] wA W H d cb wr vP F xs (p.P.take i) gs))
 case atStart=>exact ⟨0,_,[],[],[],rfl,by omega,hid (by simpa using HST.out)⟩
 case round =>
  obtain ⟨i,vP,F,xs,gs,rfl,hij,HS⟩:=hrel
  rcases gk with _ | j
  ·obtain rfl:i=n:=by omega
   have t1:decide (i<i)=false:=by simp
   have hpe:p.P.take i=p.P:=List.take_of_length_le (by rw [HP.out];exact Nat.le_refl _)
   have hs:=HS.out
   rw [hpe] at hs
   have hxl:xs.length=i:=by rw [hs.pl.lx,HP.out]
   rcases hs.own.cases with ⟨_,he,_⟩ | ⟨gP,hrow,hF⟩
   ·exfalso
    rw [he] at hxl
    simp at hxl
    omega
   have hr:=hrow
   obtain ⟨capP,rfl,hcl1,hcl2,-,-⟩:=hrow.open_
   rw [hxl] at hr hs
   have b0:=hs.blk.cell 0
   have b1:=hs.blk.cell 1
   have b2:=hs.blk.cell 2
   have b3:=hs.blk.cell 3
   simp at b0 b1 b2 b3
   have hbx3:=(HBX.out.chg HS.out.chg (by simp)).cell 3
   simp at hbx3
   have hrk:=HRK.out.chg hs.chg (by simp)
   have z0:=hrk.frozen 0
   have z1:=hrk.frozen 1
   have z2:=hrk.frozen 2
   have z3:=hrk.frozen 3
   have k0:=hrk.cell 0
   have k1:=hrk.cell 1
   have k2:=hrk.cell 2
   have k3:=hrk.cell 3
   simp at k0 k1 k2 k3
   clear hrow hcl1 hcl2 hpe
   go_wp2_with fail
   obtain ⟨w9,hw9⟩:∃ w9,w9=(((wr.setCell ⟨rb,0,none⟩ (.int .i64 W)).setCell ⟨rb,1,none⟩ (.int .i64 H)).setCell ⟨rb,2,none⟩ (.int .i64 d)).setCell ⟨rb,3,none⟩ (.slice (some ⟨gP,0,none⟩) i capP):=⟨_,rfl⟩
   have hk9:Blk w9 rb 25 #[.int .i64 W,.int .i64 H,.int .i64 d,.slice (some ⟨gP,0,none⟩) i capP]:=by
    rw [hw9]
    have:=(((hrk.set_ 0 (.int .i64 W)).set_ 1 (.int .i64 H)).set_ 2 (.int .i64 d)).set_ 3 (.slice (some ⟨gP,0,none⟩) i capP)
    simpa using this
   have ch9:Chg [rb] wr w9:=by
    rw [hw9]
    exact ((((Chg.refl [rb] wr).setCell (p:=⟨rb,0,none⟩) (.inl (by simp)) _).setCell (p:=⟨rb,1,none⟩) (.inl (by simp)) _).setCell (p:=⟨rb,2,none⟩) (.inl (by simp)) _).setCell (p:=⟨rb,3,none⟩) (.inl (by simp)) _
   have g0:=hk9.cell 0
   have g1:=hk9.cell 1
   have g2:=hk9.cell 2
   have g3:=hk9.cell 3
   simp at g0 g1 g2 g3
   rw [←hw9]
   refine bodyPost_ret (v:=.agg #[.int .i64 W,.int .i64 H,.int .i64 d,.slice (some ⟨gP,0,none⟩) i capP]) (by simp [results,Tryz.results17,go_sem,g0,g1,g2,g3]) rfl ?_
   have hbig:∀ x∈gP::gs,rb<x:=by
    intro x hx
    have:=HSA.out
    have:=HCB.out
    rcases List.mem_cons.1 hx with rfl | hx
    ·have:=hs.new x (by simp [hF]);omega
    ·have:=hs.new x (by simp [hx]);omega
   refine ⟨gP,capP,xs,gs,rfl,⟨HOK.out,?_,hs.pl.chg ch9 ?_⟩,?_,?_⟩
   ·rw [HP.out]
    refine hr.chg ch9 ?_
    intro hm
    have:=hbig gP (by simp)
    simp at hm
    omega
   ·intro x hx hm
    have:=hbig x (by simp [hx])
    simp at hm
    omega
   ·refine (HCA.out.trans_same hs.chg).trans ch9 ?_
    intro x hx
    simp at hx
    have:=HRB.out
    exact .inr (by omega)
   ·intro x hx
    have:=hbig x hx
    have:=HRB.out
    omega
  ·have hi:i<n:=by omega
   have t1:decide (i<n)=true:=zB hi
   obtain ⟨b,q,hce,hk⟩:=HCL.out wr (HCA.out.trans_same HS.out.chg) i hi
   have hpn:i<p.P.length:=by rw [HP.out];exact hi
   have htk:Hid (p.P.take (i+1)=p.P.take i++[p.P.getD i []]):=hid (by
    rw [List.take_succ_eq_append_getElem hpn,zD,zF hpn]
    rfl)
   have hxl:Hid (xs.length=i):=hid (by rw [HS.out.pl.lx,List.length_take];omega)
   have y3:=HS.out.blk.cell 3
   simp at y3
   have hbx3:=(HBX.out.chg HS.out.chg (by simp)).cell 3
   simp at hbx3
   have HI:=hid hi
   obtain ⟨l,hl⟩:∃ l,l=p.P.getD i []:=⟨_,rfl⟩
   have hll:=HLEN.out i hi
   rw [←hl] at htk hk hll
   have HK:=hid hk
   have HLL:=hid hll
   obtain ⟨wB,hwB⟩:∃ wB,wB=wr.alloc (.cells #[] 3):=⟨_,rfl⟩
   have chB:Chg [] wr wB:=by rw [hwB];exact (Chg.refl [] wr).alloc _
   have hz:Own wB.drew 3 (.slice (some ⟨wr.heap.size,0,none⟩) 0 0) [wr.heap.size] []:=by rw [hwB];exact ((Row.made wr 3 [] (by simp [maxLen])).drew).toOwn
   have hcB:Cells (fun u=>u) wB.drew (some ⟨b,q,none⟩) (l.map vi):=HK.out _ (((HCA.out.trans_same HS.out.chg).trans_same chB).drew)
   have hsB:=HS.out.same chB.drew
   have yB:=(HS.out.blk.alloc (.cells #[] 3)).cell 3
   simp at yB
   have HZ:=hid hz
   have HCB2:=hid hcB
   have HWB:=hid hwB
   have hkeep:∀ wz,Chg [] wA wz→wz.cell? ⟨w.heap.size,3,none⟩=some (.slice (some ⟨g,o,none⟩) n cap):=fun wz hz=>by
    have h:=(HBX.out.chg hz (by simp)).cell 3
    simpa using h
   have HKEEP:=hid hkeep
   clear hk hpn hl hll hz hcB hkeep
   have hk2:∀ wz,Chg [] wr wz→wz.cell? ⟨g,o+i,none⟩=some (.slice (some ⟨b,q,none⟩) N (c i)):=fun wz hz=>(World.cell?_of_block (w:=wr) (hz.block g (Nat.lt_of_lt_of_le HGL.out (HCA.out.trans_same HS.out.chg).size) (by simp))).trans hce
   have HK2:=hid hk2
   have hk3:∀ wz,Chg [] w wz→wz.cell? ⟨g,o+i,none⟩=some (.slice (some ⟨b,q,none⟩) N (c i)):=fun wz hz=>by
    have h0:w.cell? ⟨g,o+i,none⟩=some (.slice (some ⟨b,q,none⟩) N (c i)):=by
     rw [←hce]
     exact (World.cell?_of_block (w:=w) ((HCA.out.trans_same HS.out.chg).block g HGL.out (by simp))).symm
    exact (World.cell?_of_block (w:=w) (hz.block g HGL.out (by simp))).trans h0
   have HK3:=hid hk3
   have hHSZ:Hid (wr.heap.size≤wB.heap.size):=hid chB.size
   clear hk2 hk3
   have za:=HKEEP.out _ (HS.out.chg.alloc (.cells #[] 3))
   have zb:=HK2.out _ ((Chg.refl [] wr).alloc (.cells #[] 3))
   go_wp2_with fail
   go_region_law
    (first
     | (refine step_append_s (by rfl) (by rfl) int_elem (by rfl) (by rfl) (by have h := HZ.out;rw [HWB.out] at h;exact h) (l.map vi) N (by rfl) (by rw [zE];exact HLL.out.symm) (by have h := HCB2.out;rw [HWB.out] at h;exact h) (vi_one _) (by rw [zE,HLL.out];simp;omega) (by rw [zE,HLL.out];simp;omega) ?_;intro v5 F5 w5 own5 gr5;obtain ⟨g5,c5,rfl,hrow5,hF5⟩ := own_row own5 (by rw [zC,zE,HLL.out];simp) hN0;have ch5:Chg [] wr w5 := (((Chg.refl [] wr).alloc (.cells #[] 3)).drew).trans gr5.chg (fun x hx => .inr (by simp at hx;omega));have hg5:wr.heap.size≤g5 := (by rcases gr5.new g5 (by rw [hF5];simp) with hh | hh;simp at hh;omega;have := ((Chg.refl [] wr).alloc (.cells #[] 3)).size;simp at hh;omega);have hs5 := HS.out.same ch5;have hown5 := hs5.own;have hb5 := hs5.blk;have y5 := hb5.cell 3;have n5 := (hb5.alloc (.cells #[.slice (some ⟨g5,0,none⟩) N c5] 22)).cell 3;have p5a := HKEEP.out w5 (HS.out.chg.trans_same ch5);have p5b := HK2.out w5 ch5;have n5a := HKEEP.out _ ((HS.out.chg.trans_same ch5).alloc (.cells #[.slice (some ⟨g5,0,none⟩) N c5] 22));have n5b := HK2.out _ (ch5.alloc (.cells #[.slice (some ⟨g5,0,none⟩) N c5] 22));simp at y5 n5)
     | (refine step_append_o1 (by rfl) (by rfl) rows_el (by rfl) (by rfl) (hown5.alloc (.cells #[.slice (some ⟨g5,0,none⟩) N c5] 22)) (.slice (some ⟨g5,0,none⟩) N c5) (by rfl) (by simp [go_sem]) (by rfl) (by rw [hxl.out];omega) (by rw [hxl.out];omega) ?_;intro g2 cap2 w6 hr2 gr2;have hb6 := (hb5.alloc (.cells #[.slice (some ⟨g5,0,none⟩) N c5] 22)).chg gr2.chg HS.out.cF;have y6 := hb6.cell 3;have z6 := hb6.frozen 3;simp at y6;have ch6:Chg [] wA w6 := ((HS.out.chg.trans_same ch5).alloc (.cells #[.slice (some ⟨g5,0,none⟩) N c5] 22)).trans gr2.chg (fun x hx => .inr (HS.out.new x (by simp [hx])));have ch7:Chg [] wA (w6.setCell ⟨cb,3,none⟩ (.slice (some ⟨g2,0,none⟩) (xs.length+1) cap2)) := ch6.setCell (.inr (HS.out.new cb (by simp))) _;have u6a := HKEEP.out w6 ch6;have u6b := HK3.out w6 (HCA.out.trans_same ch6);have t6a := HKEEP.out _ ch7;have t6b := HK3.out _ (HCA.out.trans_same ch7)))
   all_goals
    have hnx:=CpSt.next HS.out (ch5.alloc (.cells #[.slice (some ⟨g5,0,none⟩) N c5] 22)) (hrow5.alloc _) hg5 hr2 gr2
    rw [←htk.out] at hnx
    have HNX:=hid hnx
    clear hnx hr2 gr2 hb6 y6 z6 y5 n5 hb5 hown5 hs5 hrow5 ch5 ch6 ch7 p5a p5b n5a n5b u6a u6b t6a t6b own5 gr5 hF5 hg5
    go_wp2_with fail
    go_roundg j
    case measure=>omega
    case rel=>exact ⟨i+1,_,_,_,_,by go_num,by omega,HNX⟩
def litV (a c:Nat):Value:=.agg #[.int .i64 3,.int .i64 1,.int .i64 4,.slice (some ⟨a,0,none⟩) 1 c]
theorem litV_A (a c:Nat):picV pA a 0 c=litV a c:=by simp [picV,pA,litV]
theorem litV_B (a c:Nat):picV pB a 0 c=litV a c:=by simp [picV,pB,litV]
section
variable {w:World} {a a':Nat} {B B':Nat→Option Addr} {c c':Nat→Nat} {G G':List Nat}
theorem kn_encA (hA:PicAt w pA a 0 B c G) (hp:Pts w):Calls Tryz.prog 7 #[litV a 1,litV a 1] w (EncPost w pA pA):=by
 have h:=encode_ok 1 hA 1 hA pAA hp
 rw [litV_A] at h
 exact h
theorem kn_encB (hA:PicAt w pA a 0 B c G) (hB:PicAt w pB a' 0 B' c' G') (hp:Pts w):Calls Tryz.prog 7 #[litV a 1,litV a' 1] w (EncPost w pA pB):=by
 have h:=encode_ok 1 hA 1 hB pAB hp
 rw [litV_A,litV_B] at h
 exact h
theorem kn_decA (hA:PicAt w pA a 0 B c G) (hp:Pts w) {A:Option Addr} {capA:Nat} {ms:List (Int × Int)} (h1:ms.length=(gridL pB.W pB.H 8).length) (h2:BestMs pA pB (gridL pB.W pB.H 8) ms (gridL pB.W pB.H 8).length) (h3:MvBits pA pB ms) (h4:Cells b8 w A (mvBytes pA pB ms)) (h5:(mvBytes pA pB ms).length≤capA) (h6:capA≤9223372036854775807) :
  Calls Tryz.prog 10 #[litV a 1,.slice A (mvBytes pA pB ms).length capA] w fun e w'=>∃ gP capP xs gs,e=.returned (.tuple #[litV gP capP,.int .i64 0])∧PicOwn w' pB gP capP xs gs∧Chg [] w w':=by
 have h:=decode_ok 1 hA pB_ok pAB hp A capA ms h1 (best_ok h1 h2) h3 h4 h5 h6
 rw [litV_A] at h
 refine Calls.mono h ?_
 rintro e w' ⟨gP,capP,xs,gs,rfl,ho,ch,_⟩
 exact ⟨gP,capP,xs,gs,by rw [litV_B],ho,ch⟩
theorem kn_decB (hB:PicAt w pB a' 0 B' c' G') {A:Option Addr} {capA:Nat} {ms:List (Int × Int)} (h3:MvBits pA pB ms) (h4:Cells b8 w A (mvBytes pA pB ms)) (h5:(mvBytes pA pB ms).length≤capA) (h6:capA≤9223372036854775807) :
  Calls Tryz.prog 10 #[litV a' 1,.slice A (mvBytes pA pB ms).length capA] w fun e w'=>e=.returned (.tuple #[.agg #[.int .i64 0,.int .i64 0,.int .i64 0,.slice none 0 0],.int .i64 5])∧Chg [] w w':=by
 obtain ⟨k1,k2,k3⟩:=body_bounds pB_ok h3
 have e:mvBytes pA pB ms=mvBody pA pB ms++sumL pA (mvBody pA pB ms):=by unfold mvBytes;rfl
 rw [e] at h4 h5 ⊢
 have h:=decode_sum 1 hB A capA (mvBody pA pB ms) (sumL pA (mvBody pA pB ms)) k3 k1 k2 (sumL_len _ _) (sum_other k3) h4 h5 h6
 rw [litV_B] at h
 exact h
theorem kn_search (hA:PicAt w pA a 0 B c G) (hB:PicAt w pB a' 0 B' c' G'):Calls Tryz.prog 21 #[litV a 1,litV a' 1,.int .i64 0,.int .i64 0] w fun e w'=>e=.returned (.tuple #[.int .i64 0,.int .i64 0,.int .i64 14])∧Chg [] w w':=by
 have hg:gridL pB.W pB.H 8=[⟨0,0,3,1⟩]:=grid_lit
 have h1:=msearch_ok 1 hA 1 hB pAB 0 (by rw [hg];exact Nat.zero_lt_one) 0 0 (by rw [hg];rfl) (by rw [hg];rfl)
 rw [litV_A,litV_B] at h1
 refine Calls.mono h1 ?_
 rintro e w' ⟨dx,dy,c,s,rfl,hs,hx,hy,hb,ch⟩
 rw [hg] at hs
 simp at hs
 subst hs
 have hm:=mv_lit hb.ok
 have e1:dx=0:=congrArg Prod.fst hm
 have e2:dy=0:=congrArg Prod.snd hm
 subst e1
 subst e2
 have hc:=hb.cost
 rw [cost_AB] at hc
 subst hc
 exact ⟨rfl,ch⟩
theorem kn_alike (hA:PicAt w pA a 0 B c G) (hB:PicAt w pB a' 0 B' c' G'):Calls Tryz.prog 23 #[litV a 1,litV a' 1] w fun e w'=>e=.returned (.bool true)∧Chg [] w w':=by
 have h:=alike_yes 1 hA 1 hB pAB
 rw [litV_A,litV_B] at h
 exact h
theorem kn_none (hA:PicAt w pA a 0 B c G):Calls Tryz.prog 23 #[litV a 1,.agg #[.int .i64 0,.int .i64 0,.int .i64 0,.slice none 0 0]] w fun e w'=>e=.returned (.bool false)∧Chg [] w w':=by
 have h:=alike_zero 1 hA
 rw [litV_A] at h
 exact h
theorem kn_same {gP capP:Nat} {xs:List Value} {gs:List Nat} (ho:PicOwn w pB gP capP xs gs) (hB:PicAt w pB a' 0 B' c' G'):Calls Tryz.prog 11 #[litV gP capP,litV a' 1] w fun e w'=>e=.returned (.bool true)∧Chg [] w w':=by
 have h:=picSame_ok capP ho.at_ 1 hB rfl rfl rfl rfl
 rw [litV_B,litV_B] at h
 exact h
theorem bytes_AA:(mvBytes pA pA [(0,0)]).length=5:=by
 unfold mvBytes
 rw [body_AA,zC,sumL_len]
 rfl
theorem bytes_A0:(mvBytes pA pA [(0,0)])[0]?=some 0:=by
 unfold mvBytes
 rw [body_AA]
 rfl
end
theorem mknown_ok (w:World) (hp:Pts w):Calls Tryz.prog 12 #[] w fun e w'=>e=.returned (.bool true)∧Chg [] w w':=by
 obtain ⟨u1,hu1⟩:∃ u,u=w.alloc (.cells #[.int .i64 7,.int .i64 0,.int .i64 0] 3):=⟨_,rfl⟩
 obtain ⟨u2,hu2⟩:∃ u,u=u1.alloc (.cells #[.slice (some ⟨w.heap.size,0,none⟩) 3 3] 22):=⟨_,rfl⟩
 obtain ⟨u3,hu3⟩:∃ u,u=u2.alloc (.cells #[.int .i64 3,.int .i64 1,.int .i64 4,.slice (some ⟨w.heap.size+1,0,none⟩) 1 1] 25):=⟨_,rfl⟩
 obtain ⟨u4,hu4⟩:∃ u,u=u3.alloc (.cells #[.int .i64 0,.int .i64 7,.int .i64 0] 3):=⟨_,rfl⟩
 obtain ⟨u5,hu5⟩:∃ u,u=u4.alloc (.cells #[.slice (some ⟨w.heap.size+1+1+1,0,none⟩) 3 3] 22):=⟨_,rfl⟩
 obtain ⟨u6,hu6⟩:∃ u,u=u5.alloc (.cells #[.int .i64 3,.int .i64 1,.int .i64 4,.slice (some ⟨w.heap.size+1+1+1+1,0,none⟩) 1 1] 25):=⟨_,rfl⟩
 have z1:u1.heap.size=w.heap.size+1:=by rw [hu1,alloc_size]
 have z2:u2.heap.size=w.heap.size+1+1:=by rw [hu2,alloc_size,z1]
 have z3:u3.heap.size=w.heap.size+1+1+1:=by rw [hu3,alloc_size,z2]
 have z4:u4.heap.size=w.heap.size+1+1+1+1:=by rw [hu4,alloc_size,z3]
 have z5:u5.heap.size=w.heap.size+1+1+1+1+1:=by rw [hu5,alloc_size,z4]
 have z6:u6.heap.size=w.heap.size+1+1+1+1+1+1:=by rw [hu6,alloc_size,z5]
 have c1:Chg [] w u1:=by rw [hu1];exact (Chg.refl [] w).alloc _
 have c2:Chg [] u1 u2:=by rw [hu2];exact (Chg.refl [] u1).alloc _
 have c3:Chg [] u2 u3:=by rw [hu3];exact (Chg.refl [] u2).alloc _
 have c4:Chg [] u3 u4:=by rw [hu4];exact (Chg.refl [] u3).alloc _
 have c5:Chg [] u4 u5:=by rw [hu5];exact (Chg.refl [] u4).alloc _
 have c6:Chg [] u5 u6:=by rw [hu6];exact (Chg.refl [] u5).alloc _
 have b1:Blk u6 (w.heap.size) 3 (#[.int .i64 7,.int .i64 0,.int .i64 0]):=((((((show Blk u1 (w.heap.size) 3 (#[.int .i64 7,.int .i64 0,.int .i64 0]) from by rw [hu1];exact Blk.new _ _ _).chg c2 (by simp)).chg c3 (by simp)).chg c4 (by simp)).chg c5 (by simp)).chg c6 (by simp))
 have b2:Blk u6 (w.heap.size+1) 22 (#[.slice (some ⟨w.heap.size,0,none⟩) 3 3]):=(((((show Blk u2 (w.heap.size+1) 22 (#[.slice (some ⟨w.heap.size,0,none⟩) 3 3]) from by rw [hu2,←z1];exact Blk.new _ _ _).chg c3 (by simp)).chg c4 (by simp)).chg c5 (by simp)).chg c6 (by simp))
 have b3:Blk u6 (w.heap.size+1+1) 25 (#[.int .i64 3,.int .i64 1,.int .i64 4,.slice (some ⟨w.heap.size+1,0,none⟩) 1 1]):=((((show Blk u3 (w.heap.size+1+1) 25 (#[.int .i64 3,.int .i64 1,.int .i64 4,.slice (some ⟨w.heap.size+1,0,none⟩) 1 1]) from by rw [hu3,←z2];exact Blk.new _ _ _).chg c4 (by simp)).chg c5 (by simp)).chg c6 (by simp))
 have b4:Blk u6 (w.heap.size+1+1+1) 3 (#[.int .i64 0,.int .i64 7,.int .i64 0]):=(((show Blk u4 (w.heap.size+1+1+1) 3 (#[.int .i64 0,.int .i64 7,.int .i64 0]) from by rw [hu4,←z3];exact Blk.new _ _ _).chg c5 (by simp)).chg c6 (by simp))
 have b5:Blk u6 (w.heap.size+1+1+1+1) 22 (#[.slice (some ⟨w.heap.size+1+1+1,0,none⟩) 3 3]):=((show Blk u5 (w.heap.size+1+1+1+1) 22 (#[.slice (some ⟨w.heap.size+1+1+1,0,none⟩) 3 3]) from by rw [hu5,←z4];exact Blk.new _ _ _).chg c6 (by simp))
 have b6:Blk u6 (w.heap.size+1+1+1+1+1) 25 (#[.int .i64 3,.int .i64 1,.int .i64 4,.slice (some ⟨w.heap.size+1+1+1+1,0,none⟩) 1 1]):=(show Blk u6 (w.heap.size+1+1+1+1+1) 25 (#[.int .i64 3,.int .i64 1,.int .i64 4,.slice (some ⟨w.heap.size+1+1+1+1,0,none⟩) 1 1]) from by rw [hu6,←z5];exact Blk.new _ _ _)
 have hC6:Chg [] w u6:=(((((c1.trans_same c2).trans_same c3).trans_same c4).trans_same c5).trans_same c6)
 have hA:PicAt u6 pA (w.heap.size+1) 0 (fun _=>some ⟨w.heap.size,0,none⟩) (fun _=>3) [w.heap.size,w.heap.size+1]:=lit_at rfl pA_ok b1 b2
 have hB:PicAt u6 pB (w.heap.size+1+1+1+1) 0 (fun _=>some ⟨w.heap.size+1+1+1,0,none⟩) (fun _=>3) [w.heap.size+1+1+1,w.heap.size+1+1+1+1]:=lit_at rfl pB_ok b4 b5
 have hbox:∀ wz,Chg [] u6 wz→(wz.cell? ⟨w.heap.size+1+1,0,none⟩=some (.int .i64 3)∧wz.cell? ⟨w.heap.size+1+1,1,none⟩=some (.int .i64 1)∧wz.cell? ⟨w.heap.size+1+1,2,none⟩=some (.int .i64 4)∧wz.cell? ⟨w.heap.size+1+1,3,none⟩=some (.slice (some ⟨w.heap.size+1,0,none⟩) 1 1)) ∧
   (wz.cell? ⟨w.heap.size+1+1+1+1+1,0,none⟩=some (.int .i64 3)∧wz.cell? ⟨w.heap.size+1+1+1+1+1,1,none⟩=some (.int .i64 1)∧wz.cell? ⟨w.heap.size+1+1+1+1+1,2,none⟩=some (.int .i64 4)∧wz.cell? ⟨w.heap.size+1+1+1+1+1,3,none⟩=some (.slice (some ⟨w.heap.size+1+1+1+1,0,none⟩) 1 1)):=fun wz hz =>
  ⟨⟨(b3.chg hz (by simp)).cell 0,(b3.chg hz (by simp)).cell 1,(b3.chg hz (by simp)).cell 2,(b3.chg hz (by simp)).cell 3⟩,⟨(b6.chg hz (by simp)).cell 0,(b6.chg hz (by simp)).cell 1,(b6.chg hz (by simp)).cell 2,(b6.chg hz (by simp)).cell 3⟩⟩
 have enA:=fun wz (hz:Chg [] u6 wz)=>kn_encA (hA.same hz) ((hp.same hC6).same hz)
 have enB:=fun wz (hz:Chg [] u6 wz)=>kn_encB (hA.same hz) (hB.same hz) ((hp.same hC6).same hz)
 have deA:=fun wz (hz:Chg [] u6 wz) (A:Option Addr) (capA:Nat) (ms:List (Int × Int)) h1 h2 h3 h4 h5 h6=>kn_decA (hA.same hz) ((hp.same hC6).same hz) (A:=A) (capA:=capA) (ms:=ms) h1 h2 h3 h4 h5 h6
 have deB:=fun wz (hz:Chg [] u6 wz) (A:Option Addr) (capA:Nat) (ms:List (Int × Int)) h3 h4 h5 h6=>kn_decB (hB.same hz) (A:=A) (capA:=capA) (ms:=ms) h3 h4 h5 h6
 have seA:=fun wz (hz:Chg [] u6 wz)=>kn_search (hA.same hz) (hB.same hz)
 have alA:=fun wz (hz:Chg [] u6 wz)=>kn_alike (hA.same hz) (hB.same hz)
 have alZ:=fun wz (hz:Chg [] u6 wz)=>kn_none (hA.same hz)
 have saB:=fun wz gP capP xs gs (hz:Chg [] u6 wz) (ho:PicOwn wz pB gP capP xs gs)=>kn_same ho (hB.same hz)
 unfold litV at enA enB deA deB seA alA alZ saB
 have HW6:Hid (u6=(((((w.alloc (.cells #[.int .i64 7,.int .i64 0,.int .i64 0] 3)).alloc (.cells #[.slice (some ⟨w.heap.size,0,none⟩) 3 3] 22)).alloc (.cells #[.int .i64 3,.int .i64 1,.int .i64 4,.slice (some ⟨w.heap.size+1,0,none⟩) 1 1] 25)).alloc (.cells #[.int .i64 0,.int .i64 7,.int .i64 0] 3)).alloc (.cells #[.slice (some ⟨w.heap.size+1+1+1,0,none⟩) 3 3] 22)).alloc (.cells #[.int .i64 3,.int .i64 1,.int .i64 4,.slice (some ⟨w.heap.size+1+1+1+1,0,none⟩) 1 1] 25)):=hid (by rw [hu6,hu5,hu4,hu3,hu2,hu1])
 have HC6:=hid hC6
 have HBOX:=hid hbox
 have HENA:=hid enA
 have HENB:=hid enB
 have HDEA:=hid deA
 have HDEB:=hid deB
 have HSEA:=hid seA
 have HALA:=hid alA
 have HALZ:=hid alZ
 have HSAB:=hid saB
 clear hu1 hu2 hu3 hu4 hu5 hu6 z1 z2 z3 z4 z5 z6 c1 c2 c3 c4 c5 c6 b1 b2 b3 b4 b5 b6 hC6 hA hB hbox enA enB deA deB seA alA alZ saB hp
 go_enter Tryz.func12,Tryz.ntmps12
 go_wp2_with fail
 rw [←HW6.out]
 refine (HENA.out u6 (Chg.refl _ _)).mono ?_
 rintro e w7 ⟨v3,G3,ms3,rfl,own3,hl3,hb3,ch7,hG3,hm3⟩
 have HC7:=hid ch7
 obtain ⟨⟨a0,a1,a2,a3⟩,⟨d0,d1,d2,d3⟩⟩:=HBOX.out w7 ch7
 obtain rfl:=ms_lit rfl rfl rfl rfl hl3 hb3
 have h5:(mvBytes pA pA [(0,0)]).length=5:=bytes_AA
 obtain ⟨g3,c3,rfl,row3,-⟩:=own_row (N:=5) own3 (by rw [zE];exact h5) (by decide)
 have HR3:=hid row3
 clear own3 hl3 hb3 ch7 hG3 hm3 row3 h5
 go_wp2_with fail
 refine (HENB.out w7 HC7.out).mono ?_
 rintro e w8 ⟨v5,G5,ms5,rfl,own5,hl5,hb5,ch8,hG5,hm5⟩
 have HC8:=hid (HC7.out.trans_same ch8)
 obtain ⟨⟨a0,a1,a2,a3⟩,⟨d0,d1,d2,d3⟩⟩:=HBOX.out w8 HC8.out
 obtain ⟨A5,c5,rfl,h51,h52,hc5⟩:=own5.open_map
 have HDA:=hid (HDEA.out w8 HC8.out A5 c5 ms5 hl5 hb5 hm5 hc5 h51 h52)
 have HDB:=hid (fun wz (hz:Chg [] w8 wz)=>HDEB.out wz (HC8.out.trans_same hz) A5 c5 ms5 hm5 (hc5.same hz) h51 h52)
 have HR3b:=hid (HR3.out.chg ch8 (by simp))
 obtain ⟨N5,hN5⟩:∃ N5,N5=(mvBytes pA pB ms5).length:=⟨_,rfl⟩
 rw [←hN5] at HDA HDB ⊢
 clear own5 hl5 hb5 ch8 hG5 hm5 hc5 h51 h52 hN5
 go_wp2_with fail
 refine HDA.out.mono ?_
 rintro e w9 ⟨gP,capP,xs,gs,rfl,own9,ch9⟩
 have HO9:=hid own9
 have HC9:=hid ch9
 obtain ⟨⟨a0,a1,a2,a3⟩,⟨d0,d1,d2,d3⟩⟩:=HBOX.out _ ((HC8.out.trans_same ch9).alloc (.cells #[.int .i64 3,.int .i64 1,.int .i64 4,.slice (some ⟨gP,0,none⟩) 1 capP] 25))
 clear own9 ch9
 obtain ⟨ob,hob⟩:∃ ob,ob=w9.heap.size:=⟨_,rfl⟩
 obtain ⟨wP,hwP⟩:∃ wP,wP=w9.alloc (.cells #[.int .i64 3,.int .i64 1,.int .i64 4,.slice (some ⟨gP,0,none⟩) 1 capP] 25):=⟨_,rfl⟩
 have hbk:Blk wP ob 25 #[.int .i64 3,.int .i64 1,.int .i64 4,.slice (some ⟨gP,0,none⟩) 1 capP]:=by rw [hwP,hob];exact Blk.new w9 _ _
 have chP:Chg [] w8 wP:=by rw [hwP];exact HC9.out.alloc _
 have HOP:Hid (PicOwn wP pB gP capP xs gs):=hid (HO9.out.same (by rw [hwP];exact (Chg.refl [] w9).alloc _))
 have HBK:=hid hbk
 have HCP:=hid chP
 have HWP:=hid hwP
 have HOB:=hid hob
 clear hbk chP hwP hob
 go_wp2_with fail
 rw [←HWP.out,←HOB.out]
 refine (HDB.out wP HCP.out).mono ?_
 rintro e wQ ⟨rfl,chQ⟩
 have HCQ:=hid (HC8.out.trans_same (HCP.out.trans_same chQ))
 have HOQ:=hid (HOP.out.same chQ)
 have HBQ:=hid (HBK.out.chg chQ (by simp))
 have HRQ:=hid (HR3b.out.chg (HCP.out.trans_same chQ) (by simp))
 obtain ⟨wR,hwR⟩:∃ wR,wR=wQ.alloc (.cells #[.int .i64 0,.int .i64 0,.int .i64 0,.slice none 0 0] 25):=⟨_,rfl⟩
 have chR:Chg [] wQ wR:=by rw [hwR];exact (Chg.refl [] wQ).alloc _
 have HCR:=hid (HCQ.out.trans_same chR)
 have HOR:=hid (HOQ.out.same chR)
 have HBR:=hid (HBQ.out.chg chR (by simp))
 have HRR:=hid (HRQ.out.chg chR (by simp))
 obtain ⟨⟨a0,a1,a2,a3⟩,⟨d0,d1,d2,d3⟩⟩:=HBOX.out wR HCR.out
 rw [hwR] at a0 a1 a2 a3 d0 d1 d2 d3
 have HWR:=hid hwR
 clear chQ chR hwR
 go_wp2_with fail
 rw [←HWR.out]
 refine (HSEA.out wR HCR.out).mono ?_
 rintro e wS ⟨rfl,chS⟩
 have HCS:=hid (HCR.out.trans_same chS)
 have HOS:=hid (HOR.out.same chS)
 have hbS:=HBR.out.chg chS (by simp)
 have hrS:=HRR.out.chg chS (by simp)
 obtain ⟨⟨a0,a1,a2,a3⟩,⟨d0,d1,d2,d3⟩⟩:=HBOX.out wS HCS.out
 have p0:=hbS.cell 0
 have p1:=hbS.cell 1
 have p2:=hbS.cell 2
 have p3:=hbS.cell 3
 simp at p0 p1 p2 p3
 have x0:wS.cell? ⟨g3,0,none⟩=some (.int .u8 0):=by
  obtain ⟨_,_,_,_,hce,_⟩:=hrS.open_map
  exact hce 0 0 bytes_A0
 have hsa:=HSAB.out wS gP capP xs gs HCS.out HOS.out
 clear hbS hrS chS
 go_wp2_with fail
 refine hsa.mono ?_
 rintro e wT ⟨rfl,chT⟩
 have HCT:=hid (HCS.out.trans_same chT)
 obtain ⟨⟨a0,a1,a2,a3⟩,⟨d0,d1,d2,d3⟩⟩:=HBOX.out wT HCT.out
 have hal:=HALA.out wT HCT.out
 clear hsa chT x0 p0 p1 p2 p3
 go_wp2_with fail
 refine hal.mono ?_
 rintro e wU ⟨rfl,chU⟩
 have HCU:=hid (HCT.out.trans_same chU)
 obtain ⟨⟨a0,a1,a2,a3⟩,⟨d0,d1,d2,d3⟩⟩:=HBOX.out wU HCU.out
 have hal2:=HALZ.out wU HCU.out
 clear hal chU
 go_wp2_with fail
 refine hal2.mono ?_
 rintro e wV ⟨rfl,chV⟩
 go_wp2_with fail
 go_ret
 exact ⟨rfl,HC6.out.trans_same (HCU.out.trans_same chV)⟩
theorem blocks_ok {p:PicD} (hok:p.Ok) (g o cap:Nat) (w:World) :
  Calls Tryz.prog 15 #[picV p g o cap] w fun e w'=>∃ v F,e=.returned v∧SqOwn w' v F (gridL p.W p.H 8)∧Chg [] w w'∧∀ x∈F,w.heap.size≤x:=by
 have htg:=fun w'=>rgrid_ok p.W p.H 8 w' hok.w0 hok.w1 hok.h0 hok.h1 (by decide) (by decide)
 unfold picV
 have HT:=hid htg
 clear htg
 go_enter Tryz.func15,Tryz.ntmps15
 go_wp2_with fail
 refine (HT.out _).mono ?_
 rintro e w2 ⟨v,F,rfl,hsq,ch2,hF⟩
 go_wp2
 go_ret
 refine ⟨v,F,rfl,hsq,((Chg.refl [] w).alloc _).trans_same ch2,fun x hx => ?_⟩
 have:=hF x hx
 rw [alloc_size] at this
 omega
theorem World.size_setCell' (w:World) (p:Addr) (u:Value):(w.setCell p u).heap.size=w.heap.size:=by simp [World.setCell]
theorem heap_size_drewN' (w:World) (n:Nat):(w.drewN n).heap.size=w.heap.size:=rfl
theorem moves_ok {w:World} {p:PicD} (hok:p.Ok) (g o cap:Nat) (b capt at_:Nat) (A:Option Addr) (L:List Int) (h:IsTp w b A capt L at_) :
  Calls Tryz.prog 9 #[.pointer (some ⟨b,0,none⟩),picV p g o cap,.bool false] w fun e w'=>∃ (v:Value) (F:List Nat) (ms:List (Int × Int)),e=.returned v∧OwnK w' 55 2 v F ms.length (ms.flatMap mvCells)∧ms.length=(gridL p.W p.H 8).length∧(∀ i,i<ms.length→mvOk p.W p.H (sqAt (gridL p.W p.H 8) i) (ms.getD i (0,0)))∧(∃ at',IsTp w' b A capt L at')∧Chg [b] w w'∧∀ x∈F,w.heap.size≤x:=by
 obtain ⟨ss,hss⟩:∃ ss,ss=gridL p.W p.H 8:=⟨_,rfl⟩
 have hs8:∀ s∈ss,1≤s.w∧s.w≤8∧1≤s.h∧s.h≤8:=by rw [hss];exact grid_ok (by decide)
 have hsin:∀ s∈ss,s.x+s.w≤p.W∧s.y+s.h≤p.H:=by rw [hss];exact grid_in (by decide)
 have hn4:ss.length≤4096:=by rw [hss];exact grid8_len hok.w1 hok.h1
 have hbl:=fun w'=>blocks_ok hok g o cap w'
 rw [←hss] at hbl ⊢
 obtain ⟨n,hn⟩:∃ n,n=ss.length:=⟨_,rfl⟩
 unfold picV at hbl ⊢
 obtain ⟨W,hW⟩:∃ W,W=p.W:=⟨_,rfl⟩
 obtain ⟨H,hH⟩:∃ H,H=p.H:=⟨_,rfl⟩
 rw [←hW,←hH] at hbl hsin ⊢
 have hW4:W≤64:=by rw [hW];exact hok.w1
 have hH4:H≤64:=by rw [hH];exact hok.h1
 obtain ⟨w1,hw1⟩:∃ w1,w1=w.alloc (.cells #[.int .i64 W,.int .i64 H,.int .i64 p.d,.slice (some ⟨g,o,none⟩) p.P.length cap] 25):=⟨_,rfl⟩
 have hb1:Blk w1 w.heap.size 25 #[.int .i64 W,.int .i64 H,.int .i64 p.d,.slice (some ⟨g,o,none⟩) p.P.length cap]:=by rw [hw1];exact Blk.new w _ _
 have HC1:Hid (Chg [] w w1):=hid (by rw [hw1];exact (Chg.refl [] w).alloc _)
 have hbsz:=h.blk.lt
 have hlt1:=hb1.lt
 have ht1:=h.fresh HC1.out
 have HW1:=hid hw1
 have HB1:=hid hb1
 have HT1:=hid ht1
 have HBL:=hid hbl
 have HS8:=hid hs8
 have HSIN:=hid hsin
 have HN:=hid hn
 have HCELLS:=hid h.cells
 have HLT1:=hid hlt1
 have hn41:n≤4096:=by omega
 clear hbl hs8 hsin hn hn4 hw1 hb1 ht1 h hss hok hW hH hlt1
 go_enter Tryz.func9,Tryz.ntmps9
 go_wp2_with fail
 rw [←HW1.out]
 refine (HBL.out w1).mono ?_
 rintro e w3 ⟨v8,F8,rfl,hsq,ch3,hF8⟩
 obtain ⟨A8,c8,rfl,h81,h82,hc8,hA8b⟩:=OwnK.open_ hsq
 have HC8:=hid hc8
 have HG8:Hid (∀ ad,A8=some ad→w1.heap.size≤ad.block):=hid (fun ad e=>by
  obtain ⟨gg,e1,e2,-⟩:=hA8b ad e
  rw [e1]
  exact hF8 gg (by rw [e2];simp))
 have HCH3:=hid ch3
 have HT3:=hid (HT1.out.fresh ch3)
 rw [←HN.out]
 clear hsq ch3 hF8 hc8 hA8b
 go_wp2_with fail
 go_loopg [7,9,10] n (fun j v7 v9 v10 wr=>∃ (i:Nat) (ms:List (Int × Int)) (F:List Nat) (at':Nat),v9=.int .i64 i∧i+j=n∧Hid (OwnK wr 55 2 v7 F i (ms.flatMap mvCells))∧Hid (ms.length=i)∧Hid (∀ k,k<i→mvOk W H (sqAt ss k) (ms.getD k (0,0)))∧Hid (IsTp wr b A capt L at')∧Hid (Chg [b] w3 wr)∧Hid (∀ x∈F,w3.heap.size≤x))
 case atStart=>exact ⟨0,[],[],at_,rfl,by omega,hid (OwnK.nil _ _ _),hid rfl,hid (fun k hk=>by omega),HT3,hid (Chg.refl _ _),hid (by simp)⟩
 case round =>
  obtain ⟨i,ms,F,at',rfl,hij,HO,HML,HM,HT,HCH,HF⟩:=hrel
  rcases gk with _ | j
  ·obtain rfl:i=n:=by omega
   have t1:decide (i<i)=false:=by simp
   go_wp2
   go_ret
   refine ⟨_,F,ms,rfl,by rw [HML.out];exact HO.out,by rw [HML.out];exact HN.out,by rw [HML.out];exact HM.out,⟨at',HT.out⟩,((HC1.out.trans_same HCH3.out).mono (by simp)).trans_same HCH.out,fun x hx => ?_⟩
   have h1:=HF.out x hx
   have h2:=(HC1.out.trans_same HCH3.out).size
   omega
  ·have hi:i<n:=by omega
   have t1:decide (i<n)=true:=zB hi
   have hnx:=next_tp wr b capt at' 9 A L HT.out (by omega) (by omega)
   go_wp2_with fail
   refine hnx.mono ?_
   rintro e w5 ⟨d0,a5,rfl,hd0,ht5,ch5⟩
   have hnx2:=next_tp w5 b capt a5 9 A L ht5 (by omega) (by omega)
   clear hnx ht5
   go_wp2_with fail
   refine hnx2.mono ?_
   rintro e w6 ⟨d1,a6,rfl,hd1,ht6,ch6⟩
   have HT6:=hid ht6
   have hch6:Chg [b] w3 w6:=(HCH.out.trans_same ch5).trans_same ch6
   have hil:i<ss.length:=by rw [←HN.out];exact hi
   have hA8b:∀ ad,A8=some ad→ad.block∉[b]:=fun ad e hm=>by
    obtain ⟨b0,o0,e0,hb0,_⟩:=HC8.out.ex (by rw [sq_len];omega)
    rw [e] at e0
    injection e0 with e0
    subst e0
    have h9:=HG8.out _ e
    have h8:=HLT1.out
    simp at hm h9
    omega
   obtain ⟨g8,o8,hA8,x0,x1,x2,x3⟩:=sq_cell (HC8.out.chg hch6 hA8b) hil
   subst hA8
   obtain ⟨hw0,hw1,hh0,hh1⟩:=HS8.out _ (sqAt_mem hil)
   obtain ⟨hx,hy⟩:=HSIN.out _ (sqAt_mem hil)
   obtain ⟨s,hs⟩:∃ s,s=sqAt ss i:=⟨_,rfl⟩
   rw [←hs] at x0 x1 x2 x3 hw0 hw1 hh0 hh1 hx hy
   obtain ⟨sx,sy,sw,sh⟩:=s
   simp only at x0 x1 x2 x3 hw0 hw1 hh0 hh1 hx hy
   have HSS:=hid hs
   have c0:=((HB1.out.chg HCH3.out (by simp)).chg hch6 (by simp;omega)).cell 0
   have c1:=((HB1.out.chg HCH3.out (by simp)).chg hch6 (by simp;omega)).cell 1
   simp at c0 c1
   obtain ⟨w7,hw7⟩:∃ w7,w7=w6.alloc (.cells #[.int .i64 ((d0:Int)-4),.int .i64 ((d1:Int)-4)] 55):=⟨_,rfl⟩
   have ch7:Chg [] w6 w7:=by rw [hw7];exact (Chg.refl [] w6).alloc _
   obtain ⟨mb,hmb⟩:∃ mb,mb=w6.heap.size:=⟨_,rfl⟩
   have hm7:Blk w7 mb 55 #[.int .i64 ((d0:Int)-4),.int .i64 ((d1:Int)-4)]:=by rw [hw7,hmb];exact Blk.new w6 _ _
   have k0:=hm7.cell 0
   have k1:=hm7.cell 1
   have z0:=hm7.frozen 0
   have z1:=hm7.frozen 1
   simp at k0 k1
   have x0:=ch7.cell (by simp) x0
   have x1:=ch7.cell (by simp) x1
   have x2:=ch7.cell (by simp) x2
   have x3:=ch7.cell (by simp) x3
   have c0:=ch7.cell (by simp) c0
   have c1:=ch7.cell (by simp) c1
   have HW7:=hid hw7
   have HMB:=hid hmb
   have HM7:=hid hm7
   have HCH7:=hid (hch6.trans ch7 (by simp))
   have HR7:Hid (Chg [b] wr w7):=hid ((ch5.trans_same ch6).trans ch7 (by simp))
   have HRM:Hid (wr.heap.size≤mb):=hid (by rw [hmb];exact (ch5.trans_same ch6).size)
   have hW3:Hid (w3.heap.size≤mb):=hid (by rw [hmb];exact hch6.size)
   have HT7:=hid (ht6.fresh ch7)
   have hgl:g8<mb∧w.heap.size<mb:=by
    obtain ⟨b0,o0,e0,hb0,_⟩:=HC8.out.ex (by rw [sq_len];omega)
    injection e0 with e0
    injection e0 with e0 _ _
    subst e0
    have q1:=HCH7.out.size
    have q2:=HCH3.out.size
    have q3:=HLT1.out
    have q4:=hch6.size
    omega
   obtain ⟨hgl1,hgl2⟩:=hgl
   clear hw7 hmb hm7 ch7 hs hil hch6 ht6 hA8b hnx2 ch5 ch6
   go_wp2_with fail
   rw [←HW7.out,←HMB.out]
   refine wp_region_quiet_tail 25 (by kernel_rfl) (by kernel_rfl) ?_
   simp only [List.take_succ_cons,List.take_zero,List.drop_succ_cons,List.drop_zero]
   repeat (go_big_quiet_step (fail))
   refine wpQuiet_nil ?_
   intro _ hw'
   obtain ⟨nq,rfl⟩:=hw'
   obtain ⟨M0,hM0⟩:∃ M0:Int,M0=min (max ((d0:Int)-4) (-(sx:Int))) ((W:Int)-(sx:Int)-(sw:Int)):=⟨_,rfl⟩
   obtain ⟨w8,hw8⟩:∃ w8,w8=(w7.drewN nq).setCell ⟨mb,0,none⟩ (.int .i64 M0):=⟨_,rfl⟩
   have hm8:Blk w8 mb 55 #[.int .i64 M0,.int .i64 ((d1:Int)-4)]:=by
    rw [hw8]
    have:=(HM7.out.drewN nq).set_ 0 (.int .i64 M0)
    simpa using this
   have ch8:Chg [mb] w7 w8:=by rw [hw8];exact ((Chg.refl [mb] w7).drewN nq).setCell (p:=⟨mb,0,none⟩) (.inl (by simp)) _
   have x1:=ch8.cell (by simp;omega) x1
   have x3:=ch8.cell (by simp;omega) x3
   have c1:=ch8.cell (by simp;omega) c1
   have k1:=hm8.cell 1
   have z1:=hm8.frozen 1
   simp at k1
   have HM8:=hid hm8
   have HR8:=hid (HR7.out.trans ch8 (fun x hx => .inr (by simp at hx;have:=HRM.out;omega)))
   have HCH8:=hid (HCH7.out.trans ch8 (fun x hx => .inr (by simp at hx;have:=HMB.out;have q4:=HCH7.out.size;have:=hW3.out;omega)))
   have HT8:=hid (HT7.out.same ch8 (by simp;omega) (Apt.fresh HCELLS.out (by intro x hx;simp at hx;omega)))
   have HW8:=hid hw8
   have HM0:=hid hM0
   clear hm8 ch8 hw8 hM0
   go_wp2_with fail
   rw [←HM0.out,←HW8.out]
   clear x0 x2 c0 k0 z0
   refine wp_region_quiet_tail 25 (by kernel_rfl) (by kernel_rfl) ?_
   simp only [List.take_succ_cons,List.take_zero,List.drop_succ_cons,List.drop_zero]
   repeat (go_big_quiet_step (fail))
   refine wpQuiet_nil ?_
   intro _ hw'
   obtain ⟨nq2,rfl⟩:=hw'
   obtain ⟨M1,hM1⟩:∃ M1:Int,M1=min (max ((d1:Int)-4) (-(sy:Int))) ((H:Int)-(sy:Int)-(sh:Int)):=⟨_,rfl⟩
   obtain ⟨w9,hw9⟩:∃ w9,w9=(w8.drewN nq2).setCell ⟨mb,1,none⟩ (.int .i64 M1):=⟨_,rfl⟩
   have hm9:Blk w9 mb 55 #[.int .i64 M0,.int .i64 M1]:=by
    rw [hw9]
    have:=(HM8.out.drewN nq2).set_ 1 (.int .i64 M1)
    simpa using this
   have ch9:Chg [mb] w8 w9:=by rw [hw9];exact ((Chg.refl [mb] w8).drewN nq2).setCell (p:=⟨mb,1,none⟩) (.inl (by simp)) _
   have hmv:mvOk W H (sqAt ss i) (M0,M1):=by
    rw [←HSS.out]
    have h0:=HM0.out
    refine ⟨?_,?_,?_,?_,?_,?_,?_,?_⟩<;>simp only<;>omega
   have HMV:=hid hmv
   have HM9:=hid hm9
   have HR9:=hid (HR8.out.trans ch9 (fun x hx => .inr (by simp at hx;have:=HRM.out;omega)))
   have HCH9:=hid (HCH8.out.trans ch9 (fun x hx => .inr (by simp at hx;have:=hW3.out;omega)))
   have HT9:=hid (HT8.out.same ch9 (by simp;omega) (Apt.fresh HCELLS.out (by intro x hx;simp at hx;omega)))
   have HW9:=hid hw9
   have HM1:=hid hM1
   have hbF:∀ x∈F,x∉[b]:=fun x hx hm=>by
    have h1:=HF.out x hx
    have h2:=HCH3.out.size
    have h3:=HLT1.out
    simp at hm
    omega
   have hown:=(HO.out.chg HR9.out hbF).same ((Chg.refl [] w9).alloc (.cells #[.int .i64 M0,.int .i64 M1] 55))
   have hblk:=Blk.new w9 55 #[.int .i64 M0,.int .i64 M1]
   have j0:=hm9.cell 0
   have j1:=hm9.cell 1
   simp at j0 j1
   have HMS:=hid (show Hid (∀ k,k<i+1→mvOk W H (sqAt ss k) ((ms++[(M0,M1)]).getD k (0,0))) from hid (fun k hk=>by
    rcases Nat.lt_or_ge k i with h1 | h1
    ·rw [zD,List.getElem?_append_left (by rw [HML.out];exact h1),←zD]
     exact HM.out k h1
    ·obtain rfl:k=i:=by omega
     rw [zD,show (ms++[(M0,M1)])[k]?=some (M0,M1) by rw [←HML.out];simp]
     exact HMV.out))
   have hj0:=j0
   have hj1:=j1
   rw [hw9,hM1] at hj0 hj1 hown hblk
   clear hmv j0 j1
   go_wp2_with (at_builtin;refine wpList_append_k1 rfl rfl two_elem rfl (by decide) rfl hown [.int .i64 M0,.int .i64 (min (max ((d1:Int)-4) (-(sy:Int))) ((H:Int)-(sy:Int)-(sh:Int)))] rfl rfl ?c1 ?c2 ?c3 ?c4 ?_)
   case c1 =>
    intro q u hq
    match q,hq with
    | 0,hq=>rw [←hq];have hh := hblk.cell 0;simp only [World.size_setCell',heap_size_drewN'] at hh;exact hh
    | 1,hq=>rw [←hq];have hh := hblk.cell 1;simp only [World.size_setCell',heap_size_drewN'] at hh;exact hh
    | q+2,hq=>simp at hq
   case c2=>intro u hu;simp at hu;rcases hu with rfl | rfl<;>rfl
   case c3=>omega
   case c4=>omega
   intro g9 cap9 wF hown9 hgr9
   rw [←hM1] at hown9 hgr9
   rw [←hw9] at hgr9
   have hF0:∀ x∈F,w3.heap.size≤x:=HF.out
   have HO9:=hid hown9
   have HC9:Hid (Chg [b] w3 wF):=hid ((HCH9.out.trans ((Chg.refl [] w9).alloc (.cells #[.int .i64 M0,.int .i64 M1] 55)) (by simp)).trans hgr9.chg (fun x hx => .inr (hF0 x hx)))
   have HTF:=hid ((HT9.out.fresh ((Chg.refl [] w9).alloc (.cells #[.int .i64 M0,.int .i64 M1] 55))).same hgr9.chg (fun hm=>hbF b hm (by simp)) (Apt.fresh HCELLS.out (fun x hx=>by have h1:=hF0 x hx;have h2:=HCH3.out.size;have h3:=HLT1.out;omega)))
   have hnew:Hid (∀ x∈[g9],w3.heap.size≤x):=hid (fun x hx=>by
    rcases hgr9.new x hx with h | h
    ·exact hF0 x h
    ·have h5:=HCH9.out.size
     have h6:=((Chg.refl [] w9).alloc (.cells #[.int .i64 M0,.int .i64 M1] 55)).size
     omega)
   clear hown9 hgr9 hown hblk hj0 hj1 hw9 hM1 hm9 ch9 hF0 hbF
   go_wp2_with fail
   go_roundg j
   case measure=>omega
   case rel =>
    refine ⟨i+1,ms++[(M0,M1)],[g9],a6,by go_num,by omega,hid ?_,hid (by rw [zC,HML.out];rfl),HMS.out,HTF,HC9,hnew⟩
    rw [List.flatMap_append]
    exact HO9.out
end Go.Proofs.YtijpbkakncglgaaGreatDoor
