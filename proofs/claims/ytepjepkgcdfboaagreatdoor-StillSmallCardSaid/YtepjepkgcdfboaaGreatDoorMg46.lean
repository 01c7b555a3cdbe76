/- Laid by the kit's shelf (lay-shelf.mjs, lay-plain.mjs): the contract of slices.SortFunc at [][]int. -/
import Derived.Shelf.SlSortCmp.Whole1
import Derived.Test.YtepjepkgcdfboaaGreatDoorMg45
set_option linter.unusedVariables false
set_option linter.unusedSimpArgs false
set_option maxHeartbeats 1000000
set_option maxRecDepth 100000
namespace Go.Proofs
open Go.Shelf
def Tryz.laysSlF6_f73_ren:Go.Shelf.Ren:=⟨fun | 6=>58 | 15=>94 | 14=>93 | 28=>131 | 29=>132 | 20=>123 | 21=>124 | 22=>125 | 23=>126 | 24=>127 | 25=>128 | 26=>129 | 27=>130 | 46=>171 | 47=>172 | 48=>173 | 49=>174 | 50=>175 | 57=>223 | n=>n,fun | 22=>25 | 24=>22 | 25=>103 | 3=>3 | 39=>59 | 0=>0 | 53=>58 | 55=>37 | 4=>4 | 46=>169 | 45=>168 | 50=>109 | 5=>5 | 9=>9 | 66=>215 | 70=>219 | 76=>259 | 77=>183 | n=>n,fun | n=>n⟩
theorem Tryz.laysSlF6_f73:Go.Proofs.SlLaysF.n6 Tryz.prog Tryz.laysSlF6_f73_ren:={
 mixed:=by kernel_rfl
 f6:=⟨Tryz.f58.name,by decide,Tryz.func58.trans (congrArg some (by kernel_rfl))⟩
 f14:=⟨Tryz.f93.name,by decide,Tryz.func93.trans (congrArg some (by kernel_rfl))⟩
 f15:=Tryz.func94.trans (congrArg some (by kernel_rfl))
 f20:=⟨Tryz.f123.name,by decide,Tryz.func123.trans (congrArg some (by kernel_rfl))⟩
 f21:=⟨Tryz.f124.name,by decide,Tryz.func124.trans (congrArg some (by kernel_rfl))⟩
 f22:=⟨Tryz.f125.name,by decide,Tryz.func125.trans (congrArg some (by kernel_rfl))⟩
 f23:=⟨Tryz.f126.name,by decide,Tryz.func126.trans (congrArg some (by kernel_rfl))⟩
 f24:=⟨Tryz.f127.name,by decide,Tryz.func127.trans (congrArg some (by kernel_rfl))⟩
 f25:=⟨Tryz.f128.name,by decide,Tryz.func128.trans (congrArg some (by kernel_rfl))⟩
 f26:=⟨Tryz.f129.name,by decide,Tryz.func129.trans (congrArg some (by kernel_rfl))⟩
 f27:=⟨Tryz.f130.name,by decide,Tryz.func130.trans (congrArg some (by kernel_rfl))⟩
 f28:=Tryz.func131.trans (congrArg some (by kernel_rfl))
 f29:=Tryz.func132.trans (congrArg some (by kernel_rfl))
 f46:=⟨Tryz.f171.name,by decide,Tryz.func171.trans (congrArg some (by kernel_rfl))⟩
 f47:=Tryz.func172.trans (congrArg some (by kernel_rfl))
 f48:=Tryz.func173.trans (congrArg some (by kernel_rfl))
 f49:=⟨Tryz.f174.name,by decide,Tryz.func174.trans (congrArg some (by kernel_rfl))⟩
 f50:=⟨Tryz.f175.name,by decide,Tryz.func175.trans (congrArg some (by kernel_rfl))⟩
 f57:=⟨Tryz.f223.name,by decide,Tryz.func223.trans (congrArg some (by kernel_rfl))⟩
 t0:=Tryz.underlying0
 a0:=Tryz.isAgg0
 z0:=Tryz.sizeOf0
 v0:=Tryz.zeroValue0
 t3:=Tryz.underlying3
 a3:=Tryz.isAgg3
 z3:=Tryz.sizeOf3
 v3:=Tryz.zeroValue3
 t4:=Tryz.underlying4
 a4:=Tryz.isAgg4
 z4:=Tryz.sizeOf4
 v4:=Tryz.zeroValue4
 t5:=Tryz.underlying5
 a5:=Tryz.isAgg5
 z5:=Tryz.sizeOf5
 v5:=Tryz.zeroValue5
 t9:=Tryz.underlying9
 a9:=Tryz.isAgg9
 z9:=Tryz.sizeOf9
 v9:=Tryz.zeroValue9
 t22:=Tryz.underlying25
 a22:=Tryz.isAgg25
 z22:=Tryz.sizeOf25
 v22:=Tryz.zeroValue25
 a24:=Tryz.isAgg22
 z24:=Tryz.sizeOf22
 t25:=Tryz.underlying103
 a25:=Tryz.isAgg103
 z25:=Tryz.sizeOf103
 v25:=Tryz.zeroValue103
 t39:=Tryz.underlying59
 a39:=Tryz.isAgg59
 z39:=Tryz.sizeOf59
 v39:=Tryz.zeroValue59
 t45:=Tryz.underlying168
 a45:=Tryz.isAgg168
 z45:=Tryz.sizeOf168
 v45:=Tryz.zeroValue168
 t46:=Tryz.underlying169
 a46:=Tryz.isAgg169
 z46:=Tryz.sizeOf169
 v46:=Tryz.zeroValue169
 t50:=Tryz.underlying109
 a50:=Tryz.isAgg109
 z50:=Tryz.sizeOf109
 v50:=Tryz.zeroValue109
 t53:=Tryz.underlying58
 a53:=Tryz.isAgg58
 z53:=Tryz.sizeOf58
 v53:=Tryz.zeroValue58
 t55:=Tryz.underlying37
 a55:=Tryz.isAgg37
 z55:=Tryz.sizeOf37
 v55:=Tryz.zeroValue37
 t66:=Tryz.underlying215
 a66:=Tryz.isAgg215
 z66:=Tryz.sizeOf215
 v66:=Tryz.zeroValue215
 t70:=Tryz.underlying219
 a70:=Tryz.isAgg219
 z70:=Tryz.sizeOf219
 v70:=Tryz.zeroValue219
 t76:=Tryz.underlying259
 a76:=Tryz.isAgg259
 z76:=Tryz.sizeOf259
 v76:=Tryz.zeroValue259
 t77:=Tryz.underlying183
 a77:=Tryz.isAgg183
 z77:=Tryz.sizeOf183
 v77:=Tryz.zeroValue183 }
open Go.RowKit Go.Lib Go.Sort in
theorem Tryz.slices_SortFunc {α:Type} [Inhabited α] (enc:α->Value) (h1:OneCell enc) (cf:α->α->Int) (hO:SWO (ltOf cf)) (g:Nat) (cb:Array Value) (blk off cap:Nat) (d:Array α) (w:World) (eg:∀ args w,(callFunc g args).run Tryz.prog w=.ok (.enter g args) w) (hcmp:CmpLays1 Tryz.prog g cb enc cf blk off d.size w) (hH:Holds enc w blk off d) (hblk:blk<w.heap.size) (hsz:d.size<4611686018427387904) :
  Calls Tryz.prog 58 #[.slice (some ⟨blk,off,none⟩) d.size cap,.func (.func g) #[] cb] w fun e w' =>
   e=.returned (.tuple #[])/\∃ d' n os,PermIn 0 d.size d d'/\SortedIn (ltOf cf) 0 d.size d'/\w'=sortWorld enc w blk off n d' os:=Any.slices_SortFunc Tryz.laysSlF6_f73 enc h1 cf hO g cb blk off cap d w eg hcmp hH hblk hsz
end Go.Proofs

namespace Go.Proofs.YtepjepkgcdfboaaGreatDoor
open Go.RowKit Go.Maps Go.Sort
theorem of1_ok (w:World) (A B:Option Addr) (ca cb:Nat) (a b:List Int) (ha:Cells vi w A a) (hb:Cells vi w B b) (hl:a.length=b.length) (hn:a.length<=4) :
  Calls Tryz.prog 59 #[.slice A a.length ca,.slice B b.length cb] w fun e w'=>e=.returned (.int .i64 (cmpL a b))/\w=w':=by
 have hc:=compare_ok w A B ca cb a b ha hb hl hn
 obtain ⟨n,aa⟩:=zX (a.length)
 obtain ⟨z,hz⟩:=zX (cmpL a b)
 rw [<-hl,<-aa,<-hz] at hc ⊢
 clear ha hb hl hn aa hz
 go_enter Tryz.func59,Tryz.ntmps59
 go_wp2_with fail
 refine hc.mono ?_
 rintro e w' ⟨rfl,rfl⟩
 go_wp2_with fail
 go_ret
 exact ⟨rfl,rfl⟩
theorem PlRows.perm {w:World} {xs:List Value} {C:List (List Int)} {gs:List Nat} (h:PlRows w xs C gs) {ds:List Nat} (hp:ds.Perm (List.range C.length)) (x0:Value) (c0:List Int) :
  PlRows w (ds.map (xs.getD · x0)) (ds.map (C.getD · c0)) (ds.map (gs.getD · 0)):=by
 have ab:∀ k∈ds,k<C.length:=fun k hk=>List.mem_range.1 (hp.mem_iff.1 hk)
 refine ⟨by simp,by simp,?_,fun i l hl => ?_⟩
 ·have e:(List.range C.length).map (gs.getD · 0)=gs:=by
   apply List.ext_getElem (by simp [h.lg])
   intro k h1 h2
   simp [zD,zF h2]
  rw [(hp.map (gs.getD · 0)).nodup_iff,e]
  exact h.nd
 ·rw [zW,Option.map_eq_some_iff] at hl
  obtain ⟨k,hk,e⟩:=hl
  have aa:=ab k (List.mem_of_getElem? hk)
  obtain ⟨u,g,h1,h2,h3⟩:=h.row k (C.getD k c0) (by rw [zD,zF aa];rfl)
  refine ⟨u,g,?_,?_,by rw [<-e];exact h3⟩
  ·rw [zW,hk,Option.map_some,zD,h1];rfl
  ·rw [zW,hk,Option.map_some,zD,h2];rfl
def SortPost (w:World) (n:Nat) (C:List (List Int)) (gP cap:Nat) (gs:List Nat) (e:Ending) (w':World):Prop :=
 e=.returned (.tuple #[])/\∃ (D:List (List Int)) (ys:List Value) (hs:List Nat),D.Perm C/\(D.Pairwise fun a b=>¬ cmpL b a<0)/\Row w' 22 (.slice (some ⟨gP,0,none⟩) D.length cap) gP ys/\PlRows w' ys D hs/\(∀ x∈hs,x∈gs)/\Chg [gP] w w'
theorem sort_cols {w:World} {n:Nat} {C:List (List Int)} {gP cap:Nat} {xs:List Value} {gs:List Nat} (hr:Row w 22 (.slice (some ⟨gP,0,none⟩) C.length cap) gP xs) (hp:PlRows w xs C gs) (hg:gP∉gs) (hn:n<=4)
  (hl:∀ c∈C,c.length=n) (h0:0<C.length) (hm:C.length<=256) :
  Calls Tryz.prog 58 #[.slice (some ⟨gP,0,none⟩) C.length cap,.func (.func 59) #[] #[]] w (SortPost w n C gP cap gs):=by
 have ao:xs.length=C.length:=hp.lx
 obtain ⟨x0,ap⟩:=zX (xs.getD 0 (.slice none 0 0))
 obtain ⟨c0,ak⟩:=zX (C.getD 0 [])
 have ab:∀ k,∃ (g c:Nat),xs.getD k x0=.slice (some ⟨g,0,none⟩) n c/\g∈gs/\Row w 3 (.slice (some ⟨g,0,none⟩) n c) g ((C.getD k c0).map vi)/\(C.getD k c0).length=n:=by
  have ag:∀ k,k<C.length->∃ (g c:Nat),xs[k]?=some (.slice (some ⟨g,0,none⟩) n c)/\g∈gs/\Row w 3 (.slice (some ⟨g,0,none⟩) n c) g ((C.getD k []).map vi)/\(C.getD k []).length=n:=fun k hk=>by
   have hP:C[k]?=some (C.getD k []):=by rw [zD,zF hk];rfl
   obtain ⟨u,g,h1,h2,h3⟩:=hp.row k _ hP
   obtain ⟨c,rfl,aq,_⟩:=h3.open_map
   have aj:=hl _ (List.mem_of_getElem? hP)
   rw [aj] at h1 h3
   exact ⟨g,c,h1,List.mem_of_getElem? h2,h3,aj⟩
  intro k
  rcases zZ k C.length with hk | hk
  ·obtain ⟨g,c,h1,h2,h3,h4⟩:=ag k hk
   have e:C.getD k c0=C.getD k []:=by rw [zD,zD,zF hk];rfl
   exact ⟨g,c,by rw [zD,h1];rfl,h2,by rw [e];exact h3,by rw [e];exact h4⟩
  ·obtain ⟨g,c,h1,h2,h3,h4⟩:=ag 0 h0
   have e:C.getD k c0=C.getD 0 []:=by rw [zD,List.getElem?_eq_none hk,ak];rfl
   exact ⟨g,c,by rw [zD,List.getElem?_eq_none (by omega),ap,zD,h1];rfl,h2,by rw [e];exact h3,by rw [e];exact h4⟩
 have aa:(List.range C.length).map (xs.getD · x0)=xs:=by
  apply List.ext_getElem (by simp [ao])
  intro k h1 h2
  simp [zD,zF h2]
 have ah:Row w 22 (.slice (some ⟨gP,0,none⟩) C.length cap) gP ((List.range C.length).map (xs.getD · x0)):=by rw [aa];exact hr
 have ad:∀ m os (dk:Array Nat),Chg [gP] w (sortWorld (xs.getD · x0) w gP 0 m dk os):=fun m os dk=>(((zR [gP] w).aheadN m).putRow (enc:=(xs.getD · x0)) (.inl (by simp)) 0 dk).growO os
 have af:(List.range C.length).toArray.size=C.length:=by simp
 have hS:=Tryz.slices_SortFunc (α:=Nat) (xs.getD · x0) (fun k=>by obtain ⟨g,c,e,_⟩:=ab k;show (xs.getD k x0).oneCell'=true;rw [e];rfl)
  (fun i j=>cmpL (C.getD i c0) (C.getD j c0)) (swo_cmpL fun i=>C.getD i c0) 59 #[] gP 0 cap (List.range C.length).toArray w
  (enters_of Tryz.func59 (by kernel_rfl) rfl)
  (fun m os dk _ x y=>by
   obtain ⟨g1,c1,e1,m1,r1,l1⟩:=ab x
   obtain ⟨g2,c2,e2,m2,r2,l2⟩:=ab y
   have q1:=r1.chg (ad m os dk) (by simp;exact fun e=>hg (e ▸ m1))
   have q2:=r2.chg (ad m os dk) (by simp;exact fun e=>hg (e ▸ m2))
   have k1:Cells vi _ (some ⟨g1,0,none⟩) _:=q1.toOwn.cells
   have k2:Cells vi _ (some ⟨g2,0,none⟩) _:=q2.toOwn.cells
   show Calls _ _ #[xs.getD x x0,xs.getD y x0] _ _
   have ho:=of1_ok (sortWorld (xs.getD · x0) w gP 0 m dk os) (some ⟨g1,0,none⟩) (some ⟨g2,0,none⟩) c1 c2 _ _ k1 k2 (by rw [l1,l2]) (by omega)
   rw [l1,l2] at ho
   rw [e1,e2]
   refine ho.mono fun e w' h=>⟨h.1,0,#[],?_⟩
   rw [grow_empty]
   exact h.2.symm)
  ah.holds hr.lt (by rw [af];omega)
 rw [af] at hS
 refine hS.mono ?_
 rintro e w' ⟨rfl,d',m,os,an,al,rfl⟩
 have ac:d'.toList.Perm (List.range C.length):=by
  obtain ⟨a1,_,a3⟩:=an
  simp only [af] at a1
  have e1:d'.extract 0 C.length=d':=by rw [<-a1];exact Array.extract_size
  have e2:(List.range C.length).toArray.extract 0 C.length=(List.range C.length).toArray:=by simp
  rw [e1,e2] at a3
  simpa using a3
 have ae:d'.toList.length=C.length:=by rw [ac.length_eq,List.length_range]
 refine ⟨rfl,d'.toList.map (C.getD · c0),d'.toList.map (xs.getD · x0),d'.toList.map (gs.getD · 0),?_,?_,?_,?_,?_,ad m os d'⟩
 ·have e:(List.range C.length).map (C.getD · c0)=C:=by
   apply List.ext_getElem (by simp)
   intro k h1 h2
   simp [zD,zF h2]
  have:=ac.map (C.getD · c0)
  rw [e] at this
  exact this
 ·rw [List.pairwise_map,List.pairwise_iff_getElem]
  intro i j hi hj am
  have:=al i j (Nat.zero_le _) am (by rw [<-ae];exact hj)
  simp only [Array.length_toList] at hi hj
  rw [getElem!_pos d' i hi,getElem!_pos d' j hj] at this
  simpa [ltOf] using this
 ·rw [zE,ae]
  have hq:=(ah.aheadN m).putRow (ys:=d'.toList) (by rw [ae];simp)
  exact hq.growO os
 ·exact (hp.chg (ad m os d') (by simp;exact fun x hx e=>hg (e ▸ hx))).perm ac x0 c0
 ·intro x hx
  obtain ⟨k,hk,rfl⟩:=List.mem_map.1 hx
  have ai:k<gs.length:=by rw [hp.lg];exact List.mem_range.1 (ac.mem_iff.1 hk)
  rw [zD,zF ai]
  exact zG ai
end Go.Proofs.YtepjepkgcdfboaaGreatDoor

namespace Go.Proofs.YtepjepkgcdfboaaGreatDoor
open Go.RowKit Go.Maps
def zPal:Value:=.agg #[.int .i64 0,.int .i64 0,.slice none 0 0]
theorem pal_ret {F:Func} {Q:Ending->World->Prop} {a:Act} {Y:World} {C:Nat} {z0 z1 z2 v0 v1 v2:Value} (hY:PBox Y C z0 z1 z2)
  (h:∀ X,PBox X C v0 v1 v2->Chg [C] Y X->bodyPost Tryz.prog F Q .ret a X) :
  bodyPost Tryz.prog F Q .ret a (((Y.setCell ⟨C,0,none⟩ v0).setCell ⟨C,1,none⟩ v1).setCell ⟨C,2,none⟩ v2):=by
 refine h _ ⟨?_⟩ ?_
 ·have:=((hY.blk.set_ 0 v0).set_ 1 v1).set_ 2 v2
  simpa using this
 ·exact (((zR [C] Y).setCell (p:=⟨C,0,none⟩) (.inl (by simp)) _).setCell (p:=⟨C,1,none⟩) (.inl (by simp)) _).setCell (p:=⟨C,2,none⟩) (.inl (by simp)) _
def OfPost (w:World) (p:PicD) (most:Nat) (e:Ending) (w':World):Prop :=
 Chg [] w w'/\(((palP p).length<=most/\∃ (gP cap:Nat) (xs:List Value) (gs:List Nat),e=.returned (.tuple #[palV p.P.length p.d (palP p).length gP 0 cap,.bool true])/\PalOwn w' p.P.length p.d (palP p) gP cap xs gs/\∀ x∈gP::gs,w.heap.size<=x) \/
  (most<(palP p).length/\e=.returned (.tuple #[zPal,.bool false])))
structure OfSt (w2:World) (p:PicD) (M:Nat) (w:World) (vC:Value) (F:List Nat) (xs:List Value) (gs:List Nat) (i:Nat):Prop where
 own:Own w 22 vC F xs
 pl:PlRows w xs (colsTo p i) gs
 seen:SeenAt p.P.length p.d w M (colsTo p i).length (colsTo p i)
 dg:∀ x∈F,x∉gs
 new:∀ x∈F++gs,w2.heap.size<=x
 chg:Chg [M] w2 w
section
variable {w2 w wa wb wc:World} {p:PicD} {M:Nat} {vC v':Value} {F:List Nat} {xs:List Value} {gs:List Nat} {i g5 g6:Nat} {u:Value}
theorem OfSt.same (h:OfSt w2 p M w vC F xs gs i) (hc:Chg [] w wa):OfSt w2 p M wa vC F xs gs i:=⟨h.own.same hc,h.pl.same hc,MapIs.same h.seen hc,h.dg,h.new,h.chg.trans_same (hc.mono (by simp))⟩
theorem OfSt.skip (h:OfSt w2 p M w vC F xs gs i) (hm:ptC p i∈colsTo p i):OfSt w2 p M w vC F xs gs (i+1):=by
 have e:colsTo p (i+1)=colsTo p i:=by rw [colsTo,if_pos hm]
 exact ⟨h.own,by rw [e];exact h.pl,by rw [e];exact h.seen,h.dg,h.new,h.chg⟩
theorem OfSt.next (h:OfSt w2 p M w vC F xs gs i) (hn:ptC p i∉colsTo p i) (hM:M<w2.heap.size) (hs:SeenAt p.P.length p.d wa M ((colsTo p i).length+1) (colsTo p i++[ptC p i])) (ca:Chg [M] w wa) (cb:Chg [] wa wb) (hg5:wa.heap.size<=g5)
  (r:Row wb 3 u g5 ((ptC p i).map vi)) (rc:Row wc 22 v' g6 (xs++[u])) (gr:Grow F [g6] wb wc):OfSt w2 p M wc v' [g6] (xs++[u]) (gs++[g5]) (i+1):=by
 have e:colsTo p (i+1)=colsTo p i++[ptC p i]:=by rw [colsTo,if_neg hn]
 have ab:∀ x∈F,x≠M:=fun x hx e=>by have:=h.new x (by simp [hx]);omega
 have af:∀ x∈gs,x≠M:=fun x hx e=>by have:=h.new x (by simp [hx]);omega
 have ag:M<w.heap.size:=Nat.lt_of_lt_of_le hM h.chg.size
 have aa:g5∉F:=fun hm=>by have:=h.own.lt g5 hm;have:=ca.size;omega
 have ae:g5∉gs:=fun hm=>by have:=h.pl.lt g5 hm;have:=ca.size;omega
 have ac:∀ x∈gs,x<wb.heap.size:=fun x hx=>by have:=h.pl.lt x hx;have:=ca.size;have:=cb.size;omega
 have ai:∀ x∈F,x<wb.heap.size:=fun x hx=>by have:=h.own.lt x hx;have:=ca.size;have:=cb.size;omega
 have ad:∀ x∈gs,x∉F:=fun x hx hm=>h.dg x hm hx
 have h6:g6∈F\/wb.heap.size<=g6:=gr.new g6 (by simp)
 have ah:=r.lt
 refine ⟨rc.toOwn,?_,?_,?_,?_,?_⟩
 ·rw [e]
  refine (((h.pl.chg ca (by simpa using af)).same cb).snoc r ae).chg gr.chg ?_
  intro x hx hm
  rcases zP.1 hx with h1 | h1
  ·exact ad x h1 hm
  ·simp at h1;subst h1;exact aa hm
 ·rw [e,zC]
  exact MapIs.chg (MapIs.same hs cb) gr.chg (fun hm=>ab M hm rfl)
 ·intro x hx hm
  simp at hx
  subst hx
  rcases zP.1 hm with h1 | h1
  ·rcases h6 with h2 | h2
   ·exact h.dg x h2 h1
   ·have:=ac x h1;omega
  ·simp at h1
   subst h1
   rcases h6 with h2 | h2
   ·exact aa h2
   ·omega
 ·intro x hx
  have:=ca.size
  have:=cb.size
  have:=h.chg.size
  simp only [zP,zJ,List.not_mem_nil,or_false] at hx
  rcases hx with rfl | hx | rfl
  ·rcases h6 with h2 | h2
   ·exact h.new x (by simp [h2])
   ·omega
  ·exact h.new x (by simp [hx])
  ·omega
 ·exact ((h.chg.trans ca (fun x hx => .inl hx)).trans_same (cb.mono (by simp))).trans gr.chg (fun x hx => .inr (h.new x (by simp [hx])))
end
theorem pof_ok {w:World} {p:PicD} {g o:Nat} {B:Nat->Option Addr} {c:Nat->Nat} {G:List Nat} (cap:Nat) (h:PicAt w p g o B c G) (most:Nat) (m0:1<=most) (m1:most<=256) :
  Calls Tryz.prog 20 #[picV p g o cap,.int .i64 most] w (OfPost w p most):=by
 have ah:=h.ok
 have aM:∀ w',Chg [] w w'->_:=fun w' (hc':Chg [] w w')=>is_yes cap (h.same hc')
 obtain ⟨n,hn⟩:=zX (p.P.length)
 obtain ⟨N,hN⟩:=zX (p.W*p.H)
 have aU:n<=4:=by rw [hn];exact ah.n1
 have cj:1<=n:=by rw [hn];exact ah.n0
 have bw:=ah.d1
 have ck:N<=4096:=by rw [hN];exact ah.area
 have bN:0<N:=by rw [hN];exact ah.pos
 have av:∀ i,i<N->∃ y0 y1 y2 y3:Int,colV (ptC p i)=.agg #[.int .i64 y0,.int .i64 y1,.int .i64 y2,.int .i64 y3]/\(∀ k,k<n->(ptC p i)[k]?=some ([y0,y1,y2,y3].getD k 0))/\∀ w',Chg [] w w'->Calls Tryz.prog 56 #[picV p g o cap,.int .i64 i] w' fun e w''=>e=.returned (.agg #[.int .i64 y0,.int .i64 y1,.int .i64 y2,.int .i64 y3])/\Chg [] w' w'':=by
  intro i hi
  refine ⟨_,_,_,_,colV_eq _,fun k hk => ?_,fun w' hc => ?_⟩
  ·have bC:k<(ptC p i).length:=by rw [ptC_len,<-hn];exact hk
   rw [zF bC]
   have e:(ptC p i)[k]=(ptC p i).getD k 0:=by rw [zD,zF bC];rfl
   rw [e]
   rcases (by omega:k=0\/k=1\/k=2\/k=3) with rfl | rfl | rfl | rfl<;>rfl
  ·have:=point_ok cap (h.same hc) i (by rw [<-hN];exact hi)
   rw [colV_eq] at this
   exact this
 have aw:(palP p).length=(colsTo p N).length:=by rw [hN];exact palP_len p
 have ao:∀ i,i<=N->(colsTo p i).length<=(palP p).length:=fun i hi=>by
  have:=colsTo_mono p i (N-i)
  rw [show i+(N-i)=N by omega] at this
  rw [aw]
  exact this
 have bv:∀ i,ColOk p.P.length p.d (ptC p i):=fun i=>⟨ptC_len p i,ptC_smp ah i⟩
 have bs:=palP_ok ah
 unfold OfPost palV
 unfold picV at aM av ⊢
 rw [<-hn] at aM av ⊢
 obtain ⟨w1,aB⟩:=zX ((w.alloc (.cells #[.int .i64 p.W,.int .i64 p.H,.int .i64 p.d,.slice (some ⟨g,o,none⟩) n cap] 27)).alloc (.cells #[.int .i64 0,.int .i64 0,.slice none 0 0] 45))
 obtain ⟨X2,aD⟩:=zX (w.heap.size)
 obtain ⟨X4,aE⟩:=zX (X2+1)
 have aW:Box w1 X2 (.int .i64 p.W) (.int .i64 p.H) (.int .i64 p.d) (.slice (some ⟨g,o,none⟩) n cap):=⟨by rw [aB,aD];exact (Blk.new w _ _).alloc _⟩
 have a6:PBox w1 X4 (.int .i64 0) (.int .i64 0) (.slice none 0 0):=⟨by rw [aB,aE,aD];exact Blk.new2 w _ _ _⟩
 have bF:Chg [] w w1:=by rw [aB];exact ((zR [] w).alloc _).alloc _
 have t1:decide ((most:Int)<1)=false:=zA (by omega)
 have t2:decide ((256:Int)<(most:Int))=false:=zA (by omega)
 have cl:(p.W:Int)*(p.H:Int)=(N:Int):=by rw [hN];simp
 have co:=ah.w1
 have cq:=ah.h1
 have ag:Hid (n=p.P.length/\N=p.W*p.H):=hid ⟨hn,hN⟩
 have HX:Hid (X2=w.heap.size/\X4=X2+1):=hid ⟨aD,aE⟩
 have ar:=hid a6.blk.lt
 have bH:=hid aD
 have b7:=hid aE
 have bU:=hid aB
 have bd:=hid aW
 have bZ:=hid a6
 have aj:=hid bF
 have bO:=hid aM
 have ca:=hid av
 have cp:=hid aw
 have bP:=hid ao
 have bm:=hid bv
 have bW:=hid bs
 have ci:=@run_makeMap Tryz.prog
 obtain ⟨a0,a1,a2,a3⟩:=aW.cells
 clear aB aW a6 bF aM av aw ao bv bs ah h hn hN aD aE
 go_enter Tryz.func20,Tryz.ntmps20
 go_wp2_with fail
 rw [<-bU.out,<-bH.out,<-b7.out]
 refine (bO.out w1 aj.out).mono ?_
 rintro e w2 ⟨rfl,aG⟩
 obtain ⟨a0,a1,a2,a3⟩:=(bd.out.same aG).cells
 obtain ⟨w3,az⟩:=zX (w2.alloc (.map #[] 0))
 obtain ⟨M,hM⟩:=zX (w2.heap.size)
 have bb:Chg [] w2 w3:=by rw [az];exact (zR [] w2).alloc _
 have bj:M<w3.heap.size:=by rw [az,alloc_size,hM];omega
 have aT:OfSt w3 p M w3 (.slice none 0 0) [] [] [] 0:=⟨Own.nil _ _,PlRows.nil _,by rw [az,hM];exact seen_start _ _ _,by simp,by simp,zR _ _⟩
 have b9:=hid az
 have HM:=hid hM
 have aX:=hid bj
 have cd:=hid aT
 have au:=hid (aG.trans_same bb)
 have aI:Hid (w1.heap.size<=M):=hid (by rw [hM];exact aG.size)
 obtain ⟨b0,b1,b2,b3⟩:=(bd.out.same (aG.trans_same bb)).cells
 rw [az] at b0 b1 b2 b3
 clear aG bb bj aT az hM
 go_wp2_with fail
 rw [<-b9.out,<-HM.out]
 clear a0 a1 a2 a3 b0 b1 b2 b3
 go_loopg [7,8,9,28] N (fun j v7 v8 v9 v28 wr=>∃ (i:Nat) (F:List Nat) (xs:List Value) (gs:List Nat),v28=.int .i64 i/\i+j=N/\Hid (OfSt w3 p M wr v7 F xs gs i)/\Hid ((colsTo p i).length<=most))
 case atStart=>exact ⟨0,[],[],[],rfl,by omega,cd,hid (Nat.zero_le _)⟩
 case round =>
  obtain ⟨i,F,xs,gs,rfl,cr,HS,bc⟩:=hrel
  have bB:=fun wz (hz:Chg [M] w3 wz)=>And.intro ((bd.out.same au.out).chg hz (by simp;have:=HX.out;have:=ar.out;have:=aI.out;omega)) ((bZ.out.same au.out).chg hz (by simp;have:=ar.out;have:=aI.out;omega))
  have aS:=hid bB
  clear bB
  rcases gk with _ | j
  ·obtain rfl:i=N:=by omega
   have t3:decide ((i:Int)<(i:Int))=false:=by simp
   have cf:0<(colsTo p i).length:=by
    have h1:ptC p 0∈colsTo p i:=(colsTo_mem p i _).2 ⟨0,bN,rfl⟩
    exact List.length_pos_of_mem h1
   have ai:xs.length=(colsTo p i).length:=HS.out.pl.lx
   have bE:=bc.out
   rcases HS.out.own.cases with ⟨_,he,_⟩ | ⟨gP,aa,hF⟩
   ·exfalso
    rw [he] at ai
    simp at ai
    omega
   have hr:=aa
   obtain ⟨aJ,rfl,_,_,-,-⟩:=aa.open_
   rw [ai] at hr HS ⊢
   have bq:gP∉gs:=HS.out.dg gP (by rw [hF];simp)
   have be:=sort_cols (n:=n) hr HS.out.pl bq aU (fun c' hc'=>by
    obtain ⟨k,_,rfl⟩:=(colsTo_mem p i c').1 hc'
    rw [ptC_len,ag.out.1]) cf (by omega)
   unfold SortPost at be
   have an:=HS.out.new gP (by rw [hF];simp)
   have am:∀ x∈gs,w3.heap.size<=x:=fun x hx=>HS.out.new x (by simp [hx])
   obtain ⟨K,hK⟩:=zX ((colsTo p i).length)
   rw [<-hK] at be bE ⊢
   have HK:=hid hK
   have bI:=hid HS.out.chg
   have bg:=hid an
   have bk:=hid am
   clear hr aa bq ai hK HS an am
   go_wp2_with fail
   refine be.mono ?_
   rintro e w5 ⟨rfl,D,ys,hs,a9,bn,aa,aw,aC,ay⟩
   have bi:D.length=K:=by rw [a9.length_eq,HK.out]
   have cc:D=palP p:=palP_of (by rw [<-ag.out.2];exact a9) (bn.imp fun {a b} h=>by omega)
   subst cc
   have aY:Chg [M] w3 w5:=bI.out.trans ay (fun x hx => .inr (by simp at hx;have:=bg.out;omega))
   obtain ⟨⟨h2⟩,⟨h4⟩⟩:=aS.out w5 aY
   have a0:=h2.cell 0
   have a1:=h2.cell 1
   have a2:=h2.cell 2
   have a3:=h2.cell 3
   have z0:=h4.cell 0
   have z1:=h4.cell 1
   have z2:=h4.cell 2
   have f0:=h4.frozen 0
   have f1:=h4.frozen 1
   have f2:=h4.frozen 2
   simp at a0 a1 a2 a3 z0 z1 z2
   have a8:=hid h4
   have bY:=hid aY
   have aq:=hid aa
   have a4:=hid aw
   have aA:=hid aC
   have a7:=hid bi
   clear h2 h4 aY aa aw aC ay a9 bn bi
   go_wp2_with fail
   refine pal_ret ⟨a8.out⟩ ?_
   intro X hX hY
   obtain ⟨x0,x1,x2⟩:=hX.cells
   refine bodyPost_ret (v:=.tuple #[.agg #[.int .i64 p.d,.int .i64 n,.slice (some ⟨gP,0,none⟩) K aJ],.bool true]) (by simp [results,Tryz.results20,go_sem,x0,x1,x2]) rfl ?_
   have aE:X4<w3.heap.size:=by have:=ar.out;have:=au.out.size;omega
   refine ⟨((aj.out.trans_same au.out).trans bY.out (fun x hx => .inr (by simp at hx;have:=aI.out;have:=aj.out.size;omega))).trans hY (fun x hx => .inr (by simp at hx;have:=HX.out;omega)),.inl ⟨by rw [a7.out];exact bE,gP,aJ,ys,hs,by rw [a7.out],⟨?_,?_,?_⟩,fun x hx => ?_⟩⟩
   ·rw [ag.out.1]
    exact bW.out (by rw [a7.out];omega)
   ·exact aq.out.chg hY (by simp;have:=bg.out;omega)
   ·exact a4.out.chg hY (fun x hx hm=>by simp at hm;have:=bk.out x (aA.out x hx);omega)
   ·have h3:w.heap.size<=w3.heap.size:=by have:=aj.out.size;have:=au.out.size;omega
    rcases zJ.1 hx with rfl | hx
    ·have:=bg.out;omega
    ·have:=bk.out x (aA.out x hx);omega
  ·have hi:i<N:=by omega
   have t3:decide ((i:Int)<(N:Int))=true:=zB (by omega)
   obtain ⟨y0,y1,y2,y3,br,aK,av⟩:=ca.out i hi
   have bD:Chg [] w wr:=(aj.out.trans_same au.out).trans HS.out.chg (fun x hx => .inr (by simp at hx;have:=aI.out;have:=aj.out.size;omega))
   have aL:=av wr bD
   obtain ⟨⟨h1⟩,-⟩:=aS.out wr HS.out.chg
   have a0:=h1.cell 0
   have a1:=h1.cell 1
   have a2:=h1.cell 2
   have a3:=h1.cell 3
   simp at a0 a1 a2 a3
   have bG:=hid br
   have ba:=hid aK
   obtain ⟨wo,bS⟩:=zX (wr)
   subst bS
   clear av br aK h1 bD
   go_wp2_with fail
   refine aL.mono ?_
   rintro e w5 ⟨rfl,ay⟩
   obtain ⟨w6,ax⟩:=zX (w5.alloc (.cells #[.int .i64 y0,.int .i64 y1,.int .i64 y2,.int .i64 y3] 99))
   obtain ⟨X9,aH⟩:=zX (w5.heap.size)
   have bo:Chg [] w5 w6:=by rw [ax];exact (zR [] w5).alloc _
   have ac:Blk w6 X9 99 #[.int .i64 y0,.int .i64 y1,.int .i64 y2,.int .i64 y3]:=by rw [ax,aH];exact Blk.new w5 _ _
   have ae:=hid (HS.out.same (ay.trans_same bo))
   have aQ:=seen_look ae.out.seen (by rw [<-ag.out.1];exact aU) bw (bm.out i)
   rw [bG.out] at aQ
   have k0:=ac.cell 0
   have k1:=ac.cell 1
   have k2:=ac.cell 2
   have k3:=ac.cell 3
   simp at k0 k1 k2 k3
   have aP:=hid ax
   have b5:=hid aH
   have bT:=hid ac
   have a5:Hid (X9≠M/\w3.heap.size<=X9):=hid (by
    have:=HS.out.chg.size
    have:=ay.size
    have:=aX.out
    rw [aH]
    omega)
   rw [ax,aH] at k0 k1 k2 k3
   rw [ax] at aQ
   clear ay bo ax aH ac aL a0 a1 a2 a3
   by_cases hmem:ptC p i∈colsTo p i
   ·rw [zB hmem] at aQ
    have ad:=hid hmem
    clear hmem
    go_wp2_with fail
    rw [<-aP.out]
    go_roundg j
    case measure=>omega
    case rel=>exact ⟨i+1,F,xs,gs,by go_num,by omega,hid (ae.out.skip ad.out),hid (by rw [colsTo,if_pos ad.out];exact bc.out)⟩
   ·rw [zA hmem] at aQ
    have ad:=hid hmem
    clear hmem
    have aO:=bP.out (i+1) hi
    rw [colsTo,if_neg ad.out,zC] at aO
    have aO:(colsTo p i).length+1<=(palP p).length:=aO
    obtain ⟨A7,c7,rfl,ce,cn,bJ,b4⟩:=ae.out.own.open_
    have ai:xs.length=(colsTo p i).length:=ae.out.pl.lx
    obtain ⟨K,hK⟩:=zX ((colsTo p i).length)
    rw [<-hK] at aO ai
    have cm:K<=most:=by rw [hK];exact bc.out
    have HK:=hid hK
    have ch:=hid ai
    rw [ai] at ae ce ⊢
    clear hK ai bJ b4
    by_cases hfull:K=most
    ·have t4:((K:Int)==(most:Int))=true:=by rw [hfull];simp
     obtain ⟨-,⟨h4⟩⟩:=aS.out w6 ae.out.chg
     have z0:=h4.cell 0
     have z1:=h4.cell 1
     have z2:=h4.cell 2
     have f0:=h4.frozen 0
     have f1:=h4.frozen 1
     have f2:=h4.frozen 2
     simp at z0 z1 z2
     have a8:=hid h4
     have aF:=hid hfull
     rw [aP.out] at z0 z1 z2 f0 f1 f2
     clear h4 hfull
     go_wp2_with fail
     rw [<-aP.out]
     refine pal_ret ⟨a8.out⟩ ?_
     intro X hX hY
     obtain ⟨x0,x1,x2⟩:=hX.cells
     refine bodyPost_ret (v:=.tuple #[zPal,.bool false]) (by simp [results,Tryz.results20,go_sem,x0,x1,x2,zPal]) rfl ?_
     refine ⟨?_,.inr ⟨by have:=aF.out;omega,rfl⟩⟩
     exact (((aj.out.trans_same au.out).trans ae.out.chg (fun x hx => .inr (by simp at hx;have:=aI.out;have:=aj.out.size;omega))).trans hY (fun x hx => .inr (by simp at hx;have:=HX.out;omega)))
    ·have t4:((K:Int)==(most:Int))=false:=by simp;omega
     have bX:Hid (K+1<=most):=hid (by omega)
     clear hfull
     obtain ⟨w7,aT,bl,aR⟩:=seen_store ae.out.seen (by rw [<-ag.out.1];exact aU) bw (by rw [<-HK.out];omega) (bm.out i)
     rw [bG.out,aP.out] at aT
     have ac:=bT.out.chg aR (by simp;exact a5.out.1)
     have k0:=ac.cell 0
     have k1:=ac.cell 1
     have k2:=ac.cell 2
     have k3:=ac.cell 3
     simp at k0 k1 k2 k3
     obtain ⟨⟨h2⟩,-⟩:=aS.out w7 (ae.out.chg.trans aR (fun x hx => .inl hx))
     have a0:=h2.cell 0
     have a1:=h2.cell 1
     have a2:=h2.cell 2
     have a3:=h2.cell 3
     simp at a0 a1 a2 a3
     have bK:=arr_to X9 n aU
     have bx:Cells vi w7 (some ⟨X9,0,none⟩) (ptC p i):=⟨fun _=>⟨X9,0,rfl,ac.lt,fun k v hk=>by
      have bR:k<n:=by rw [ag.out.1,<-ptC_len p i];exact (List.getElem?_eq_some_iff.1 hk).1
      have e:=ba.out k bR
      rw [hk] at e
      injection e with e
      rw [Nat.zero_add,ac.cell k,e]
      rcases (by omega:k=0\/k=1\/k=2\/k=3) with rfl | rfl | rfl | rfl<;>rfl⟩⟩
     have ab:=clone_i_ok w7 (some ⟨X9,0,none⟩) 4 (ptC p i) bx (by rw [ptC_len,<-ag.out.1];omega) (by rw [ptC_len,<-ag.out.1];omega)
     rw [ptC_len,<-ag.out.1] at ab
     have b6:=hid bl
     have bu:=hid aR
     rw [b5.out] at k0 k1 k2 k3 bK ab
     have cg:=hid ab
     clear bl aR ac h2 bx ab
     go_wp2_with fail
     refine cg.out.mono ?_
     rintro e w8 ⟨v8,g5,rfl,aa,bf,bA⟩
     have aZ:=aa
     obtain ⟨c8,rfl,_⟩:=aa.open_map
     rw [ptC_len,<-ag.out.1] at aZ ⊢
     obtain ⟨wB,aV⟩:=zX (w8.alloc (.cells #[.slice (some ⟨g5,0,none⟩) n c8] 22))
     have aN:Chg [] w8 wB:=by rw [aV];exact (zR [] w8).alloc _
     have bp:=Blk.new w8 22 #[.slice (some ⟨g5,0,none⟩) n c8]
     have af:=(ae.out.own.chg bu.out (fun x hx=>by have:=ae.out.new x (by simp [hx]);have:=aX.out;simp;omega)).same (bf.trans_same aN)
     have ak:=aZ.chg aN (by simp)
     rw [aV] at af
     have bM:=hid aV
     have aq:=hid ak
     have bQ:=hid (bf.trans_same aN)
     have bL:=hid bA
     have bh:=ch.out
     clear aV aN aa aZ ak bf bA
     go_wp2_with (at_builtin;refine wpList_append_o1 rfl rfl rows_el rfl rfl af (.slice (some ⟨g5,0,none⟩) n c8) rfl ?c1 rfl ?c3 ?c4 ?_)
     case c1=>exact bp.cell 0
     case c3=>rw [bh];omega
     case c4=>rw [bh];omega
     intro g6 bV w9 al ap
     rw [<-bM.out] at ap
     have bz:=ae.out.next ad.out aX.out b6.out bu.out bQ.out bL.out aq.out al ap
     have cb:=hid bz
     clear bz ap al af bp bh
     go_wp2_with fail
     go_roundg j
     case measure=>omega
     case rel=>exact ⟨i+1,[g6],_,_,by go_num,by omega,cb,hid (by rw [colsTo,if_neg ad.out,zC,<-HK.out];exact bX.out)⟩
end Go.Proofs.YtepjepkgcdfboaaGreatDoor

namespace Go.Proofs.YtepjepkgcdfboaaGreatDoor
open Go.RowKit Go.Maps
def placeF (C:List (List Int)) (k:Nat) (c:List Int):Option Lit:=if c∈C.take k then some (.int .i64 (C.idxOf c:Nat)) else none
def PlaceAt (n d:Nat) (w:World) (M:Nat) (C:List (List Int)) (k:Nat):Prop:=MapIs Tryz.prog 99 3 colV (ColOk n d) w M k (placeF C k)
theorem place_start (n d:Nat) (w:World) (C:List (List Int)):PlaceAt n d (w.alloc (.map #[] 0)) w.heap.size C 0:=by
 have h:=MapIs.made w Tryz.prog 99 3 colV (ColOk n d)
 have e:placeF C 0=fun _=>none:=by
  funext c
  unfold placeF
  rw [if_neg (by simp)]
 unfold PlaceAt
 rw [e]
 exact h
theorem place_look {n d:Nat} {w:World} {M:Nat} {C:List (List Int)} (h:PlaceAt n d w M C C.length) (hn:n<=4) (hd:d<=16) {c:List Int} (hc:ColOk n d c) (hm:c∈C) :
  (Instr.lookup 107 (.map (some M)) (colV c) true).run Tryz.prog w=.ok (.tuple #[.int .i64 (C.idxOf c:Nat),.bool true]) w:=by
 refine MapIs.look_int h (col_keys hn hd) col_keyed Tryz.underlying107 Tryz.underlying3 (zero_int w) hc ?_
 unfold placeF
 rw [zN,if_pos hm]
theorem place_store {n d:Nat} {w:World} {M k:Nat} {C:List (List Int)} (h:PlaceAt n d w M C k) (hn:n<=4) (hd:d<=16) (hk:k<C.length) (hk2:k<1000) (hnd:C.Nodup) (hc:ColOk n d (C.getD k [])) :
  ∃ w',(Instr.mapUpdate 107 (.map (some M)) (colV (C.getD k [])) (.int .i64 k)).run Tryz.prog w=.ok () w'/\PlaceAt n d w' M C (k+1)/\Chg [M] w w':=by
 obtain ⟨w',h1,h2,h3⟩:=MapIs.store h (col_keys hn hd) col_keyed Tryz.underlying107 (by unfold maxLen;omega) hc (plainElem_int Tryz.underlying3 (WalkArith.wf_i64 (n:=(k:Int)) (by omega)))
 refine ⟨w',h1,?_,h3⟩
 have hg:C.getD k []=C[k]:=by rw [zD,zF hk];rfl
 have aa:C.idxOf (C.getD k [])=k:=by rw [hg];exact hnd.idxOf_getElem k hk
 have e:(fun x=>if x=C.getD k [] then some (Lit.int .i64 k) else placeF C k x)=placeF C (k+1):=by
  funext x
  unfold placeF
  rw [take_col hk]
  by_cases h1:x=C.getD k []
  ·rw [if_pos h1,if_pos (by simp [h1]),h1,aa]
  ·by_cases h2:x∈C.take k
   ·rw [if_neg h1,if_pos h2,if_pos (by simp [h2])]
   ·rw [if_neg h1,if_neg h2,if_neg (by simp only [zP,zU];exact fun h=>h.elim h2 h1)]
 unfold PlaceAt
 rw [<-e]
 exact h2
theorem idxPl_get {p:PicD} {i:Nat} (hi:i<p.W*p.H):(idxPl p)[i]?=some (((palP p).idxOf (ptC p i):Nat):Int):=by
 unfold idxPl idxP
 rw [zW,zW,List.getElem?_range hi]
 rfl
theorem pindex_ok {w:World} {p:PicD} {g o:Nat} {B:Nat->Option Addr} {c:Nat->Nat} {G:List Nat} (cap:Nat) (h:PicAt w p g o B c G)
  {gL oL:Nat} {BL:Nat->Option Addr} {cL:Nat->Nat} {GL:List Nat} (capL:Nat) (hp:PalAt w p.P.length p.d (palP p) gL oL BL cL GL) :
  Calls Tryz.prog 22 #[picV p g o cap,palV p.P.length p.d (palP p).length gL oL capL] w fun e w'=>∃ g9,e=.returned (.tuple #[.slice (some ⟨g9,0,none⟩) (p.W*p.H) (p.W*p.H),.bool true])/\Row w' 3 (.slice (some ⟨g9,0,none⟩) (p.W*p.H) (p.W*p.H)) g9 ((idxPl p).map vi)/\Chg [] w w'/\w.heap.size<=g9:=by
 have al:=h.ok
 have aw:=hp.ok
 have aB:∀ w',Chg [] w w'->_:=fun w' (hc':Chg [] w w')=>is_yes cap (h.same hc')
 have ab:∀ w',Chg [] w w'->_:=fun w' (hc':Chg [] w w')=>pmay_ok capL (hp.same hc')
 obtain ⟨n,hn⟩:=zX (p.P.length)
 obtain ⟨N,hN⟩:=zX (p.W*p.H)
 obtain ⟨m,hm⟩:=zX ((palP p).length)
 have bg:n<=4:=by rw [hn];exact al.n1
 have be:=al.d1
 have bP:N<=4096:=by rw [hN];exact al.area
 have bR:m<=256:=by rw [hm];exact aw.c1
 have ai:∀ i w',i<N->Chg [] w w'->Calls Tryz.prog 56 #[picV p g o cap,.int .i64 i] w' fun e w''=>e=.returned (colV (ptC p i))/\Chg [] w' w'':=fun i w' hi hc=>point_ok cap (h.same hc) i (by rw [<-hN];exact hi)
 have bd:∀ i,ColOk n p.d (ptC p i):=fun i=>⟨by rw [hn];exact ptC_len p i,ptC_smp al i⟩
 have am:∀ k,k<m->ColOk n p.d ((palP p).getD k []):=fun k hk=>⟨by rw [hn];exact aw.len _ (getD_mem_or (by rw [<-hm];exact hk)),aw.smp _ (getD_mem_or (by rw [<-hm];exact hk))⟩
 have ae:∀ i,i<N->ptC p i∈palP p:=fun i hi=>(palP_mem p _).2 ⟨i,by rw [<-hN];exact hi,rfl⟩
 have aN:=aw.nd
 have aV:=idxPl_len p
 have a5:∀ i,i<N->(idxPl p)[i]?=some (((palP p).idxOf (ptC p i):Nat):Int):=fun i hi=>idxPl_get (by rw [<-hN];exact hi)
 have aZ:∀ i,i<N->(palP p).idxOf (ptC p i)<m:=fun i hi=>by rw [hm];exact List.idxOf_lt_length_of_mem (ae i hi)
 have bU:=run_make1 (P:=Tryz.prog) int_elem rfl .i64 .i64 N (by omega) (by omega)
 obtain ⟨C,hC⟩:=zX (palP p)
 rw [<-hC] at hp ab am ae aN a5 aZ hm ⊢
 rw [<-hN] at aV ⊢
 unfold palV at ab ⊢
 unfold picV at aB ai ⊢
 rw [<-hn] at aB ai ab hp ⊢
 rw [<-hm] at ab ⊢
 obtain ⟨w1,ao⟩:=zX ((w.alloc (.cells #[.int .i64 p.W,.int .i64 p.H,.int .i64 p.d,.slice (some ⟨g,o,none⟩) n cap] 27)).alloc (.cells #[.int .i64 p.d,.int .i64 n,.slice (some ⟨gL,oL,none⟩) m capL] 45))
 obtain ⟨X2,ap⟩:=zX (w.heap.size)
 obtain ⟨X3,aD⟩:=zX (X2+1)
 have aK:Box w1 X2 (.int .i64 p.W) (.int .i64 p.H) (.int .i64 p.d) (.slice (some ⟨g,o,none⟩) n cap):=⟨by rw [ao,ap];exact (Blk.new w _ _).alloc _⟩
 have aG:PBox w1 X3 (.int .i64 p.d) (.int .i64 n) (.slice (some ⟨gL,oL,none⟩) m capL):=⟨by rw [ao,aD,ap];exact Blk.new2 w _ _ _⟩
 have bl:Chg [] w w1:=by rw [ao];exact ((zR [] w).alloc _).alloc _
 have bQ:(p.W:Int)*(p.H:Int)=(N:Int):=by rw [hN];simp
 have bW:=al.w1
 have bX:=al.h1
 have t1:((p.d:Int) != (p.d:Int))=false:=by simp
 have t2:((n:Int) != (n:Int))=false:=by simp
 have HX:Hid (X2=w.heap.size/\X3=X2+1):=hid ⟨ap,aD⟩
 have af:=hid aG.blk.lt
 have bn:=hid ap
 have bG:=hid aD
 have bA:=hid ao
 have aF:=hid aK
 have aR:=hid aG
 have ad:=hid bl
 have bs:=hid aB
 have aX:=hid ab
 have bJ:=hid ai
 have bx:=hid bd
 have bM:=hid am
 have a6:=hid ae
 have bH:=hid aN
 have aL:=hid aV
 have bz:=hid a5
 have bC:=hid aZ
 have a8:=hid hp
 have a9:Hid (m=C.length):=hid hm
 have a7:=hid hp.lt
 have bO:=@run_makeMap Tryz.prog
 obtain ⟨a0,a1,a2,a3⟩:=aK.cells
 obtain ⟨b0,b1,b2⟩:=aG.cells
 clear ao aK aG bl aB ab ai bd am ae aN aV a5 aZ al aw h hp hn hN hm ap aD hC
 go_enter Tryz.func22,Tryz.ntmps22
 go_wp2_with fail
 rw [<-bA.out,<-bn.out,<-bG.out]
 refine (aX.out w1 ad.out).mono ?_
 rintro e w2 ⟨rfl,aP⟩
 obtain ⟨a0,a1,a2,a3⟩:=(aF.out.same aP).cells
 have ax:=hid aP
 clear aP
 go_wp2_with fail
 refine (bs.out w2 (ad.out.trans_same ax.out)).mono ?_
 rintro e w3 ⟨rfl,bh⟩
 have ac:=hid (ax.out.trans_same bh)
 obtain ⟨a0,a1,a2,a3⟩:=(aF.out.same ac.out).cells
 obtain ⟨b0,b1,b2⟩:=(aR.out.same ac.out).cells
 obtain ⟨w4,aA⟩:=zX (w3.alloc (.map #[] 0))
 obtain ⟨M,hM⟩:=zX (w3.heap.size)
 have bk:Chg [] w3 w4:=by rw [aA];exact (zR [] w3).alloc _
 have aY:PlaceAt n p.d w4 M C 0:=by rw [aA,hM];exact place_start _ _ _ _
 have bm:w1.heap.size<=M:=by rw [hM];exact ac.out.size
 have bq:=hid aA
 have HM:=hid hM
 have bp:=hid aY
 have av:=hid bm
 have br:=hid (MapIs.lt aY)
 have ah:=hid (ac.out.trans_same bk)
 obtain ⟨d0,d1,d2⟩:=(aR.out.same ah.out).cells
 rw [aA] at d0 d1 d2
 clear bh aA hM bk aY bm
 go_wp2_with fail
 rw [<-bq.out,<-HM.out]
 clear a0 a1 a2 a3 b0 b1 b2 d0 d1 d2
 go_loopg [7,8,40] m (fun j v7 v8 v40 wr=>∃ k:Nat,v40=.int .i64 k/\k+j=m/\Hid (PlaceAt n p.d wr M C k)/\Hid (Chg [M] w4 wr))
 case atStart=>exact ⟨0,rfl,by omega,bp,hid (zR _ _)⟩
 case round =>
  obtain ⟨k,rfl,bT,HS,an⟩:=hrel
  have ak:∀ wz,Chg [M] w4 wz->PalAt wz n p.d C gL oL BL cL GL:=fun wz hz=>((a8.out.same ad.out).same ah.out).chg hz (fun x hx hm=>by
   have:=a7.out x hx
   have:=ad.out.size
   have:=av.out
   simp at hm
   omega)
  rcases gk with _ | j
  ·obtain rfl:k=m:=by omega
   have t8:decide ((k:Int)<(k:Int))=false:=by simp
   have ag:∀ x,x<w1.heap.size->x∉[M]:=fun x hx hm=>by simp at hm;have:=av.out;omega
   obtain ⟨a0,a1,a2,a3⟩:=((aF.out.same ah.out).chg an.out (ag X2 (by have:=HX.out;have:=af.out;omega))).cells
   obtain ⟨g9,aH⟩:=zX (wr.heap.size)
   obtain ⟨w5,aJ⟩:=zX (wr.alloc (.cells (Array.replicate N (Value.int .i64 0)) 3))
   have ay:Row w5 3 (.slice (some ⟨g9,0,none⟩) N N) g9 ((fillL [] N).map vi):=by
    have:=Row.zeros wr N (by omega)
    rw [List.toArray_replicate] at this
    rw [aJ,aH]
    exact this
   have a4:Chg [] wr w5:=by rw [aJ];exact (zR [] wr).alloc _
   have bf:PlaceAt n p.d w5 M C C.length:=by
    have:=MapIs.same HS.out a4
    rw [a9.out] at this
    exact this
   have ar:M<g9:=by rw [aH];exact Nat.lt_of_lt_of_le br.out an.out.size
   have bu:=hid aJ
   have bK:=hid aH
   have aQ:=hid ay
   have aO:=hid (an.out.trans_same (a4.mono (F':=[M]) (by simp)))
   have bB:=hid bf
   have aj:=hid ar
   clear aJ aH ay a4 bf ar ak ag HS
   go_wp2_with fail
   rw [<-bu.out,<-bK.out]
   clear a0 a1 a2 a3
   go_loopg [10,11,12,58,61] N (fun j2 v10 v11 v12 v58 v61 wr=>∃ i:Nat,v58=.int .i64 i/\i+j2=N/\Hid (Row wr 3 (.slice (some ⟨g9,0,none⟩) N N) g9 ((fillL ((idxPl p).take i) N).map vi))/\Hid (PlaceAt n p.d wr M C C.length)/\Hid (Chg [M,g9] w4 wr))
   case atStart=>exact ⟨0,rfl,by omega,aQ,bB,hid (aO.out.mono (by simp +contextual))⟩
   case round =>
    obtain ⟨i,rfl,bY,HR,HS,aE⟩:=hrel
    have bI:w1.heap.size<=g9:=by have:=aj.out;have:=av.out;omega
    have ag:∀ x,x<w1.heap.size->x∉[M,g9]:=fun x hx hm=>by simp at hm;have:=av.out;have:=aj.out;omega
    rcases gk with _ | j2
    ·obtain rfl:i=N:=by omega
     have t9:decide ((i:Int)<(i:Int))=false:=by simp
     have hE:=(ad.out.trans_same ah.out).trans aE.out (fun x hx => .inr (by have h1:¬ x<w1.heap.size:=fun h=>ag x h hx;have:=ad.out.size;omega))
     have hr:=HR.out
     have e:fillL ((idxPl p).take i) i=idxPl p:=by
      have:=fill_all (idxPl p)
      rw [aL.out] at this
      exact this
     rw [e] at hr
     go_wp2_with fail
     refine bodyPost_ret (v:=.tuple #[.slice (some ⟨g9,0,none⟩) i i,.bool true]) (by simp [results,Tryz.results22,go_sem]) rfl ?_
     exact ⟨g9,rfl,hr,hE,by have:=ad.out.size;omega⟩
    ·have hi:i<N:=by omega
     have t9:decide ((i:Int)<(N:Int))=true:=zB (by omega)
     have bc:Chg [] w wr:=(ad.out.trans_same ah.out).trans aE.out (fun x hx => .inr (by have h1:¬ x<w1.heap.size:=fun h=>ag x h hx;have:=ad.out.size;omega))
     have ai:=bJ.out i wr hi bc
     obtain ⟨a0,a1,a2,a3⟩:=((aF.out.same ah.out).chg aE.out (ag X2 (by have:=HX.out;have:=af.out;omega))).cells
     have az:((idxPl p).take i).length=i:=by rw [zI,aL.out];omega
     have bv:=bC.out i hi
     obtain ⟨x,hx⟩:=zX (C.idxOf (ptC p i))
     rw [<-hx] at bv
     have aq:(idxPl p).take (i+1)=(idxPl p).take i++[(x:Int)]:=by
      have h1:i<(idxPl p).length:=by rw [aL.out];exact hi
      have h2:=bz.out i hi
      rw [zF h1,<-hx] at h2
      injection h2 with h2
      rw [List.take_succ_eq_append_getElem h1,h2]
     obtain ⟨wo,aS⟩:=zX (wr)
     subst aS
     have bN:=hid hx
     have aW:=hid aq
     have aC:=hid az
     clear bc hx aq az bI ag
     go_wp2_with fail
     refine ai.mono ?_
     rintro e w6 ⟨rfl,au⟩
     have bD:=place_look (MapIs.same HS.out au) bg be (bx.out i) (a6.out i hi)
     rw [<-bN.out] at bD
     have aM:=HR.out.chg au (by simp)
     have bb:=aM.fill_cell (by rw [aC.out];exact hi)
     rw [aC.out] at bb
     obtain ⟨bV,bS⟩:=bb
     have aI:=aM.fill (by rw [aC.out];exact hi) (x:Int)
     rw [aC.out,<-aW.out] at aI
     have bi:=HS.out.same au
     have bE:Hid (PlaceAt n p.d (w6.setCell ⟨g9,i,none⟩ (.int .i64 x)) M C C.length):=hid (MapIs.chg bi ((zR [g9] w6).setCell (p:=⟨g9,i,none⟩) (.inl (by simp)) _) (by simp;have:=aj.out;omega))
     have bL:=hid aI
     have bo:Hid (Chg [M,g9] w4 (w6.setCell ⟨g9,i,none⟩ (.int .i64 x))):=hid ((aE.out.trans_same (au.mono (by simp))).setCell (.inl (by simp)) _)
     clear aI au aM bi ai a0 a1 a2 a3
     go_wp2_with fail
     go_roundg j2
     case measure=>omega
     case rel=>exact ⟨i+1,by go_num,by omega,bL,bE,bo⟩
  ·have hk:k<m:=by omega
   have t8:decide ((k:Int)<(m:Int))=true:=zB (by omega)
   have bj:k<C.length:=by rw [<-a9.out];exact hk
   obtain ⟨b,q,e1,-,e3⟩:=pal_round (ak wr an.out) bj
   obtain ⟨b0,b1,b2⟩:=((aR.out.same ah.out).chg an.out (by simp;have:=HX.out;have:=af.out;have:=av.out;omega)).cells
   have aa:=fun wz (hz:Chg [] wr wz)=>place_store (MapIs.same HS.out hz) bg be bj (by omega) bH.out (bM.out k hk)
   obtain ⟨cc,am⟩:=zX (C.getD k [])
   rw [<-am] at e3 aa
   have aT:=hid aa
   have bw:=hid e3
   obtain ⟨wo,aS⟩:=zX (wr)
   subst aS
   clear am e3 aa ak
   go_wp2_with fail
   refine (bw.out _ (zR _ _)).mono ?_
   rintro e wA ⟨rfl,aU⟩
   obtain ⟨wB,aI,aq,ba⟩:=aT.out wA aU
   have aW:=hid aq
   have bF:Hid (Chg [M] w4 wB):=hid ((an.out.trans_same (aU.mono (by simp))).trans_same ba)
   clear aq aU ba
   go_wp2_with fail
   go_roundg j
   case measure=>omega
   case rel=>exact ⟨k+1,by go_num,by omega,aW,bF⟩
end Go.Proofs.YtepjepkgcdfboaaGreatDoor
