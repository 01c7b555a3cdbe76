/- Laid by the kit's shelf (lay-shelf.mjs, lay-plain.mjs): the contract of slices.SortFunc at [][]int. -/
import Derived.Shelf.SlSortCmp.Whole1
import Derived.Test.YtepjepkgcdfboaaGreatDoorMg45
set_option linter.unusedVariables false
set_option linter.unusedSimpArgs false
set_option maxHeartbeats 1000000
set_option maxRecDepth 100000
namespace Go.Proofs
open Go.Shelf
def Tryz.laysSlF6_f73_ren:Go.Shelf.Ren:=⟨fun | 6=>58 | 15=>94 | 14=>93 | 28=>131 | 29=>132 | 20=>123 | 21=>124 | 22=>125 | 23=>126 | 24=>127 | 25=>128 | 26=>129 | 27=>130 | 46=>171 | 47=>172 | 48=>173 | 49=>174 | 50=>175 | 57=>223 | n=>n,fun | 22=>25 | 24=>22 | 25=>103 | 3=>3 | 39=>59 | 0=>0 | 53=>58 | 55=>37 | 4=>4 | 46=>169 | 45=>168 | 50=>109 | 5=>5 | 9=>9 | 66=>215 | 70=>219 | 76=>259 | 77=>183 | n=>n,fun | n=>n⟩
theorem Tryz.laysSlF6_f73:Go.Proofs.SlLaysF.n6 Tryz.prog Tryz.laysSlF6_f73_ren:={
 mixed:=by kernel_rfl
 f6:=⟨Tryz.f58.name,by decide,Tryz.func58.trans (congrArg some (by kernel_rfl))⟩
 f14:=⟨Tryz.f93.name,by decide,Tryz.func93.trans (congrArg some (by kernel_rfl))⟩
 f15:=Tryz.func94.trans (congrArg some (by kernel_rfl))
 f20:=⟨Tryz.f123.name,by decide,Tryz.func123.trans (congrArg some (by kernel_rfl))⟩
 f21:=⟨Tryz.f124.name,by decide,Tryz.func124.trans (congrArg some (by kernel_rfl))⟩
 f22:=⟨Tryz.f125.name,by decide,Tryz.func125.trans (congrArg some (by kernel_rfl))⟩
 f23:=⟨Tryz.f126.name,by decide,Tryz.func126.trans (congrArg some (by kernel_rfl))⟩
 f24:=⟨Tryz.f127.name,by decide,Tryz.func127.trans (congrArg some (by kernel_rfl))⟩
 f25:=⟨Tryz.f128.name,by decide,Tryz.func128.trans (congrArg some (by kernel_rfl))⟩
 f26:=⟨Tryz.f129.name,by decide,Tryz.func129.trans (congrArg some (by kernel_rfl))⟩
 f27:=⟨Tryz.f130.name,by decide,Tryz.func130.trans (congrArg some (by kernel_rfl))⟩
 f28:=Tryz.func131.trans (congrArg some (by kernel_rfl))
 f29:=Tryz.func132.trans (congrArg some (by kernel_rfl))
 f46:=⟨Tryz.f171.name,by decide,Tryz.func171.trans (congrArg some (by kernel_rfl))⟩
 f47:=Tryz.func172.trans (congrArg some (by kernel_rfl))
 f48:=Tryz.func173.trans (congrArg some (by kernel_rfl))
 f49:=⟨Tryz.f174.name,by decide,Tryz.func174.trans (congrArg some (by kernel_rfl))⟩
 f50:=⟨Tryz.f175.name,by decide,Tryz.func175.trans (congrArg some (by kernel_rfl))⟩
 f57:=⟨Tryz.f223.name,by decide,Tryz.func223.trans (congrArg some (by kernel_rfl))⟩
 t0:=Tryz.underlying0
 a0:=Tryz.isAgg0
 z0:=Tryz.sizeOf0
 v0:=Tryz.zeroValue0
 t3:=Tryz.underlying3
 a3:=Tryz.isAgg3
 z3:=Tryz.sizeOf3
 v3:=Tryz.zeroValue3
 t4:=Tryz.underlying4
 a4:=Tryz.isAgg4
 z4:=Tryz.sizeOf4
 v4:=Tryz.zeroValue4
 t5:=Tryz.underlying5
 a5:=Tryz.isAgg5
 z5:=Tryz.sizeOf5
 v5:=Tryz.zeroValue5
 t9:=Tryz.underlying9
 a9:=Tryz.isAgg9
 z9:=Tryz.sizeOf9
 v9:=Tryz.zeroValue9
 t22:=Tryz.underlying25
 a22:=Tryz.isAgg25
 z22:=Tryz.sizeOf25
 v22:=Tryz.zeroValue25
 a24:=Tryz.isAgg22
 z24:=Tryz.sizeOf22
 t25:=Tryz.underlying103
 a25:=Tryz.isAgg103
 z25:=Tryz.sizeOf103
 v25:=Tryz.zeroValue103
 t39:=Tryz.underlying59
 a39:=Tryz.isAgg59
 z39:=Tryz.sizeOf59
 v39:=Tryz.zeroValue59
 t45:=Tryz.underlying168
 a45:=Tryz.isAgg168
 z45:=Tryz.sizeOf168
 v45:=Tryz.zeroValue168
 t46:=Tryz.underlying169
 a46:=Tryz.isAgg169
 z46:=Tryz.sizeOf169
 v46:=Tryz.zeroValue169
 t50:=Tryz.underlying109
 a50:=Tryz.isAgg109
 z50:=Tryz.sizeOf109
 v50:=Tryz.zeroValue109
 t53:=Tryz.underlying58
 a53:=Tryz.isAgg58
 z53:=Tryz.sizeOf58
 v53:=Tryz.zeroValue58
 t55:=Tryz.underlying37
 a55:=Tryz.isAgg37
 z55:=Tryz.sizeOf37
 v55:=Tryz.zeroValue37
 t66:=Tryz.underlying215
 a66:=Tryz.isAgg215
 z66:=Tryz.sizeOf215
 v66:=Tryz.zeroValue215
 t70:=Tryz.underlying219
 a70:=Tryz.isAgg219
 z70:=Tryz.sizeOf219
 v70:=Tryz.zeroValue219
 t76:=Tryz.underlying259
 a76:=Tryz.isAgg259
 z76:=Tryz.sizeOf259
 v76:=Tryz.zeroValue259
 t77:=Tryz.underlying183
 a77:=Tryz.isAgg183
 z77:=Tryz.sizeOf183
 v77:=Tryz.zeroValue183 }
open Go.RowKit Go.Lib Go.Sort in
theorem Tryz.slices_SortFunc {α:Type} [Inhabited α] (enc:α->Value) (h1:OneCell enc) (cf:α->α->Int) (hO:SWO (ltOf cf)) (g:Nat) (cb:Array Value) (blk off cap:Nat) (d:Array α) (w:World) (eg:∀ args w,(callFunc g args).run Tryz.prog w=.ok (.enter g args) w) (hcmp:CmpLays1 Tryz.prog g cb enc cf blk off d.size w) (hH:Holds enc w blk off d) (hblk:blk<w.heap.size) (hsz:d.size<4611686018427387904) :
  Calls Tryz.prog 58 #[.slice (some ⟨blk,off,none⟩) d.size cap,.func (.func g) #[] cb] w fun e w' =>
   e=.returned (.tuple #[])/\∃ d' n os,PermIn 0 d.size d d'/\SortedIn (ltOf cf) 0 d.size d'/\w'=sortWorld enc w blk off n d' os:=Any.slices_SortFunc Tryz.laysSlF6_f73 enc h1 cf hO g cb blk off cap d w eg hcmp hH hblk hsz
end Go.Proofs

namespace Go.Proofs.YtepjepkgcdfboaaGreatDoor
open Go.RowKit Go.Maps Go.Sort
theorem f3w (w:World) (A B:Option Addr) (ca cb:Nat) (a b:List Int) (ha:a0d vi w A a) (hb:a0d vi w B b) (hl:a.length=b.length) (hn:a.length<=4) :
  Calls Tryz.prog 59 #[.slice A a.length ca,.slice B b.length cb] w fun e w'=>e=.returned (.int .i64 (a8i a b))/\w=w':=by
 have hc:=d8k w A B ca cb a b ha hb hl hn
 obtain ⟨n,aa⟩:=zX (a.length)
 obtain ⟨z,hz⟩:=zX (a8i a b)
 rw [<-hl,<-aa,<-hz] at hc ⊢
 clear ha hb hl hn aa hz
 go_enter Tryz.func59,Tryz.ntmps59
 go_wp2_with fail
 refine hc.mono ?_
 rintro e w' ⟨rfl,rfl⟩
 go_wp2_with fail
 go_ret
 exact ⟨rfl,rfl⟩
theorem a2k.perm {w:World} {xs:List Value} {C:List (List Int)} {gs:List Nat} (h:a2k w xs C gs) {ds:List Nat} (hp:ds.Perm (List.range C.length)) (x0:Value) (c0:List Int) :
  a2k w (ds.map (xs.getD · x0)) (ds.map (C.getD · c0)) (ds.map (gs.getD · 0)):=by
 have aa:∀ k∈ds,k<C.length:=fun k hk=>List.mem_range.1 (hp.mem_iff.1 hk)
 refine ⟨by simp,by simp,?_,fun i l hl => ?_⟩
 ·have e:(List.range C.length).map (gs.getD · 0)=gs:=by
   apply List.ext_getElem (by simp [h.lg])
   intro k h1 h2
   simp [zD,zF h2]
  rw [(hp.map (gs.getD · 0)).nodup_iff,e]
  exact h.nd
 ·rw [zW,Option.map_eq_some_iff] at hl
  obtain ⟨k,hk,e⟩:=hl
  have ab:=aa k (List.mem_of_getElem? hk)
  obtain ⟨u,g,h1,h2,h3⟩:=h.row k (C.getD k c0) (by rw [zD,zF ab];rfl)
  refine ⟨u,g,?_,?_,by rw [<-e];exact h3⟩
  ·rw [zW,hk,Option.map_some,zD,h1];rfl
  ·rw [zW,hk,Option.map_some,zD,h2];rfl
def d5e (w:World) (n:Nat) (C:List (List Int)) (gP cap:Nat) (gs:List Nat) (e:Ending) (w':World):Prop :=
 e=.returned (.tuple #[])/\∃ (D:List (List Int)) (ys:List Value) (hs:List Nat),D.Perm C/\(D.Pairwise fun a b=>¬ a8i b a<0)/\Row w' 22 (.slice (some ⟨gP,0,none⟩) D.length cap) gP ys/\a2k w' ys D hs/\(∀ x∈hs,x∈gs)/\Chg [gP] w w'
theorem e5s {w:World} {n:Nat} {C:List (List Int)} {gP cap:Nat} {xs:List Value} {gs:List Nat} (hr:Row w 22 (.slice (some ⟨gP,0,none⟩) C.length cap) gP xs) (hp:a2k w xs C gs) (hg:gP∉gs) (hn:n<=4)
  (hl:∀ c∈C,c.length=n) (h0:0<C.length) (hm:C.length<=256) :
  Calls Tryz.prog 58 #[.slice (some ⟨gP,0,none⟩) C.length cap,.func (.func 59) #[] #[]] w (d5e w n C gP cap gs):=by
 have ak:xs.length=C.length:=hp.lx
 obtain ⟨x0,am⟩:=zX (xs.getD 0 (.slice none 0 0))
 obtain ⟨c0,an⟩:=zX (C.getD 0 [])
 have aa:∀ k,∃ (g c:Nat),xs.getD k x0=.slice (some ⟨g,0,none⟩) n c/\g∈gs/\Row w 3 (.slice (some ⟨g,0,none⟩) n c) g ((C.getD k c0).map vi)/\(C.getD k c0).length=n:=by
  have ai:∀ k,k<C.length->∃ (g c:Nat),xs[k]?=some (.slice (some ⟨g,0,none⟩) n c)/\g∈gs/\Row w 3 (.slice (some ⟨g,0,none⟩) n c) g ((C.getD k []).map vi)/\(C.getD k []).length=n:=fun k hk=>by
   have hP:C[k]?=some (C.getD k []):=by rw [zD,zF hk];rfl
   obtain ⟨u,g,h1,h2,h3⟩:=hp.row k _ hP
   obtain ⟨c,rfl,aq,_⟩:=h3.oq
   have ah:=hl _ (List.mem_of_getElem? hP)
   rw [ah] at h1 h3
   exact ⟨g,c,h1,List.mem_of_getElem? h2,h3,ah⟩
  intro k
  rcases zZ k C.length with hk | hk
  ·obtain ⟨g,c,h1,h2,h3,h4⟩:=ai k hk
   have e:C.getD k c0=C.getD k []:=by rw [zD,zD,zF hk];rfl
   exact ⟨g,c,by rw [zD,h1];rfl,h2,by rw [e];exact h3,by rw [e];exact h4⟩
  ·obtain ⟨g,c,h1,h2,h3,h4⟩:=ai 0 h0
   have e:C.getD k c0=C.getD 0 []:=by rw [zD,List.getElem?_eq_none hk,an];rfl
   exact ⟨g,c,by rw [zD,List.getElem?_eq_none (by omega),am,zD,h1];rfl,h2,by rw [e];exact h3,by rw [e];exact h4⟩
 have ab:(List.range C.length).map (xs.getD · x0)=xs:=by
  apply List.ext_getElem (by simp [ak])
  intro k h1 h2
  simp [zD,zF h2]
 have ag:Row w 22 (.slice (some ⟨gP,0,none⟩) C.length cap) gP ((List.range C.length).map (xs.getD · x0)):=by rw [ab];exact hr
 have ad:∀ m os (dk:Array Nat),Chg [gP] w (sortWorld (xs.getD · x0) w gP 0 m dk os):=fun m os dk=>(((zR [gP] w).aheadN m).putRow (enc:=(xs.getD · x0)) (.inl (by simp)) 0 dk).growO os
 have af:(List.range C.length).toArray.size=C.length:=by simp
 have hS:=Tryz.slices_SortFunc (α:=Nat) (xs.getD · x0) (fun k=>by obtain ⟨g,c,e,_⟩:=aa k;show (xs.getD k x0).oneCell'=true;rw [e];rfl)
  (fun i j=>a8i (C.getD i c0) (C.getD j c0)) (f0b fun i=>C.getD i c0) 59 #[] gP 0 cap (List.range C.length).toArray w
  (enters_of Tryz.func59 (by kernel_rfl) rfl)
  (fun m os dk _ x y=>by
   obtain ⟨g1,c1,e1,m1,r1,l1⟩:=aa x
   obtain ⟨g2,c2,e2,m2,r2,l2⟩:=aa y
   have q1:=r1.chg (ad m os dk) (by simp;exact fun e=>hg (e ▸ m1))
   have q2:=r2.chg (ad m os dk) (by simp;exact fun e=>hg (e ▸ m2))
   have k1:a0d vi _ (some ⟨g1,0,none⟩) _:=q1.toOwn.cells
   have k2:a0d vi _ (some ⟨g2,0,none⟩) _:=q2.toOwn.cells
   show Calls _ _ #[xs.getD x x0,xs.getD y x0] _ _
   have ho:=f3w (sortWorld (xs.getD · x0) w gP 0 m dk os) (some ⟨g1,0,none⟩) (some ⟨g2,0,none⟩) c1 c2 _ _ k1 k2 (by rw [l1,l2]) (by omega)
   rw [l1,l2] at ho
   rw [e1,e2]
   refine ho.mono fun e w' h=>⟨h.1,0,#[],?_⟩
   rw [grow_empty]
   exact h.2.symm)
  ag.holds hr.lt (by rw [af];omega)
 rw [af] at hS
 refine hS.mono ?_
 rintro e w' ⟨rfl,d',m,os,al,ao,rfl⟩
 have ac:d'.toList.Perm (List.range C.length):=by
  obtain ⟨a1,_,a3⟩:=al
  simp only [af] at a1
  have e1:d'.extract 0 C.length=d':=by rw [<-a1];exact Array.extract_size
  have e2:(List.range C.length).toArray.extract 0 C.length=(List.range C.length).toArray:=by simp
  rw [e1,e2] at a3
  simpa using a3
 have ae:d'.toList.length=C.length:=by rw [ac.length_eq,List.length_range]
 refine ⟨rfl,d'.toList.map (C.getD · c0),d'.toList.map (xs.getD · x0),d'.toList.map (gs.getD · 0),?_,?_,?_,?_,?_,ad m os d'⟩
 ·have e:(List.range C.length).map (C.getD · c0)=C:=by
   apply List.ext_getElem (by simp)
   intro k h1 h2
   simp [zD,zF h2]
  have:=ac.map (C.getD · c0)
  rw [e] at this
  exact this
 ·rw [List.pairwise_map,List.pairwise_iff_getElem]
  intro i j hi hj ap
  have:=ao i j (Nat.zero_le _) ap (by rw [<-ae];exact hj)
  simp only [Array.length_toList] at hi hj
  rw [getElem!_pos d' i hi,getElem!_pos d' j hj] at this
  simpa [ltOf] using this
 ·rw [zE,ae]
  have hq:=(ag.aheadN m).putRow (ys:=d'.toList) (by rw [ae];simp)
  exact hq.growO os
 ·exact (hp.chg (ad m os d') (by simp;exact fun x hx e=>hg (e ▸ hx))).perm ac x0 c0
 ·intro x hx
  obtain ⟨k,hk,rfl⟩:=List.mem_map.1 hx
  have aj:k<gs.length:=by rw [hp.lg];exact List.mem_range.1 (ac.mem_iff.1 hk)
  rw [zD,zF aj]
  exact zG aj
end Go.Proofs.YtepjepkgcdfboaaGreatDoor

namespace Go.Proofs.YtepjepkgcdfboaaGreatDoor
open Go.RowKit Go.Maps
def f4u:Value:=.agg #[.int .i64 0,.int .i64 0,.slice none 0 0]
theorem d4b {F:Func} {Q:Ending->World->Prop} {a:Act} {Y:World} {C:Nat} {z0 z1 z2 v0 v1 v2:Value} (hY:c4m Y C z0 z1 z2)
  (h:∀ X,c4m X C v0 v1 v2->Chg [C] Y X->bodyPost Tryz.prog F Q .ret a X) :
  bodyPost Tryz.prog F Q .ret a (((Y.setCell ⟨C,0,none⟩ v0).setCell ⟨C,1,none⟩ v1).setCell ⟨C,2,none⟩ v2):=by
 refine h _ ⟨?_⟩ ?_
 ·have:=((hY.blk.set_ 0 v0).set_ 1 v1).set_ 2 v2
  simpa using this
 ·exact (((zR [C] Y).setCell (p:=⟨C,0,none⟩) (.inl (by simp)) _).setCell (p:=⟨C,1,none⟩) (.inl (by simp)) _).setCell (p:=⟨C,2,none⟩) (.inl (by simp)) _
def e1c (w:World) (p:a2a) (most:Nat) (e:Ending) (w':World):Prop :=
 Chg [] w w'/\(((a2y p).length<=most/\∃ (gP cap:Nat) (xs:List Value) (gs:List Nat),e=.returned (.tuple #[d1i p.P.length p.d (a2y p).length gP 0 cap,.bool true])/\b3f w' p.P.length p.d (a2y p) gP cap xs gs/\∀ x∈gP::gs,w.heap.size<=x) \/
  (most<(a2y p).length/\e=.returned (.tuple #[f4u,.bool false])))
structure e1d (w2:World) (p:a2a) (M:Nat) (w:World) (vC:Value) (F:List Nat) (xs:List Value) (gs:List Nat) (i:Nat):Prop where
 own:Own w 22 vC F xs
 pl:a2k w xs (a0z p i) gs
 seen:b4q p.P.length p.d w M (a0z p i).length (a0z p i)
 dg:∀ x∈F,x∉gs
 new:∀ x∈F++gs,w2.heap.size<=x
 chg:Chg [M] w2 w
section
variable {w2 w wa wb wc:World} {p:a2a} {M:Nat} {vC v':Value} {F:List Nat} {xs:List Value} {gs:List Nat} {i g5 g6:Nat} {u:Value}
theorem e1d.same (h:e1d w2 p M w vC F xs gs i) (hc:Chg [] w wa):e1d w2 p M wa vC F xs gs i:=⟨h.own.same hc,h.pl.same hc,a4f.same h.seen hc,h.dg,h.new,h.chg.tq (hc.mono (by simp))⟩
theorem e1d.skip (h:e1d w2 p M w vC F xs gs i) (hm:ptC p i∈a0z p i):e1d w2 p M w vC F xs gs (i+1):=by
 have e:a0z p (i+1)=a0z p i:=by rw [a0z,if_pos hm]
 exact ⟨h.own,by rw [e];exact h.pl,by rw [e];exact h.seen,h.dg,h.new,h.chg⟩
theorem e1d.next (h:e1d w2 p M w vC F xs gs i) (hn:ptC p i∉a0z p i) (hM:M<w2.heap.size) (hs:b4q p.P.length p.d wa M ((a0z p i).length+1) (a0z p i++[ptC p i])) (ca:Chg [M] w wa) (cb:Chg [] wa wb) (hg5:wa.heap.size<=g5)
  (r:Row wb 3 u g5 ((ptC p i).map vi)) (rc:Row wc 22 v' g6 (xs++[u])) (gr:a0u F [g6] wb wc):e1d w2 p M wc v' [g6] (xs++[u]) (gs++[g5]) (i+1):=by
 have e:a0z p (i+1)=a0z p i++[ptC p i]:=by rw [a0z,if_neg hn]
 have ae:∀ x∈F,x≠M:=fun x hx e=>by have:=h.new x (by simp [hx]);omega
 have af:∀ x∈gs,x≠M:=fun x hx e=>by have:=h.new x (by simp [hx]);omega
 have ag:M<w.heap.size:=Nat.lt_of_lt_of_le hM h.chg.size
 have aa:g5∉F:=fun hm=>by have:=h.own.lt g5 hm;have:=ca.size;omega
 have ab:g5∉gs:=fun hm=>by have:=h.pl.lt g5 hm;have:=ca.size;omega
 have ac:∀ x∈gs,x<wb.heap.size:=fun x hx=>by have:=h.pl.lt x hx;have:=ca.size;have:=cb.size;omega
 have ah:∀ x∈F,x<wb.heap.size:=fun x hx=>by have:=h.own.lt x hx;have:=ca.size;have:=cb.size;omega
 have ad:∀ x∈gs,x∉F:=fun x hx hm=>h.dg x hm hx
 have h6:g6∈F\/wb.heap.size<=g6:=gr.new g6 (by simp)
 have ai:=r.lt
 refine ⟨rc.toOwn,?_,?_,?_,?_,?_⟩
 ·rw [e]
  refine (((h.pl.chg ca (by simpa using af)).same cb).snoc r ab).chg gr.chg ?_
  intro x hx hm
  rcases zP.1 hx with h1 | h1
  ·exact ad x h1 hm
  ·simp at h1;subst h1;exact aa hm
 ·rw [e,zC]
  exact a4f.chg (a4f.same hs cb) gr.chg (fun hm=>ae M hm rfl)
 ·intro x hx hm
  simp at hx
  subst hx
  rcases zP.1 hm with h1 | h1
  ·rcases h6 with h2 | h2
   ·exact h.dg x h2 h1
   ·have:=ac x h1;omega
  ·simp at h1
   subst h1
   rcases h6 with h2 | h2
   ·exact aa h2
   ·omega
 ·intro x hx
  have:=ca.size
  have:=cb.size
  have:=h.chg.size
  simp only [zP,zJ,List.not_mem_nil,or_false] at hx
  rcases hx with rfl | hx | rfl
  ·rcases h6 with h2 | h2
   ·exact h.new x (by simp [h2])
   ·omega
  ·exact h.new x (by simp [hx])
  ·omega
 ·exact ((h.chg.trans ca (fun x hx => .inl hx)).tq (cb.mono (by simp))).trans gr.chg (fun x hx => .inr (h.new x (by simp [hx])))
end
theorem f4c {w:World} {p:a2a} {g o:Nat} {B:Nat->Option Addr} {c:Nat->Nat} {G:List Nat} (cap:Nat) (h:a4l w p g o B c G) (most:Nat) (m0:1<=most) (m1:most<=256) :
  Calls Tryz.prog 20 #[a6y p g o cap,.int .i64 most] w (e1c w p most):=by
 have ah:=h.ok
 have aT:∀ w',Chg [] w w'->_:=fun w' (hc':Chg [] w w')=>c1d cap (h.same hc')
 obtain ⟨n,hn⟩:=zX (p.P.length)
 obtain ⟨N,hN⟩:=zX (p.W*p.H)
 have aN:n<=4:=by rw [hn];exact ah.n1
 have cp:1<=n:=by rw [hn];exact ah.n0
 have bn:=ah.d1
 have cm:N<=4096:=by rw [hN];exact ah.area
 have bM:0<N:=by rw [hN];exact ah.pos
 have ar:∀ i,i<N->∃ y0 y1 y2 y3:Int,c9u (ptC p i)=.agg #[.int .i64 y0,.int .i64 y1,.int .i64 y2,.int .i64 y3]/\(∀ k,k<n->(ptC p i)[k]?=some ([y0,y1,y2,y3].getD k 0))/\∀ w',Chg [] w w'->Calls Tryz.prog 56 #[a6y p g o cap,.int .i64 i] w' fun e w''=>e=.returned (.agg #[.int .i64 y0,.int .i64 y1,.int .i64 y2,.int .i64 y3])/\Chg [] w' w'':=by
  intro i hi
  refine ⟨_,_,_,_,c0l _,fun k hk => ?_,fun w' hc => ?_⟩
  ·have bE:k<(ptC p i).length:=by rw [a8d,<-hn];exact hk
   rw [zF bE]
   have e:(ptC p i)[k]=(ptC p i).getD k 0:=by rw [zD,zF bE];rfl
   rw [e]
   rcases (by omega:k=0\/k=1\/k=2\/k=3) with rfl | rfl | rfl | rfl<;>rfl
  ·have:=d7g cap (h.same hc) i (by rw [<-hN];exact hi)
   rw [c0l] at this
   exact this
 have ay:(a2y p).length=(a0z p N).length:=by rw [hN];exact e9h p
 have al:∀ i,i<=N->(a0z p i).length<=(a2y p).length:=fun i hi=>by
  have:=c0m p i (N-i)
  rw [show i+(N-i)=N by omega] at this
  rw [ay]
  exact this
 have bq:∀ i,b8u p.P.length p.d (ptC p i):=fun i=>⟨a8d p i,d4e ah i⟩
 have bo:=c2b ah
 unfold e1c d1i
 unfold a6y at aT ar ⊢
 rw [<-hn] at aT ar ⊢
 obtain ⟨w1,aE⟩:=zX ((w.alloc (.cells #[.int .i64 p.W,.int .i64 p.H,.int .i64 p.d,.slice (some ⟨g,o,none⟩) n cap] 27)).alloc (.cells #[.int .i64 0,.int .i64 0,.slice none 0 0] 45))
 obtain ⟨X2,aB⟩:=zX (w.heap.size)
 obtain ⟨X4,aA⟩:=zX (X2+1)
 have aZ:Box w1 X2 (.int .i64 p.W) (.int .i64 p.H) (.int .i64 p.d) (.slice (some ⟨g,o,none⟩) n cap):=⟨by rw [aE,aB];exact (Blk.new w _ _).alloc _⟩
 have a9:c4m w1 X4 (.int .i64 0) (.int .i64 0) (.slice none 0 0):=⟨by rw [aE,aA,aB];exact Blk.new2 w _ _ _⟩
 have bD:Chg [] w w1:=by rw [aE];exact ((zR [] w).alloc _).alloc _
 have t1:decide ((most:Int)<1)=false:=zA (by omega)
 have t2:decide ((256:Int)<(most:Int))=false:=zA (by omega)
 have ck:(p.W:Int)*(p.H:Int)=(N:Int):=by rw [hN];simp
 have cl:=ah.w1
 have cr:=ah.h1
 have ag:Hid (n=p.P.length/\N=p.W*p.H):=hid ⟨hn,hN⟩
 have HX:Hid (X2=w.heap.size/\X4=X2+1):=hid ⟨aB,aA⟩
 have ap:=hid a9.blk.lt
 have bJ:=hid aB
 have bP:=hid aA
 have cd:=hid aE
 have be:=hid aZ
 have bU:=hid a9
 have ak:=hid bD
 have bI:=hid aT
 have b4:=hid ar
 have ci:=hid ay
 have bY:=hid al
 have bk:=hid bq
 have b6:=hid bo
 have cj:=@run_makeMap Tryz.prog
 obtain ⟨a0,a1,a2,a3⟩:=aZ.cells
 clear aE aZ a9 bD aT ar ay al bq bo ah h hn hN aB aA
 go_enter Tryz.func20,Tryz.ntmps20
 go_wp2_with fail
 rw [<-cd.out,<-bJ.out,<-bP.out]
 refine (bI.out w1 ak.out).mono ?_
 rintro e w2 ⟨rfl,aD⟩
 obtain ⟨a0,a1,a2,a3⟩:=(be.out.same aD).cells
 obtain ⟨w3,ax⟩:=zX (w2.alloc (.map #[] 0))
 obtain ⟨M,hM⟩:=zX (w2.heap.size)
 have a7:Chg [] w2 w3:=by rw [ax];exact (zR [] w2).alloc _
 have bl:M<w3.heap.size:=by rw [ax,a3f,hM];omega
 have aM:e1d w3 p M w3 (.slice none 0 0) [] [] [] 0:=⟨Own.nil _ _,a2k.nil _,by rw [ax,hM];exact c5t _ _ _,by simp,by simp,zR _ _⟩
 have bT:=hid ax
 have HM:=hid hM
 have aW:=hid bl
 have ce:=hid aM
 have aq:=hid (aD.tq a7)
 have aJ:Hid (w1.heap.size<=M):=hid (by rw [hM];exact aD.size)
 obtain ⟨b0,b1,b2,b3⟩:=(be.out.same (aD.tq a7)).cells
 rw [ax] at b0 b1 b2 b3
 clear aD a7 bl aM ax hM
 go_wp2_with fail
 rw [<-bT.out,<-HM.out]
 clear a0 a1 a2 a3 b0 b1 b2 b3
 go_loopg [7,8,9,28] N (fun j v7 v8 v9 v28 wr=>∃ (i:Nat) (F:List Nat) (xs:List Value) (gs:List Nat),v28=.int .i64 i/\i+j=N/\Hid (e1d w3 p M wr v7 F xs gs i)/\Hid ((a0z p i).length<=most))
 case atStart=>exact ⟨0,[],[],[],rfl,by omega,ce,hid (Nat.zero_le _)⟩
 case round =>
  obtain ⟨i,F,xs,gs,rfl,co,HS,ba⟩:=hrel
  have bC:=fun wz (hz:Chg [M] w3 wz)=>And.intro ((be.out.same aq.out).chg hz (by simp;have:=HX.out;have:=ap.out;have:=aJ.out;omega)) ((bU.out.same aq.out).chg hz (by simp;have:=ap.out;have:=aJ.out;omega))
  have aR:=hid bC
  clear bC
  rcases gk with _ | j
  ·obtain rfl:i=N:=by omega
   have t3:decide ((i:Int)<(i:Int))=false:=by simp
   have bO:0<(a0z p i).length:=by
    have h1:ptC p 0∈a0z p i:=(a9l p i _).2 ⟨0,bM,rfl⟩
    exact List.length_pos_of_mem h1
   have ai:xs.length=(a0z p i).length:=HS.out.pl.lx
   have bw:=ba.out
   rcases HS.out.own.cases with ⟨_,he,_⟩ | ⟨gP,aa,hF⟩
   ·exfalso
    rw [he] at ai
    simp at ai
    omega
   have hr:=aa
   obtain ⟨aF,rfl,_,_,-,-⟩:=aa.open_
   rw [ai] at hr HS ⊢
   have bB:gP∉gs:=HS.out.dg gP (by rw [hF];simp)
   have aX:=e5s (n:=n) hr HS.out.pl bB aN (fun c' hc'=>by
    obtain ⟨k,_,rfl⟩:=(a9l p i c').1 hc'
    rw [a8d,ag.out.1]) bO (by omega)
   unfold d5e at aX
   have ao:=HS.out.new gP (by rw [hF];simp)
   have am:∀ x∈gs,w3.heap.size<=x:=fun x hx=>HS.out.new x (by simp [hx])
   obtain ⟨K,hK⟩:=zX ((a0z p i).length)
   rw [<-hK] at aX bw ⊢
   have HK:=hid hK
   have bZ:=hid HS.out.chg
   have a6:=hid ao
   have bm:=hid am
   clear hr aa bB ai hK HS ao am
   go_wp2_with fail
   refine aX.mono ?_
   rintro e w5 ⟨rfl,D,ys,hs,bd,bv,aa,ay,aG,az⟩
   have bp:D.length=K:=by rw [bd.length_eq,HK.out]
   have ch:D=a2y p:=f2d (by rw [<-ag.out.2];exact bd) (bv.imp fun {a b} h=>by omega)
   subst ch
   have bc:Chg [M] w3 w5:=bZ.out.trans az (fun x hx => .inr (by simp at hx;have:=a6.out;omega))
   obtain ⟨⟨h2⟩,⟨h4⟩⟩:=aR.out w5 bc
   have a0:=h2.cell 0
   have a1:=h2.cell 1
   have a2:=h2.cell 2
   have a3:=h2.cell 3
   have z0:=h4.cell 0
   have z1:=h4.cell 1
   have z2:=h4.cell 2
   have f0:=h4.frozen 0
   have f1:=h4.frozen 1
   have f2:=h4.frozen 2
   simp at a0 a1 a2 a3 z0 z1 z2
   have bh:=hid h4
   have bV:=hid bc
   have av:=hid aa
   have bf:=hid ay
   have aH:=hid aG
   have bg:=hid bp
   clear h2 h4 bc aa ay aG az bd bv bp
   go_wp2_with fail
   refine d4b ⟨bh.out⟩ ?_
   intro X hX hY
   obtain ⟨x0,x1,x2⟩:=hX.cells
   refine bodyPost_ret (v:=.tuple #[.agg #[.int .i64 p.d,.int .i64 n,.slice (some ⟨gP,0,none⟩) K aF],.bool true]) (by simp [results,Tryz.results20,go_sem,x0,x1,x2]) rfl ?_
   have aA:X4<w3.heap.size:=by have:=ap.out;have:=aq.out.size;omega
   refine ⟨((ak.out.tq aq.out).trans bV.out (fun x hx => .inr (by simp at hx;have:=aJ.out;have:=ak.out.size;omega))).trans hY (fun x hx => .inr (by simp at hx;have:=HX.out;omega)),.inl ⟨by rw [bg.out];exact bw,gP,aF,ys,hs,by rw [bg.out],⟨?_,?_,?_⟩,fun x hx => ?_⟩⟩
   ·rw [ag.out.1]
    exact b6.out (by rw [bg.out];omega)
   ·exact av.out.chg hY (by simp;have:=a6.out;omega)
   ·exact bf.out.chg hY (fun x hx hm=>by simp at hm;have:=bm.out x (aH.out x hx);omega)
   ·have h3:w.heap.size<=w3.heap.size:=by have:=ak.out.size;have:=aq.out.size;omega
    rcases zJ.1 hx with rfl | hx
    ·have:=a6.out;omega
    ·have:=bm.out x (aH.out x hx);omega
  ·have hi:i<N:=by omega
   have t3:decide ((i:Int)<(N:Int))=true:=zB (by omega)
   obtain ⟨y0,y1,y2,y3,bs,aK,ar⟩:=b4.out i hi
   have bF:Chg [] w wr:=(ak.out.tq aq.out).trans HS.out.chg (fun x hx => .inr (by simp at hx;have:=aJ.out;have:=ak.out.size;omega))
   have aC:=ar wr bF
   obtain ⟨⟨h1⟩,-⟩:=aR.out wr HS.out.chg
   have a0:=h1.cell 0
   have a1:=h1.cell 1
   have a2:=h1.cell 2
   have a3:=h1.cell 3
   simp at a0 a1 a2 a3
   have bi:=hid bs
   have a4:=hid aK
   obtain ⟨wo,ca⟩:=zX (wr)
   subst ca
   clear ar bs aK h1 bF
   go_wp2_with fail
   refine aC.mono ?_
   rintro e w5 ⟨rfl,az⟩
   obtain ⟨w6,aw⟩:=zX (w5.alloc (.cells #[.int .i64 y0,.int .i64 y1,.int .i64 y2,.int .i64 y3] 99))
   obtain ⟨X9,aL⟩:=zX (w5.heap.size)
   have br:Chg [] w5 w6:=by rw [aw];exact (zR [] w5).alloc _
   have ac:Blk w6 X9 99 #[.int .i64 y0,.int .i64 y1,.int .i64 y2,.int .i64 y3]:=by rw [aw,aL];exact Blk.new w5 _ _
   have ae:=hid (HS.out.same (az.tq br))
   have aO:=d1v ae.out.seen (by rw [<-ag.out.1];exact aN) bn (bk.out i)
   rw [bi.out] at aO
   have k0:=ac.cell 0
   have k1:=ac.cell 1
   have k2:=ac.cell 2
   have k3:=ac.cell 3
   simp at k0 k1 k2 k3
   have aV:=hid aw
   have cc:=hid aL
   have bQ:=hid ac
   have aY:Hid (X9≠M/\w3.heap.size<=X9):=hid (by
    have:=HS.out.chg.size
    have:=az.size
    have:=aW.out
    rw [aL]
    omega)
   rw [aw,aL] at k0 k1 k2 k3
   rw [aw] at aO
   clear az br aw aL ac aC a0 a1 a2 a3
   by_cases hmem:ptC p i∈a0z p i
   ·rw [zB hmem] at aO
    have ad:=hid hmem
    clear hmem
    go_wp2_with fail
    rw [<-aV.out]
    go_roundg j
    case measure=>omega
    case rel=>exact ⟨i+1,F,xs,gs,by go_num,by omega,hid (ae.out.skip ad.out),hid (by rw [a0z,if_pos ad.out];exact ba.out)⟩
   ·rw [zA hmem] at aO
    have ad:=hid hmem
    clear hmem
    have aQ:=bY.out (i+1) hi
    rw [a0z,if_neg ad.out,zC] at aQ
    have aQ:(a0z p i).length+1<=(a2y p).length:=aQ
    obtain ⟨A7,c7,rfl,bH,cq,cg,b9⟩:=ae.out.own.open_
    have ai:xs.length=(a0z p i).length:=ae.out.pl.lx
    obtain ⟨K,hK⟩:=zX ((a0z p i).length)
    rw [<-hK] at aQ ai
    have cn:K<=most:=by rw [hK];exact ba.out
    have HK:=hid hK
    have bN:=hid ai
    rw [ai] at ae bH ⊢
    clear hK ai cg b9
    by_cases hfull:K=most
    ·have t4:((K:Int)==(most:Int))=true:=by rw [hfull];simp
     obtain ⟨-,⟨h4⟩⟩:=aR.out w6 ae.out.chg
     have z0:=h4.cell 0
     have z1:=h4.cell 1
     have z2:=h4.cell 2
     have f0:=h4.frozen 0
     have f1:=h4.frozen 1
     have f2:=h4.frozen 2
     simp at z0 z1 z2
     have bh:=hid h4
     have aI:=hid hfull
     rw [aV.out] at z0 z1 z2 f0 f1 f2
     clear h4 hfull
     go_wp2_with fail
     rw [<-aV.out]
     refine d4b ⟨bh.out⟩ ?_
     intro X hX hY
     obtain ⟨x0,x1,x2⟩:=hX.cells
     refine bodyPost_ret (v:=.tuple #[f4u,.bool false]) (by simp [results,Tryz.results20,go_sem,x0,x1,x2,f4u]) rfl ?_
     refine ⟨?_,.inr ⟨by have:=aI.out;omega,rfl⟩⟩
     exact (((ak.out.tq aq.out).trans ae.out.chg (fun x hx => .inr (by simp at hx;have:=aJ.out;have:=ak.out.size;omega))).trans hY (fun x hx => .inr (by simp at hx;have:=HX.out;omega)))
    ·have t4:((K:Int)==(most:Int))=false:=by simp;omega
     have bR:Hid (K+1<=most):=hid (by omega)
     clear hfull
     obtain ⟨w7,aM,bz,aU⟩:=c5u ae.out.seen (by rw [<-ag.out.1];exact aN) bn (by rw [<-HK.out];omega) (bk.out i)
     rw [bi.out,aV.out] at aM
     have ac:=bQ.out.chg aU (by simp;exact aY.out.1)
     have k0:=ac.cell 0
     have k1:=ac.cell 1
     have k2:=ac.cell 2
     have k3:=ac.cell 3
     simp at k0 k1 k2 k3
     obtain ⟨⟨h2⟩,-⟩:=aR.out w7 (ae.out.chg.trans aU (fun x hx => .inl hx))
     have a0:=h2.cell 0
     have a1:=h2.cell 1
     have a2:=h2.cell 2
     have a3:=h2.cell 3
     simp at a0 a1 a2 a3
     have bS:=f3m X9 n aN
     have bj:a0d vi w7 (some ⟨X9,0,none⟩) (ptC p i):=⟨fun _=>⟨X9,0,rfl,ac.lt,fun k v hk=>by
      have cb:k<n:=by rw [ag.out.1,<-a8d p i];exact (List.getElem?_eq_some_iff.1 hk).1
      have e:=a4.out k cb
      rw [hk] at e
      injection e with e
      rw [Nat.zero_add,ac.cell k,e]
      rcases (by omega:k=0\/k=1\/k=2\/k=3) with rfl | rfl | rfl | rfl<;>rfl⟩⟩
     have ab:=c4x w7 (some ⟨X9,0,none⟩) 4 (ptC p i) bj (by rw [a8d,<-ag.out.1];omega) (by rw [a8d,<-ag.out.1];omega)
     rw [a8d,<-ag.out.1] at ab
     have cf:=hid bz
     have bx:=hid aU
     rw [cc.out] at k0 k1 k2 k3 bS ab
     have bW:=hid ab
     clear bz aU ac h2 bj ab
     go_wp2_with fail
     refine bW.out.mono ?_
     rintro e w8 ⟨v8,g5,rfl,aa,a8,bu⟩
     have bb:=aa
     obtain ⟨c8,rfl,_⟩:=aa.oq
     rw [a8d,<-ag.out.1] at bb ⊢
     obtain ⟨wB,aS⟩:=zX (w8.alloc (.cells #[.slice (some ⟨g5,0,none⟩) n c8] 22))
     have aP:Chg [] w8 wB:=by rw [aS];exact (zR [] w8).alloc _
     have bA:=Blk.new w8 22 #[.slice (some ⟨g5,0,none⟩) n c8]
     have af:=(ae.out.own.chg bx.out (fun x hx=>by have:=ae.out.new x (by simp [hx]);have:=aW.out;simp;omega)).same (a8.tq aP)
     have an:=bb.chg aP (by simp)
     rw [aS] at af
     have b5:=hid aS
     have av:=hid an
     have bK:=hid (a8.tq aP)
     have bL:=hid bu
     have a5:=bN.out
     clear aS aP aa bb an a8 bu
     go_wp2_with (at_builtin;refine a0f rfl rfl b7k rfl rfl af (.slice (some ⟨g5,0,none⟩) n c8) rfl ?c1 rfl ?c3 ?c4 ?_)
     case c1=>exact bA.cell 0
     case c3=>rw [a5];omega
     case c4=>rw [a5];omega
     intro g6 bX w9 aj au
     rw [<-b5.out] at au
     have bG:=ae.out.next ad.out aW.out cf.out bx.out bK.out bL.out av.out aj au
     have b7:=hid bG
     clear bG au aj af bA a5
     go_wp2_with fail
     go_roundg j
     case measure=>omega
     case rel=>exact ⟨i+1,[g6],_,_,by go_num,by omega,b7,hid (by rw [a0z,if_neg ad.out,zC,<-HK.out];exact bR.out)⟩
end Go.Proofs.YtepjepkgcdfboaaGreatDoor

namespace Go.Proofs.YtepjepkgcdfboaaGreatDoor
open Go.RowKit Go.Maps
def c2d (C:List (List Int)) (k:Nat) (c:List Int):Option Lit:=if c∈C.take k then some (.int .i64 (C.idxOf c:Nat)) else none
def a7r (n d:Nat) (w:World) (M:Nat) (C:List (List Int)) (k:Nat):Prop:=a4f Tryz.prog 99 3 c9u (b8u n d) w M k (c2d C k)
theorem d4c (n d:Nat) (w:World) (C:List (List Int)):a7r n d (w.alloc (.map #[] 0)) w.heap.size C 0:=by
 have h:=a4f.made w Tryz.prog 99 3 c9u (b8u n d)
 have e:c2d C 0=fun _=>none:=by
  funext c
  unfold c2d
  rw [if_neg (by simp)]
 unfold a7r
 rw [e]
 exact h
theorem e0d {n d:Nat} {w:World} {M:Nat} {C:List (List Int)} (h:a7r n d w M C C.length) (hn:n<=4) (hd:d<=16) {c:List Int} (hc:b8u n d c) (hm:c∈C) :
  (Instr.lookup 107 (.map (some M)) (c9u c) true).run Tryz.prog w=.ok (.tuple #[.int .i64 (C.idxOf c:Nat),.bool true]) w:=by
 refine a4f.look_int h (b9h hn hd) b5a Tryz.underlying107 Tryz.underlying3 (f0k w) hc ?_
 unfold c2d
 rw [zN,if_pos hm]
theorem d4d {n d:Nat} {w:World} {M k:Nat} {C:List (List Int)} (h:a7r n d w M C k) (hn:n<=4) (hd:d<=16) (hk:k<C.length) (hk2:k<1000) (hnd:C.Nodup) (hc:b8u n d (C.getD k [])) :
  ∃ w',(Instr.mapUpdate 107 (.map (some M)) (c9u (C.getD k [])) (.int .i64 k)).run Tryz.prog w=.ok () w'/\a7r n d w' M C (k+1)/\Chg [M] w w':=by
 obtain ⟨w',h1,h2,h3⟩:=a4f.store h (b9h hn hd) b5a Tryz.underlying107 (by unfold maxLen;omega) hc (plainElem_int Tryz.underlying3 (WalkArith.wf_i64 (n:=(k:Int)) (by omega)))
 refine ⟨w',h1,?_,h3⟩
 have hg:C.getD k []=C[k]:=by rw [zD,zF hk];rfl
 have aa:C.idxOf (C.getD k [])=k:=by rw [hg];exact hnd.idxOf_getElem k hk
 have e:(fun x=>if x=C.getD k [] then some (Lit.int .i64 k) else c2d C k x)=c2d C (k+1):=by
  funext x
  unfold c2d
  rw [d7s hk]
  by_cases h1:x=C.getD k []
  ·rw [if_pos h1,if_pos (by simp [h1]),h1,aa]
  ·by_cases h2:x∈C.take k
   ·rw [if_neg h1,if_pos h2,if_pos (by simp [h2])]
   ·rw [if_neg h1,if_neg h2,if_neg (by simp only [zP,zU];exact fun h=>h.elim h2 h1)]
 unfold a7r
 rw [<-e]
 exact h2
theorem d0p {p:a2a} {i:Nat} (hi:i<p.W*p.H):(a3q p)[i]?=some (((a2y p).idxOf (ptC p i):Nat):Int):=by
 unfold a3q f3q
 rw [zW,zW,List.getElem?_range hi]
 rfl
theorem e4r {w:World} {p:a2a} {g o:Nat} {B:Nat->Option Addr} {c:Nat->Nat} {G:List Nat} (cap:Nat) (h:a4l w p g o B c G)
  {gL oL:Nat} {BL:Nat->Option Addr} {cL:Nat->Nat} {GL:List Nat} (capL:Nat) (hp:b1a w p.P.length p.d (a2y p) gL oL BL cL GL) :
  Calls Tryz.prog 22 #[a6y p g o cap,d1i p.P.length p.d (a2y p).length gL oL capL] w fun e w'=>∃ g9,e=.returned (.tuple #[.slice (some ⟨g9,0,none⟩) (p.W*p.H) (p.W*p.H),.bool true])/\Row w' 3 (.slice (some ⟨g9,0,none⟩) (p.W*p.H) (p.W*p.H)) g9 ((a3q p).map vi)/\Chg [] w w'/\w.heap.size<=g9:=by
 have ak:=h.ok
 have ap:=hp.ok
 have aG:∀ w',Chg [] w w'->_:=fun w' (hc':Chg [] w w')=>c1d cap (h.same hc')
 have ab:∀ w',Chg [] w w'->_:=fun w' (hc':Chg [] w w')=>c7q capL (hp.same hc')
 obtain ⟨n,hn⟩:=zX (p.P.length)
 obtain ⟨N,hN⟩:=zX (p.W*p.H)
 obtain ⟨m,hm⟩:=zX ((a2y p).length)
 have bc:n<=4:=by rw [hn];exact ak.n1
 have bb:=ak.d1
 have bR:N<=4096:=by rw [hN];exact ak.area
 have bT:m<=256:=by rw [hm];exact ap.c1
 have aj:∀ i w',i<N->Chg [] w w'->Calls Tryz.prog 56 #[a6y p g o cap,.int .i64 i] w' fun e w''=>e=.returned (c9u (ptC p i))/\Chg [] w' w'':=fun i w' hi hc=>d7g cap (h.same hc) i (by rw [<-hN];exact hi)
 have be:∀ i,b8u n p.d (ptC p i):=fun i=>⟨by rw [hn];exact a8d p i,d4e ak i⟩
 have am:∀ k,k<m->b8u n p.d ((a2y p).getD k []):=fun k hk=>⟨by rw [hn];exact ap.len _ (a0n (by rw [<-hm];exact hk)),ap.smp _ (a0n (by rw [<-hm];exact hk))⟩
 have ae:∀ i,i<N->ptC p i∈a2y p:=fun i hi=>(a7h p _).2 ⟨i,by rw [<-hN];exact hi,rfl⟩
 have aW:=ap.nd
 have aY:=a9r p
 have aN:∀ i,i<N->(a3q p)[i]?=some (((a2y p).idxOf (ptC p i):Nat):Int):=fun i hi=>d0p (by rw [<-hN];exact hi)
 have aL:∀ i,i<N->(a2y p).idxOf (ptC p i)<m:=fun i hi=>by rw [hm];exact List.idxOf_lt_length_of_mem (ae i hi)
 have bW:=a1p (P:=Tryz.prog) a0p rfl .i64 .i64 N (by omega) (by omega)
 obtain ⟨C,hC⟩:=zX (a2y p)
 rw [<-hC] at hp ab am ae aW aN aL hm ⊢
 rw [<-hN] at aY ⊢
 unfold d1i at ab ⊢
 unfold a6y at aG aj ⊢
 rw [<-hn] at aG aj ab hp ⊢
 rw [<-hm] at ab ⊢
 obtain ⟨w1,aw⟩:=zX ((w.alloc (.cells #[.int .i64 p.W,.int .i64 p.H,.int .i64 p.d,.slice (some ⟨g,o,none⟩) n cap] 27)).alloc (.cells #[.int .i64 p.d,.int .i64 n,.slice (some ⟨gL,oL,none⟩) m capL] 45))
 obtain ⟨X2,ao⟩:=zX (w.heap.size)
 obtain ⟨X3,aJ⟩:=zX (X2+1)
 have aK:Box w1 X2 (.int .i64 p.W) (.int .i64 p.H) (.int .i64 p.d) (.slice (some ⟨g,o,none⟩) n cap):=⟨by rw [aw,ao];exact (Blk.new w _ _).alloc _⟩
 have aI:c4m w1 X3 (.int .i64 p.d) (.int .i64 n) (.slice (some ⟨gL,oL,none⟩) m capL):=⟨by rw [aw,aJ,ao];exact Blk.new2 w _ _ _⟩
 have bm:Chg [] w w1:=by rw [aw];exact ((zR [] w).alloc _).alloc _
 have bP:(p.W:Int)*(p.H:Int)=(N:Int):=by rw [hN];simp
 have bQ:=ak.w1
 have bY:=ak.h1
 have t1:((p.d:Int) != (p.d:Int))=false:=by simp
 have t2:((n:Int) != (n:Int))=false:=by simp
 have HX:Hid (X2=w.heap.size/\X3=X2+1):=hid ⟨ao,aJ⟩
 have ag:=hid aI.blk.lt
 have bv:=hid ao
 have bN:=hid aJ
 have bK:=hid aw
 have aH:=hid aK
 have aT:=hid aI
 have ad:=hid bm
 have bo:=hid aG
 have a7:=hid ab
 have bF:=hid aj
 have bu:=hid be
 have bz:=hid am
 have aU:=hid ae
 have bA:=hid aW
 have aQ:=hid aY
 have bs:=hid aN
 have bw:=hid aL
 have a6:=hid hp
 have ba:Hid (m=C.length):=hid hm
 have aV:=hid hp.lt
 have bO:=@run_makeMap Tryz.prog
 obtain ⟨a0,a1,a2,a3⟩:=aK.cells
 obtain ⟨b0,b1,b2⟩:=aI.cells
 clear aw aK aI bm aG ab aj be am ae aW aY aN aL ak ap h hp hn hN hm ao aJ hC
 go_enter Tryz.func22,Tryz.ntmps22
 go_wp2_with fail
 rw [<-bK.out,<-bv.out,<-bN.out]
 refine (a7.out w1 ad.out).mono ?_
 rintro e w2 ⟨rfl,aP⟩
 obtain ⟨a0,a1,a2,a3⟩:=(aH.out.same aP).cells
 have aA:=hid aP
 clear aP
 go_wp2_with fail
 refine (bo.out w2 (ad.out.tq aA.out)).mono ?_
 rintro e w3 ⟨rfl,bh⟩
 have ac:=hid (aA.out.tq bh)
 obtain ⟨a0,a1,a2,a3⟩:=(aH.out.same ac.out).cells
 obtain ⟨b0,b1,b2⟩:=(aT.out.same ac.out).cells
 obtain ⟨w4,au⟩:=zX (w3.alloc (.map #[] 0))
 obtain ⟨M,hM⟩:=zX (w3.heap.size)
 have bk:Chg [] w3 w4:=by rw [au];exact (zR [] w3).alloc _
 have aM:a7r n p.d w4 M C 0:=by rw [au,hM];exact d4c _ _ _ _
 have bg:w1.heap.size<=M:=by rw [hM];exact ac.out.size
 have bL:=hid au
 have HM:=hid hM
 have bI:=hid aM
 have ar:=hid bg
 have bn:=hid (a4f.lt aM)
 have ai:=hid (ac.out.tq bk)
 obtain ⟨d0,d1,d2⟩:=(aT.out.same ai.out).cells
 rw [au] at d0 d1 d2
 clear bh au hM bk aM bg
 go_wp2_with fail
 rw [<-bL.out,<-HM.out]
 clear a0 a1 a2 a3 b0 b1 b2 d0 d1 d2
 go_loopg [7,8,40] m (fun j v7 v8 v40 wr=>∃ k:Nat,v40=.int .i64 k/\k+j=m/\Hid (a7r n p.d wr M C k)/\Hid (Chg [M] w4 wr))
 case atStart=>exact ⟨0,rfl,by omega,bI,hid (zR _ _)⟩
 case round =>
  obtain ⟨k,rfl,bV,HS,an⟩:=hrel
  have ah:∀ wz,Chg [M] w4 wz->b1a wz n p.d C gL oL BL cL GL:=fun wz hz=>((a6.out.same ad.out).same ai.out).chg hz (fun x hx hm=>by
   have:=aV.out x hx
   have:=ad.out.size
   have:=ar.out
   simp at hm
   omega)
  rcases gk with _ | j
  ·obtain rfl:k=m:=by omega
   have t8:decide ((k:Int)<(k:Int))=false:=by simp
   have af:∀ x,x<w1.heap.size->x∉[M]:=fun x hx hm=>by simp at hm;have:=ar.out;omega
   obtain ⟨a0,a1,a2,a3⟩:=((aH.out.same ai.out).chg an.out (af X2 (by have:=HX.out;have:=ag.out;omega))).cells
   obtain ⟨g9,aD⟩:=zX (wr.heap.size)
   obtain ⟨w5,aF⟩:=zX (wr.alloc (.cells (Array.replicate N (Value.int .i64 0)) 3))
   have ay:Row w5 3 (.slice (some ⟨g9,0,none⟩) N N) g9 ((a1a [] N).map vi):=by
    have:=Row.zeros wr N (by omega)
    rw [List.toArray_replicate] at this
    rw [aF,aD]
    exact this
   have a8:Chg [] wr w5:=by rw [aF];exact (zR [] wr).alloc _
   have bi:a7r n p.d w5 M C C.length:=by
    have:=a4f.same HS.out a8
    rw [ba.out] at this
    exact this
   have aq:M<g9:=by rw [aD];exact Nat.lt_of_lt_of_le bn.out an.out.size
   have bE:=hid aF
   have bC:=hid aD
   have a4:=hid ay
   have aX:=hid (an.out.tq (a8.mono (F':=[M]) (by simp)))
   have bH:=hid bi
   have al:=hid aq
   clear aF aD ay a8 bi aq ah af HS
   go_wp2_with fail
   rw [<-bE.out,<-bC.out]
   clear a0 a1 a2 a3
   go_loopg [10,11,12,58,61] N (fun j2 v10 v11 v12 v58 v61 wr=>∃ i:Nat,v58=.int .i64 i/\i+j2=N/\Hid (Row wr 3 (.slice (some ⟨g9,0,none⟩) N N) g9 ((a1a ((a3q p).take i) N).map vi))/\Hid (a7r n p.d wr M C C.length)/\Hid (Chg [M,g9] w4 wr))
   case atStart=>exact ⟨0,rfl,by omega,a4,bH,hid (aX.out.mono (by simp +contextual))⟩
   case round =>
    obtain ⟨i,rfl,bU,HR,HS,aB⟩:=hrel
    have bq:w1.heap.size<=g9:=by have:=al.out;have:=ar.out;omega
    have af:∀ x,x<w1.heap.size->x∉[M,g9]:=fun x hx hm=>by simp at hm;have:=ar.out;have:=al.out;omega
    rcases gk with _ | j2
    ·obtain rfl:i=N:=by omega
     have t9:decide ((i:Int)<(i:Int))=false:=by simp
     have hE:=(ad.out.tq ai.out).trans aB.out (fun x hx => .inr (by have h1:¬ x<w1.heap.size:=fun h=>af x h hx;have:=ad.out.size;omega))
     have hr:=HR.out
     have e:a1a ((a3q p).take i) i=a3q p:=by
      have:=b5h (a3q p)
      rw [aQ.out] at this
      exact this
     rw [e] at hr
     go_wp2_with fail
     refine bodyPost_ret (v:=.tuple #[.slice (some ⟨g9,0,none⟩) i i,.bool true]) (by simp [results,Tryz.results22,go_sem]) rfl ?_
     exact ⟨g9,rfl,hr,hE,by have:=ad.out.size;omega⟩
    ·have hi:i<N:=by omega
     have t9:decide ((i:Int)<(N:Int))=true:=zB (by omega)
     have bd:Chg [] w wr:=(ad.out.tq ai.out).trans aB.out (fun x hx => .inr (by have h1:¬ x<w1.heap.size:=fun h=>af x h hx;have:=ad.out.size;omega))
     have aj:=bF.out i wr hi bd
     obtain ⟨a0,a1,a2,a3⟩:=((aH.out.same ai.out).chg aB.out (af X2 (by have:=HX.out;have:=ag.out;omega))).cells
     have av:((a3q p).take i).length=i:=by rw [zI,aQ.out];omega
     have bD:=bw.out i hi
     obtain ⟨x,hx⟩:=zX (C.idxOf (ptC p i))
     rw [<-hx] at bD
     have az:(a3q p).take (i+1)=(a3q p).take i++[(x:Int)]:=by
      have h1:i<(a3q p).length:=by rw [aQ.out];exact hi
      have h2:=bs.out i hi
      rw [zF h1,<-hx] at h2
      injection h2 with h2
      rw [List.take_succ_eq_append_getElem h1,h2]
     obtain ⟨wo,aZ⟩:=zX (wr)
     subst aZ
     have br:=hid hx
     have a5:=hid az
     have aE:=hid av
     clear bd hx az av bq af
     go_wp2_with fail
     refine aj.mono ?_
     rintro e w6 ⟨rfl,ax⟩
     have bx:=e0d (a4f.same HS.out ax) bc bb (bu.out i) (aU.out i hi)
     rw [<-br.out] at bx
     have aR:=HR.out.chg ax (by simp)
     have a9:=aR.fill_cell (by rw [aE.out];exact hi)
     rw [aE.out] at a9
     obtain ⟨bS,bX⟩:=a9
     have aC:=aR.fill (by rw [aE.out];exact hi) (x:Int)
     rw [aE.out,<-a5.out] at aC
     have bj:=HS.out.same ax
     have bG:Hid (a7r n p.d (w6.setCell ⟨g9,i,none⟩ (.int .i64 x)) M C C.length):=hid (a4f.chg bj ((zR [g9] w6).setCell (p:=⟨g9,i,none⟩) (.inl (by simp)) _) (by simp;have:=al.out;omega))
     have bM:=hid aC
     have bB:Hid (Chg [M,g9] w4 (w6.setCell ⟨g9,i,none⟩ (.int .i64 x))):=hid ((aB.out.tq (ax.mono (by simp))).setCell (.inl (by simp)) _)
     clear aC ax aR bj aj a0 a1 a2 a3
     go_wp2_with fail
     go_roundg j2
     case measure=>omega
     case rel=>exact ⟨i+1,by go_num,by omega,bM,bG,bB⟩
  ·have hk:k<m:=by omega
   have t8:decide ((k:Int)<(m:Int))=true:=zB (by omega)
   have bl:k<C.length:=by rw [<-ba.out];exact hk
   obtain ⟨b,q,e1,-,e3⟩:=d1j (ah wr an.out) bl
   obtain ⟨b0,b1,b2⟩:=((aT.out.same ai.out).chg an.out (by simp;have:=HX.out;have:=ag.out;have:=ar.out;omega)).cells
   have aa:=fun wz (hz:Chg [] wr wz)=>d4d (a4f.same HS.out hz) bc bb bl (by omega) bA.out (bz.out k hk)
   obtain ⟨cc,am⟩:=zX (C.getD k [])
   rw [<-am] at e3 aa
   have aO:=hid aa
   have bp:=hid e3
   obtain ⟨wo,aZ⟩:=zX (wr)
   subst aZ
   clear am e3 aa ah
   go_wp2_with fail
   refine (bp.out _ (zR _ _)).mono ?_
   rintro e wA ⟨rfl,aS⟩
   obtain ⟨wB,aC,az,bf⟩:=aO.out wA aS
   have a5:=hid az
   have bJ:Hid (Chg [M] w4 wB):=hid ((an.out.tq (aS.mono (by simp))).tq bf)
   clear az aS bf
   go_wp2_with fail
   go_roundg j
   case measure=>omega
   case rel=>exact ⟨k+1,by go_num,by omega,a5,bJ⟩
end Go.Proofs.YtepjepkgcdfboaaGreatDoor
