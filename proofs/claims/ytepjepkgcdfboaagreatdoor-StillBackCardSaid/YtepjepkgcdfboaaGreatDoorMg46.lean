/- Laid by the kit's shelf (lay-shelf.mjs, lay-plain.mjs): the contract of slices.SortFunc at [][]int. -/
import Derived.Shelf.SlSortCmp.Whole1
import Derived.Test.YtepjepkgcdfboaaGreatDoorMg45
set_option linter.unusedVariables false
set_option linter.unusedSimpArgs false
set_option maxHeartbeats 1000000
set_option maxRecDepth 100000
namespace Go.Proofs
open Go.Shelf
def Tryz.laysSlF6_f73_ren:Go.Shelf.Ren:=⟨fun | 6=>58 | 15=>94 | 14=>93 | 28=>131 | 29=>132 | 20=>123 | 21=>124 | 22=>125 | 23=>126 | 24=>127 | 25=>128 | 26=>129 | 27=>130 | 46=>171 | 47=>172 | 48=>173 | 49=>174 | 50=>175 | 57=>223 | n=>n,fun | 22=>25 | 24=>22 | 25=>103 | 3=>3 | 39=>59 | 0=>0 | 53=>58 | 55=>37 | 4=>4 | 46=>169 | 45=>168 | 50=>109 | 5=>5 | 9=>9 | 66=>215 | 70=>219 | 76=>259 | 77=>183 | n=>n,fun | n=>n⟩
theorem Tryz.laysSlF6_f73:Go.Proofs.SlLaysF.n6 Tryz.prog Tryz.laysSlF6_f73_ren:={
 mixed:=by kernel_rfl
 f6:=⟨Tryz.f58.name,by decide,Tryz.func58.trans (congrArg some (by kernel_rfl))⟩
 f14:=⟨Tryz.f93.name,by decide,Tryz.func93.trans (congrArg some (by kernel_rfl))⟩
 f15:=Tryz.func94.trans (congrArg some (by kernel_rfl))
 f20:=⟨Tryz.f123.name,by decide,Tryz.func123.trans (congrArg some (by kernel_rfl))⟩
 f21:=⟨Tryz.f124.name,by decide,Tryz.func124.trans (congrArg some (by kernel_rfl))⟩
 f22:=⟨Tryz.f125.name,by decide,Tryz.func125.trans (congrArg some (by kernel_rfl))⟩
 f23:=⟨Tryz.f126.name,by decide,Tryz.func126.trans (congrArg some (by kernel_rfl))⟩
 f24:=⟨Tryz.f127.name,by decide,Tryz.func127.trans (congrArg some (by kernel_rfl))⟩
 f25:=⟨Tryz.f128.name,by decide,Tryz.func128.trans (congrArg some (by kernel_rfl))⟩
 f26:=⟨Tryz.f129.name,by decide,Tryz.func129.trans (congrArg some (by kernel_rfl))⟩
 f27:=⟨Tryz.f130.name,by decide,Tryz.func130.trans (congrArg some (by kernel_rfl))⟩
 f28:=Tryz.func131.trans (congrArg some (by kernel_rfl))
 f29:=Tryz.func132.trans (congrArg some (by kernel_rfl))
 f46:=⟨Tryz.f171.name,by decide,Tryz.func171.trans (congrArg some (by kernel_rfl))⟩
 f47:=Tryz.func172.trans (congrArg some (by kernel_rfl))
 f48:=Tryz.func173.trans (congrArg some (by kernel_rfl))
 f49:=⟨Tryz.f174.name,by decide,Tryz.func174.trans (congrArg some (by kernel_rfl))⟩
 f50:=⟨Tryz.f175.name,by decide,Tryz.func175.trans (congrArg some (by kernel_rfl))⟩
 f57:=⟨Tryz.f223.name,by decide,Tryz.func223.trans (congrArg some (by kernel_rfl))⟩
 t0:=Tryz.underlying0
 a0:=Tryz.isAgg0
 z0:=Tryz.sizeOf0
 v0:=Tryz.zeroValue0
 t3:=Tryz.underlying3
 a3:=Tryz.isAgg3
 z3:=Tryz.sizeOf3
 v3:=Tryz.zeroValue3
 t4:=Tryz.underlying4
 a4:=Tryz.isAgg4
 z4:=Tryz.sizeOf4
 v4:=Tryz.zeroValue4
 t5:=Tryz.underlying5
 a5:=Tryz.isAgg5
 z5:=Tryz.sizeOf5
 v5:=Tryz.zeroValue5
 t9:=Tryz.underlying9
 a9:=Tryz.isAgg9
 z9:=Tryz.sizeOf9
 v9:=Tryz.zeroValue9
 t22:=Tryz.underlying25
 a22:=Tryz.isAgg25
 z22:=Tryz.sizeOf25
 v22:=Tryz.zeroValue25
 a24:=Tryz.isAgg22
 z24:=Tryz.sizeOf22
 t25:=Tryz.underlying103
 a25:=Tryz.isAgg103
 z25:=Tryz.sizeOf103
 v25:=Tryz.zeroValue103
 t39:=Tryz.underlying59
 a39:=Tryz.isAgg59
 z39:=Tryz.sizeOf59
 v39:=Tryz.zeroValue59
 t45:=Tryz.underlying168
 a45:=Tryz.isAgg168
 z45:=Tryz.sizeOf168
 v45:=Tryz.zeroValue168
 t46:=Tryz.underlying169
 a46:=Tryz.isAgg169
 z46:=Tryz.sizeOf169
 v46:=Tryz.zeroValue169
 t50:=Tryz.underlying109
 a50:=Tryz.isAgg109
 z50:=Tryz.sizeOf109
 v50:=Tryz.zeroValue109
 t53:=Tryz.underlying58
 a53:=Tryz.isAgg58
 z53:=Tryz.sizeOf58
 v53:=Tryz.zeroValue58
 t55:=Tryz.underlying37
 a55:=Tryz.isAgg37
 z55:=Tryz.sizeOf37
 v55:=Tryz.zeroValue37
 t66:=Tryz.underlying215
 a66:=Tryz.isAgg215
 z66:=Tryz.sizeOf215
 v66:=Tryz.zeroValue215
 t70:=Tryz.underlying219
 a70:=Tryz.isAgg219
 z70:=Tryz.sizeOf219
 v70:=Tryz.zeroValue219
 t76:=Tryz.underlying259
 a76:=Tryz.isAgg259
 z76:=Tryz.sizeOf259
 v76:=Tryz.zeroValue259
 t77:=Tryz.underlying183
 a77:=Tryz.isAgg183
 z77:=Tryz.sizeOf183
 v77:=Tryz.zeroValue183 }
open Go.RowKit Go.Lib Go.Sort in
theorem Tryz.slices_SortFunc {α:Type} [Inhabited α] (enc:α->Value) (h1:OneCell enc) (cf:α->α->Int) (hO:SWO (ltOf cf)) (g:Nat) (cb:Array Value) (blk off cap:Nat) (d:Array α) (w:World) (eg:∀ args w,(callFunc g args).run Tryz.prog w=.ok (.enter g args) w) (hcmp:CmpLays1 Tryz.prog g cb enc cf blk off d.size w) (hH:Holds enc w blk off d) (hblk:blk<w.heap.size) (hsz:d.size<4611686018427387904) :
  Calls Tryz.prog 58 #[.slice (some ⟨blk,off,none⟩) d.size cap,.func (.func g) #[] cb] w fun e w' =>
   e=.returned (.tuple #[])/\∃ d' n os,PermIn 0 d.size d d'/\SortedIn (ltOf cf) 0 d.size d'/\w'=sortWorld enc w blk off n d' os:=Any.slices_SortFunc Tryz.laysSlF6_f73 enc h1 cf hO g cb blk off cap d w eg hcmp hH hblk hsz
end Go.Proofs

namespace Go.Proofs.YtepjepkgcdfboaaGreatDoor
open Go.RowKit Go.Maps Go.Sort
theorem f3w (w:World) (A B:Option Addr) (ca cb:Nat) (a b:List Int) (ha:a0d vi w A a) (hb:a0d vi w B b) (hl:a.length=b.length) (hn:a.length<=4) :
  Calls Tryz.prog 59 #[.slice A a.length ca,.slice B b.length cb] w fun e w'=>e=.returned (.int .i64 (a8i a b))/\w=w':=by
 have hc:=d8k w A B ca cb a b ha hb hl hn
 obtain ⟨n,aa⟩:=zX (a.length)
 obtain ⟨z,hz⟩:=zX (a8i a b)
 rw [<-hl,<-aa,<-hz] at hc ⊢
 clear ha hb hl hn aa hz
 go_enter Tryz.func59,Tryz.ntmps59
 go_wp2_with fail
 refine hc.mono ?_
 rintro e w' ⟨rfl,rfl⟩
 go_wp2_with fail
 go_ret
 exact ⟨rfl,rfl⟩
theorem a2k.perm {w:World} {xs:List Value} {C:List (List Int)} {gs:List Nat} (h:a2k w xs C gs) {ds:List Nat} (hp:ds.Perm (List.range C.length)) (x0:Value) (c0:List Int) :
  a2k w (ds.map (xs.getD · x0)) (ds.map (C.getD · c0)) (ds.map (gs.getD · 0)):=by
 have aa:∀ k∈ds,k<C.length:=fun k hk=>List.mem_range.1 (hp.mem_iff.1 hk)
 refine ⟨by simp,by simp,?_,fun i l hl => ?_⟩
 ·have e:(List.range C.length).map (gs.getD · 0)=gs:=by
   apply List.ext_getElem (by simp [h.lg])
   intro k h1 h2
   simp [zD,zF h2]
  rw [(hp.map (gs.getD · 0)).nodup_iff,e]
  exact h.nd
 ·rw [zW,Option.map_eq_some_iff] at hl
  obtain ⟨k,hk,e⟩:=hl
  have ab:=aa k (List.mem_of_getElem? hk)
  obtain ⟨u,g,h1,h2,h3⟩:=h.row k (C.getD k c0) (by rw [zD,zF ab];rfl)
  refine ⟨u,g,?_,?_,by rw [<-e];exact h3⟩
  ·rw [zW,hk,Option.map_some,zD,h1];rfl
  ·rw [zW,hk,Option.map_some,zD,h2];rfl
def d5e (w:World) (n:Nat) (C:List (List Int)) (gP cap:Nat) (gs:List Nat) (e:Ending) (w':World):Prop :=
 e=.returned (.tuple #[])/\∃ (D:List (List Int)) (ys:List Value) (hs:List Nat),D.Perm C/\(D.Pairwise fun a b=>¬ a8i b a<0)/\Row w' 22 (.slice (some ⟨gP,0,none⟩) D.length cap) gP ys/\a2k w' ys D hs/\(∀ x∈hs,x∈gs)/\Chg [gP] w w'
theorem e5s {w:World} {n:Nat} {C:List (List Int)} {gP cap:Nat} {xs:List Value} {gs:List Nat} (hr:Row w 22 (.slice (some ⟨gP,0,none⟩) C.length cap) gP xs) (hp:a2k w xs C gs) (hg:gP∉gs) (hn:n<=4)
  (hl:∀ c∈C,c.length=n) (h0:0<C.length) (hm:C.length<=256) :
  Calls Tryz.prog 58 #[.slice (some ⟨gP,0,none⟩) C.length cap,.func (.func 59) #[] #[]] w (d5e w n C gP cap gs):=by
 have am:xs.length=C.length:=hp.lx
 obtain ⟨x0,ak⟩:=zX (xs.getD 0 (.slice none 0 0))
 obtain ⟨c0,al⟩:=zX (C.getD 0 [])
 have ab:∀ k,∃ (g c:Nat),xs.getD k x0=.slice (some ⟨g,0,none⟩) n c/\g∈gs/\Row w 3 (.slice (some ⟨g,0,none⟩) n c) g ((C.getD k c0).map vi)/\(C.getD k c0).length=n:=by
  have aj:∀ k,k<C.length->∃ (g c:Nat),xs[k]?=some (.slice (some ⟨g,0,none⟩) n c)/\g∈gs/\Row w 3 (.slice (some ⟨g,0,none⟩) n c) g ((C.getD k []).map vi)/\(C.getD k []).length=n:=fun k hk=>by
   have hP:C[k]?=some (C.getD k []):=by rw [zD,zF hk];rfl
   obtain ⟨u,g,h1,h2,h3⟩:=hp.row k _ hP
   obtain ⟨c,rfl,aq,_⟩:=h3.oq
   have ah:=hl _ (List.mem_of_getElem? hP)
   rw [ah] at h1 h3
   exact ⟨g,c,h1,List.mem_of_getElem? h2,h3,ah⟩
  intro k
  rcases zZ k C.length with hk | hk
  ·obtain ⟨g,c,h1,h2,h3,h4⟩:=aj k hk
   have e:C.getD k c0=C.getD k []:=by rw [zD,zD,zF hk];rfl
   exact ⟨g,c,by rw [zD,h1];rfl,h2,by rw [e];exact h3,by rw [e];exact h4⟩
  ·obtain ⟨g,c,h1,h2,h3,h4⟩:=aj 0 h0
   have e:C.getD k c0=C.getD 0 []:=by rw [zD,List.getElem?_eq_none hk,al];rfl
   exact ⟨g,c,by rw [zD,List.getElem?_eq_none (by omega),ak,zD,h1];rfl,h2,by rw [e];exact h3,by rw [e];exact h4⟩
 have aa:(List.range C.length).map (xs.getD · x0)=xs:=by
  apply List.ext_getElem (by simp [am])
  intro k h1 h2
  simp [zD,zF h2]
 have ai:Row w 22 (.slice (some ⟨gP,0,none⟩) C.length cap) gP ((List.range C.length).map (xs.getD · x0)):=by rw [aa];exact hr
 have ac:∀ m os (dk:Array Nat),Chg [gP] w (sortWorld (xs.getD · x0) w gP 0 m dk os):=fun m os dk=>(((zR [gP] w).aheadN m).putRow (enc:=(xs.getD · x0)) (.inl (by simp)) 0 dk).growO os
 have ae:(List.range C.length).toArray.size=C.length:=by simp
 have hS:=Tryz.slices_SortFunc (α:=Nat) (xs.getD · x0) (fun k=>by obtain ⟨g,c,e,_⟩:=ab k;show (xs.getD k x0).oneCell'=true;rw [e];rfl)
  (fun i j=>a8i (C.getD i c0) (C.getD j c0)) (f0b fun i=>C.getD i c0) 59 #[] gP 0 cap (List.range C.length).toArray w
  (enters_of Tryz.func59 (by kernel_rfl) rfl)
  (fun m os dk _ x y=>by
   obtain ⟨g1,c1,e1,m1,r1,l1⟩:=ab x
   obtain ⟨g2,c2,e2,m2,r2,l2⟩:=ab y
   have q1:=r1.chg (ac m os dk) (by simp;exact fun e=>hg (e ▸ m1))
   have q2:=r2.chg (ac m os dk) (by simp;exact fun e=>hg (e ▸ m2))
   have k1:a0d vi _ (some ⟨g1,0,none⟩) _:=q1.toOwn.cells
   have k2:a0d vi _ (some ⟨g2,0,none⟩) _:=q2.toOwn.cells
   show Calls _ _ #[xs.getD x x0,xs.getD y x0] _ _
   have ho:=f3w (sortWorld (xs.getD · x0) w gP 0 m dk os) (some ⟨g1,0,none⟩) (some ⟨g2,0,none⟩) c1 c2 _ _ k1 k2 (by rw [l1,l2]) (by omega)
   rw [l1,l2] at ho
   rw [e1,e2]
   refine ho.mono fun e w' h=>⟨h.1,0,#[],?_⟩
   rw [grow_empty]
   exact h.2.symm)
  ai.holds hr.lt (by rw [ae];omega)
 rw [ae] at hS
 refine hS.mono ?_
 rintro e w' ⟨rfl,d',m,os,ap,ao,rfl⟩
 have ad:d'.toList.Perm (List.range C.length):=by
  obtain ⟨a1,_,a3⟩:=ap
  simp only [ae] at a1
  have e1:d'.extract 0 C.length=d':=by rw [<-a1];exact Array.extract_size
  have e2:(List.range C.length).toArray.extract 0 C.length=(List.range C.length).toArray:=by simp
  rw [e1,e2] at a3
  simpa using a3
 have af:d'.toList.length=C.length:=by rw [ad.length_eq,List.length_range]
 refine ⟨rfl,d'.toList.map (C.getD · c0),d'.toList.map (xs.getD · x0),d'.toList.map (gs.getD · 0),?_,?_,?_,?_,?_,ac m os d'⟩
 ·have e:(List.range C.length).map (C.getD · c0)=C:=by
   apply List.ext_getElem (by simp)
   intro k h1 h2
   simp [zD,zF h2]
  have:=ad.map (C.getD · c0)
  rw [e] at this
  exact this
 ·rw [List.pairwise_map,List.pairwise_iff_getElem]
  intro i j hi hj an
  have:=ao i j (Nat.zero_le _) an (by rw [<-af];exact hj)
  simp only [Array.length_toList] at hi hj
  rw [getElem!_pos d' i hi,getElem!_pos d' j hj] at this
  simpa [ltOf] using this
 ·rw [zE,af]
  have hq:=(ai.aheadN m).putRow (ys:=d'.toList) (by rw [af];simp)
  exact hq.growO os
 ·exact (hp.chg (ac m os d') (by simp;exact fun x hx e=>hg (e ▸ hx))).perm ad x0 c0
 ·intro x hx
  obtain ⟨k,hk,rfl⟩:=List.mem_map.1 hx
  have ag:k<gs.length:=by rw [hp.lg];exact List.mem_range.1 (ad.mem_iff.1 hk)
  rw [zD,zF ag]
  exact zG ag
end Go.Proofs.YtepjepkgcdfboaaGreatDoor

namespace Go.Proofs.YtepjepkgcdfboaaGreatDoor
open Go.RowKit Go.Maps
def f4u:Value:=.agg #[.int .i64 0,.int .i64 0,.slice none 0 0]
theorem d4b {F:Func} {Q:Ending->World->Prop} {a:Act} {Y:World} {C:Nat} {z0 z1 z2 v0 v1 v2:Value} (hY:c4m Y C z0 z1 z2)
  (h:∀ X,c4m X C v0 v1 v2->Chg [C] Y X->bodyPost Tryz.prog F Q .ret a X) :
  bodyPost Tryz.prog F Q .ret a (((Y.setCell ⟨C,0,none⟩ v0).setCell ⟨C,1,none⟩ v1).setCell ⟨C,2,none⟩ v2):=by
 refine h _ ⟨?_⟩ ?_
 ·have:=((hY.blk.set_ 0 v0).set_ 1 v1).set_ 2 v2
  simpa using this
 ·exact (((zR [C] Y).setCell (p:=⟨C,0,none⟩) (.inl (by simp)) _).setCell (p:=⟨C,1,none⟩) (.inl (by simp)) _).setCell (p:=⟨C,2,none⟩) (.inl (by simp)) _
def e1c (w:World) (p:a2a) (most:Nat) (e:Ending) (w':World):Prop :=
 Chg [] w w'/\(((a2y p).length<=most/\∃ (gP cap:Nat) (xs:List Value) (gs:List Nat),e=.returned (.tuple #[d1i p.P.length p.d (a2y p).length gP 0 cap,.bool true])/\b3f w' p.P.length p.d (a2y p) gP cap xs gs/\∀ x∈gP::gs,w.heap.size<=x) \/
  (most<(a2y p).length/\e=.returned (.tuple #[f4u,.bool false])))
structure e1d (w2:World) (p:a2a) (M:Nat) (w:World) (vC:Value) (F:List Nat) (xs:List Value) (gs:List Nat) (i:Nat):Prop where
 own:Own w 22 vC F xs
 pl:a2k w xs (a0z p i) gs
 seen:b4q p.P.length p.d w M (a0z p i).length (a0z p i)
 dg:∀ x∈F,x∉gs
 new:∀ x∈F++gs,w2.heap.size<=x
 chg:Chg [M] w2 w
section
variable {w2 w wa wb wc:World} {p:a2a} {M:Nat} {vC v':Value} {F:List Nat} {xs:List Value} {gs:List Nat} {i g5 g6:Nat} {u:Value}
theorem e1d.same (h:e1d w2 p M w vC F xs gs i) (hc:Chg [] w wa):e1d w2 p M wa vC F xs gs i:=⟨h.own.same hc,h.pl.same hc,a4f.same h.seen hc,h.dg,h.new,h.chg.tq (hc.mono (by simp))⟩
theorem e1d.skip (h:e1d w2 p M w vC F xs gs i) (hm:ptC p i∈a0z p i):e1d w2 p M w vC F xs gs (i+1):=by
 have e:a0z p (i+1)=a0z p i:=by rw [a0z,if_pos hm]
 exact ⟨h.own,by rw [e];exact h.pl,by rw [e];exact h.seen,h.dg,h.new,h.chg⟩
theorem e1d.next (h:e1d w2 p M w vC F xs gs i) (hn:ptC p i∉a0z p i) (hM:M<w2.heap.size) (hs:b4q p.P.length p.d wa M ((a0z p i).length+1) (a0z p i++[ptC p i])) (ca:Chg [M] w wa) (cb:Chg [] wa wb) (hg5:wa.heap.size<=g5)
  (r:Row wb 3 u g5 ((ptC p i).map vi)) (rc:Row wc 22 v' g6 (xs++[u])) (gr:a0u F [g6] wb wc):e1d w2 p M wc v' [g6] (xs++[u]) (gs++[g5]) (i+1):=by
 have e:a0z p (i+1)=a0z p i++[ptC p i]:=by rw [a0z,if_neg hn]
 have ad:∀ x∈F,x≠M:=fun x hx e=>by have:=h.new x (by simp [hx]);omega
 have ac:∀ x∈gs,x≠M:=fun x hx e=>by have:=h.new x (by simp [hx]);omega
 have ag:M<w.heap.size:=Nat.lt_of_lt_of_le hM h.chg.size
 have aa:g5∉F:=fun hm=>by have:=h.own.lt g5 hm;have:=ca.size;omega
 have ae:g5∉gs:=fun hm=>by have:=h.pl.lt g5 hm;have:=ca.size;omega
 have ab:∀ x∈gs,x<wb.heap.size:=fun x hx=>by have:=h.pl.lt x hx;have:=ca.size;have:=cb.size;omega
 have ah:∀ x∈F,x<wb.heap.size:=fun x hx=>by have:=h.own.lt x hx;have:=ca.size;have:=cb.size;omega
 have af:∀ x∈gs,x∉F:=fun x hx hm=>h.dg x hm hx
 have h6:g6∈F\/wb.heap.size<=g6:=gr.new g6 (by simp)
 have ai:=r.lt
 refine ⟨rc.toOwn,?_,?_,?_,?_,?_⟩
 ·rw [e]
  refine (((h.pl.chg ca (by simpa using ac)).same cb).snoc r ae).chg gr.chg ?_
  intro x hx hm
  rcases zP.1 hx with h1 | h1
  ·exact af x h1 hm
  ·simp at h1;subst h1;exact aa hm
 ·rw [e,zC]
  exact a4f.chg (a4f.same hs cb) gr.chg (fun hm=>ad M hm rfl)
 ·intro x hx hm
  simp at hx
  subst hx
  rcases zP.1 hm with h1 | h1
  ·rcases h6 with h2 | h2
   ·exact h.dg x h2 h1
   ·have:=ab x h1;omega
  ·simp at h1
   subst h1
   rcases h6 with h2 | h2
   ·exact aa h2
   ·omega
 ·intro x hx
  have:=ca.size
  have:=cb.size
  have:=h.chg.size
  simp only [zP,zJ,List.not_mem_nil,or_false] at hx
  rcases hx with rfl | hx | rfl
  ·rcases h6 with h2 | h2
   ·exact h.new x (by simp [h2])
   ·omega
  ·exact h.new x (by simp [hx])
  ·omega
 ·exact ((h.chg.trans ca (fun x hx => .inl hx)).tq (cb.mono (by simp))).trans gr.chg (fun x hx => .inr (h.new x (by simp [hx])))
end
theorem f4c {w:World} {p:a2a} {g o:Nat} {B:Nat->Option Addr} {c:Nat->Nat} {G:List Nat} (cap:Nat) (h:a4l w p g o B c G) (most:Nat) (m0:1<=most) (m1:most<=256) :
  Calls Tryz.prog 20 #[a6y p g o cap,.int .i64 most] w (e1c w p most):=by
 have ah:=h.ok
 have aV:∀ w',Chg [] w w'->_:=fun w' (hc':Chg [] w w')=>c1d cap (h.same hc')
 obtain ⟨n,hn⟩:=zX (p.P.length)
 obtain ⟨N,hN⟩:=zX (p.W*p.H)
 have aQ:n<=4:=by rw [hn];exact ah.n1
 have cp:1<=n:=by rw [hn];exact ah.n0
 have bB:=ah.d1
 have cl:N<=4096:=by rw [hN];exact ah.area
 have bJ:0<N:=by rw [hN];exact ah.pos
 have au:∀ i,i<N->∃ y0 y1 y2 y3:Int,c9u (ptC p i)=.agg #[.int .i64 y0,.int .i64 y1,.int .i64 y2,.int .i64 y3]/\(∀ k,k<n->(ptC p i)[k]?=some ([y0,y1,y2,y3].getD k 0))/\∀ w',Chg [] w w'->Calls Tryz.prog 56 #[a6y p g o cap,.int .i64 i] w' fun e w''=>e=.returned (.agg #[.int .i64 y0,.int .i64 y1,.int .i64 y2,.int .i64 y3])/\Chg [] w' w'':=by
  intro i hi
  refine ⟨_,_,_,_,c0l _,fun k hk => ?_,fun w' hc => ?_⟩
  ·have bp:k<(ptC p i).length:=by rw [a8d,<-hn];exact hk
   rw [zF bp]
   have e:(ptC p i)[k]=(ptC p i).getD k 0:=by rw [zD,zF bp];rfl
   rw [e]
   rcases (by omega:k=0\/k=1\/k=2\/k=3) with rfl | rfl | rfl | rfl<;>rfl
  ·have:=d7g cap (h.same hc) i (by rw [<-hN];exact hi)
   rw [c0l] at this
   exact this
 have ay:(a2y p).length=(a0z p N).length:=by rw [hN];exact e9h p
 have ao:∀ i,i<=N->(a0z p i).length<=(a2y p).length:=fun i hi=>by
  have:=c0m p i (N-i)
  rw [show i+(N-i)=N by omega] at this
  rw [ay]
  exact this
 have bq:∀ i,b8u p.P.length p.d (ptC p i):=fun i=>⟨a8d p i,d4e ah i⟩
 have bu:=c2b ah
 unfold e1c d1i
 unfold a6y at aV au ⊢
 rw [<-hn] at aV au ⊢
 obtain ⟨w1,aB⟩:=zX ((w.alloc (.cells #[.int .i64 p.W,.int .i64 p.H,.int .i64 p.d,.slice (some ⟨g,o,none⟩) n cap] 27)).alloc (.cells #[.int .i64 0,.int .i64 0,.slice none 0 0] 45))
 obtain ⟨X2,aG⟩:=zX (w.heap.size)
 obtain ⟨X4,aI⟩:=zX (X2+1)
 have aY:Box w1 X2 (.int .i64 p.W) (.int .i64 p.H) (.int .i64 p.d) (.slice (some ⟨g,o,none⟩) n cap):=⟨by rw [aB,aG];exact (Blk.new w _ _).alloc _⟩
 have a5:c4m w1 X4 (.int .i64 0) (.int .i64 0) (.slice none 0 0):=⟨by rw [aB,aI,aG];exact Blk.new2 w _ _ _⟩
 have bw:Chg [] w w1:=by rw [aB];exact ((zR [] w).alloc _).alloc _
 have t1:decide ((most:Int)<1)=false:=zA (by omega)
 have t2:decide ((256:Int)<(most:Int))=false:=zA (by omega)
 have cr:(p.W:Int)*(p.H:Int)=(N:Int):=by rw [hN];simp
 have cq:=ah.w1
 have cm:=ah.h1
 have ag:Hid (n=p.P.length/\N=p.W*p.H):=hid ⟨hn,hN⟩
 have HX:Hid (X2=w.heap.size/\X4=X2+1):=hid ⟨aG,aI⟩
 have av:=hid a5.blk.lt
 have ce:=hid aG
 have bH:=hid aI
 have cd:=hid aB
 have bh:=hid aY
 have bX:=hid a5
 have am:=hid bw
 have bY:=hid aV
 have cb:=hid au
 have cn:=hid ay
 have b6:=hid ao
 have bF:=hid bq
 have bZ:=hid bu
 have co:=@run_makeMap Tryz.prog
 obtain ⟨a0,a1,a2,a3⟩:=aY.cells
 clear aB aY a5 bw aV au ay ao bq bu ah h hn hN aG aI
 go_enter Tryz.func20,Tryz.ntmps20
 go_wp2_with fail
 rw [<-cd.out,<-ce.out,<-bH.out]
 refine (bY.out w1 am.out).mono ?_
 rintro e w2 ⟨rfl,aL⟩
 obtain ⟨a0,a1,a2,a3⟩:=(bh.out.same aL).cells
 obtain ⟨w3,az⟩:=zX (w2.alloc (.map #[] 0))
 obtain ⟨M,hM⟩:=zX (w2.heap.size)
 have a6:Chg [] w2 w3:=by rw [az];exact (zR [] w2).alloc _
 have bz:M<w3.heap.size:=by rw [az,a3f,hM];omega
 have aU:e1d w3 p M w3 (.slice none 0 0) [] [] [] 0:=⟨Own.nil _ _,a2k.nil _,by rw [az,hM];exact c5t _ _ _,by simp,by simp,zR _ _⟩
 have bT:=hid az
 have HM:=hid hM
 have a4:=hid bz
 have bW:=hid aU
 have aq:=hid (aL.tq a6)
 have aF:Hid (w1.heap.size<=M):=hid (by rw [hM];exact aL.size)
 obtain ⟨b0,b1,b2,b3⟩:=(bh.out.same (aL.tq a6)).cells
 rw [az] at b0 b1 b2 b3
 clear aL a6 bz aU az hM
 go_wp2_with fail
 rw [<-bT.out,<-HM.out]
 clear a0 a1 a2 a3 b0 b1 b2 b3
 go_loopg [7,8,9,28] N (fun j v7 v8 v9 v28 wr=>∃ (i:Nat) (F:List Nat) (xs:List Value) (gs:List Nat),v28=.int .i64 i/\i+j=N/\Hid (e1d w3 p M wr v7 F xs gs i)/\Hid ((a0z p i).length<=most))
 case atStart=>exact ⟨0,[],[],[],rfl,by omega,bW,hid (Nat.zero_le _)⟩
 case round =>
  obtain ⟨i,F,xs,gs,rfl,cj,HS,bg⟩:=hrel
  have bv:=fun wz (hz:Chg [M] w3 wz)=>And.intro ((bh.out.same aq.out).chg hz (by simp;have:=HX.out;have:=av.out;have:=aF.out;omega)) ((bX.out.same aq.out).chg hz (by simp;have:=av.out;have:=aF.out;omega))
  have aN:=hid bv
  clear bv
  rcases gk with _ | j
  ·obtain rfl:i=N:=by omega
   have t3:decide ((i:Int)<(i:Int))=false:=by simp
   have bN:0<(a0z p i).length:=by
    have h1:ptC p 0∈a0z p i:=(a9l p i _).2 ⟨0,bJ,rfl⟩
    exact List.length_pos_of_mem h1
   have ai:xs.length=(a0z p i).length:=HS.out.pl.lx
   have bn:=bg.out
   rcases HS.out.own.cases with ⟨_,he,_⟩ | ⟨gP,aa,hF⟩
   ·exfalso
    rw [he] at ai
    simp at ai
    omega
   have hr:=aa
   obtain ⟨aA,rfl,_,_,-,-⟩:=aa.open_
   rw [ai] at hr HS ⊢
   have bC:gP∉gs:=HS.out.dg gP (by rw [hF];simp)
   have a8:=e5s (n:=n) hr HS.out.pl bC aQ (fun c' hc'=>by
    obtain ⟨k,_,rfl⟩:=(a9l p i c').1 hc'
    rw [a8d,ag.out.1]) bN (by omega)
   unfold d5e at a8
   have ak:=HS.out.new gP (by rw [hF];simp)
   have an:∀ x∈gs,w3.heap.size<=x:=fun x hx=>HS.out.new x (by simp [hx])
   obtain ⟨K,hK⟩:=zX ((a0z p i).length)
   rw [<-hK] at a8 bn ⊢
   have HK:=hid hK
   have bK:=hid HS.out.chg
   have aX:=hid ak
   have bA:=hid an
   clear hr aa bC ai hK HS ak an
   go_wp2_with fail
   refine a8.mono ?_
   rintro e w5 ⟨rfl,D,ys,hs,bd,bD,aa,ay,aJ,aw⟩
   have bo:D.length=K:=by rw [bd.length_eq,HK.out]
   have bR:D=a2y p:=f2d (by rw [<-ag.out.2];exact bd) (bD.imp fun {a b} h=>by omega)
   subst bR
   have a7:Chg [M] w3 w5:=bK.out.trans aw (fun x hx => .inr (by simp at hx;have:=aX.out;omega))
   obtain ⟨⟨h2⟩,⟨h4⟩⟩:=aN.out w5 a7
   have a0:=h2.cell 0
   have a1:=h2.cell 1
   have a2:=h2.cell 2
   have a3:=h2.cell 3
   have z0:=h4.cell 0
   have z1:=h4.cell 1
   have z2:=h4.cell 2
   have f0:=h4.frozen 0
   have f1:=h4.frozen 1
   have f2:=h4.frozen 2
   simp at a0 a1 a2 a3 z0 z1 z2
   have bc:=hid h4
   have bU:=hid a7
   have ap:=hid aa
   have ba:=hid ay
   have aK:=hid aJ
   have be:=hid bo
   clear h2 h4 a7 aa ay aJ aw bd bD bo
   go_wp2_with fail
   refine d4b ⟨bc.out⟩ ?_
   intro X hX hY
   obtain ⟨x0,x1,x2⟩:=hX.cells
   refine bodyPost_ret (v:=.tuple #[.agg #[.int .i64 p.d,.int .i64 n,.slice (some ⟨gP,0,none⟩) K aA],.bool true]) (by simp [results,Tryz.results20,go_sem,x0,x1,x2]) rfl ?_
   have aI:X4<w3.heap.size:=by have:=av.out;have:=aq.out.size;omega
   refine ⟨((am.out.tq aq.out).trans bU.out (fun x hx => .inr (by simp at hx;have:=aF.out;have:=am.out.size;omega))).trans hY (fun x hx => .inr (by simp at hx;have:=HX.out;omega)),.inl ⟨by rw [be.out];exact bn,gP,aA,ys,hs,by rw [be.out],⟨?_,?_,?_⟩,fun x hx => ?_⟩⟩
   ·rw [ag.out.1]
    exact bZ.out (by rw [be.out];omega)
   ·exact ap.out.chg hY (by simp;have:=aX.out;omega)
   ·exact ba.out.chg hY (fun x hx hm=>by simp at hm;have:=bA.out x (aK.out x hx);omega)
   ·have h3:w.heap.size<=w3.heap.size:=by have:=am.out.size;have:=aq.out.size;omega
    rcases zJ.1 hx with rfl | hx
    ·have:=aX.out;omega
    ·have:=bA.out x (aK.out x hx);omega
  ·have hi:i<N:=by omega
   have t3:decide ((i:Int)<(N:Int))=true:=zB (by omega)
   obtain ⟨y0,y1,y2,y3,bl,aE,au⟩:=cb.out i hi
   have bk:Chg [] w wr:=(am.out.tq aq.out).trans HS.out.chg (fun x hx => .inr (by simp at hx;have:=aF.out;have:=am.out.size;omega))
   have aD:=au wr bk
   obtain ⟨⟨h1⟩,-⟩:=aN.out wr HS.out.chg
   have a0:=h1.cell 0
   have a1:=h1.cell 1
   have a2:=h1.cell 2
   have a3:=h1.cell 3
   simp at a0 a1 a2 a3
   have bm:=hid bl
   have a9:=hid aE
   obtain ⟨wo,b7⟩:=zX (wr)
   subst b7
   clear au bl aE h1 bk
   go_wp2_with fail
   refine aD.mono ?_
   rintro e w5 ⟨rfl,aw⟩
   obtain ⟨w6,ax⟩:=zX (w5.alloc (.cells #[.int .i64 y0,.int .i64 y1,.int .i64 y2,.int .i64 y3] 99))
   obtain ⟨X9,aH⟩:=zX (w5.heap.size)
   have bE:Chg [] w5 w6:=by rw [ax];exact (zR [] w5).alloc _
   have ac:Blk w6 X9 99 #[.int .i64 y0,.int .i64 y1,.int .i64 y2,.int .i64 y3]:=by rw [ax,aH];exact Blk.new w5 _ _
   have ae:=hid (HS.out.same (aw.tq bE))
   have aM:=d1v ae.out.seen (by rw [<-ag.out.1];exact aQ) bB (bF.out i)
   rw [bm.out] at aM
   have k0:=ac.cell 0
   have k1:=ac.cell 1
   have k2:=ac.cell 2
   have k3:=ac.cell 3
   simp at k0 k1 k2 k3
   have aP:=hid ax
   have ch:=hid aH
   have bI:=hid ac
   have bb:Hid (X9≠M/\w3.heap.size<=X9):=hid (by
    have:=HS.out.chg.size
    have:=aw.size
    have:=a4.out
    rw [aH]
    omega)
   rw [ax,aH] at k0 k1 k2 k3
   rw [ax] at aM
   clear aw bE ax aH ac aD a0 a1 a2 a3
   by_cases hmem:ptC p i∈a0z p i
   ·rw [zB hmem] at aM
    have ad:=hid hmem
    clear hmem
    go_wp2_with fail
    rw [<-aP.out]
    go_roundg j
    case measure=>omega
    case rel=>exact ⟨i+1,F,xs,gs,by go_num,by omega,hid (ae.out.skip ad.out),hid (by rw [a0z,if_pos ad.out];exact bg.out)⟩
   ·rw [zA hmem] at aM
    have ad:=hid hmem
    clear hmem
    have aS:=b6.out (i+1) hi
    rw [a0z,if_neg ad.out,zC] at aS
    have aS:(a0z p i).length+1<=(a2y p).length:=aS
    obtain ⟨A7,c7,rfl,bM,ci,bO,cf⟩:=ae.out.own.open_
    have ai:xs.length=(a0z p i).length:=ae.out.pl.lx
    obtain ⟨K,hK⟩:=zX ((a0z p i).length)
    rw [<-hK] at aS ai
    have ck:K<=most:=by rw [hK];exact bg.out
    have HK:=hid hK
    have bP:=hid ai
    rw [ai] at ae bM ⊢
    clear hK ai bO cf
    by_cases hfull:K=most
    ·have t4:((K:Int)==(most:Int))=true:=by rw [hfull];simp
     obtain ⟨-,⟨h4⟩⟩:=aN.out w6 ae.out.chg
     have z0:=h4.cell 0
     have z1:=h4.cell 1
     have z2:=h4.cell 2
     have f0:=h4.frozen 0
     have f1:=h4.frozen 1
     have f2:=h4.frozen 2
     simp at z0 z1 z2
     have bc:=hid h4
     have aC:=hid hfull
     rw [aP.out] at z0 z1 z2 f0 f1 f2
     clear h4 hfull
     go_wp2_with fail
     rw [<-aP.out]
     refine d4b ⟨bc.out⟩ ?_
     intro X hX hY
     obtain ⟨x0,x1,x2⟩:=hX.cells
     refine bodyPost_ret (v:=.tuple #[f4u,.bool false]) (by simp [results,Tryz.results20,go_sem,x0,x1,x2,f4u]) rfl ?_
     refine ⟨?_,.inr ⟨by have:=aC.out;omega,rfl⟩⟩
     exact (((am.out.tq aq.out).trans ae.out.chg (fun x hx => .inr (by simp at hx;have:=aF.out;have:=am.out.size;omega))).trans hY (fun x hx => .inr (by simp at hx;have:=HX.out;omega)))
    ·have t4:((K:Int)==(most:Int))=false:=by simp;omega
     have bV:Hid (K+1<=most):=hid (by omega)
     clear hfull
     obtain ⟨w7,aU,bj,aT⟩:=c5u ae.out.seen (by rw [<-ag.out.1];exact aQ) bB (by rw [<-HK.out];omega) (bF.out i)
     rw [bm.out,aP.out] at aU
     have ac:=bI.out.chg aT (by simp;exact bb.out.1)
     have k0:=ac.cell 0
     have k1:=ac.cell 1
     have k2:=ac.cell 2
     have k3:=ac.cell 3
     simp at k0 k1 k2 k3
     obtain ⟨⟨h2⟩,-⟩:=aN.out w7 (ae.out.chg.trans aT (fun x hx => .inl hx))
     have a0:=h2.cell 0
     have a1:=h2.cell 1
     have a2:=h2.cell 2
     have a3:=h2.cell 3
     simp at a0 a1 a2 a3
     have cg:=f3m X9 n aQ
     have bx:a0d vi w7 (some ⟨X9,0,none⟩) (ptC p i):=⟨fun _=>⟨X9,0,rfl,ac.lt,fun k v hk=>by
      have b4:k<n:=by rw [ag.out.1,<-a8d p i];exact (List.getElem?_eq_some_iff.1 hk).1
      have e:=a9.out k b4
      rw [hk] at e
      injection e with e
      rw [Nat.zero_add,ac.cell k,e]
      rcases (by omega:k=0\/k=1\/k=2\/k=3) with rfl | rfl | rfl | rfl<;>rfl⟩⟩
     have ab:=c4x w7 (some ⟨X9,0,none⟩) 4 (ptC p i) bx (by rw [a8d,<-ag.out.1];omega) (by rw [a8d,<-ag.out.1];omega)
     rw [a8d,<-ag.out.1] at ab
     have bL:=hid bj
     have br:=hid aT
     rw [ch.out] at k0 k1 k2 k3 cg ab
     have bQ:=hid ab
     clear bj aT ac h2 bx ab
     go_wp2_with fail
     refine bQ.out.mono ?_
     rintro e w8 ⟨v8,g5,rfl,aa,aZ,bs⟩
     have aW:=aa
     obtain ⟨c8,rfl,_⟩:=aa.oq
     rw [a8d,<-ag.out.1] at aW ⊢
     obtain ⟨wB,aR⟩:=zX (w8.alloc (.cells #[.slice (some ⟨g5,0,none⟩) n c8] 22))
     have aO:Chg [] w8 wB:=by rw [aR];exact (zR [] w8).alloc _
     have bi:=Blk.new w8 22 #[.slice (some ⟨g5,0,none⟩) n c8]
     have af:=(ae.out.own.chg br.out (fun x hx=>by have:=ae.out.new x (by simp [hx]);have:=a4.out;simp;omega)).same (aZ.tq aO)
     have aj:=aW.chg aO (by simp)
     rw [aR] at af
     have b9:=hid aR
     have ap:=hid aj
     have ca:=hid (aZ.tq aO)
     have cc:=hid bs
     have bf:=bP.out
     clear aR aO aa aW aj aZ bs
     go_wp2_with (at_builtin;refine a0f rfl rfl b7k rfl rfl af (.slice (some ⟨g5,0,none⟩) n c8) rfl ?c1 rfl ?c3 ?c4 ?_)
     case c1=>exact bi.cell 0
     case c3=>rw [bf];omega
     case c4=>rw [bf];omega
     intro g6 b5 w9 al ar
     rw [<-b9.out] at ar
     have bG:=ae.out.next ad.out a4.out bL.out br.out ca.out cc.out ap.out al ar
     have bS:=hid bG
     clear bG ar al af bi bf
     go_wp2_with fail
     go_roundg j
     case measure=>omega
     case rel=>exact ⟨i+1,[g6],_,_,by go_num,by omega,bS,hid (by rw [a0z,if_neg ad.out,zC,<-HK.out];exact bV.out)⟩
end Go.Proofs.YtepjepkgcdfboaaGreatDoor

namespace Go.Proofs.YtepjepkgcdfboaaGreatDoor
open Go.RowKit Go.Maps
def c2d (C:List (List Int)) (k:Nat) (c:List Int):Option Lit:=if c∈C.take k then some (.int .i64 (C.idxOf c:Nat)) else none
def a7r (n d:Nat) (w:World) (M:Nat) (C:List (List Int)) (k:Nat):Prop:=a4f Tryz.prog 99 3 c9u (b8u n d) w M k (c2d C k)
theorem d4c (n d:Nat) (w:World) (C:List (List Int)):a7r n d (w.alloc (.map #[] 0)) w.heap.size C 0:=by
 have h:=a4f.made w Tryz.prog 99 3 c9u (b8u n d)
 have e:c2d C 0=fun _=>none:=by
  funext c
  unfold c2d
  rw [if_neg (by simp)]
 unfold a7r
 rw [e]
 exact h
theorem e0d {n d:Nat} {w:World} {M:Nat} {C:List (List Int)} (h:a7r n d w M C C.length) (hn:n<=4) (hd:d<=16) {c:List Int} (hc:b8u n d c) (hm:c∈C) :
  (Instr.lookup 107 (.map (some M)) (c9u c) true).run Tryz.prog w=.ok (.tuple #[.int .i64 (C.idxOf c:Nat),.bool true]) w:=by
 refine a4f.look_int h (b9h hn hd) b5a Tryz.underlying107 Tryz.underlying3 (f0k w) hc ?_
 unfold c2d
 rw [zN,if_pos hm]
theorem d4d {n d:Nat} {w:World} {M k:Nat} {C:List (List Int)} (h:a7r n d w M C k) (hn:n<=4) (hd:d<=16) (hk:k<C.length) (hk2:k<1000) (hnd:C.Nodup) (hc:b8u n d (C.getD k [])) :
  ∃ w',(Instr.mapUpdate 107 (.map (some M)) (c9u (C.getD k [])) (.int .i64 k)).run Tryz.prog w=.ok () w'/\a7r n d w' M C (k+1)/\Chg [M] w w':=by
 obtain ⟨w',h1,h2,h3⟩:=a4f.store h (b9h hn hd) b5a Tryz.underlying107 (by unfold maxLen;omega) hc (plainElem_int Tryz.underlying3 (WalkArith.wf_i64 (n:=(k:Int)) (by omega)))
 refine ⟨w',h1,?_,h3⟩
 have hg:C.getD k []=C[k]:=by rw [zD,zF hk];rfl
 have aa:C.idxOf (C.getD k [])=k:=by rw [hg];exact hnd.idxOf_getElem k hk
 have e:(fun x=>if x=C.getD k [] then some (Lit.int .i64 k) else c2d C k x)=c2d C (k+1):=by
  funext x
  unfold c2d
  rw [d7s hk]
  by_cases h1:x=C.getD k []
  ·rw [if_pos h1,if_pos (by simp [h1]),h1,aa]
  ·by_cases h2:x∈C.take k
   ·rw [if_neg h1,if_pos h2,if_pos (by simp [h2])]
   ·rw [if_neg h1,if_neg h2,if_neg (by simp only [zP,zU];exact fun h=>h.elim h2 h1)]
 unfold a7r
 rw [<-e]
 exact h2
theorem d0p {p:a2a} {i:Nat} (hi:i<p.W*p.H):(a3q p)[i]?=some (((a2y p).idxOf (ptC p i):Nat):Int):=by
 unfold a3q f3q
 rw [zW,zW,List.getElem?_range hi]
 rfl
theorem e4r {w:World} {p:a2a} {g o:Nat} {B:Nat->Option Addr} {c:Nat->Nat} {G:List Nat} (cap:Nat) (h:a4l w p g o B c G)
  {gL oL:Nat} {BL:Nat->Option Addr} {cL:Nat->Nat} {GL:List Nat} (capL:Nat) (hp:b1a w p.P.length p.d (a2y p) gL oL BL cL GL) :
  Calls Tryz.prog 22 #[a6y p g o cap,d1i p.P.length p.d (a2y p).length gL oL capL] w fun e w'=>∃ g9,e=.returned (.tuple #[.slice (some ⟨g9,0,none⟩) (p.W*p.H) (p.W*p.H),.bool true])/\Row w' 3 (.slice (some ⟨g9,0,none⟩) (p.W*p.H) (p.W*p.H)) g9 ((a3q p).map vi)/\Chg [] w w'/\w.heap.size<=g9:=by
 have aj:=h.ok
 have av:=hp.ok
 have aJ:∀ w',Chg [] w w'->_:=fun w' (hc':Chg [] w w')=>c1d cap (h.same hc')
 have ab:∀ w',Chg [] w w'->_:=fun w' (hc':Chg [] w w')=>c7q capL (hp.same hc')
 obtain ⟨n,hn⟩:=zX (p.P.length)
 obtain ⟨N,hN⟩:=zX (p.W*p.H)
 obtain ⟨m,hm⟩:=zX ((a2y p).length)
 have bg:n<=4:=by rw [hn];exact aj.n1
 have bi:=aj.d1
 have bS:N<=4096:=by rw [hN];exact aj.area
 have bR:m<=256:=by rw [hm];exact av.c1
 have ah:∀ i w',i<N->Chg [] w w'->Calls Tryz.prog 56 #[a6y p g o cap,.int .i64 i] w' fun e w''=>e=.returned (c9u (ptC p i))/\Chg [] w' w'':=fun i w' hi hc=>d7g cap (h.same hc) i (by rw [<-hN];exact hi)
 have bd:∀ i,b8u n p.d (ptC p i):=fun i=>⟨by rw [hn];exact a8d p i,d4e aj i⟩
 have an:∀ k,k<m->b8u n p.d ((a2y p).getD k []):=fun k hk=>⟨by rw [hn];exact av.len _ (a0n (by rw [<-hm];exact hk)),av.smp _ (a0n (by rw [<-hm];exact hk))⟩
 have ae:∀ i,i<N->ptC p i∈a2y p:=fun i hi=>(a7h p _).2 ⟨i,by rw [<-hN];exact hi,rfl⟩
 have aT:=av.nd
 have aU:=a9r p
 have a4:∀ i,i<N->(a3q p)[i]?=some (((a2y p).idxOf (ptC p i):Nat):Int):=fun i hi=>d0p (by rw [<-hN];exact hi)
 have a5:∀ i,i<N->(a2y p).idxOf (ptC p i)<m:=fun i hi=>by rw [hm];exact List.idxOf_lt_length_of_mem (ae i hi)
 have bP:=a1p (P:=Tryz.prog) a0p rfl .i64 .i64 N (by omega) (by omega)
 obtain ⟨C,hC⟩:=zX (a2y p)
 rw [<-hC] at hp ab an ae aT a4 a5 hm ⊢
 rw [<-hN] at aU ⊢
 unfold d1i at ab ⊢
 unfold a6y at aJ ah ⊢
 rw [<-hn] at aJ ah ab hp ⊢
 rw [<-hm] at ab ⊢
 obtain ⟨w1,au⟩:=zX ((w.alloc (.cells #[.int .i64 p.W,.int .i64 p.H,.int .i64 p.d,.slice (some ⟨g,o,none⟩) n cap] 27)).alloc (.cells #[.int .i64 p.d,.int .i64 n,.slice (some ⟨gL,oL,none⟩) m capL] 45))
 obtain ⟨X2,ax⟩:=zX (w.heap.size)
 obtain ⟨X3,aC⟩:=zX (X2+1)
 have aN:Box w1 X2 (.int .i64 p.W) (.int .i64 p.H) (.int .i64 p.d) (.slice (some ⟨g,o,none⟩) n cap):=⟨by rw [au,ax];exact (Blk.new w _ _).alloc _⟩
 have aI:c4m w1 X3 (.int .i64 p.d) (.int .i64 n) (.slice (some ⟨gL,oL,none⟩) m capL):=⟨by rw [au,aC,ax];exact Blk.new2 w _ _ _⟩
 have bf:Chg [] w w1:=by rw [au];exact ((zR [] w).alloc _).alloc _
 have bY:(p.W:Int)*(p.H:Int)=(N:Int):=by rw [hN];simp
 have bX:=aj.w1
 have bT:=aj.h1
 have t1:((p.d:Int) != (p.d:Int))=false:=by simp
 have t2:((n:Int) != (n:Int))=false:=by simp
 have HX:Hid (X2=w.heap.size/\X3=X2+1):=hid ⟨ax,aC⟩
 have ag:=hid aI.blk.lt
 have bL:=hid ax
 have bH:=hid aC
 have bI:=hid au
 have aD:=hid aN
 have aQ:=hid aI
 have ad:=hid bf
 have bB:=hid aJ
 have aR:=hid ab
 have bG:=hid ah
 have bN:=hid bd
 have bC:=hid an
 have aS:=hid ae
 have bx:=hid aT
 have aY:=hid aU
 have bo:=hid a4
 have bK:=hid a5
 have aK:=hid hp
 have bm:Hid (m=C.length):=hid hm
 have aO:=hid hp.lt
 have bU:=@run_makeMap Tryz.prog
 obtain ⟨a0,a1,a2,a3⟩:=aN.cells
 obtain ⟨b0,b1,b2⟩:=aI.cells
 clear au aN aI bf aJ ab ah bd an ae aT aU a4 a5 aj av h hp hn hN hm ax aC hC
 go_enter Tryz.func22,Tryz.ntmps22
 go_wp2_with fail
 rw [<-bI.out,<-bL.out,<-bH.out]
 refine (aR.out w1 ad.out).mono ?_
 rintro e w2 ⟨rfl,a8⟩
 obtain ⟨a0,a1,a2,a3⟩:=(aD.out.same a8).cells
 have ay:=hid a8
 clear a8
 go_wp2_with fail
 refine (bB.out w2 (ad.out.tq ay.out)).mono ?_
 rintro e w3 ⟨rfl,bc⟩
 have ac:=hid (ay.out.tq bc)
 obtain ⟨a0,a1,a2,a3⟩:=(aD.out.same ac.out).cells
 obtain ⟨b0,b1,b2⟩:=(aQ.out.same ac.out).cells
 obtain ⟨w4,aw⟩:=zX (w3.alloc (.map #[] 0))
 obtain ⟨M,hM⟩:=zX (w3.heap.size)
 have bh:Chg [] w3 w4:=by rw [aw];exact (zR [] w3).alloc _
 have aW:a7r n p.d w4 M C 0:=by rw [aw,hM];exact d4c _ _ _ _
 have ba:w1.heap.size<=M:=by rw [hM];exact ac.out.size
 have bD:=hid aw
 have HM:=hid hM
 have bE:=hid aW
 have ap:=hid ba
 have bs:=hid (a4f.lt aW)
 have af:=hid (ac.out.tq bh)
 obtain ⟨d0,d1,d2⟩:=(aQ.out.same af.out).cells
 rw [aw] at d0 d1 d2
 clear bc aw hM bh aW ba
 go_wp2_with fail
 rw [<-bD.out,<-HM.out]
 clear a0 a1 a2 a3 b0 b1 b2 d0 d1 d2
 go_loopg [7,8,40] m (fun j v7 v8 v40 wr=>∃ k:Nat,v40=.int .i64 k/\k+j=m/\Hid (a7r n p.d wr M C k)/\Hid (Chg [M] w4 wr))
 case atStart=>exact ⟨0,rfl,by omega,bE,hid (zR _ _)⟩
 case round =>
  obtain ⟨k,rfl,bW,HS,am⟩:=hrel
  have ai:∀ wz,Chg [M] w4 wz->b1a wz n p.d C gL oL BL cL GL:=fun wz hz=>((aK.out.same ad.out).same af.out).chg hz (fun x hx hm=>by
   have:=aO.out x hx
   have:=ad.out.size
   have:=ap.out
   simp at hm
   omega)
  rcases gk with _ | j
  ·obtain rfl:k=m:=by omega
   have t8:decide ((k:Int)<(k:Int))=false:=by simp
   have ak:∀ x,x<w1.heap.size->x∉[M]:=fun x hx hm=>by simp at hm;have:=ap.out;omega
   obtain ⟨a0,a1,a2,a3⟩:=((aD.out.same af.out).chg am.out (ak X2 (by have:=HX.out;have:=ag.out;omega))).cells
   obtain ⟨g9,aB⟩:=zX (wr.heap.size)
   obtain ⟨w5,aG⟩:=zX (wr.alloc (.cells (Array.replicate N (Value.int .i64 0)) 3))
   have ao:Row w5 3 (.slice (some ⟨g9,0,none⟩) N N) g9 ((a1a [] N).map vi):=by
    have:=Row.zeros wr N (by omega)
    rw [List.toArray_replicate] at this
    rw [aG,aB]
    exact this
   have aM:Chg [] wr w5:=by rw [aG];exact (zR [] wr).alloc _
   have be:a7r n p.d w5 M C C.length:=by
    have:=a4f.same HS.out aM
    rw [bm.out] at this
    exact this
   have aq:M<g9:=by rw [aB];exact Nat.lt_of_lt_of_le bs.out am.out.size
   have bM:=hid aG
   have bp:=hid aB
   have aP:=hid ao
   have aX:=hid (am.out.tq (aM.mono (F':=[M]) (by simp)))
   have br:=hid be
   have al:=hid aq
   clear aG aB ao aM be aq ai ak HS
   go_wp2_with fail
   rw [<-bM.out,<-bp.out]
   clear a0 a1 a2 a3
   go_loopg [10,11,12,58,61] N (fun j2 v10 v11 v12 v58 v61 wr=>∃ i:Nat,v58=.int .i64 i/\i+j2=N/\Hid (Row wr 3 (.slice (some ⟨g9,0,none⟩) N N) g9 ((a1a ((a3q p).take i) N).map vi))/\Hid (a7r n p.d wr M C C.length)/\Hid (Chg [M,g9] w4 wr))
   case atStart=>exact ⟨0,rfl,by omega,aP,br,hid (aX.out.mono (by simp +contextual))⟩
   case round =>
    obtain ⟨i,rfl,bQ,HR,HS,aE⟩:=hrel
    have bq:w1.heap.size<=g9:=by have:=al.out;have:=ap.out;omega
    have ak:∀ x,x<w1.heap.size->x∉[M,g9]:=fun x hx hm=>by simp at hm;have:=ap.out;have:=al.out;omega
    rcases gk with _ | j2
    ·obtain rfl:i=N:=by omega
     have t9:decide ((i:Int)<(i:Int))=false:=by simp
     have hE:=(ad.out.tq af.out).trans aE.out (fun x hx => .inr (by have h1:¬ x<w1.heap.size:=fun h=>ak x h hx;have:=ad.out.size;omega))
     have hr:=HR.out
     have e:a1a ((a3q p).take i) i=a3q p:=by
      have:=b5h (a3q p)
      rw [aY.out] at this
      exact this
     rw [e] at hr
     go_wp2_with fail
     refine bodyPost_ret (v:=.tuple #[.slice (some ⟨g9,0,none⟩) i i,.bool true]) (by simp [results,Tryz.results22,go_sem]) rfl ?_
     exact ⟨g9,rfl,hr,hE,by have:=ad.out.size;omega⟩
    ·have hi:i<N:=by omega
     have t9:decide ((i:Int)<(N:Int))=true:=zB (by omega)
     have bj:Chg [] w wr:=(ad.out.tq af.out).trans aE.out (fun x hx => .inr (by have h1:¬ x<w1.heap.size:=fun h=>ak x h hx;have:=ad.out.size;omega))
     have ah:=bG.out i wr hi bj
     obtain ⟨a0,a1,a2,a3⟩:=((aD.out.same af.out).chg aE.out (ak X2 (by have:=HX.out;have:=ag.out;omega))).cells
     have aA:((a3q p).take i).length=i:=by rw [zI,aY.out];omega
     have bJ:=bK.out i hi
     obtain ⟨x,hx⟩:=zX (C.idxOf (ptC p i))
     rw [<-hx] at bJ
     have ar:(a3q p).take (i+1)=(a3q p).take i++[(x:Int)]:=by
      have h1:i<(a3q p).length:=by rw [aY.out];exact hi
      have h2:=bo.out i hi
      rw [zF h1,<-hx] at h2
      injection h2 with h2
      rw [List.take_succ_eq_append_getElem h1,h2]
     obtain ⟨wo,aZ⟩:=zX (wr)
     subst aZ
     have bA:=hid hx
     have aL:=hid ar
     have aF:=hid aA
     clear bj hx ar aA bq ak
     go_wp2_with fail
     refine ah.mono ?_
     rintro e w6 ⟨rfl,az⟩
     have bn:=e0d (a4f.same HS.out az) bg bi (bN.out i) (aS.out i hi)
     rw [<-bA.out] at bn
     have a6:=HR.out.chg az (by simp)
     have bl:=a6.fill_cell (by rw [aF.out];exact hi)
     rw [aF.out] at bl
     obtain ⟨bV,bO⟩:=bl
     have aH:=a6.fill (by rw [aF.out];exact hi) (x:Int)
     rw [aF.out,<-aL.out] at aH
     have bk:=HS.out.same az
     have bv:Hid (a7r n p.d (w6.setCell ⟨g9,i,none⟩ (.int .i64 x)) M C C.length):=hid (a4f.chg bk ((zR [g9] w6).setCell (p:=⟨g9,i,none⟩) (.inl (by simp)) _) (by simp;have:=al.out;omega))
     have bz:=hid aH
     have bF:Hid (Chg [M,g9] w4 (w6.setCell ⟨g9,i,none⟩ (.int .i64 x))):=hid ((aE.out.tq (az.mono (by simp))).setCell (.inl (by simp)) _)
     clear aH az a6 bk ah a0 a1 a2 a3
     go_wp2_with fail
     go_roundg j2
     case measure=>omega
     case rel=>exact ⟨i+1,by go_num,by omega,bz,bv,bF⟩
  ·have hk:k<m:=by omega
   have t8:decide ((k:Int)<(m:Int))=true:=zB (by omega)
   have a9:k<C.length:=by rw [<-bm.out];exact hk
   obtain ⟨b,q,e1,-,e3⟩:=d1j (ai wr am.out) a9
   obtain ⟨b0,b1,b2⟩:=((aQ.out.same af.out).chg am.out (by simp;have:=HX.out;have:=ag.out;have:=ap.out;omega)).cells
   have aa:=fun wz (hz:Chg [] wr wz)=>d4d (a4f.same HS.out hz) bg bi a9 (by omega) bx.out (bC.out k hk)
   obtain ⟨cc,an⟩:=zX (C.getD k [])
   rw [<-an] at e3 aa
   have a7:=hid aa
   have bw:=hid e3
   obtain ⟨wo,aZ⟩:=zX (wr)
   subst aZ
   clear an e3 aa ai
   go_wp2_with fail
   refine (bw.out _ (zR _ _)).mono ?_
   rintro e wA ⟨rfl,aV⟩
   obtain ⟨wB,aH,ar,bb⟩:=a7.out wA aV
   have aL:=hid ar
   have bu:Hid (Chg [M] w4 wB):=hid ((am.out.tq (aV.mono (by simp))).tq bb)
   clear ar aV bb
   go_wp2_with fail
   go_roundg j
   case measure=>omega
   case rel=>exact ⟨k+1,by go_num,by omega,aL,bu⟩
end Go.Proofs.YtepjepkgcdfboaaGreatDoor
