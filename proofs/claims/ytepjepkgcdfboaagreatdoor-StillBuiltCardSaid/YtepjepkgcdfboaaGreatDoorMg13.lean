/- package prefix by its contracts: elements in memory, order. -/
import Derived.Test.YtepjepkgcdfboaaGreatDoorMg11
import Derived.Test.YtepjepkgcdfboaaGreatDoorMg04
import Derived.Test.YtepjepkgcdfboaaGreatDoorMg14
set_option linter.unusedVariables false
set_option linter.unusedSimpArgs false
set_option maxHeartbeats 4000000
set_option maxRecDepth 100000
namespace Go.Proofs.YtepjepkgcdfboaaGreatDoor
open Go.RowKit Go.Sort Go.Shelf Go.Lib
def c9c (P:Nat->Prop) (w:World):El->Nat->Prop
  | .coin s k,b=>P b/\Blk w b 252 #[.int .i64 k,.int .i64 s,.slice none 0 0]
  | .pack x y, b => ∃ g b1 b2, P b /\ P g /\ Blk w b 252 #[.int .i64 ((x.wt + y.wt : Nat) : Int), .int .i64 0, .slice (some ⟨g, 0, none⟩) 2 2] /\
      Blk w g 250 #[.pointer (some ⟨b1,0,none⟩),.pointer (some ⟨b2,0,none⟩)]/\c9c P w x b1/\c9c P w y b2
theorem c9c.head {P:Nat->Prop} {w:World} {e:El} {b:Nat} (h:c9c P w e b):P b/\b<w.heap.size/\w.cell? ⟨b,0,none⟩=some (.int .i64 e.wt):=by
 cases e with
 | coin s k=>exact ⟨h.1,h.2.lt,by have := h.2.cell 0;simpa [El.wt] using this⟩
 | pack x y =>
  obtain ⟨g,b1,b2,h1,h2,h3,_⟩:=h
  exact ⟨h1,h3.lt,by have:=h3.cell 0;simpa [El.wt] using this⟩
theorem c9c.chg {P:Nat->Prop} {w w':World} {F:List Nat} (hc:Chg F w w') (hF:∀ x∈F,¬ P x):∀ {e:El} {b:Nat},c9c P w e b->c9c P w' e b:=by
 intro e
 induction e with
 | coin s k=>intro b h;exact ⟨h.1,h.2.chg hc fun hm=>hF _ hm h.1⟩
 | pack x y ihx ihy =>
  intro b h
  obtain ⟨g,b1,b2,h1,h2,h3,h4,h5,h6⟩:=h
  exact ⟨g,b1,b2,h1,h2,h3.chg hc fun hm=>hF _ hm h1,h4.chg hc fun hm=>hF _ hm h2,ihx h5,ihy h6⟩
theorem c9c.same {P:Nat->Prop} {w w':World} (hc:Chg [] w w') {e:El} {b:Nat} (h:c9c P w e b):c9c P w' e b:=h.chg hc (by simp)
theorem c9c.imp {P Q:Nat->Prop} {w:World} (h:∀ x,x<w.heap.size->P x->Q x):∀ {e:El} {b:Nat},c9c P w e b->c9c Q w e b:=by
 intro e
 induction e with
 | coin s k=>intro b k;exact ⟨h _ k.2.lt k.1,k.2⟩
 | pack x y ihx ihy =>
  intro b k
  obtain ⟨g,b1,b2,h1,h2,h3,h4,h5,h6⟩:=k
  exact ⟨g,b1,b2,h _ h3.lt h1,h _ h4.lt h2,h3,h4,ihx h5,ihy h6⟩
abbrev PE:=Nat × El
def b9i (p:PE):Value:=.pointer (some ⟨p.1,0,none⟩)
def Els (P:Nat->Prop) (w:World) (l:List PE):Prop:=∀ p∈l,c9c P w p.2 p.1
theorem Els.chg {P:Nat->Prop} {w w':World} {F:List Nat} {l:List PE} (h:Els P w l) (hc:Chg F w w') (hF:∀ x∈F,¬ P x):Els P w' l:=fun p hp=>(h p hp).chg hc hF
theorem Els.same {P:Nat->Prop} {w w':World} {l:List PE} (h:Els P w l) (hc:Chg [] w w'):Els P w' l:=fun p hp=>(h p hp).same hc
theorem Els.imp {P Q:Nat->Prop} {w:World} {l:List PE} (h:Els P w l) (hi:∀ x,x<w.heap.size->P x->Q x):Els Q w l:=fun p hp=>(h p hp).imp hi
theorem f1p (blk off c Bs size:Nat) (W:World) (G K:Nat->Nat) (hs:W.cell? ⟨Bs,0,none⟩=some (.slice (some ⟨blk,off,none⟩) size c))
  (hc:∀ t,t<size->W.cell? ⟨blk,off+t,none⟩=some (.pointer (some ⟨G t,0,none⟩))) (hw:∀ t,t<size->W.cell? ⟨G t,0,none⟩=some (.int .i64 (K t:Int))) (i j:Nat) (hi:i<size) (hj:j<size) :
  Calls Tryz.prog 256 #[.int .i64 i,.int .i64 j,.pointer (some ⟨Bs,0,none⟩)] W fun e w'=>e=.returned (.bool (decide (K i<K j)))/\∃ q,w'=W.drewN q:=by
 have ci:=hc i hi
 have cj:=hc j hj
 have wi:=hw i hi
 have wj:=hw j hj
 clear hc hw
 have e:decide (K i<K j)=decide ((K i:Int)<(K j:Int)):=by simp
 rw [e]
 generalize K i=ki at *
 generalize K j=kj at *
 generalize G i=gi at *
 generalize G j=gj at *
 clear e
 go_enter Tryz.func256,Tryz.ntmps256
 go_wp2
 go_quiet (fail)
 go_wp2
 go_ret
 exact ⟨by simp,nq,rfl⟩
open Go.RowKit Go.Sort Go.Shelf Go.Lib
noncomputable def f3h:TypeInfo:=(Tryz.prog.info? 249).get (by kernel_rfl)
noncomputable def elI:TypeInfo:=(Tryz.prog.info? 250).get (by kernel_rfl)
theorem elK (n:Nat) (h2:2<=n):Lib.swapperK n elI 22=3:=by
 have a:elI.hasPointers=true:=by kernel_rfl
 have b:elI.bytes=8:=by kernel_rfl
 have c:(n==0)=false:=by simp;omega
 have d:(n==1)=false:=by simp;omega
 simp [Lib.swapperK,a,b,c,d]
theorem d6z (w:World) (v:Value) (g:Nat) (E:List PE) (h2:2<=E.length) (hle:E.length<1099511627776) (hr:Row w 250 v g (E.map b9i)) (hE:Els (·≠g) w E) :
  Calls Tryz.prog 218 #[v] w fun e w'=>e=.returned (.tuple #[])/\Row w' 250 v g ((c8m (·.2) E (E.headD default)).map b9i)/\Chg [g] w w':=by
 have aG:=hr.lt
 obtain ⟨aa,rfl,an,au,_,_⟩:=hr.oq
 obtain ⟨n,hn⟩:=zX (E.length)
 rw [<-hn] at h2 hle an ⊢
 -- the elements by their places
 obtain ⟨e0,ak⟩:=zX (E.headD default)
 have ay:e0∈E:=by
  rw [ak]
  cases E with
  | nil=>simp at hn;omega
  | cons x l=>simp
 have af:∀ k,E.getD k e0∈E:=fun k=>by
  rw [zD]
  cases hk:E[k]? with
  | none=>exact ay
  | some x=>exact List.mem_of_getElem? hk
 let enc:Nat->Value:=fun k=>b9i (E.getD k e0)
 let T:List El:=E.map (·.2)
 have ag:∀ k,(E.getD k e0).2.wt=e0w T k:=fun k=>by
  unfold e0w
  show _=((E.map fun p:PE=>p.2).getD k ((E.map fun p:PE=>p.2).headD default)).wt
  rw [zD,zD,zW,ak]
  cases hk:E[k]? with
  | none =>
   cases E with
   | nil=>rfl
   | cons x l=>rfl
  | some x=>rfl
 let lt:Nat->Nat->Bool:=fun x y=>decide (e0w T x<e0w T y)
 have aj:(List.range n).map enc=E.map b9i:=by
  have e:(List.range n).map enc=((List.range n).map fun k=>E.getD k e0).map b9i:=by rw [List.map_map];rfl
  rw [e,hn,b0m]
 rw [<-hn,<-aj] at hr
 have al:=hr.alloc (.cells #[.slice (some ⟨g,0,none⟩) n aa] 249)
 have hH:Holds enc w g 0 (List.range n).toArray:=hr.holds
 obtain ⟨W1,ad⟩:=zX (w.alloc (.cells #[.slice (some ⟨g,0,none⟩) n aa] 249))
 have ao:Holds enc W1 g 0 (List.range n).toArray:=by rw [ad];exact al.holds
 have ap:g<W1.heap.size:=by rw [ad];simp;omega
 have ah:(List.range n).toArray.size=n:=by simp
 have ai:W1.cell? ⟨w.heap.size,0,none⟩=some (.slice (some ⟨g,0,none⟩) n aa):=by rw [ad];simp
 have az:Els (·≠g) W1 E:=hE.same (by rw [ad];exact (zR [] w).alloc _)
 have ac:LessReads Tryz.prog 256 #[.pointer (some ⟨w.heap.size,0,none⟩)] enc lt g 0 n W1:=by
  intro m os dk hs i j hi hj
  have ae:SW enc W1 g 0 dk (sortWorld enc W1 g 0 m dk os):=⟨m,os,rfl⟩
  have aC:=ae.holds ap ao (hs.trans ah.symm)
  have hl:=f1p g 0 aa w.heap.size n (sortWorld enc W1 g 0 m dk os) (fun t=>(E.getD dk[t]! e0).1) (fun t=>e0w T dk[t]!)
   ((a3a ae (p:=⟨w.heap.size,0,none⟩) (by rw [ad];simp) (by show w.heap.size≠g;omega)).trans ai)
   (fun t ht=>(aC t (by omega)).1)
   (fun t ht=>by
    have h5:=(az _ (af dk[t]!)).head
    rw [a3a ae (p:=⟨(E.getD dk[t]! e0).1,0,none⟩) h5.2.1 h5.1,h5.2.2,ag]) i j hi hj
  exact hl
 have ab:d2m lt (d2k T) 0 n (List.range n).toArray:=by
  intro i j _ aH hj
  have ei:(List.range n).toArray[i]! = i:=by simp [show i<n by omega]
  have ej:(List.range n).toArray[j]! = j:=by simp [hj]
  rw [ei,ej]
  show decide (e0w T j<e0w T i)=d2k T j i
  unfold d2k
  congr 1
  simp only [eq_iff_iff]
  omega
 have aq:T.length=n:=by show (E.map (·.2)).length=n;rw [zE];exact hn.symm
 have hS:=Any.sort_SliceStable_of_stable (P:=Tryz.prog) Tryz.laysGt8 249 250 f3h elI (by kernel_rfl) (by kernel_rfl) (by kernel_rfl) (by kernel_rfl) 22 (fun _=>by kernel_rfl) (some ⟨g,0,none⟩) n aa (by omega) 286
  (by rw [elK _ h2];kernel_rfl) (.func 256) #[] #[.pointer (some ⟨w.heap.size,0,none⟩)] W1
  (fun W=>Row W 250 (.slice (some ⟨g,0,none⟩) n aa) g ((c8m (·.2) E e0).map b9i)/\Chg [g] W1 W) (by
   have hB:sliceBound Tryz.prog 250 elI 22 (some ⟨g,0,none⟩) n aa=#[.slice (some ⟨g,0,none⟩) n aa,typeHandle Tryz.prog 250]:=by
    unfold sliceBound;rw [if_neg (swapperK_gt _ _ _ h2)]
   rw [hB]
   have E0:c3f Tryz.prog enc lt 256 #[.pointer (some ⟨w.heap.size,0,none⟩)] g 0 n W1 (List.range n).toArray:=⟨ac,ao,ap,ah⟩
   have am:=swapSwaps_of_literal (P:=Tryz.prog) true 286
    (fun args W=>run_callFunc_extern Tryz.func286 (by kernel_rfl) (by kernel_rfl) (by kernel_rfl) (e:=Extern.ReflectliteSwapper.swap true) (by kernel_rfl) args W) 250 elI (by kernel_rfl) (by kernel_rfl) (fun _=>by kernel_rfl) enc (fun _=>rfl) g 0 n aa
   have aF:=e5u enc lt (d2k T) 256 #[.pointer (some ⟨w.heap.size,0,none⟩)] 286 #[.slice (some ⟨g,0,none⟩) n aa,typeHandle Tryz.prog 250] g 0 n (d6s T)
    (enters_of Tryz.func256 (by kernel_rfl) rfl) am hle _ _
    ((E0.alloc (.cells #[.slice (some ⟨g,0,none⟩) n aa] 249)).alloc (.cells #[.pointer (some ⟨(Tryz.prog).globals.size,249,none⟩),.pointer (some ⟨W1.heap.size,0,none⟩),.int .u64 151] (Tryz.laysGt8_ren.t 36))) ab
   refine aF.mono ?_
   rintro e w' ⟨rfl,d',aA,av,ae⟩
   have aB:d'.toList=b7l T:=by
    have h5:=sorted_unique_holds (d6s T) (d9m T) (List.range n).toArray d' (by rw [ah];exact av) (by rw [ah];exact aA)
    rw [h5]
    unfold b7l
    rw [aq]
   refine ⟨rfl,?_,?_⟩
   ·obtain ⟨m,os,rfl⟩:=ae
    have ax:=(al.alloc (.cells #[.slice (some ⟨g,0,none⟩) n aa] 249)).alloc (.cells #[.pointer (some ⟨(Tryz.prog).globals.size,249,none⟩),.pointer (some ⟨W1.heap.size,0,none⟩),.int .u64 151] (Tryz.laysGt8_ren.t 36))
    rw [<-ad] at ax
    have aw:=((ax.aheadN m).putRow (ys:=d'.toList) (by
     have:d'.toList.length=d'.size:=Array.length_toList
     rw [this,av.1]
     simp)).growO os
    rw [Array.toArray_toList] at aw
    have em:(c8m (·.2) E e0).map b9i=d'.toList.map enc:=by
     unfold c8m
     rw [List.map_map,aB]
     rfl
    rw [em]
    exact aw
   ·obtain ⟨m,os,rfl⟩:=ae
    exact ((((((zR [g] W1).alloc _).alloc _).aheadN m).putRow (.inl (by simp)) 0 d').growO os))
 have aD:Calls Tryz.prog 255 _ _ _:=hS
 clear hS ac az ai ao hH al hr hE ab aq ag
 have ar:=hid ad
 have aE:=hid ak
 clear ad hn aj ah af ay ak
 go_enter Tryz.func218,Tryz.ntmps218
 go_wp2_with fail
 rw [<-ar.out]
 refine aD.mono ?_
 rintro e w' ⟨rfl,k3,k4⟩
 go_wp2
 go_end0
 rw [ar.out] at k4
 refine ⟨rfl,?_,((zR [g] w).alloc _).tq k4⟩
 rw [<-aE.out]
 exact k3
end Go.Proofs.YtepjepkgcdfboaaGreatDoor
