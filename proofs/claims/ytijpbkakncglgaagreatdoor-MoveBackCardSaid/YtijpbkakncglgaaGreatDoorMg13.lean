/- package prefix by its contracts: elements in memory, order. -/
import Derived.Test.YtijpbkakncglgaaGreatDoorMg11
import Derived.Test.YtijpbkakncglgaaGreatDoorMg04
import Derived.Test.YtijpbkakncglgaaGreatDoorMg14
set_option linter.unusedVariables false
set_option linter.unusedSimpArgs false
set_option maxHeartbeats 4000000
set_option maxRecDepth 100000
namespace Go.Proofs.YtijpbkakncglgaaGreatDoor
open Go.RowKit Go.Sort Go.Shelf Go.Lib
def IsEl (P:Nat→Prop) (w:World):El→Nat→Prop
  | .coin s k,b=>P b∧Blk w b 212 #[.int .i64 k,.int .i64 s,.slice none 0 0]
  | .pack x y, b => ∃ g b1 b2, P b ∧ P g ∧ Blk w b 212 #[.int .i64 ((x.wt + y.wt : Nat) : Int), .int .i64 0, .slice (some ⟨g, 0, none⟩) 2 2] ∧
      Blk w g 210 #[.pointer (some ⟨b1,0,none⟩),.pointer (some ⟨b2,0,none⟩)]∧IsEl P w x b1∧IsEl P w y b2
theorem IsEl.head {P:Nat→Prop} {w:World} {e:El} {b:Nat} (h:IsEl P w e b):P b∧b<w.heap.size∧w.cell? ⟨b,0,none⟩=some (.int .i64 e.wt):=by
 cases e with
 | coin s k=>exact ⟨h.1,h.2.lt,by have := h.2.cell 0;simpa [El.wt] using this⟩
 | pack x y =>
  obtain ⟨g,b1,b2,h1,h2,h3,_⟩:=h
  exact ⟨h1,h3.lt,by have:=h3.cell 0;simpa [El.wt] using this⟩
theorem IsEl.chg {P:Nat→Prop} {w w':World} {F:List Nat} (hc:Chg F w w') (hF:∀ x∈F,¬ P x):∀ {e:El} {b:Nat},IsEl P w e b→IsEl P w' e b:=by
 intro e
 induction e with
 | coin s k=>intro b h;exact ⟨h.1,h.2.chg hc fun hm=>hF _ hm h.1⟩
 | pack x y ihx ihy =>
  intro b h
  obtain ⟨g,b1,b2,h1,h2,h3,h4,h5,h6⟩:=h
  exact ⟨g,b1,b2,h1,h2,h3.chg hc fun hm=>hF _ hm h1,h4.chg hc fun hm=>hF _ hm h2,ihx h5,ihy h6⟩
theorem IsEl.same {P:Nat→Prop} {w w':World} (hc:Chg [] w w') {e:El} {b:Nat} (h:IsEl P w e b):IsEl P w' e b:=h.chg hc (by simp)
theorem IsEl.imp {P Q:Nat→Prop} {w:World} (h:∀ x,x<w.heap.size→P x→Q x):∀ {e:El} {b:Nat},IsEl P w e b→IsEl Q w e b:=by
 intro e
 induction e with
 | coin s k=>intro b k;exact ⟨h _ k.2.lt k.1,k.2⟩
 | pack x y ihx ihy =>
  intro b k
  obtain ⟨g,b1,b2,h1,h2,h3,h4,h5,h6⟩:=k
  exact ⟨g,b1,b2,h _ h3.lt h1,h _ h4.lt h2,h3,h4,ihx h5,ihy h6⟩
abbrev PE:=Nat × El
def encE (p:PE):Value:=.pointer (some ⟨p.1,0,none⟩)
def Els (P:Nat→Prop) (w:World) (l:List PE):Prop:=∀ p∈l,IsEl P w p.2 p.1
theorem Els.chg {P:Nat→Prop} {w w':World} {F:List Nat} {l:List PE} (h:Els P w l) (hc:Chg F w w') (hF:∀ x∈F,¬ P x):Els P w' l:=fun p hp=>(h p hp).chg hc hF
theorem Els.same {P:Nat→Prop} {w w':World} {l:List PE} (h:Els P w l) (hc:Chg [] w w'):Els P w' l:=fun p hp=>(h p hp).same hc
theorem Els.imp {P Q:Nat→Prop} {w:World} {l:List PE} (h:Els P w l) (hi:∀ x,x<w.heap.size→P x→Q x):Els Q w l:=fun p hp=>(h p hp).imp hi
theorem less_ok (blk off c Bs size:Nat) (W:World) (G K:Nat→Nat) (hs:W.cell? ⟨Bs,0,none⟩=some (.slice (some ⟨blk,off,none⟩) size c))
  (hc:∀ t,t<size→W.cell? ⟨blk,off+t,none⟩=some (.pointer (some ⟨G t,0,none⟩))) (hw:∀ t,t<size→W.cell? ⟨G t,0,none⟩=some (.int .i64 (K t:Int))) (i j:Nat) (hi:i<size) (hj:j<size) :
  Calls Tryz.prog 209 #[.int .i64 i,.int .i64 j,.pointer (some ⟨Bs,0,none⟩)] W fun e w'=>e=.returned (.bool (decide (K i<K j)))∧∃ q,w'=W.drewN q:=by
 have ci:=hc i hi
 have cj:=hc j hj
 have wi:=hw i hi
 have wj:=hw j hj
 clear hc hw
 have e:decide (K i<K j)=decide ((K i:Int)<(K j:Int)):=by simp
 rw [e]
 generalize K i=ki at *
 generalize K j=kj at *
 generalize G i=gi at *
 generalize G j=gj at *
 clear e
 go_enter Tryz.func209,Tryz.ntmps209
 go_wp2
 go_quiet (fail)
 go_wp2
 go_ret
 exact ⟨by simp,nq,rfl⟩
open Go.RowKit Go.Sort Go.Shelf Go.Lib
noncomputable def rowI:TypeInfo:=(Tryz.prog.info? 209).get (by kernel_rfl)
noncomputable def elI:TypeInfo:=(Tryz.prog.info? 210).get (by kernel_rfl)
theorem elK (n:Nat) (h2:2≤n):Lib.swapperK n elI 22=3:=by
 have a:elI.hasPointers=true:=by kernel_rfl
 have b:elI.bytes=8:=by kernel_rfl
 have c:(n==0)=false:=by simp;omega
 have d:(n==1)=false:=by simp;omega
 simp [Lib.swapperK,a,b,c,d]
theorem order_ok (w:World) (v:Value) (g:Nat) (E:List PE) (h2:2≤E.length) (hle:E.length<1099511627776) (hr:Row w 210 v g (E.map encE)) (hE:Els (·≠g) w E) :
  Calls Tryz.prog 181 #[v] w fun e w'=>e=.returned (.tuple #[])∧Row w' 210 v g ((sortE (·.2) E (E.headD default)).map encE)∧Chg [g] w w':=by
 have hgl:=hr.lt
 obtain ⟨cap,rfl,hcap,hcapm,_,_⟩:=hr.open_map
 obtain ⟨n,hn⟩:∃ n,n=E.length:=⟨_,rfl⟩
 rw [←hn] at h2 hle hcap ⊢
 -- the elements by their places
 obtain ⟨e0,he0⟩:∃ e0,e0=E.headD default:=⟨_,rfl⟩
 have hme:e0∈E:=by
  rw [he0]
  cases E with
  | nil=>simp at hn;omega
  | cons x l=>simp
 have hmem:∀ k,E.getD k e0∈E:=fun k=>by
  rw [zD]
  cases hk:E[k]? with
  | none=>exact hme
  | some x=>exact List.mem_of_getElem? hk
 let enc:Nat→Value:=fun k=>encE (E.getD k e0)
 let T:List El:=E.map (·.2)
 have hkey:∀ k,(E.getD k e0).2.wt=wtAt T k:=fun k=>by
  unfold wtAt
  show _=((E.map fun p:PE=>p.2).getD k ((E.map fun p:PE=>p.2).headD default)).wt
  rw [zD,zD,List.getElem?_map,he0]
  cases hk:E[k]? with
  | none =>
   cases E with
   | nil=>rfl
   | cons x l=>rfl
  | some x=>rfl
 let lt:Nat→Nat→Bool:=fun x y=>decide (wtAt T x<wtAt T y)
 have hmap:(List.range n).map enc=E.map encE:=by
  have e:(List.range n).map enc=((List.range n).map fun k=>E.getD k e0).map encE:=by rw [List.map_map];rfl
  rw [e,hn,map_range_get]
 rw [←hn,←hmap] at hr
 have hr1:=hr.alloc (.cells #[.slice (some ⟨g,0,none⟩) n cap] 209)
 have hH:Holds enc w g 0 (List.range n).toArray:=hr.holds
 obtain ⟨W1,hW1⟩:∃ W1,W1=w.alloc (.cells #[.slice (some ⟨g,0,none⟩) n cap] 209):=⟨_,rfl⟩
 have hH1:Holds enc W1 g 0 (List.range n).toArray:=by rw [hW1];exact hr1.holds
 have hg1:g<W1.heap.size:=by rw [hW1];simp;omega
 have hsz:(List.range n).toArray.size=n:=by simp
 have hbox:W1.cell? ⟨w.heap.size,0,none⟩=some (.slice (some ⟨g,0,none⟩) n cap):=by rw [hW1];simp
 have hE1:Els (·≠g) W1 E:=hE.same (by rw [hW1];exact (Chg.refl [] w).alloc _)
 have hless:LessReads Tryz.prog 209 #[.pointer (some ⟨w.heap.size,0,none⟩)] enc lt g 0 n W1:=by
  intro m os dk hs i j hi hj
  have hsw:SW enc W1 g 0 dk (sortWorld enc W1 g 0 m dk os):=⟨m,os,rfl⟩
  have hHk:=hsw.holds hg1 hH1 (hs.trans hsz.symm)
  have hl:=less_ok g 0 cap w.heap.size n (sortWorld enc W1 g 0 m dk os) (fun t=>(E.getD dk[t]! e0).1) (fun t=>wtAt T dk[t]!)
   ((sw_cell hsw (p:=⟨w.heap.size,0,none⟩) (by rw [hW1];simp) (by show w.heap.size≠g;omega)).trans hbox)
   (fun t ht=>(hHk t (by omega)).1)
   (fun t ht=>by
    have h5:=(hE1 _ (hmem dk[t]!)).head
    rw [sw_cell hsw (p:=⟨(E.getD dk[t]! e0).1,0,none⟩) h5.2.1 h5.1,h5.2.2,hkey]) i j hi hj
  exact hl
 have hrest:RestA lt (lt2T T) 0 n (List.range n).toArray:=by
  intro i j _ hij hj
  have ei:(List.range n).toArray[i]! = i:=by simp [show i<n by omega]
  have ej:(List.range n).toArray[j]! = j:=by simp [hj]
  rw [ei,ej]
  show decide (wtAt T j<wtAt T i)=lt2T T j i
  unfold lt2T
  congr 1
  simp only [eq_iff_iff]
  omega
 have hTn:T.length=n:=by show (E.map (·.2)).length=n;rw [zE];exact hn.symm
 have hS:=Any.sort_SliceStable_of_stable (P:=Tryz.prog) Tryz.laysGt8 209 210 rowI elI (by kernel_rfl) (by kernel_rfl) (by kernel_rfl) (by kernel_rfl) 22 (fun _=>by kernel_rfl) (some ⟨g,0,none⟩) n cap (by omega) 226
  (by rw [elK _ h2];kernel_rfl) (.func 209) #[] #[.pointer (some ⟨w.heap.size,0,none⟩)] W1
  (fun W=>Row W 210 (.slice (some ⟨g,0,none⟩) n cap) g ((sortE (·.2) E e0).map encE)∧Chg [g] W1 W) (by
   have hB:sliceBound Tryz.prog 210 elI 22 (some ⟨g,0,none⟩) n cap=#[.slice (some ⟨g,0,none⟩) n cap,typeHandle Tryz.prog 210]:=by
    unfold sliceBound;rw [if_neg (swapperK_gt _ _ _ h2)]
   rw [hB]
   have E0:SEnv Tryz.prog enc lt 209 #[.pointer (some ⟨w.heap.size,0,none⟩)] g 0 n W1 (List.range n).toArray:=⟨hless,hH1,hg1,hsz⟩
   have hsws:=swapSwaps_of_literal (P:=Tryz.prog) true 226
    (fun args W=>run_callFunc_extern Tryz.func226 (by kernel_rfl) (by kernel_rfl) (by kernel_rfl) (e:=Extern.ReflectliteSwapper.swap true) (by kernel_rfl) args W) 210 elI (by kernel_rfl) (by kernel_rfl) (fun _=>by kernel_rfl) enc (fun _=>rfl) g 0 n cap
   have hst:=stable_ok enc lt (lt2T T) 209 #[.pointer (some ⟨w.heap.size,0,none⟩)] 226 #[.slice (some ⟨g,0,none⟩) n cap,typeHandle Tryz.prog 210] g 0 n (lt2T_swo T)
    (enters_of Tryz.func209 (by kernel_rfl) rfl) hsws hle _ _
    ((E0.alloc (.cells #[.slice (some ⟨g,0,none⟩) n cap] 209)).alloc (.cells #[.pointer (some ⟨(Tryz.prog).globals.size,209,none⟩),.pointer (some ⟨W1.heap.size,0,none⟩),.int .u64 151] (Tryz.laysGt8_ren.t 36))) hrest
   refine hst.mono ?_
   rintro e w' ⟨rfl,d',hso,hpe,hsw⟩
   have hd':d'.toList=sortIdx T:=by
    have h5:=sorted_unique_holds (lt2T_swo T) (lt2T_total T) (List.range n).toArray d' (by rw [hsz];exact hpe) (by rw [hsz];exact hso)
    rw [h5]
    unfold sortIdx
    rw [hTn]
   refine ⟨rfl,?_,?_⟩
   ·obtain ⟨m,os,rfl⟩:=hsw
    have hr2:=(hr1.alloc (.cells #[.slice (some ⟨g,0,none⟩) n cap] 209)).alloc (.cells #[.pointer (some ⟨(Tryz.prog).globals.size,209,none⟩),.pointer (some ⟨W1.heap.size,0,none⟩),.int .u64 151] (Tryz.laysGt8_ren.t 36))
    rw [←hW1] at hr2
    have hr3:=((hr2.aheadN m).putRow (ys:=d'.toList) (by
     have:d'.toList.length=d'.size:=Array.length_toList
     rw [this,hpe.1]
     simp)).growO os
    rw [Array.toArray_toList] at hr3
    have em:(sortE (·.2) E e0).map encE=d'.toList.map enc:=by
     unfold sortE
     rw [List.map_map,hd']
     rfl
    rw [em]
    exact hr3
   ·obtain ⟨m,os,rfl⟩:=hsw
    exact ((((((Chg.refl [g] W1).alloc _).alloc _).aheadN m).putRow (.inl (by simp)) 0 d').growO os))
 have hS':Calls Tryz.prog 208 _ _ _:=hS
 clear hS hless hE1 hbox hH1 hH hr1 hr hE hrest hTn hkey
 have HW1:=hid hW1
 have HE0:=hid he0
 clear hW1 hn hmap hsz hmem hme he0
 go_enter Tryz.func181,Tryz.ntmps181
 go_wp2_with fail
 rw [←HW1.out]
 refine hS'.mono ?_
 rintro e w' ⟨rfl,k3,k4⟩
 go_wp2
 go_end0
 rw [HW1.out] at k4
 refine ⟨rfl,?_,((Chg.refl [g] w).alloc _).trans_same k4⟩
 rw [←HE0.out]
 exact k3
end Go.Proofs.YtijpbkakncglgaaGreatDoor
