/- append of made zeros to a slice that is owned or nil (one cell an element). After the kit's words on append. No program. -/
import Derived.Test.YtepjepkgcdfboaaGreatDoorMg01
import Derived.Lib.AppendZeros
set_option linter.unusedVariables false
set_option linter.unusedSimpArgs false
namespace Go.Proofs.YtepjepkgcdfboaaGreatDoor
open Go.RowKit
section
variable {P:Program}
theorem c8u (z:Value) (m:Nat) (hzs:z.cells=#[z]):Builtin.zeroCells z.cells m=(List.replicate m z).toArray:=by
 apply Array.ext
 ·simp [size_zeroCells,hzs]
 ·intro j h1 h2
  simp [Builtin.zeroCells,hzs,Nat.mod_one]
theorem b9d {w:World} {t tn ty e:TypeId} {z:Value} {bytes:Nat} {kn k:IntKind} (E:b6m P t e z 1 bytes) (hzs:z.cells=#[z]) (h1:z.oneCell'=true) (htn:P.underlying tn=some (.int kn))
  {v:Value} {F:List Nat} {xs:List Value} (hown:Own w e v F xs) (m:Nat) (hm:0<m) (h63:xs.length+m<=1099511627776) (hbytes:(xs.length+m)*bytes<=140737488355328) :
  ∃ v' F' w',(Builtin.append_ #[t,tn] ty #[v,.int k m]).run P w=.ok v' w'/\Own w' e v' F' (xs++List.replicate m z)/\a0u F F' w w':=by
 obtain ⟨i,hi,hz,ac,ap⟩:=E.hi
 subst ap
 have ht:=E.ht
 have aj:=c8u z m hzs
 have hw:IntKind.i64.wrap (m:Int)=m:=by rw [IntKind.wrap_i64];omega
 have ag:¬ ((m:Int)<0):=by omega
 have aw:m*i.bytes<=(xs.length+m)*i.bytes:=Nat.mul_le_mul_right _ (by omega)
 have ae:¬ (281474976710656<(m:Int)*(i.bytes:Int)):=by
  rw [<-Int.natCast_mul]
  omega
 have am:m≠0:=by omega
 have grown:∀ (old:Nat),old<xs.length+m ->
   Own (w.drew.alloc (.cells (xs.toArray++(List.replicate m z).toArray++Builtin.zeroCells z.cells (grownCap w (xs.length+m) old e-(xs.length+m))) e)) e (.slice (some ⟨w.heap.size,0,none⟩) (xs.length+m) (grownCap w (xs.length+m) old e)) [w.heap.size] (xs++List.replicate m z):=by
  intro old ho
  have au:=grownCap_ge w (xs.length+m) old e
  have ai:grownCap w (xs.length+m) old e<=maxLen:=grownCap_le_maxLen w (xs.length+m) old e (by simp only [maxLen];omega)
  have ab:(xs++List.replicate m z).length=xs.length+m:=by simp
  refine ⟨⟨by simp,.inr ⟨w.heap.size,_,_,by rw [ab],Nat.zero_le _,heap_alloc_new w.drew _,by rw [ab];exact au,ai,?_,?_⟩⟩,rfl⟩
  ·simp only [Array.size_append,List.size_toArray,size_zeroCells,hzs,zV,List.size_toArray,zK,List.length_nil]
   simp
   omega
  ·simp only [Array.toList_append,zH,ab,Nat.mul_one]
   rw [<-zH,<-ab]
   exact List.take_left
 have aa:∀ (C:Array Value) (F:List Nat),a0u F [w.heap.size] w (w.drew.alloc (.cells C e)):=fun C F =>
  ⟨((zR F w).drew).alloc _,fun x hx=>by simp at hx;right;omega⟩
 rcases hown.cases with ⟨rfl,rfl,rfl⟩ | ⟨g,hr,rfl⟩
 ·have af:=Lib.run_append_nil_zeros (P:=P) w t tn ty e i z k kn ht htn hi hz m hm (by omega) (by omega) (by simp at hbytes;omega)
  have hg:=grown 0 (by simp;omega)
  rw [aj] at af
  refine ⟨_,_,_,af,?_,aa _ _⟩
  simpa using hg
 ·obtain ⟨ad,ah,rfl,hb,ax,ai,av,ao⟩:=hr.ex
  by_cases hroom:xs.length+m<=ad
  ·have an:=run_storeCells_at P g xs.length e (List.replicate m z) 0 ah w hb (by simp;omega) (fun u hu=>by rw [List.eq_of_mem_replicate hu];exact h1)
   simp only [Nat.add_zero] at an
   refine ⟨.slice (some ⟨g,0,none⟩) (xs.length+m) ad,[g],w.setRow g (ah.toList.take xs.length++List.replicate m z++ah.toList.drop (xs.length+(List.replicate m z).length)).toArray,?_,?_,?_⟩
   ·simp [Builtin.append_,run_underlying ht,run_underlying htn,sizeOf,typeInfo,zeroValue,hi,hz,ac,asInt,asIntOf,hw,ag,am,ae,hroom,Addr.add_lit,aj]
    have:=an
    simp at this
    rw [this]
    rfl
   ·refine Row.toOwn ⟨⟨ad,_,by simp,setRow_heap w g ah _ e _ hb,by simp;omega,ai,?_,?_⟩⟩
    ·simp
     omega
    ·rw [ao,zH,<-zH,List.take_left' (by simp)]
   ·exact ⟨⟨rfl,rfl,rfl,by simp [World.setRow],fun x _ hx=>setRow_other w g x _ (fun e=>hx (by simp [e]))⟩,fun x hx => .inl hx⟩
  ·have al:¬ (9223372036854775807<((xs.length:Int)+(m:Int))):=by omega
   have ar:=growslice_fits (need:=xs.length+m) (old:=ad) (by omega) hbytes
   have ak:¬ (281474976710656<Builtin.nextslicecap (xs.length+m) ad*i.bytes):=by omega
   have holds:∀ j u,xs[j]?=some u->w.drew.cell? ((⟨g,0,none⟩:Addr).add j)=some u:=fun j u hj=>hown.own.cells (g:=g) rfl j u hj
   have aq:=run_firstCells_some (P:=P) w.drew 1 xs.length ⟨g,0,none⟩ xs.length ad xs (by simp) holds
   refine ⟨_,[w.heap.size],_,?_,grown ad (by omega),aa _ _⟩
   simp [Builtin.append_,run_underlying ht,run_underlying htn,sizeOf,typeInfo,zeroValue,hi,hz,ac,asInt,asIntOf,hw,ag,am,ae,hroom,al,ak,Question.forced,aq,newRow,grownCap,aj]
theorem b4o {w:World} {ops:Array Oper} {rest:List Oper} {o:Oper} {a:Act} {Q:Exit->Act->World->Prop} (hgd:o.guard=none) {s x:Operand} {t tn:TypeId}
  (ho:o.op=.call { callee:=.builtin .append,args:=#[s,x],argTypes:=#[t,tn] })
  {e:TypeId} {z:Value} {bytes:Nat} {kn k:IntKind} (E:b6m P t e z 1 bytes) (hzs:z.cells=#[z]) (h1:z.oneCell'=true) (htn:P.underlying tn=some (.int kn))
  {v:Value} {F:List Nat} {xs:List Value} (hs:a.eval s=v) (hown:Own w e v F xs) (m:Nat) (hx:a.eval x=.int k m) (hm:0<m) (h63:xs.length+m<=1099511627776) (hbytes:(xs.length+m)*bytes<=140737488355328)
  (h:∀ v' F' w',Own w' e v' F' (xs++List.replicate m z)->a0u F F' w w'->wpList P ops Q rest (a.put o.dst v') w'):wpList P ops Q (o::rest) a w:=by
 obtain ⟨v',F',w',hr,h2,h3⟩:=b9d (P:=P) (ty:=o.type) (k:=k) E hzs h1 htn hown m hm h63 hbytes
 exact Lib.wpList_append_run w hgd s x t tn ho _ _ hs hx v' w' hr (h v' F' w' h2 h3)
end
end Go.Proofs.YtepjepkgcdfboaaGreatDoor
