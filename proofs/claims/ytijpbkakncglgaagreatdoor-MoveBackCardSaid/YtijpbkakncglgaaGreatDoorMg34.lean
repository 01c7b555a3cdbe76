/- append of made zeros to a slice that is owned or nil (one cell an element). After the kit's words on append. No program. -/
import Derived.Test.YtijpbkakncglgaaGreatDoorMg01
import Derived.Lib.AppendZeros
set_option linter.unusedVariables false
set_option linter.unusedSimpArgs false
namespace Go.Proofs.YtijpbkakncglgaaGreatDoor
open Go.RowKit
section
variable {P:Program}
theorem zeroCells_one (z:Value) (m:Nat) (hzs:z.cells=#[z]):Builtin.zeroCells z.cells m=(List.replicate m z).toArray:=by
 apply Array.ext
 ·simp [size_zeroCells,hzs]
 ·intro j h1 h2
  simp [Builtin.zeroCells,hzs,Nat.mod_one]
theorem run_append_zeros {w:World} {t tn ty e:TypeId} {z:Value} {bytes:Nat} {kn k:IntKind} (E:Elem P t e z 1 bytes) (hzs:z.cells=#[z]) (h1:z.oneCell'=true) (htn:P.underlying tn=some (.int kn))
  {v:Value} {F:List Nat} {xs:List Value} (hown:Own w e v F xs) (m:Nat) (hm:0<m) (h63:xs.length+m≤1099511627776) (hbytes:(xs.length+m)*bytes≤140737488355328) :
  ∃ v' F' w',(Builtin.append_ #[t,tn] ty #[v,.int k m]).run P w=.ok v' w'∧Own w' e v' F' (xs++List.replicate m z)∧Grow F F' w w':=by
 obtain ⟨i,hi,hz,hsize,hby⟩:=E.hi
 subst hby
 have ht:=E.ht
 have hzc:=zeroCells_one z m hzs
 have hw:IntKind.i64.wrap (m:Int)=m:=by rw [IntKind.wrap_i64];omega
 have hneg:¬ ((m:Int)<0):=by omega
 have hmb:m*i.bytes≤(xs.length+m)*i.bytes:=Nat.mul_le_mul_right _ (by omega)
 have h48i:¬ (281474976710656<(m:Int)*(i.bytes:Int)):=by
  rw [←Int.natCast_mul]
  omega
 have hm0:m≠0:=by omega
 have grown:∀ (old:Nat),old<xs.length+m →
   Own (w.drew.alloc (.cells (xs.toArray++(List.replicate m z).toArray++Builtin.zeroCells z.cells (grownCap w (xs.length+m) old e-(xs.length+m))) e)) e (.slice (some ⟨w.heap.size,0,none⟩) (xs.length+m) (grownCap w (xs.length+m) old e)) [w.heap.size] (xs++List.replicate m z):=by
  intro old ho
  have hge:=grownCap_ge w (xs.length+m) old e
  have hcm:grownCap w (xs.length+m) old e≤maxLen:=grownCap_le_maxLen w (xs.length+m) old e (by simp only [maxLen];omega)
  have hlen:(xs++List.replicate m z).length=xs.length+m:=by simp
  refine ⟨⟨by simp,.inr ⟨w.heap.size,_,_,by rw [hlen],Nat.zero_le _,heap_alloc_new w.drew _,by rw [hlen];exact hge,hcm,?_,?_⟩⟩,rfl⟩
  ·simp only [Array.size_append,List.size_toArray,size_zeroCells,hzs,List.length_replicate,List.size_toArray,List.length_cons,List.length_nil]
   simp
   omega
  ·simp only [Array.toList_append,List.append_assoc,hlen,Nat.mul_one]
   rw [←List.append_assoc,←hlen]
   exact List.take_left
 have grownG:∀ (C:Array Value) (F:List Nat),Grow F [w.heap.size] w (w.drew.alloc (.cells C e)):=fun C F =>
  ⟨((Chg.refl F w).drew).alloc _,fun x hx=>by simp at hx;right;omega⟩
 rcases hown.cases with ⟨rfl,rfl,rfl⟩ | ⟨g,hr,rfl⟩
 ·have hrun:=Lib.run_append_nil_zeros (P:=P) w t tn ty e i z k kn ht htn hi hz m hm (by omega) (by omega) (by simp at hbytes;omega)
  have hg:=grown 0 (by simp;omega)
  rw [hzc] at hrun
  refine ⟨_,_,_,hrun,?_,grownG _ _⟩
  simpa using hg
 ·obtain ⟨cap,cur,rfl,hb,hnc,hcm,hcs,htk⟩:=hr.ex
  by_cases hroom:xs.length+m≤cap
  ·have hst:=run_storeCells_at P g xs.length e (List.replicate m z) 0 cur w hb (by simp;omega) (fun u hu=>by rw [List.eq_of_mem_replicate hu];exact h1)
   simp only [Nat.add_zero] at hst
   refine ⟨.slice (some ⟨g,0,none⟩) (xs.length+m) cap,[g],w.setRow g (cur.toList.take xs.length++List.replicate m z++cur.toList.drop (xs.length+(List.replicate m z).length)).toArray,?_,?_,?_⟩
   ·simp [Builtin.append_,run_underlying ht,run_underlying htn,sizeOf,typeInfo,zeroValue,hi,hz,hsize,asInt,asIntOf,hw,hneg,hm0,h48i,hroom,Addr.add_lit,hzc]
    have:=hst
    simp at this
    rw [this]
    rfl
   ·refine Row.toOwn ⟨⟨cap,_,by simp,setRow_heap w g cur _ e _ hb,by simp;omega,hcm,?_,?_⟩⟩
    ·simp
     omega
    ·rw [htk,List.append_assoc,←List.append_assoc,List.take_left' (by simp)]
   ·exact ⟨⟨rfl,rfl,rfl,by simp [World.setRow],fun x _ hx=>setRow_other w g x _ (fun e=>hx (by simp [e]))⟩,fun x hx => .inl hx⟩
  ·have h63':¬ (9223372036854775807<((xs.length:Int)+(m:Int))):=by omega
   have hfit:=growslice_fits (need:=xs.length+m) (old:=cap) (by omega) hbytes
   have h48':¬ (281474976710656<Builtin.nextslicecap (xs.length+m) cap*i.bytes):=by omega
   have holds:∀ j u,xs[j]?=some u→w.drew.cell? ((⟨g,0,none⟩:Addr).add j)=some u:=fun j u hj=>hown.own.cells (g:=g) rfl j u hj
   have hfo:=run_firstCells_some (P:=P) w.drew 1 xs.length ⟨g,0,none⟩ xs.length cap xs (by simp) holds
   refine ⟨_,[w.heap.size],_,?_,grown cap (by omega),grownG _ _⟩
   simp [Builtin.append_,run_underlying ht,run_underlying htn,sizeOf,typeInfo,zeroValue,hi,hz,hsize,asInt,asIntOf,hw,hneg,hm0,h48i,hroom,h63',h48',Question.forced,hfo,newRow,grownCap,hzc]
theorem wpList_append_zeros {w:World} {ops:Array Oper} {rest:List Oper} {o:Oper} {a:Act} {Q:Exit→Act→World→Prop} (hgd:o.guard=none) {s x:Operand} {t tn:TypeId}
  (ho:o.op=.call { callee:=.builtin .append,args:=#[s,x],argTypes:=#[t,tn] })
  {e:TypeId} {z:Value} {bytes:Nat} {kn k:IntKind} (E:Elem P t e z 1 bytes) (hzs:z.cells=#[z]) (h1:z.oneCell'=true) (htn:P.underlying tn=some (.int kn))
  {v:Value} {F:List Nat} {xs:List Value} (hs:a.eval s=v) (hown:Own w e v F xs) (m:Nat) (hx:a.eval x=.int k m) (hm:0<m) (h63:xs.length+m≤1099511627776) (hbytes:(xs.length+m)*bytes≤140737488355328)
  (h:∀ v' F' w',Own w' e v' F' (xs++List.replicate m z)→Grow F F' w w'→wpList P ops Q rest (a.put o.dst v') w'):wpList P ops Q (o::rest) a w:=by
 obtain ⟨v',F',w',hr,h2,h3⟩:=run_append_zeros (P:=P) (ty:=o.type) (k:=k) E hzs h1 htn hown m hm h63 hbytes
 exact Lib.wpList_append_run w hgd s x t tn ho _ _ hs hx v' w' hr (h v' F' w' h2 h3)
end
end Go.Proofs.YtijpbkakncglgaaGreatDoor
