/- Lemmas. -/
import Derived.Test.YtifdlkoepaepiaaGreatDoorMg09
import Derived.Lib.AppendZeros
set_option linter.all false
namespace Go.Proofs.YtifdlkoepaepiaaGreatDoor
open List Nat Go.RowKit
variable {F:List Nat}{xs:List Value}{bytes:Nat}{e t tn:TypeId}{v z:Value}{w:World}
section
variable {P:Program}
theorem JL(z:Value)(m:Nat)(a:z.cells=#[z]):Builtin.zeroCells z.cells m=(replicate m z).toArray:=by
 apply Array.ext
 .simp[size_zeroCells,a]
 .intro j b c
  simp[Builtin.zeroCells,a,mod_one]
theorem IV{ty:TypeId}{L k:IntKind}(E:jx P t e z 1 bytes)(h:z.cells=#[z])(T:z.oneCell'=true)(f:P.underlying tn=some (.int L))(c:gK w e v F xs)(m:Nat)(W:0<m)(U:xs.length+m<=1099511627776)(a:(xs.length+m)*bytes<=140737488355328):∃v' F' w',(Builtin.append_ #[t,tn] ty #[v,.int k m]).run P w=.ok v' w'/\gK w' e v' F' (xs++replicate m z)/\gE F F' w w':=by
 obtain⟨i,q,s,A,O⟩:=E.hi;subst O;have r:=E.ht;have p:=JL z m h;have K:IntKind.i64.wrap (m:Int)=m:=by rw[IntKind.wrap_i64];omega
 have D:¬((m:Int)<0):=by omega
 have aw:m*i.bytes<=(xs.length+m)*i.bytes:=mul_le_mul_right _ (by omega);have B:¬(281474976710656<(m:Int)*(i.bytes:Int)):=by
  rw[<-Int.natCast_mul];omega
 have H:m≠0:=by omega
 have b:∀(old:Nat),old<xs.length+m ->
   gK (w.drew.alloc (.cells (xs.toArray++(replicate m z).toArray++Builtin.zeroCells z.cells (grownCap w (xs.length+m) old e-(xs.length+m))) e)) e (.slice (some ⟨w.heap.size,0,none⟩) (xs.length+m) (grownCap w (xs.length+m) old e)) [w.heap.size] (xs++replicate m z):=by
  intro old ho;have R:=grownCap_ge w (xs.length+m) old e;have o:grownCap w (xs.length+m) old e<=maxLen:=grownCap_le_maxLen w (xs.length+m) old e (by simp only[maxLen];omega);have l:(xs++replicate m z).length=xs.length+m:=by simp
  refine⟨⟨by simp,.inr ⟨w.heap.size,_,_,by rw[l],zero_le _,heap_alloc_new w.drew _,by rw[l];exact R,o,?_,?_⟩⟩,rfl⟩
  .simp only[Array.size_append,size_toArray,size_zeroCells,h,zV,size_toArray,zK,length_nil]
   simp;omega
  .simp only[Array.toList_append,zH,l,Nat.mul_one]
   rw[<-zH,<-l];exact take_left
 have y:∀(C:Array Value) (F:List Nat),gE F [w.heap.size] w (w.drew.alloc (.cells C e)):=λC F =>
  ⟨((zR F w).drew).alloc _,λx hx=>by simp at hx;right;omega⟩
 rcases c.cases with⟨rfl,rfl,rfl⟩|⟨g,X,rfl⟩
 .have G:=Lib.run_append_nil_zeros (P:=P) w t tn ty e i z k L r f q s m W (by omega) (by omega) (by simp at a;omega)
  have V:=b 0 (by simp;omega);rw[p]at G;refine⟨_,_,_,G,?_,y _ _⟩
  simpa using V
 .obtain⟨ad,n,rfl,J,ax,o,Z,S⟩:=X.ex
  by_cases hroom:xs.length+m<=ad
  .have I:=run_storeCells_at P g xs.length e (replicate m z) 0 n w J (by simp;omega) (λu hu=>by rw[eq_of_mem_replicate hu];exact T)
   simp only[Nat.add_zero]at I;refine⟨.slice g (xs.length+m) ad,[g],w.setRow g (n.toList.take xs.length++replicate m z++n.toList.drop (xs.length+(replicate m z).length)).toArray,?_,?_,?_⟩
   .simp[Builtin.append_,run_underlying r,run_underlying f,sizeOf,typeInfo,zeroValue,q,s,A,asInt,asIntOf,K,D,H,B,hroom,Addr.add_lit,p]
    have:=I
    simp at this;rw[this];rfl
   .refine gv.R ⟨⟨ad,_,by simp,setRow_heap w g n _ e _ J,by simp;omega,o,?_,?_⟩⟩
    .simp
     omega
    .rw[S,zH,<-zH,take_left' (by simp)]
   .exact⟨⟨rfl,rfl,rfl,by simp[World.setRow],λx _ hx=>setRow_other w g x _ (λe=>hx (by simp[e]))⟩,λx hx => .inl hx⟩
  .have N:¬(9223372036854775807<((xs.length:Int)+(m:Int))):=by omega
   have Y:=growslice_fits (need:=xs.length+m) (old:=ad) (by omega) a;have M:¬(281474976710656<Builtin.nextslicecap (xs.length+m) ad*i.bytes):=(by omega);have d:∀j u,xs[j]?=some u->w.drew.cell? ((⟨g,0,none⟩:Addr).add j)=some u:=λj u hj=>c.own.cells (g:=g) rfl j u hj;have Q:=run_firstCells_some (P:=P) w.drew 1 xs.length ⟨g,0,none⟩ xs.length ad xs (by simp) d;refine⟨_,[w.heap.size],_,?_,b ad (by omega),y _ _⟩;simp[Builtin.append_,run_underlying r,run_underlying f,sizeOf,typeInfo,zeroValue,q,s,A,asInt,asIntOf,K,D,H,B,hroom,N,M,Question.forced,Q,newRow,grownCap,p]
theorem IR{ops:Array Oper}{rest:List Oper}{o:Oper}{a:Act}{Q:Exit->Act->World->Prop}(i:o.guard=none){s x:Operand}(u:o.op=.call { callee:=.builtin .append,args:=#[s,x],argTypes:=#[t,tn] }){C k:IntKind}(E:jx P t e z 1 bytes)(l:z.cells=#[z])(n:z.oneCell'=true)(j:P.underlying tn=some (.int C))(A:a.eval s=v)(d:gK w e v F xs)(m:Nat)(B:a.eval x=.int k m)(r:0<m)(g:xs.length+m<=1099511627776)(b:(xs.length+m)*bytes<=140737488355328)(h:∀f F' c,gK c e f F' (xs++replicate m z)->gE F F' w c->wpList P ops Q rest (a.put o.dst f) c):wpList P ops Q (o::rest) a w:=by
 obtain⟨f,F',c,y,p,q⟩:=IV (P:=P) (ty:=o.type) (k:=k) E l n j d m r g b;exact Lib.wpList_append_run w i s x t tn u _ _ A B f c y (h f F' c p q)
end
end Go.Proofs.YtifdlkoepaepiaaGreatDoor
