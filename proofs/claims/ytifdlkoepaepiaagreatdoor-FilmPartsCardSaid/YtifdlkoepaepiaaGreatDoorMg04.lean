/- Lemmas. -/
import Derived.Lib.SlicesCompact
set_option linter.all false
namespace Go.Proofs.YtifdlkoepaepiaaGreatDoor
open List Nat Go.Lib Go.Sort
def iA (l:List Int):List Int:=compact (l.mergeSort λx y=>decide (x<=y))
theorem Dj(l:List Int):(l.mergeSort λx y=>decide (x<=y)).Pairwise (·<=·):=by
 have h:=pairwise_mergeSort (le:=λ(x y:Int)=>decide (x<=y)) (by intro a b c;simp;omega) (by intro a b;simp;omega) l;exact h.imp (by intro a b;simp)
theorem EO(s:List Int)(p:s.Pairwise (·<=·)):∀m,m<=s.length->(compactUpTo s.toArray m).Pairwise (· < ·)/\∀x,x∈compactUpTo s.toArray m ↔ ∃j,j<m/\s.getD j 0=x:=by
 intro m;have d:∀j,j<s.length->s.toArray[j]! = s.getD j 0:=λj c=>by
  rw[getD_eq_getElem?_getD,getElem?_eq_getElem c];simp[c]
 have k:∀i j,i<=j->j<s.length->s.getD i 0<=s.getD j 0:=λi j hij c=>by
  rw[getD_eq_getElem?_getD,getElem?_eq_getElem (by omega),getD_eq_getElem?_getD,getElem?_eq_getElem c];rcases Nat.lt_or_ge i j with h|h
  .exact(List.pairwise_iff_getElem.1 p) i j (by omega) c h
  .obtain rfl:i=j:=by omega
   exact Int.le_refl _
 induction m with
 | zero=>intro _;exact⟨by simp[compactUpTo],by simp[compactUpTo]⟩
 | succ m ih =>
  intro r;obtain⟨l,g⟩:=ih (by omega);rw[compactUpTo_succ];by_cases hk:keeps s.toArray m=true
  .rw[if_pos hk,d m (by omega)]
   have f:m=0\/s.getD m 0≠s.getD (m-1) 0:=by
    have:=of_decide_eq_true hk
    rcases this with h|h
    .exact .inl h
    .right
     rw[d m (by omega),d (m-1) (by omega)]at h;exact h
   refine⟨?_,λx => ?_⟩
   .rw[pairwise_append]
    refine⟨l,by simp,λa ha b hb => ?_⟩;rw[mem_singleton]at hb;subst hb;obtain⟨j,c,rfl⟩:=(g a).1 ha;rcases f with h|h
    .omega
    .have q:=k j (m-1) (by omega) (by omega)
     have e2:=k (m-1) m (by omega) (by omega);omega
   .rw[mem_append,g x,mem_singleton]
    constructor
    .rintro(⟨j,c,e⟩|e)
     .exact⟨j,by omega,e⟩
     .exact⟨m,by omega,e.symm⟩
    .rintro⟨j,c,e⟩
     by_cases h:j<m
     .exact .inl ⟨j,h,e⟩
     .obtain rfl:j=m:=by omega
      exact .inr e.symm
  .rw[if_neg hk,append_nil]
   have f:m≠0/\s.getD m 0=s.getD (m-1) 0:=by
    have:¬(m=0\/s.toArray[m]!≠s.toArray[m-1]!):=λh=>hk (decide_eq_true h)
    have n:m≠0:=λh=>this (.inl h);refine⟨n,?_⟩;have o:s.toArray[m]! = s.toArray[m-1]!:=Classical.not_not.1 λh=>this (.inr h)
    rwa [d m (by omega),d (m-1) (by omega)]at o
   refine⟨l,λx=>(g x).trans ⟨?_,?_⟩⟩
   .rintro⟨j,c,e⟩
    exact⟨j,by omega,e⟩
   .rintro⟨j,c,e⟩
    by_cases h:j<m
    .exact⟨j,h,e⟩
    .obtain rfl:j=m:=by omega
     exact⟨j-1,by omega,f.2.symm.trans e⟩
theorem uv(l:List Int):(iA l).Pairwise (· < ·):=(EO _ (Dj l) _ (Nat.le_refl _)).1
theorem sP(l:List Int)(x:Int):x∈iA l ↔ x∈l:=by
 unfold iA compact;rw[(EO _ (Dj l) _ (Nat.le_refl _)).2 x];have c:=(mergeSort_perm l λx y=>decide (x<=y)).mem_iff (a:=x);rw[<-c,mem_iff_getElem];constructor
 .rintro⟨j,b,e⟩
  refine⟨j,b,?_⟩;rw[getD_eq_getElem?_getD,getElem?_eq_getElem b]at e;exact e
 .rintro⟨j,b,e⟩
  refine⟨j,b,?_⟩;rw[getD_eq_getElem?_getD,getElem?_eq_getElem b];exact e
theorem Mi(l:List Int):(iA l).length<=l.length:=by
 unfold iA compact compactUpTo;rw[length_map];refine Nat.le_trans (length_filter_le _ _) ?_;rw[length_range,length_mergeSort];exact Nat.le_refl _
theorem Eh{l:List Int}(h:0<l.length):0<(iA l).length:=by
 have a:=(sP l l[0]).2 (getElem_mem h);exact length_pos_of_mem a
theorem yG(c:List Int)(k:c.Pairwise (· < ·)){x:Int}(d:x∈c):c.countP (· < x)<c.length/\c[c.countP (· < x)]?=some x:=by
 induction c with
 | nil=>cases d
 | cons a c ih =>
  have b:=List.pairwise_cons.1 k;rw[countP_cons];by_cases h:a<x
  .have f:x∈c:=by
    rcases List.mem_cons.1 d with e|e
    .omega
    .exact e
   obtain⟨m,j⟩:=ih b.2 f;simp only[h,decide_true,if_true,length_cons];refine⟨by omega,?_⟩;rw[getElem?_cons_succ];exact j
  .have g:x=a:=by
    rcases List.mem_cons.1 d with e|e
    .exact e
    .have:=b.1 x e;omega
   subst g;have i:c.countP (· < x)=0:=by
    rw[countP_eq_zero];intro y l
    have:=b.1 y l
    simp;omega
   rw[i];simp
end Go.Proofs.YtifdlkoepaepiaaGreatDoor
