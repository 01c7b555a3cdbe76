/- The different samples of a tile, in ascending order: plain Lean. -/
import Derived.Lib.SlicesCompact
set_option linter.unusedVariables false
set_option linter.unusedSimpArgs false
namespace Go.Proofs.YtepjepkgcdfboaaGreatDoor
open Go.Lib Go.Sort
def a2g (l:List Int):List Int:=compact (l.mergeSort fun x y=>decide (x<=y))
theorem c2t (l:List Int):(l.mergeSort fun x y=>decide (x<=y)).Pairwise (·<=·):=by
 have h:=List.pairwise_mergeSort (le:=fun (x y:Int)=>decide (x<=y)) (by intro a b c;simp;omega) (by intro a b;simp;omega) l
 exact h.imp (by intro a b;simp)
theorem d2c (s:List Int) (hs:s.Pairwise (·<=·)):∀ m,m<=s.length->(compactUpTo s.toArray m).Pairwise (· < ·)/\∀ x,x∈compactUpTo s.toArray m ↔ ∃ j,j<m/\s.getD j 0=x:=by
 intro m
 have aa:∀ j,j<s.length->s.toArray[j]! = s.getD j 0:=fun j hj=>by
  rw [List.getD_eq_getElem?_getD,List.getElem?_eq_getElem hj]
  simp [hj]
 have ac:∀ i j,i<=j->j<s.length->s.getD i 0<=s.getD j 0:=fun i j hij hj=>by
  rw [List.getD_eq_getElem?_getD,List.getElem?_eq_getElem (by omega),List.getD_eq_getElem?_getD,List.getElem?_eq_getElem hj]
  rcases Nat.lt_or_ge i j with h | h
  ·exact (List.pairwise_iff_getElem.1 hs) i j (by omega) hj h
  ·obtain rfl:i=j:=by omega
   exact Int.le_refl _
 induction m with
 | zero=>intro _;exact ⟨by simp [compactUpTo],by simp [compactUpTo]⟩
 | succ m ih =>
  intro hm
  obtain ⟨h1,h2⟩:=ih (by omega)
  rw [compactUpTo_succ]
  by_cases hk:keeps s.toArray m=true
  ·rw [if_pos hk,aa m (by omega)]
   have ab:m=0\/s.getD m 0≠s.getD (m-1) 0:=by
    have:=of_decide_eq_true hk
    rcases this with h | h
    ·exact .inl h
    ·right
     rw [aa m (by omega),aa (m-1) (by omega)] at h
     exact h
   refine ⟨?_,fun x => ?_⟩
   ·rw [List.pairwise_append]
    refine ⟨h1,by simp,fun a ha b hb => ?_⟩
    rw [List.mem_singleton] at hb
    subst hb
    obtain ⟨j,hj,rfl⟩:=(h2 a).1 ha
    rcases ab with h | h
    ·omega
    ·have e1:=ac j (m-1) (by omega) (by omega)
     have e2:=ac (m-1) m (by omega) (by omega)
     omega
   ·rw [List.mem_append,h2 x,List.mem_singleton]
    constructor
    ·rintro (⟨j,hj,e⟩ | e)
     ·exact ⟨j,by omega,e⟩
     ·exact ⟨m,by omega,e.symm⟩
    ·rintro ⟨j,hj,e⟩
     by_cases h:j<m
     ·exact .inl ⟨j,h,e⟩
     ·obtain rfl:j=m:=by omega
      exact .inr e.symm
  ·rw [if_neg hk,List.append_nil]
   have ab:m≠0/\s.getD m 0=s.getD (m-1) 0:=by
    have:¬ (m=0\/s.toArray[m]!≠s.toArray[m-1]!):=fun h=>hk (decide_eq_true h)
    have h0:m≠0:=fun h=>this (.inl h)
    refine ⟨h0,?_⟩
    have h3:s.toArray[m]! = s.toArray[m-1]!:=Classical.not_not.1 fun h=>this (.inr h)
    rwa [aa m (by omega),aa (m-1) (by omega)] at h3
   refine ⟨h1,fun x=>(h2 x).trans ⟨?_,?_⟩⟩
   ·rintro ⟨j,hj,e⟩
    exact ⟨j,by omega,e⟩
   ·rintro ⟨j,hj,e⟩
    by_cases h:j<m
    ·exact ⟨j,h,e⟩
    ·obtain rfl:j=m:=by omega
     exact ⟨j-1,by omega,ab.2.symm.trans e⟩
theorem b5e (l:List Int):(a2g l).Pairwise (· < ·):=(d2c _ (c2t l) _ (Nat.le_refl _)).1
theorem a9u (l:List Int) (x:Int):x∈a2g l ↔ x∈l:=by
 unfold a2g compact
 rw [(d2c _ (c2t l) _ (Nat.le_refl _)).2 x]
 have hp:=(List.mergeSort_perm l fun x y=>decide (x<=y)).mem_iff (a:=x)
 rw [<-hp,List.mem_iff_getElem]
 constructor
 ·rintro ⟨j,hj,e⟩
  refine ⟨j,hj,?_⟩
  rw [List.getD_eq_getElem?_getD,List.getElem?_eq_getElem hj] at e
  exact e
 ·rintro ⟨j,hj,e⟩
  refine ⟨j,hj,?_⟩
  rw [List.getD_eq_getElem?_getD,List.getElem?_eq_getElem hj]
  exact e
theorem e2e (l:List Int):(a2g l).length<=l.length:=by
 unfold a2g compact compactUpTo
 rw [List.length_map]
 refine Nat.le_trans (List.length_filter_le _ _) ?_
 rw [List.length_range,List.length_mergeSort]
 exact Nat.le_refl _
theorem d0c {l:List Int} (h:0<l.length):0<(a2g l).length:=by
 have h1:=(a9u l l[0]).2 (List.getElem_mem h)
 exact List.length_pos_of_mem h1
theorem b1n (c:List Int) (hc:c.Pairwise (· < ·)) {x:Int} (hx:x∈c):c.countP (· < x)<c.length/\c[c.countP (· < x)]?=some x:=by
 induction c with
 | nil=>cases hx
 | cons a c ih =>
  have h1:=List.pairwise_cons.1 hc
  rw [List.countP_cons]
  by_cases h:a<x
  ·have aa:x∈c:=by
    rcases List.mem_cons.1 hx with e | e
    ·omega
    ·exact e
   obtain ⟨h2,h3⟩:=ih h1.2 aa
   simp only [h,decide_true,if_true,List.length_cons]
   refine ⟨by omega,?_⟩
   rw [List.getElem?_cons_succ]
   exact h3
  ·have ab:x=a:=by
    rcases List.mem_cons.1 hx with e | e
    ·exact e
    ·have:=h1.1 x e;omega
   subst ab
   have h0:c.countP (· < x)=0:=by
    rw [List.countP_eq_zero]
    intro y hy
    have:=h1.1 y hy
    simp;omega
   rw [h0]
   simp
end Go.Proofs.YtepjepkgcdfboaaGreatDoor
