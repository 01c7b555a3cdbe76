/- Lemmas. -/
import Derived.Lib.SlicesCompact
set_option linter.all false
namespace Go.Proofs.YtnepiccbpokmiaaGreatDoor
open List Nat Go.Lib Go.Sort
variable {x:Int}{l:List Int}
def ig(l:List Int):List Int:=compact (l.mergeSort λx y=>decide (x<=y))
theorem BL(l:List Int):(l.mergeSort λx y=>decide (x<=y)).Pairwise (·<=·):=by
 have h:=pairwise_mergeSort (le:=λ(x y:Int)=>decide (x<=y)) (by intro a b c;simp;omega) (by intro a b;simp;omega) l;exact h.imp (by intro a b;simp)
theorem DG(s:List Int)(q:s.Pairwise (·<=·)):∀m,m<=s.length->(compactUpTo s.toArray m).Pairwise (· < ·)/\∀x,x∈compactUpTo s.toArray m ↔ ∃j,j<m/\s.getD j 0=x:=by
 intro m;have d:∀j,j<s.length->s.toArray[j]! = s.getD j 0:=λj c=>by
  rw[getD_eq_getElem?_getD,getElem?_eq_getElem c];simp[c]
 have k:∀i j,i<=j->j<s.length->s.getD i 0<=s.getD j 0:=λi j hij c=>by
  rw[getD_eq_getElem?_getD,getElem?_eq_getElem (by omega),getD_eq_getElem?_getD,getElem?_eq_getElem c];rcases Nat.lt_or_ge i j with h|h
  .exact(List.pairwise_iff_getElem.1 q) i j (by omega) c h
  .obtain rfl:i=j:=by omega
   exact Int.le_refl _
 induction m with
 | zero=>intro _;exact⟨by simp[compactUpTo],by simp[compactUpTo]⟩
 | succ m ih=>
  intro u;obtain⟨n,g⟩:=ih (by omega);rw[compactUpTo_succ];by_cases hk:keeps s.toArray m=true
  .rw[if_pos hk,d m (by omega)]
   have f:m=0\/s.getD m 0≠s.getD (m-1) 0:=by
    have:=of_decide_eq_true hk
    rcases this with h|h
    .exact .inl h
    .right
     rw[d m (by omega),d (m-1) (by omega)]at h;exact h
   refine⟨?_,λx=>?_⟩
   .rw[pairwise_append]
    refine⟨n,by simp,λa ha b hb=>?_⟩;rw[mem_singleton]at hb;subst hb;obtain⟨j,c,rfl⟩:=(g a).1 ha;rcases f with h|h
    .omega
    .have r:=k j (m-1) (by omega) (by omega)
     have t:=k (m-1) m (by omega) (by omega);omega
   .rw[mem_append,g x,mem_singleton]
    constructor
    .rintro(⟨j,c,e⟩|e)
     .exact⟨j,by omega,e⟩
     .exact⟨m,by omega,e.symm⟩
    .rintro⟨j,c,e⟩
     by_cases h:j<m
     .exact .inl ⟨j,h,e⟩
     .obtain rfl:j=m:=by omega
      exact .inr e.symm
  .rw[if_neg hk,append_nil]
   have f:m≠0/\s.getD m 0=s.getD (m-1) 0:=by
    have:¬(m=0\/s.toArray[m]!≠s.toArray[m-1]!):=λh=>hk (decide_eq_true h)
    have o:m≠0:=λh=>this (.inl h);refine⟨o,?_⟩;have p:s.toArray[m]! = s.toArray[m-1]!:=Classical.not_not.1 λh=>this (.inr h)
    rwa [d m (by omega),d (m-1) (by omega)]at p
   refine⟨n,λx=>(g x).trans ⟨?_,?_⟩⟩
   .rintro⟨j,c,e⟩
    exact⟨j,by omega,e⟩
   .rintro⟨j,c,e⟩
    by_cases h:j<m
    .exact⟨j,h,e⟩
    .obtain rfl:j=m:=by omega
     exact⟨j-1,by omega,f.2.symm.trans e⟩
theorem oy(l:List Int):(ig l).Pairwise (· < ·):=(DG _ (BL l) _ (Nat.le_refl _)).1
theorem ng(l:List Int)(x:Int):x∈ig l ↔ x∈l:=by
 unfold ig compact;rw[(DG _ (BL l) _ (Nat.le_refl _)).2 x];have c:=(mergeSort_perm l λx y=>decide (x<=y)).mem_iff (a:=x);rw[<-c,mem_iff_getElem];constructor
 .rintro⟨j,b,e⟩
  refine⟨j,b,?_⟩;rw[getD_eq_getElem?_getD,getElem?_eq_getElem b]at e;exact e
 .rintro⟨j,b,e⟩
  refine⟨j,b,?_⟩;rw[getD_eq_getElem?_getD,getElem?_eq_getElem b];exact e
theorem CP(l:List Int):(ig l).length<=l.length:=by
 unfold ig compact compactUpTo;rw[length_map];refine Nat.le_trans (length_filter_le _ _) ?_;rw[length_range,length_mergeSort];exact Nat.le_refl _
theorem CQ(h:0<l.length):0<(ig l).length:=by
 have a:=(ng l l[0]).2 (getElem_mem h);exact length_pos_of_mem a
theorem AN(c:List Int)(k:c.Pairwise (· < ·))(d:x∈c):c.countP (· < x)<c.length/\c[c.countP (· < x)]?=some x:=by
 induction c with
 | nil=>cases d
 | cons a c ih=>
  have b:=List.pairwise_cons.1 k;rw[countP_cons];by_cases h:a<x
  .have f:x∈c:=by
    rcases List.mem_cons.1 d with e|e
    .omega
    .exact e
   obtain⟨n,j⟩:=ih b.2 f;simp only[h,decide_true,if_true,length_cons];refine⟨by omega,?_⟩;rw[getElem?_cons_succ];exact j
  .have g:x=a:=by
    rcases List.mem_cons.1 d with e|e
    .exact e
    .have:=b.1 x e;omega
   subst g;have i:c.countP (· < x)=0:=by
    rw[countP_eq_zero];intro y m
    have:=b.1 y m
    simp;omega
   rw[i];simp
theorem yl{c:List Int}(k:c.Pairwise (· < ·))(x:Int):∀ {j:Nat} (d:j<c.length),c[j]<x ↔ j<c.countP (· < x):=by
 induction c with
 | nil=>intro j d;simp at d
 | cons a c ih=>
  obtain⟨e,g⟩:=List.pairwise_cons.1 k;intro j d;rw[countP_cons];by_cases ha:a<x
  .simp only[ha,decide_true,if_true]
   cases j with
   | zero=>simp[ha]
   | succ j=>
    have:=ih g (j:=j) (by simpa using d)
    simp only[List.getElem_cons_succ,this];omega
  .have f:c.countP (· < x)=0:=by
    rw[countP_eq_zero];intro b i
    have:=e b i
    simp;omega
   simp only[ha,decide_false,f]
   cases j with
   | zero=>simp[ha]
   | succ j=>
    have:=e _ (getElem_mem (l:=c) (n:=j) (by simpa using d))
    simp only[List.getElem_cons_succ];constructor
    .intro h;omega
    .intro h;simp at h
theorem zu:∀ {a b:List Int},a.Pairwise (· < ·)->b.Pairwise (· < ·)->(∀x,x∈a ↔ x∈b)->a=b
 | [],[],_,_,_=>rfl
 | [],y::b,_,_,h=>by have := (h y).2 (by simp);cases this
 | x::a,[],_,_,h=>by have := (h x).1 (by simp);cases this
 | x::a,y::b,ha,hb,h=>by
  obtain⟨c,g⟩:=List.pairwise_cons.1 ha;obtain⟨d,i⟩:=List.pairwise_cons.1 hb;have j:x=y:=by
   rcases List.mem_cons.1 ((h x).1 (by simp))with e|e
   .exact e
   .rcases List.mem_cons.1 ((h y).2 (by simp))with f|f
    .exact f.symm
    .have:=c y f;have:=d x e;omega
  subst j
  congr 1
  refine zu g i λz=>⟨λhz=>?_,λhz=>?_⟩
  .rcases List.mem_cons.1 ((h z).1 (by simp[hz]))with e|e
   .have:=c z hz;omega
   .exact e
  .rcases List.mem_cons.1 ((h z).2 (by simp[hz]))with e|e
   .have:=d z hz;omega
   .exact e
theorem Md(h:x∈l):ig (l++[x])=ig l:=
 zu (oy _) (oy _) λz=>by
  rw[ng,ng,mem_append,mem_singleton];exact⟨λhz=>hz.elim id λe=>e ▸ h,.inl⟩
theorem Kk(h:x∉l):ig (l++[x])=(ig l).take ((ig l).countP (· < x))++x::(ig l).drop ((ig l).countP (· < x)):=by
 have k:x∉ig l:=λd=>h ((ng l x).1 d);have c:=oy l;have d:∀z,z∈ig l ↔ z∈l:=ng l;obtain⟨D,n⟩:∃D,D=ig l:=⟨_,rfl⟩;rw[<-n]at k c d⊢;have g:=λj (a:j<D.length)=>yl c x a;refine zu (oy _) ?_ λz=>?_
 .rw[pairwise_append]
  refine⟨c.sublist (List.take_sublist _ _),List.pairwise_cons.2 ⟨λz b=>?_,c.sublist (List.drop_sublist _ _)⟩,λy hy z b=>?_⟩
  .obtain⟨j,a,rfl⟩:=List.mem_iff_getElem.1 b
   rw[List.getElem_drop];rw[length_drop]at a;have f:=g (D.countP (· < x)+j) (by omega);have o:D[D.countP (· < x)+j]'(by omega)≠x:=λe=>k (e ▸ getElem_mem _);have m:¬D[D.countP (· < x)+j]'(by omega)<x:=λe=>by have:=f.1 e;omega
   omega
  .obtain⟨i,hi,rfl⟩:=List.mem_iff_getElem.1 hy
   rw[length_take]at hi;rw[getElem_take];have f:=(g i (by omega)).2 (by omega);rcases List.mem_cons.1 b with rfl|b
   .exact f
   .obtain⟨j,a,rfl⟩:=List.mem_iff_getElem.1 b
    rw[List.getElem_drop];rw[length_drop]at a;have m:¬D[D.countP (· < x)+j]'(by omega)<x:=λe=>by have:=(g (D.countP (· < x)+j) (by omega)).1 e;omega
    omega
 .rw[ng,mem_append,mem_singleton,mem_append,mem_cons,<-d]
  have e:z∈D ↔ z∈D.take (D.countP (· < x))\/z∈D.drop (D.countP (· < x)):=by rw[<-mem_append,take_append_drop]
  rw[e];constructor
  .rintro((h|h)|h)
   .exact .inl h
   .exact .inr (.inr h)
   .exact .inr (.inl h)
  .rintro(h|h|h)
   .exact .inl (.inl h)
   .exact .inr h
   .exact .inl (.inr h)
end Go.Proofs.YtnepiccbpokmiaaGreatDoor
