/- Lemmas. -/
import Derived.Lib.SlicesCompact
import Derived.Shelf.Strconv.Itoa0
import Derived.Test.YtifdlkoepaepiaaGreatDoorProg
import Derived.Shelf.SlSortCmp.Whole1
set_option linter.all false
namespace Go.Proofs.YtifdlkoepaepiaaGreatDoor
open Tryz List Nat Go.Lib Go.Sort
def iA(l:List Int):List Int:=compact (l.mergeSort λx y=>decide (x<=y))
theorem Dj(l:List Int):(l.mergeSort λx y=>decide (x<=y)).Pairwise (·<=·):=by
 have h:=pairwise_mergeSort (le:=λ(x y:Int)=>decide (x<=y)) (by intro a b c;simp;omega) (by intro a b;simp;omega) l;exact h.imp (by intro a b;simp)
theorem EO(s:List Int)(p:s.Pairwise (·<=·)):∀m,m<=s.length->(compactUpTo s.toArray m).Pairwise (· < ·)/\∀x,x∈compactUpTo s.toArray m ↔ ∃j,j<m/\s.getD j 0=x:=by
 intro m;have d:∀j,j<s.length->s.toArray[j]! = s.getD j 0:=λj c=>by
  rw[getD_eq_getElem?_getD,getElem?_eq_getElem c];simp[c]
 have k:∀i j,i<=j->j<s.length->s.getD i 0<=s.getD j 0:=λi j hij c=>by
  rw[getD_eq_getElem?_getD,getElem?_eq_getElem (by omega),getD_eq_getElem?_getD,getElem?_eq_getElem c];rcases Nat.lt_or_ge i j with h|h
  .exact(List.pairwise_iff_getElem.1 p) i j (by omega) c h
  .obtain rfl:i=j:=by omega
   exact Int.le_refl _
 induction m with
 | zero=>intro _;exact⟨by simp[compactUpTo],by simp[compactUpTo]⟩
 | succ m ih=>
  intro r;obtain⟨l,g⟩:=ih (by omega);rw[compactUpTo_succ];by_cases hk:keeps s.toArray m=true
  .rw[if_pos hk,d m (by omega)]
   have f:m=0\/s.getD m 0≠s.getD (m-1) 0:=by
    have:=of_decide_eq_true hk
    rcases this with h|h
    .exact .inl h
    .right
     rw[d m (by omega),d (m-1) (by omega)]at h;exact h
   refine⟨?_,λx=>?_⟩
   .rw[pairwise_append]
    refine⟨l,by simp,λa ha b hb=>?_⟩;rw[mem_singleton]at hb;subst hb;obtain⟨j,c,rfl⟩:=(g a).1 ha;rcases f with h|h
    .omega
    .have q:=k j (m-1) (by omega) (by omega)
     have e2:=k (m-1) m (by omega) (by omega);omega
   .rw[mem_append,g x,mem_singleton]
    constructor
    .rintro(⟨j,c,e⟩|e)
     .exact⟨j,by omega,e⟩
     .exact⟨m,by omega,e.symm⟩
    .rintro⟨j,c,e⟩
     by_cases h:j<m
     .exact .inl ⟨j,h,e⟩
     .obtain rfl:j=m:=by omega
      exact .inr e.symm
  .rw[if_neg hk,append_nil]
   have f:m≠0/\s.getD m 0=s.getD (m-1) 0:=by
    have:¬(m=0\/s.toArray[m]!≠s.toArray[m-1]!):=λh=>hk (decide_eq_true h)
    have n:m≠0:=λh=>this (.inl h);refine⟨n,?_⟩;have o:s.toArray[m]! = s.toArray[m-1]!:=Classical.not_not.1 λh=>this (.inr h)
    rwa [d m (by omega),d (m-1) (by omega)]at o
   refine⟨l,λx=>(g x).trans ⟨?_,?_⟩⟩
   .rintro⟨j,c,e⟩
    exact⟨j,by omega,e⟩
   .rintro⟨j,c,e⟩
    by_cases h:j<m
    .exact⟨j,h,e⟩
    .obtain rfl:j=m:=by omega
     exact⟨j-1,by omega,f.2.symm.trans e⟩
theorem uv(l:List Int):(iA l).Pairwise (· < ·):=(EO _ (Dj l) _ (Nat.le_refl _)).1
theorem sP(l:List Int)(x:Int):x∈iA l ↔ x∈l:=by
 unfold iA compact;rw[(EO _ (Dj l) _ (Nat.le_refl _)).2 x];have c:=(mergeSort_perm l λx y=>decide (x<=y)).mem_iff (a:=x);rw[<-c,mem_iff_getElem];constructor
 .rintro⟨j,b,e⟩
  refine⟨j,b,?_⟩;rw[getD_eq_getElem?_getD,getElem?_eq_getElem b]at e;exact e
 .rintro⟨j,b,e⟩
  refine⟨j,b,?_⟩;rw[getD_eq_getElem?_getD,getElem?_eq_getElem b];exact e
theorem Mi(l:List Int):(iA l).length<=l.length:=by
 unfold iA compact compactUpTo;rw[length_map];refine Nat.le_trans (length_filter_le _ _) ?_;rw[length_range,length_mergeSort];exact Nat.le_refl _
theorem Eh{l:List Int}(h:0<l.length):0<(iA l).length:=by
 have a:=(sP l l[0]).2 (getElem_mem h);exact length_pos_of_mem a
theorem yG(c:List Int)(k:c.Pairwise (· < ·)){x:Int}(d:x∈c):c.countP (· < x)<c.length/\c[c.countP (· < x)]?=some x:=by
 induction c with
 | nil=>cases d
 | cons a c ih=>
  have b:=List.pairwise_cons.1 k;rw[countP_cons];by_cases h:a<x
  .have f:x∈c:=by
    rcases List.mem_cons.1 d with e|e
    .omega
    .exact e
   obtain⟨m,j⟩:=ih b.2 f;simp only[h,decide_true,if_true,length_cons];refine⟨by omega,?_⟩;rw[getElem?_cons_succ];exact j
  .have g:x=a:=by
    rcases List.mem_cons.1 d with e|e
    .exact e
    .have:=b.1 x e;omega
   subst g;have i:c.countP (· < x)=0:=by
    rw[countP_eq_zero];intro y l
    have:=b.1 y l
    simp;omega
   rw[i];simp
end Go.Proofs.YtifdlkoepaepiaaGreatDoor

namespace Go.Proofs
open Tryz List Nat Go.Shelf
def lays129_ren:Go.Shelf.Ren:=⟨fun | 129=>161 | n=>n,fun | 53=>92 | 3=>3 | 4=>4 | 46=>84 | 5=>5 | 9=>9 | n=>n,fun | n=>n⟩
theorem lays129:Go.Proofs.Lays.n129 prog lays129_ren:={
 mixed:=by kernel_rfl
 f129:=func161.trans (congrArg some (by kernel_rfl))
 t3:=underlying3
 a3:=isAgg3
 z3:=sizeOf3
 v3:=zeroValue3
 t4:=underlying4
 a4:=isAgg4
 z4:=sizeOf4
 v4:=zeroValue4
 t5:=underlying5
 a5:=isAgg5
 z5:=sizeOf5
 v5:=zeroValue5
 t9:=underlying9
 a9:=isAgg9
 z9:=sizeOf9
 v9:=zeroValue9
 t46:=underlying84
 a46:=isAgg84
 z46:=sizeOf84
 v46:=zeroValue84
 t53:=underlying92
 a53:=isAgg92
 z53:=sizeOf92
 v53:=zeroValue92 }
theorem bits_Len64(x:Int)(w:World)(a:0<=x)(b:x<=18446744073709551615):Calls prog 161 #[.int .u64 x] w λe c=>e=.returned (.int .i64 (Lib.bitLen x.toNat))/\c=w:=Any.bits_Len64 lays129 x w a b
end Go.Proofs

namespace Go.Proofs
open Tryz List Nat Go.Shelf
def laysSlF6_f73_ren:Go.Shelf.Ren:=⟨fun | 6=>97 | 15=>120 | 14=>119 | 28=>160 | 29=>161 | 20=>152 | 21=>153 | 22=>154 | 23=>155 | 24=>156 | 25=>157 | 26=>158 | 27=>159 | 46=>212 | 47=>213 | 48=>214 | 49=>215 | 50=>216 | 57=>243 | n=>n,fun | 22=>44 | 24=>22 | 25=>149 | 3=>3 | 39=>84 | 0=>0 | 53=>96 | 55=>92 | 4=>4 | 46=>201 | 45=>200 | 50=>153 | 5=>5 | 9=>9 | 66=>257 | 70=>261 | 76=>289 | 77=>194 | n=>n,fun | n=>n⟩
theorem laysSlF6_f73:Go.Proofs.SlLaysF.n6 prog laysSlF6_f73_ren:={
 mixed:=by kernel_rfl
 f6:=⟨f97.name,by decide,func97.trans (congrArg some (by kernel_rfl))⟩
 f14:=⟨f119.name,by decide,func119.trans (congrArg some (by kernel_rfl))⟩
 f15:=func120.trans (congrArg some (by kernel_rfl))
 f20:=⟨f152.name,by decide,func152.trans (congrArg some (by kernel_rfl))⟩
 f21:=⟨f153.name,by decide,func153.trans (congrArg some (by kernel_rfl))⟩
 f22:=⟨f154.name,by decide,func154.trans (congrArg some (by kernel_rfl))⟩
 f23:=⟨f155.name,by decide,func155.trans (congrArg some (by kernel_rfl))⟩
 f24:=⟨f156.name,by decide,func156.trans (congrArg some (by kernel_rfl))⟩
 f25:=⟨f157.name,by decide,func157.trans (congrArg some (by kernel_rfl))⟩
 f26:=⟨f158.name,by decide,func158.trans (congrArg some (by kernel_rfl))⟩
 f27:=⟨f159.name,by decide,func159.trans (congrArg some (by kernel_rfl))⟩
 f28:=func160.trans (congrArg some (by kernel_rfl))
 f29:=func161.trans (congrArg some (by kernel_rfl))
 f46:=⟨f212.name,by decide,func212.trans (congrArg some (by kernel_rfl))⟩
 f47:=func213.trans (congrArg some (by kernel_rfl))
 f48:=func214.trans (congrArg some (by kernel_rfl))
 f49:=⟨f215.name,by decide,func215.trans (congrArg some (by kernel_rfl))⟩
 f50:=⟨f216.name,by decide,func216.trans (congrArg some (by kernel_rfl))⟩
 f57:=⟨f243.name,by decide,func243.trans (congrArg some (by kernel_rfl))⟩
 t0:=underlying0
 a0:=isAgg0
 z0:=sizeOf0
 v0:=zeroValue0
 t3:=underlying3
 a3:=isAgg3
 z3:=sizeOf3
 v3:=zeroValue3
 t4:=underlying4
 a4:=isAgg4
 z4:=sizeOf4
 v4:=zeroValue4
 t5:=underlying5
 a5:=isAgg5
 z5:=sizeOf5
 v5:=zeroValue5
 t9:=underlying9
 a9:=isAgg9
 z9:=sizeOf9
 v9:=zeroValue9
 t22:=underlying44
 a22:=isAgg44
 z22:=sizeOf44
 v22:=zeroValue44
 a24:=isAgg22
 z24:=sizeOf22
 t25:=underlying149
 a25:=isAgg149
 z25:=sizeOf149
 v25:=zeroValue149
 t39:=underlying84
 a39:=isAgg84
 z39:=sizeOf84
 v39:=zeroValue84
 t45:=underlying200
 a45:=isAgg200
 z45:=sizeOf200
 v45:=zeroValue200
 t46:=underlying201
 a46:=isAgg201
 z46:=sizeOf201
 v46:=zeroValue201
 t50:=underlying153
 a50:=isAgg153
 z50:=sizeOf153
 v50:=zeroValue153
 t53:=underlying96
 a53:=isAgg96
 z53:=sizeOf96
 v53:=zeroValue96
 t55:=underlying92
 a55:=isAgg92
 z55:=sizeOf92
 v55:=zeroValue92
 t66:=underlying257
 a66:=isAgg257
 z66:=sizeOf257
 v66:=zeroValue257
 t70:=underlying261
 a70:=isAgg261
 z70:=sizeOf261
 v70:=zeroValue261
 t76:=underlying289
 a76:=isAgg289
 z76:=sizeOf289
 v76:=zeroValue289
 t77:=underlying194
 a77:=isAgg194
 z77:=sizeOf194
 v77:=zeroValue194 }
open Go.RowKit Go.Lib Go.Sort in
theorem slices_SortFunc{α:Type}[Inhabited α](enc:α->Value)(l:OneCell enc)(h:α->α->Int)(m:SWO (ltOf h))(g:Nat)(i:Array Value)(blk a b:Nat)(d:Array α)(w:World)(k:∀args w,(callFunc g args).run prog w=.ok (.enter g args) w)(f:CmpLays1 prog g i enc h blk a d.size w)(hH:Holds enc w blk a d)(c:blk<w.heap.size)(j:d.size<4611686018427387904):Calls prog 97 #[.slice (some ⟨blk,a,none⟩) d.size b,.func (.func g) #[] i] w λe o=>e=.returned (.tuple #[])/\∃d' n os,PermIn 0 d.size d d'/\SortedIn (ltOf h) 0 d.size d'/\o=sortWorld enc w blk a n d' os:=Any.slices_SortFunc laysSlF6_f73 enc l h m g i blk a b d w k f hH c j
end Go.Proofs
