/- The stable order of elements by weight, as a function; the rows and the lengths as functions. Plain Lean, no program. -/
import Derived.Test.YtepjepkgcdfboaaGreatDoorMg12
import Derived.Sort.LotA
set_option linter.unusedVariables false
set_option linter.unusedSimpArgs false
namespace Go.Proofs.YtepjepkgcdfboaaGreatDoor
open Go.Sort
def wtAt (T:List El) (k:Nat):Nat:=(T.getD k (T.headD default)).wt
def lt2T (T:List El) (x y:Nat):Bool:=decide (wtAt T x<wtAt T y\/(wtAt T x=wtAt T y/\x<y))
def sortIdx (T:List El):List Nat:=(List.range T.length).mergeSort fun x y => !lt2T T y x
def sortT (T:List El):List El:=(sortIdx T).map fun k=>T.getD k (T.headD default)
theorem lt2T_swo (T:List El):SWO (lt2T T):=by
 refine ⟨fun x => ?_,fun x y z => ?_,fun x y z => ?_⟩
 ·unfold lt2T;simp
 ·unfold lt2T
  simp only [decide_eq_true_eq]
  omega
 ·unfold lt2T
  simp only [decide_eq_false_iff_not]
  omega
theorem lt2T_total (T:List El) (x y:Nat) (h1:lt2T T x y=false) (h2:lt2T T y x=false):x=y:=by
 unfold lt2T at h1 h2
 simp only [decide_eq_false_iff_not] at h1 h2
 omega
theorem sortIdx_perm (T:List El):(sortIdx T).Perm (List.range T.length):=List.mergeSort_perm _ _
theorem sortIdx_sorted (T:List El):(sortIdx T).Pairwise fun x y=>wtAt T x<=wtAt T y:=by
 have h:=List.pairwise_mergeSort (le:=fun x y => !lt2T T y x) (by
  intro a b c
  unfold lt2T
  simp only [Bool.not_eq_true',decide_eq_false_iff_not]
  omega) (by
  intro a b
  unfold lt2T
  simp only [Bool.or_eq_true,Bool.not_eq_true',decide_eq_false_iff_not]
  omega) (List.range T.length)
 refine h.imp fun {a b} hab => ?_
 unfold lt2T at hab
 simp only [Bool.not_eq_true',decide_eq_false_iff_not] at hab
 omega
theorem map_range_get {α:Type} (l:List α) (d:α):(List.range l.length).map (fun k=>l.getD k d)=l:=by
 apply List.ext_getElem
 ·simp
 ·intro i h1 h2
  simp [List.getD_eq_getElem?_getD,h2]
def sortE {α:Type} (f:α->El) (E:List α) (d:α):List α:=(sortIdx (E.map f)).map fun k=>E.getD k d
theorem sortE_perm {α:Type} (f:α->El) (E:List α) (d:α):(sortE f E d).Perm E:=by
 have h:=(sortIdx_perm (E.map f)).map fun k=>E.getD k d
 rw [List.length_map,map_range_get] at h
 exact h
theorem sortT_perm (T:List El):(sortT T).Perm T:=by
 have h:=(sortIdx_perm T).map fun k=>T.getD k (T.headD default)
 rw [map_range_get] at h
 exact h
theorem sortE_map {α:Type} (f:α->El) (E:List α) (d:α):(sortE f E d).map f=sortT (E.map f):=by
 unfold sortE sortT
 rw [List.map_map]
 apply List.map_congr_left
 intro k hk
 have ab:k<(E.map f).length:=List.mem_range.1 ((sortIdx_perm (E.map f)).mem_iff.1 hk)
 have aa:k<E.length:=by simpa using ab
 simp [List.getD_eq_getElem?_getD,aa]
theorem sortT_sorted (T:List El):(sortT T).Pairwise fun a b=>a.wt<=b.wt:=by
 unfold sortT
 rw [List.pairwise_map]
 exact sortIdx_sorted T
def rowAt (C:List El):Nat->List El
 | 0=>sortT C
 | j+1=>sortT (sortT C++packs (rowAt C j))
theorem rowAt_rows (C:List El):∀ j,Rows C (j+1) (rowAt C j)
 | 0 => .one (sortT_perm C) (sortT_sorted C)
 | j+1 => .next (rowAt_rows C j) ((sortT_perm _).trans ((sortT_perm C).append_right _)) (sortT_sorted _)
def lensFn (freq:List Nat):List Nat :=
 match coinsTo freq freq.length with
 | [.coin s _]=>(List.replicate freq.length 0).set s 1
 | C=>lensOf freq.length ((rowAt C 11).take (2*C.length-2))
theorem lensFn_one {freq:List Nat} {s f:Nat} (h:coinsTo freq freq.length=[.coin s f]):lensFn freq=(List.replicate freq.length 0).set s 1:=by
 unfold lensFn
 rw [h]
theorem lensFn_many {freq:List Nat} (h:2<=(coinsTo freq freq.length).length):lensFn freq=lensOf freq.length ((rowAt (coinsTo freq freq.length) 11).take (2*(coinsTo freq freq.length).length-2)):=by
 unfold lensFn
 split
 ·rename_i hc
  rw [hc] at h
  simp at h
 ·rfl
end Go.Proofs.YtepjepkgcdfboaaGreatDoor
