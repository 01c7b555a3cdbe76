/- The stable order of elements by weight, as a function; the rows and the lengths as functions. Plain Lean, no program. -/
import Derived.Test.YtepjepkgcdfboaaGreatDoorMg12
import Derived.Sort.LotA
set_option linter.unusedVariables false
set_option linter.unusedSimpArgs false
namespace Go.Proofs.YtepjepkgcdfboaaGreatDoor
open Go.Sort
def e0w (T:List El) (k:Nat):Nat:=(T.getD k (T.headD default)).wt
def d2k (T:List El) (x y:Nat):Bool:=decide (e0w T x<e0w T y\/(e0w T x=e0w T y/\x<y))
def b7l (T:List El):List Nat:=(List.range T.length).mergeSort fun x y => !d2k T y x
def c4h (T:List El):List El:=(b7l T).map fun k=>T.getD k (T.headD default)
theorem d6s (T:List El):SWO (d2k T):=by
 refine ⟨fun x => ?_,fun x y z => ?_,fun x y z => ?_⟩
 ·unfold d2k;simp
 ·unfold d2k
  simp only [decide_eq_true_eq]
  omega
 ·unfold d2k
  simp only [decide_eq_false_iff_not]
  omega
theorem d9m (T:List El) (x y:Nat) (h1:d2k T x y=false) (h2:d2k T y x=false):x=y:=by
 unfold d2k at h1 h2
 simp only [decide_eq_false_iff_not] at h1 h2
 omega
theorem b2c (T:List El):(b7l T).Perm (List.range T.length):=List.mergeSort_perm _ _
theorem c4g (T:List El):(b7l T).Pairwise fun x y=>e0w T x<=e0w T y:=by
 have h:=List.pairwise_mergeSort (le:=fun x y => !d2k T y x) (by
  intro a b c
  unfold d2k
  simp only [Bool.not_eq_true',decide_eq_false_iff_not]
  omega) (by
  intro a b
  unfold d2k
  simp only [Bool.or_eq_true,Bool.not_eq_true',decide_eq_false_iff_not]
  omega) (List.range T.length)
 refine h.imp fun {a b} hab => ?_
 unfold d2k at hab
 simp only [Bool.not_eq_true',decide_eq_false_iff_not] at hab
 omega
theorem b0m {α:Type} (l:List α) (d:α):(List.range l.length).map (fun k=>l.getD k d)=l:=by
 apply List.ext_getElem
 ·simp
 ·intro i h1 h2
  simp [List.getD_eq_getElem?_getD,h2]
def c8m {α:Type} (f:α->El) (E:List α) (d:α):List α:=(b7l (E.map f)).map fun k=>E.getD k d
theorem c5v {α:Type} (f:α->El) (E:List α) (d:α):(c8m f E d).Perm E:=by
 have h:=(b2c (E.map f)).map fun k=>E.getD k d
 rw [List.length_map,b0m] at h
 exact h
theorem b7m (T:List El):(c4h T).Perm T:=by
 have h:=(b2c T).map fun k=>T.getD k (T.headD default)
 rw [b0m] at h
 exact h
theorem d1w {α:Type} (f:α->El) (E:List α) (d:α):(c8m f E d).map f=c4h (E.map f):=by
 unfold c8m c4h
 rw [List.map_map]
 apply List.map_congr_left
 intro k hk
 have aa:k<(E.map f).length:=List.mem_range.1 ((b2c (E.map f)).mem_iff.1 hk)
 have ab:k<E.length:=by simpa using aa
 simp [List.getD_eq_getElem?_getD,ab]
theorem b8m (T:List El):(c4h T).Pairwise fun a b=>a.wt<=b.wt:=by
 unfold c4h
 rw [List.pairwise_map]
 exact c4g T
def e0i (C:List El):Nat->List El
 | 0=>c4h C
 | j+1=>c4h (c4h C++a1o (e0i C j))
theorem b7j (C:List El):∀ j,Rows C (j+1) (e0i C j)
 | 0 => .one (b7m C) (b8m C)
 | j+1 => .next (b7j C j) ((b7m _).trans ((b7m C).append_right _)) (b8m _)
def a7d (freq:List Nat):List Nat :=
 match a0v freq freq.length with
 | [.coin s _]=>(List.replicate freq.length 0).set s 1
 | C=>a4i freq.length ((e0i C 11).take (2*C.length-2))
theorem c5j {freq:List Nat} {s f:Nat} (h:a0v freq freq.length=[.coin s f]):a7d freq=(List.replicate freq.length 0).set s 1:=by
 unfold a7d
 rw [h]
theorem c1k {freq:List Nat} (h:2<=(a0v freq freq.length).length):a7d freq=a4i freq.length ((e0i (a0v freq freq.length) 11).take (2*(a0v freq freq.length).length-2)):=by
 unfold a7d
 split
 ·rename_i hc
  rw [hc] at h
  simp at h
 ·rfl
end Go.Proofs.YtepjepkgcdfboaaGreatDoor
