/- Whole blocks: a store of a whole row, numbers in a block. No program. -/
import Derived.Test.YtepjepkgcdfboaaGreatDoorMg03
import Derived.Deep.MidRow
import Derived.Deep.Cut
set_option linter.unusedVariables false
set_option linter.unusedSimpArgs false
namespace Go.Proofs.YtepjepkgcdfboaaGreatDoor
open Go.RowKit
theorem Blk.setCells_at {g:Nat} {t:TypeId}:∀ (vs pre old:List Value) (w:World),Blk w g t (pre++old).toArray->old.length=vs.length->Blk (w.setCells g pre.length vs) g t (pre++vs).toArray
 | [],pre,old,w,h,hl=>by
  have:old=[]:=List.eq_nil_of_length_eq_zero (by simpa using hl)
  subst this
  exact h
 | v::vs,pre,[],w,h,hl=>by simp at hl
 | v::vs,pre,x::old,w,h,hl=>by
  have h1:=h.set_ pre.length v
  have e:(pre++x::old).toArray.setIfInBounds pre.length v=((pre++[v])++old).toArray:=by
   apply Array.toList_inj.1
   simp
  rw [e] at h1
  have h2:=Blk.setCells_at vs (pre++[v]) old _ h1 (by simpa using hl)
  rw [show (pre++[v]).length=pre.length+1 by simp,zH] at h2
  exact h2
theorem Blk.setCells {w:World} {g:Nat} {t:TypeId} {cs:Array Value} (h:Blk w g t cs) (vs:List Value) (hl:cs.size=vs.length):Blk (w.setCells g 0 vs) g t vs.toArray :=
 Blk.setCells_at vs [] cs.toList w (by simpa using h) (by simpa using hl)
theorem Chg.setCells {F:List Nat} {a:World} {g:Nat} (hg:g∈F\/a.heap.size<=g):∀ (vs:List Value) (o:Nat) (w:World),Chg F a w->Chg F a (w.setCells g o vs)
 | [],_,_,h=>h
 | v::vs,o,w,h=>Chg.setCells hg vs (o+1) _ (h.setCell (p := ⟨g,o,none⟩) hg v)
theorem Blk.there {w:World} {g:Nat} {t:TypeId} {cs:Array Value} (h:Blk w g t cs) {n:Nat} (hn:n<=cs.size):w.there g 0 n:=fun j hj =>
 ⟨by rw [Nat.zero_add,h.cell,Array.getElem?_eq_getElem (by omega)];rfl,h.frozen _⟩
def Vec (w:World) (b:Nat) (t:TypeId) (l:List Nat):Prop:=Blk w b t (l.map i64).toArray
theorem Vec.cell {w:World} {b:Nat} {t:TypeId} {l:List Nat} (h:Vec w b t l) {i:Nat} (hi:i<l.length):w.cell? ⟨b,i,none⟩=some (.int .i64 (l.getD i 0:Nat)):=by
 rw [Blk.cell h]
 simp [i64,zD,zF hi]
theorem Vec.set_ {w:World} {b:Nat} {t:TypeId} {l:List Nat} (h:Vec w b t l) (i x:Nat):Vec (w.setCell ⟨b,i,none⟩ (.int .i64 x)) b t (l.set i x):=by
 have:=Blk.set_ h i (.int .i64 x)
 unfold Vec
 rw [List.map_set]
 simpa [i64] using this
theorem Vec.chg {w w':World} {b:Nat} {t:TypeId} {l:List Nat} {F:List Nat} (h:Vec w b t l) (hc:Chg F w w') (hb:b∉F):Vec w' b t l:=Blk.chg h hc hb
theorem f3c (l:List Nat):(l.map i64).toArray.all (·.oneCell')=true:=all_oneCell_toArray fun v hv=>by
 obtain ⟨x,_,rfl⟩:=List.mem_map.1 hv
 rfl
end Go.Proofs.YtepjepkgcdfboaaGreatDoor
