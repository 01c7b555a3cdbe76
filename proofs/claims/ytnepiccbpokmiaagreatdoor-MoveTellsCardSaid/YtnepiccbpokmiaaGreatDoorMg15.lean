/- Lemmas. -/
import Derived.Test.YtnepiccbpokmiaaGreatDoorMg12
import Derived.Deep.MidRow
import Derived.Deep.Cut
set_option linter.all false
namespace Go.Proofs.YtnepiccbpokmiaaGreatDoor
open List Nat Go.RowKit
variable {l:List Nat}{b g:Nat}{t:TypeId}{w:World}
theorem gn.setCells_at{g:Nat}{t:TypeId}:∀(vs pre old:List Value) (w:World),gn w g t (pre++old).toArray->old.length=vs.length->gn (w.setCells g pre.length vs) g t (pre++vs).toArray
 | [],pre,old,w,h,hl=>by
  have:old=[]:=eq_nil_of_length_eq_zero (by simpa using hl)
  subst this;exact h
 | v::vs,pre,[],w,h,hl=>by simp at hl
 | v::vs,pre,x::old,w,h,hl=>by
  have a:=h.T pre.length v;have e:(pre++x::old).toArray.setIfInBounds pre.length v=((pre++[v])++old).toArray:=by
   apply Array.toList_inj.1;simp
  rw[e]at a;have c:=gn.setCells_at vs (pre++[v]) old _ a (by simpa using hl);rw[show(pre++[v]).length=pre.length+1 by simp,zH]at c;exact c
theorem gn.setCells{c:Array Value}(h:gn w g t c)(a:List Value)(d:c.size=a.length):gn (w.setCells g 0 a) g t a.toArray:=
 gn.setCells_at a [] c.toList w (by simpa using h) (by simpa using d)
theorem gf.setCells{F:List Nat}{a:World}{g:Nat}(c:g∈F\/a.heap.size<=g):∀(vs:List Value) (o:Nat) (w:World),gf F a w->gf F a (w.setCells g o vs)
 | [],_,_,h=>h
 | v::vs,o,w,h=>gf.setCells c vs (o+1) _ (h.setCell (p := ⟨g,o,none⟩) c v)
theorem gn.there{a:Array Value}(h:gn w g t a){n:Nat}(c:n<=a.size):w.there g 0 n:=λj hj=>
 ⟨by rw[Nat.zero_add,h.X,Array.getElem?_eq_getElem (by omega)];rfl,h.V _⟩
def iW(w:World)(b:Nat)(t:TypeId)(l:List Nat):Prop:=gn w b t (l.map i64).toArray
theorem iW.X(h:iW w b t l){i:Nat}(hi:i<l.length):w.cell? ⟨b,i,none⟩=some (.int .i64 (l.getD i 0:Nat)):=by
 rw[gn.X h];simp[i64,zD,zF hi]
theorem iW.T(h:iW w b t l)(i x:Nat):iW (w.setCell ⟨b,i,none⟩ (.int .i64 x)) b t (l.set i x):=by
 have:=gn.T h i (.int .i64 x)
 unfold iW;rw[map_set]
 simpa[i64]using this
theorem iW.Z{a:World}{F:List Nat}(h:iW w b t l)(d:gf F w a)(c:b∉F):iW a b t l:=gn.Z h d c
theorem Oo(l:List Nat):(l.map i64).toArray.all (·.oneCell')=true:=all_oneCell_toArray λv hv=>by
 obtain⟨x,_,rfl⟩:=List.mem_map.1 hv;rfl
end Go.Proofs.YtnepiccbpokmiaaGreatDoor
