/- Lemmas. -/
import Derived.Test.YtifdlkoepaepiaaGreatDoorMh10
import Derived.Deep.MidRow
import Derived.Deep.Cut
set_option linter.all false
namespace Go.Proofs.YtifdlkoepaepiaaGreatDoor
open List Nat Go.RowKit
variable {l:List Nat}{b g:Nat}{t:TypeId}{w:World}
theorem gn.setCells_at{g:Nat}{t:TypeId}:∀(vs pre old:List Value) (w:World),gn w g t (pre++old).toArray->old.length=vs.length->gn (w.setCells g pre.length vs) g t (pre++vs).toArray
 | [],pre,old,w,h,hl=>by
  have:old=[]:=eq_nil_of_length_eq_zero (by simpa using hl)
  subst this;exact h
 | v::vs,pre,[],w,h,hl=>by simp at hl
 | v::vs,pre,x::old,w,h,hl=>by
  have a:=h.S pre.length v;have e:(pre++x::old).toArray.setIfInBounds pre.length v=((pre++[v])++old).toArray:=by
   apply Array.toList_inj.1;simp
  rw[e]at a;have c:=gn.setCells_at vs (pre++[v]) old _ a (by simpa using hl);rw[show(pre++[v]).length=pre.length+1 by simp,zH]at c;exact c
theorem gn.setCells{c:Array Value}(h:gn w g t c)(a:List Value)(d:c.size=a.length):gn (w.setCells g 0 a) g t a.toArray:=
 gn.setCells_at a [] c.toList w (by simpa using h) (by simpa using d)
theorem gg.setCells{F:List Nat}{a:World}{g:Nat}(c:g∈F\/a.heap.size<=g):∀(vs:List Value) (o:Nat) (w:World),gg F a w->gg F a (w.setCells g o vs)
 | [],_,_,h=>h
 | v::vs,o,w,h=>gg.setCells c vs (o+1) _ (h.setCell (p := ⟨g,o,none⟩) c v)
theorem gn.there{a:Array Value}(h:gn w g t a){n:Nat}(c:n<=a.size):w.there g 0 n:=λj hj=>
 ⟨by rw[Nat.zero_add,h.X,Array.getElem?_eq_getElem (by omega)];rfl,h.U _⟩
def je(w:World)(b:Nat)(t:TypeId)(l:List Nat):Prop:=gn w b t (l.map i64).toArray
theorem je.X(h:je w b t l){i:Nat}(a:i<l.length):w.cell? ⟨b,i,none⟩=some (.int .i64 (l.getD i 0:Nat)):=by
 rw[gn.X h];simp[i64,zD,zF a]
theorem je.S(h:je w b t l)(i x:Nat):je (w.setCell ⟨b,i,none⟩ (.int .i64 x)) b t (l.set i x):=by
 have:=gn.S h i (.int .i64 x)
 unfold je;rw[map_set]
 simpa[i64]using this
theorem je.Z{a:World}{F:List Nat}(h:je w b t l)(d:gg F w a)(c:b∉F):je a b t l:=gn.Z h d c
theorem Pu(l:List Nat):(l.map i64).toArray.all (·.oneCell')=true:=all_oneCell_toArray λv hv=>by
 obtain⟨x,_,rfl⟩:=List.mem_map.1 hv;rfl
end Go.Proofs.YtifdlkoepaepiaaGreatDoor
