/- Palettes, plain Lean: colours in their order, the colours of a picture, the indexes, and the picture again. No program. -/
import Derived.Test.YtepjepkgcdfboaaGreatDoorMg01
import Derived.Sort.Statements
set_option linter.unusedVariables false
set_option linter.unusedSimpArgs false
namespace Go.Proofs.YtepjepkgcdfboaaGreatDoor
open Go.Sort
def cmpL:List Int->List Int->Int
 | [],[]=>0
 | [],_::_ => -1
 | _::_,[]=>1
 | a::as,b::bs=>if a<b then -1 else if b<a then 1 else cmpL as bs
theorem cmpL_self:∀ a,cmpL a a=0
 | []=>rfl
 | x::a=>by simp [cmpL,cmpL_self a]
theorem cmpL_eq:∀ a b,cmpL a b=0->a=b
 | [],[],_=>rfl
 | [],_::_,h=>by simp [cmpL] at h
 | _::_,[],h=>by simp [cmpL] at h
 | x::a,y::b,h=>by
  unfold cmpL at h
  split at h
  ·omega
  ·split at h
   ·omega
   ·have:=cmpL_eq a b h
    have e:x=y:=by omega
    rw [e,this]
theorem cmpL_neg:∀ a b,cmpL b a=-cmpL a b
 | [],[]=>rfl
 | [],_::_=>rfl
 | _::_,[]=>rfl
 | x::a,y::b=>by
  unfold cmpL
  have:=cmpL_neg a b
  by_cases h1:x<y
  ·rw [if_neg (show ¬ y<x by omega),if_pos h1,if_pos h1];omega
  ·by_cases h2:y<x
   ·rw [if_pos h2,if_neg h1,if_pos h2]
   ·rw [if_neg h2,if_neg h1,if_neg h1,if_neg h2,this]
theorem cmpL_trans:∀ a b c,cmpL a b<0->cmpL b c<0->cmpL a c<0
 | [],[],_,h,_=>by simp [cmpL] at h
 | [],_::_,[],_,h=>by simp [cmpL] at h
 | [],_::_,_::_,_,_=>by simp [cmpL]
 | _::_,[],_,h,_=>by simp [cmpL] at h
 | _::_,_::_,[],_,h=>by simp [cmpL] at h
 | x::a,y::b,z::c,h1,h2=>by
  have ih:=cmpL_trans a b c
  unfold cmpL at h1 h2 ⊢
  by_cases a1:x<y
  ·by_cases a2:y<z
   ·rw [if_pos (by omega)];omega
   ·rw [if_neg a2] at h2
    split at h2
    ·omega
    ·rw [if_pos (by omega)];omega
  ·rw [if_neg a1] at h1
   split at h1
   ·omega
   ·by_cases a2:y<z
    ·rw [if_pos (by omega)];omega
    ·rw [if_neg a2] at h2
     split at h2
     ·omega
     ·rw [if_neg (by omega),if_neg (by omega)]
      exact ih h1 h2
theorem cmpL_le_trans (a b c:List Int) (h1:¬ cmpL a b<0) (h2:¬ cmpL b c<0):¬ cmpL a c<0:=by
 intro h
 have e1:=cmpL_neg a b
 have e2:=cmpL_neg b c
 rcases Int.lt_or_eq_of_le (show 0<=cmpL a b by omega) with h3 | h3
 ·have:=cmpL_trans b a c (by omega) h
  omega
 ·have:=cmpL_eq a b h3.symm
  subst this
  exact h2 h
theorem swo_cmpL (E:Nat->List Int):SWO (fun i j:Nat=>decide (cmpL (E i) (E j)<0)) where
 irrefl x:=by simp [cmpL_self]
 trans x y z h1 h2:=by
  simp only [decide_eq_true_eq] at *
  exact cmpL_trans _ _ _ h1 h2
 ntrans x y z h1 h2:=by
  simp only [decide_eq_false_iff_not] at *
  exact cmpL_le_trans _ _ _ h1 h2
def Asc (C:List (List Int)):Prop:=C.Pairwise fun a b=>cmpL a b<0
theorem Asc.nodup {C:List (List Int)} (h:Asc C):C.Nodup:=h.imp fun {a b} hab e=>by
 subst e
 rw [cmpL_self] at hab
 omega
theorem asc_unique:∀ {C D:List (List Int)},Asc C->Asc D->(∀ c,c∈C ↔ c∈D)->C=D
 | [],[],_,_,_=>rfl
 | [],d::D,_,_,h=>by have := (h d).2 (by simp);simp at this
 | c::C,[],_,_,h=>by have := (h c).1 (by simp);simp at this
 | c::C,d::D,hc,hd,h=>by
  obtain ⟨c1,c2⟩:=List.pairwise_cons.1 hc
  obtain ⟨d1,d2⟩:=List.pairwise_cons.1 hd
  have e:c=d:=by
   rcases zJ.1 ((h c).1 (by simp)) with h1 | h1
   ·exact h1
   ·rcases zJ.1 ((h d).2 (by simp)) with h2 | h2
    ·exact h2.symm
    ·have a1:=d1 c h1
     have a2:=c1 d h2
     have:=cmpL_neg c d
     omega
  subst e
  have nc:c∉C:=fun hm=>by have:=c1 c hm;rw [cmpL_self] at this;omega
  have nd:c∉D:=fun hm=>by have:=d1 c hm;rw [cmpL_self] at this;omega
  have:=asc_unique (C:=C) (D:=D) c2 d2 fun x=>by
   have hx:=h x
   simp only [zJ] at hx
   constructor
   ·intro hm
    rcases hx.1 (.inr hm) with e | e
    ·subst e;exact absurd hm nc
    ·exact e
   ·intro hm
    rcases hx.2 (.inr hm) with e | e
    ·subst e;exact absurd hm nd
    ·exact e
  rw [this]
def ptC (p:PicD) (i:Nat):List Int:=(List.range p.P.length).map fun k=>(p.P.getD k []).getD i 0
theorem ptC_len (p:PicD) (i:Nat):(ptC p i).length=p.P.length:=by simp [ptC]
theorem ptC_get (p:PicD) (i:Nat) {k:Nat} (hk:k<p.P.length):(ptC p i).getD k 0=(p.P.getD k []).getD i 0:=by
 unfold ptC
 rw [zD,zW,List.getElem?_range hk]
 rfl
def colsTo (p:PicD):Nat->List (List Int)
 | 0=>[]
 | i+1=>if ptC p i∈colsTo p i then colsTo p i else colsTo p i++[ptC p i]
theorem colsTo_le (p:PicD):∀ i,(colsTo p i).length<=(colsTo p (i+1)).length:=fun i=>by
 show _<=(if ptC p i∈colsTo p i then colsTo p i else colsTo p i++[ptC p i]).length
 split
 ·exact zQ _
 ·rw [zC];omega
theorem colsTo_mono (p:PicD) (i:Nat):∀ k,(colsTo p i).length<=(colsTo p (i+k)).length
 | 0=>zQ _
 | k+1=>Nat.le_trans (colsTo_mono p i k) (colsTo_le p (i+k))
theorem colsTo_mem (p:PicD):∀ i c,c∈colsTo p i ↔ ∃ k,k<i/\c=ptC p k
 | 0,c=>by simp [colsTo]
 | i+1,c=>by
  have ih:=colsTo_mem p i
  show c∈(if ptC p i∈colsTo p i then colsTo p i else colsTo p i++[ptC p i]) ↔ _
  split
  ·rename_i h
   rw [ih]
   constructor
   ·rintro ⟨k,hk,e⟩;exact ⟨k,by omega,e⟩
   ·rintro ⟨k,hk,e⟩
    by_cases hki:k=i
    ·subst hki
     rw [e]
     exact (ih _).1 h
    ·exact ⟨k,by omega,e⟩
  ·rw [zP,ih,zU]
   constructor
   ·rintro (⟨k,hk,e⟩ | e)
    ·exact ⟨k,by omega,e⟩
    ·exact ⟨i,by omega,e⟩
   ·rintro ⟨k,hk,e⟩
    by_cases hki:k=i
    ·subst hki;exact .inr e
    ·exact .inl ⟨k,by omega,e⟩
theorem colsTo_nodup (p:PicD):∀ i,(colsTo p i).Nodup
 | 0=>List.nodup_nil
 | i+1=>by
  have ih:=colsTo_nodup p i
  show (if ptC p i∈colsTo p i then colsTo p i else colsTo p i++[ptC p i]).Nodup
  split
  ·exact ih
  ·rename_i h
   rw [List.nodup_append]
   exact ⟨ih,by simp,fun a ha b hb e=>by
    simp at hb
    subst hb
    exact h (e ▸ ha)⟩
def palP (p:PicD):List (List Int):=(colsTo p (p.W*p.H)).mergeSort fun a b=>decide (cmpL a b<=0)
theorem palP_perm (p:PicD):(palP p).Perm (colsTo p (p.W*p.H)):=List.mergeSort_perm _ _
theorem palP_mem (p:PicD) (c:List Int):c∈palP p ↔ ∃ k,k<p.W*p.H/\c=ptC p k:=by rw [(palP_perm p).mem_iff,colsTo_mem]
theorem palP_len (p:PicD):(palP p).length=(colsTo p (p.W*p.H)).length:=(palP_perm p).length_eq
theorem asc_of_sorted {C:List (List Int)} (h:C.Pairwise fun a b=>cmpL a b<=0) (hn:C.Nodup):Asc C:=by
 unfold Asc
 rw [List.pairwise_iff_getElem] at h ⊢
 intro i j hi hj aa
 have h1:=h i j hi hj aa
 rcases Int.lt_or_eq_of_le h1 with h2 | h2
 ·exact h2
 ·exfalso
  have:=cmpL_eq _ _ h2
  have:=(List.getElem_inj hn).1 this
  omega
theorem palP_asc (p:PicD):Asc (palP p):=by
 refine asc_of_sorted ?_ ((palP_perm p).nodup_iff.2 (colsTo_nodup p _))
 have h:=List.pairwise_mergeSort (le:=fun a b:List Int=>decide (cmpL a b<=0))
  (fun a b c h1 h2=>by
   simp only [decide_eq_true_eq] at *
   have e1:=cmpL_neg a b
   have e2:=cmpL_neg b c
   have e3:=cmpL_neg a c
   have:=cmpL_le_trans c b a (by omega) (by omega)
   omega)
  (fun a b=>by
   have:=cmpL_neg a b
   simp only [Bool.or_eq_true,decide_eq_true_eq]
   omega) (colsTo p (p.W*p.H))
 exact h.imp fun {a b} hh=>by simpa using hh
theorem palP_of {p:PicD} {D:List (List Int)} (hp:D.Perm (colsTo p (p.W*p.H))) (hs:D.Pairwise fun a b=>¬ cmpL b a<0):D=palP p:=by
 refine asc_unique (asc_of_sorted (hs.imp fun {a b} h => ?_) (hp.nodup_iff.2 (colsTo_nodup p _))) (palP_asc p) fun c => ?_
 ·have:=cmpL_neg a b
  omega
 ·rw [hp.mem_iff,palP_mem,colsTo_mem]
structure PalOk (n d:Nat) (C:List (List Int)):Prop where
 d0:1<=d
 d1:d<=16
 n0:1<=n
 n1:n<=4
 c0:1<=C.length
 c1:C.length<=256
 len:∀ c∈C,c.length=n
 smp:∀ c∈C,SmpOk d c
 nd:C.Nodup
theorem ptC_smp {p:PicD} (h:p.Ok) (i:Nat):SmpOk p.d (ptC p i):=fun v hv=>by
 obtain ⟨k,_,rfl⟩:=List.mem_map.1 hv
 exact pt4_in h i k
theorem palP_ok {p:PicD} (h:p.Ok) (hm:(palP p).length<=256):PalOk p.P.length p.d (palP p) where
 d0:=h.d0
 d1:=h.d1
 n0:=h.n0
 n1:=h.n1
 c0:=by
  have:ptC p 0∈palP p:=(palP_mem p _).2 ⟨0,h.pos,rfl⟩
  exact List.length_pos_of_mem this
 c1:=hm
 len:=fun c hc=>by
  obtain ⟨k,_,rfl⟩:=(palP_mem p c).1 hc
  exact ptC_len p k
 smp:=fun c hc=>by
  obtain ⟨k,_,rfl⟩:=(palP_mem p c).1 hc
  exact ptC_smp h k
 nd:=(palP_asc p).nodup
def idxP (p:PicD):List Nat:=(List.range (p.W*p.H)).map fun i=>(palP p).idxOf (ptC p i)
theorem idxP_len (p:PicD):(idxP p).length=p.W*p.H:=by simp [idxP]
theorem idxP_lt (p:PicD):∀ x∈idxP p,x<(palP p).length:=fun x hx=>by
 obtain ⟨i,hi,rfl⟩:=List.mem_map.1 hx
 exact List.idxOf_lt_length_of_mem ((palP_mem p _).2 ⟨i,List.mem_range.1 hi,rfl⟩)
def pbits (n:Nat):Nat:=if n<=2 then 1 else if n<=4 then 2 else if n<=16 then 4 else 8
theorem pbits_ok {n:Nat} (h:n<=256):1<=pbits n/\pbits n<=16/\n<=2^pbits n:=by
 unfold pbits
 split
 ·exact ⟨by omega,by omega,by omega⟩
 ·split
  ·exact ⟨by omega,by omega,by omega⟩
  ·split
   ·exact ⟨by omega,by omega,by omega⟩
   ·exact ⟨by omega,by omega,by omega⟩
def idxPl (p:PicD):List Int:=(idxP p).map Int.ofNat
theorem idxPl_len (p:PicD):(idxPl p).length=p.W*p.H:=by unfold idxPl;rw [zE,idxP_len]
theorem idxPl_smp {p:PicD} (h:(palP p).length<=256):SmpOk (pbits (palP p).length) (idxPl p):=fun v hv=>by
 obtain ⟨x,hx,rfl⟩:=List.mem_map.1 hv
 have h1:=idxP_lt p x hx
 have h2:=(pbits_ok h).2.2
 refine ⟨Int.natCast_nonneg x,?_⟩
 have h3:x<2^pbits (palP p).length:=by omega
 have h4:((x:Nat):Int)<((2^pbits (palP p).length:Nat):Int):=by omega
 simpa using h4
end Go.Proofs.YtepjepkgcdfboaaGreatDoor
