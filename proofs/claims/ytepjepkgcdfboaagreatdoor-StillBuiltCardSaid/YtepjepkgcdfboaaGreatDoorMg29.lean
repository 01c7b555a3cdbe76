/- Palettes, plain Lean: colours in their order, the colours of a picture, the indexes, and the picture again. No program. -/
import Derived.Test.YtepjepkgcdfboaaGreatDoorMg01
import Derived.Sort.Statements
set_option linter.unusedVariables false
set_option linter.unusedSimpArgs false
namespace Go.Proofs.YtepjepkgcdfboaaGreatDoor
open Go.Sort
def a8i:List Int->List Int->Int
 | [],[]=>0
 | [],_::_ => -1
 | _::_,[]=>1
 | a::as,b::bs=>if a<b then -1 else if b<a then 1 else a8i as bs
theorem b1i:∀ a,a8i a a=0
 | []=>rfl
 | x::a=>by simp [a8i,b1i a]
theorem d2z:∀ a b,a8i a b=0->a=b
 | [],[],_=>rfl
 | [],_::_,h=>by simp [a8i] at h
 | _::_,[],h=>by simp [a8i] at h
 | x::a,y::b,h=>by
  unfold a8i at h
  split at h
  ·omega
  ·split at h
   ·omega
   ·have:=d2z a b h
    have e:x=y:=by omega
    rw [e,this]
theorem a7g:∀ a b,a8i b a=-a8i a b
 | [],[]=>rfl
 | [],_::_=>rfl
 | _::_,[]=>rfl
 | x::a,y::b=>by
  unfold a8i
  have:=a7g a b
  by_cases h1:x<y
  ·rw [if_neg (show ¬ y<x by omega),if_pos h1,if_pos h1];omega
  ·by_cases h2:y<x
   ·rw [if_pos h2,if_neg h1,if_pos h2]
   ·rw [if_neg h2,if_neg h1,if_neg h1,if_neg h2,this]
theorem b6q:∀ a b c,a8i a b<0->a8i b c<0->a8i a c<0
 | [],[],_,h,_=>by simp [a8i] at h
 | [],_::_,[],_,h=>by simp [a8i] at h
 | [],_::_,_::_,_,_=>by simp [a8i]
 | _::_,[],_,h,_=>by simp [a8i] at h
 | _::_,_::_,[],_,h=>by simp [a8i] at h
 | x::a,y::b,z::c,h1,h2=>by
  have ih:=b6q a b c
  unfold a8i at h1 h2 ⊢
  by_cases a1:x<y
  ·by_cases a2:y<z
   ·rw [if_pos (by omega)];omega
   ·rw [if_neg a2] at h2
    split at h2
    ·omega
    ·rw [if_pos (by omega)];omega
  ·rw [if_neg a1] at h1
   split at h1
   ·omega
   ·by_cases a2:y<z
    ·rw [if_pos (by omega)];omega
    ·rw [if_neg a2] at h2
     split at h2
     ·omega
     ·rw [if_neg (by omega),if_neg (by omega)]
      exact ih h1 h2
theorem b4y (a b c:List Int) (h1:¬ a8i a b<0) (h2:¬ a8i b c<0):¬ a8i a c<0:=by
 intro h
 have e1:=a7g a b
 have e2:=a7g b c
 rcases Int.lt_or_eq_of_le (show 0<=a8i a b by omega) with h3 | h3
 ·have:=b6q b a c (by omega) h
  omega
 ·have:=d2z a b h3.symm
  subst this
  exact h2 h
theorem f0b (E:Nat->List Int):SWO (fun i j:Nat=>decide (a8i (E i) (E j)<0)) where
 irrefl x:=by simp [b1i]
 trans x y z h1 h2:=by
  simp only [decide_eq_true_eq] at *
  exact b6q _ _ _ h1 h2
 ntrans x y z h1 h2:=by
  simp only [decide_eq_false_iff_not] at *
  exact b4y _ _ _ h1 h2
def Asc (C:List (List Int)):Prop:=C.Pairwise fun a b=>a8i a b<0
theorem Asc.nodup {C:List (List Int)} (h:Asc C):C.Nodup:=h.imp fun {a b} hab e=>by
 subst e
 rw [b1i] at hab
 omega
theorem c4r:∀ {C D:List (List Int)},Asc C->Asc D->(∀ c,c∈C ↔ c∈D)->C=D
 | [],[],_,_,_=>rfl
 | [],d::D,_,_,h=>by have := (h d).2 (by simp);simp at this
 | c::C,[],_,_,h=>by have := (h c).1 (by simp);simp at this
 | c::C,d::D,hc,hd,h=>by
  obtain ⟨c1,c2⟩:=List.pairwise_cons.1 hc
  obtain ⟨d1,d2⟩:=List.pairwise_cons.1 hd
  have e:c=d:=by
   rcases zJ.1 ((h c).1 (by simp)) with h1 | h1
   ·exact h1
   ·rcases zJ.1 ((h d).2 (by simp)) with h2 | h2
    ·exact h2.symm
    ·have a1:=d1 c h1
     have a2:=c1 d h2
     have:=a7g c d
     omega
  subst e
  have nc:c∉C:=fun hm=>by have:=c1 c hm;rw [b1i] at this;omega
  have nd:c∉D:=fun hm=>by have:=d1 c hm;rw [b1i] at this;omega
  have:=c4r (C:=C) (D:=D) c2 d2 fun x=>by
   have hx:=h x
   simp only [zJ] at hx
   constructor
   ·intro hm
    rcases hx.1 (.inr hm) with e | e
    ·subst e;exact absurd hm nc
    ·exact e
   ·intro hm
    rcases hx.2 (.inr hm) with e | e
    ·subst e;exact absurd hm nd
    ·exact e
  rw [this]
def ptC (p:a2a) (i:Nat):List Int:=(List.range p.P.length).map fun k=>(p.P.getD k []).getD i 0
theorem a8d (p:a2a) (i:Nat):(ptC p i).length=p.P.length:=by simp [ptC]
theorem e4w (p:a2a) (i:Nat) {k:Nat} (hk:k<p.P.length):(ptC p i).getD k 0=(p.P.getD k []).getD i 0:=by
 unfold ptC
 rw [zD,zW,List.getElem?_range hk]
 rfl
def a0z (p:a2a):Nat->List (List Int)
 | 0=>[]
 | i+1=>if ptC p i∈a0z p i then a0z p i else a0z p i++[ptC p i]
theorem e1q (p:a2a):∀ i,(a0z p i).length<=(a0z p (i+1)).length:=fun i=>by
 show _<=(if ptC p i∈a0z p i then a0z p i else a0z p i++[ptC p i]).length
 split
 ·exact zQ _
 ·rw [zC];omega
theorem c0m (p:a2a) (i:Nat):∀ k,(a0z p i).length<=(a0z p (i+k)).length
 | 0=>zQ _
 | k+1=>Nat.le_trans (c0m p i k) (e1q p (i+k))
theorem a9l (p:a2a):∀ i c,c∈a0z p i ↔ ∃ k,k<i/\c=ptC p k
 | 0,c=>by simp [a0z]
 | i+1,c=>by
  have ih:=a9l p i
  show c∈(if ptC p i∈a0z p i then a0z p i else a0z p i++[ptC p i]) ↔ _
  split
  ·rename_i h
   rw [ih]
   constructor
   ·rintro ⟨k,hk,e⟩;exact ⟨k,by omega,e⟩
   ·rintro ⟨k,hk,e⟩
    by_cases hki:k=i
    ·subst hki
     rw [e]
     exact (ih _).1 h
    ·exact ⟨k,by omega,e⟩
  ·rw [zP,ih,zU]
   constructor
   ·rintro (⟨k,hk,e⟩ | e)
    ·exact ⟨k,by omega,e⟩
    ·exact ⟨i,by omega,e⟩
   ·rintro ⟨k,hk,e⟩
    by_cases hki:k=i
    ·subst hki;exact .inr e
    ·exact .inl ⟨k,by omega,e⟩
theorem b1m (p:a2a):∀ i,(a0z p i).Nodup
 | 0=>List.nodup_nil
 | i+1=>by
  have ih:=b1m p i
  show (if ptC p i∈a0z p i then a0z p i else a0z p i++[ptC p i]).Nodup
  split
  ·exact ih
  ·rename_i h
   rw [List.nodup_append]
   exact ⟨ih,by simp,fun a ha b hb e=>by
    simp at hb
    subst hb
    exact h (e ▸ ha)⟩
def a2y (p:a2a):List (List Int):=(a0z p (p.W*p.H)).mergeSort fun a b=>decide (a8i a b<=0)
theorem c2c (p:a2a):(a2y p).Perm (a0z p (p.W*p.H)):=List.mergeSort_perm _ _
theorem a7h (p:a2a) (c:List Int):c∈a2y p ↔ ∃ k,k<p.W*p.H/\c=ptC p k:=by rw [(c2c p).mem_iff,a9l]
theorem e9h (p:a2a):(a2y p).length=(a0z p (p.W*p.H)).length:=(c2c p).length_eq
theorem b4u {C:List (List Int)} (h:C.Pairwise fun a b=>a8i a b<=0) (hn:C.Nodup):Asc C:=by
 unfold Asc
 rw [List.pairwise_iff_getElem] at h ⊢
 intro i j hi hj aa
 have h1:=h i j hi hj aa
 rcases Int.lt_or_eq_of_le h1 with h2 | h2
 ·exact h2
 ·exfalso
  have:=d2z _ _ h2
  have:=(List.getElem_inj hn).1 this
  omega
theorem d7b (p:a2a):Asc (a2y p):=by
 refine b4u ?_ ((c2c p).nodup_iff.2 (b1m p _))
 have h:=List.pairwise_mergeSort (le:=fun a b:List Int=>decide (a8i a b<=0))
  (fun a b c h1 h2=>by
   simp only [decide_eq_true_eq] at *
   have e1:=a7g a b
   have e2:=a7g b c
   have e3:=a7g a c
   have:=b4y c b a (by omega) (by omega)
   omega)
  (fun a b=>by
   have:=a7g a b
   simp only [Bool.or_eq_true,decide_eq_true_eq]
   omega) (a0z p (p.W*p.H))
 exact h.imp fun {a b} hh=>by simpa using hh
theorem f2d {p:a2a} {D:List (List Int)} (hp:D.Perm (a0z p (p.W*p.H))) (hs:D.Pairwise fun a b=>¬ a8i b a<0):D=a2y p:=by
 refine c4r (b4u (hs.imp fun {a b} h => ?_) (hp.nodup_iff.2 (b1m p _))) (d7b p) fun c => ?_
 ·have:=a7g a b
  omega
 ·rw [hp.mem_iff,a7h,a9l]
structure e1e (n d:Nat) (C:List (List Int)):Prop where
 d0:1<=d
 d1:d<=16
 n0:1<=n
 n1:n<=4
 c0:1<=C.length
 c1:C.length<=256
 len:∀ c∈C,c.length=n
 smp:∀ c∈C,a1u d c
 nd:C.Nodup
theorem d4e {p:a2a} (h:p.Ok) (i:Nat):a1u p.d (ptC p i):=fun v hv=>by
 obtain ⟨k,_,rfl⟩:=List.mem_map.1 hv
 exact a6a h i k
theorem c2b {p:a2a} (h:p.Ok) (hm:(a2y p).length<=256):e1e p.P.length p.d (a2y p) where
 d0:=h.d0
 d1:=h.d1
 n0:=h.n0
 n1:=h.n1
 c0:=by
  have:ptC p 0∈a2y p:=(a7h p _).2 ⟨0,h.pos,rfl⟩
  exact List.length_pos_of_mem this
 c1:=hm
 len:=fun c hc=>by
  obtain ⟨k,_,rfl⟩:=(a7h p c).1 hc
  exact a8d p k
 smp:=fun c hc=>by
  obtain ⟨k,_,rfl⟩:=(a7h p c).1 hc
  exact d4e h k
 nd:=(d7b p).nodup
def f3q (p:a2a):List Nat:=(List.range (p.W*p.H)).map fun i=>(a2y p).idxOf (ptC p i)
theorem e8c (p:a2a):(f3q p).length=p.W*p.H:=by simp [f3q]
theorem f1n (p:a2a):∀ x∈f3q p,x<(a2y p).length:=fun x hx=>by
 obtain ⟨i,hi,rfl⟩:=List.mem_map.1 hx
 exact List.idxOf_lt_length_of_mem ((a7h p _).2 ⟨i,List.mem_range.1 hi,rfl⟩)
def a7i (n:Nat):Nat:=if n<=2 then 1 else if n<=4 then 2 else if n<=16 then 4 else 8
theorem b0o {n:Nat} (h:n<=256):1<=a7i n/\a7i n<=16/\n<=2^a7i n:=by
 unfold a7i
 split
 ·exact ⟨by omega,by omega,by omega⟩
 ·split
  ·exact ⟨by omega,by omega,by omega⟩
  ·split
   ·exact ⟨by omega,by omega,by omega⟩
   ·exact ⟨by omega,by omega,by omega⟩
def a3q (p:a2a):List Int:=(f3q p).map Int.ofNat
theorem a9r (p:a2a):(a3q p).length=p.W*p.H:=by unfold a3q;rw [zE,e8c]
theorem d0q {p:a2a} (h:(a2y p).length<=256):a1u (a7i (a2y p).length) (a3q p):=fun v hv=>by
 obtain ⟨x,hx,rfl⟩:=List.mem_map.1 hv
 have h1:=f1n p x hx
 have h2:=(b0o h).2.2
 refine ⟨Int.natCast_nonneg x,?_⟩
 have h3:x<2^a7i (a2y p).length:=by omega
 have h4:((x:Nat):Int)<((2^a7i (a2y p).length:Nat):Int):=by omega
 simpa using h4
end Go.Proofs.YtepjepkgcdfboaaGreatDoor
