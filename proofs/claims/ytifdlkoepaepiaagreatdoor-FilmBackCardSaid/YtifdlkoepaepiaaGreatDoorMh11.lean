/- Lemmas. -/
import Derived.Test.YtifdlkoepaepiaaGreatDoorMh08
import Derived.Sort.Statements
set_option linter.all false
namespace Go.Proofs.YtifdlkoepaepiaaGreatDoor
open List Nat Go.Sort
variable {C:List (List Int)}
def iT:List Int->List Int->Int
 | [],[]=>0
 | [],_::_=>-1
 | _::_,[]=>1
 | a::as,b::bs=>if a<b then -1 else if b<a then 1 else iT as bs
theorem uk:∀a,iT a a=0
 | []=>rfl
 | x::a=>by simp[iT,uk a]
theorem Bj:∀a b,iT a b=0->a=b
 | [],[],_=>rfl
 | [],_::_,h=>by simp[iT]at h
 | _::_,[],h=>by simp[iT]at h
 | x::a,y::b,h=>by
  unfold iT at h;split at h
  .omega
  .split at h
   .omega
   .have:=Bj a b h
    have e:x=y:=(by omega);rw[e,this]
theorem qA:∀a b,iT b a=-iT a b
 | [],[]=>rfl
 | [],_::_=>rfl
 | _::_,[]=>rfl
 | x::a,y::b=>by
  unfold iT
  have:=qA a b
  by_cases h1:x<y
  .rw[if_neg (show ¬y<x by omega),if_pos h1,if_pos h1];omega
  .by_cases h2:y<x
   .rw[if_pos h2,if_neg h1,if_pos h2]
   .rw[if_neg h2,if_neg h1,if_neg h1,if_neg h2,this]
theorem zc:∀a b c,iT a b<0->iT b c<0->iT a c<0
 | [],[],_,h,_=>by simp[iT]at h
 | [],_::_,[],_,h=>by simp[iT]at h
 | [],_::_,_::_,_,_=>by simp[iT]
 | _::_,[],_,h,_=>by simp[iT]at h
 | _::_,_::_,[],_,h=>by simp[iT]at h
 | x::a,y::b,z::c,h1,h2=>by
  have d:=zc a b c;unfold iT at h1 h2⊢;by_cases a1:x<y
  .by_cases a2:y<z
   .rw[if_pos (by omega)];omega
   .rw[if_neg a2]at h2
    split at h2
    .omega
    .rw[if_pos (by omega)];omega
  .rw[if_neg a1]at h1
   split at h1
   .omega
   .by_cases a2:y<z
    .rw[if_pos (by omega)];omega
    .rw[if_neg a2]at h2
     split at h2
     .omega
     .rw[if_neg (by omega),if_neg (by omega)]
      exact d h1 h2
theorem Cj(a b c:List Int)(g:¬iT a b<0)(e:¬iT b c<0):¬iT a c<0:=by
 intro h;have f:=qA a b;have e2:=qA b c;rcases Int.lt_or_eq_of_le (show 0<=iT a b by omega)with d|d
 .have:=zc b a c (by omega) h
  omega
 .have:=Bj a b d.symm
  subst this;exact e h
theorem OJ(E:Nat->List Int):SWO (λi j:Nat=>decide (iT (E i) (E j)<0)) where
 irrefl x:=by simp[uk]
 trans x y z h1 h2:=by
  simp only[decide_eq_true_eq]at *
  exact zc _ _ _ h1 h2
 ntrans x y z h1 h2:=by
  simp only[decide_eq_false_iff_not]at *
  exact Cj _ _ _ h1 h2
def rI(C:List (List Int)):Prop:=C.Pairwise λa b=>iT a b<0
theorem rI.nodup(h:rI C):C.Nodup:=h.imp fun {a b} hab e=>by
 subst e;rw[uk]at hab;omega
theorem Dv:∀ {C D:List (List Int)},rI C->rI D->(∀c,c∈C ↔ c∈D)->C=D
 | [],[],_,_,_=>rfl
 | [],d::D,_,_,h=>by have := (h d).2 (by simp);simp at this
 | c::C,[],_,_,h=>by have := (h c).1 (by simp);simp at this
 | c::C,d::D,hc,hd,h=>by
  obtain⟨c1,c2⟩:=List.pairwise_cons.1 hc;obtain⟨i,j⟩:=List.pairwise_cons.1 hd;have e:c=d:=by
   rcases zJ.1 ((h c).1 (by simp))with b|b
   .exact b
   .rcases zJ.1 ((h d).2 (by simp))with f|f
    .exact f.symm
    .have m:=i c b
     have n:=c1 d f
     have:=qA c d
     omega
  subst e;have k:c∉C:=λa=>by have:=c1 c a;rw[uk]at this;omega
  have l:c∉D:=λa=>by have:=i c a;rw[uk]at this;omega
  have:=Dv (C:=C) (D:=D) c2 j λx=>by
   have g:=h x;simp only[zJ]at g;constructor
   .intro a
    rcases g.1 (.inr a)with e|e
    .subst e;exact absurd a k
    .exact e
   .intro a
    rcases g.2 (.inr a)with e|e
    .subst e;exact absurd a l
    .exact e
  rw[this]
def iJ(p:qc)(i:Nat):List Int:=(range p.P.length).map λk=>(p.P.getD k []).getD i 0
theorem oY(p:qc)(i:Nat):(iJ p i).length=p.P.length:=by simp[iJ]
theorem GD(p:qc)(i:Nat){k:Nat}(a:k<p.P.length):(iJ p i).getD k 0=(p.P.getD k []).getD i 0:=by
 unfold iJ;rw[zD,zW,getElem?_range a];rfl
def iH(p:qc):Nat->List (List Int)
 | 0=>[]
 | i+1=>if iJ p i∈iH p i then iH p i else iH p i++[iJ p i]
theorem Ma(p:qc):∀i,(iH p i).length<=(iH p (i+1)).length:=λi=>by
 show _<=(if iJ p i∈iH p i then iH p i else iH p i++[iJ p i]).length;split
 .exact zQ _
 .rw[zC];omega
theorem CW(p:qc)(i:Nat):∀k,(iH p i).length<=(iH p (i+k)).length
 | 0=>zQ _
 | k+1=>Nat.le_trans (CW p i k) (Ma p (i+k))
theorem uc(p:qc):∀i c,c∈iH p i ↔ ∃k,k<i/\c=iJ p k
 | 0,c=>by simp[iH]
 | i+1,c=>by
  have b:=uc p i;show c∈(if iJ p i∈iH p i then iH p i else iH p i++[iJ p i]) ↔ _;split
  .rename_i h
   rw[b];constructor
   .rintro⟨k,a,e⟩;exact⟨k,by omega,e⟩
   .rintro⟨k,a,e⟩
    by_cases hki:k=i
    .subst hki
     rw[e];exact(b _).1 h
    .exact⟨k,by omega,e⟩
  .rw[zP,b,zU]
   constructor
   .rintro(⟨k,a,e⟩|e)
    .exact⟨k,by omega,e⟩
    .exact⟨i,by omega,e⟩
   .rintro⟨k,a,e⟩
    by_cases hki:k=i
    .subst hki;exact .inr e
    .exact .inl ⟨k,by omega,e⟩
theorem yF(p:qc):∀i,(iH p i).Nodup
 | 0=>nodup_nil
 | i+1=>by
  have c:=yF p i;show(if iJ p i∈iH p i then iH p i else iH p i++[iJ p i]).Nodup;split
  .exact c
  .rename_i h
   rw[nodup_append];exact⟨c,by simp,λa ha b hb e=>by
    simp at hb;subst hb;exact h (e ▸ ha)⟩
def ic(p:qc):List (List Int):=(iH p (p.W*p.H)).mergeSort λa b=>decide (iT a b<=0)
theorem Au(p:qc):(ic p).Perm (iH p (p.W*p.H)):=mergeSort_perm _ _
theorem qB(p:qc)(c:List Int):c∈ic p ↔ ∃k,k<p.W*p.H/\c=iJ p k:=by rw[(Au p).mem_iff,uc]
theorem Oq(p:qc):(ic p).length=(iH p (p.W*p.H)).length:=(Au p).length_eq
theorem Ch(h:C.Pairwise λa b=>iT a b<=0)(k:C.Nodup):rI C:=by
 unfold rI;rw[pairwise_iff_getElem]at h⊢;intro i j f g d;have e:=h i j f g d;rcases Int.lt_or_eq_of_le e with c|c
 .exact c
 .exfalso
  have:=Bj _ _ c
  have:=(getElem_inj k).1 this
  omega
theorem FE(p:qc):rI (ic p):=by
 refine Ch ?_ ((Au p).nodup_iff.2 (yF p _));have h:=pairwise_mergeSort (le:=λa b:List Int=>decide (iT a b<=0))
  (λa b c h1 h2=>by
   simp only[decide_eq_true_eq]at *;have d:=qA a b;have e2:=qA b c;have e3:=qA a c
   have:=Cj c b a (by omega) (by omega)
   omega)
  (λa b=>by
   have:=qA a b
   simp only[Bool.or_eq_true,decide_eq_true_eq];omega) (iH p (p.W*p.H))
 exact h.imp fun {a b} hh=>by simpa using hh
theorem Pc{p:qc}{D:List (List Int)}(d:D.Perm (iH p (p.W*p.H)))(e:D.Pairwise λa b=>¬iT b a<0):D=ic p:=by
 refine Dv (Ch (e.imp fun {a b} h=>?_) (d.nodup_iff.2 (yF p _))) (FE p) λc=>?_
 .have:=qA a b
  omega
 .rw[d.mem_iff,qB,uc]
structure uS (n d:Nat) (C:List (List Int)):Prop where
 d0:1<=d
 d1:d<=16
 n0:1<=n
 n1:n<=4
 c0:1<=C.length
 c1:C.length<=256
 len:∀c∈C,c.length=n
 smp:∀c∈C,ie d c
 nd:C.Nodup
theorem Bu{p:qc}(h:p.Ok)(i:Nat):ie p.d (iJ p i):=λv hv=>by
 obtain⟨k,_,rfl⟩:=List.mem_map.1 hv;exact l7 h i k
theorem uO{p:qc}(h:p.Ok)(a:(ic p).length<=256):uS p.P.length p.d (ic p) where
 d0:=h.d0
 d1:=h.d1
 n0:=h.n0
 n1:=h.n1
 c0:=by
  have:iJ p 0∈ic p:=(qB p _).2 ⟨0,h.pos,rfl⟩
  exact length_pos_of_mem this
 c1:=a
 len:=λc hc=>by
  obtain⟨k,_,rfl⟩:=(qB p c).1 hc
  exact oY p k
 smp:=λc hc=>by
  obtain⟨k,_,rfl⟩:=(qB p c).1 hc
  exact Bu h k
 nd:=(FE p).nodup
def u9(p:qc):List Nat:=(range (p.W*p.H)).map λi=>(ic p).idxOf (iJ p i)
theorem NW(p:qc):(u9 p).length=p.W*p.H:=by simp[u9]
theorem OX(p:qc):∀x∈u9 p,x<(ic p).length:=λx hx=>by
 obtain⟨i,a,rfl⟩:=List.mem_map.1 hx;exact idxOf_lt_length_of_mem ((qB p _).2 ⟨i,List.mem_range.1 a,rfl⟩)
def kA(n:Nat):Nat:=if n<=2 then 1 else if n<=4 then 2 else if n<=16 then 4 else 8
theorem rS{n:Nat}(h:n<=256):1<=kA n/\kA n<=16/\n<=2^kA n:=by
 unfold kA;split
 .exact⟨by omega,by omega,by omega⟩
 .split
  .exact⟨by omega,by omega,by omega⟩
  .split
   .exact⟨by omega,by omega,by omega⟩
   .exact⟨by omega,by omega,by omega⟩
def jc(p:qc):List Int:=(u9 p).map Int.ofNat
theorem ud(p:qc):(jc p).length=p.W*p.H:=by unfold jc;rw[zE,NW]
theorem Eu{p:qc}(h:(ic p).length<=256):ie (kA (ic p).length) (jc p):=λv hv=>by
 obtain⟨x,b,rfl⟩:=List.mem_map.1 hv;have c:=OX p x b;have d:=(rS h).2.2;refine⟨Int.natCast_nonneg x,?_⟩;have e:x<2^kA (ic p).length:=by omega
 have a:((x:Nat):Int)<((2^kA (ic p).length:Nat):Int):=by omega
 simpa using a
end Go.Proofs.YtifdlkoepaepiaaGreatDoor
