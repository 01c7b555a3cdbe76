/- Lemmas. -/
import Derived.StillTail
import Derived.Deep.QuietTactic
import Derived.BigQuiet
set_option linter.all false
namespace Go.Proofs.YtnepiccbpokmiaaGreatDoor
open List Nat
section
variable {P:Program} {ops:Array Oper} {md:Region.Mode} {C:World->Prop}
def ti(P:Program)(md:Region.Mode)(ops:Array Oper)(C:World->Prop)(n:Nat)(L:Array Bool->Act->Prop):Nat->Array Bool->Act->Prop
 | 0,listed,a=>L listed a
 | f+1,listed,a=>
  Region.ready md ops listed≠[]/\∀i∈Region.ready md ops listed,i<n/\qOp P ops C i (ti P md ops C n L f (listed.setIfInBounds i true)) a
theorem Ae{n g:Nat}{L:Array Bool->Act->Prop}{Q':Exit->Act->World->Prop}(b:∀listed a w,C w->L listed a->wpAny P md ops Q' g listed a w):∀(f:Nat) (listed:Array Bool) (a:Act) (w:World),C w->ti P md ops C n L f listed a->wpAny P md ops Q' (f+g) listed a w
 | 0,listed,a,w,hw,h=>by rw[Nat.zero_add];exact b _ _ _ hw h
 | f+1,listed,a,w,hw,h=>by
  rw[show f+1+g=(f+g)+1 by omega];exact⟨λh0=>absurd h0 h.1,λi hi=>wpOp_of_qOp hw (λa' w' hw' h'=>Ae b f _ a' w' hw' h') (h.2 i hi).2⟩
theorem Gr{n i:Nat}{q:Oper}{v:Value}{L:Array Bool->Act->Prop}(hi:ops[i]?=some q)(g:∀(j:Nat) (o:Oper) cs b,ops[j]?=some o->o.op≠.select cs b)(B:Region.sinkB md ops n=true)(z:Region.chainB md ops n=true)(A:n<ops.size)(r:i<n)(m:∀c a,L c a->∀j∈Region.ready md ops c,n<=j):∀(f:Nat) (c:Array Bool) (a:Act),HeadInv md ops n c -> (∀j p,ops[j]?=some p->j≠i->c.getD j true=false->(∀e∈p.after,Region.binds md e=true->e.on≠i)->q.apart ops p=true) -> i∈Region.ready md ops c->YieldsIn P ops C q v a -> ti P md ops C n L f (c.setIfInBounds i true) (a.put q.dst v)->ti P md ops C n L (f+1) c a:=by
 intro f
 induction f with
 | zero=>
  intro c a t _ d w H;have l:=(mem_ready.1 d).1;refine⟨λh=>(by rw[h]at d;cases d),λj hj=>?_⟩;have s:j<n:=by
   rcases Nat.lt_or_ge j n with h|h
   .exact h
   .exact absurd hj (tail_waits B z A t _ i rfl r l j h)
  refine⟨s,?_⟩;by_cases hji:j=i
  .subst hji;exact w.qOp hi H
  .have:=m _ _ H j (ready_mono hj hji)
   omega
 | succ f ih=>
  intro c a t y d w H;have l:=(mem_ready.1 d).1;refine⟨λh=>(by rw[h]at d;cases d),λj hj=>?_⟩;have s:j<n:=by
   rcases Nat.lt_or_ge j n with h|h
   .exact h
   .exact absurd hj (tail_waits B z A t _ i rfl r l j h)
  refine⟨s,?_⟩;by_cases hji:j=i
  .subst hji;exact w.qOp hi H
  .have u:=(H.2 j (ready_mono hj hji)).2
   obtain⟨ad,p,x,E⟩:=mem_ready.1 hj;have F:∀e∈p.after,Region.binds md e=true->e.on≠i:=λe he hb heq=>by
    have u:=E e he hb;rw[heq,getD_both l]at u;cases u
   have G:=qOp_put x (y j p x hji ad F) (λcs b=>g i q cs b hi) (λcs b=>g j p cs b x) w u
   have D:∀k ok,ops[k]?=some ok->k≠i->(c.setIfInBounds j true).getD k true=false ->
     (∀e∈ok.after,Region.binds md e=true->e.on≠i)->q.apart ops ok=true:=λk ok hk hki l hno=>by
    refine y k ok hk hki ?_ hno;by_cases hjk:j=k
    .subst hjk;exact ad
    .rw[getD_set_ne true hjk]at l;exact l
   refine qOp_mono (λa' h3=>ih (c.setIfInBounds j true) a' (t.set hj s) D (ready_mono d (Ne.symm hji)) h3.1 ?_) G;rw[Array.setIfInBounds_comm _ _ hji];exact h3.2
theorem Bj{n g:Nat}{e:Act->Prop}(c:Region.noSelect ops=true)(r:Region.sinkB md ops n=true)(p:Region.chainB md ops n=true)(q:n<ops.size):∀(l:List Oper) (k:Nat) (listed:Array Bool) (a:Act),(∀j,j<l.length->l[j]?=ops[k+j]?)->k+l.length=n->HeadInv md ops n listed -> Region.lexHead md ops g l.length k listed=true->wpQuiet P ops C e l a -> ti P md ops C n (λb f=>Region.seqB md ops g n b=true/\e f) l.length listed a
 | [],k,listed,a,_,hk,_,hB,h=>by
  have:k=n:=by simpa using hk
  subst this;exact⟨by simpa[Region.lexHead]using hB,h⟩
 | o::l,k,listed,a,hl,hk,inv,hB,h=>by
  have d:ops[k]?=some o:=by simpa using(hl 0 (by simp)).symm
  simp only[length_cons,Region.lexHead,Bool.and_eq_true]at hB;obtain⟨⟨u,t⟩,s⟩:=hB;have i:k<n:=by simp only[length_cons]at hk;omega
  have m:k∈Region.ready md ops listed:=by simpa using u
  have ad:qOp P ops C k (wpQuiet P ops C e l) a:=by unfold qOp;simp only[d];exact h
  obtain⟨v,w,hK⟩:=yieldsIn_of_qOp d ad;exact Gr d (Region.noSelect_spec c) r p q i (λb f hL=>seqB_ready hL.1) l.length listed a inv (Region.free_spec d t) m w
   (Bj c r p q l (k+1) _ _ (λj hj=>by have:=hl (j+1) (by simp;omega);simpa[Nat.add_assoc,Nat.add_comm 1 j]using this) (by simp only[length_cons]at hk;omega) (inv.set m i) s hK)
theorem jE{id:Nat}{Q:Exit->Act->World->Prop}{a:Act}{w:World}{l:List Oper}(n:Nat)(q:P.follows .mixedOrders=true)(e:Region.lexTailB .any l.toArray n=true)(h:wpQuiet P l.toArray (λw'=>∃n,w'=w.drewN n) (λa'=>∀w',(∃n,w'=w.drewN n)->wpList P l.toArray Q (l.drop n) a' w') (l.take n) a):(Code.region id l.toArray true).wp P Q a w:=by
 simp only[Region.lexTailB,Bool.and_eq_true,decide_eq_true_eq]at e;obtain⟨⟨⟨⟨k,f⟩,r⟩,p⟩,i⟩:=e;have s:n<l.length:=by simpa using f
 have b:(l.take n).length=n:=by simp;omega
 have c:(l.drop n).length=l.toArray.size-n:=by simp
 have ad:HeadInv .any l.toArray n (Array.replicate l.toArray.size false) :=
  ⟨by simp,λj oj _ hl=>(by rw[getD_replicate_false]at hl;cases hl),λt _ ht=>getD_in (by simpa using ht) (getD_replicate_false _ _)⟩
 refine wp_region_any q ?_;have o:=Bj (P:=P) (C:=λw'=>∃n,w'=w.drewN n) (md:=.any) (g:=l.toArray.size-n) k r p f (l.take n) 0 _ a (λj hj=>by
  rw[b]at hj;rw[getElem?_take,if_pos hj];simp) (by omega) ad (by rw[b];exact i) h
 have d:=Ae (Q':=Q) (g:=l.toArray.size-n) (λlisted a' w' hw' hL=>by
  have:=wpAny_of_seq (Q':=Q) (md:=.any) (l.drop n) n listed a' w' (λj=>by simp) (by rw[c];exact hL.1) (hL.2 w' hw')
  rw[c]at this;exact this) _ _ _ { w with drawn:=w.drawn+1 } ⟨1,rfl⟩ o
 have m:(l.take n).length+(l.toArray.size-n)=l.toArray.size:=by rw[b];simp;omega
 rw[m]at d;exact d
end
end Go.Proofs.YtnepiccbpokmiaaGreatDoor
