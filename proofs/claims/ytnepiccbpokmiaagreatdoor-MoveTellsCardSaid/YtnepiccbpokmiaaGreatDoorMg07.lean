/- Lemmas. -/
import Derived.StillTail
import Derived.OrdersHeld
import Derived.Deep.RegionHeld
set_option linter.all false
namespace Go.Proofs.YtnepiccbpokmiaaGreatDoor
open List Nat
variable {a:Act}{listed:Array Bool}{f i id n:Nat}{o oi:Oper}{v:Value}{w:World}
section
variable {P:Program} {ops:Array Oper} {md:Region.Mode} {Q:Exit->Act->World->Prop} {S:World->Prop}
def tF(P:Program)(md:Region.Mode)(ops:Array Oper)(Q:Exit->Act->World->Prop)(S:World->Prop)(n:Nat)(L:Array Bool->Act->World->Prop):Nat->Array Bool->Act->World->Prop
 | 0,listed,a,w=>L listed a w
 | f+1,listed,a,w=>Region.ready md ops listed≠[]/\∀i∈Region.ready md ops listed,i<n/\wpOp P ops Q i (λa' w'=>S w'/\tF P md ops Q S n L f (listed.setIfInBounds i true) a' w') a w
theorem Ap{n g:Nat}{L:Array Bool->Act->World->Prop}(b:∀listed a w,S w->L listed a w->wpAny P md ops Q g listed a w):∀(f:Nat) (listed:Array Bool) (a:Act) (w:World),S w->tF P md ops Q S n L f listed a w->wpAny P md ops Q (f+g) listed a w
 | 0,listed,a,w,hS,h=>by rw[Nat.zero_add];exact b _ _ _ hS h
 | f+1,listed,a,w,hS,h=>by
  rw[show f+1+g=(f+g)+1 by omega];exact⟨λh0=>absurd h0 h.1,λi hi=>wpOp_mono (λa' w' h'=>Ap b f _ a' w' h'.1 h'.2) (h.2 i hi).2⟩
theorem H9{L:Array Bool->Act->World->Prop}(hi:ops[i]?=some oi)(g:∀(j:Nat) (o:Oper) cs b,ops[j]?=some o->o.op≠.select cs b)(C:Region.sinkB md ops n=true)(A:Region.chainB md ops n=true)(B:n<ops.size)(r:i<n)(I:∀c a w,Q (.panic c) (a.put oi.dst v) w->Q (.panic c) a w)(m:∀listed a w,L listed a w->∀j∈Region.ready md ops listed,n<=j):∀(f:Nat) (listed:Array Bool) (a:Act) (w:World),HeadInv md ops n listed -> (∀j p,ops[j]?=some p->j≠i->listed.getD j true=false->(∀e∈p.after,Region.binds md e=true->e.on≠i)->oi.apart ops p=true) -> i∈Region.ready md ops listed->YieldsIf P ops S oi v a->S w -> tF P md ops Q S n L f (listed.setIfInBounds i true) (a.put oi.dst v) w->tF P md ops Q S n L (f+1) listed a w:=by
 intro f
 induction f with
 | zero=>
  intro listed a w t _ d x q H;have l:=(mem_ready.1 d).1;refine⟨λh=>(by rw[h]at d;cases d),λj hj=>?_⟩;have s:j<n:=by
   rcases Nat.lt_or_ge j n with h|h
   .exact h
   .exact absurd hj (tail_waits C A B t _ i rfl r l j h)
  refine⟨s,?_⟩;by_cases hji:j=i
  .subst hji;exact x.wpOp hi q ⟨q,H⟩
  .have:=m _ _ _ H j (ready_mono hj hji)
   omega
 | succ f ih=>
  intro listed a w t z d x q H;have l:=(mem_ready.1 d).1;refine⟨λh=>(by rw[h]at d;cases d),λj hj=>?_⟩;have s:j<n:=by
   rcases Nat.lt_or_ge j n with h|h
   .exact h
   .exact absurd hj (tail_waits C A B t _ i rfl r l j h)
  refine⟨s,?_⟩;by_cases hji:j=i
  .subst hji;exact x.wpOp hi q ⟨q,H⟩
  .have u:=(H.2 j (ready_mono hj hji)).2
   obtain⟨ad,p,y,E⟩:=mem_ready.1 hj;have F:∀e∈p.after,Region.binds md e=true->e.on≠i:=λe he hb heq=>by
    have u:=E e he hb;rw[heq,getD_both l]at u;cases u
   have G:=wpOp_putIf y (z j p y hji ad F) (λcs b=>g i oi cs b hi) (λcs b=>g j p cs b y) I x u
   have D:∀k ok,ops[k]?=some ok->k≠i->(listed.setIfInBounds j true).getD k true=false ->
     (∀e∈ok.after,Region.binds md e=true->e.on≠i)->oi.apart ops ok=true:=λk ok hk hki l hno=>by
    refine z k ok hk hki ?_ hno;by_cases hjk:j=k
    .subst hjk;exact ad
    .rw[getD_set_ne true hjk]at l;exact l
   refine wpOp_mono (λa' w' h3=>⟨h3.2.1,ih (listed.setIfInBounds j true) a' w' (t.set hj s) D (ready_mono d (Ne.symm hji)) h3.1 h3.2.1 ?_⟩) G;rw[Array.setIfInBounds_comm _ _ hji];exact h3.2.2
def hH(P:Program)(md:Region.Mode)(ops:Array Oper)(Q:Exit->Act->World->Prop)(S:World->Prop)(n:Nat)(f:Nat)(listed:Array Bool)(a:Act)(w:World):Prop:=
 HeadInv md ops n listed->tF P md ops Q S n (λlisted a w=>Region.seqB md ops (ops.size-n) n listed=true/\wpList P ops Q (ops.toList.drop n) a w) f listed a w
theorem E7(b:(Region.noSelect ops&&Region.sinkB md ops n&&Region.chainB md ops n&&decide (n<ops.size))=true)(hi:ops[i]?=some oi)(d:i<n)(k:Region.free md ops listed i=true)(l:(Region.ready md ops listed).contains i=true)(g:∀c a w,Q (.panic c) (a.put oi.dst v) w->Q (.panic c) a w)(m:YieldsIf P ops S oi v a)(j:S w)(h:hH P md ops Q S n f (listed.setIfInBounds i true) (a.put oi.dst v) w):hH P md ops Q S n (f+1) listed a w:=λinv=>by
 simp only[Bool.and_eq_true,decide_eq_true_eq]at b;have e:i∈Region.ready md ops listed:=by simpa using l
 exact H9 hi (Region.noSelect_spec b.1.1.1) b.1.1.2 b.1.2 b.2 d g (λ_ _ _ hL=>seqB_ready hL.1) f listed a w inv (Region.free_spec hi k) e m j (h (inv.set e d))
theorem hT(b:((Region.noSelect ops&&Region.sinkB md ops n&&Region.chainB md ops n&&decide (n<ops.size))&&decide (i<n)&&Region.free md ops listed i&&(Region.ready md ops listed).contains i)=true)(hi:ops[i]?=some oi)(e:∀c a w,Q (.panic c) (a.put oi.dst v) w->Q (.panic c) a w)(d:Region.wanted oi (yielded ops a.tmps)=true)(g:S w)(j:∀w,S w->(execOp a.eval oi).run P w=.ok (.value v) w)(h:hH P md ops Q S n f (listed.setIfInBounds i true) (a.put oi.dst v) w):hH P md ops Q S n (f+1) listed a w:=by
 rw[Bool.and_eq_true,Bool.and_eq_true,Bool.and_eq_true]at b;exact E7 b.1.1.1 hi (of_decide_eq_true b.1.1.2) b.1.2 b.2 e (.inl ⟨d,j⟩) g h
theorem zq(e:ops[i]?=some o)(b:i<n)(c:Region.ready md ops listed=[i])(h:∀K':Act->World->Prop,Shut (∀a w,S w->hH P md ops Q S n f (listed.setIfInBounds i true) a w->K' a w)->if Region.wanted o (yielded ops a.tmps)=true then Oper.wp P o a w K' Q else K' (a.put o.dst undef) w):hH P md ops Q S n (f+1) listed a w:=λinv=>by
 refine⟨by rw[c];simp,λj hj=>?_⟩;rw[c]at hj;obtain rfl:j=i:=by simpa using hj
 have d:j∈Region.ready md ops listed:=by rw[c];simp
 exact⟨b,wpOp_step e λK' hK=>h K' λa w hS hH=>hK a w ⟨hS,hH (inv.set d b)⟩⟩
theorem E6(b:Region.seqB md ops (ops.size-n) n listed=true)(h:wpList P ops Q (ops.toList.drop n) a w):hH P md ops Q S n 0 listed a w:=λ_=>⟨b,h⟩
theorem Gc(n:Nat)(k:P.follows .mixedOrders=true)(l:n<ops.size)(e:S w.drew)(h:hH P .any ops Q S n n (Array.replicate ops.size false) a w.drew):(Code.region id ops true).wp P Q a w:=by
 have c:HeadInv .any ops n (Array.replicate ops.size false) :=
  ⟨by simp,λj oj _ hl=>(by rw[getD_replicate_false]at hl;cases hl),λt _ ht=>getD_in (by simpa using ht) (getD_replicate_false _ _)⟩
 refine wp_region_any k ?_;have b:=Ap (P:=P) (md:=.any) (ops:=ops) (Q:=Q) (S:=S) (n:=n) (g:=ops.size-n) (λlisted a' w' hw' hL=>by
  have:=wpAny_of_seq (Q':=Q) (md:=.any) (ops:=ops) (ops.toList.drop n) n listed a' w' (λj=>by simp) (by simpa using hL.1) hL.2
  simpa using this) n _ a w.drew e (h c)
 have d:n+(ops.size-n)=ops.size:=by omega
 rw[d]at b;exact b
end
section
variable {P:Program} {ops:Array Oper} {md:Region.Mode} {Q:Exit->Act->World->Prop} {S:World->Prop}
def hK(P:Program)(md:Region.Mode)(ops:Array Oper)(Q:Exit->Act->World->Prop)(S:World->Prop)(n _i f:Nat)(listed:Array Bool)(a:Act)(w:World):Prop:=
 (Region.noSelect ops&&Region.sinkB md ops n&&Region.chainB md ops n&&decide (n<ops.size))=true->hH P md ops Q S n f listed a w
theorem hU(b:(decide (i<n)&&Region.free md ops listed i&&(Region.ready md ops listed).contains i)=true)(hi:ops[i]?=some oi)(e:∀c a w,Q (.panic c) (a.put oi.dst v) w->Q (.panic c) a w)(d:Region.wanted oi (yielded ops a.tmps)=true)(g:S w)(j:∀w,S w->(execOp a.eval oi).run P w=.ok (.value v) w)(h:hK P md ops Q S n (i+1) f (listed.setIfInBounds i true) (a.put oi.dst v) w):hK P md ops Q S n i (f+1) listed a w:=λhs=>by
 rw[Bool.and_eq_true,Bool.and_eq_true]at b;exact E7 hs hi (of_decide_eq_true b.1.1) b.1.2 b.2 e (.inl ⟨d,j⟩) g (h hs)
theorem nX(c:ops[i]?=some o)(b:i<n)(d:Region.ready md ops listed=[i])(h:∀K':Act->World->Prop,Shut (∀a w,S w->hK P md ops Q S n (i+1) f (listed.setIfInBounds i true) a w->K' a w)->if Region.wanted o (yielded ops a.tmps)=true then Oper.wp P o a w K' Q else K' (a.put o.dst undef) w):hK P md ops Q S n i (f+1) listed a w:=λhs=>zq c b d λK' hK'=>h K' (λa w hS hh=>Shut.out hK' a w hS (hh hs))
theorem NC(b:Region.seqB md ops (ops.size-n) n listed=true)(h:wpList P ops Q (ops.toList.drop n) a w):hK P md ops Q S n i 0 listed a w:=λ_=>E6 b h
theorem Ah(n:Nat)(d:P.follows .mixedOrders=true)(b:(Region.noSelect ops&&Region.sinkB .any ops n&&Region.chainB .any ops n&&decide (n<ops.size))=true)(c:S w.drew)(h:hK P .any ops Q S n 0 n (Array.replicate ops.size false) a w.drew):(Code.region id ops true).wp P Q a w:=
 Gc n d (by simp only[Bool.and_eq_true,decide_eq_true_eq]at b;exact b.2) c (h b)
end
end Go.Proofs.YtnepiccbpokmiaaGreatDoor
