/- Lemmas. -/
import Derived.StillTail
import Derived.OrdersHeld
import Derived.Deep.RegionHeld
set_option linter.all false
namespace Go.Proofs.YtifdlkoepaepiaaGreatDoor
open List Nat
variable {a:Act}{listed:Array Bool}{f i id n:Nat}{o oi:Oper}{v:Value}{w:World}
section
variable {P:Program} {ops:Array Oper} {md:Region.Mode} {Q:Exit->Act->World->Prop} {S:World->Prop}
def vt(P:Program)(md:Region.Mode)(ops:Array Oper)(Q:Exit->Act->World->Prop)(S:World->Prop)(n:Nat)(L:Array Bool->Act->World->Prop):Nat->Array Bool->Act->World->Prop
 | 0,listed,a,w=>L listed a w
 | f+1,listed,a,w=>Region.ready md ops listed≠[]/\∀i∈Region.ready md ops listed,i<n/\wpOp P ops Q i (λa' w'=>S w'/\vt P md ops Q S n L f (listed.setIfInBounds i true) a' w') a w
theorem Hs{n g:Nat}{L:Array Bool->Act->World->Prop}(b:∀listed a w,S w->L listed a w->wpAny P md ops Q g listed a w):∀(f:Nat) (listed:Array Bool) (a:Act) (w:World),S w->vt P md ops Q S n L f listed a w->wpAny P md ops Q (f+g) listed a w
 | 0,listed,a,w,hS,h=>by rw[Nat.zero_add];exact b _ _ _ hS h
 | f+1,listed,a,w,hS,h=>by
  rw[show f+1+g=(f+g)+1 by omega];exact⟨λh0=>absurd h0 h.1,λi hi=>wpOp_mono (λa' w' h'=>Hs b f _ a' w' h'.1 h'.2) (h.2 i hi).2⟩
theorem P5{L:Array Bool->Act->World->Prop}(z:ops[i]?=some oi)(g:∀(j:Nat) (o:Oper) cs b,ops[j]?=some o->o.op≠.select cs b)(D:Region.sinkB md ops n=true)(B:Region.chainB md ops n=true)(C:n<ops.size)(r:i<n)(J:∀c a w,Q (.panic c) (a.put oi.dst v) w->Q (.panic c) a w)(m:∀listed a w,L listed a w->∀j∈Region.ready md ops listed,n<=j):∀(f:Nat) (listed:Array Bool) (a:Act) (w:World),HeadInv md ops n listed -> (∀j p,ops[j]?=some p->j≠i->listed.getD j true=false->(∀e∈p.after,Region.binds md e=true->e.on≠i)->oi.apart ops p=true) -> i∈Region.ready md ops listed->YieldsIf P ops S oi v a->S w -> vt P md ops Q S n L f (listed.setIfInBounds i true) (a.put oi.dst v) w->vt P md ops Q S n L (f+1) listed a w:=by
 intro f
 induction f with
 | zero=>
  intro listed a w t _ d x q H;have l:=(mem_ready.1 d).1;refine⟨λh=>(by rw[h]at d;cases d),λj hj=>?_⟩;have s:j<n:=by
   rcases Nat.lt_or_ge j n with h|h
   .exact h
   .exact absurd hj (tail_waits D B C t _ i rfl r l j h)
  refine⟨s,?_⟩;by_cases hji:j=i
  .subst hji;exact x.wpOp z q ⟨q,H⟩
  .have:=m _ _ _ H j (ready_mono hj hji)
   omega
 | succ f ih=>
  intro listed a w t A d x q H;have l:=(mem_ready.1 d).1;refine⟨λh=>(by rw[h]at d;cases d),λj hj=>?_⟩;have s:j<n:=by
   rcases Nat.lt_or_ge j n with h|h
   .exact h
   .exact absurd hj (tail_waits D B C t _ i rfl r l j h)
  refine⟨s,?_⟩;by_cases hji:j=i
  .subst hji;exact x.wpOp z q ⟨q,H⟩
  .have u:=(H.2 j (ready_mono hj hji)).2
   obtain⟨ad,p,y,F⟩:=mem_ready.1 hj;have G:∀e∈p.after,Region.binds md e=true->e.on≠i:=λe he hb heq=>by
    have u:=F e he hb;rw[heq,getD_both l]at u;cases u
   have I:=wpOp_putIf y (A j p y hji ad G) (λcs b=>g i oi cs b z) (λcs b=>g j p cs b y) J x u
   have E:∀k ok,ops[k]?=some ok->k≠i->(listed.setIfInBounds j true).getD k true=false ->
     (∀e∈ok.after,Region.binds md e=true->e.on≠i)->oi.apart ops ok=true:=λk ok hk hki l hno=>by
    refine A k ok hk hki ?_ hno;by_cases hjk:j=k
    .subst hjk;exact ad
    .rw[getD_set_ne true hjk]at l;exact l
   refine wpOp_mono (λa' w' h3=>⟨h3.2.1,ih (listed.setIfInBounds j true) a' w' (t.set hj s) E (ready_mono d (Ne.symm hji)) h3.1 h3.2.1 ?_⟩) I;rw[Array.setIfInBounds_comm _ _ hji];exact h3.2.2
def hH(P:Program)(md:Region.Mode)(ops:Array Oper)(Q:Exit->Act->World->Prop)(S:World->Prop)(n:Nat)(f:Nat)(listed:Array Bool)(a:Act)(w:World):Prop:=
 HeadInv md ops n listed->vt P md ops Q S n (λlisted a w=>Region.seqB md ops (ops.size-n) n listed=true/\wpList P ops Q (ops.toList.drop n) a w) f listed a w
theorem Hv(b:(Region.noSelect ops&&Region.sinkB md ops n&&Region.chainB md ops n&&decide (n<ops.size))=true)(g:ops[i]?=some oi)(d:i<n)(l:Region.free md ops listed i=true)(m:(Region.ready md ops listed).contains i=true)(j:∀c a w,Q (.panic c) (a.put oi.dst v) w->Q (.panic c) a w)(p:YieldsIf P ops S oi v a)(k:S w)(h:hH P md ops Q S n f (listed.setIfInBounds i true) (a.put oi.dst v) w):hH P md ops Q S n (f+1) listed a w:=λinv=>by
 simp only[Bool.and_eq_true,decide_eq_true_eq]at b;have e:i∈Region.ready md ops listed:=by simpa using m
 exact P5 g (Region.noSelect_spec b.1.1.1) b.1.1.2 b.1.2 b.2 d j (λ_ _ _ hL=>seqB_ready hL.1) f listed a w inv (Region.free_spec g l) e p k (h (inv.set e d))
theorem hT(b:((Region.noSelect ops&&Region.sinkB md ops n&&Region.chainB md ops n&&decide (n<ops.size))&&decide (i<n)&&Region.free md ops listed i&&(Region.ready md ops listed).contains i)=true)(j:ops[i]?=some oi)(e:∀c a w,Q (.panic c) (a.put oi.dst v) w->Q (.panic c) a w)(d:Region.wanted oi (yielded ops a.tmps)=true)(g:S w)(k:∀w,S w->(execOp a.eval oi).run P w=.ok (.value v) w)(h:hH P md ops Q S n f (listed.setIfInBounds i true) (a.put oi.dst v) w):hH P md ops Q S n (f+1) listed a w:=by
 rw[Bool.and_eq_true,Bool.and_eq_true,Bool.and_eq_true]at b;exact Hv b.1.1.1 j (of_decide_eq_true b.1.1.2) b.1.2 b.2 e (.inl ⟨d,k⟩) g h
theorem BO(e:ops[i]?=some o)(b:i<n)(c:Region.ready md ops listed=[i])(h:∀K':Act->World->Prop,Shut (∀a w,S w->hH P md ops Q S n f (listed.setIfInBounds i true) a w->K' a w)->if Region.wanted o (yielded ops a.tmps)=true then Oper.wp P o a w K' Q else K' (a.put o.dst undef) w):hH P md ops Q S n (f+1) listed a w:=λinv=>by
 refine⟨by rw[c];simp,λj hj=>?_⟩;rw[c]at hj;obtain rfl:j=i:=by simpa using hj
 have d:j∈Region.ready md ops listed:=by rw[c];simp
 exact⟨b,wpOp_step e λK' hK=>h K' λa w hS hH=>hK a w ⟨hS,hH (inv.set d b)⟩⟩
theorem Hu(b:Region.seqB md ops (ops.size-n) n listed=true)(h:wpList P ops Q (ops.toList.drop n) a w):hH P md ops Q S n 0 listed a w:=λ_=>⟨b,h⟩
theorem P3(n:Nat)(k:P.follows .mixedOrders=true)(l:n<ops.size)(e:S w.drew)(h:hH P .any ops Q S n n (Array.replicate ops.size false) a w.drew):(Code.region id ops true).wp P Q a w:=by
 have c:HeadInv .any ops n (Array.replicate ops.size false) :=
  ⟨by simp,λj oj _ hl=>(by rw[getD_replicate_false]at hl;cases hl),λt _ ht=>getD_in (by simpa using ht) (getD_replicate_false _ _)⟩
 refine wp_region_any k ?_;have b:=Hs (P:=P) (md:=.any) (ops:=ops) (Q:=Q) (S:=S) (n:=n) (g:=ops.size-n) (λlisted a' w' hw' hL=>by
  have:=wpAny_of_seq (Q':=Q) (md:=.any) (ops:=ops) (ops.toList.drop n) n listed a' w' (λj=>by simp) (by simpa using hL.1) hL.2
  simpa using this) n _ a w.drew e (h c)
 have d:n+(ops.size-n)=ops.size:=by omega
 rw[d]at b;exact b
end
section
variable {P:Program} {ops:Array Oper} {md:Region.Mode} {Q:Exit->Act->World->Prop} {S:World->Prop}
def hK(P:Program)(md:Region.Mode)(ops:Array Oper)(Q:Exit->Act->World->Prop)(S:World->Prop)(n _i f:Nat)(listed:Array Bool)(a:Act)(w:World):Prop:=
 (Region.noSelect ops&&Region.sinkB md ops n&&Region.chainB md ops n&&decide (n<ops.size))=true->hH P md ops Q S n f listed a w
theorem Rl(j:Nat)(h:hK P md ops Q S n j f listed a w):hK P md ops Q S n i f listed a w:=h
theorem hU(b:(decide (i<n)&&Region.free md ops listed i&&(Region.ready md ops listed).contains i)=true)(j:ops[i]?=some oi)(e:∀c a w,Q (.panic c) (a.put oi.dst v) w->Q (.panic c) a w)(d:Region.wanted oi (yielded ops a.tmps)=true)(g:S w)(k:∀w,S w->(execOp a.eval oi).run P w=.ok (.value v) w)(h:hK P md ops Q S n (i+1) f (listed.setIfInBounds i true) (a.put oi.dst v) w):hK P md ops Q S n i (f+1) listed a w:=λhs=>by
 rw[Bool.and_eq_true,Bool.and_eq_true]at b;exact Hv hs j (of_decide_eq_true b.1.1) b.1.2 b.2 e (.inl ⟨d,k⟩) g (h hs)
theorem vG(c:ops[i]?=some o)(b:i<n)(d:Region.ready md ops listed=[i])(h:∀K':Act->World->Prop,Shut (∀a w,S w->hK P md ops Q S n (i+1) f (listed.setIfInBounds i true) a w->K' a w)->if Region.wanted o (yielded ops a.tmps)=true then Oper.wp P o a w K' Q else K' (a.put o.dst undef) w):hK P md ops Q S n i (f+1) listed a w:=λhs=>BO c b d λK' hK'=>h K' (λa w hS hh=>Shut.out hK' a w hS (hh hs))
theorem Q8(b:Region.seqB md ops (ops.size-n) n listed=true)(h:wpList P ops Q (ops.toList.drop n) a w):hK P md ops Q S n i 0 listed a w:=λ_=>Hu b h
theorem IP(n:Nat)(d:P.follows .mixedOrders=true)(b:(Region.noSelect ops&&Region.sinkB .any ops n&&Region.chainB .any ops n&&decide (n<ops.size))=true)(c:S w.drew)(h:hK P .any ops Q S n 0 n (Array.replicate ops.size false) a w.drew):(Code.region id ops true).wp P Q a w:=
 P3 n d (by simp only[Bool.and_eq_true,decide_eq_true_eq]at b;exact b.2) c (h b)
end
end Go.Proofs.YtifdlkoepaepiaaGreatDoor
