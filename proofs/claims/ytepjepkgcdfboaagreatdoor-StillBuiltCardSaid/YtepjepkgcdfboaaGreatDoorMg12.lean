/- Package merge, plain Lean: the chosen elements of the last row give each coin a length, and these lengths fill a code. No program. -/
set_option linter.unusedVariables false
set_option linter.unusedSimpArgs false
namespace Go.Proofs.YtepjepkgcdfboaaGreatDoor
inductive El
 | coin (s w:Nat)
 | pack (a b:El)
instance:Inhabited El:=⟨.coin 0 0⟩
def El.wt:El->Nat
 | .coin _ w=>w
 | .pack a b=>a.wt+b.wt
def El.occ (s:Nat):El->Nat
 | .coin t _=>if t=s then 1 else 0
 | .pack a b=>a.occ s+b.occ s
def El.isCoin (s:Nat):El->Bool
 | .coin t _=>t==s
 | .pack _ _=>false
def El.parts:El->List El
 | .coin _ _=>[]
 | .pack a b=>[a,b]
def a1o:List El->List El
 | a::b::l => .pack a b::a1o l
 | _=>[]
def a6f (s:Nat) (l:List El):Nat:=(l.map (El.occ s)).sum
def a0m (s:Nat) (l:List El):Nat:=l.countP (El.isCoin s)
def a1t (l:List El):List El:=l.flatMap El.parts
theorem c1y:∀ l:List El,(a1o l).length=l.length / 2
 | []=>rfl
 | [_]=>by simp [a1o]
 | a::b::l=>by
  have:=c1y l
  simp only [a1o,List.length_cons,this]
  omega
theorem b4f (s:Nat) (a b:List El):a6f s (a++b)=a6f s a+a6f s b:=by simp [a6f]
theorem c1v (s:Nat) (l:List El):a6f s l=a0m s l+a6f s (a1t l):=by
 induction l with
 | nil=>rfl
 | cons e l ih =>
  have e1:a6f s (e::l)=e.occ s+a6f s l:=by simp [a6f]
  have e2:a1t (e::l)=e.parts++a1t l:=rfl
  rw [e1,e2,b4f,ih]
  cases e with
  | coin t w =>
   have h1:a0m s (El.coin t w::l)=a0m s l+(if t=s then 1 else 0):=by
    unfold a0m
    rw [List.countP_cons]
    simp [El.isCoin]
   rw [h1]
   simp only [El.parts,El.occ,a6f,List.map_nil,List.sum_nil]
   omega
  | pack a b =>
   have h1:a0m s (El.pack a b::l)=a0m s l:=by
    unfold a0m
    rw [List.countP_cons]
    simp [El.isCoin]
   rw [h1]
   simp only [El.parts,El.occ,a6f,List.map_cons,List.map_nil,List.sum_cons,List.sum_nil]
   omega
def a5b (n:Nat) (l:List El):Nat:=((List.range n).map fun s=>a0m s l).sum
theorem b1k (s:Nat) (e:El) (l:List El):a0m s (e::l)=a0m s l+(if e.isCoin s then 1 else 0):=by
 unfold a0m
 rw [List.countP_cons]
theorem c2x {α:Type} (l:List α) (f g:α->Nat):(l.map fun x=>f x+g x).sum=(l.map f).sum+(l.map g).sum:=by
 induction l with
 | nil=>rfl
 | cons a l ih=>simp only [List.map_cons,List.sum_cons,ih];omega
theorem b6d {α:Type} (l:List α) (f:α->Nat) (h:∀ x∈l,f x=0):(l.map f).sum=0:=by
 induction l with
 | nil=>rfl
 | cons a l ih=>simp only [List.map_cons,List.sum_cons];rw [h a (by simp),ih fun x hx=>h x (by simp [hx])]
theorem f2v (n t:Nat) (h:t<n):((List.range n).map fun s=>if t==s then 1 else 0).sum=1:=by
 induction n with
 | zero=>omega
 | succ n ih =>
  rw [List.range_succ,List.map_append,List.sum_append]
  simp only [List.map_cons,List.map_nil,List.sum_cons,List.sum_nil]
  by_cases h1:t=n
  ·subst h1
   rw [b6d]
   ·simp
   ·intro x hx
    have:=List.mem_range.1 hx
    have:¬ t=x:=by omega
    simp [this]
  ·rw [ih (by omega)]
   simp [h1]
def f3l (n:Nat) (l:List El):Prop:=∀ e∈l,match e with | .coin t _=>t<n | .pack _ _=>True
theorem b3x (n:Nat) (l:List El) (h:f3l n l):2*l.length=2*a5b n l+(a1t l).length:=by
 induction l with
 | nil =>
  have:a5b n []=0:=by
   unfold a5b
   exact b6d _ _ fun x _=>rfl
  simp [this,a1t]
 | cons e l ih =>
  have ih:=ih fun x hx=>h x (by simp [hx])
  have e2:a1t (e::l)=e.parts++a1t l:=rfl
  have e1:a5b n (e::l)=a5b n l+((List.range n).map fun s=>if e.isCoin s then 1 else 0).sum:=by
   unfold a5b
   rw [<-c2x]
   congr 1
   apply List.map_congr_left
   intro s _
   exact b1k s e l
  rw [e1,e2,List.length_append,List.length_cons]
  cases e with
  | coin t w =>
   have h1:t<n:=h (.coin t w) (by simp)
   have h2:=f2v n t h1
   have h3:((List.range n).map fun s=>if (El.coin t w).isCoin s then 1 else 0).sum=1:=h2
   rw [h3]
   simp only [El.parts,List.length_nil]
   omega
  | pack a b =>
   rw [b6d]
   ·simp only [El.parts,List.length_cons,List.length_nil];omega
   ·intro x _;rfl
def b1c (j m:Nat):Nat:=2^(j+1)-2^(j+1-m)
theorem b7q (j:Nat):b1c j 0=0:=by simp [b1c]
theorem e0v {j m:Nat} (h:m<=j):b1c (j+1) (m+1)=2^(j+1)+b1c j m:=by
 unfold b1c
 have e:j+1+1-(m+1)=j+1-m:=by omega
 have h1:2^(j+1-m)<=2^(j+1):=Nat.pow_le_pow_right (by decide) (by omega)
 have h2:2^(j+1+1)=2*2^(j+1):=by rw [Nat.pow_succ,Nat.mul_comm]
 rw [e,h2]
 omega
inductive b7s (n:Nat):Nat->List El->Prop
 | nil:b7s n 0 []
 | step {j:Nat} {S:List El} (hs:f3l n S) (h1:∀ s,a0m s S<=1) (h2:∀ s,0<a0m s (a1t S)->0<a0m s S) (h:b7s n j (a1t S)):b7s n (j+1) S
theorem b7s.occ_le {n j:Nat} {S:List El} (h:b7s n j S) (s:Nat):a6f s S<=j/\(0<a6f s S->0<a0m s S):=by
 induction h with
 | nil=>exact ⟨Nat.le_refl _,fun h=>by simp [a6f] at h⟩
 | step hs h1 h2 h ih =>
  rename_i j S
  rw [c1v]
  have:=h1 s
  refine ⟨by omega,fun h3 => ?_⟩
  by_cases h4:0<a6f s (a1t S)
  ·exact h2 s (ih.2 h4)
  ·omega
theorem b7s.sum {n j:Nat} {S:List El} (h:b7s n j S):2^j*S.length=((List.range n).map fun s=>b1c j (a6f s S)).sum\/j=0:=by
 induction h with
 | nil=>exact .inr rfl
 | step hs h1 h2 h ih =>
  rename_i j S
  left
  have hc:=b3x n S hs
  have aa:((List.range n).map fun s=>b1c (j+1) (a6f s S)).sum=2^(j+1)*a5b n S+((List.range n).map fun s=>b1c j (a6f s (a1t S))).sum:=by
   have e:∀ l:List Nat,(l.map fun s=>b1c (j+1) (a6f s S)).sum=2^(j+1)*(l.map fun s=>a0m s S).sum+(l.map fun s=>b1c j (a6f s (a1t S))).sum:=by
    intro l
    induction l with
    | nil=>rfl
    | cons s l il =>
     simp only [List.map_cons,List.sum_cons]
     rw [il,Nat.mul_add]
     have ho:=h.occ_le s
     have:b1c (j+1) (a6f s S)=2^(j+1)*a0m s S+b1c j (a6f s (a1t S)):=by
      rw [c1v]
      have ab:=h1 s
      rcases Nat.eq_zero_or_pos (a0m s S) with h0 | h0
      ·have h5:a6f s (a1t S)=0:=by
        rcases Nat.eq_zero_or_pos (a6f s (a1t S)) with h6 | h6
        ·exact h6
        ·have:=h2 s (ho.2 h6);omega
       rw [h0,h5,b7q,b7q];rfl
      ·obtain h6:a0m s S=1:=by omega
       rw [h6,Nat.add_comm 1,e0v ho.1];omega
     omega
   exact e _
  rw [aa]
  rcases ih with ih | ih
  ·rw [<-ih]
   have e3:2^(j+1)*S.length=2^j*(2*S.length):=by rw [Nat.pow_succ,Nat.mul_assoc]
   have e4:2^(j+1)*a5b n S=2^j*(2*a5b n S):=by rw [Nat.pow_succ,Nat.mul_assoc]
   rw [e3,e4,hc,Nat.mul_add]
  ·subst ih
   have hu:a1t S=[]:=by
    generalize hU:a1t S=U at h
    cases h
    rfl
   rw [hu] at hc ⊢
   have hz:((List.range n).map fun s=>b1c 0 (a6f s [])).sum=0:=b6d _ _ fun s _=>by
    show b1c 0 0=0
    rfl
   rw [hz]
   simp only [List.length_nil] at hc
   have:S.length=a5b n S:=by omega
   rw [this]
   rfl
inductive Rows (C:List El):Nat->List El->Prop
 | one {R:List El} (hp:R.Perm C) (hs:R.Pairwise fun a b=>a.wt<=b.wt):Rows C 1 R
 | next {j:Nat} {R R':List El} (h:Rows C j R) (hp:R'.Perm (C++a1o R)) (hs:R'.Pairwise fun a b=>a.wt<=b.wt):Rows C (j+1) R'
structure c6a (n:Nat) (C:List El):Prop where
 coin:∀ e∈C,∃ s w,e=.coin s w/\s<n/\0<w
 once:∀ s,a0m s C<=1
theorem b1l {s:Nat} {a b:List El} (h:a.Perm b):a0m s a=a0m s b:=h.countP_eq _
theorem a4u (s:Nat) (a b:List El):a0m s (a++b)=a0m s a+a0m s b:=by simp [a0m]
theorem b0h (s:Nat):∀ l:List El,a0m s (a1o l)=0
 | []=>rfl
 | [_]=>by simp [a1o,a0m]
 | a::b::l=>by
  rw [a1o,b1k,b0h s l]
  rfl
theorem a3n {s:Nat} {l:List El}:0<a0m s l ↔ ∃ w,El.coin s w∈l:=by
 unfold a0m
 rw [List.countP_pos_iff]
 constructor
 ·rintro ⟨e,he,h⟩
  cases e with
  | coin t w =>
   simp only [El.isCoin,beq_iff_eq] at h
   subst h
   exact ⟨w,he⟩
  | pack a b=>cases h
 ·rintro ⟨w,h⟩
  exact ⟨_,h,by simp [El.isCoin]⟩
theorem b6i (a b:List El):a1t (a++b)=a1t a++a1t b:=by simp [a1t]
theorem b2k {n:Nat} {C:List El} (h:c6a n C):a1t C=[]:=by
 unfold a1t
 rw [List.flatMap_eq_nil_iff]
 intro e he
 obtain ⟨s,w,rfl,_⟩:=h.coin e he
 rfl
theorem a6x:∀ l:List El,∃ r,a1t (a1o l)++r=l/\r.length<=1
 | []=>⟨[],rfl,by simp⟩
 | [a]=>⟨[a],rfl,by simp⟩
 | a::b::l=>by
  obtain ⟨r,h1,h2⟩:=a6x l
  refine ⟨r,?_,h2⟩
  have e:a1t (a1o (a::b::l))=a::b::a1t (a1o l):=rfl
  rw [e,List.cons_append,List.cons_append,h1]
theorem Rows.coins {n:Nat} {C:List El} (hC:c6a n C) {j:Nat} {R:List El} (h:Rows C j R):(∀ s,a0m s R=a0m s C)/\(∀ e∈R,0<e.wt)/\f3l n R/\R.Pairwise fun a b=>a.wt<=b.wt:=by
 induction h with
 | one hp hs =>
  refine ⟨fun s=>b1l hp,fun e he => ?_,fun e he => ?_,hs⟩
  ·obtain ⟨s,w,rfl,_,h⟩:=hC.coin e (hp.mem_iff.1 he)
   exact h
  ·obtain ⟨s,w,rfl,h,_⟩:=hC.coin e (hp.mem_iff.1 he)
   exact h
 | next h hp hs ih =>
  rename_i j R R'
  obtain ⟨h1,h2,h3,h4⟩:=ih
  have aa:∀ l:List El,(∀ e∈l,0<e.wt)->∀ e∈a1o l,0<e.wt/\∃ a b,e=.pack a b:=by
   intro l
   induction l using a1o.induct with
   | case1 a b l il =>
    intro hl e he
    rw [a1o] at he
    rcases List.mem_cons.1 he with rfl | he
    ·have:=hl a (by simp)
     exact ⟨by show 0<a.wt+b.wt;omega,a,b,rfl⟩
    ·exact il (fun e h=>hl e (by simp [h])) e he
   | case2 l hl =>
    intro _ e he
    cases l with
    | nil=>simp [a1o] at he
    | cons a l =>
     cases l with
     | nil=>simp [a1o] at he
     | cons b l=>exact absurd rfl (hl a b l)
  refine ⟨fun s => ?_,fun e he => ?_,fun e he => ?_,hs⟩
  ·rw [b1l hp,a4u,b0h];rfl
  ·rcases List.mem_append.1 (hp.mem_iff.1 he) with h5 | h5
   ·obtain ⟨s,w,rfl,_,h⟩:=hC.coin e h5
    exact h
   ·exact (aa R h2 e h5).1
  ·rcases List.mem_append.1 (hp.mem_iff.1 he) with h5 | h5
   ·obtain ⟨s,w,rfl,h,_⟩:=hC.coin e h5
    exact h
   ·obtain ⟨_,a,b,rfl⟩:=aa R h2 e h5
    trivial
structure e6q (R S:List El):Prop where
 part:∃ T,(S++T).Perm R
 down:∀ x∈R,∀ y∈S,x.wt<y.wt->x∈S
theorem f2c {x y:El}:∀ {R:List El},R.Pairwise (fun a b=>a.wt<=b.wt)->x∈R->x.wt<y.wt->∀ a b,El.pack a b∈a1o R->(y=a\/y=b) ->
  ∃ c d,El.pack c d∈a1o R/\(x=c\/x=d)/\((El.pack c d).wt<(El.pack a b).wt\/El.pack c d=El.pack a b):=by
 intro R
 induction R using a1o.induct with
 | case1 p q l il =>
  intro hs hx af a b aa hy
  have ae:=List.pairwise_cons.1 hs
  have ag:=List.pairwise_cons.1 ae.2
  rw [a1o] at aa ⊢
  have ac:∀ z∈l,q.wt<=z.wt:=ag.1
  have ak:p.wt<=q.wt:=ae.1 q (by simp)
  have ah:∀ c d,El.pack c d∈a1o l->c∈l/\d∈l:=by
   intro c d h
   have:∀ l:List El,El.pack c d∈a1o l->c∈l/\d∈l:=by
    intro l
    induction l using a1o.induct with
    | case1 p q l il =>
     intro h
     rw [a1o] at h
     rcases List.mem_cons.1 h with h | h
     ·injection h with h1 h2
      subst h1;subst h2
      simp
     ·have:=il h;simp [this]
    | case2 l hl =>
     intro h
     cases l with
     | nil=>simp [a1o] at h
     | cons a l =>
      cases l with
      | nil=>simp [a1o] at h
      | cons b l=>exact absurd rfl (hl a b l)
   exact this l h
  have ad:x=p\/x=q\/x∈l:=by simpa using hx
  rcases List.mem_cons.1 aa with aa | aa
  ·injection aa with h1 h2
   subst h1;subst h2
   rcases ad with h | h | h
   ·exact ⟨a,b,by simp,.inl h,.inr rfl⟩
   ·exact ⟨a,b,by simp,.inr h,.inr rfl⟩
   ·have:=ac x h
    rcases hy with rfl | rfl<;>omega
  ·obtain ⟨ha,hb⟩:=ah a b aa
   have aj:=ac a ha
   have ai:=ac b hb
   have ab:(x=p\/x=q)->∃ c d,El.pack c d∈El.pack p q::a1o l/\(x=c\/x=d)/\((El.pack c d).wt<(El.pack a b).wt\/El.pack c d=El.pack a b):=fun h=>by
    refine ⟨p,q,by simp,h,.inl ?_⟩
    show p.wt+q.wt<a.wt+b.wt
    rcases h with rfl | rfl<;>rcases hy with rfl | rfl<;>omega
   rcases ad with h | h | h
   ·exact ab (.inl h)
   ·exact ab (.inr h)
   ·obtain ⟨c,d,h1,h2,h3⟩:=il ag.2 h af a b aa hy
    exact ⟨c,d,by simp [h1],h2,h3⟩
 | case2 l hl =>
  intro hs hx af a b aa hy
  cases l with
  | nil=>simp at hx
  | cons p l =>
   cases l with
   | nil=>simp [a1o] at aa
   | cons q l=>exact absurd rfl (hl p q l)
theorem a5g {e:El} {l:List El}:e∈a1t l ↔ ∃ a b,El.pack a b∈l/\(e=a\/e=b):=by
 unfold a1t
 rw [List.mem_flatMap]
 constructor
 ·rintro ⟨p,hp,he⟩
  cases p with
  | coin t w=>simp [El.parts] at he
  | pack a b =>
   simp [El.parts] at he
   exact ⟨a,b,hp,he⟩
 ·rintro ⟨a,b,hp,he⟩
  exact ⟨_,hp,by simpa [El.parts] using he⟩
theorem e6q.below {n:Nat} {C R R' S:List El} {j:Nat} (hC:c6a n C) (hR:Rows C j R) (hp:R'.Perm (C++a1o R)) (h:e6q R' S):e6q R (a1t S):=by
 obtain ⟨aj,ah,ai,ae⟩:=hR.coins hC
 refine ⟨?_,?_⟩
 ·obtain ⟨T,hT⟩:=h.part
  obtain ⟨r,hr,_⟩:=a6x R
  refine ⟨a1t T++r,?_⟩
  have h1:(a1t (S++T)).Perm (a1t (C++a1o R)):=(hT.trans hp).flatMap_right _
  rw [b6i,b6i,b2k hC,List.nil_append] at h1
  have h2:=h1.append_right r
  rw [hr,List.append_assoc] at h2
  exact h2
 ·intro x hx y hy ag
  obtain ⟨a,b,ab,aa⟩:=a5g.1 hy
  have ac:El.pack a b∈R':=by
   obtain ⟨T,hT⟩:=h.part
   exact hT.mem_iff.1 (by simp [ab])
  have ad:El.pack a b∈a1o R:=by
   rcases List.mem_append.1 (hp.mem_iff.1 ac) with h5 | h5
   ·obtain ⟨s,w,h6,_⟩:=hC.coin _ h5
    cases h6
   ·exact h5
  obtain ⟨c,d,h1,h2,h3⟩:=f2c ae hx ag a b ad aa
  have af:El.pack c d∈S:=by
   rcases h3 with h3 | h3
   ·exact h.down _ (hp.mem_iff.2 (by simp [h1])) _ ab h3
   ·rw [h3];exact ab
  exact a5g.2 ⟨c,d,af,h2⟩
theorem e6q.chosen {n:Nat} {C:List El} (hC:c6a n C):∀ {j:Nat} {R S:List El},Rows C j R->e6q R S->b7s n j S:=by
 intro j
 induction j with
 | zero=>intro R S hR _;cases hR
 | succ j ih =>
  intro R S hR hD
  obtain ⟨ap,aq,an,ar⟩:=hR.coins hC
  obtain ⟨T,hT⟩:=hD.part
  have aa:∀ e∈S,e∈R:=fun e he=>hT.mem_iff.1 (by simp [he])
  have ai:f3l n S:=fun e he=>an e (aa e he)
  have ad:∀ s,a0m s S<=1:=fun s=>by
   have h1:=b1l (s:=s) hT
   rw [a4u,ap s] at h1
   have:=hC.once s
   omega
  have ag:∀ s,0<a0m s (a1t S)->0<a0m s S:=fun s hs=>by
   obtain ⟨w,hw⟩:=a3n.1 hs
   obtain ⟨a,b,ae,he⟩:=a5g.1 hw
   -- the coin of s in R
   have ao:∃ w',El.coin s w'∈R/\w'<(El.pack a b).wt:=by
    cases hR with
    | one hp _ =>
     obtain ⟨t,w2,h6,_⟩:=hC.coin _ (hp.mem_iff.1 (aa _ ae))
     cases h6
    | next h hp _ =>
     rename_i R0 _
     obtain ⟨k1,k2,k3,k4⟩:=h.coins hC
     have af:El.coin s w∈R0:=by
      have hd:=(e6q.below hC h hp hD).part
      obtain ⟨T',al⟩:=hd
      exact al.mem_iff.1 (by simp [hw])
     have h7:0<a0m s R0:=a3n.2 ⟨w,af⟩
     have am:∀ w1 w2,El.coin s w1∈C->El.coin s w2∈C->w1=w2:=fun w1 w2 h1 h2=>by
      have ho:=hC.once s
      obtain ⟨l1,l2,rfl⟩:=List.append_of_mem h1
      rw [a4u,b1k] at ho
      simp only [El.isCoin,beq_self_eq_true,if_true] at ho
      rcases List.mem_append.1 h2 with h2 | h2
      ·have:0<a0m s l1:=a3n.2 ⟨_,h2⟩
       omega
      ·rcases List.mem_cons.1 h2 with h2 | h2
       ·injection h2 with _ h2;exact h2.symm
       ·have:0<a0m s l2:=a3n.2 ⟨_,h2⟩
        omega
     have aj:∀ {j':Nat} {R1:List El},Rows C j' R1->∀ w1,El.coin s w1∈R1->El.coin s w1∈C:=by
      intro j' R1 h1 w1 ah
      cases h1 with
      | one hp _=>exact hp.mem_iff.1 ah
      | next _ hp _ =>
       rcases List.mem_append.1 (hp.mem_iff.1 ah) with h5 | h5
       ·exact h5
       ·exfalso
        have:0<a0m s (a1o _):=a3n.2 ⟨_,h5⟩
        rw [b0h] at this
        omega
     have ak:=aj h w af
     refine ⟨w,hp.mem_iff.2 (by simp [ak]),?_⟩
     have ab:El.pack a b∈a1o R0:=by
      rcases List.mem_append.1 (hp.mem_iff.1 (aa _ ae)) with h5 | h5
      ·obtain ⟨t,w2,h6,_⟩:=hC.coin _ h5
       cases h6
      ·exact h5
     have ac:0<a.wt/\0<b.wt:=by
      obtain ⟨r,hr,_⟩:=a6x R0
      have ha:a∈R0:=by rw [<-hr];exact List.mem_append_left _ (a5g.2 ⟨a,b,ab,.inl rfl⟩)
      have hb:b∈R0:=by rw [<-hr];exact List.mem_append_left _ (a5g.2 ⟨a,b,ab,.inr rfl⟩)
      exact ⟨k2 a ha,k2 b hb⟩
     show w<a.wt+b.wt
     rcases he with he | he
     ·rw [<-he] at ac ⊢; show w<w+b.wt;omega
     ·rw [<-he] at ac ⊢; show w<a.wt+w;omega
   obtain ⟨w',h1,h2⟩:=ao
   exact a3n.2 ⟨w',hD.down _ h1 _ ae h2⟩
  cases hR with
  | one hp hs =>
   have hu:a1t S=[]:=by
    unfold a1t
    rw [List.flatMap_eq_nil_iff]
    intro e he
    obtain ⟨s,w,rfl,_⟩:=hC.coin e (hp.mem_iff.1 (aa e he))
    rfl
   refine .step ai ad ag ?_
   rw [hu]
   exact .nil
  | next h hp hs=>exact .step ai ad ag (ih h (e6q.below hC h hp hD))
theorem e5y {R:List El} (hs:R.Pairwise fun a b=>a.wt<=b.wt) (m:Nat):e6q R (R.take m):=by
 refine ⟨⟨R.drop m,by rw [List.take_append_drop]⟩,?_⟩
 intro x hx y hy aa
 rw [<-List.take_append_drop m R] at hx hs
 rcases List.mem_append.1 hx with h | h
 ·exact h
 ·have:=(List.pairwise_append.1 hs).2.2 y hy x h
  omega
theorem Rows.length {n:Nat} {C:List El} (hC:c6a n C) (hm:1<=C.length) {j:Nat} {R:List El} (h:Rows C j R):R.length+1+(C.length-1) / 2^(j-1)=2*C.length:=by
 induction h with
 | one hp hs =>
  rw [hp.length_eq]
  have e:C.length-1=(C.length-1) / 2^(1-1):=by show _=_ / 1;rw [Nat.div_one]
  omega
 | next h hp hs ih =>
  rename_i j R R'
  rw [hp.length_eq,List.length_append,c1y]
  have hj:1<=j:=by cases h<;>omega
  have e:2^(j+1-1)=2^(j-1)*2:=by rw [<-Nat.pow_succ];congr 1;omega
  rw [e,<-Nat.div_div_eq_div_mul]
  generalize (C.length-1) / 2^(j-1)=q at *
  omega
theorem b7p (R:List El):a1t (a1o R)=R.take (2*(R.length / 2)):=by
 obtain ⟨r,h1,h2⟩:=a6x R
 have hl:(a1t (a1o R)).length=2*(R.length / 2):=by
  have h3:(a1t (a1o R)).length+r.length=R.length:=by
   have:=congrArg List.length h1
   simpa using this
  have h4:∀ l:List El,(a1t (a1o l)).length%2=0:=by
   intro l
   induction l using a1o.induct with
   | case1 p q l il =>
    have e:a1t (a1o (p::q::l))=p::q::a1t (a1o l):=rfl
    rw [e,List.length_cons,List.length_cons]
    omega
   | case2 l hl =>
    cases l with
    | nil=>rfl
    | cons a l =>
     cases l with
     | nil=>simp [a1o,a1t]
     | cons b l=>exact absurd rfl (hl a b l)
  have:=h4 R
  omega
 rw [<-hl]
 have h5:=congrArg (List.take (a1t (a1o R)).length) h1
 rw [List.take_left'] at h5
 ·exact h5
 ·rfl
theorem Rows.all {n:Nat} {C:List El} (hC:c6a n C) (hm:2<=C.length) {j:Nat} {R:List El} (h:Rows C j R):∀ e∈C,e∈R.take (2*C.length-2):=by
 induction h with
 | one hp hs =>
  intro e he
  rw [List.take_of_length_le (by rw [hp.length_eq];omega)]
  exact hp.mem_iff.2 he
 | next h hp hs ih =>
  rename_i j R R'
  intro e he
  have hl:=Rows.length hC (by omega) h
  generalize (C.length-1) / 2^(j-1)=q at hl
  have hr:=hp.length_eq
  rw [List.length_append,c1y] at hr
  have ab:e∈R':=hp.mem_iff.2 (by simp [he])
  by_cases hle:R'.length<=2*C.length-2
  ·rw [List.take_of_length_le hle]
   exact ab
  ·have ae:2*(R.length / 2)=2*C.length-2:=by omega
   have h5:=ih e he
   rw [<-ae,<-b7p] at h5
   obtain ⟨a,b,aa,hy⟩:=a5g.1 h5
   obtain ⟨k1,k2,k3,k4⟩:=h.coins hC
   have ad:0<a.wt/\0<b.wt:=by
    obtain ⟨r,hr,_⟩:=a6x R
    have ha:a∈R:=by rw [<-hr];exact List.mem_append_left _ (a5g.2 ⟨a,b,aa,.inl rfl⟩)
    have hb:b∈R:=by rw [<-hr];exact List.mem_append_left _ (a5g.2 ⟨a,b,aa,.inr rfl⟩)
    exact ⟨k2 a ha,k2 b hb⟩
   have af:e.wt<(El.pack a b).wt:=by
    show e.wt<a.wt+b.wt
    rcases hy with rfl | rfl<;>omega
   have hP:El.pack a b∈R':=hp.mem_iff.2 (by simp [aa])
   rw [<-List.take_append_drop (2*C.length-2) R'] at ab hP hs
   rcases List.mem_append.1 ab with h6 | h6
   ·exact h6
   ·exfalso
    have ac:(R'.drop (2*C.length-2)).length=1:=by rw [List.length_drop];omega
    obtain ⟨z,hz⟩:=List.length_eq_one_iff.1 ac
    rw [hz] at h6 hP hs
    have:e=z:=by simpa using h6
    subst this
    rcases List.mem_append.1 hP with h7 | h7
    ·have:=(List.pairwise_append.1 hs).2.2 _ h7 e (by simp)
     omega
    ·have:El.pack a b=e:=by simpa using h7
     rw [<-this] at af
     omega
theorem Rows.full {n:Nat} {C:List El} (hC:c6a n C) (hm:2<=C.length) {j:Nat} (hj:C.length<=2^(j-1)) {R:List El} (h:Rows C j R) :
  (∀ s,a6f s (R.take (2*C.length-2))<=j)/\(∀ s,0<a6f s (R.take (2*C.length-2)) ↔ 0<a0m s C) /\
  ((List.range n).map fun s=>if a6f s (R.take (2*C.length-2))=0 then 0 else 2^(j+1-a6f s (R.take (2*C.length-2)))).sum=2^(j+1):=by
 have ae:=e6q.chosen hC h (e5y (h.coins hC).2.2.2 (2*C.length-2))
 have ad:=h.all hC hm
 have ag:=h.length hC (by omega)
 have hq:(C.length-1) / 2^(j-1)=0:=Nat.div_eq_of_lt (by omega)
 rw [hq] at ag
 have ah:(R.take (2*C.length-2)).length=2*C.length-2:=by rw [List.length_take];omega
 have ai:=(h.coins hC).1
 have af:∀ s,a0m s (R.take (2*C.length-2))<=a0m s C:=fun s=>by
  have e:=a4u s (R.take (2*C.length-2)) (R.drop (2*C.length-2))
  rw [List.take_append_drop,ai s] at e
  omega
 generalize R.take (2*C.length-2)=S at *
 have ac:∀ s,0<a6f s S ↔ 0<a0m s C:=fun s=>by
  constructor
  ·intro h1
   have:=(ae.occ_le s).2 h1
   have:=af s
   omega
  ·intro h1
   obtain ⟨w,hw⟩:=a3n.1 h1
   have h2:0<a0m s S:=a3n.2 ⟨w,ad _ hw⟩
   rw [c1v]
   omega
 refine ⟨fun s=>(ae.occ_le s).1,ac,?_⟩
 have aa:=b3x n C (fun e he=>by
  obtain ⟨s,w,rfl,h1,_⟩:=hC.coin e he
  exact h1)
 rw [b2k hC,List.length_nil] at aa
 have ab:=ae.sum
 have ak:j≠0:=by rintro rfl;cases h
 have ab:2^j*S.length=((List.range n).map fun s=>b1c j (a6f s S)).sum:=by
  rcases ab with h1 | h1
  ·exact h1
  ·exact absurd h1 ak
 have aj:∀ l:List Nat,(l.map fun s=>b1c j (a6f s S)).sum+(l.map fun s=>if a6f s S=0 then 0 else 2^(j+1-a6f s S)).sum=2^(j+1)*(l.map fun s=>a0m s C).sum:=by
  intro l
  induction l with
  | nil=>rfl
  | cons s l il =>
   simp only [List.map_cons,List.sum_cons,Nat.mul_add]
   rw [<-il]
   have h1:=hC.once s
   have h2:=ac s
   have h3:b1c j (a6f s S)+(if a6f s S=0 then 0 else 2^(j+1-a6f s S))=2^(j+1)*a0m s C:=by
    rcases Nat.eq_zero_or_pos (a6f s S) with h4 | h4
    ·have:a0m s C=0:=by omega
     rw [h4,this,b7q];rfl
    ·have:a0m s C=1:=by have:=h2.1 h4;omega
     rw [if_neg (by omega),this,Nat.mul_one]
     unfold b1c
     have:2^(j+1-a6f s S)<=2^(j+1):=Nat.pow_le_pow_right (by decide) (by omega)
     omega
   omega
 have hk:=aj (List.range n)
 rw [<-ab,ah] at hk
 have e1:((List.range n).map fun s=>a0m s C).sum=a5b n C:=rfl
 rw [e1] at hk
 have e2:C.length=a5b n C:=by omega
 rw [<-e2] at hk
 have e3:2^j*(2*C.length-2)=2^(j+1)*C.length-2^(j+1):=by
  have:2*C.length-2=2*(C.length-1):=by omega
  rw [this,<-Nat.mul_assoc,<-Nat.pow_succ,Nat.mul_sub,Nat.mul_one]
 rw [e3] at hk
 have e4:2^(j+1)<=2^(j+1)*C.length:=Nat.le_mul_of_pos_right _ (by omega)
 omega
def a0v (freq:List Nat) (i:Nat):List El:=((List.range i).filter fun s=>decide (0<freq.getD s 0)).map fun s => .coin s (freq.getD s 0)
theorem c9t (freq:List Nat):a0v freq 0=[]:=rfl
theorem b7z (freq:List Nat) (i:Nat):a0v freq (i+1)=a0v freq i++(if 0<freq.getD i 0 then [.coin i (freq.getD i 0)] else []):=by
 unfold a0v
 rw [List.range_succ,List.filter_append,List.map_append]
 congr 1
 rw [List.filter_cons,List.filter_nil]
 by_cases h:0<freq.getD i 0
 ·rw [if_pos (by simpa using h),if_pos h];rfl
 ·rw [if_neg (by simpa using h),if_neg h];rfl
theorem b3u (freq:List Nat) (i:Nat):(a0v freq i).length<=i:=by
 unfold a0v
 rw [List.length_map]
 refine Nat.le_trans (List.length_filter_le _ _) ?_
 rw [List.length_range]
 exact Nat.le_refl _
theorem a7z {freq:List Nat} {i:Nat} {e:El} (h:e∈a0v freq i):∃ s,s<i/\0<freq.getD s 0/\e=.coin s (freq.getD s 0):=by
 obtain ⟨s,hs,rfl⟩:=List.mem_map.1 h
 obtain ⟨h1,h2⟩:=List.mem_filter.1 hs
 exact ⟨s,List.mem_range.1 h1,of_decide_eq_true h2,rfl⟩
theorem a9j (freq:List Nat) (s:Nat):∀ i,a0m s (a0v freq i)=if s<i/\0<freq.getD s 0 then 1 else 0
 | 0=>by simp [c9t,a0m]
 | i+1=>by
  rw [b7z,a4u,a9j freq s i]
  by_cases h:0<freq.getD i 0
  ·rw [if_pos h]
   have e:a0m s [El.coin i (freq.getD i 0)]=if i=s then 1 else 0:=by
    unfold a0m
    rw [List.countP_cons]
    simp [El.isCoin]
   rw [e]
   by_cases h2:i=s
   ·subst h2
    rw [if_neg (by omega),if_pos rfl,if_pos ⟨by omega,h⟩]
   ·rw [if_neg h2]
    by_cases h3:s<i/\0<freq.getD s 0
    ·rw [if_pos h3,if_pos ⟨by omega,h3.2⟩]
    ·rw [if_neg h3,if_neg (by omega)]
  ·rw [if_neg h]
   have e:a0m s []=0:=rfl
   rw [e]
   by_cases h3:s<i/\0<freq.getD s 0
   ·rw [if_pos h3,if_pos ⟨by omega,h3.2⟩]
   ·rw [if_neg h3]
    by_cases h4:s=i
    ·subst h4;rw [if_neg (by omega)]
    ·rw [if_neg (by omega)]
theorem a9k (freq:List Nat):c6a freq.length (a0v freq freq.length) :=
 ⟨fun e he=>by
  obtain ⟨s,h1,h2,rfl⟩:=a7z he
  exact ⟨s,_,rfl,h1,h2⟩,fun s=>by rw [a9j];split<;>omega⟩
def a4i (n:Nat) (S:List El):List Nat:=(List.range n).map fun s=>a6f s S
theorem a7m (n:Nat) (S:List El):(a4i n S).length=n:=by simp [a4i]
theorem d9k (n:Nat):a4i n []=List.replicate n 0:=by
 apply List.ext_getElem
 ·simp [a4i]
 ·intro i h1 h2
  simp [a4i,a6f]
theorem c1l {n s:Nat} (S:List El) (h:s<n):(a4i n S).getD s 0=a6f s S:=by
 simp [a4i,List.getD_eq_getElem?_getD,h]
def a9t (lens:List Nat):Nat:=(lens.map fun n=>if n=0 then 0 else 2^(24-n)).sum
def b2l (lens:List Nat):Nat:=lens.countP fun n=>decide (0<n)
structure b3p (lens:List Nat):Prop where
 n1:1<=lens.length
 n2:lens.length<=1024
 le:∀ n∈lens,n<=24
 full:(b2l lens=1/\∀ n∈lens,n<=1)\/(b2l lens≠1/\a9t lens=2^24)
theorem e9e {M:Nat}:∀ l:List El,(∀ e∈l,e.wt<=M)->∀ e∈a1o l,e.wt<=M+M:=by
 intro l
 induction l using a1o.induct with
 | case1 a b l il =>
  intro h e he
  rw [a1o] at he
  rcases List.mem_cons.1 he with rfl | he
  ·have:=h a (by simp)
   have:=h b (by simp)
   show a.wt+b.wt<=_
   omega
  ·exact il (fun e h1=>h e (by simp [h1])) e he
 | case2 l hl =>
  intro _ e he
  cases l with
  | nil=>simp [a1o] at he
  | cons a l =>
   cases l with
   | nil=>simp [a1o] at he
   | cons b l=>exact absurd rfl (hl a b l)
theorem Rows.wt_le {C:List El} {M:Nat} (hM:∀ e∈C,e.wt<=M) {j:Nat} {R:List El} (h:Rows C j R):∀ e∈R,e.wt<=M*2^j:=by
 induction h with
 | one hp hs =>
  intro e he
  have:=hM e (hp.mem_iff.1 he)
  omega
 | next h hp hs ih =>
  rename_i j R R'
  intro e he
  have e1:M*2^(j+1)=M*2^j+M*2^j:=by rw [Nat.pow_succ,<-Nat.mul_assoc];omega
  rcases List.mem_append.1 (hp.mem_iff.1 he) with h5 | h5
  ·have h6:=hM e h5
   have h7:M<=M*2^(j+1):=Nat.le_mul_of_pos_right _ (Nat.two_pow_pos _)
   omega
  ·rw [e1]
   exact e9e R ih e h5
theorem e5v (l:List Nat) (f:Nat->Nat) (k:Nat):(l.map fun s=>k*f s).sum=k*(l.map f).sum:=by
 induction l with
 | nil=>simp
 | cons a l ih=>simp only [List.map_cons,List.sum_cons,ih,Nat.mul_add]
theorem b8c {freq:List Nat} (h1:freq.length<=1024) (hc:2<=(a0v freq freq.length).length) {R:List El} (h:Rows (a0v freq freq.length) 12 R) :
  b3p (a4i freq.length (R.take (2*(a0v freq freq.length).length-2)))/\(∀ s,s<freq.length->(0<(a4i freq.length (R.take (2*(a0v freq freq.length).length-2))).getD s 0 ↔ 0<freq.getD s 0)) /\
  ∀ s,a6f s (R.take (2*(a0v freq freq.length).length-2))<=12:=by
 have hl:=b3u freq freq.length
 obtain ⟨k1,k2,k3⟩:=Rows.full (a9k freq) hc (j:=12) (by omega) h
 have ab:=a9j freq
 have aa:2<=a5b freq.length (a0v freq freq.length):=by
  have ac:f3l freq.length (a0v freq freq.length):=fun e he=>by
   obtain ⟨s,w,rfl,h5,_⟩:=(a9k freq).coin e he
   exact h5
  have:=b3x _ _ ac
  rw [b2k (a9k freq),List.length_nil] at this
  omega
 generalize R.take (2*(a0v freq freq.length).length-2)=S at *
 refine ⟨⟨?_,?_,?_,.inr ⟨?_,?_⟩⟩,?_,k1⟩
 ·rw [a7m];omega
 ·rw [a7m];exact h1
 ·intro n hn
  obtain ⟨s,_,rfl⟩:=List.mem_map.1 hn
  have:=k1 s
  omega
 ·-- how many are used
  have e:b2l (a4i freq.length S)=a5b freq.length (a0v freq freq.length):=by
   unfold b2l a4i a5b
   rw [List.countP_map]
   have:∀ l:List Nat,l.countP ((fun n=>decide (0<n)) ∘ fun s=>a6f s S)=(l.map fun s=>a0m s (a0v freq freq.length)).sum:=by
    intro l
    induction l with
    | nil=>rfl
    | cons s l il =>
     rw [List.countP_cons,List.map_cons,List.sum_cons,il]
     have h5:=k2 s
     have h6:=(a9k freq).once s
     by_cases h7:0<a6f s S
     ·have h8:=h5.1 h7
      simp only [Function.comp,h7,decide_true,if_true]
      omega
     ·have h8:a0m s (a0v freq freq.length)=0:=by
       rcases Nat.eq_zero_or_pos (a0m s (a0v freq freq.length)) with h9 | h9
       ·exact h9
       ·exact absurd (h5.2 h9) h7
      simp only [Function.comp,h7,decide_false]
      rw [h8]
      simp
   exact this _
  omega
 ·have e:∀ n:Nat,n<=12->(if n=0 then 0 else 2^(24-n))=2^11*(if n=0 then 0 else 2^(12+1-n)):=by
   intro n hn
   by_cases h0:n=0
   ·rw [if_pos h0,if_pos h0]
   ·rw [if_neg h0,if_neg h0,<-Nat.pow_add]
    congr 1
    omega
  have e2:a9t (a4i freq.length S)=2^11*((List.range freq.length).map fun s=>if a6f s S=0 then 0 else 2^(12+1-a6f s S)).sum:=by
   rw [<-e5v]
   unfold a9t a4i
   rw [List.map_map]
   congr 1
   apply List.map_congr_left
   intro s _
   exact e _ (k1 s)
  rw [e2,k3,<-Nat.pow_add]
 ·intro s hs
  rw [c1l _ hs]
  have h5:=k2 s
  rw [ab s freq.length] at h5
  rw [h5]
  constructor
  ·intro h6
   split at h6
   ·rename_i h7;exact h7.2
   ·omega
  ·intro h6
   rw [if_pos ⟨hs,h6⟩]
   omega
def a0g (lens:List Nat) (s:Nat):Nat:=lens.getD s 0
def a0w (lens:List Nat) (n i:Nat):List Nat:=(List.range i).filter fun s=>a0g lens s==n
def a1s (lens:List Nat) (m:Nat):List Nat:=(List.range m).flatMap fun k=>a0w lens (k+1) lens.length
def a0q (lens:List Nat):List Nat:=a1s lens 24
theorem a6d (lens:List Nat) (m:Nat):a1s lens (m+1)=a1s lens m++a0w lens (m+1) lens.length:=by
 unfold a1s
 rw [List.range_succ,List.flatMap_append]
 simp
theorem c9m (lens:List Nat) (n i:Nat):a0w lens n (i+1)=a0w lens n i++(if a0g lens i=n then [i] else []):=by
 unfold a0w
 rw [List.range_succ,List.filter_append,List.filter_cons,List.filter_nil]
 congr 1
 by_cases h:a0g lens i=n
 ·rw [if_pos (by simpa using h),if_pos h]
 ·rw [if_neg (by simpa using h),if_neg h]
theorem a4v {lens:List Nat} {n i s:Nat}:s∈a0w lens n i ↔ s<i/\a0g lens s=n:=by
 unfold a0w
 rw [List.mem_filter,List.mem_range]
 simp
theorem a7n {lens:List Nat} {m s:Nat}:s∈a1s lens m ↔ s<lens.length/\0<a0g lens s/\a0g lens s<=m:=by
 unfold a1s
 rw [List.mem_flatMap]
 constructor
 ·rintro ⟨k,hk,hs⟩
  have h1:=List.mem_range.1 hk
  obtain ⟨h2,h3⟩:=a4v.1 hs
  exact ⟨h2,by omega,by omega⟩
 ·rintro ⟨h1,h2,h3⟩
  exact ⟨a0g lens s-1,List.mem_range.2 (by omega),a4v.2 ⟨h1,by omega⟩⟩
theorem c2n (lens:List Nat):∀ m,(a1s lens m).Pairwise fun a b=>a0g lens a<=a0g lens b
 | 0=>by simp [a1s]
 | m+1=>by
  rw [a6d,List.pairwise_append]
  refine ⟨c2n lens m,?_,fun a ha b hb => ?_⟩
  ·rw [List.pairwise_iff_forall_sublist]
   intro a b hab
   have ha:=a4v.1 (hab.subset (by simp:a∈[a,b]))
   have hb:=a4v.1 (hab.subset (by simp:b∈[a,b]))
   omega
  ·have h1:=a7n.1 ha
   have h2:=a4v.1 hb
   omega
theorem b7h (lens:List Nat):∀ m,(a1s lens m).Nodup
 | 0=>by simp [a1s]
 | m+1=>by
  rw [a6d,List.nodup_append]
  refine ⟨b7h lens m,List.Nodup.sublist (List.filter_sublist) List.nodup_range,fun a ha b hb => ?_⟩
  have h1:=a7n.1 ha
  have h2:=a4v.1 hb
  intro e
  subst e
  omega
theorem b9n (lens:List Nat) (m:Nat):(a1s lens m).length<=lens.length:=by
 have h:=(b7h lens m).length_le_of_subset (l₂:=List.range lens.length) (fun s hs=>List.mem_range.2 (a7n.1 hs).1)
 rwa [List.length_range] at h
theorem d8s (l:List Nat) (p:Nat->Bool) (f:Nat->Nat):((l.filter p).map f).sum=(l.map fun s=>if p s then f s else 0).sum:=by
 induction l with
 | nil=>rfl
 | cons a l ih =>
  rw [List.filter_cons,List.map_cons,List.sum_cons]
  split
  ·rw [List.map_cons,List.sum_cons,ih]
  ·rw [ih];omega
def a6v (lens:List Nat) (k:Nat):Nat:=(((a0q lens).take k).map fun s=>2^(24-a0g lens s)).sum
def a4x (lens:List Nat) (k:Nat):Nat:=a6v lens k / 2^(24-a0g lens ((a0q lens).getD k 0))
theorem b0p (lens:List Nat) {k:Nat} (h:k<(a0q lens).length):a6v lens (k+1)=a6v lens k+2^(24-a0g lens ((a0q lens).getD k 0)):=by
 unfold a6v
 rw [<-List.take_append_getElem h,List.map_append,List.sum_append,List.getD_eq_getElem?_getD,List.getElem?_eq_getElem h]
 simp
theorem d7m (lens:List Nat):∀ m,((a1s lens m).map fun s=>2^(24-a0g lens s)).sum=((List.range lens.length).map fun s=>if 0<a0g lens s/\a0g lens s<=m then 2^(24-a0g lens s) else 0).sum
 | 0=>by
  have e:a1s lens 0=[]:=rfl
  rw [e]
  exact (b6d _ _ fun s _=>by rw [if_neg (by omega)]).symm
 | m+1=>by
  rw [a6d,List.map_append,List.sum_append,d7m lens m]
  unfold a0w
  rw [d8s,<-c2x]
  congr 1
  apply List.map_congr_left
  intro s _
  by_cases h:a0g lens s=m+1
  ·rw [if_neg (by omega),if_pos (by simpa using h),if_pos (by omega)];omega
  ·rw [if_neg (by simpa using h:¬ (a0g lens s==m+1)=true)]
   by_cases h2:0<a0g lens s/\a0g lens s<=m
   ·rw [if_pos h2,if_pos (by omega)];omega
   ·rw [if_neg h2,if_neg (by omega)]
theorem c3t (l:List Nat) (f:Nat->Nat):((List.range l.length).map fun s=>f (a0g l s))=l.map f:=by
 apply List.ext_getElem
 ·simp
 ·intro i h1 h2
  have hi:i<l.length:=by simpa using h1
  simp [a0g,List.getD_eq_getElem?_getD,hi]
theorem e0h {lens:List Nat} (hle:∀ n∈lens,n<=24):a6v lens (a0q lens).length=a9t lens:=by
 unfold a6v
 rw [List.take_length]
 unfold a0q
 rw [d7m]
 have e:((List.range lens.length).map fun s=>if 0<a0g lens s/\a0g lens s<=24 then 2^(24-a0g lens s) else 0)=lens.map fun n=>if n=0 then 0 else 2^(24-n):=by
  rw [<-c3t lens fun n=>if n=0 then 0 else 2^(24-n)]
  apply List.map_congr_left
  intro s hs
  have aa:=List.mem_range.1 hs
  have ab:a0g lens s<=24:=by
   unfold a0g
   rw [List.getD_eq_getElem?_getD,List.getElem?_eq_getElem aa]
   exact hle _ (List.getElem_mem aa)
  by_cases h:a0g lens s=0
  ·rw [if_neg (by omega),if_pos h]
  ·rw [if_pos (by omega),if_neg h]
 rw [e]
 rfl
theorem d6l {lens:List Nat} (h:b3p lens):a9t lens<=2^24:=by
 rcases h.full with ⟨h1,h2⟩ | ⟨_,h2⟩
 ·have:∀ l:List Nat,(∀ n∈l,n<=1)->a9t l=2^23*b2l l:=by
   intro l
   induction l with
   | nil=>intro _;rfl
   | cons a l ih =>
    intro hl
    have e1:a9t (a::l)=(if a=0 then 0 else 2^(24-a))+a9t l:=by simp [a9t]
    have e2:b2l (a::l)=b2l l+(if 0<a then 1 else 0):=by
     unfold b2l
     rw [List.countP_cons]
     simp
    rw [e1,e2,ih fun n hn=>hl n (by simp [hn])]
    have:=hl a (by simp)
    rcases (by omega:a=0\/a=1) with rfl | rfl
    ·simp
    ·simp;omega
  rw [this lens h2,h1]
  decide
 ·omega
theorem d1s (lens:List Nat) {j k:Nat} (h:j<=k):a6v lens j<=a6v lens k:=by
 unfold a6v
 have e:(a0q lens).take k=(a0q lens).take j++((a0q lens).drop j).take (k-j):=by
  rw [<-List.take_add];congr 1;omega
 rw [e,List.map_append,List.sum_append]
 omega
theorem a4q {lens:List Nat} {k:Nat} (h:k<(a0q lens).length):0<a0g lens ((a0q lens).getD k 0)/\a0g lens ((a0q lens).getD k 0)<=24/\(a0q lens).getD k 0<lens.length:=by
 rw [List.getD_eq_getElem?_getD,List.getElem?_eq_getElem h]
 have:=a7n.1 (List.getElem_mem h)
 exact ⟨this.2.1,this.2.2,this.1⟩
theorem c2m {lens:List Nat} {j k:Nat} (hjk:j<=k) (h:k<(a0q lens).length):a0g lens ((a0q lens).getD j 0)<=a0g lens ((a0q lens).getD k 0):=by
 rw [List.getD_eq_getElem?_getD,List.getElem?_eq_getElem (by omega),List.getD_eq_getElem?_getD,List.getElem?_eq_getElem h]
 rcases Nat.lt_or_ge j k with h1 | h1
 ·have hs:(a0q lens).Pairwise fun a b=>a0g lens a<=a0g lens b:=c2n lens 24
  exact (List.pairwise_iff_getElem.1 hs) j k (by omega) h h1
 ·obtain rfl:j=k:=by omega
  exact Nat.le_refl _
theorem e9u {lens:List Nat} {k n:Nat} (hk:k<=(a0q lens).length) (hn:∀ j,j<k->a0g lens ((a0q lens).getD j 0)<=n):2^(24-n)∣a6v lens k:=by
 induction k with
 | zero=>simp [a6v]
 | succ k ih =>
  rw [b0p lens (by omega)]
  exact Nat.dvd_add (ih (by omega) fun j hj=>hn j (by omega)) (Nat.pow_dvd_pow 2 (by have:=hn k (by omega);omega))
theorem d5b (lens:List Nat):a4x lens 0=0:=by simp [a4x,a6v]
theorem d5a {lens:List Nat} {k:Nat} (h:k+1<(a0q lens).length) :
  a4x lens (k+1)=(a4x lens k+1)*2^(a0g lens ((a0q lens).getD (k+1) 0)-a0g lens ((a0q lens).getD k 0)):=by
 have hd:=e9u (lens:=lens) (k:=k) (n:=a0g lens ((a0q lens).getD k 0)) (by omega) fun j hj=>c2m (by omega) (by omega)
 have h1:=c2m (lens:=lens) (j:=k) (k:=k+1) (by omega) h
 have h2:=a4q h
 unfold a4x
 rw [b0p lens (by omega)]
 generalize a0g lens ((a0q lens).getD k 0)=a at *
 generalize a0g lens ((a0q lens).getD (k+1) 0)=b at *
 obtain ⟨q,hq⟩:=hd
 rw [hq]
 have e1:2^(24-a)*q+2^(24-a)=2^(24-b)*((q+1)*2^(b-a)):=by
  have:2^(24-a)=2^(24-b)*2^(b-a):=by rw [<-Nat.pow_add];congr 1;omega
  rw [this,<-Nat.mul_add_one,Nat.mul_assoc,Nat.mul_comm (2^(b-a))]
 rw [e1,Nat.mul_div_cancel_left _ (Nat.two_pow_pos _),Nat.mul_div_cancel_left _ (Nat.two_pow_pos _)]
theorem d2g {lens:List Nat} (hf:b3p lens) {k:Nat} (h:k<(a0q lens).length):a4x lens k<2^a0g lens ((a0q lens).getD k 0):=by
 have h1:=b0p lens h
 have h2:=d1s lens (show k+1<=(a0q lens).length by omega)
 rw [e0h hf.le] at h2
 have h3:=d6l hf
 have h4:=a4q h
 unfold a4x
 generalize a0g lens ((a0q lens).getD k 0)=a at *
 rw [Nat.div_lt_iff_lt_mul (Nat.two_pow_pos _),<-Nat.pow_add]
 have:a+(24-a)=24:=by omega
 rw [this]
 have:=Nat.two_pow_pos (24-a)
 omega
def a3j (lens:List Nat):Nat->List Nat
 | 0=>List.replicate lens.length 0
 | k+1=>(a3j lens k).set ((a0q lens).getD k 0) (a4x lens k)
def b0d (lens:List Nat):List Nat:=a3j lens (a0q lens).length
theorem a3s (lens:List Nat):∀ k,(a3j lens k).length=lens.length
 | 0=>by simp [a3j]
 | k+1=>by rw [a3j,List.length_set,a3s lens k]
theorem e9q {lens:List Nat} {j k:Nat} (hj:j<(a0q lens).length) (hk:k<(a0q lens).length) (h:(a0q lens).getD j 0=(a0q lens).getD k 0):j=k:=by
 rw [List.getD_eq_getElem?_getD,List.getElem?_eq_getElem hj,List.getD_eq_getElem?_getD,List.getElem?_eq_getElem hk] at h
 exact (List.getElem_inj (b7h lens 24)).1 h
theorem c5z {lens:List Nat} {j:Nat} (hj:j<(a0q lens).length):∀ k,j<k->k<=(a0q lens).length->(a3j lens k).getD ((a0q lens).getD j 0) 0=a4x lens j
 | 0,h,_=>by omega
 | k+1,h,hk=>by
  have hs:=(a4q hj).2.2
  rw [a3j,List.getD_eq_getElem?_getD,List.getElem?_set]
  by_cases e:j=k
  ·subst e
   rw [if_pos rfl,if_pos (by rw [a3s];exact hs)]
   rfl
  ·rw [if_neg (fun h2=>e (e9q hj (by omega) h2.symm)),<-List.getD_eq_getElem?_getD]
   exact c5z hj k (by omega) (by omega)
def a5i (lens:List Nat) (s:Nat):Nat:=(b0d lens).getD s 0
theorem b0t {lens:List Nat} {j:Nat} (hj:j<(a0q lens).length):a5i lens ((a0q lens).getD j 0)=a4x lens j:=c5z hj _ hj (Nat.le_refl _)
theorem c7z {lens:List Nat} (hle:∀ n∈lens,n<=24) {s:Nat} (h0:0<a0g lens s):∃ j,j<(a0q lens).length/\(a0q lens).getD j 0=s:=by
 have hs:s<lens.length:=by
  rcases Nat.lt_or_ge s lens.length with h | h
  ·exact h
  ·unfold a0g at h0
   rw [List.getD_eq_getElem?_getD,List.getElem?_eq_none h] at h0
   cases h0
 have aa:a0g lens s<=24:=by
  unfold a0g
  rw [List.getD_eq_getElem?_getD,List.getElem?_eq_getElem hs]
  exact hle _ (List.getElem_mem hs)
 have hm:s∈a0q lens:=a7n.2 ⟨hs,h0,aa⟩
 obtain ⟨j,hj,e⟩:=List.getElem_of_mem hm
 exact ⟨j,hj,by rw [List.getD_eq_getElem?_getD,List.getElem?_eq_getElem hj];exact e⟩
theorem d2h {lens:List Nat} (hf:b3p lens) {s:Nat} (h0:0<a0g lens s):a5i lens s<2^a0g lens s:=by
 obtain ⟨j,hj,rfl⟩:=c7z hf.le h0
 rw [b0t hj]
 exact d2g hf hj
end Go.Proofs.YtepjepkgcdfboaaGreatDoor
