/- Package merge, plain Lean: the chosen elements of the last row give each coin a length, and these lengths fill a code. No program. -/
set_option linter.unusedVariables false
set_option linter.unusedSimpArgs false
namespace Go.Proofs.YtepjepkgcdfboaaGreatDoor
inductive El
 | coin (s w:Nat)
 | pack (a b:El)
instance:Inhabited El:=⟨.coin 0 0⟩
def El.wt:El->Nat
 | .coin _ w=>w
 | .pack a b=>a.wt+b.wt
def El.occ (s:Nat):El->Nat
 | .coin t _=>if t=s then 1 else 0
 | .pack a b=>a.occ s+b.occ s
def El.isCoin (s:Nat):El->Bool
 | .coin t _=>t==s
 | .pack _ _=>false
def El.parts:El->List El
 | .coin _ _=>[]
 | .pack a b=>[a,b]
def packs:List El->List El
 | a::b::l => .pack a b::packs l
 | _=>[]
def occL (s:Nat) (l:List El):Nat:=(l.map (El.occ s)).sum
def coinsOf (s:Nat) (l:List El):Nat:=l.countP (El.isCoin s)
def unpack (l:List El):List El:=l.flatMap El.parts
theorem packs_len:∀ l:List El,(packs l).length=l.length / 2
 | []=>rfl
 | [_]=>by simp [packs]
 | a::b::l=>by
  have:=packs_len l
  simp only [packs,List.length_cons,this]
  omega
theorem occL_append (s:Nat) (a b:List El):occL s (a++b)=occL s a+occL s b:=by simp [occL]
theorem occ_split (s:Nat) (l:List El):occL s l=coinsOf s l+occL s (unpack l):=by
 induction l with
 | nil=>rfl
 | cons e l ih =>
  have e1:occL s (e::l)=e.occ s+occL s l:=by simp [occL]
  have e2:unpack (e::l)=e.parts++unpack l:=rfl
  rw [e1,e2,occL_append,ih]
  cases e with
  | coin t w =>
   have h1:coinsOf s (El.coin t w::l)=coinsOf s l+(if t=s then 1 else 0):=by
    unfold coinsOf
    rw [List.countP_cons]
    simp [El.isCoin]
   rw [h1]
   simp only [El.parts,El.occ,occL,List.map_nil,List.sum_nil]
   omega
  | pack a b =>
   have h1:coinsOf s (El.pack a b::l)=coinsOf s l:=by
    unfold coinsOf
    rw [List.countP_cons]
    simp [El.isCoin]
   rw [h1]
   simp only [El.parts,El.occ,occL,List.map_cons,List.map_nil,List.sum_cons,List.sum_nil]
   omega
def coinSum (n:Nat) (l:List El):Nat:=((List.range n).map fun s=>coinsOf s l).sum
theorem coinsOf_cons (s:Nat) (e:El) (l:List El):coinsOf s (e::l)=coinsOf s l+(if e.isCoin s then 1 else 0):=by
 unfold coinsOf
 rw [List.countP_cons]
theorem sum_map_add {α:Type} (l:List α) (f g:α->Nat):(l.map fun x=>f x+g x).sum=(l.map f).sum+(l.map g).sum:=by
 induction l with
 | nil=>rfl
 | cons a l ih=>simp only [List.map_cons,List.sum_cons,ih];omega
theorem sum_zero {α:Type} (l:List α) (f:α->Nat) (h:∀ x∈l,f x=0):(l.map f).sum=0:=by
 induction l with
 | nil=>rfl
 | cons a l ih=>simp only [List.map_cons,List.sum_cons];rw [h a (by simp),ih fun x hx=>h x (by simp [hx])]
theorem sum_one (n t:Nat) (h:t<n):((List.range n).map fun s=>if t==s then 1 else 0).sum=1:=by
 induction n with
 | zero=>omega
 | succ n ih =>
  rw [List.range_succ,List.map_append,List.sum_append]
  simp only [List.map_cons,List.map_nil,List.sum_cons,List.sum_nil]
  by_cases h1:t=n
  ·subst h1
   rw [sum_zero]
   ·simp
   ·intro x hx
    have:=List.mem_range.1 hx
    have:¬ t=x:=by omega
    simp [this]
  ·rw [ih (by omega)]
   simp [h1]
def Syms (n:Nat) (l:List El):Prop:=∀ e∈l,match e with | .coin t _=>t<n | .pack _ _=>True
theorem count_split (n:Nat) (l:List El) (h:Syms n l):2*l.length=2*coinSum n l+(unpack l).length:=by
 induction l with
 | nil =>
  have:coinSum n []=0:=by
   unfold coinSum
   exact sum_zero _ _ fun x _=>rfl
  simp [this,unpack]
 | cons e l ih =>
  have ih:=ih fun x hx=>h x (by simp [hx])
  have e2:unpack (e::l)=e.parts++unpack l:=rfl
  have e1:coinSum n (e::l)=coinSum n l+((List.range n).map fun s=>if e.isCoin s then 1 else 0).sum:=by
   unfold coinSum
   rw [<-sum_map_add]
   congr 1
   apply List.map_congr_left
   intro s _
   exact coinsOf_cons s e l
  rw [e1,e2,List.length_append,List.length_cons]
  cases e with
  | coin t w =>
   have h1:t<n:=h (.coin t w) (by simp)
   have h2:=sum_one n t h1
   have h3:((List.range n).map fun s=>if (El.coin t w).isCoin s then 1 else 0).sum=1:=h2
   rw [h3]
   simp only [El.parts,List.length_nil]
   omega
  | pack a b =>
   rw [sum_zero]
   ·simp only [El.parts,List.length_cons,List.length_nil];omega
   ·intro x _;rfl
def worth (j m:Nat):Nat:=2^(j+1)-2^(j+1-m)
theorem worth_zero (j:Nat):worth j 0=0:=by simp [worth]
theorem worth_succ {j m:Nat} (h:m<=j):worth (j+1) (m+1)=2^(j+1)+worth j m:=by
 unfold worth
 have e:j+1+1-(m+1)=j+1-m:=by omega
 have h1:2^(j+1-m)<=2^(j+1):=Nat.pow_le_pow_right (by decide) (by omega)
 have h2:2^(j+1+1)=2*2^(j+1):=by rw [Nat.pow_succ,Nat.mul_comm]
 rw [e,h2]
 omega
inductive Chosen (n:Nat):Nat->List El->Prop
 | nil:Chosen n 0 []
 | step {j:Nat} {S:List El} (hs:Syms n S) (h1:∀ s,coinsOf s S<=1) (h2:∀ s,0<coinsOf s (unpack S)->0<coinsOf s S) (h:Chosen n j (unpack S)):Chosen n (j+1) S
theorem Chosen.occ_le {n j:Nat} {S:List El} (h:Chosen n j S) (s:Nat):occL s S<=j/\(0<occL s S->0<coinsOf s S):=by
 induction h with
 | nil=>exact ⟨Nat.le_refl _,fun h=>by simp [occL] at h⟩
 | step hs h1 h2 h ih =>
  rename_i j S
  rw [occ_split]
  have:=h1 s
  refine ⟨by omega,fun h3 => ?_⟩
  by_cases h4:0<occL s (unpack S)
  ·exact h2 s (ih.2 h4)
  ·omega
theorem Chosen.sum {n j:Nat} {S:List El} (h:Chosen n j S):2^j*S.length=((List.range n).map fun s=>worth j (occL s S)).sum\/j=0:=by
 induction h with
 | nil=>exact .inr rfl
 | step hs h1 h2 h ih =>
  rename_i j S
  left
  have hc:=count_split n S hs
  have aa:((List.range n).map fun s=>worth (j+1) (occL s S)).sum=2^(j+1)*coinSum n S+((List.range n).map fun s=>worth j (occL s (unpack S))).sum:=by
   have e:∀ l:List Nat,(l.map fun s=>worth (j+1) (occL s S)).sum=2^(j+1)*(l.map fun s=>coinsOf s S).sum+(l.map fun s=>worth j (occL s (unpack S))).sum:=by
    intro l
    induction l with
    | nil=>rfl
    | cons s l il =>
     simp only [List.map_cons,List.sum_cons]
     rw [il,Nat.mul_add]
     have ho:=h.occ_le s
     have:worth (j+1) (occL s S)=2^(j+1)*coinsOf s S+worth j (occL s (unpack S)):=by
      rw [occ_split]
      have ab:=h1 s
      rcases Nat.eq_zero_or_pos (coinsOf s S) with h0 | h0
      ·have h5:occL s (unpack S)=0:=by
        rcases Nat.eq_zero_or_pos (occL s (unpack S)) with h6 | h6
        ·exact h6
        ·have:=h2 s (ho.2 h6);omega
       rw [h0,h5,worth_zero,worth_zero];rfl
      ·obtain h6:coinsOf s S=1:=by omega
       rw [h6,Nat.add_comm 1,worth_succ ho.1];omega
     omega
   exact e _
  rw [aa]
  rcases ih with ih | ih
  ·rw [<-ih]
   have e3:2^(j+1)*S.length=2^j*(2*S.length):=by rw [Nat.pow_succ,Nat.mul_assoc]
   have e4:2^(j+1)*coinSum n S=2^j*(2*coinSum n S):=by rw [Nat.pow_succ,Nat.mul_assoc]
   rw [e3,e4,hc,Nat.mul_add]
  ·subst ih
   have hu:unpack S=[]:=by
    generalize hU:unpack S=U at h
    cases h
    rfl
   rw [hu] at hc ⊢
   have hz:((List.range n).map fun s=>worth 0 (occL s [])).sum=0:=sum_zero _ _ fun s _=>by
    show worth 0 0=0
    rfl
   rw [hz]
   simp only [List.length_nil] at hc
   have:S.length=coinSum n S:=by omega
   rw [this]
   rfl
inductive Rows (C:List El):Nat->List El->Prop
 | one {R:List El} (hp:R.Perm C) (hs:R.Pairwise fun a b=>a.wt<=b.wt):Rows C 1 R
 | next {j:Nat} {R R':List El} (h:Rows C j R) (hp:R'.Perm (C++packs R)) (hs:R'.Pairwise fun a b=>a.wt<=b.wt):Rows C (j+1) R'
structure Coins (n:Nat) (C:List El):Prop where
 coin:∀ e∈C,∃ s w,e=.coin s w/\s<n/\0<w
 once:∀ s,coinsOf s C<=1
theorem coinsOf_perm {s:Nat} {a b:List El} (h:a.Perm b):coinsOf s a=coinsOf s b:=h.countP_eq _
theorem coinsOf_append (s:Nat) (a b:List El):coinsOf s (a++b)=coinsOf s a+coinsOf s b:=by simp [coinsOf]
theorem coinsOf_packs (s:Nat):∀ l:List El,coinsOf s (packs l)=0
 | []=>rfl
 | [_]=>by simp [packs,coinsOf]
 | a::b::l=>by
  rw [packs,coinsOf_cons,coinsOf_packs s l]
  rfl
theorem coinsOf_pos {s:Nat} {l:List El}:0<coinsOf s l ↔ ∃ w,El.coin s w∈l:=by
 unfold coinsOf
 rw [List.countP_pos_iff]
 constructor
 ·rintro ⟨e,he,h⟩
  cases e with
  | coin t w =>
   simp only [El.isCoin,beq_iff_eq] at h
   subst h
   exact ⟨w,he⟩
  | pack a b=>cases h
 ·rintro ⟨w,h⟩
  exact ⟨_,h,by simp [El.isCoin]⟩
theorem unpack_append (a b:List El):unpack (a++b)=unpack a++unpack b:=by simp [unpack]
theorem unpack_coins {n:Nat} {C:List El} (h:Coins n C):unpack C=[]:=by
 unfold unpack
 rw [List.flatMap_eq_nil_iff]
 intro e he
 obtain ⟨s,w,rfl,_⟩:=h.coin e he
 rfl
theorem unpack_packs:∀ l:List El,∃ r,unpack (packs l)++r=l/\r.length<=1
 | []=>⟨[],rfl,by simp⟩
 | [a]=>⟨[a],rfl,by simp⟩
 | a::b::l=>by
  obtain ⟨r,h1,h2⟩:=unpack_packs l
  refine ⟨r,?_,h2⟩
  have e:unpack (packs (a::b::l))=a::b::unpack (packs l):=rfl
  rw [e,List.cons_append,List.cons_append,h1]
theorem Rows.coins {n:Nat} {C:List El} (hC:Coins n C) {j:Nat} {R:List El} (h:Rows C j R):(∀ s,coinsOf s R=coinsOf s C)/\(∀ e∈R,0<e.wt)/\Syms n R/\R.Pairwise fun a b=>a.wt<=b.wt:=by
 induction h with
 | one hp hs =>
  refine ⟨fun s=>coinsOf_perm hp,fun e he => ?_,fun e he => ?_,hs⟩
  ·obtain ⟨s,w,rfl,_,h⟩:=hC.coin e (hp.mem_iff.1 he)
   exact h
  ·obtain ⟨s,w,rfl,h,_⟩:=hC.coin e (hp.mem_iff.1 he)
   exact h
 | next h hp hs ih =>
  rename_i j R R'
  obtain ⟨h1,h2,h3,h4⟩:=ih
  have aa:∀ l:List El,(∀ e∈l,0<e.wt)->∀ e∈packs l,0<e.wt/\∃ a b,e=.pack a b:=by
   intro l
   induction l using packs.induct with
   | case1 a b l il =>
    intro hl e he
    rw [packs] at he
    rcases List.mem_cons.1 he with rfl | he
    ·have:=hl a (by simp)
     exact ⟨by show 0<a.wt+b.wt;omega,a,b,rfl⟩
    ·exact il (fun e h=>hl e (by simp [h])) e he
   | case2 l hl =>
    intro _ e he
    cases l with
    | nil=>simp [packs] at he
    | cons a l =>
     cases l with
     | nil=>simp [packs] at he
     | cons b l=>exact absurd rfl (hl a b l)
  refine ⟨fun s => ?_,fun e he => ?_,fun e he => ?_,hs⟩
  ·rw [coinsOf_perm hp,coinsOf_append,coinsOf_packs];rfl
  ·rcases List.mem_append.1 (hp.mem_iff.1 he) with h5 | h5
   ·obtain ⟨s,w,rfl,_,h⟩:=hC.coin e h5
    exact h
   ·exact (aa R h2 e h5).1
  ·rcases List.mem_append.1 (hp.mem_iff.1 he) with h5 | h5
   ·obtain ⟨s,w,rfl,h,_⟩:=hC.coin e h5
    exact h
   ·obtain ⟨_,a,b,rfl⟩:=aa R h2 e h5
    trivial
structure Down (R S:List El):Prop where
 part:∃ T,(S++T).Perm R
 down:∀ x∈R,∀ y∈S,x.wt<y.wt->x∈S
theorem pair_of {x y:El}:∀ {R:List El},R.Pairwise (fun a b=>a.wt<=b.wt)->x∈R->x.wt<y.wt->∀ a b,El.pack a b∈packs R->(y=a\/y=b) ->
  ∃ c d,El.pack c d∈packs R/\(x=c\/x=d)/\((El.pack c d).wt<(El.pack a b).wt\/El.pack c d=El.pack a b):=by
 intro R
 induction R using packs.induct with
 | case1 p q l il =>
  intro hs hx ag a b aa hy
  have ae:=List.pairwise_cons.1 hs
  have ad:=List.pairwise_cons.1 ae.2
  rw [packs] at aa ⊢
  have ac:∀ z∈l,q.wt<=z.wt:=ad.1
  have ai:p.wt<=q.wt:=ae.1 q (by simp)
  have ah:∀ c d,El.pack c d∈packs l->c∈l/\d∈l:=by
   intro c d h
   have:∀ l:List El,El.pack c d∈packs l->c∈l/\d∈l:=by
    intro l
    induction l using packs.induct with
    | case1 p q l il =>
     intro h
     rw [packs] at h
     rcases List.mem_cons.1 h with h | h
     ·injection h with h1 h2
      subst h1;subst h2
      simp
     ·have:=il h;simp [this]
    | case2 l hl =>
     intro h
     cases l with
     | nil=>simp [packs] at h
     | cons a l =>
      cases l with
      | nil=>simp [packs] at h
      | cons b l=>exact absurd rfl (hl a b l)
   exact this l h
  have af:x=p\/x=q\/x∈l:=by simpa using hx
  rcases List.mem_cons.1 aa with aa | aa
  ·injection aa with h1 h2
   subst h1;subst h2
   rcases af with h | h | h
   ·exact ⟨a,b,by simp,.inl h,.inr rfl⟩
   ·exact ⟨a,b,by simp,.inr h,.inr rfl⟩
   ·have:=ac x h
    rcases hy with rfl | rfl<;>omega
  ·obtain ⟨ha,hb⟩:=ah a b aa
   have ak:=ac a ha
   have aj:=ac b hb
   have ab:(x=p\/x=q)->∃ c d,El.pack c d∈El.pack p q::packs l/\(x=c\/x=d)/\((El.pack c d).wt<(El.pack a b).wt\/El.pack c d=El.pack a b):=fun h=>by
    refine ⟨p,q,by simp,h,.inl ?_⟩
    show p.wt+q.wt<a.wt+b.wt
    rcases h with rfl | rfl<;>rcases hy with rfl | rfl<;>omega
   rcases af with h | h | h
   ·exact ab (.inl h)
   ·exact ab (.inr h)
   ·obtain ⟨c,d,h1,h2,h3⟩:=il ad.2 h ag a b aa hy
    exact ⟨c,d,by simp [h1],h2,h3⟩
 | case2 l hl =>
  intro hs hx ag a b aa hy
  cases l with
  | nil=>simp at hx
  | cons p l =>
   cases l with
   | nil=>simp [packs] at aa
   | cons q l=>exact absurd rfl (hl p q l)
theorem mem_unpack {e:El} {l:List El}:e∈unpack l ↔ ∃ a b,El.pack a b∈l/\(e=a\/e=b):=by
 unfold unpack
 rw [List.mem_flatMap]
 constructor
 ·rintro ⟨p,hp,he⟩
  cases p with
  | coin t w=>simp [El.parts] at he
  | pack a b =>
   simp [El.parts] at he
   exact ⟨a,b,hp,he⟩
 ·rintro ⟨a,b,hp,he⟩
  exact ⟨_,hp,by simpa [El.parts] using he⟩
theorem Down.below {n:Nat} {C R R' S:List El} {j:Nat} (hC:Coins n C) (hR:Rows C j R) (hp:R'.Perm (C++packs R)) (h:Down R' S):Down R (unpack S):=by
 obtain ⟨aj,ah,ai,ae⟩:=hR.coins hC
 refine ⟨?_,?_⟩
 ·obtain ⟨T,hT⟩:=h.part
  obtain ⟨r,hr,_⟩:=unpack_packs R
  refine ⟨unpack T++r,?_⟩
  have h1:(unpack (S++T)).Perm (unpack (C++packs R)):=(hT.trans hp).flatMap_right _
  rw [unpack_append,unpack_append,unpack_coins hC,List.nil_append] at h1
  have h2:=h1.append_right r
  rw [hr,List.append_assoc] at h2
  exact h2
 ·intro x hx y hy af
  obtain ⟨a,b,ab,aa⟩:=mem_unpack.1 hy
  have ad:El.pack a b∈R':=by
   obtain ⟨T,hT⟩:=h.part
   exact hT.mem_iff.1 (by simp [ab])
  have ac:El.pack a b∈packs R:=by
   rcases List.mem_append.1 (hp.mem_iff.1 ad) with h5 | h5
   ·obtain ⟨s,w,h6,_⟩:=hC.coin _ h5
    cases h6
   ·exact h5
  obtain ⟨c,d,h1,h2,h3⟩:=pair_of ae hx af a b ac aa
  have ag:El.pack c d∈S:=by
   rcases h3 with h3 | h3
   ·exact h.down _ (hp.mem_iff.2 (by simp [h1])) _ ab h3
   ·rw [h3];exact ab
  exact mem_unpack.2 ⟨c,d,ag,h2⟩
theorem Down.chosen {n:Nat} {C:List El} (hC:Coins n C):∀ {j:Nat} {R S:List El},Rows C j R->Down R S->Chosen n j S:=by
 intro j
 induction j with
 | zero=>intro R S hR _;cases hR
 | succ j ih =>
  intro R S hR hD
  obtain ⟨ap,aq,ak,ar⟩:=hR.coins hC
  obtain ⟨T,hT⟩:=hD.part
  have aa:∀ e∈S,e∈R:=fun e he=>hT.mem_iff.1 (by simp [he])
  have ag:Syms n S:=fun e he=>ak e (aa e he)
  have ad:∀ s,coinsOf s S<=1:=fun s=>by
   have h1:=coinsOf_perm (s:=s) hT
   rw [coinsOf_append,ap s] at h1
   have:=hC.once s
   omega
  have ai:∀ s,0<coinsOf s (unpack S)->0<coinsOf s S:=fun s hs=>by
   obtain ⟨w,hw⟩:=coinsOf_pos.1 hs
   obtain ⟨a,b,ae,he⟩:=mem_unpack.1 hw
   -- the coin of s in R
   have al:∃ w',El.coin s w'∈R/\w'<(El.pack a b).wt:=by
    cases hR with
    | one hp _ =>
     obtain ⟨t,w2,h6,_⟩:=hC.coin _ (hp.mem_iff.1 (aa _ ae))
     cases h6
    | next h hp _ =>
     rename_i R0 _
     obtain ⟨k1,k2,k3,k4⟩:=h.coins hC
     have af:El.coin s w∈R0:=by
      have hd:=(Down.below hC h hp hD).part
      obtain ⟨T',am⟩:=hd
      exact am.mem_iff.1 (by simp [hw])
     have h7:0<coinsOf s R0:=coinsOf_pos.2 ⟨w,af⟩
     have ao:∀ w1 w2,El.coin s w1∈C->El.coin s w2∈C->w1=w2:=fun w1 w2 h1 h2=>by
      have ho:=hC.once s
      obtain ⟨l1,l2,rfl⟩:=List.append_of_mem h1
      rw [coinsOf_append,coinsOf_cons] at ho
      simp only [El.isCoin,beq_self_eq_true,if_true] at ho
      rcases List.mem_append.1 h2 with h2 | h2
      ·have:0<coinsOf s l1:=coinsOf_pos.2 ⟨_,h2⟩
       omega
      ·rcases List.mem_cons.1 h2 with h2 | h2
       ·injection h2 with _ h2;exact h2.symm
       ·have:0<coinsOf s l2:=coinsOf_pos.2 ⟨_,h2⟩
        omega
     have aj:∀ {j':Nat} {R1:List El},Rows C j' R1->∀ w1,El.coin s w1∈R1->El.coin s w1∈C:=by
      intro j' R1 h1 w1 ah
      cases h1 with
      | one hp _=>exact hp.mem_iff.1 ah
      | next _ hp _ =>
       rcases List.mem_append.1 (hp.mem_iff.1 ah) with h5 | h5
       ·exact h5
       ·exfalso
        have:0<coinsOf s (packs _):=coinsOf_pos.2 ⟨_,h5⟩
        rw [coinsOf_packs] at this
        omega
     have an:=aj h w af
     refine ⟨w,hp.mem_iff.2 (by simp [an]),?_⟩
     have ac:El.pack a b∈packs R0:=by
      rcases List.mem_append.1 (hp.mem_iff.1 (aa _ ae)) with h5 | h5
      ·obtain ⟨t,w2,h6,_⟩:=hC.coin _ h5
       cases h6
      ·exact h5
     have ab:0<a.wt/\0<b.wt:=by
      obtain ⟨r,hr,_⟩:=unpack_packs R0
      have ha:a∈R0:=by rw [<-hr];exact List.mem_append_left _ (mem_unpack.2 ⟨a,b,ac,.inl rfl⟩)
      have hb:b∈R0:=by rw [<-hr];exact List.mem_append_left _ (mem_unpack.2 ⟨a,b,ac,.inr rfl⟩)
      exact ⟨k2 a ha,k2 b hb⟩
     show w<a.wt+b.wt
     rcases he with he | he
     ·rw [<-he] at ab ⊢; show w<w+b.wt;omega
     ·rw [<-he] at ab ⊢; show w<a.wt+w;omega
   obtain ⟨w',h1,h2⟩:=al
   exact coinsOf_pos.2 ⟨w',hD.down _ h1 _ ae h2⟩
  cases hR with
  | one hp hs =>
   have hu:unpack S=[]:=by
    unfold unpack
    rw [List.flatMap_eq_nil_iff]
    intro e he
    obtain ⟨s,w,rfl,_⟩:=hC.coin e (hp.mem_iff.1 (aa e he))
    rfl
   refine .step ag ad ai ?_
   rw [hu]
   exact .nil
  | next h hp hs=>exact .step ag ad ai (ih h (Down.below hC h hp hD))
theorem take_down {R:List El} (hs:R.Pairwise fun a b=>a.wt<=b.wt) (m:Nat):Down R (R.take m):=by
 refine ⟨⟨R.drop m,by rw [List.take_append_drop]⟩,?_⟩
 intro x hx y hy aa
 rw [<-List.take_append_drop m R] at hx hs
 rcases List.mem_append.1 hx with h | h
 ·exact h
 ·have:=(List.pairwise_append.1 hs).2.2 y hy x h
  omega
theorem Rows.length {n:Nat} {C:List El} (hC:Coins n C) (hm:1<=C.length) {j:Nat} {R:List El} (h:Rows C j R):R.length+1+(C.length-1) / 2^(j-1)=2*C.length:=by
 induction h with
 | one hp hs =>
  rw [hp.length_eq]
  have e:C.length-1=(C.length-1) / 2^(1-1):=by show _=_ / 1;rw [Nat.div_one]
  omega
 | next h hp hs ih =>
  rename_i j R R'
  rw [hp.length_eq,List.length_append,packs_len]
  have hj:1<=j:=by cases h<;>omega
  have e:2^(j+1-1)=2^(j-1)*2:=by rw [<-Nat.pow_succ];congr 1;omega
  rw [e,<-Nat.div_div_eq_div_mul]
  generalize (C.length-1) / 2^(j-1)=q at *
  omega
theorem unpack_packs_take (R:List El):unpack (packs R)=R.take (2*(R.length / 2)):=by
 obtain ⟨r,h1,h2⟩:=unpack_packs R
 have hl:(unpack (packs R)).length=2*(R.length / 2):=by
  have h3:(unpack (packs R)).length+r.length=R.length:=by
   have:=congrArg List.length h1
   simpa using this
  have h4:∀ l:List El,(unpack (packs l)).length%2=0:=by
   intro l
   induction l using packs.induct with
   | case1 p q l il =>
    have e:unpack (packs (p::q::l))=p::q::unpack (packs l):=rfl
    rw [e,List.length_cons,List.length_cons]
    omega
   | case2 l hl =>
    cases l with
    | nil=>rfl
    | cons a l =>
     cases l with
     | nil=>simp [packs,unpack]
     | cons b l=>exact absurd rfl (hl a b l)
  have:=h4 R
  omega
 rw [<-hl]
 have h5:=congrArg (List.take (unpack (packs R)).length) h1
 rw [List.take_left'] at h5
 ·exact h5
 ·rfl
theorem Rows.all {n:Nat} {C:List El} (hC:Coins n C) (hm:2<=C.length) {j:Nat} {R:List El} (h:Rows C j R):∀ e∈C,e∈R.take (2*C.length-2):=by
 induction h with
 | one hp hs =>
  intro e he
  rw [List.take_of_length_le (by rw [hp.length_eq];omega)]
  exact hp.mem_iff.2 he
 | next h hp hs ih =>
  rename_i j R R'
  intro e he
  have hl:=Rows.length hC (by omega) h
  generalize (C.length-1) / 2^(j-1)=q at hl
  have hr:=hp.length_eq
  rw [List.length_append,packs_len] at hr
  have aa:e∈R':=hp.mem_iff.2 (by simp [he])
  by_cases hle:R'.length<=2*C.length-2
  ·rw [List.take_of_length_le hle]
   exact aa
  ·have ad:2*(R.length / 2)=2*C.length-2:=by omega
   have h5:=ih e he
   rw [<-ad,<-unpack_packs_take] at h5
   obtain ⟨a,b,ab,hy⟩:=mem_unpack.1 h5
   obtain ⟨k1,k2,k3,k4⟩:=h.coins hC
   have ae:0<a.wt/\0<b.wt:=by
    obtain ⟨r,hr,_⟩:=unpack_packs R
    have ha:a∈R:=by rw [<-hr];exact List.mem_append_left _ (mem_unpack.2 ⟨a,b,ab,.inl rfl⟩)
    have hb:b∈R:=by rw [<-hr];exact List.mem_append_left _ (mem_unpack.2 ⟨a,b,ab,.inr rfl⟩)
    exact ⟨k2 a ha,k2 b hb⟩
   have af:e.wt<(El.pack a b).wt:=by
    show e.wt<a.wt+b.wt
    rcases hy with rfl | rfl<;>omega
   have hP:El.pack a b∈R':=hp.mem_iff.2 (by simp [ab])
   rw [<-List.take_append_drop (2*C.length-2) R'] at aa hP hs
   rcases List.mem_append.1 aa with h6 | h6
   ·exact h6
   ·exfalso
    have ac:(R'.drop (2*C.length-2)).length=1:=by rw [List.length_drop];omega
    obtain ⟨z,hz⟩:=List.length_eq_one_iff.1 ac
    rw [hz] at h6 hP hs
    have:e=z:=by simpa using h6
    subst this
    rcases List.mem_append.1 hP with h7 | h7
    ·have:=(List.pairwise_append.1 hs).2.2 _ h7 e (by simp)
     omega
    ·have:El.pack a b=e:=by simpa using h7
     rw [<-this] at af
     omega
theorem Rows.full {n:Nat} {C:List El} (hC:Coins n C) (hm:2<=C.length) {j:Nat} (hj:C.length<=2^(j-1)) {R:List El} (h:Rows C j R) :
  (∀ s,occL s (R.take (2*C.length-2))<=j)/\(∀ s,0<occL s (R.take (2*C.length-2)) ↔ 0<coinsOf s C) /\
  ((List.range n).map fun s=>if occL s (R.take (2*C.length-2))=0 then 0 else 2^(j+1-occL s (R.take (2*C.length-2)))).sum=2^(j+1):=by
 have ad:=Down.chosen hC h (take_down (h.coins hC).2.2.2 (2*C.length-2))
 have ae:=h.all hC hm
 have af:=h.length hC (by omega)
 have hq:(C.length-1) / 2^(j-1)=0:=Nat.div_eq_of_lt (by omega)
 rw [hq] at af
 have ah:(R.take (2*C.length-2)).length=2*C.length-2:=by rw [List.length_take];omega
 have aj:=(h.coins hC).1
 have ag:∀ s,coinsOf s (R.take (2*C.length-2))<=coinsOf s C:=fun s=>by
  have e:=coinsOf_append s (R.take (2*C.length-2)) (R.drop (2*C.length-2))
  rw [List.take_append_drop,aj s] at e
  omega
 generalize R.take (2*C.length-2)=S at *
 have ac:∀ s,0<occL s S ↔ 0<coinsOf s C:=fun s=>by
  constructor
  ·intro h1
   have:=(ad.occ_le s).2 h1
   have:=ag s
   omega
  ·intro h1
   obtain ⟨w,hw⟩:=coinsOf_pos.1 h1
   have h2:0<coinsOf s S:=coinsOf_pos.2 ⟨w,ae _ hw⟩
   rw [occ_split]
   omega
 refine ⟨fun s=>(ad.occ_le s).1,ac,?_⟩
 have ab:=count_split n C (fun e he=>by
  obtain ⟨s,w,rfl,h1,_⟩:=hC.coin e he
  exact h1)
 rw [unpack_coins hC,List.length_nil] at ab
 have aa:=ad.sum
 have ak:j≠0:=by rintro rfl;cases h
 have aa:2^j*S.length=((List.range n).map fun s=>worth j (occL s S)).sum:=by
  rcases aa with h1 | h1
  ·exact h1
  ·exact absurd h1 ak
 have ai:∀ l:List Nat,(l.map fun s=>worth j (occL s S)).sum+(l.map fun s=>if occL s S=0 then 0 else 2^(j+1-occL s S)).sum=2^(j+1)*(l.map fun s=>coinsOf s C).sum:=by
  intro l
  induction l with
  | nil=>rfl
  | cons s l il =>
   simp only [List.map_cons,List.sum_cons,Nat.mul_add]
   rw [<-il]
   have h1:=hC.once s
   have h2:=ac s
   have h3:worth j (occL s S)+(if occL s S=0 then 0 else 2^(j+1-occL s S))=2^(j+1)*coinsOf s C:=by
    rcases Nat.eq_zero_or_pos (occL s S) with h4 | h4
    ·have:coinsOf s C=0:=by omega
     rw [h4,this,worth_zero];rfl
    ·have:coinsOf s C=1:=by have:=h2.1 h4;omega
     rw [if_neg (by omega),this,Nat.mul_one]
     unfold worth
     have:2^(j+1-occL s S)<=2^(j+1):=Nat.pow_le_pow_right (by decide) (by omega)
     omega
   omega
 have hk:=ai (List.range n)
 rw [<-aa,ah] at hk
 have e1:((List.range n).map fun s=>coinsOf s C).sum=coinSum n C:=rfl
 rw [e1] at hk
 have e2:C.length=coinSum n C:=by omega
 rw [<-e2] at hk
 have e3:2^j*(2*C.length-2)=2^(j+1)*C.length-2^(j+1):=by
  have:2*C.length-2=2*(C.length-1):=by omega
  rw [this,<-Nat.mul_assoc,<-Nat.pow_succ,Nat.mul_sub,Nat.mul_one]
 rw [e3] at hk
 have e4:2^(j+1)<=2^(j+1)*C.length:=Nat.le_mul_of_pos_right _ (by omega)
 omega
def coinsTo (freq:List Nat) (i:Nat):List El:=((List.range i).filter fun s=>decide (0<freq.getD s 0)).map fun s => .coin s (freq.getD s 0)
theorem coinsTo_zero (freq:List Nat):coinsTo freq 0=[]:=rfl
theorem coinsTo_succ (freq:List Nat) (i:Nat):coinsTo freq (i+1)=coinsTo freq i++(if 0<freq.getD i 0 then [.coin i (freq.getD i 0)] else []):=by
 unfold coinsTo
 rw [List.range_succ,List.filter_append,List.map_append]
 congr 1
 rw [List.filter_cons,List.filter_nil]
 by_cases h:0<freq.getD i 0
 ·rw [if_pos (by simpa using h),if_pos h];rfl
 ·rw [if_neg (by simpa using h),if_neg h];rfl
theorem coinsTo_len (freq:List Nat) (i:Nat):(coinsTo freq i).length<=i:=by
 unfold coinsTo
 rw [List.length_map]
 refine Nat.le_trans (List.length_filter_le _ _) ?_
 rw [List.length_range]
 exact Nat.le_refl _
theorem mem_coinsTo {freq:List Nat} {i:Nat} {e:El} (h:e∈coinsTo freq i):∃ s,s<i/\0<freq.getD s 0/\e=.coin s (freq.getD s 0):=by
 obtain ⟨s,hs,rfl⟩:=List.mem_map.1 h
 obtain ⟨h1,h2⟩:=List.mem_filter.1 hs
 exact ⟨s,List.mem_range.1 h1,of_decide_eq_true h2,rfl⟩
theorem coinsOf_to (freq:List Nat) (s:Nat):∀ i,coinsOf s (coinsTo freq i)=if s<i/\0<freq.getD s 0 then 1 else 0
 | 0=>by simp [coinsTo_zero,coinsOf]
 | i+1=>by
  rw [coinsTo_succ,coinsOf_append,coinsOf_to freq s i]
  by_cases h:0<freq.getD i 0
  ·rw [if_pos h]
   have e:coinsOf s [El.coin i (freq.getD i 0)]=if i=s then 1 else 0:=by
    unfold coinsOf
    rw [List.countP_cons]
    simp [El.isCoin]
   rw [e]
   by_cases h2:i=s
   ·subst h2
    rw [if_neg (by omega),if_pos rfl,if_pos ⟨by omega,h⟩]
   ·rw [if_neg h2]
    by_cases h3:s<i/\0<freq.getD s 0
    ·rw [if_pos h3,if_pos ⟨by omega,h3.2⟩]
    ·rw [if_neg h3,if_neg (by omega)]
  ·rw [if_neg h]
   have e:coinsOf s []=0:=rfl
   rw [e]
   by_cases h3:s<i/\0<freq.getD s 0
   ·rw [if_pos h3,if_pos ⟨by omega,h3.2⟩]
   ·rw [if_neg h3]
    by_cases h4:s=i
    ·subst h4;rw [if_neg (by omega)]
    ·rw [if_neg (by omega)]
theorem coinsTo_ok (freq:List Nat):Coins freq.length (coinsTo freq freq.length) :=
 ⟨fun e he=>by
  obtain ⟨s,h1,h2,rfl⟩:=mem_coinsTo he
  exact ⟨s,_,rfl,h1,h2⟩,fun s=>by rw [coinsOf_to];split<;>omega⟩
def lensOf (n:Nat) (S:List El):List Nat:=(List.range n).map fun s=>occL s S
theorem lensOf_len (n:Nat) (S:List El):(lensOf n S).length=n:=by simp [lensOf]
theorem lensOf_nil (n:Nat):lensOf n []=List.replicate n 0:=by
 apply List.ext_getElem
 ·simp [lensOf]
 ·intro i h1 h2
  simp [lensOf,occL]
theorem lensOf_getD {n s:Nat} (S:List El) (h:s<n):(lensOf n S).getD s 0=occL s S:=by
 simp [lensOf,List.getD_eq_getElem?_getD,h]
def kraft (lens:List Nat):Nat:=(lens.map fun n=>if n=0 then 0 else 2^(24-n)).sum
def usedN (lens:List Nat):Nat:=lens.countP fun n=>decide (0<n)
structure FullL (lens:List Nat):Prop where
 n1:1<=lens.length
 n2:lens.length<=1024
 le:∀ n∈lens,n<=24
 full:(usedN lens=1/\∀ n∈lens,n<=1)\/(usedN lens≠1/\kraft lens=2^24)
theorem packs_wt {M:Nat}:∀ l:List El,(∀ e∈l,e.wt<=M)->∀ e∈packs l,e.wt<=M+M:=by
 intro l
 induction l using packs.induct with
 | case1 a b l il =>
  intro h e he
  rw [packs] at he
  rcases List.mem_cons.1 he with rfl | he
  ·have:=h a (by simp)
   have:=h b (by simp)
   show a.wt+b.wt<=_
   omega
  ·exact il (fun e h1=>h e (by simp [h1])) e he
 | case2 l hl =>
  intro _ e he
  cases l with
  | nil=>simp [packs] at he
  | cons a l =>
   cases l with
   | nil=>simp [packs] at he
   | cons b l=>exact absurd rfl (hl a b l)
theorem Rows.wt_le {C:List El} {M:Nat} (hM:∀ e∈C,e.wt<=M) {j:Nat} {R:List El} (h:Rows C j R):∀ e∈R,e.wt<=M*2^j:=by
 induction h with
 | one hp hs =>
  intro e he
  have:=hM e (hp.mem_iff.1 he)
  omega
 | next h hp hs ih =>
  rename_i j R R'
  intro e he
  have e1:M*2^(j+1)=M*2^j+M*2^j:=by rw [Nat.pow_succ,<-Nat.mul_assoc];omega
  rcases List.mem_append.1 (hp.mem_iff.1 he) with h5 | h5
  ·have h6:=hM e h5
   have h7:M<=M*2^(j+1):=Nat.le_mul_of_pos_right _ (Nat.two_pow_pos _)
   omega
  ·rw [e1]
   exact packs_wt R ih e h5
theorem sum_scale (l:List Nat) (f:Nat->Nat) (k:Nat):(l.map fun s=>k*f s).sum=k*(l.map f).sum:=by
 induction l with
 | nil=>simp
 | cons a l ih=>simp only [List.map_cons,List.sum_cons,ih,Nat.mul_add]
theorem full_of_rows {freq:List Nat} (h1:freq.length<=1024) (hc:2<=(coinsTo freq freq.length).length) {R:List El} (h:Rows (coinsTo freq freq.length) 12 R) :
  FullL (lensOf freq.length (R.take (2*(coinsTo freq freq.length).length-2)))/\(∀ s,s<freq.length->(0<(lensOf freq.length (R.take (2*(coinsTo freq freq.length).length-2))).getD s 0 ↔ 0<freq.getD s 0)) /\
  ∀ s,occL s (R.take (2*(coinsTo freq freq.length).length-2))<=12:=by
 have hl:=coinsTo_len freq freq.length
 obtain ⟨k1,k2,k3⟩:=Rows.full (coinsTo_ok freq) hc (j:=12) (by omega) h
 have ac:=coinsOf_to freq
 have ab:2<=coinSum freq.length (coinsTo freq freq.length):=by
  have aa:Syms freq.length (coinsTo freq freq.length):=fun e he=>by
   obtain ⟨s,w,rfl,h5,_⟩:=(coinsTo_ok freq).coin e he
   exact h5
  have:=count_split _ _ aa
  rw [unpack_coins (coinsTo_ok freq),List.length_nil] at this
  omega
 generalize R.take (2*(coinsTo freq freq.length).length-2)=S at *
 refine ⟨⟨?_,?_,?_,.inr ⟨?_,?_⟩⟩,?_,k1⟩
 ·rw [lensOf_len];omega
 ·rw [lensOf_len];exact h1
 ·intro n hn
  obtain ⟨s,_,rfl⟩:=List.mem_map.1 hn
  have:=k1 s
  omega
 ·-- how many are used
  have e:usedN (lensOf freq.length S)=coinSum freq.length (coinsTo freq freq.length):=by
   unfold usedN lensOf coinSum
   rw [List.countP_map]
   have:∀ l:List Nat,l.countP ((fun n=>decide (0<n)) ∘ fun s=>occL s S)=(l.map fun s=>coinsOf s (coinsTo freq freq.length)).sum:=by
    intro l
    induction l with
    | nil=>rfl
    | cons s l il =>
     rw [List.countP_cons,List.map_cons,List.sum_cons,il]
     have h5:=k2 s
     have h6:=(coinsTo_ok freq).once s
     by_cases h7:0<occL s S
     ·have h8:=h5.1 h7
      simp only [Function.comp,h7,decide_true,if_true]
      omega
     ·have h8:coinsOf s (coinsTo freq freq.length)=0:=by
       rcases Nat.eq_zero_or_pos (coinsOf s (coinsTo freq freq.length)) with h9 | h9
       ·exact h9
       ·exact absurd (h5.2 h9) h7
      simp only [Function.comp,h7,decide_false]
      rw [h8]
      simp
   exact this _
  omega
 ·have e:∀ n:Nat,n<=12->(if n=0 then 0 else 2^(24-n))=2^11*(if n=0 then 0 else 2^(12+1-n)):=by
   intro n hn
   by_cases h0:n=0
   ·rw [if_pos h0,if_pos h0]
   ·rw [if_neg h0,if_neg h0,<-Nat.pow_add]
    congr 1
    omega
  have e2:kraft (lensOf freq.length S)=2^11*((List.range freq.length).map fun s=>if occL s S=0 then 0 else 2^(12+1-occL s S)).sum:=by
   rw [<-sum_scale]
   unfold kraft lensOf
   rw [List.map_map]
   congr 1
   apply List.map_congr_left
   intro s _
   exact e _ (k1 s)
  rw [e2,k3,<-Nat.pow_add]
 ·intro s hs
  rw [lensOf_getD _ hs]
  have h5:=k2 s
  rw [ac s freq.length] at h5
  rw [h5]
  constructor
  ·intro h6
   split at h6
   ·rename_i h7;exact h7.2
   ·omega
  ·intro h6
   rw [if_pos ⟨hs,h6⟩]
   omega
def lenAt (lens:List Nat) (s:Nat):Nat:=lens.getD s 0
def blockTo (lens:List Nat) (n i:Nat):List Nat:=(List.range i).filter fun s=>lenAt lens s==n
def rankTo (lens:List Nat) (m:Nat):List Nat:=(List.range m).flatMap fun k=>blockTo lens (k+1) lens.length
def rankL (lens:List Nat):List Nat:=rankTo lens 24
theorem rankTo_succ (lens:List Nat) (m:Nat):rankTo lens (m+1)=rankTo lens m++blockTo lens (m+1) lens.length:=by
 unfold rankTo
 rw [List.range_succ,List.flatMap_append]
 simp
theorem blockTo_succ (lens:List Nat) (n i:Nat):blockTo lens n (i+1)=blockTo lens n i++(if lenAt lens i=n then [i] else []):=by
 unfold blockTo
 rw [List.range_succ,List.filter_append,List.filter_cons,List.filter_nil]
 congr 1
 by_cases h:lenAt lens i=n
 ·rw [if_pos (by simpa using h),if_pos h]
 ·rw [if_neg (by simpa using h),if_neg h]
theorem mem_block {lens:List Nat} {n i s:Nat}:s∈blockTo lens n i ↔ s<i/\lenAt lens s=n:=by
 unfold blockTo
 rw [List.mem_filter,List.mem_range]
 simp
theorem mem_rankTo {lens:List Nat} {m s:Nat}:s∈rankTo lens m ↔ s<lens.length/\0<lenAt lens s/\lenAt lens s<=m:=by
 unfold rankTo
 rw [List.mem_flatMap]
 constructor
 ·rintro ⟨k,hk,hs⟩
  have h1:=List.mem_range.1 hk
  obtain ⟨h2,h3⟩:=mem_block.1 hs
  exact ⟨h2,by omega,by omega⟩
 ·rintro ⟨h1,h2,h3⟩
  exact ⟨lenAt lens s-1,List.mem_range.2 (by omega),mem_block.2 ⟨h1,by omega⟩⟩
theorem rank_sorted (lens:List Nat):∀ m,(rankTo lens m).Pairwise fun a b=>lenAt lens a<=lenAt lens b
 | 0=>by simp [rankTo]
 | m+1=>by
  rw [rankTo_succ,List.pairwise_append]
  refine ⟨rank_sorted lens m,?_,fun a ha b hb => ?_⟩
  ·rw [List.pairwise_iff_forall_sublist]
   intro a b hab
   have ha:=mem_block.1 (hab.subset (by simp:a∈[a,b]))
   have hb:=mem_block.1 (hab.subset (by simp:b∈[a,b]))
   omega
  ·have h1:=mem_rankTo.1 ha
   have h2:=mem_block.1 hb
   omega
theorem rank_nodup (lens:List Nat):∀ m,(rankTo lens m).Nodup
 | 0=>by simp [rankTo]
 | m+1=>by
  rw [rankTo_succ,List.nodup_append]
  refine ⟨rank_nodup lens m,List.Nodup.sublist (List.filter_sublist) List.nodup_range,fun a ha b hb => ?_⟩
  have h1:=mem_rankTo.1 ha
  have h2:=mem_block.1 hb
  intro e
  subst e
  omega
theorem rank_len (lens:List Nat) (m:Nat):(rankTo lens m).length<=lens.length:=by
 have h:=(rank_nodup lens m).length_le_of_subset (l₂:=List.range lens.length) (fun s hs=>List.mem_range.2 (mem_rankTo.1 hs).1)
 rwa [List.length_range] at h
theorem filter_sum (l:List Nat) (p:Nat->Bool) (f:Nat->Nat):((l.filter p).map f).sum=(l.map fun s=>if p s then f s else 0).sum:=by
 induction l with
 | nil=>rfl
 | cons a l ih =>
  rw [List.filter_cons,List.map_cons,List.sum_cons]
  split
  ·rw [List.map_cons,List.sum_cons,ih]
  ·rw [ih];omega
def roomTo (lens:List Nat) (k:Nat):Nat:=(((rankL lens).take k).map fun s=>2^(24-lenAt lens s)).sum
def wordAt (lens:List Nat) (k:Nat):Nat:=roomTo lens k / 2^(24-lenAt lens ((rankL lens).getD k 0))
theorem roomTo_succ (lens:List Nat) {k:Nat} (h:k<(rankL lens).length):roomTo lens (k+1)=roomTo lens k+2^(24-lenAt lens ((rankL lens).getD k 0)):=by
 unfold roomTo
 rw [<-List.take_append_getElem h,List.map_append,List.sum_append,List.getD_eq_getElem?_getD,List.getElem?_eq_getElem h]
 simp
theorem room_all (lens:List Nat):∀ m,((rankTo lens m).map fun s=>2^(24-lenAt lens s)).sum=((List.range lens.length).map fun s=>if 0<lenAt lens s/\lenAt lens s<=m then 2^(24-lenAt lens s) else 0).sum
 | 0=>by
  have e:rankTo lens 0=[]:=rfl
  rw [e]
  exact (sum_zero _ _ fun s _=>by rw [if_neg (by omega)]).symm
 | m+1=>by
  rw [rankTo_succ,List.map_append,List.sum_append,room_all lens m]
  unfold blockTo
  rw [filter_sum,<-sum_map_add]
  congr 1
  apply List.map_congr_left
  intro s _
  by_cases h:lenAt lens s=m+1
  ·rw [if_neg (by omega),if_pos (by simpa using h),if_pos (by omega)];omega
  ·rw [if_neg (by simpa using h:¬ (lenAt lens s==m+1)=true)]
   by_cases h2:0<lenAt lens s/\lenAt lens s<=m
   ·rw [if_pos h2,if_pos (by omega)];omega
   ·rw [if_neg h2,if_neg (by omega)]
theorem map_range_getD (l:List Nat) (f:Nat->Nat):((List.range l.length).map fun s=>f (lenAt l s))=l.map f:=by
 apply List.ext_getElem
 ·simp
 ·intro i h1 h2
  have hi:i<l.length:=by simpa using h1
  simp [lenAt,List.getD_eq_getElem?_getD,hi]
theorem room_kraft {lens:List Nat} (hle:∀ n∈lens,n<=24):roomTo lens (rankL lens).length=kraft lens:=by
 unfold roomTo
 rw [List.take_length]
 unfold rankL
 rw [room_all]
 have e:((List.range lens.length).map fun s=>if 0<lenAt lens s/\lenAt lens s<=24 then 2^(24-lenAt lens s) else 0)=lens.map fun n=>if n=0 then 0 else 2^(24-n):=by
  rw [<-map_range_getD lens fun n=>if n=0 then 0 else 2^(24-n)]
  apply List.map_congr_left
  intro s hs
  have aa:=List.mem_range.1 hs
  have ab:lenAt lens s<=24:=by
   unfold lenAt
   rw [List.getD_eq_getElem?_getD,List.getElem?_eq_getElem aa]
   exact hle _ (List.getElem_mem aa)
  by_cases h:lenAt lens s=0
  ·rw [if_neg (by omega),if_pos h]
  ·rw [if_pos (by omega),if_neg h]
 rw [e]
 rfl
theorem kraft_le {lens:List Nat} (h:FullL lens):kraft lens<=2^24:=by
 rcases h.full with ⟨h1,h2⟩ | ⟨_,h2⟩
 ·have:∀ l:List Nat,(∀ n∈l,n<=1)->kraft l=2^23*usedN l:=by
   intro l
   induction l with
   | nil=>intro _;rfl
   | cons a l ih =>
    intro hl
    have e1:kraft (a::l)=(if a=0 then 0 else 2^(24-a))+kraft l:=by simp [kraft]
    have e2:usedN (a::l)=usedN l+(if 0<a then 1 else 0):=by
     unfold usedN
     rw [List.countP_cons]
     simp
    rw [e1,e2,ih fun n hn=>hl n (by simp [hn])]
    have:=hl a (by simp)
    rcases (by omega:a=0\/a=1) with rfl | rfl
    ·simp
    ·simp;omega
  rw [this lens h2,h1]
  decide
 ·omega
theorem room_mono (lens:List Nat) {j k:Nat} (h:j<=k):roomTo lens j<=roomTo lens k:=by
 unfold roomTo
 have e:(rankL lens).take k=(rankL lens).take j++((rankL lens).drop j).take (k-j):=by
  rw [<-List.take_add];congr 1;omega
 rw [e,List.map_append,List.sum_append]
 omega
theorem rank_lenAt {lens:List Nat} {k:Nat} (h:k<(rankL lens).length):0<lenAt lens ((rankL lens).getD k 0)/\lenAt lens ((rankL lens).getD k 0)<=24/\(rankL lens).getD k 0<lens.length:=by
 rw [List.getD_eq_getElem?_getD,List.getElem?_eq_getElem h]
 have:=mem_rankTo.1 (List.getElem_mem h)
 exact ⟨this.2.1,this.2.2,this.1⟩
theorem rank_le {lens:List Nat} {j k:Nat} (hjk:j<=k) (h:k<(rankL lens).length):lenAt lens ((rankL lens).getD j 0)<=lenAt lens ((rankL lens).getD k 0):=by
 rw [List.getD_eq_getElem?_getD,List.getElem?_eq_getElem (by omega),List.getD_eq_getElem?_getD,List.getElem?_eq_getElem h]
 rcases Nat.lt_or_ge j k with h1 | h1
 ·have hs:(rankL lens).Pairwise fun a b=>lenAt lens a<=lenAt lens b:=rank_sorted lens 24
  exact (List.pairwise_iff_getElem.1 hs) j k (by omega) h h1
 ·obtain rfl:j=k:=by omega
  exact Nat.le_refl _
theorem room_dvd {lens:List Nat} {k n:Nat} (hk:k<=(rankL lens).length) (hn:∀ j,j<k->lenAt lens ((rankL lens).getD j 0)<=n):2^(24-n)∣roomTo lens k:=by
 induction k with
 | zero=>simp [roomTo]
 | succ k ih =>
  rw [roomTo_succ lens (by omega)]
  exact Nat.dvd_add (ih (by omega) fun j hj=>hn j (by omega)) (Nat.pow_dvd_pow 2 (by have:=hn k (by omega);omega))
theorem wordAt_zero (lens:List Nat):wordAt lens 0=0:=by simp [wordAt,roomTo]
theorem wordAt_succ {lens:List Nat} {k:Nat} (h:k+1<(rankL lens).length) :
  wordAt lens (k+1)=(wordAt lens k+1)*2^(lenAt lens ((rankL lens).getD (k+1) 0)-lenAt lens ((rankL lens).getD k 0)):=by
 have hd:=room_dvd (lens:=lens) (k:=k) (n:=lenAt lens ((rankL lens).getD k 0)) (by omega) fun j hj=>rank_le (by omega) (by omega)
 have h1:=rank_le (lens:=lens) (j:=k) (k:=k+1) (by omega) h
 have h2:=rank_lenAt h
 unfold wordAt
 rw [roomTo_succ lens (by omega)]
 generalize lenAt lens ((rankL lens).getD k 0)=a at *
 generalize lenAt lens ((rankL lens).getD (k+1) 0)=b at *
 obtain ⟨q,hq⟩:=hd
 rw [hq]
 have e1:2^(24-a)*q+2^(24-a)=2^(24-b)*((q+1)*2^(b-a)):=by
  have:2^(24-a)=2^(24-b)*2^(b-a):=by rw [<-Nat.pow_add];congr 1;omega
  rw [this,<-Nat.mul_add_one,Nat.mul_assoc,Nat.mul_comm (2^(b-a))]
 rw [e1,Nat.mul_div_cancel_left _ (Nat.two_pow_pos _),Nat.mul_div_cancel_left _ (Nat.two_pow_pos _)]
theorem wordAt_lt {lens:List Nat} (hf:FullL lens) {k:Nat} (h:k<(rankL lens).length):wordAt lens k<2^lenAt lens ((rankL lens).getD k 0):=by
 have h1:=roomTo_succ lens h
 have h2:=room_mono lens (show k+1<=(rankL lens).length by omega)
 rw [room_kraft hf.le] at h2
 have h3:=kraft_le hf
 have h4:=rank_lenAt h
 unfold wordAt
 generalize lenAt lens ((rankL lens).getD k 0)=a at *
 rw [Nat.div_lt_iff_lt_mul (Nat.two_pow_pos _),<-Nat.pow_add]
 have:a+(24-a)=24:=by omega
 rw [this]
 have:=Nat.two_pow_pos (24-a)
 omega
def wordsTo (lens:List Nat):Nat->List Nat
 | 0=>List.replicate lens.length 0
 | k+1=>(wordsTo lens k).set ((rankL lens).getD k 0) (wordAt lens k)
def wordsL (lens:List Nat):List Nat:=wordsTo lens (rankL lens).length
theorem wordsTo_len (lens:List Nat):∀ k,(wordsTo lens k).length=lens.length
 | 0=>by simp [wordsTo]
 | k+1=>by rw [wordsTo,List.length_set,wordsTo_len lens k]
theorem rank_inj {lens:List Nat} {j k:Nat} (hj:j<(rankL lens).length) (hk:k<(rankL lens).length) (h:(rankL lens).getD j 0=(rankL lens).getD k 0):j=k:=by
 rw [List.getD_eq_getElem?_getD,List.getElem?_eq_getElem hj,List.getD_eq_getElem?_getD,List.getElem?_eq_getElem hk] at h
 exact (List.getElem_inj (rank_nodup lens 24)).1 h
theorem wordsTo_at {lens:List Nat} {j:Nat} (hj:j<(rankL lens).length):∀ k,j<k->k<=(rankL lens).length->(wordsTo lens k).getD ((rankL lens).getD j 0) 0=wordAt lens j
 | 0,h,_=>by omega
 | k+1,h,hk=>by
  have hs:=(rank_lenAt hj).2.2
  rw [wordsTo,List.getD_eq_getElem?_getD,List.getElem?_set]
  by_cases e:j=k
  ·subst e
   rw [if_pos rfl,if_pos (by rw [wordsTo_len];exact hs)]
   rfl
  ·rw [if_neg (fun h2=>e (rank_inj hj (by omega) h2.symm)),<-List.getD_eq_getElem?_getD]
   exact wordsTo_at hj k (by omega) (by omega)
def wordOf (lens:List Nat) (s:Nat):Nat:=(wordsL lens).getD s 0
theorem wordOf_rank {lens:List Nat} {j:Nat} (hj:j<(rankL lens).length):wordOf lens ((rankL lens).getD j 0)=wordAt lens j:=wordsTo_at hj _ hj (Nat.le_refl _)
theorem rank_of {lens:List Nat} (hle:∀ n∈lens,n<=24) {s:Nat} (h0:0<lenAt lens s):∃ j,j<(rankL lens).length/\(rankL lens).getD j 0=s:=by
 have hs:s<lens.length:=by
  rcases Nat.lt_or_ge s lens.length with h | h
  ·exact h
  ·unfold lenAt at h0
   rw [List.getD_eq_getElem?_getD,List.getElem?_eq_none h] at h0
   cases h0
 have aa:lenAt lens s<=24:=by
  unfold lenAt
  rw [List.getD_eq_getElem?_getD,List.getElem?_eq_getElem hs]
  exact hle _ (List.getElem_mem hs)
 have hm:s∈rankL lens:=mem_rankTo.2 ⟨hs,h0,aa⟩
 obtain ⟨j,hj,e⟩:=List.getElem_of_mem hm
 exact ⟨j,hj,by rw [List.getD_eq_getElem?_getD,List.getElem?_eq_getElem hj];exact e⟩
theorem wordOf_lt {lens:List Nat} (hf:FullL lens) {s:Nat} (h0:0<lenAt lens s):wordOf lens s<2^lenAt lens s:=by
 obtain ⟨j,hj,rfl⟩:=rank_of hf.le h0
 rw [wordOf_rank hj]
 exact wordAt_lt hf hj
end Go.Proofs.YtepjepkgcdfboaaGreatDoor
