/- Lemmas. -/
set_option linter.all false
namespace Go.Proofs.YtifdlkoepaepiaaGreatDoor
open List Nat
variable {freq lens:List Nat}{M i j k m n s:Nat}
inductive El
 | coin (s w:Nat)
 | pack (a b:El)
instance:Inhabited El:=⟨.coin 0 0⟩
def El.wt:El->Nat
 | .coin _ w=>w
 | .pack a b=>a.wt+b.wt
def El.occ(s:Nat):El->Nat
 | .coin t _=>if t=s then 1 else 0
 | .pack a b=>a.occ s+b.occ s
def El.isCoin(s:Nat):El->Bool
 | .coin t _=>t==s
 | .pack _ _=>false
def El.parts:El->List El
 | .coin _ _=>[]
 | .pack a b=>[a,b]
def io:List El->List El
 | a::b::l=>.pack a b::io l
 | _=>[]
def iB(s:Nat)(l:List El):Nat:=(l.map (El.occ s)).sum
def iu(s:Nat)(l:List El):Nat:=l.countP (El.isCoin s)
def iX(l:List El):List El:=l.flatMap El.parts
theorem At:∀l:List El,(io l).length=l.length / 2
 | []=>rfl
 | [_]=>by simp[io]
 | a::b::l=>by
  have:=At l
  simp only[io,length_cons,this];omega
theorem yV(s:Nat)(a b:List El):iB s (a++b)=iB s a+iB s b:=by simp[iB]
theorem Am(s:Nat)(l:List El):iB s l=iu s l+iB s (iX l):=by
 induction l with
 | nil=>rfl
 | cons e l ih=>
  have d:iB s (e::l)=e.occ s+iB s l:=by simp[iB]
  have e2:iX (e::l)=e.parts++iX l:=rfl;rw[d,e2,yV,ih]
  cases e with
  | coin t w=>
   have c:iu s (El.coin t w::l)=iu s l+(if t=s then 1 else 0):=by
    unfold iu;rw[countP_cons];simp[El.isCoin]
   rw[c];simp only[El.parts,El.occ,iB,map_nil,sum_nil];omega
  | pack a b=>
   have c:iu s (El.pack a b::l)=iu s l:=by
    unfold iu;rw[countP_cons];simp[El.isCoin]
   rw[c];simp only[El.parts,El.occ,iB,map_cons,map_nil,sum_cons,sum_nil];omega
def mX(n:Nat)(l:List El):Nat:=((range n).map λs=>iu s l).sum
theorem yD(s:Nat)(e:El)(l:List El):iu s (e::l)=iu s l+(if e.isCoin s then 1 else 0):=by
 unfold iu;rw[countP_cons]
theorem Dn{α:Type}(l:List α)(f g:α->Nat):(l.map λx=>f x+g x).sum=(l.map f).sum+(l.map g).sum:=by
 induction l with
 | nil=>rfl
 | cons a l ih=>simp only[map_cons,sum_cons,ih];omega
theorem uD{α:Type}(l:List α)(f:α->Nat)(h:∀x∈l,f x=0):(l.map f).sum=0:=by
 induction l with
 | nil=>rfl
 | cons a l ih=>simp only[map_cons,sum_cons];rw[h a (by simp),ih λx hx=>h x (by simp[hx])]
theorem Pr(n t:Nat)(h:t<n):((range n).map λs=>if t==s then 1 else 0).sum=1:=by
 induction n with
 | zero=>omega
 | succ n ih=>
  rw[range_succ,map_append,sum_append];simp only[map_cons,map_nil,sum_cons,sum_nil];by_cases h1:t=n
  .subst h1
   rw[uD]
   .simp
   .intro x a
    have:=List.mem_range.1 a
    have:¬t=x:=by omega
    simp[this]
  .rw[ih (by omega)]
   simp[h1]
def uZ(n:Nat)(l:List El):Prop:=∀e∈l,match e with | .coin t _=>t<n | .pack _ _=>True
theorem yR(n:Nat)(l:List El)(h:uZ n l):2*l.length=2*mX n l+(iX l).length:=by
 induction l with
 | nil=>
  have:mX n []=0:=by
   unfold mX;exact uD _ _ λx _=>rfl
  simp[this,iX]
 | cons e l c=>
  have c:=c λx hx=>h x (by simp[hx]);have e2:iX (e::l)=e.parts++iX l:=rfl;have d:mX n (e::l)=mX n l+((range n).map λs=>if e.isCoin s then 1 else 0).sum:=by
   unfold mX;rw[<-Dn]
   congr 1
   apply map_congr_left;intro s _;exact yD s e l
  rw[d,e2,length_append,length_cons]
  cases e with
  | coin t w=>
   have f:t<n:=h (.coin t w) (by simp);have g:=Pr n t f;have o:((range n).map λs=>if (El.coin t w).isCoin s then 1 else 0).sum=1:=g;rw[o];simp only[El.parts,length_nil];omega
  | pack a b=>
   rw[uD]
   .simp only[El.parts,length_cons,length_nil];omega
   .intro x _;rfl
def ma(j m:Nat):Nat:=2^(j+1)-2^(j+1-m)
theorem zu(j:Nat):ma j 0=0:=by simp[ma]
theorem L1(h:m<=j):ma (j+1) (m+1)=2^(j+1)+ma j m:=by
 unfold ma;have e:j+1+1-(m+1)=j+1-m:=by omega
 have b:2^(j+1-m)<=2^(j+1):=Nat.pow_le_pow_right (by decide) (by omega);have a:2^(j+1+1)=2*2^(j+1):=by rw[Nat.pow_succ,Nat.mul_comm]
 rw[e,a];omega
inductive rk (n:Nat):Nat->List El->Prop
 | nil:rk n 0 []
 | step {j:Nat} {S:List El} (hs:uZ n S) (h1:∀s,iu s S<=1) (h2:∀s,0<iu s (iX S)->0<iu s S) (h:rk n j (iX S)):rk n (j+1) S
theorem rk.occ_le{S:List El}(h:rk n j S)(s:Nat):iB s S<=j/\(0<iB s S->0<iu s S):=by
 induction h with
 | nil=>exact⟨Nat.le_refl _,λh=>by simp[iB]at h⟩
 | step hs h1 h2 h ih=>
  rename_i j S
  rw[Am]
  have:=h1 s
  refine⟨by omega,λh3=>?_⟩;by_cases h4:0<iB s (iX S)
  .exact h2 s (ih.2 h4)
  .omega
theorem rk.sum{S:List El}(h:rk n j S):2^j*S.length=((range n).map λs=>ma j (iB s S)).sum\/j=0:=by
 induction h with
 | nil=>exact .inr rfl
 | step hs h1 h2 h b=>
  rename_i j S
  left;have c:=yR n S hs;have g:((range n).map λs=>ma (j+1) (iB s S)).sum=2^(j+1)*mX n S+((range n).map λs=>ma j (iB s (iX S))).sum:=by
   have e:∀l:List Nat,(l.map λs=>ma (j+1) (iB s S)).sum=2^(j+1)*(l.map λs=>iu s S).sum+(l.map λs=>ma j (iB s (iX S))).sum:=by
    intro l
    induction l with
    | nil=>rfl
    | cons s l il=>
     simp only[map_cons,sum_cons];rw[il,Nat.mul_add];have f:=h.occ_le s
     have:ma (j+1) (iB s S)=2^(j+1)*iu s S+ma j (iB s (iX S)):=by
      rw[Am];have r:=h1 s;rcases eq_zero_or_pos (iu s S)with d|d
      .have o:iB s (iX S)=0:=by
        rcases eq_zero_or_pos (iB s (iX S))with a|a
        .exact a
        .have:=h2 s (f.2 a);omega
       rw[d,o,zu,zu];rfl
      .obtain a:iu s S=1:=by omega
       rw[a,Nat.add_comm 1,L1 f.1];omega
     omega
   exact e _
  rw[g];rcases b with b|b
  .rw[<-b]
   have e3:2^(j+1)*S.length=2^j*(2*S.length):=(by rw[Nat.pow_succ,Nat.mul_assoc]);have e4:2^(j+1)*mX n S=2^j*(2*mX n S):=(by rw[Nat.pow_succ,Nat.mul_assoc]);rw[e3,e4,c,Nat.mul_add]
  .subst b
   have p:iX S=[]:=by
    generalize hU:iX S=U at h;cases h;rfl
   rw[p]at c⊢;have q:((range n).map λs=>ma 0 (iB s [])).sum=0:=uD _ _ λs _=>by
    show ma 0 0=0;rfl
   rw[q];simp only[length_nil]at c
   have:S.length=mX n S:=by omega
   rw[this];rfl
inductive Rows (C:List El):Nat->List El->Prop
 | one {R:List El} (hp:R.Perm C) (hs:R.Pairwise λa b=>a.wt<=b.wt):Rows C 1 R
 | next {j:Nat} {R R':List El} (h:Rows C j R) (hp:R'.Perm (C++io R)) (hs:R'.Pairwise λa b=>a.wt<=b.wt):Rows C (j+1) R'
structure qN (n:Nat) (C:List El):Prop where
 coin:∀e∈C,∃s w,e=.coin s w/\s<n/\0<w
 once:∀s,iu s C<=1
theorem yE{a b:List El}(h:a.Perm b):iu s a=iu s b:=h.countP_eq _
theorem tQ(s:Nat)(a b:List El):iu s (a++b)=iu s a+iu s b:=by simp[iu]
theorem yu(s:Nat):∀l:List El,iu s (io l)=0
 | []=>rfl
 | [_]=>by simp[io,iu]
 | a::b::l=>by
  rw[io,yD,yu s l];rfl
theorem qY{l:List El}:0<iu s l ↔ ∃w,El.coin s w∈l:=by
 unfold iu;rw[countP_pos_iff];constructor
 .rintro⟨e,c,h⟩
  cases e with
  | coin t w=>
   simp only[El.isCoin,beq_iff_eq]at h;subst h;exact⟨w,c⟩
  | pack a b=>cases h
 .rintro⟨w,h⟩
  exact⟨_,h,by simp[El.isCoin]⟩
theorem Cr(a b:List El):iX (a++b)=iX a++iX b:=by simp[iX]
theorem yO{C:List El}(h:qN n C):iX C=[]:=by
 unfold iX;rw[flatMap_eq_nil_iff];intro e a;obtain⟨s,w,rfl,_⟩:=h.coin e a;rfl
theorem tW:∀l:List El,∃r,iX (io l)++r=l/\r.length<=1
 | []=>⟨[],rfl,by simp⟩
 | [a]=>⟨[a],rfl,by simp⟩
 | a::b::l=>by
  obtain⟨r,c,d⟩:=tW l;refine⟨r,?_,d⟩;have e:iX (io (a::b::l))=a::b::iX (io l):=rfl;rw[e,cons_append,cons_append,c]
theorem Rows.coins{C:List El}(f:qN n C){R:List El}(h:Rows C j R):(∀s,iu s R=iu s C)/\(∀e∈R,0<e.wt)/\uZ n R/\R.Pairwise λa b=>a.wt<=b.wt:=by
 induction h with
 | one hp hs=>
  refine⟨λs=>yE hp,λe c=>?_,λe c=>?_,hs⟩
  .obtain⟨s,w,rfl,_,h⟩:=f.coin e (hp.mem_iff.1 c)
   exact h
  .obtain⟨s,w,rfl,h,_⟩:=f.coin e (hp.mem_iff.1 c)
   exact h
 | next h hp hs ih=>
  rename_i j R R'
  obtain⟨q,p,r,t⟩:=ih;have o:∀l:List El,(∀e∈l,0<e.wt)->∀e∈io l,0<e.wt/\∃a b,e=.pack a b:=by
   intro l
   induction l using io.induct with
   | case1 a b l il=>
    intro g e c;rw[io]at c;rcases List.mem_cons.1 c with rfl|c
    .have:=g a (by simp)
     exact⟨by show 0<a.wt+b.wt;omega,a,b,rfl⟩
    .exact il (λe h=>g e (by simp[h])) e c
   | case2 l g=>
    intro _ e c
    cases l with
    | nil=>simp[io]at c
    | cons a l=>
     cases l with
     | nil=>simp[io]at c
     | cons b l=>exact absurd rfl (g a b l)
  refine⟨λs=>?_,λe c=>?_,λe c=>?_,hs⟩
  .rw[yE hp,tQ,yu];rfl
  .rcases List.mem_append.1 (hp.mem_iff.1 c)with d|d
   .obtain⟨s,w,rfl,_,h⟩:=f.coin e d
    exact h
   .exact(o R p e d).1
  .rcases List.mem_append.1 (hp.mem_iff.1 c)with d|d
   .obtain⟨s,w,rfl,h,_⟩:=f.coin e d
    exact h
   .obtain⟨_,a,b,rfl⟩:=o R p e d
    trivial
structure qR (R S:List El):Prop where
 part:∃T,(S++T).Perm R
 down:∀x∈R,∀y∈S,x.wt<y.wt->x∈S
theorem Pb{x y:El}:∀ {R:List El},R.Pairwise (λa b=>a.wt<=b.wt)->x∈R->x.wt<y.wt->∀a b,El.pack a b∈io R->(y=a\/y=b) -> ∃c d,El.pack c d∈io R/\(x=c\/x=d)/\((El.pack c d).wt<(El.pack a b).wt\/El.pack c d=El.pack a b):=by
 intro R
 induction R using io.induct with
 | case1 p q l il=>
  intro B t A a b e o;have ad:=List.pairwise_cons.1 B;have v:=List.pairwise_cons.1 ad.2;rw[io]at e⊢;have r:∀z∈l,q.wt<=z.wt:=v.1;have I:p.wt<=q.wt:=ad.1 q (by simp);have C:∀c d,El.pack c d∈io l->c∈l/\d∈l:=by
   intro c d h
   have:∀l:List El,El.pack c d∈io l->c∈l/\d∈l:=by
    intro l
    induction l using io.induct with
    | case1 p q l il=>
     intro h;rw[io]at h;rcases List.mem_cons.1 h with h|h
     .injection h with f g
      subst f;subst g;simp
     .have:=il h;simp[this]
    | case2 l hl=>
     intro h
     cases l with
     | nil=>simp[io]at h
     | cons a l=>
      cases l with
      | nil=>simp[io]at h
      | cons b l=>exact absurd rfl (hl a b l)
   exact this l h
  have w:x=p\/x=q\/x∈l:=by simpa using t
  rcases List.mem_cons.1 e with e|e
  .injection e with f g
   subst f;subst g;rcases w with h|h|h
   .exact⟨a,b,by simp,.inl h,.inr rfl⟩
   .exact⟨a,b,by simp,.inr h,.inr rfl⟩
   .have:=r x h
    rcases o with rfl|rfl<;>omega
  .obtain⟨E,F⟩:=C a b e
   have G:=r a E;have H:=r b F;have u:(x=p\/x=q)->∃c d,El.pack c d∈El.pack p q::io l/\(x=c\/x=d)/\((El.pack c d).wt<(El.pack a b).wt\/El.pack c d=El.pack a b):=λh=>by
    refine⟨p,q,by simp,h,.inl ?_⟩;show p.wt+q.wt<a.wt+b.wt;rcases h with rfl|rfl<;>rcases o with rfl|rfl<;>omega
   rcases w with h|h|h
   .exact u (.inl h)
   .exact u (.inr h)
   .obtain⟨c,d,f,g,D⟩:=il v.2 h A a b e o
    exact⟨c,d,by simp[f],g,D⟩
 | case2 l hl=>
  intro B t A a b e o
  cases l with
  | nil=>simp at t
  | cons p l=>
   cases l with
   | nil=>simp[io]at e
   | cons q l=>exact absurd rfl (hl p q l)
theorem qZ{e:El}{l:List El}:e∈iX l ↔ ∃a b,El.pack a b∈l/\(e=a\/e=b):=by
 unfold iX;rw[mem_flatMap];constructor
 .rintro⟨p,d,c⟩
  cases p with
  | coin t w=>simp[El.parts]at c
  | pack a b=>
   simp[El.parts]at c;exact⟨a,b,d,c⟩
 .rintro⟨a,b,d,c⟩
  exact⟨_,d,by simpa[El.parts]using c⟩
theorem qR.below{C R R' S:List El}(p:qN n C)(D:Rows C j R)(q:R'.Perm (C++io R))(h:qR R' S):qR R (iX S):=by
 obtain⟨H,I,J,v⟩:=D.coins p;refine⟨?_,?_⟩
 .obtain⟨T,hT⟩:=h.part
  obtain⟨r,E,_⟩:=tW R;refine⟨iX T++r,?_⟩;have f:(iX (S++T)).Perm (iX (C++io R)):=(hT.trans q).flatMap_right _;rw[Cr,Cr,yO p,nil_append]at f;have g:=f.append_right r;rw[E,append_assoc]at g;exact g
 .intro x F y G A
  obtain⟨a,b,l,ad⟩:=qZ.1 G;have u:El.pack a b∈R':=by
   obtain⟨T,hT⟩:=h.part;exact hT.mem_iff.1 (by simp[l])
  have t:El.pack a b∈io R:=by
   rcases List.mem_append.1 (q.mem_iff.1 u)with o|o
   .obtain⟨s,w,B,_⟩:=p.coin _ o
    cases B
   .exact o
  obtain⟨c,d,f,g,e⟩:=Pb v F A a b t ad;have z:El.pack c d∈S:=by
   rcases e with e|e
   .exact h.down _ (q.mem_iff.2 (by simp[f])) _ l e
   .rw[e];exact l
  exact qZ.2 ⟨c,d,z,g⟩
theorem qR.chosen{C:List El}(f:qN n C):∀ {j:Nat} {R S:List El},Rows C j R->qR R S->rk n j S:=by
 intro j
 induction j with
 | zero=>intro R S p _;cases p
 | succ j ih=>
  intro R S p u;obtain⟨N,aq,O,ar⟩:=p.coins f;obtain⟨T,hT⟩:=u.part;have q:∀e∈S,e∈R:=λe d=>hT.mem_iff.1 (by simp[d]);have D:uZ n S:=λe d=>O e (q e d);have B:∀s,iu s S<=1:=λs=>by
   have g:=yE (s:=s) hT;rw[tQ,N s]at g
   have:=f.once s
   omega
  have E:∀s,0<iu s (iX S)->0<iu s S:=λs hs=>by
   obtain⟨w,I⟩:=qY.1 hs;obtain⟨a,b,y,d⟩:=qZ.1 I
   -- the coin of s in R
   have P:∃v,El.coin s v∈R/\v<(El.pack a b).wt:=by
    cases p with
    | one hp _=>
     obtain⟨t,w2,z,_⟩:=f.coin _ (hp.mem_iff.1 (q _ y));cases z
    | next h hp _=>
     rename_i R0 _
     obtain⟨k1,K,k3,k4⟩:=h.coins f;have U:El.coin s w∈R0:=by
      have Y:=(qR.below f h hp u).part;obtain⟨T',L⟩:=Y;exact L.mem_iff.1 (by simp[I])
     have aj:∀o w2,El.coin s o∈C->El.coin s w2∈C->o=w2:=λo w2 g c=>by
      have G:=f.once s;obtain⟨l1,l2,rfl⟩:=append_of_mem g;rw[tQ,yD]at G;simp only[El.isCoin,beq_self_eq_true,if_true]at G;rcases List.mem_append.1 c with c|c
      .have:0<iu s l1:=qY.2 ⟨_,c⟩
       omega
      .rcases List.mem_cons.1 c with c|c
       .injection c with _ c;exact c.symm
       .have:0<iu s l2:=qY.2 ⟨_,c⟩
        omega
     have V:∀ {J:Nat} {x:List El},Rows C J x->∀o,El.coin s o∈x->El.coin s o∈C:=by
      intro J x g o F
      cases g with
      | one hp _=>exact hp.mem_iff.1 F
      | next _ hp _=>
       rcases List.mem_append.1 (hp.mem_iff.1 F)with l|l
       .exact l
       .exfalso
        have:0<iu s (io _):=qY.2 ⟨_,l⟩
        rw[yu]at this;omega
     have Q:=V h w U;refine⟨w,hp.mem_iff.2 (by simp[Q]),?_⟩;have A:El.pack a b∈io R0:=by
      rcases List.mem_append.1 (hp.mem_iff.1 (q _ y))with l|l
      .obtain⟨t,w2,z,_⟩:=f.coin _ l
       cases z
      .exact l
     have ad:0<a.wt/\0<b.wt:=by
      obtain⟨r,H,_⟩:=tW R0;have W:a∈R0:=(by rw[<-H];exact mem_append_left _ (qZ.2 ⟨a,b,A,.inl rfl⟩));have X:b∈R0:=(by rw[<-H];exact mem_append_left _ (qZ.2 ⟨a,b,A,.inr rfl⟩));exact⟨K a W,K b X⟩
     show w<a.wt+b.wt;rcases d with d|d
     .rw[<-d]at ad⊢;show w<w+b.wt;omega
     .rw[<-d]at ad⊢;show w<a.wt+w;omega
   obtain⟨v,g,c⟩:=P;exact qY.2 ⟨v,u.down _ g _ y c⟩
  cases p with
  | one hp hs=>
   have Z:iX S=[]:=by
    unfold iX;rw[flatMap_eq_nil_iff];intro e d;obtain⟨s,w,rfl,_⟩:=f.coin e (hp.mem_iff.1 (q e d));rfl
   refine .step D B E ?_;rw[Z];exact .nil
  | next h hp hs=>exact .step D B E (ih h (qR.below f h hp u))
theorem Nj{R:List El}(c:R.Pairwise λa b=>a.wt<=b.wt)(m:Nat):qR R (R.take m):=by
 refine⟨⟨R.drop m,by rw[take_append_drop]⟩,?_⟩;intro x d y e f;rw[<-take_append_drop m R]at d c;rcases List.mem_append.1 d with h|h
 .exact h
 .have:=(List.pairwise_append.1 c).2.2 y e x h
  omega
theorem Rows.length{C:List El}(a:qN n C)(c:1<=C.length){R:List El}(h:Rows C j R):R.length+1+(C.length-1) / 2^(j-1)=2*C.length:=by
 induction h with
 | one hp hs=>
  rw[hp.length_eq];have e:C.length-1=(C.length-1) / 2^(1-1):=by show _=_ / 1;rw[Nat.div_one]
  omega
 | next h hp hs ih=>
  rename_i j R R'
  rw[hp.length_eq,length_append,At];have b:1<=j:=by cases h<;>omega
  have e:2^(j+1-1)=2^(j-1)*2:=by rw[<-Nat.pow_succ];congr 1;omega
  rw[e,<-Nat.div_div_eq_div_mul];generalize (C.length-1) / 2^(j-1)=q at *;omega
theorem IU(R:List El):iX (io R)=R.take (2*(R.length / 2)):=by
 obtain⟨r,d,h⟩:=tW R;have c:(iX (io R)).length=2*(R.length / 2):=by
  have o:(iX (io R)).length+r.length=R.length:=by
   have:=congrArg length d
   simpa using this
  have g:∀l:List El,(iX (io l)).length%2=0:=by
   intro l
   induction l using io.induct with
   | case1 p q l il=>
    have e:iX (io (p::q::l))=p::q::iX (io l):=rfl;rw[e,length_cons,length_cons];omega
   | case2 l c=>
    cases l with
    | nil=>rfl
    | cons a l=>
     cases l with
     | nil=>simp[io,iX]
     | cons b l=>exact absurd rfl (c a b l)
  have:=g R
  omega
 rw[<-c];have f:=congrArg (take (iX (io R)).length) d;rw[take_left']at f
 .exact f
 .rfl
theorem Rows.all{C:List El}(u:qN n C)(G:2<=C.length){R:List El}(h:Rows C j R):∀e∈C,e∈R.take (2*C.length-2):=by
 induction h with
 | one hp hs=>
  intro e d;rw[take_of_length_le (by rw[hp.length_eq];omega)];exact hp.mem_iff.2 d
 | next h hp hs ih=>
  rename_i j R R'
  intro e d;have B:=Rows.length u (by omega) h;generalize (C.length-1) / 2^(j-1)=q at B;have f:=hp.length_eq;rw[length_append,At]at f;have l:e∈R':=hp.mem_iff.2 (by simp[d]);by_cases hle:R'.length<=2*C.length-2
  .rw[take_of_length_le hle]
   exact l
  .have ad:2*(R.length / 2)=2*C.length-2:=by omega
   have t:=ih e d;rw[<-ad,<-IU]at t;obtain⟨a,b,g,D⟩:=qZ.1 t;obtain⟨H,v,I,J⟩:=h.coins u;have F:0<a.wt/\0<b.wt:=by
    obtain⟨r,f,_⟩:=tW R;have y:a∈R:=(by rw[<-f];exact mem_append_left _ (qZ.2 ⟨a,b,g,.inl rfl⟩));have A:b∈R:=(by rw[<-f];exact mem_append_left _ (qZ.2 ⟨a,b,g,.inr rfl⟩));exact⟨v a y,v b A⟩
   have x:e.wt<(El.pack a b).wt:=by
    show e.wt<a.wt+b.wt;rcases D with rfl|rfl<;>omega
   have p:El.pack a b∈R':=hp.mem_iff.2 (by simp[g]);rw[<-take_append_drop (2*C.length-2) R']at l p hs;rcases List.mem_append.1 l with c|c
   .exact c
   .exfalso
    have w:(R'.drop (2*C.length-2)).length=1:=(by rw[length_drop];omega);obtain⟨z,E⟩:=List.length_eq_one_iff.1 w;rw[E]at c p hs
    have:e=z:=by simpa using c
    subst this;rcases List.mem_append.1 p with o|o
    .have:=(List.pairwise_append.1 hs).2.2 _ o e (by simp)
     omega
    .have:El.pack a b=e:=by simpa using o
     rw[<-this]at x;omega
theorem Rows.full{C:List El}(b:qN n C)(A:2<=C.length)(F:C.length<=2^(j-1)){R:List El}(h:Rows C j R):(∀s,iB s (R.take (2*C.length-2))<=j)/\(∀s,0<iB s (R.take (2*C.length-2)) ↔ 0<iu s C) /\ ((range n).map λs=>if iB s (R.take (2*C.length-2))=0 then 0 else 2^(j+1-iB s (R.take (2*C.length-2)))).sum=2^(j+1):=by
 have f:=qR.chosen b h (Nj (h.coins b).2.2.2 (2*C.length-2));have ad:=h.all b A;have r:=h.length b (by omega);have B:(C.length-1) / 2^(j-1)=0:=div_eq_of_lt (by omega);rw[B]at r;have u:(R.take (2*C.length-2)).length=2*C.length-2:=by rw[length_take];omega
 have v:=(h.coins b).1;have t:∀s,iu s (R.take (2*C.length-2))<=iu s C:=λs=>by
  have e:=tQ s (R.take (2*C.length-2)) (R.drop (2*C.length-2));rw[take_append_drop,v s]at e;omega
 generalize R.take (2*C.length-2)=S at *;have o:∀s,0<iB s S ↔ 0<iu s C:=λs=>by
  constructor
  .intro a
   have:=(f.occ_le s).2 a
   have:=t s
   omega
  .intro a
   obtain⟨w,D⟩:=qY.1 a;have p:0<iu s S:=qY.2 ⟨w,ad _ D⟩;rw[Am];omega
 refine⟨λs=>(f.occ_le s).1,o,?_⟩;have q:=yR n C (λe he=>by
  obtain⟨s,w,rfl,a,_⟩:=b.coin e he;exact a)
 rw[yO b,length_nil]at q;have d:=f.sum;have x:j≠0:=by rintro rfl;cases h
 have d:2^j*S.length=((range n).map λs=>ma j (iB s S)).sum:=by
  rcases d with a|a
  .exact a
  .exact absurd a x
 have y:∀l:List Nat,(l.map λs=>ma j (iB s S)).sum+(l.map λs=>if iB s S=0 then 0 else 2^(j+1-iB s S)).sum=2^(j+1)*(l.map λs=>iu s C).sum:=by
  intro l
  induction l with
  | nil=>rfl
  | cons s l il=>
   simp only[map_cons,sum_cons,Nat.mul_add];rw[<-il];have a:=b.once s;have p:=o s;have E:ma j (iB s S)+(if iB s S=0 then 0 else 2^(j+1-iB s S))=2^(j+1)*iu s C:=by
    rcases eq_zero_or_pos (iB s S)with g|g
    .have:iu s C=0:=by omega
     rw[g,this,zu];rfl
    .have:iu s C=1:=by have:=p.1 g;omega
     rw[if_neg (by omega),this,Nat.mul_one];unfold ma
     have:2^(j+1-iB s S)<=2^(j+1):=Nat.pow_le_pow_right (by decide) (by omega)
     omega
   omega
 have c:=y (range n);rw[<-d,u]at c;have z:((range n).map λs=>iu s C).sum=mX n C:=rfl;rw[z]at c;have e2:C.length=mX n C:=by omega
 rw[<-e2]at c;have e3:2^j*(2*C.length-2)=2^(j+1)*C.length-2^(j+1):=by
  have:2*C.length-2=2*(C.length-1):=by omega
  rw[this,<-Nat.mul_assoc,<-Nat.pow_succ,Nat.mul_sub,Nat.mul_one]
 rw[e3]at c;have e4:2^(j+1)<=2^(j+1)*C.length:=Nat.le_mul_of_pos_right _ (by omega);omega
def iZ(freq:List Nat)(i:Nat):List El:=((range i).filter λs=>decide (0<freq.getD s 0)).map λs=>.coin s (freq.getD s 0)
theorem JR(freq:List Nat):iZ freq 0=[]:=rfl
theorem Cv(freq:List Nat)(i:Nat):iZ freq (i+1)=iZ freq i++(if 0<freq.getD i 0 then[.coin i (freq.getD i 0)]else[]):=by
 unfold iZ;rw[range_succ,filter_append,map_append]
 congr 1
 rw[filter_cons,filter_nil];by_cases h:0<freq.getD i 0
 .rw[if_pos (by simpa using h),if_pos h];rfl
 .rw[if_neg (by simpa using h),if_neg h];rfl
theorem Cf(freq:List Nat)(i:Nat):(iZ freq i).length<=i:=by
 unfold iZ;rw[length_map];refine Nat.le_trans (length_filter_le _ _) ?_;rw[length_range];exact Nat.le_refl _
theorem tZ{e:El}(h:e∈iZ freq i):∃s,s<i/\0<freq.getD s 0/\e=.coin s (freq.getD s 0):=by
 obtain⟨s,c,rfl⟩:=List.mem_map.1 h;obtain⟨a,b⟩:=List.mem_filter.1 c;exact⟨s,List.mem_range.1 a,of_decide_eq_true b,rfl⟩
theorem ua(freq:List Nat)(s:Nat):∀i,iu s (iZ freq i)=if s<i/\0<freq.getD s 0 then 1 else 0
 | 0=>by simp[JR,iu]
 | i+1=>by
  rw[Cv,tQ,ua freq s i];by_cases h:0<freq.getD i 0
  .rw[if_pos h]
   have e:iu s [El.coin i (freq.getD i 0)]=if i=s then 1 else 0:=by
    unfold iu;rw[countP_cons];simp[El.isCoin]
   rw[e];by_cases h2:i=s
   .subst h2
    rw[if_neg (by omega),if_pos rfl,if_pos ⟨by omega,h⟩]
   .rw[if_neg h2]
    by_cases h3:s<i/\0<freq.getD s 0
    .rw[if_pos h3,if_pos ⟨by omega,h3.2⟩]
    .rw[if_neg h3,if_neg (by omega)]
  .rw[if_neg h]
   have e:iu s []=0:=rfl;rw[e];by_cases h3:s<i/\0<freq.getD s 0
   .rw[if_pos h3,if_pos ⟨by omega,h3.2⟩]
   .rw[if_neg h3]
    by_cases h4:s=i
    .subst h4;rw[if_neg (by omega)]
    .rw[if_neg (by omega)]
theorem ub(freq:List Nat):qN freq.length (iZ freq freq.length):=
 ⟨λe he=>by
  obtain⟨s,a,b,rfl⟩:=tZ he;exact⟨s,_,rfl,a,b⟩,λs=>by rw[ua];split<;>omega⟩
def kG(n:Nat)(S:List El):List Nat:=(range n).map λs=>iB s S
theorem sH(n:Nat)(S:List El):(kG n S).length=n:=by simp[kG]
theorem Lx(n:Nat):kG n []=replicate n 0:=by
 apply ext_getElem
 .simp[kG]
 .intro i a b
  simp[kG,iB]
theorem C9(S:List El)(h:s<n):(kG n S).getD s 0=iB s S:=by
 simp[kG,getD_eq_getElem?_getD,h]
def lI(lens:List Nat):Nat:=(lens.map λn=>if n=0 then 0 else 2^(24-n)).sum
def mr(lens:List Nat):Nat:=lens.countP λn=>decide (0<n)
structure m8 (lens:List Nat):Prop where
 n1:1<=lens.length
 n2:lens.length<=1024
 le:∀n∈lens,n<=24
 full:(mr lens=1/\∀n∈lens,n<=1)\/(mr lens≠1/\lI lens=2^24)
theorem On:∀l:List El,(∀e∈l,e.wt<=M)->∀e∈io l,e.wt<=M+M:=by
 intro l
 induction l using io.induct with
 | case1 a b l il=>
  intro h e c;rw[io]at c;rcases List.mem_cons.1 c with rfl|c
  .have:=h a (by simp)
   have:=h b (by simp)
   show a.wt+b.wt<=_;omega
  .exact il (λe h1=>h e (by simp[h1])) e c
 | case2 l hl=>
  intro _ e c
  cases l with
  | nil=>simp[io]at c
  | cons a l=>
   cases l with
   | nil=>simp[io]at c
   | cons b l=>exact absurd rfl (hl a b l)
theorem Rows.wt_le{C:List El}(c:∀e∈C,e.wt<=M){R:List El}(h:Rows C j R):∀e∈R,e.wt<=M*2^j:=by
 induction h with
 | one hp hs=>
  intro e b
  have:=c e (hp.mem_iff.1 b)
  omega
 | next h hp hs ih=>
  rename_i j R R'
  intro e b;have d:M*2^(j+1)=M*2^j+M*2^j:=by rw[Nat.pow_succ,<-Nat.mul_assoc];omega
  rcases List.mem_append.1 (hp.mem_iff.1 b)with a|a
  .have f:=c e a
   have g:M<=M*2^(j+1):=Nat.le_mul_of_pos_right _ (Nat.two_pow_pos _);omega
  .rw[d]
   exact On R ih e a
theorem Nh(l:List Nat)(f:Nat->Nat)(k:Nat):(l.map λs=>k*f s).sum=k*(l.map f).sum:=by
 induction l with
 | nil=>simp
 | cons a l ih=>simp only[map_cons,sum_cons,ih,Nat.mul_add]
theorem Cx(t:freq.length<=1024)(u:2<=(iZ freq freq.length).length){R:List El}(h:Rows (iZ freq freq.length) 12 R):m8 (kG freq.length (R.take (2*(iZ freq freq.length).length-2)))/\(∀s,s<freq.length->(0<(kG freq.length (R.take (2*(iZ freq freq.length).length-2))).getD s 0 ↔ 0<freq.getD s 0)) /\ ∀s,iB s (R.take (2*(iZ freq freq.length).length-2))<=12:=by
 have y:=Cf freq freq.length;obtain⟨d,p,v⟩:=Rows.full (ub freq) u (j:=12) (by omega) h;have q:=ua freq;have x:2<=mX freq.length (iZ freq freq.length):=by
  have r:uZ freq.length (iZ freq freq.length):=λe he=>by
   obtain⟨s,w,rfl,a,_⟩:=(ub freq).coin e he;exact a
  have:=yR _ _ r
  rw[yO (ub freq),length_nil]at this;omega
 generalize R.take (2*(iZ freq freq.length).length-2)=S at *;refine⟨⟨?_,?_,?_,.inr ⟨?_,?_⟩⟩,?_,d⟩
 .rw[sH];omega
 .rw[sH];exact t
 .intro n g
  obtain⟨s,_,rfl⟩:=List.mem_map.1 g
  have:=d s
  omega
 ·-- how many are used
  have e:mr (kG freq.length S)=mX freq.length (iZ freq freq.length):=by
   unfold mr kG mX;rw[countP_map]
   have:∀l:List Nat,l.countP ((λn=>decide (0<n)) ∘ λs=>iB s S)=(l.map λs=>iu s (iZ freq freq.length)).sum:=by
    intro l
    induction l with
    | nil=>rfl
    | cons s l il=>
     rw[countP_cons,map_cons,sum_cons,il];have a:=p s;have b:=(ub freq).once s;by_cases h7:0<iB s S
     .have f:=a.1 h7
      simp only[Function.comp,h7,decide_true,if_true];omega
     .have f:iu s (iZ freq freq.length)=0:=by
       rcases eq_zero_or_pos (iu s (iZ freq freq.length))with c|c
       .exact c
       .exact absurd (a.2 c) h7
      simp only[Function.comp,h7,decide_false];rw[f];simp
   exact this _
  omega
 .have e:∀n:Nat,n<=12->(if n=0 then 0 else 2^(24-n))=2^11*(if n=0 then 0 else 2^(12+1-n)):=by
   intro n g;by_cases h0:n=0
   .rw[if_pos h0,if_pos h0]
   .rw[if_neg h0,if_neg h0,<-Nat.pow_add]
    congr 1
    omega
  have e2:lI (kG freq.length S)=2^11*((range freq.length).map λs=>if iB s S=0 then 0 else 2^(12+1-iB s S)).sum:=by
   rw[<-Nh];unfold lI kG;rw[map_map]
   congr 1
   apply map_congr_left;intro s _;exact e _ (d s)
  rw[e2,v,<-Nat.pow_add]
 .intro s o
  rw[C9 _ o];have a:=p s;rw[q s freq.length]at a;rw[a];constructor
  .intro b
   split at b
   .rename_i h7;exact h7.2
   .omega
  .intro b
   rw[if_pos ⟨o,b⟩];omega
def gO(lens:List Nat)(s:Nat):Nat:=lens.getD s 0
def ja(lens:List Nat)(n i:Nat):List Nat:=(range i).filter λs=>gO lens s==n
def i2(lens:List Nat)(m:Nat):List Nat:=(range m).flatMap λk=>ja lens (k+1) lens.length
def hO(lens:List Nat):List Nat:=i2 lens 24
theorem sE(lens:List Nat)(m:Nat):i2 lens (m+1)=i2 lens m++ja lens (m+1) lens.length:=by
 unfold i2;rw[range_succ,flatMap_append];simp
theorem JP(lens:List Nat)(n i:Nat):ja lens n (i+1)=ja lens n i++(if gO lens i=n then[i]else[]):=by
 unfold ja;rw[range_succ,filter_append,filter_cons,filter_nil]
 congr 1
 by_cases h:gO lens i=n
 .rw[if_pos (by simpa using h),if_pos h]
 .rw[if_neg (by simpa using h),if_neg h]
theorem pI:s∈ja lens n i ↔ s<i/\gO lens s=n:=by
 unfold ja;rw[mem_filter,mem_range];simp
theorem sI:s∈i2 lens m ↔ s<lens.length/\0<gO lens s/\gO lens s<=m:=by
 unfold i2;rw[mem_flatMap];constructor
 .rintro⟨k,d,e⟩
  have a:=List.mem_range.1 d;obtain⟨b,c⟩:=pI.1 e;exact⟨b,by omega,by omega⟩
 .rintro⟨a,b,c⟩
  exact⟨gO lens s-1,List.mem_range.2 (by omega),pI.2 ⟨a,by omega⟩⟩
theorem Dh(lens:List Nat):∀m,(i2 lens m).Pairwise λa b=>gO lens a<=gO lens b
 | 0=>by simp[i2]
 | m+1=>by
  rw[sE,pairwise_append];refine⟨Dh lens m,?_,λa d b e=>?_⟩
  .rw[pairwise_iff_forall_sublist]
   intro a b c;have d:=pI.1 (c.subset (by simp:a∈[a,b]));have e:=pI.1 (c.subset (by simp:b∈[a,b]));omega
  .have f:=sI.1 d
   have g:=pI.1 e;omega
theorem zm(lens:List Nat):∀m,(i2 lens m).Nodup
 | 0=>by simp[i2]
 | m+1=>by
  rw[sE,nodup_append];refine⟨zm lens m,List.Nodup.sublist (filter_sublist) nodup_range,λa ha b hb=>?_⟩;have c:=sI.1 ha;have d:=pI.1 hb;intro e;subst e;omega
theorem xw(lens:List Nat)(m:Nat):(i2 lens m).length<=lens.length:=by
 have h:=(zm lens m).length_le_of_subset (l₂:=range lens.length) (λs hs=>List.mem_range.2 (sI.1 hs).1)
 rwa [length_range]at h
theorem Li(l:List Nat)(p:Nat->Bool)(f:Nat->Nat):((l.filter p).map f).sum=(l.map λs=>if p s then f s else 0).sum:=by
 induction l with
 | nil=>rfl
 | cons a l ih=>
  rw[filter_cons,map_cons,sum_cons];split
  .rw[map_cons,sum_cons,ih]
  .rw[ih];omega
def mn(lens:List Nat)(k:Nat):Nat:=(((hO lens).take k).map λs=>2^(24-gO lens s)).sum
def kZ(lens:List Nat)(k:Nat):Nat:=mn lens k / 2^(24-gO lens ((hO lens).getD k 0))
theorem vM(lens:List Nat)(h:k<(hO lens).length):mn lens (k+1)=mn lens k+2^(24-gO lens ((hO lens).getD k 0)):=by
 unfold mn;rw[<-take_append_getElem h,map_append,sum_append,getD_eq_getElem?_getD,getElem?_eq_getElem h];simp
theorem FP(lens:List Nat):∀m,((i2 lens m).map λs=>2^(24-gO lens s)).sum=((range lens.length).map λs=>if 0<gO lens s/\gO lens s<=m then 2^(24-gO lens s)else 0).sum
 | 0=>by
  have e:i2 lens 0=[]:=rfl;rw[e];exact(uD _ _ λs _=>by rw[if_neg (by omega)]).symm
 | m+1=>by
  rw[sE,map_append,sum_append,FP lens m];unfold ja;rw[Li,<-Dn]
  congr 1
  apply map_congr_left;intro s _;by_cases h:gO lens s=m+1
  .rw[if_neg (by omega),if_pos (by simpa using h),if_pos (by omega)];omega
  .rw[if_neg (by simpa using h:¬(gO lens s==m+1)=true)]
   by_cases h2:0<gO lens s/\gO lens s<=m
   .rw[if_pos h2,if_pos (by omega)];omega
   .rw[if_neg h2,if_neg (by omega)]
theorem Jb(l:List Nat)(f:Nat->Nat):((range l.length).map λs=>f (gO l s))=l.map f:=by
 apply ext_getElem
 .simp
 .intro i a c
  have b:i<l.length:=by simpa using a
  simp[gO,getD_eq_getElem?_getD,b]
theorem LS(a:∀n∈lens,n<=24):mn lens (hO lens).length=lI lens:=by
 unfold mn;rw[take_length];unfold hO;rw[FP];have e:((range lens.length).map λs=>if 0<gO lens s/\gO lens s<=24 then 2^(24-gO lens s)else 0)=lens.map λn=>if n=0 then 0 else 2^(24-n):=by
  rw[<-Jb lens λn=>if n=0 then 0 else 2^(24-n)];apply map_congr_left;intro s c;have b:=List.mem_range.1 c;have d:gO lens s<=24:=by
   unfold gO;rw[getD_eq_getElem?_getD,getElem?_eq_getElem b];exact a _ (getElem_mem b)
  by_cases h:gO lens s=0
  .rw[if_neg (by omega),if_pos h]
  .rw[if_pos (by omega),if_neg h]
 rw[e];rfl
theorem Fp(h:m8 lens):lI lens<=2^24:=by
 rcases h.full with⟨e,b⟩|⟨_,b⟩
 .have:∀l:List Nat,(∀n∈l,n<=1)->lI l=2^23*mr l:=by
   intro l
   induction l with
   | nil=>intro _;rfl
   | cons a l ih=>
    intro c;have d:lI (a::l)=(if a=0 then 0 else 2^(24-a))+lI l:=(by simp[lI]);have e2:mr (a::l)=mr l+(if 0<a then 1 else 0):=by
     unfold mr;rw[countP_cons];simp
    rw[d,e2,ih λn hn=>c n (by simp[hn])]
    have:=c a (by simp)
    rcases(by omega:a=0\/a=1)with rfl|rfl
    .simp
    .simp;omega
  rw[this lens b,e]
  decide
 .omega
theorem EG(lens:List Nat)(h:j<=k):mn lens j<=mn lens k:=by
 unfold mn;have e:(hO lens).take k=(hO lens).take j++((hO lens).drop j).take (k-j):=by
  rw[<-take_add];congr 1;omega
 rw[e,map_append,sum_append];omega
theorem qw(h:k<(hO lens).length):0<gO lens ((hO lens).getD k 0)/\gO lens ((hO lens).getD k 0)<=24/\(hO lens).getD k 0<lens.length:=by
 rw[getD_eq_getElem?_getD,getElem?_eq_getElem h]
 have:=sI.1 (getElem_mem h)
 exact⟨this.2.1,this.2.2,this.1⟩
theorem uP(d:j<=k)(h:k<(hO lens).length):gO lens ((hO lens).getD j 0)<=gO lens ((hO lens).getD k 0):=by
 rw[getD_eq_getElem?_getD,getElem?_eq_getElem (by omega),getD_eq_getElem?_getD,getElem?_eq_getElem h];rcases Nat.lt_or_ge j k with c|c
 .have e:(hO lens).Pairwise λa b=>gO lens a<=gO lens b:=Dh lens 24
  exact(List.pairwise_iff_getElem.1 e) j k (by omega) h c
 .obtain rfl:j=k:=by omega
  exact Nat.le_refl _
theorem OE(b:k<=(hO lens).length)(a:∀j,j<k->gO lens ((hO lens).getD j 0)<=n):2^(24-n)∣mn lens k:=by
 induction k with
 | zero=>simp[mn]
 | succ k ih=>
  rw[vM lens (by omega)];exact Nat.dvd_add (ih (by omega) λj hj=>a j (by omega)) (Nat.pow_dvd_pow 2 (by have:=a k (by omega);omega))
theorem KV(lens:List Nat):kZ lens 0=0:=by simp[kZ,mn]
theorem KU(h:k+1<(hO lens).length):kZ lens (k+1)=(kZ lens k+1)*2^(gO lens ((hO lens).getD (k+1) 0)-gO lens ((hO lens).getD k 0)):=by
 have d:=OE (lens:=lens) (k:=k) (n:=gO lens ((hO lens).getD k 0)) (by omega) λj hj=>uP (by omega) (by omega);have f:=uP (lens:=lens) (j:=k) (k:=k+1) (by omega) h;have g:=qw h;unfold kZ;rw[vM lens (by omega)];generalize gO lens ((hO lens).getD k 0)=a at *;generalize gO lens ((hO lens).getD (k+1) 0)=b at *;obtain⟨q,e⟩:=d;rw[e];have c:2^(24-a)*q+2^(24-a)=2^(24-b)*((q+1)*2^(b-a)):=by
  have:2^(24-a)=2^(24-b)*2^(b-a):=by rw[<-Nat.pow_add];congr 1;omega
  rw[this,<-mul_add_one,Nat.mul_assoc,Nat.mul_comm (2^(b-a))]
 rw[c,Nat.mul_div_cancel_left _ (Nat.two_pow_pos _),Nat.mul_div_cancel_left _ (Nat.two_pow_pos _)]
theorem ER(b:m8 lens)(h:k<(hO lens).length):kZ lens k<2^gO lens ((hO lens).getD k 0):=by
 have d:=vM lens h;have c:=EG lens (show k+1<=(hO lens).length by omega);rw[LS b.le]at c;have e:=Fp b;have f:=qw h;unfold kZ;generalize gO lens ((hO lens).getD k 0)=a at *;rw[div_lt_iff_lt_mul (Nat.two_pow_pos _),<-Nat.pow_add]
 have:a+(24-a)=24:=by omega
 rw[this]
 have:=Nat.two_pow_pos (24-a)
 omega
def lD(lens:List Nat):Nat->List Nat
 | 0=>replicate lens.length 0
 | k+1=>(lD lens k).set ((hO lens).getD k 0) (kZ lens k)
def nS(lens:List Nat):List Nat:=lD lens (hO lens).length
theorem qu(lens:List Nat):∀k,(lD lens k).length=lens.length
 | 0=>by simp[lD]
 | k+1=>by rw[lD,length_set,qu lens k]
theorem OA(a:j<(hO lens).length)(b:k<(hO lens).length)(h:(hO lens).getD j 0=(hO lens).getD k 0):j=k:=by
 rw[getD_eq_getElem?_getD,getElem?_eq_getElem a,getD_eq_getElem?_getD,getElem?_eq_getElem b]at h;exact(getElem_inj (zm lens 24)).1 h
theorem DZ{lens:List Nat}{j:Nat}(a:j<(hO lens).length):∀k,j<k->k<=(hO lens).length->(lD lens k).getD ((hO lens).getD j 0) 0=kZ lens j
 | 0,h,_=>by omega
 | k+1,h,hk=>by
  have b:=(qw a).2.2;rw[lD,getD_eq_getElem?_getD,getElem?_set];by_cases e:j=k
  .subst e
   rw[if_pos rfl,if_pos (by rw[qu];exact b)];rfl
  .rw[if_neg (λh2=>e (OA a (by omega) h2.symm)),<-getD_eq_getElem?_getD]
   exact DZ a k (by omega) (by omega)
def lS(lens:List Nat)(s:Nat):Nat:=(nS lens).getD s 0
theorem vQ(a:j<(hO lens).length):lS lens ((hO lens).getD j 0)=kZ lens j:=DZ a _ a (Nat.le_refl _)
theorem xM(b:∀n∈lens,n<=24)(a:0<gO lens s):∃j,j<(hO lens).length/\(hO lens).getD j 0=s:=by
 have c:s<lens.length:=by
  rcases Nat.lt_or_ge s lens.length with h|h
  .exact h
  .unfold gO at a
   rw[getD_eq_getElem?_getD,getElem?_eq_none h]at a;cases a
 have f:gO lens s<=24:=by
  unfold gO;rw[getD_eq_getElem?_getD,getElem?_eq_getElem c];exact b _ (getElem_mem c)
 have g:s∈hO lens:=sI.2 ⟨c,a,f⟩;obtain⟨j,d,e⟩:=getElem_of_mem g;exact⟨j,d,by rw[getD_eq_getElem?_getD,getElem?_eq_getElem d];exact e⟩
theorem ES(a:m8 lens)(c:0<gO lens s):lS lens s<2^gO lens s:=by
 obtain⟨j,b,rfl⟩:=xM a.le c;rw[vQ b];exact ER a b
end Go.Proofs.YtifdlkoepaepiaaGreatDoor
