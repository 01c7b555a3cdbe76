/- Lemmas. -/
set_option linter.all false
namespace Go.Proofs.YtnepiccbpokmiaaGreatDoor
open List Nat
variable {S:Int}{freq lens:List Nat}{M i j k m n s:Nat}
inductive El
 | coin (s w:Nat)
 | pack (a b:El)
instance:Inhabited El:=⟨.coin 0 0⟩
def El.wt:El->Nat
 | .coin _ w=>w
 | .pack a b=>a.wt+b.wt
def El.occ(s:Nat):El->Nat
 | .coin t _=>if t=s then 1 else 0
 | .pack a b=>a.occ s+b.occ s
def El.isCoin(s:Nat):El->Bool
 | .coin t _=>t==s
 | .pack _ _=>false
def El.parts:El->List El
 | .coin _ _=>[]
 | .pack a b=>[a,b]
def gT:List El->List El
 | a::b::l=>.pack a b::gT l
 | _=>[]
def it(s:Nat)(l:List El):Nat:=(l.map (El.occ s)).sum
def iq(s:Nat)(l:List El):Nat:=l.countP (El.isCoin s)
def iN(l:List El):List El:=l.flatMap El.parts
theorem rf:∀l:List El,(gT l).length=l.length / 2
 | []=>rfl
 | [_]=>by simp[gT]
 | a::b::l=>by
  have:=rf l
  simp only[gT,length_cons,this];omega
theorem sl(s:Nat)(a b:List El):it s (a++b)=it s a+it s b:=by simp[it]
theorem yb(s:Nat)(l:List El):it s l=iq s l+it s (iN l):=by
 induction l with
 | nil=>rfl
 | cons e l ih=>
  have g:it s (e::l)=e.occ s+it s l:=by simp[it]
  have h:iN (e::l)=e.parts++iN l:=rfl;rw[g,h,sl,ih]
  cases e with
  | coin t w=>
   have d:iq s (El.coin t w::l)=iq s l+(if t=s then 1 else 0):=by
    unfold iq;rw[countP_cons];simp[El.isCoin]
   rw[d];simp only[El.parts,El.occ,it,map_nil,sum_nil];omega
  | pack a b=>
   have d:iq s (El.pack a b::l)=iq s l:=by
    unfold iq;rw[countP_cons];simp[El.isCoin]
   rw[d];simp only[El.parts,El.occ,it,map_cons,map_nil,sum_cons,sum_nil];omega
def mA(n:Nat)(l:List El):Nat:=((range n).map λs=>iq s l).sum
theorem vL(s:Nat)(e:El)(l:List El):iq s (e::l)=iq s l+(if e.isCoin s then 1 else 0):=by
 unfold iq;rw[countP_cons]
theorem BO{α:Type}(l:List α)(f g:α->Nat):(l.map λx=>f x+g x).sum=(l.map f).sum+(l.map g).sum:=by
 induction l with
 | nil=>rfl
 | cons a l ih=>simp only[map_cons,sum_cons,ih];omega
theorem rr{α:Type}(l:List α)(f:α->Nat)(h:∀x∈l,f x=0):(l.map f).sum=0:=by
 induction l with
 | nil=>rfl
 | cons a l ih=>simp only[map_cons,sum_cons];rw[h a (by simp),ih λx hx=>h x (by simp[hx])]
theorem Oc(n t:Nat)(h:t<n):((range n).map λs=>if t==s then 1 else 0).sum=1:=by
 induction n with
 | zero=>omega
 | succ n ih=>
  rw[range_succ,map_append,sum_append];simp only[map_cons,map_nil,sum_cons,sum_nil];by_cases h1:t=n
  .subst h1
   rw[rr]
   .simp
   .intro x d
    have:=List.mem_range.1 d
    have:¬t=x:=by omega
    simp[this]
  .rw[ih (by omega)]
   simp[h1]
def tI(n:Nat)(l:List El):Prop:=∀e∈l,match e with | .coin t _=>t<n | .pack _ _=>True
theorem xc(n:Nat)(l:List El)(h:tI n l):2*l.length=2*mA n l+(iN l).length:=by
 induction l with
 | nil=>
  have:mA n []=0:=by
   unfold mA;exact rr _ _ λx _=>rfl
  simp[this,iN]
 | cons e l d=>
  have d:=d λx hx=>h x (by simp[hx]);have o:iN (e::l)=e.parts++iN l:=rfl;have g:mA n (e::l)=mA n l+((range n).map λs=>if e.isCoin s then 1 else 0).sum:=by
   unfold mA;rw[<-BO]
   congr 1
   apply map_congr_left;intro s _;exact vL s e l
  rw[g,o,length_append,length_cons]
  cases e with
  | coin t w=>
   have p:t<n:=h (.coin t w) (by simp);have q:=Oc n t p;have r:((range n).map λs=>if (El.coin t w).isCoin s then 1 else 0).sum=1:=q;rw[r];simp only[El.parts,length_nil];omega
  | pack a b=>
   rw[rr]
   .simp only[El.parts,length_cons,length_nil];omega
   .intro x _;rfl
def lR(j m:Nat):Nat:=2^(j+1)-2^(j+1-m)
theorem xN(j:Nat):lR j 0=0:=by simp[lR]
theorem J0(h:m<=j):lR (j+1) (m+1)=2^(j+1)+lR j m:=by
 unfold lR;have e:j+1+1-(m+1)=j+1-m:=by omega
 have g:2^(j+1-m)<=2^(j+1):=Nat.pow_le_pow_right (by decide) (by omega);have d:2^(j+1+1)=2*2^(j+1):=by rw[Nat.pow_succ,Nat.mul_comm]
 rw[e,d];omega
inductive pT (n:Nat):Nat->List El->Prop
 | nil:pT n 0 []
 | step {j:Nat} {S:List El} (hs:tI n S) (h1:∀s,iq s S<=1) (h2:∀s,0<iq s (iN S)->0<iq s S) (h:pT n j (iN S)):pT n (j+1) S
theorem pT.occ_le{S:List El}(h:pT n j S)(s:Nat):it s S<=j/\(0<it s S->0<iq s S):=by
 induction h with
 | nil=>exact⟨Nat.le_refl _,λh=>by simp[it]at h⟩
 | step hs h1 h2 h ih=>
  rename_i j S
  rw[yb]
  have:=h1 s
  refine⟨by omega,λh3=>?_⟩;by_cases h4:0<it s (iN S)
  .exact h2 s (ih.2 h4)
  .omega
theorem pT.sum{S:List El}(h:pT n j S):2^j*S.length=((range n).map λs=>lR j (it s S)).sum\/j=0:=by
 induction h with
 | nil=>exact .inr rfl
 | step hs h1 h2 h g=>
  rename_i j S
  left;have o:=xc n S hs;have r:((range n).map λs=>lR (j+1) (it s S)).sum=2^(j+1)*mA n S+((range n).map λs=>lR j (it s (iN S))).sum:=by
   have e:∀l:List Nat,(l.map λs=>lR (j+1) (it s S)).sum=2^(j+1)*(l.map λs=>iq s S).sum+(l.map λs=>lR j (it s (iN S))).sum:=by
    intro l
    induction l with
    | nil=>rfl
    | cons s l il=>
     simp only[map_cons,sum_cons];rw[il,Nat.mul_add];have q:=h.occ_le s
     have:lR (j+1) (it s S)=2^(j+1)*iq s S+lR j (it s (iN S)):=by
      rw[yb];have y:=h1 s;rcases eq_zero_or_pos (iq s S)with p|p
      .have v:it s (iN S)=0:=by
        rcases eq_zero_or_pos (it s (iN S))with d|d
        .exact d
        .have:=h2 s (q.2 d);omega
       rw[p,v,xN,xN];rfl
      .obtain d:iq s S=1:=by omega
       rw[d,Nat.add_comm 1,J0 q.1];omega
     omega
   exact e _
  rw[r];rcases g with g|g
  .rw[<-g]
   have t:2^(j+1)*S.length=2^j*(2*S.length):=(by rw[Nat.pow_succ,Nat.mul_assoc]);have u:2^(j+1)*mA n S=2^j*(2*mA n S):=(by rw[Nat.pow_succ,Nat.mul_assoc]);rw[t,u,o,Nat.mul_add]
  .subst g
   have w:iN S=[]:=by
    generalize hU:iN S=U at h;cases h;rfl
   rw[w]at o⊢;have x:((range n).map λs=>lR 0 (it s [])).sum=0:=rr _ _ λs _=>by
    show lR 0 0=0;rfl
   rw[x];simp only[length_nil]at o
   have:S.length=mA n S:=by omega
   rw[this];rfl
inductive Rows (C:List El):Nat->List El->Prop
 | one {R:List El} (hp:R.Perm C) (hs:R.Pairwise λa b=>a.wt<=b.wt):Rows C 1 R
 | next {j:Nat} {R R':List El} (h:Rows C j R) (hp:R'.Perm (C++gT R)) (hs:R'.Pairwise λa b=>a.wt<=b.wt):Rows C (j+1) R'
structure pk (n:Nat) (C:List El):Prop where
 coin:∀e∈C,∃s w,e=.coin s w/\s<n/\0<w
 once:∀s,iq s C<=1
theorem vN{a b:List El}(h:a.Perm b):iq s a=iq s b:=h.countP_eq _
theorem rY(s:Nat)(a b:List El):iq s (a++b)=iq s a+iq s b:=by simp[iq]
theorem vG(s:Nat):∀l:List El,iq s (gT l)=0
 | []=>rfl
 | [_]=>by simp[gT,iq]
 | a::b::l=>by
  rw[gT,vL,vG s l];rfl
theorem pF{l:List El}:0<iq s l ↔ ∃w,El.coin s w∈l:=by
 unfold iq;rw[countP_pos_iff];constructor
 .rintro⟨e,d,h⟩
  cases e with
  | coin t w=>
   simp only[El.isCoin,beq_iff_eq]at h;subst h;exact⟨w,d⟩
  | pack a b=>cases h
 .rintro⟨w,h⟩
  exact⟨_,h,by simp[El.isCoin]⟩
theorem AB(a b:List El):iN (a++b)=iN a++iN b:=by simp[iN]
theorem vV{C:List El}(h:pk n C):iN C=[]:=by
 unfold iN;rw[flatMap_eq_nil_iff];intro e d;obtain⟨s,w,rfl,_⟩:=h.coin e d;rfl
theorem se:∀l:List El,∃r,iN (gT l)++r=l/\r.length<=1
 | []=>⟨[],rfl,by simp⟩
 | [a]=>⟨[a],rfl,by simp⟩
 | a::b::l=>by
  obtain⟨r,d,g⟩:=se l;refine⟨r,?_,g⟩;have e:iN (gT (a::b::l))=a::b::iN (gT l):=rfl;rw[e,cons_append,cons_append,d]
theorem Rows.coins{C:List El}(o:pk n C){R:List El}(h:Rows C j R):(∀s,iq s R=iq s C)/\(∀e∈R,0<e.wt)/\tI n R/\R.Pairwise λa b=>a.wt<=b.wt:=by
 induction h with
 | one hp hs=>
  refine⟨λs=>vN hp,λe d=>?_,λe d=>?_,hs⟩
  .obtain⟨s,w,rfl,_,h⟩:=o.coin e (hp.mem_iff.1 d)
   exact h
  .obtain⟨s,w,rfl,h,_⟩:=o.coin e (hp.mem_iff.1 d)
   exact h
 | next h hp hs ih=>
  rename_i j R R'
  obtain⟨t,r,u,v⟩:=ih;have q:∀l:List El,(∀e∈l,0<e.wt)->∀e∈gT l,0<e.wt/\∃a b,e=.pack a b:=by
   intro l
   induction l using gT.induct with
   | case1 a b l il=>
    intro p e d;rw[gT]at d;rcases List.mem_cons.1 d with rfl|d
    .have:=p a (by simp)
     exact⟨by show 0<a.wt+b.wt;omega,a,b,rfl⟩
    .exact il (λe h=>p e (by simp[h])) e d
   | case2 l p=>
    intro _ e d
    cases l with
    | nil=>simp[gT]at d
    | cons a l=>
     cases l with
     | nil=>simp[gT]at d
     | cons b l=>exact absurd rfl (p a b l)
  refine⟨λs=>?_,λe d=>?_,λe d=>?_,hs⟩
  .rw[vN hp,rY,vG];rfl
  .rcases List.mem_append.1 (hp.mem_iff.1 d)with g|g
   .obtain⟨s,w,rfl,_,h⟩:=o.coin e g
    exact h
   .exact(q R r e g).1
  .rcases List.mem_append.1 (hp.mem_iff.1 d)with g|g
   .obtain⟨s,w,rfl,h,_⟩:=o.coin e g
    exact h
   .obtain⟨_,a,b,rfl⟩:=q R r e g
    trivial
structure pp (R S:List El):Prop where
 part:∃T,(S++T).Perm R
 down:∀x∈R,∀y∈S,x.wt<y.wt->x∈S
theorem NV{x y:El}:∀ {R:List El},R.Pairwise (λa b=>a.wt<=b.wt)->x∈R->x.wt<y.wt->∀a b,El.pack a b∈gT R->(y=a\/y=b) -> ∃c d,El.pack c d∈gT R/\(x=c\/x=d)/\((El.pack c d).wt<(El.pack a b).wt\/El.pack c d=El.pack a b):=by
 intro R
 induction R using gT.induct with
 | case1 p q l il=>
  intro C u B a b e r;have ad:=List.pairwise_cons.1 C;have w:=List.pairwise_cons.1 ad.2;rw[gT]at e⊢;have t:∀z∈l,q.wt<=z.wt:=w.1;have J:p.wt<=q.wt:=ad.1 q (by simp);have D:∀c d,El.pack c d∈gT l->c∈l/\d∈l:=by
   intro c d h
   have:∀l:List El,El.pack c d∈gT l->c∈l/\d∈l:=by
    intro l
    induction l using gT.induct with
    | case1 p q l il=>
     intro h;rw[gT]at h;rcases List.mem_cons.1 h with h|h
     .injection h with g o
      subst g;subst o;simp
     .have:=il h;simp[this]
    | case2 l hl=>
     intro h
     cases l with
     | nil=>simp[gT]at h
     | cons a l=>
      cases l with
      | nil=>simp[gT]at h
      | cons b l=>exact absurd rfl (hl a b l)
   exact this l h
  have A:x=p\/x=q\/x∈l:=by simpa using u
  rcases List.mem_cons.1 e with e|e
  .injection e with g o
   subst g;subst o;rcases A with h|h|h
   .exact⟨a,b,by simp,.inl h,.inr rfl⟩
   .exact⟨a,b,by simp,.inr h,.inr rfl⟩
   .have:=t x h
    rcases r with rfl|rfl<;>omega
  .obtain⟨F,G⟩:=D a b e
   have H:=t a F;have I:=t b G;have v:(x=p\/x=q)->∃c d,El.pack c d∈El.pack p q::gT l/\(x=c\/x=d)/\((El.pack c d).wt<(El.pack a b).wt\/El.pack c d=El.pack a b):=λh=>by
    refine⟨p,q,by simp,h,.inl ?_⟩;show p.wt+q.wt<a.wt+b.wt;rcases h with rfl|rfl<;>rcases r with rfl|rfl<;>omega
   rcases A with h|h|h
   .exact v (.inl h)
   .exact v (.inr h)
   .obtain⟨c,d,g,o,E⟩:=il w.2 h B a b e r
    exact⟨c,d,by simp[g],o,E⟩
 | case2 l hl=>
  intro C u B a b e r
  cases l with
  | nil=>simp at u
  | cons p l=>
   cases l with
   | nil=>simp[gT]at e
   | cons q l=>exact absurd rfl (hl p q l)
theorem pH{e:El}{l:List El}:e∈iN l ↔ ∃a b,El.pack a b∈l/\(e=a\/e=b):=by
 unfold iN;rw[mem_flatMap];constructor
 .rintro⟨p,g,d⟩
  cases p with
  | coin t w=>simp[El.parts]at d
  | pack a b=>
   simp[El.parts]at d;exact⟨a,b,g,d⟩
 .rintro⟨a,b,g,d⟩
  exact⟨_,g,by simpa[El.parts]using d⟩
theorem pp.below{C R R' S:List El}(q:pk n C)(E:Rows C j R)(t:R'.Perm (C++gT R))(h:pp R' S):pp R (iN S):=by
 obtain⟨I,J,K,z⟩:=E.coins q;refine⟨?_,?_⟩
 .obtain⟨T,hT⟩:=h.part
  obtain⟨r,F,_⟩:=se R;refine⟨iN T++r,?_⟩;have g:(iN (S++T)).Perm (iN (C++gT R)):=(hT.trans t).flatMap_right _;rw[AB,AB,vV q,nil_append]at g;have l:=g.append_right r;rw[F,append_assoc]at l;exact l
 .intro x G y H B
  obtain⟨a,b,o,ad⟩:=pH.1 H;have v:El.pack a b∈R':=by
   obtain⟨T,hT⟩:=h.part;exact hT.mem_iff.1 (by simp[o])
  have u:El.pack a b∈gT R:=by
   rcases List.mem_append.1 (t.mem_iff.1 v)with p|p
   .obtain⟨s,w,D,_⟩:=q.coin _ p
    cases D
   .exact p
  obtain⟨c,d,g,l,e⟩:=NV z G B a b u ad;have A:El.pack c d∈S:=by
   rcases e with e|e
   .exact h.down _ (t.mem_iff.2 (by simp[g])) _ o e
   .rw[e];exact o
  exact pH.2 ⟨c,d,A,l⟩
theorem pp.chosen{C:List El}(l:pk n C):∀ {j:Nat} {R S:List El},Rows C j R->pp R S->pT n j S:=by
 intro j
 induction j with
 | zero=>intro R S u _;cases u
 | succ j ih=>
  intro R S u x;obtain⟨O,aq,P,ar⟩:=u.coins l;obtain⟨T,hT⟩:=x.part;have v:∀e∈S,e∈R:=λe g=>hT.mem_iff.1 (by simp[g]);have F:tI n S:=λe g=>P e (v e g);have E:∀s,iq s S<=1:=λs=>by
   have o:=vN (s:=s) hT;rw[rY,O s]at o
   have:=l.once s
   omega
  have G:∀s,0<iq s (iN S)->0<iq s S:=λs hs=>by
   obtain⟨w,K⟩:=pF.1 hs;obtain⟨a,b,A,g⟩:=pH.1 K
   -- the coin of s in R
   have Q:∃y,El.coin s y∈R/\y<(El.pack a b).wt:=by
    cases u with
    | one hp _=>
     obtain⟨t,w2,B,_⟩:=l.coin _ (hp.mem_iff.1 (v _ A));cases B
    | next h hp _=>
     rename_i R0 _
     obtain⟨k1,k2,k3,k4⟩:=h.coins l;have X:El.coin s w∈R0:=by
      have hd:=(pp.below l h hp x).part;obtain⟨T',N⟩:=hd;exact N.mem_iff.1 (by simp[K])
     have aj:∀q w2,El.coin s q∈C->El.coin s w2∈C->q=w2:=λq w2 o d=>by
      have I:=l.once s;obtain⟨l1,l2,rfl⟩:=append_of_mem o;rw[rY,vL]at I;simp only[El.isCoin,beq_self_eq_true,if_true]at I;rcases List.mem_append.1 d with d|d
      .have:0<iq s l1:=pF.2 ⟨_,d⟩
       omega
      .rcases List.mem_cons.1 d with d|d
       .injection d with _ d;exact d.symm
       .have:0<iq s l2:=pF.2 ⟨_,d⟩
        omega
     have Y:∀ {L:Nat} {z:List El},Rows C L z->∀q,El.coin s q∈z->El.coin s q∈C:=by
      intro L z o q H
      cases o with
      | one hp _=>exact hp.mem_iff.1 H
      | next _ hp _=>
       rcases List.mem_append.1 (hp.mem_iff.1 H)with p|p
       .exact p
       .exfalso
        have:0<iq s (gT _):=pF.2 ⟨_,p⟩
        rw[vG]at this;omega
     have W:=Y h w X;refine⟨w,hp.mem_iff.2 (by simp[W]),?_⟩;have D:El.pack a b∈gT R0:=by
      rcases List.mem_append.1 (hp.mem_iff.1 (v _ A))with p|p
      .obtain⟨t,w2,B,_⟩:=l.coin _ p
       cases B
      .exact p
     have ad:0<a.wt/\0<b.wt:=by
      obtain⟨r,J,_⟩:=se R0;have Z:a∈R0:=(by rw[<-J];exact mem_append_left _ (pH.2 ⟨a,b,D,.inl rfl⟩));have hb:b∈R0:=(by rw[<-J];exact mem_append_left _ (pH.2 ⟨a,b,D,.inr rfl⟩));exact⟨k2 a Z,k2 b hb⟩
     show w<a.wt+b.wt;rcases g with g|g
     .rw[<-g]at ad⊢;show w<w+b.wt;omega
     .rw[<-g]at ad⊢;show w<a.wt+w;omega
   obtain⟨y,o,d⟩:=Q;exact pF.2 ⟨y,x.down _ o _ A d⟩
  cases u with
  | one hp hs=>
   have hu:iN S=[]:=by
    unfold iN;rw[flatMap_eq_nil_iff];intro e g;obtain⟨s,w,rfl,_⟩:=l.coin e (hp.mem_iff.1 (v e g));rfl
   refine .step F E G ?_;rw[hu];exact .nil
  | next h hp hs=>exact .step F E G (ih h (pp.below l h hp x))
theorem LK{R:List El}(d:R.Pairwise λa b=>a.wt<=b.wt)(m:Nat):pp R (R.take m):=by
 refine⟨⟨R.drop m,by rw[take_append_drop]⟩,?_⟩;intro x e y g l;rw[<-take_append_drop m R]at e d;rcases List.mem_append.1 e with h|h
 .exact h
 .have:=(List.pairwise_append.1 d).2.2 y g x h
  omega
theorem Rows.length{C:List El}(d:pk n C)(l:1<=C.length){R:List El}(h:Rows C j R):R.length+1+(C.length-1) / 2^(j-1)=2*C.length:=by
 induction h with
 | one hp hs=>
  rw[hp.length_eq];have e:C.length-1=(C.length-1) / 2^(1-1):=by show _=_ / 1;rw[Nat.div_one]
  omega
 | next h hp hs ih=>
  rename_i j R R'
  rw[hp.length_eq,length_append,rf];have g:1<=j:=by cases h<;>omega
  have e:2^(j+1-1)=2^(j-1)*2:=by rw[<-Nat.pow_succ];congr 1;omega
  rw[e,<-Nat.div_div_eq_div_mul];generalize (C.length-1) / 2^(j-1)=q at *;omega
theorem FX(R:List El):iN (gT R)=R.take (2*(R.length / 2)):=by
 obtain⟨r,g,t⟩:=se R;have d:(iN (gT R)).length=2*(R.length / 2):=by
  have u:(iN (gT R)).length+r.length=R.length:=by
   have:=congrArg length g
   simpa using this
  have o:∀l:List El,(iN (gT l)).length%2=0:=by
   intro l
   induction l using gT.induct with
   | case1 p q l il=>
    have e:iN (gT (p::q::l))=p::q::iN (gT l):=rfl;rw[e,length_cons,length_cons];omega
   | case2 l d=>
    cases l with
    | nil=>rfl
    | cons a l=>
     cases l with
     | nil=>simp[gT,iN]
     | cons b l=>exact absurd rfl (d a b l)
  have:=o R
  omega
 rw[<-d];have h:=congrArg (take (iN (gT R)).length) g;rw[take_left']at h
 .exact h
 .rfl
theorem Rows.all{C:List El}(w:pk n C)(H:2<=C.length){R:List El}(h:Rows C j R):∀e∈C,e∈R.take (2*C.length-2):=by
 induction h with
 | one hp hs=>
  intro e g;rw[take_of_length_le (by rw[hp.length_eq];omega)];exact hp.mem_iff.2 g
 | next h hp hs ih=>
  rename_i j R R'
  intro e g;have D:=Rows.length w (by omega) h;generalize (C.length-1) / 2^(j-1)=q at D;have l:=hp.length_eq;rw[length_append,rf]at l;have p:e∈R':=hp.mem_iff.2 (by simp[g]);by_cases hle:R'.length<=2*C.length-2
  .rw[take_of_length_le hle]
   exact p
  .have ad:2*(R.length / 2)=2*C.length-2:=by omega
   have v:=ih e g;rw[<-ad,<-FX]at v;obtain⟨a,b,o,E⟩:=pH.1 v;obtain⟨k1,k2,k3,k4⟩:=h.coins w;have G:0<a.wt/\0<b.wt:=by
    obtain⟨r,l,_⟩:=se R;have A:a∈R:=(by rw[<-l];exact mem_append_left _ (pH.2 ⟨a,b,o,.inl rfl⟩));have B:b∈R:=(by rw[<-l];exact mem_append_left _ (pH.2 ⟨a,b,o,.inr rfl⟩));exact⟨k2 a A,k2 b B⟩
   have y:e.wt<(El.pack a b).wt:=by
    show e.wt<a.wt+b.wt;rcases E with rfl|rfl<;>omega
   have u:El.pack a b∈R':=hp.mem_iff.2 (by simp[o]);rw[<-take_append_drop (2*C.length-2) R']at p u hs;rcases List.mem_append.1 p with d|d
   .exact d
   .exfalso
    have x:(R'.drop (2*C.length-2)).length=1:=(by rw[length_drop];omega);obtain⟨z,F⟩:=List.length_eq_one_iff.1 x;rw[F]at d u hs
    have:e=z:=by simpa using d
    subst this;rcases List.mem_append.1 u with t|t
    .have:=(List.pairwise_append.1 hs).2.2 _ t e (by simp)
     omega
    .have:El.pack a b=e:=by simpa using t
     rw[<-this]at y;omega
theorem Rows.full{C:List El}(g:pk n C)(H:2<=C.length)(N:C.length<=2^(j-1)){R:List El}(h:Rows C j R):(∀s,it s (R.take (2*C.length-2))<=j)/\(∀s,0<it s (R.take (2*C.length-2)) ↔ 0<iq s C) /\ ((range n).map λs=>if it s (R.take (2*C.length-2))=0 then 0 else 2^(j+1-it s (R.take (2*C.length-2)))).sum=2^(j+1):=by
 have q:=pp.chosen g h (LK (h.coins g).2.2.2 (2*C.length-2));have ad:=h.all g H;have x:=h.length g (by omega);have I:(C.length-1) / 2^(j-1)=0:=div_eq_of_lt (by omega);rw[I]at x;have z:(R.take (2*C.length-2)).length=2*C.length-2:=by rw[length_take];omega
 have A:=(h.coins g).1;have y:∀s,iq s (R.take (2*C.length-2))<=iq s C:=λs=>by
  have e:=rY s (R.take (2*C.length-2)) (R.drop (2*C.length-2));rw[take_append_drop,A s]at e;omega
 generalize R.take (2*C.length-2)=S at *;have t:∀s,0<it s S ↔ 0<iq s C:=λs=>by
  constructor
  .intro d
   have:=(q.occ_le s).2 d
   have:=y s
   omega
  .intro d
   obtain⟨w,J⟩:=pF.1 d;have u:0<iq s S:=pF.2 ⟨w,ad _ J⟩;rw[yb];omega
 refine⟨λs=>(q.occ_le s).1,t,?_⟩;have v:=xc n C (λe he=>by
  obtain⟨s,w,rfl,d,_⟩:=g.coin e he;exact d)
 rw[vV g,length_nil]at v;have p:=q.sum;have B:j≠0:=by rintro rfl;cases h
 have p:2^j*S.length=((range n).map λs=>lR j (it s S)).sum:=by
  rcases p with d|d
  .exact d
  .exact absurd d B
 have D:∀l:List Nat,(l.map λs=>lR j (it s S)).sum+(l.map λs=>if it s S=0 then 0 else 2^(j+1-it s S)).sum=2^(j+1)*(l.map λs=>iq s C).sum:=by
  intro l
  induction l with
  | nil=>rfl
  | cons s l il=>
   simp only[map_cons,sum_cons,Nat.mul_add];rw[<-il];have d:=g.once s;have u:=t s;have L:lR j (it s S)+(if it s S=0 then 0 else 2^(j+1-it s S))=2^(j+1)*iq s C:=by
    rcases eq_zero_or_pos (it s S)with r|r
    .have:iq s C=0:=by omega
     rw[r,this,xN];rfl
    .have:iq s C=1:=by have:=u.1 r;omega
     rw[if_neg (by omega),this,Nat.mul_one];unfold lR
     have:2^(j+1-it s S)<=2^(j+1):=Nat.pow_le_pow_right (by decide) (by omega)
     omega
   omega
 have o:=D (range n);rw[<-p,z]at o;have E:((range n).map λs=>iq s C).sum=mA n C:=rfl;rw[E]at o;have F:C.length=mA n C:=by omega
 rw[<-F]at o;have G:2^j*(2*C.length-2)=2^(j+1)*C.length-2^(j+1):=by
  have:2*C.length-2=2*(C.length-1):=by omega
  rw[this,<-Nat.mul_assoc,<-Nat.pow_succ,Nat.mul_sub,Nat.mul_one]
 rw[G]at o;have K:2^(j+1)<=2^(j+1)*C.length:=Nat.le_mul_of_pos_right _ (by omega);omega
def iC(freq:List Nat)(i:Nat):List El:=((range i).filter λs=>decide (0<freq.getD s 0)).map λs=>.coin s (freq.getD s 0)
theorem AK(freq:List Nat):iC freq 0=[]:=rfl
theorem vO(freq:List Nat)(i:Nat):iC freq (i+1)=iC freq i++(if 0<freq.getD i 0 then[.coin i (freq.getD i 0)]else[]):=by
 unfold iC;rw[range_succ,filter_append,map_append]
 congr 1
 rw[filter_cons,filter_nil];by_cases h:0<freq.getD i 0
 .rw[if_pos (by simpa using h),if_pos h];rfl
 .rw[if_neg (by simpa using h),if_neg h];rfl
theorem Bo(freq:List Nat)(i:Nat):(iC freq i).length<=i:=by
 unfold iC;rw[length_map];refine Nat.le_trans (length_filter_le _ _) ?_;rw[length_range];exact Nat.le_refl _
theorem qh{e:El}(h:e∈iC freq i):∃s,s<i/\0<freq.getD s 0/\e=.coin s (freq.getD s 0):=by
 obtain⟨s,l,rfl⟩:=List.mem_map.1 h;obtain⟨d,g⟩:=List.mem_filter.1 l;exact⟨s,List.mem_range.1 d,of_decide_eq_true g,rfl⟩
theorem sp(freq:List Nat)(s:Nat):∀i,iq s (iC freq i)=if s<i/\0<freq.getD s 0 then 1 else 0
 | 0=>by simp[AK,iq]
 | i+1=>by
  rw[vO,rY,sp freq s i];by_cases h:0<freq.getD i 0
  .rw[if_pos h]
   have e:iq s [El.coin i (freq.getD i 0)]=if i=s then 1 else 0:=by
    unfold iq;rw[countP_cons];simp[El.isCoin]
   rw[e];by_cases h2:i=s
   .subst h2
    rw[if_neg (by omega),if_pos rfl,if_pos ⟨by omega,h⟩]
   .rw[if_neg h2]
    by_cases h3:s<i/\0<freq.getD s 0
    .rw[if_pos h3,if_pos ⟨by omega,h3.2⟩]
    .rw[if_neg h3,if_neg (by omega)]
  .rw[if_neg h]
   have e:iq s []=0:=rfl;rw[e];by_cases h3:s<i/\0<freq.getD s 0
   .rw[if_pos h3,if_pos ⟨by omega,h3.2⟩]
   .rw[if_neg h3]
    by_cases h4:s=i
    .subst h4;rw[if_neg (by omega)]
    .rw[if_neg (by omega)]
theorem qW(freq:List Nat):pk freq.length (iC freq freq.length):=
 ⟨λe he=>by
  obtain⟨s,d,g,rfl⟩:=qh he;exact⟨s,_,rfl,d,g⟩,λs=>by rw[sp];split<;>omega⟩
def i9(n:Nat)(S:List El):List Nat:=(range n).map λs=>it s S
theorem nf(n:Nat)(S:List El):(i9 n S).length=n:=by simp[i9]
theorem Cl(n:Nat):i9 n []=replicate n 0:=by
 apply ext_getElem
 .simp[i9]
 .intro i d e
  simp[i9,it]
theorem sj(S:List El)(h:s<n):(i9 n S).getD s 0=it s S:=by
 simp[i9,getD_eq_getElem?_getD,h]
def kH(lens:List Nat):Nat:=(lens.map λn=>if n=0 then 0 else 2^(24-n)).sum
def kp(lens:List Nat):Nat:=lens.countP λn=>decide (0<n)
structure lL (lens:List Nat):Prop where
 n1:1<=lens.length
 n2:lens.length<=1024
 le:∀n∈lens,n<=24
 full:(kp lens=1/\∀n∈lens,n<=1)\/(kp lens≠1/\kH lens=2^24)
theorem Es:∀l:List El,(∀e∈l,e.wt<=M)->∀e∈gT l,e.wt<=M+M:=by
 intro l
 induction l using gT.induct with
 | case1 a b l il=>
  intro h e d;rw[gT]at d;rcases List.mem_cons.1 d with rfl|d
  .have:=h a (by simp)
   have:=h b (by simp)
   show a.wt+b.wt<=_;omega
  .exact il (λe h1=>h e (by simp[h1])) e d
 | case2 l hl=>
  intro _ e d
  cases l with
  | nil=>simp[gT]at d
  | cons a l=>
   cases l with
   | nil=>simp[gT]at d
   | cons b l=>exact absurd rfl (hl a b l)
theorem Rows.wt_le{C:List El}(l:∀e∈C,e.wt<=M){R:List El}(h:Rows C j R):∀e∈R,e.wt<=M*2^j:=by
 induction h with
 | one hp hs=>
  intro e g
  have:=l e (hp.mem_iff.1 g)
  omega
 | next h hp hs ih=>
  rename_i j R R'
  intro e g;have o:M*2^(j+1)=M*2^j+M*2^j:=by rw[Nat.pow_succ,<-Nat.mul_assoc];omega
  rcases List.mem_append.1 (hp.mem_iff.1 g)with d|d
  .have p:=l e d
   have q:M<=M*2^(j+1):=Nat.le_mul_of_pos_right _ (Nat.two_pow_pos _);omega
  .rw[o]
   exact Es R ih e d
theorem LJ(l:List Nat)(f:Nat->Nat)(k:Nat):(l.map λs=>k*f s).sum=k*(l.map f).sum:=by
 induction l with
 | nil=>simp
 | cons a l ih=>simp only[map_cons,sum_cons,ih,Nat.mul_add]
theorem AS(x:freq.length<=1024)(y:2<=(iC freq freq.length).length){R:List El}(h:Rows (iC freq freq.length) 12 R):lL (i9 freq.length (R.take (2*(iC freq freq.length).length-2)))/\(∀s,s<freq.length->(0<(i9 freq.length (R.take (2*(iC freq freq.length).length-2))).getD s 0 ↔ 0<freq.getD s 0)) /\ ∀s,it s (R.take (2*(iC freq freq.length).length-2))<=12:=by
 have A:=Bo freq freq.length;obtain⟨k1,k2,k3⟩:=Rows.full (qW freq) y (j:=12) (by omega) h;have t:=sp freq;have z:2<=mA freq.length (iC freq freq.length):=by
  have u:tI freq.length (iC freq freq.length):=λe he=>by
   obtain⟨s,w,rfl,d,_⟩:=(qW freq).coin e he;exact d
  have:=xc _ _ u
  rw[vV (qW freq),length_nil]at this;omega
 generalize R.take (2*(iC freq freq.length).length-2)=S at *;refine⟨⟨?_,?_,?_,.inr ⟨?_,?_⟩⟩,?_,k1⟩
 .rw[nf];omega
 .rw[nf];exact x
 .intro n q
  obtain⟨s,_,rfl⟩:=List.mem_map.1 q
  have:=k1 s
  omega
 ·-- how many are used
  have e:kp (i9 freq.length S)=mA freq.length (iC freq freq.length):=by
   unfold kp i9 mA;rw[countP_map]
   have:∀l:List Nat,l.countP ((λn=>decide (0<n)) ∘ λs=>it s S)=(l.map λs=>iq s (iC freq freq.length)).sum:=by
    intro l
    induction l with
    | nil=>rfl
    | cons s l il=>
     rw[countP_cons,map_cons,sum_cons,il];have d:=k2 s;have g:=(qW freq).once s;by_cases h7:0<it s S
     .have p:=d.1 h7
      simp only[Function.comp,h7,decide_true,if_true];omega
     .have p:iq s (iC freq freq.length)=0:=by
       rcases eq_zero_or_pos (iq s (iC freq freq.length))with o|o
       .exact o
       .exact absurd (d.2 o) h7
      simp only[Function.comp,h7,decide_false];rw[p];simp
   exact this _
  omega
 .have e:∀n:Nat,n<=12->(if n=0 then 0 else 2^(24-n))=2^11*(if n=0 then 0 else 2^(12+1-n)):=by
   intro n q;by_cases h0:n=0
   .rw[if_pos h0,if_pos h0]
   .rw[if_neg h0,if_neg h0,<-Nat.pow_add]
    congr 1
    omega
  have v:kH (i9 freq.length S)=2^11*((range freq.length).map λs=>if it s S=0 then 0 else 2^(12+1-it s S)).sum:=by
   rw[<-LJ];unfold kH i9;rw[map_map]
   congr 1
   apply map_congr_left;intro s _;exact e _ (k1 s)
  rw[v,k3,<-Nat.pow_add]
 .intro s r
  rw[sj _ r];have d:=k2 s;rw[t s freq.length]at d;rw[d];constructor
  .intro g
   split at g
   .rename_i h7;exact h7.2
   .omega
  .intro g
   rw[if_pos ⟨r,g⟩];omega
def gI(lens:List Nat)(s:Nat):Nat:=lens.getD s 0
def kb(lens:List Nat)(n i:Nat):List Nat:=(range i).filter λs=>gI lens s==n
def jP(lens:List Nat)(m:Nat):List Nat:=(range m).flatMap λk=>kb lens (k+1) lens.length
def gO(lens:List Nat):List Nat:=jP lens 24
theorem so(lens:List Nat)(m:Nat):jP lens (m+1)=jP lens m++kb lens (m+1) lens.length:=by
 unfold jP;rw[range_succ,flatMap_append];simp
theorem AH(lens:List Nat)(n i:Nat):kb lens n (i+1)=kb lens n i++(if gI lens i=n then[i]else[]):=by
 unfold kb;rw[range_succ,filter_append,filter_cons,filter_nil]
 congr 1
 by_cases h:gI lens i=n
 .rw[if_pos (by simpa using h),if_pos h]
 .rw[if_neg (by simpa using h),if_neg h]
theorem re:s∈kb lens n i ↔ s<i/\gI lens s=n:=by
 unfold kb;rw[mem_filter,mem_range];simp
theorem su:s∈jP lens m ↔ s<lens.length/\0<gI lens s/\gI lens s<=m:=by
 unfold jP;rw[mem_flatMap];constructor
 .rintro⟨k,h,l⟩
  have d:=List.mem_range.1 h;obtain⟨e,g⟩:=re.1 l;exact⟨e,by omega,by omega⟩
 .rintro⟨d,e,g⟩
  exact⟨gI lens s-1,List.mem_range.2 (by omega),re.2 ⟨d,by omega⟩⟩
theorem BJ(lens:List Nat):∀m,(jP lens m).Pairwise λa b=>gI lens a<=gI lens b
 | 0=>by simp[jP]
 | m+1=>by
  rw[so,pairwise_append];refine⟨BJ lens m,?_,λa e b g=>?_⟩
  .rw[pairwise_iff_forall_sublist]
   intro a b d;have e:=re.1 (d.subset (by simp:a∈[a,b]));have g:=re.1 (d.subset (by simp:b∈[a,b]));omega
  .have h:=su.1 e
   have l:=re.1 g;omega
theorem xI(lens:List Nat):∀m,(jP lens m).Nodup
 | 0=>by simp[jP]
 | m+1=>by
  rw[so,nodup_append];refine⟨xI lens m,List.Nodup.sublist (filter_sublist) nodup_range,λa ha b hb=>?_⟩;have d:=su.1 ha;have g:=re.1 hb;intro e;subst e;omega
theorem uL(lens:List Nat)(m:Nat):(jP lens m).length<=lens.length:=by
 have h:=(xI lens m).length_le_of_subset (l₂:=range lens.length) (λs hs=>List.mem_range.2 (su.1 hs).1)
 rwa [length_range]at h
theorem I3(l:List Nat)(p:Nat->Bool)(f:Nat->Nat):((l.filter p).map f).sum=(l.map λs=>if p s then f s else 0).sum:=by
 induction l with
 | nil=>rfl
 | cons a l ih=>
  rw[filter_cons,map_cons,sum_cons];split
  .rw[map_cons,sum_cons,ih]
  .rw[ih];omega
def nJ(lens:List Nat)(k:Nat):Nat:=(((gO lens).take k).map λs=>2^(24-gI lens s)).sum
def jQ(lens:List Nat)(k:Nat):Nat:=nJ lens k / 2^(24-gI lens ((gO lens).getD k 0))
theorem xl(lens:List Nat)(h:k<(gO lens).length):nJ lens (k+1)=nJ lens k+2^(24-gI lens ((gO lens).getD k 0)):=by
 unfold nJ;rw[<-take_append_getElem h,map_append,sum_append,getD_eq_getElem?_getD,getElem?_eq_getElem h];simp
theorem EG(lens:List Nat):∀m,((jP lens m).map λs=>2^(24-gI lens s)).sum=((range lens.length).map λs=>if 0<gI lens s/\gI lens s<=m then 2^(24-gI lens s)else 0).sum
 | 0=>by
  have e:jP lens 0=[]:=rfl;rw[e];exact(rr _ _ λs _=>by rw[if_neg (by omega)]).symm
 | m+1=>by
  rw[so,map_append,sum_append,EG lens m];unfold kb;rw[I3,<-BO]
  congr 1
  apply map_congr_left;intro s _;by_cases h:gI lens s=m+1
  .rw[if_neg (by omega),if_pos (by simpa using h),if_pos (by omega)];omega
  .rw[if_neg (by simpa using h:¬(gI lens s==m+1)=true)]
   by_cases h2:0<gI lens s/\gI lens s<=m
   .rw[if_pos h2,if_pos (by omega)];omega
   .rw[if_neg h2,if_neg (by omega)]
theorem Gi(l:List Nat)(f:Nat->Nat):((range l.length).map λs=>f (gI l s))=l.map f:=by
 apply ext_getElem
 .simp
 .intro i d e
  have hi:i<l.length:=by simpa using d
  simp[gI,getD_eq_getElem?_getD,hi]
theorem JN(d:∀n∈lens,n<=24):nJ lens (gO lens).length=kH lens:=by
 unfold nJ;rw[take_length];unfold gO;rw[EG];have e:((range lens.length).map λs=>if 0<gI lens s/\gI lens s<=24 then 2^(24-gI lens s)else 0)=lens.map λn=>if n=0 then 0 else 2^(24-n):=by
  rw[<-Gi lens λn=>if n=0 then 0 else 2^(24-n)];apply map_congr_left;intro s l;have g:=List.mem_range.1 l;have o:gI lens s<=24:=by
   unfold gI;rw[getD_eq_getElem?_getD,getElem?_eq_getElem g];exact d _ (getElem_mem g)
  by_cases h:gI lens s=0
  .rw[if_neg (by omega),if_pos h]
  .rw[if_pos (by omega),if_neg h]
 rw[e];rfl
theorem yC(h:lL lens):kH lens<=2^24:=by
 rcases h.full with⟨p,d⟩|⟨_,d⟩
 .have:∀l:List Nat,(∀n∈l,n<=1)->kH l=2^23*kp l:=by
   intro l
   induction l with
   | nil=>intro _;rfl
   | cons a l ih=>
    intro e;have g:kH (a::l)=(if a=0 then 0 else 2^(24-a))+kH l:=(by simp[kH]);have o:kp (a::l)=kp l+(if 0<a then 1 else 0):=by
     unfold kp;rw[countP_cons];simp
    rw[g,o,ih λn hn=>e n (by simp[hn])]
    have:=e a (by simp)
    rcases(by omega:a=0\/a=1)with rfl|rfl
    .simp
    .simp;omega
  rw[this lens d,p]
  decide
 .omega
theorem Lw(lens:List Nat)(h:j<=k):nJ lens j<=nJ lens k:=by
 unfold nJ;have e:(gO lens).take k=(gO lens).take j++((gO lens).drop j).take (k-j):=by
  rw[<-take_add];congr 1;omega
 rw[e,map_append,sum_append];omega
theorem oV(h:k<(gO lens).length):0<gI lens ((gO lens).getD k 0)/\gI lens ((gO lens).getD k 0)<=24/\(gO lens).getD k 0<lens.length:=by
 rw[getD_eq_getElem?_getD,getElem?_eq_getElem h]
 have:=su.1 (getElem_mem h)
 exact⟨this.2.1,this.2.2,this.1⟩
theorem uV(e:j<=k)(h:k<(gO lens).length):gI lens ((gO lens).getD j 0)<=gI lens ((gO lens).getD k 0):=by
 rw[getD_eq_getElem?_getD,getElem?_eq_getElem (by omega),getD_eq_getElem?_getD,getElem?_eq_getElem h];rcases Nat.lt_or_ge j k with d|d
 .have g:(gO lens).Pairwise λa b=>gI lens a<=gI lens b:=BJ lens 24
  exact(List.pairwise_iff_getElem.1 g) j k (by omega) h d
 .obtain rfl:j=k:=by omega
  exact Nat.le_refl _
theorem Nc(e:k<=(gO lens).length)(d:∀j,j<k->gI lens ((gO lens).getD j 0)<=n):2^(24-n)∣nJ lens k:=by
 induction k with
 | zero=>simp[nJ]
 | succ k ih=>
  rw[xl lens (by omega)];exact Nat.dvd_add (ih (by omega) λj hj=>d j (by omega)) (Nat.pow_dvd_pow 2 (by have:=d k (by omega);omega))
theorem BU(lens:List Nat):jQ lens 0=0:=by simp[jQ,nJ]
theorem BT(h:k+1<(gO lens).length):jQ lens (k+1)=(jQ lens k+1)*2^(gI lens ((gO lens).getD (k+1) 0)-gI lens ((gO lens).getD k 0)):=by
 have e:=Nc (lens:=lens) (k:=k) (n:=gI lens ((gO lens).getD k 0)) (by omega) λj hj=>uV (by omega) (by omega);have l:=uV (lens:=lens) (j:=k) (k:=k+1) (by omega) h;have o:=oV h;unfold jQ;rw[xl lens (by omega)];generalize gI lens ((gO lens).getD k 0)=a at *;generalize gI lens ((gO lens).getD (k+1) 0)=b at *;obtain⟨q,g⟩:=e;rw[g];have d:2^(24-a)*q+2^(24-a)=2^(24-b)*((q+1)*2^(b-a)):=by
  have:2^(24-a)=2^(24-b)*2^(b-a):=by rw[<-Nat.pow_add];congr 1;omega
  rw[this,<-mul_add_one,Nat.mul_assoc,Nat.mul_comm (2^(b-a))]
 rw[d,Nat.mul_div_cancel_left _ (Nat.two_pow_pos _),Nat.mul_div_cancel_left _ (Nat.two_pow_pos _)]
theorem uD(d:lL lens)(h:k<(gO lens).length):jQ lens k<2^gI lens ((gO lens).getD k 0):=by
 have g:=xl lens h;have e:=Lw lens (show k+1<=(gO lens).length by omega);rw[JN d.le]at e;have l:=yC d;have o:=oV h;unfold jQ;generalize gI lens ((gO lens).getD k 0)=a at *;rw[div_lt_iff_lt_mul (Nat.two_pow_pos _),<-Nat.pow_add]
 have:a+(24-a)=24:=by omega
 rw[this]
 have:=Nat.two_pow_pos (24-a)
 omega
def i7(lens:List Nat):Nat->List Nat
 | 0=>replicate lens.length 0
 | k+1=>(i7 lens k).set ((gO lens).getD k 0) (jQ lens k)
def nY(lens:List Nat):List Nat:=i7 lens (gO lens).length
theorem nc(lens:List Nat):∀k,(i7 lens k).length=lens.length
 | 0=>by simp[i7]
 | k+1=>by rw[i7,length_set,nc lens k]
theorem M6(d:j<(gO lens).length)(e:k<(gO lens).length)(h:(gO lens).getD j 0=(gO lens).getD k 0):j=k:=by
 rw[getD_eq_getElem?_getD,getElem?_eq_getElem d,getD_eq_getElem?_getD,getElem?_eq_getElem e]at h;exact(getElem_inj (xI lens 24)).1 h
theorem xM{lens:List Nat}{j:Nat}(d:j<(gO lens).length):∀k,j<k->k<=(gO lens).length->(i7 lens k).getD ((gO lens).getD j 0) 0=jQ lens j
 | 0,h,_=>by omega
 | k+1,h,hk=>by
  have g:=(oV d).2.2;rw[i7,getD_eq_getElem?_getD,getElem?_set];by_cases e:j=k
  .subst e
   rw[if_pos rfl,if_pos (by rw[nc];exact g)];rfl
  .rw[if_neg (λh2=>e (M6 d (by omega) h2.symm)),<-getD_eq_getElem?_getD]
   exact xM d k (by omega) (by omega)
def nj(lens:List Nat)(s:Nat):Nat:=(nY lens).getD s 0
theorem IH(d:j<(gO lens).length):nj lens ((gO lens).getD j 0)=jQ lens j:=xM d _ d (Nat.le_refl _)
theorem Fm(g:∀n∈lens,n<=24)(d:0<gI lens s):∃j,j<(gO lens).length/\(gO lens).getD j 0=s:=by
 have l:s<lens.length:=by
  rcases Nat.lt_or_ge s lens.length with h|h
  .exact h
  .unfold gI at d
   rw[getD_eq_getElem?_getD,getElem?_eq_none h]at d;cases d
 have p:gI lens s<=24:=by
  unfold gI;rw[getD_eq_getElem?_getD,getElem?_eq_getElem l];exact g _ (getElem_mem l)
 have q:s∈gO lens:=su.2 ⟨l,d,p⟩;obtain⟨j,o,e⟩:=getElem_of_mem q;exact⟨j,o,by rw[getD_eq_getElem?_getD,getElem?_eq_getElem o];exact e⟩
theorem DH(d:lL lens)(g:0<gI lens s):nj lens s<2^gI lens s:=by
 obtain⟨j,e,rfl⟩:=Fm d.le g;rw[IH e];exact uD d e
def k6(m:Int × Int):Nat:=m.1.natAbs+m.2.natAbs
def kO(f:Int × Int->Nat)(a b:Int × Int):Prop:=f a<f b\/f a=f b/\(k6 a<k6 b\/k6 a=k6 b/\(a.2<b.2\/a.2=b.2/\a.1<=b.1))
section
variable {f:Int × Int->Nat} {ok tried:Int × Int->Prop} {a b c m0:Int × Int}
theorem kO.refl(f:Int × Int->Nat)(a:Int × Int):kO f a a:=.inr ⟨rfl,.inr ⟨rfl,.inr ⟨rfl,Int.le_refl _⟩⟩⟩
theorem kO.trans(h:kO f a b)(k:kO f b c):kO f a c:=by
 unfold kO at *;omega
theorem kO.anti(h:kO f a b)(k:kO f b a):a=b:=by
 unfold kO at *;have d:a.1=b.1:=by omega
 have e:a.2=b.2:=by omega
 exact Prod.ext d e
structure iP (f:Int × Int->Nat) (ok tried:Int × Int->Prop) (m:Int × Int):Prop where
 may:ok m
 le:∀x,tried x->ok x->kO f m x
theorem iP.unique(h:iP f ok (λ_=>True) a)(k:iP f ok (λ_=>True) b):a=b:=(h.le b trivial k.may).anti (k.le a trivial h.may)
theorem iP.mono{d:Int × Int->Prop}(h:iP f ok tried a)(e:∀m,d m->ok m->tried m):iP f ok d a:=⟨h.may,λx hx ho=>h.le x (e x hx ho) ho⟩
theorem iP.one(h:ok a):iP f ok (λm=>m=a) a:=⟨h,λx e _=>e ▸ kO.refl f x⟩
theorem iP.skip(h:iP f ok tried c)(e:¬ok m0):iP f ok (λm=>tried m\/m=m0) c:=
 ⟨h.may,λx d ho=>by
  rcases d with d|rfl
  .exact h.le x d ho
  .exact absurd ho e⟩
theorem iP.stay(h:iP f ok tried c)(e:kO f c m0):iP f ok (λm=>tried m\/m=m0) c:=
 ⟨h.may,λx d ho=>by
  rcases d with d|rfl
  .exact h.le x d ho
  .exact e⟩
theorem iP.turn(h:iP f ok tried c)(g:ok m0)(e:kO f m0 c):iP f ok (λm=>tried m\/m=m0) m0:=
 ⟨g,λx d hox=>by
  rcases d with d|rfl
  .exact e.trans (h.le x d hox)
  .exact kO.refl f x⟩
theorem iP.keepP(h:iP f ok tried c)(p:f c<f m0\/f c=f m0/\k6 c<=k6 m0)(d:c.2<m0.2\/c.2=m0.2/\c.1<m0.1\/c=(0,0)):iP f ok (λm=>tried m\/m=m0) c:=by
 refine h.stay ?_;unfold kO;rcases d with d|d|d
 .omega
 .omega
 .subst d
  have e:k6 (0,0)=0:=rfl;have g:((0,0):Int × Int).1=0:=rfl;have l:((0,0):Int × Int).2=0:=rfl;have o:k6 m0=m0.1.natAbs+m0.2.natAbs:=rfl;rw[e,g,l];omega
theorem iP.takeP(h:iP f ok tried c)(d:ok m0)(e:f m0<f c\/f m0=f c/\k6 m0<k6 c):iP f ok (λm=>tried m\/m=m0) m0:=h.turn d (by unfold kO;omega)
theorem iP.keepR(h:iP f ok tried c)(d:f c<=f m0)(e:k6 c<k6 m0\/k6 c=k6 m0/\(c.2<m0.2\/c.2=m0.2/\c.1<m0.1)):iP f ok (λm=>tried m\/m=m0) c:=h.stay (by unfold kO;omega)
theorem iP.takeR(h:iP f ok tried c)(d:ok m0)(e:f m0<f c):iP f ok (λm=>tried m\/m=m0) m0:=h.turn d (.inl e)
theorem iP.firstR(g:∀x,tried x->¬ok x)(d:ok m0):iP f ok (λm=>tried m\/m=m0) m0:=
 ⟨d,λx e ho=>by
  rcases e with e|rfl
  .exact absurd ho (g x e)
  .exact kO.refl f x⟩
end
def mr(S V U:Int)(m:Int × Int):Prop:=-4<=m.1/\m.1<=4/\-4<=m.2/\m.2<=4/\((k6 m:Int)<S\/(k6 m:Int)=S/\(m.2<V\/m.2=V/\m.1<U))
theorem qT{V U:Int}(m:Int × Int)(h:mr S V (U+1) m):mr S V U m\/m=(U,V):=by
 obtain⟨a,b⟩:=m;obtain⟨d,e,g,l,o⟩:=h;by_cases he:a=U/\b=V
 .right;rw[he.1,he.2]
 .left
  refine⟨d,e,g,l,?_⟩;simp only at d e g l o⊢;omega
theorem Bd{V U:Int}(q:(U.natAbs:Int)+V.natAbs≠S)(m:Int × Int)(h:mr S V (U+1) m):mr S V U m:=by
 rcases qT m h with d|rfl
 .exact d
 .obtain⟨d,l,o,p,g⟩:=h
  refine⟨d,l,o,p,?_⟩;have e:k6 (U,V)=U.natAbs+V.natAbs:=rfl;rw[e]at g⊢;simp only at g⊢;omega
theorem CD{V:Int}(m:Int × Int)(h:mr S (V+1) (-4) m):mr S V 5 m:=by
 obtain⟨d,e,g,l,o⟩:=h;exact⟨d,e,g,l,by omega⟩
theorem BP(m:Int × Int)(h:mr (S+1) (-4) (-4) m):mr S 5 (-4) m:=by
 obtain⟨d,e,g,l,o⟩:=h;exact⟨d,e,g,l,by omega⟩
theorem ID(m:Int × Int):¬mr 0 (-4) (-4) m:=by
 rintro⟨d,e,g,h,l⟩;omega
theorem CB(m:Int × Int)(d : -4<=m.1)(g:m.1<=4)(h : -4<=m.2)(l:m.2<=4):mr 9 (-4) (-4) m:=by
 have e:k6 m=m.1.natAbs+m.2.natAbs:=rfl;exact⟨d,g,h,l,by rw[e];omega⟩
structure kE (f:Int × Int->Nat) (ok:Int × Int->Prop) (U V dx dy:Int):Prop where
 least:iP f ok (λm=>m=(0,0)\/-4<=m.1/\m.1<=4/\-4<=m.2/\(m.2<V\/m.2=V/\m.1<U)) (dx,dy)
 was:dx=0/\dy=0\/dy<V\/dy=V/\dx<U
section
variable {f:Int × Int->Nat} {ok:Int × Int->Prop} {U V dx dy:Int}
theorem kE.start(h:ok (0,0)):kE f ok (-4) (-4) 0 0:=⟨(iP.one h).mono λm d _=>by
 rcases d with d|⟨e,g,l,o⟩
 .exact d
 .omega,.inl ⟨rfl,rfl⟩⟩
theorem yi(m:Int × Int)(h:m=(0,0)\/-4<=m.1/\m.1<=4/\-4<=m.2/\(m.2<V\/m.2=V/\m.1<U+1)):(m=(0,0)\/-4<=m.1/\m.1<=4/\-4<=m.2/\(m.2<V\/m.2=V/\m.1<U))\/m=(U,V):=by
 rcases h with h|⟨d,e,g,l⟩
 .exact .inl (.inl h)
 .by_cases he:m.1=U/\m.2=V
  .exact .inr (Prod.ext he.1 he.2)
  .exact .inl (.inr ⟨d,e,g,by omega⟩)
theorem kE.skip(h:kE f ok U V dx dy)(d:¬ok (U,V)):kE f ok (U+1) V dx dy:=⟨(h.least.skip d).mono λm hm _=>yi m hm,by have:=h.was;omega⟩
theorem kE.keepS(h:kE f ok U V dx dy)(e:f (dx,dy)<f (U,V)\/f (dx,dy)=f (U,V)/\dx.natAbs+dy.natAbs<=U.natAbs+V.natAbs):kE f ok (U+1) V dx dy:=by
 have d:=h.was;have g:(dx,dy).2<(U,V).2\/(dx,dy).2=(U,V).2/\(dx,dy).1<(U,V).1\/(dx,dy)=(0,0):=by
  rcases d with⟨rfl,rfl⟩|d|d
  .exact .inr (.inr rfl)
  .exact .inl d
  .exact .inr (.inl d)
 exact⟨(h.least.keepP e g).mono λm hm _=>yi m hm,by omega⟩
theorem kE.take(h:kE f ok U V dx dy)(d:ok (U,V))(e:f (U,V)<f (dx,dy)\/f (U,V)=f (dx,dy)/\U.natAbs+V.natAbs<dx.natAbs+dy.natAbs):kE f ok (U+1) V U V:=
 ⟨(h.least.takeP d e).mono λm hm _=>yi m hm,by omega⟩
theorem kE.row(h:kE f ok 5 V dx dy)(p:dx<=4):kE f ok (-4) (V+1) dx dy:=
 ⟨h.least.mono λm d _=>by
  rcases d with d|⟨e,g,l,o⟩
  .exact .inl d
  .exact .inr ⟨e,g,l,by omega⟩,by have:=h.was;omega⟩
theorem kE.done(h:kE f ok (-4) 5 dx dy)(d:∀m,ok m->-4<=m.1/\m.1<=4/\-4<=m.2/\m.2<=4):iP f ok (λ_=>True) (dx,dy):=
 h.least.mono λm _ ho=>.inr (by have:=d m ho;omega)
end
theorem iP.cost{f:Int × Int->Nat}{ok tried:Int × Int->Prop}{a m:Int × Int}(h:iP f ok tried a)(e:tried m)(d:ok m):f a<=f m:=by
 have:=h.le m e d
 unfold kO at this;omega
theorem iP.none{f:Int × Int->Nat}{ok tried:Int × Int->Prop}{a:Int × Int}(h:iP f ok tried a)(o:tried (0,0))(l:ok (0,0))(g:f (0,0)=0):a.1=0/\a.2=0:=by
 have:=h.le _ o l
 have e:k6 (0,0)=0:=rfl;have d:k6 a=a.1.natAbs+a.2.natAbs:=rfl;unfold kO at this;rw[e,d,g]at this;simp only at this;omega
end Go.Proofs.YtnepiccbpokmiaaGreatDoor
