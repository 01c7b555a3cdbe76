/- Lemmas. -/
import Derived.Sort.LotA
import Derived.Sort.Lot0
import Derived.Test.YtifdlkoepaepiaaGreatDoorMh03
set_option linter.all false
namespace Go.Proofs.YtifdlkoepaepiaaGreatDoor
open List Nat Go.Sort
variable {freq:List Nat}{a b hi i j lo m mid n s size:Nat}
variable {α:Type} [Inhabited α]
def kQ(a m b:Nat)(d d':Array α):Prop:=
 ∀k,d'[k]! = if a<=k/\k<b then(if k<a+(b-m)then d[k+(m-a)]! else d[k-(b-m)]!)else d[k]!
def pe(a b n:Nat)(d d':Array α):Prop:=
 ∀k,d'[k]! = if a<=k/\k<a+n then d[k-a+b]! else if b<=k/\k<b+n then d[k-b+a]! else d[k]!
theorem pe.zero(a b:Nat)(d:Array α):pe a b 0 d d:=λk=>by
 rw[if_neg (by omega),if_neg (by omega)]
theorem pe.step{d c:Array α}(h:pe a b n d c)(e:a+n<b)(l:b+n<c.size):pe a b (n+1) d (swp c (a+n) (b+n)):=λk=>by
 have f:=swp_left c (a+n) (b+n) (by omega) (by omega);have g:=swp_right c (a+n) (b+n) l;by_cases h1:k=a+n
 .subst h1
  rw[f,h (b+n),if_neg (by omega),if_neg (by omega),if_pos (by omega)]
  congr 1;omega
 .by_cases h2:k=b+n
  .subst h2
   rw[g,h (a+n),if_neg (by omega),if_neg (by omega),if_neg (by omega),if_pos (by omega)]
   congr 1;omega
  .rw[swp_other c _ _ k h1 h2,h k]
   repeat' split
   all_goals first
    | rfl
    | (exfalso;omega)
    | (congr 1;omega)
theorem kQ.left{d c d'':Array α}(f:pe (m-i) m j d c)(hi:i<=m)(e:j<i)(g:0<j)(h:kQ (m-(i-j)) m (m+j) c d''):kQ (m-i) m (m+j) d d'':=λk=>by
 rw[h k]
 repeat' split
 all_goals(try rw[f])
 all_goals(repeat' split)
 all_goals first
  | rfl
  | (exfalso;omega)
  | (congr 1;omega)
theorem kQ.right{d c d'':Array α}(f:pe (m-i) (m+j-i) i d c)(hi:i<=m)(e:i<j)(g:0<i)(h:kQ (m-i) m (m+(j-i)) c d''):kQ (m-i) m (m+j) d d'':=λk=>by
 rw[h k]
 repeat' split
 all_goals(try rw[f])
 all_goals(repeat' split)
 all_goals first
  | rfl
  | (exfalso;omega)
  | (congr 1;omega)
theorem kQ.equal{d d':Array α}(c:pe (m-i) m i d d')(hi:i<=m):kQ (m-i) m (m+i) d d':=λk=>by
 rw[c k]
 repeat' split
 all_goals first
  | rfl
  | (exfalso;omega)
  | (congr 1;omega)
theorem kQ.none(d:Array α)(h:a=m\/m=b)(c:a<=m)(e:m<=b):kQ a m b d d:=λk=>by
 rcases h with rfl|rfl
 all_goals(repeat' split)
 all_goals first
  | rfl
  | (exfalso;omega)
  | (congr 1;omega)
structure sC (lt:α->α->Bool) (a m b mid s:Nat) (d:Array α):Prop where
 lo:a<=s
 ms:s<=m
 mid1:s<=mid
 e0:mid<=mid+m-s
 e1:mid+m-s<=b
 left:∀x y,a<=x->x<s->mid+m-s<=y->y<b->lt d[y]! d[x]! = false
 right:∀x y,m<=x->x<mid+m-s->s<=y->y<m->lt d[y]! d[x]! = false
theorem mh{lt:α->α->Bool}(g:SWO lt){d:Array α}(h:SortedIn lt a b d)(e:a<=i)(k:i<=j)(f:j<b):lt d[j]! d[i]! = false:=by
 rcases Nat.lt_or_ge i j with c|c
 .exact h i j e c f
 .obtain rfl:i=j:=by omega
  exact g.irrefl _
theorem sC.of{lt:α->α->Bool}(c:SWO lt){d:Array α}(p:SortedIn lt a m d)(q:SortedIn lt m b d)(A:a<m)(B:m<b)(v:mid=(a+b) / 2)(u:lo=if mid<m then mid+m-b else a)(l:hi=if mid<m then mid else m)(C:lo<=s)(D:s<=hi)(h:s=lo\/lt d[mid+m-1-(s-1)]! d[s-1]! = false)(k:s=hi\/lt d[mid+m-1-s]! d[s]! = true):sC lt a m b mid s d:=by
 have e:=c.ntrans;split at u
 .rename_i hc
  rw[if_pos hc]at l;refine⟨by omega,by omega,by omega,by omega,by omega,?_,?_⟩
  .intro x y g z o t
   rcases h with rfl|h
   .omega
   .have f:=mh c q (i:=mid+m-1-(s-1)) (j:=y) (by omega) (by omega) t
    have e2:=mh c p (i:=x) (j:=s-1) g (by omega) (by omega);exact e _ _ _ f (e _ _ _ h e2)
  .intro x y g w o ad
   rcases k with rfl|k
   .omega
   .have r:lt d[s]! d[mid+m-1-s]! = false:=by
     cases hh:lt d[s]! d[mid+m-1-s]! with
     | false=>rfl
     | true=>have := c.trans _ _ _ k hh;rw[c.irrefl]at this;cases this
    have f:=mh c p (i:=s) (j:=y) (by omega) o ad;have e2:=mh c q (i:=x) (j:=mid+m-1-s) g (by omega) (by omega);exact e _ _ _ f (e _ _ _ r e2)
 .rename_i hc
  rw[if_neg hc]at l;refine⟨by omega,by omega,by omega,by omega,by omega,?_,?_⟩
  .intro x y g z o t
   rcases h with rfl|h
   .omega
   .have f:=mh c q (i:=mid+m-1-(s-1)) (j:=y) (by omega) (by omega) t
    have e2:=mh c p (i:=x) (j:=s-1) g (by omega) (by omega);exact e _ _ _ f (e _ _ _ h e2)
  .intro x y g w o ad
   rcases k with rfl|k
   .omega
   .have r:lt d[s]! d[mid+m-1-s]! = false:=by
     cases hh:lt d[s]! d[mid+m-1-s]! with
     | false=>rfl
     | true=>have := c.trans _ _ _ k hh;rw[c.irrefl]at this;cases this
    have f:=mh c p (i:=s) (j:=y) (by omega) o ad;have e2:=mh c q (i:=x) (j:=mid+m-1-s) g (by omega) (by omega);exact e _ _ _ f (e _ _ _ r e2)
theorem sC.rot{lt:α->α->Bool}(v:SWO lt){d e:Array α}(c:sC lt a m b mid s d)(p:SortedIn lt a m d)(q:SortedIn lt m b d)(E:m<=b)(w:mid<=b)(h:kQ s m (mid+m-s) d e):SortedIn lt a s e/\SortedIn lt s mid e/\SortedIn lt mid (mid+m-s) e/\SortedIn lt (mid+m-s) b e/\(∀x y,a<=x->x<mid->mid<=y->y<b->lt e[y]! e[x]! = false):=by
 obtain⟨c1,c2,c3,c4,c5,C,D⟩:=c
 -- where each part comes from
 have r:∀k,k<s->e[k]! = d[k]!:=λk hk=>by rw[h k,if_neg (by omega)]
 have t:∀k,s<=k->k<mid->e[k]! = d[k+(m-s)]!:=λk hk hk2=>by rw[h k,if_pos (by omega),if_pos (by omega)]
 have l:∀k,mid<=k->k<mid+m-s->e[k]! = d[k-(mid-s)]!:=λk hk hk2=>by
  rw[h k,if_pos (by omega),if_neg (by omega)];congr 1;omega
 have o:∀k,mid+m-s<=k->e[k]! = d[k]!:=λk hk=>by rw[h k,if_neg (by omega)]
 refine⟨?_,?_,?_,?_,?_⟩
 .intro i j hi g f
  rw[r i (by omega),r j f];exact p i j hi g (by omega)
 .intro i j hi g f
  rw[t i hi (by omega),t j (by omega) f];exact q _ _ (by omega) (by omega) (by omega)
 .intro i j hi g f
  rw[l i hi (by omega),l j (by omega) f];exact p _ _ (by omega) (by omega) (by omega)
 .intro i j hi g f
  rw[o i hi,o j (by omega)];exact q _ _ (by omega) g f
 .intro x y z B A u
  by_cases hxs:x<s
  .rw[r x hxs]
   by_cases hye:y<mid+m-s
   .rw[l y A hye]
    exact mh v p z (by omega) (by omega)
   .rw[o y (by omega)]
    exact C x y z hxs (by omega) u
  .rw[t x (by omega) B]
   by_cases hye:y<mid+m-s
   .rw[l y A hye]
    exact D _ _ (by omega) (by omega) (by omega) (by omega)
   .rw[o y (by omega)]
    exact mh v q (by omega) (by omega) u
theorem KM{lt:α->α->Bool}{d c d2:Array α}(q:b<=d.size)(g:a<=mid)(h:mid<=b)(r:∀x y,a<=x->x<mid->mid<=y->y<b->lt d[y]! d[x]! = false)(e:PermIn a mid d c)(t:SortedIn lt a mid c)(k:PermIn mid b c d2)(u:SortedIn lt mid b d2):SortedIn lt a b d2/\PermIn a b d d2:=by
 have ad:=e.1;have f:∀i,i<mid->d2[i]! = c[i]!:=λi hi=>k.2.1 i (.inl hi);have p:∀i,mid<=i->c[i]! = d[i]!:=λi hi=>e.2.1 i (.inr hi)
 -- y in the right half of c,x in the left half of c
 have c1:∀y,mid<=y->y<b->∀x,a<=x->x<mid->lt c[y]! c[x]! = false:=λy hy hyb=>by
  rw[p y hy];exact permIn_all d c a mid (λv=>lt d[y]! v=false) (by omega) e (λx hx1 hx2=>r x y hx1 hx2 hy hyb)
 have c2:∀x,a<=x->x<mid->∀y,mid<=y->y<b->lt d2[y]! d2[x]! = false:=λx hx1 hx2=>by
  rw[f x hx2];exact permIn_all c d2 mid b (λv=>lt v c[x]! = false) (by omega) k (λy hy hyb=>c1 y hy hyb x hx1 hx2)
 refine⟨?_,permIn_trans _ _ _ _ _ (permIn_mono _ _ _ _ _ _ (Nat.le_refl _) h q e) (permIn_mono _ _ _ _ _ _ g (Nat.le_refl _) (by omega) k)⟩;intro i j hi l o;by_cases h1:j<mid
 .rw[f i (by omega),f j h1]
  exact t i j hi l h1
 .by_cases h2:i<mid
  .exact c2 i hi h2 j (by omega) o
  .exact u i j (by omega) l o
theorem LV{lt:α->α->Bool}(c:SWO lt){d d':Array α}(f:SortedIn lt (a+1) b d)(r:a+1<=i)(t:i<=b)(g:i=a+1\/lt d[i-1]! d[a]! = true)(l:i=b\/lt d[i]! d[a]! = false)(p:∀k,d'[k]! = if a<=k/\k<i-1 then d[k+1]! else if k=i-1 then d[a]! else d[k]!):SortedIn lt a b d':=by
 have q:∀x y,lt x y=true->lt y x=false:=λx y h=>by
  cases hh:lt y x with
  | false=>rfl
  | true=>have := c.trans _ _ _ h hh;rw[c.irrefl]at this;cases this
 intro x y v u o;rw[p x,p y];by_cases h3:y<i-1
 .rw[if_pos (by omega),if_pos (by omega)]
  exact f _ _ (by omega) (by omega) (by omega)
 .rw[if_neg (by omega:¬(a<=y/\y<i-1))]
  by_cases h4:y=i-1
  .rw[if_pos h4,if_pos (by omega)]
   rcases g with rfl|g
   .omega
   .have e:=mh c f (i:=x+1) (j:=i-1) (by omega) (by omega) (by omega)
    exact c.ntrans _ _ _ (q _ _ g) e
  .rw[if_neg h4]
   by_cases h5:x<i-1
   .rw[if_pos (by omega)]
    exact mh c f (by omega) (by omega) o
   .rw[if_neg (by omega)]
    by_cases h6:x=i-1
    .rw[if_pos h6]
     rcases l with rfl|l
     .omega
     .have e:=mh c f (i:=i) (j:=y) (by omega) (by omega) o
      exact c.ntrans _ _ _ e l
    .rw[if_neg h6]
     exact mh c f (by omega) (by omega) o
theorem J9{lt:α->α->Bool}(c:SWO lt){d d':Array α}(f:SortedIn lt a m d)(g:a<=i)(u:i<=m)(l:i=a\/lt d[m]! d[i-1]! = false)(o:i=m\/lt d[m]! d[i]! = true)(q:∀k,d'[k]! = if i<k/\k<=m then d[k-1]! else if k=i then d[m]! else d[k]!):SortedIn lt a (m+1) d':=by
 have r:∀x y,lt x y=true->lt y x=false:=λx y h=>by
  cases hh:lt y x with
  | false=>rfl
  | true=>have := c.trans _ _ _ h hh;rw[c.irrefl]at this;cases this
 intro x y p t v;rw[q x,q y];by_cases h3:i<x
 .rw[if_pos (by omega),if_pos (by omega)]
  exact f _ _ (by omega) (by omega) (by omega)
 .rw[if_neg (by omega:¬(i<x/\x<=m))]
  by_cases h4:x=i
  .rw[if_pos h4,if_pos (by omega)]
   rcases o with rfl|o
   .omega
   .have e:=mh c f (i:=i) (j:=y-1) g (by omega) (by omega)
    exact c.ntrans _ _ _ e (r _ _ o)
  .rw[if_neg h4]
   by_cases h5:i<y
   .rw[if_pos (by omega)]
    exact mh c f p (by omega) (by omega)
   .rw[if_neg (by omega)]
    by_cases h6:y=i
    .rw[if_pos h6]
     rcases l with rfl|l
     .omega
     .have e:=mh c f (i:=x) (j:=i-1) p (by omega) (by omega)
      exact c.ntrans _ _ _ l e
    .rw[if_neg h6]
     exact f _ _ p t (by omega)
open Go.Sort
variable {α:Type} [Inhabited α]
def nU(lt:α->α->Bool)(n lo hi:Nat)(d:Array α):Prop:=∀i j,lo<=i->i<j->j<hi->i / n=j / n->lt d[j]! d[i]! = false
theorem D7(lt:α->α->Bool)(n lo:Nat)(d:Array α):nU lt n lo lo d:=λi j h1 h2 h3=>by omega
theorem xS{q:Nat}(c:0<n)(d:n*q<=i)(e:i<n*q+n):i / n=q:=by
 rw[Nat.div_eq_iff c]
 have:n*q=q*n:=Nat.mul_comm _ _
 constructor<;>omega
theorem nU.sorted{lt:α->α->Bool}{d:Array α}(h:nU lt n lo hi d)(c:0<n)(k:lo<=a)(g:n∣a)(l:b<=a+n)(o:b<=hi):SortedIn lt a b d:=by
 obtain⟨q,rfl⟩:=g;intro i j e f p;exact h i j (by omega) f (by omega) (by rw[xS (q:=q) c e (by omega),xS (q:=q) (i:=j) c (by omega) (by omega)])
theorem nU.more{lt:α->α->Bool}{d d':Array α}(h:nU lt n lo a d)(l:0<n)(f:n∣a)(e:PermIn a b d d')(o:SortedIn lt a b d'):nU lt n lo b d':=by
 obtain⟨q,rfl⟩:=f;intro i j hi c k g;by_cases h1:j<n*q
 .rw[e.2.1 i (.inl (by omega)),e.2.1 j (.inl h1)]
  exact h i j hi c h1 g
 .by_cases h2:i<n*q
  .exfalso
   have p:i / n<q:=Nat.div_lt_of_lt_mul h2;have e2:q<=j / n:=(le_div_iff_mul_le l).2 (by rw[Nat.mul_comm];omega);omega
  .exact o i j (by omega) c k
theorem nU.rest{lt:α->α->Bool}{d d':Array α}(h:nU lt n a hi d)(l:a<=b)(c:PermIn a b d d'):nU lt n b hi d':=by
 intro i j e f g k;rw[c.2.1 i (.inr e),c.2.1 j (.inr (by omega))];exact h i j (by omega) f g k
def pD(lt lt2:α->α->Bool)(n size:Nat)(d:Array α):Prop:=∀i j,i<j->j<size->i / n<j / n->lt d[j]! d[i]! = lt2 d[j]! d[i]!
theorem pD.perm{lt c:α->α->Bool}{d d':Array α}(h:pD lt c n size d)(u:0<n)(f:n∣a)(x:b<=a+n)(y:b<=size)(w:d.size=size)(g:PermIn a b d d'):pD lt c n size d':=by
 obtain⟨q,rfl⟩:=f;have l:∀k,n*q<=k->k<b->k / n=q:=λk h1 h2=>xS u h1 (by omega);intro i j t p f;by_cases hi:n*q<=i/\i<b
 .have e:=l i hi.1 hi.2
  have ad:b<=j:=by
   rcases Nat.lt_or_ge j b with o|o
   .rw[l j (by omega) o,e]at f;omega
   .exact o
  rw[g.2.1 j (.inr ad)];exact permIn_all d d' (n*q) b (λv=>lt d[j]! v=c d[j]! v) (by omega) g (λk h1 h2=>h k j (by omega) p (by rw[l k h1 h2,<-e];exact f)) i hi.1 hi.2
 .by_cases hj2:n*q<=j/\j<b
  .have e:=l j hj2.1 hj2.2
   have r:i<n*q:=(by omega);rw[g.2.1 i (.inl r)];exact permIn_all d d' (n*q) b (λv=>lt v d[i]! = c v d[i]!) (by omega) g (λk h1 h2=>h i k (by omega) (by omega) (by rw[l k h1 h2,<-e];exact f)) j hj2.1 hj2.2
  .rw[g.2.1 i (by omega),g.2.1 j (by omega)]
   exact h i j t p f
theorem pD.double{lt c:α->α->Bool}{d:Array α}(h:pD lt c n size d):pD lt c (2*n) size d:=by
 intro i j f l g;have e:∀k,k / (2*n)=k / n / 2:=λk=>by rw[Nat.mul_comm,Nat.div_div_eq_div_mul]
 rw[e,e]at g;exact h i j f l (by omega)
def se(lt lt2:α->α->Bool)(a size:Nat)(d:Array α):Prop:=∀i j,a<=i->i<j->j<size->lt d[j]! d[i]! = lt2 d[j]! d[i]!
theorem se.next{lt c:α->α->Bool}{d d':Array α}(h:se lt c a size d)(l:a<=b)(e:PermIn a b d d'):se lt c b size d':=by
 intro i j f g k;rw[e.2.1 i (.inr f),e.2.1 j (.inr (by omega))];exact h i j (by omega) g k
theorem C4{lt c:α->α->Bool}(a:Nat):∀(j:Nat) (d:Array α),j<d.size->(∀k,a<=k->k<j->lt d[j]! d[k]! = c d[j]! d[k]!)->insInner lt a j d=insInner c a j d
 | 0,d,_,_=>rfl
 | j+1,d,hj,h=>by
  unfold insInner;by_cases ha:a<=j
  .have e:=h j ha (by omega)
   rw[e];split
   .refine C4 a j _ (by rw[Sort.size_swp];omega) λk h1 h2=>?_
    rw[swp_right d (j+1) j (by omega),swp_other d (j+1) j k (by omega) (by omega)];exact h k h1 (by omega)
   .rfl
  .have e:decide (j+1>a)=false:=decide_eq_false (by omega)
   rw[e];rfl
theorem Cl{lt:α->α->Bool}(a i:Nat):∀(j:Nat) (d:Array α),j<=i->i<d.size->PermIn a (i+1) d (insInner lt a j d)
 | 0,d,_,_=>permIn_refl _ _ _
 | j+1,d,hj,hi=>by
  unfold insInner;split
  .rename_i hc
   simp only[Bool.and_eq_true,decide_eq_true_eq]at hc;exact permIn_trans _ _ _ _ _ (swp_permIn d a (i+1) (j+1) j (by omega) (by omega) (by omega) (by omega) (by omega)) (Cl a i j _ (by omega) (by rw[Sort.size_swp];exact hi))
  .exact permIn_refl _ _ _
theorem C5{lt c:α->α->Bool}(a b:Nat):∀(n i:Nat) (d:Array α),b-i=n->a<i->b<=d.size->(∀k l,a<=k->k<l->i<=l->l<b->lt d[l]! d[k]! = c d[l]! d[k]!)->insOuter lt a b i d=insOuter c a b i d
 | 0,i,d,hn,_,_,_=>by
  have f:insOuter lt a b i d=d:=by rw[insOuter,if_neg (by omega)]
  have e2:insOuter c a b i d=d:=by rw[insOuter,if_neg (by omega)]
  rw[f,e2]
 | n+1,i,d,hn,hai,hb,h=>by
  have f:insOuter lt a b i d=insOuter lt a b (i+1) (insInner lt a i d):=by rw[insOuter,if_pos (by omega)]
  have e2:insOuter c a b i d=insOuter c a b (i+1) (insInner c a i d):=by rw[insOuter,if_pos (by omega)]
  rw[f,e2,C4 a i d (by omega) λk h1 h2=>h k i h1 h2 (Nat.le_refl _) (by omega)];have e:=Cl (lt:=c) a i i d (Nat.le_refl _) (by omega);refine C5 a b n (i+1) _ (by omega) (by omega) (by rw[e.1];exact hb) λk l h1 h2 h3 h4=>?_;rw[e.2.1 l (.inr h3)];by_cases hk:k<i+1
  .exact permIn_all d _ a (i+1) (λv=>lt d[l]! v=c d[l]! v) (by omega) e (λk' h5 h6=>h k' l h5 (by omega) (by omega) h4) k h1 hk
  .rw[e.2.1 k (.inr (by omega))]
   exact h k l h1 h2 (by omega) h4
theorem JW{lt c:α->α->Bool}{d:Array α}(e:b<=d.size)(h:∀k l,a<=k->k<l->l<b->lt d[l]! d[k]! = c d[l]! d[k]!):insertionSort lt d a b=insertionSort c d a b:=
 C5 a b _ (a+1) d rfl (by omega) e λk l h1 h2 _ h4=>h k l h1 h2 h4
open Go.Sort
def od(T:List El)(k:Nat):Nat:=(T.getD k (T.headD default)).wt
def mO(T:List El)(x y:Nat):Bool:=decide (od T x<od T y\/(od T x=od T y/\x<y))
def s8(T:List El):List Nat:=(range T.length).mergeSort λx y=>!mO T y x
def qg(T:List El):List El:=(s8 T).map λk=>T.getD k (T.headD default)
theorem Fx(T:List El):SWO (mO T):=by
 refine⟨λx=>?_,λx y z=>?_,λx y z=>?_⟩
 .unfold mO;simp
 .unfold mO
  simp only[decide_eq_true_eq];omega
 .unfold mO
  simp only[decide_eq_false_iff_not];omega
theorem Lz(T:List El)(x y:Nat)(c:mO T x y=false)(d:mO T y x=false):x=y:=by
 unfold mO at c d;simp only[decide_eq_false_iff_not]at c d;omega
theorem yL(T:List El):(s8 T).Perm (range T.length):=mergeSort_perm _ _
theorem Jk(T:List El):(s8 T).Pairwise λx y=>od T x<=od T y:=by
 have h:=pairwise_mergeSort (le:=λx y=>!mO T y x) (by
  intro a b c;unfold mO;simp only[Bool.not_eq_true',decide_eq_false_iff_not];omega) (by
  intro a b;unfold mO;simp only[Bool.or_eq_true,Bool.not_eq_true',decide_eq_false_iff_not];omega) (range T.length)
 refine h.imp fun {a b} hab=>?_;unfold mO at hab;simp only[Bool.not_eq_true',decide_eq_false_iff_not]at hab;omega
theorem yz{α:Type}(l:List α)(d:α):(range l.length).map (λk=>l.getD k d)=l:=by
 apply ext_getElem
 .simp
 .intro i e c
  simp[getD_eq_getElem?_getD,c]
def qP{α:Type}(f:α->El)(E:List α)(d:α):List α:=(s8 (E.map f)).map λk=>E.getD k d
theorem DW{α:Type}(f:α->El)(E:List α)(d:α):(qP f E d).Perm E:=by
 have h:=(yL (E.map f)).map λk=>E.getD k d;rw[length_map,yz]at h;exact h
theorem zp(T:List El):(qg T).Perm T:=by
 have h:=(yL T).map λk=>T.getD k (T.headD default);rw[yz]at h;exact h
theorem EK{α:Type}(f:α->El)(E:List α)(d:α):(qP f E d).map f=qg (E.map f):=by
 unfold qP qg;rw[map_map];apply map_congr_left;intro k g;have c:k<(E.map f).length:=List.mem_range.1 ((yL (E.map f)).mem_iff.1 g);have e:k<E.length:=by simpa using c
 simp[getD_eq_getElem?_getD,e]
theorem CG(T:List El):(qg T).Pairwise λa b=>a.wt<=b.wt:=by
 unfold qg;rw[pairwise_map];exact Jk T
def tu(C:List El):Nat->List El
 | 0=>qg C
 | j+1=>qg (qg C++io (tu C j))
theorem zo(C:List El):∀j,Rows C (j+1) (tu C j)
 | 0=>.one (zp C) (CG C)
 | j+1=>.next (zo C j) ((zp _).trans ((zp C).append_right _)) (CG _)
def mI(freq:List Nat):List Nat:=
 match iZ freq freq.length with
 | [.coin s _]=>(replicate freq.length 0).set s 1
 | C=>kG freq.length ((tu C 11).take (2*C.length-2))
theorem DK{f:Nat}(h:iZ freq freq.length=[.coin s f]):mI freq=(replicate freq.length 0).set s 1:=by
 unfold mI;rw[h]
theorem C8(h:2<=(iZ freq freq.length).length):mI freq=kG freq.length ((tu (iZ freq freq.length) 11).take (2*(iZ freq freq.length).length-2)):=by
 unfold mI;split
 .rename_i hc
  rw[hc]at h;simp at h
 .rfl
end Go.Proofs.YtifdlkoepaepiaaGreatDoor
