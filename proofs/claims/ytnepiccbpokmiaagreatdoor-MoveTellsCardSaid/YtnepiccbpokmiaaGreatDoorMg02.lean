/- Lemmas. -/
import Derived.Sort.LotA
import Derived.Sort.Lot0
set_option linter.all false
namespace Go.Proofs.YtnepiccbpokmiaaGreatDoor
open List Nat Go.Sort
variable {a b hi i j lo m mid n s size:Nat}
variable {α:Type} [Inhabited α]
def kL(a m b:Nat)(d d':Array α):Prop:=
 ∀k,d'[k]! = if a<=k/\k<b then(if k<a+(b-m)then d[k+(m-a)]! else d[k-(b-m)]!)else d[k]!
def nZ(a b n:Nat)(d d':Array α):Prop:=
 ∀k,d'[k]! = if a<=k/\k<a+n then d[k-a+b]! else if b<=k/\k<b+n then d[k-b+a]! else d[k]!
theorem nZ.zero(a b:Nat)(d:Array α):nZ a b 0 d d:=λk=>by
 rw[if_neg (by omega),if_neg (by omega)]
theorem nZ.step{d c:Array α}(h:nZ a b n d c)(e:a+n<b)(l:b+n<c.size):nZ a b (n+1) d (swp c (a+n) (b+n)):=λk=>by
 have f:=swp_left c (a+n) (b+n) (by omega) (by omega);have g:=swp_right c (a+n) (b+n) l;by_cases h1:k=a+n
 .subst h1
  rw[f,h (b+n),if_neg (by omega),if_neg (by omega),if_pos (by omega)]
  congr 1;omega
 .by_cases h2:k=b+n
  .subst h2
   rw[g,h (a+n),if_neg (by omega),if_neg (by omega),if_neg (by omega),if_pos (by omega)]
   congr 1;omega
  .rw[swp_other c _ _ k h1 h2,h k]
   repeat' split
   all_goals first
    | rfl
    | (exfalso;omega)
    | (congr 1;omega)
theorem kL.left{d c d'':Array α}(f:nZ (m-i) m j d c)(hi:i<=m)(e:j<i)(g:0<j)(h:kL (m-(i-j)) m (m+j) c d''):kL (m-i) m (m+j) d d'':=λk=>by
 rw[h k]
 repeat' split
 all_goals(try rw[f])
 all_goals(repeat' split)
 all_goals first
  | rfl
  | (exfalso;omega)
  | (congr 1;omega)
theorem kL.right{d c d'':Array α}(f:nZ (m-i) (m+j-i) i d c)(hi:i<=m)(e:i<j)(g:0<i)(h:kL (m-i) m (m+(j-i)) c d''):kL (m-i) m (m+j) d d'':=λk=>by
 rw[h k]
 repeat' split
 all_goals(try rw[f])
 all_goals(repeat' split)
 all_goals first
  | rfl
  | (exfalso;omega)
  | (congr 1;omega)
theorem kL.equal{d d':Array α}(c:nZ (m-i) m i d d')(hi:i<=m):kL (m-i) m (m+i) d d':=λk=>by
 rw[c k]
 repeat' split
 all_goals first
  | rfl
  | (exfalso;omega)
  | (congr 1;omega)
theorem kL.none(d:Array α)(h:a=m\/m=b)(c:a<=m)(e:m<=b):kL a m b d d:=λk=>by
 rcases h with rfl|rfl
 all_goals(repeat' split)
 all_goals first
  | rfl
  | (exfalso;omega)
  | (congr 1;omega)
structure qO (lt:α->α->Bool) (a m b mid s:Nat) (d:Array α):Prop where
 lo:a<=s
 ms:s<=m
 mid1:s<=mid
 e0:mid<=mid+m-s
 e1:mid+m-s<=b
 left:∀x y,a<=x->x<s->mid+m-s<=y->y<b->lt d[y]! d[x]! = false
 right:∀x y,m<=x->x<mid+m-s->s<=y->y<m->lt d[y]! d[x]! = false
theorem l5{lt:α->α->Bool}(g:SWO lt){d:Array α}(h:SortedIn lt a b d)(e:a<=i)(k:i<=j)(f:j<b):lt d[j]! d[i]! = false:=by
 rcases Nat.lt_or_ge i j with c|c
 .exact h i j e c f
 .obtain rfl:i=j:=by omega
  exact g.irrefl _
theorem qO.of{lt:α->α->Bool}(c:SWO lt){d:Array α}(q:SortedIn lt a m d)(r:SortedIn lt m b d)(B:a<m)(C:m<b)(w:mid=(a+b) / 2)(v:lo=if mid<m then mid+m-b else a)(o:hi=if mid<m then mid else m)(D:lo<=s)(E:s<=hi)(k:s=lo\/lt d[mid+m-1-(s-1)]! d[s-1]! = false)(l:s=hi\/lt d[mid+m-1-s]! d[s]! = true):qO lt a m b mid s d:=by
 have e:=c.ntrans;split at v
 .rename_i hc
  rw[if_pos hc]at o;refine⟨by omega,by omega,by omega,by omega,by omega,?_,?_⟩
  .intro x y h A p u
   rcases k with rfl|k
   .omega
   .have f:=l5 c r (i:=mid+m-1-(s-1)) (j:=y) (by omega) (by omega) u
    have g:=l5 c q (i:=x) (j:=s-1) h (by omega) (by omega);exact e _ _ _ f (e _ _ _ k g)
  .intro x y h z p ad
   rcases l with rfl|l
   .omega
   .have t:lt d[s]! d[mid+m-1-s]! = false:=by
     cases hh:lt d[s]! d[mid+m-1-s]! with
     | false=>rfl
     | true=>have := c.trans _ _ _ l hh;rw[c.irrefl]at this;cases this
    have f:=l5 c q (i:=s) (j:=y) (by omega) p ad;have g:=l5 c r (i:=x) (j:=mid+m-1-s) h (by omega) (by omega);exact e _ _ _ f (e _ _ _ t g)
 .rename_i hc
  rw[if_neg hc]at o;refine⟨by omega,by omega,by omega,by omega,by omega,?_,?_⟩
  .intro x y h A p u
   rcases k with rfl|k
   .omega
   .have f:=l5 c r (i:=mid+m-1-(s-1)) (j:=y) (by omega) (by omega) u
    have g:=l5 c q (i:=x) (j:=s-1) h (by omega) (by omega);exact e _ _ _ f (e _ _ _ k g)
  .intro x y h z p ad
   rcases l with rfl|l
   .omega
   .have t:lt d[s]! d[mid+m-1-s]! = false:=by
     cases hh:lt d[s]! d[mid+m-1-s]! with
     | false=>rfl
     | true=>have := c.trans _ _ _ l hh;rw[c.irrefl]at this;cases this
    have f:=l5 c q (i:=s) (j:=y) (by omega) p ad;have g:=l5 c r (i:=x) (j:=mid+m-1-s) h (by omega) (by omega);exact e _ _ _ f (e _ _ _ t g)
theorem qO.rot{lt:α->α->Bool}(v:SWO lt){d e:Array α}(c:qO lt a m b mid s d)(p:SortedIn lt a m d)(q:SortedIn lt m b d)(E:m<=b)(w:mid<=b)(h:kL s m (mid+m-s) d e):SortedIn lt a s e/\SortedIn lt s mid e/\SortedIn lt mid (mid+m-s) e/\SortedIn lt (mid+m-s) b e/\(∀x y,a<=x->x<mid->mid<=y->y<b->lt e[y]! e[x]! = false):=by
 obtain⟨c1,c2,c3,c4,c5,C,D⟩:=c
 -- where each part comes from
 have r:∀k,k<s->e[k]! = d[k]!:=λk hk=>by rw[h k,if_neg (by omega)]
 have t:∀k,s<=k->k<mid->e[k]! = d[k+(m-s)]!:=λk hk hk2=>by rw[h k,if_pos (by omega),if_pos (by omega)]
 have l:∀k,mid<=k->k<mid+m-s->e[k]! = d[k-(mid-s)]!:=λk hk hk2=>by
  rw[h k,if_pos (by omega),if_neg (by omega)];congr 1;omega
 have o:∀k,mid+m-s<=k->e[k]! = d[k]!:=λk hk=>by rw[h k,if_neg (by omega)]
 refine⟨?_,?_,?_,?_,?_⟩
 .intro i j hi g f
  rw[r i (by omega),r j f];exact p i j hi g (by omega)
 .intro i j hi g f
  rw[t i hi (by omega),t j (by omega) f];exact q _ _ (by omega) (by omega) (by omega)
 .intro i j hi g f
  rw[l i hi (by omega),l j (by omega) f];exact p _ _ (by omega) (by omega) (by omega)
 .intro i j hi g f
  rw[o i hi,o j (by omega)];exact q _ _ (by omega) g f
 .intro x y z B A u
  by_cases hxs:x<s
  .rw[r x hxs]
   by_cases hye:y<mid+m-s
   .rw[l y A hye]
    exact l5 v p z (by omega) (by omega)
   .rw[o y (by omega)]
    exact C x y z hxs (by omega) u
  .rw[t x (by omega) B]
   by_cases hye:y<mid+m-s
   .rw[l y A hye]
    exact D _ _ (by omega) (by omega) (by omega) (by omega)
   .rw[o y (by omega)]
    exact l5 v q (by omega) (by omega) u
theorem IA{lt:α->α->Bool}{d d1 d2:Array α}(p:b<=d.size)(f:a<=mid)(g:mid<=b)(q:∀x y,a<=x->x<mid->mid<=y->y<b->lt d[y]! d[x]! = false)(c:PermIn a mid d d1)(r:SortedIn lt a mid d1)(h:PermIn mid b d1 d2)(t:SortedIn lt mid b d2):SortedIn lt a b d2/\PermIn a b d d2:=by
 have ad:=c.1;have e:∀i,i<mid->d2[i]! = d1[i]!:=λi hi=>h.2.1 i (.inl hi);have o:∀i,mid<=i->d1[i]! = d[i]!:=λi hi=>c.2.1 i (.inr hi)
 -- y in the right half of d1,x in the left half of d1
 have c1:∀y,mid<=y->y<b->∀x,a<=x->x<mid->lt d1[y]! d1[x]! = false:=λy hy hyb=>by
  rw[o y hy];exact permIn_all d d1 a mid (λv=>lt d[y]! v=false) (by omega) c (λx hx1 hx2=>q x y hx1 hx2 hy hyb)
 have c2:∀x,a<=x->x<mid->∀y,mid<=y->y<b->lt d2[y]! d2[x]! = false:=λx hx1 hx2=>by
  rw[e x hx2];exact permIn_all d1 d2 mid b (λv=>lt v d1[x]! = false) (by omega) h (λy hy hyb=>c1 y hy hyb x hx1 hx2)
 refine⟨?_,permIn_trans _ _ _ _ _ (permIn_mono _ _ _ _ _ _ (Nat.le_refl _) g p c) (permIn_mono _ _ _ _ _ _ f (Nat.le_refl _) (by omega) h)⟩;intro i j hi k l;by_cases h1:j<mid
 .rw[e i (by omega),e j h1]
  exact r i j hi k h1
 .by_cases h2:i<mid
  .exact c2 i hi h2 j (by omega) l
  .exact t i j (by omega) k l
theorem JS{lt:α->α->Bool}(c:SWO lt){d d':Array α}(f:SortedIn lt (a+1) b d)(r:a+1<=i)(t:i<=b)(g:i=a+1\/lt d[i-1]! d[a]! = true)(l:i=b\/lt d[i]! d[a]! = false)(p:∀k,d'[k]! = if a<=k/\k<i-1 then d[k+1]! else if k=i-1 then d[a]! else d[k]!):SortedIn lt a b d':=by
 have q:∀x y,lt x y=true->lt y x=false:=λx y h=>by
  cases hh:lt y x with
  | false=>rfl
  | true=>have := c.trans _ _ _ h hh;rw[c.irrefl]at this;cases this
 intro x y v u o;rw[p x,p y];by_cases h3:y<i-1
 .rw[if_pos (by omega),if_pos (by omega)]
  exact f _ _ (by omega) (by omega) (by omega)
 .rw[if_neg (by omega:¬(a<=y/\y<i-1))]
  by_cases h4:y=i-1
  .rw[if_pos h4,if_pos (by omega)]
   rcases g with rfl|g
   .omega
   .have e:=l5 c f (i:=x+1) (j:=i-1) (by omega) (by omega) (by omega)
    exact c.ntrans _ _ _ (q _ _ g) e
  .rw[if_neg h4]
   by_cases h5:x<i-1
   .rw[if_pos (by omega)]
    exact l5 c f (by omega) (by omega) o
   .rw[if_neg (by omega)]
    by_cases h6:x=i-1
    .rw[if_pos h6]
     rcases l with rfl|l
     .omega
     .have e:=l5 c f (i:=i) (j:=y) (by omega) (by omega) o
      exact c.ntrans _ _ _ e l
    .rw[if_neg h6]
     exact l5 c f (by omega) (by omega) o
theorem Hj{lt:α->α->Bool}(c:SWO lt){d d':Array α}(f:SortedIn lt a m d)(g:a<=i)(u:i<=m)(l:i=a\/lt d[m]! d[i-1]! = false)(o:i=m\/lt d[m]! d[i]! = true)(q:∀k,d'[k]! = if i<k/\k<=m then d[k-1]! else if k=i then d[m]! else d[k]!):SortedIn lt a (m+1) d':=by
 have r:∀x y,lt x y=true->lt y x=false:=λx y h=>by
  cases hh:lt y x with
  | false=>rfl
  | true=>have := c.trans _ _ _ h hh;rw[c.irrefl]at this;cases this
 intro x y p t v;rw[q x,q y];by_cases h3:i<x
 .rw[if_pos (by omega),if_pos (by omega)]
  exact f _ _ (by omega) (by omega) (by omega)
 .rw[if_neg (by omega:¬(i<x/\x<=m))]
  by_cases h4:x=i
  .rw[if_pos h4,if_pos (by omega)]
   rcases o with rfl|o
   .omega
   .have e:=l5 c f (i:=i) (j:=y-1) g (by omega) (by omega)
    exact c.ntrans _ _ _ e (r _ _ o)
  .rw[if_neg h4]
   by_cases h5:i<y
   .rw[if_pos (by omega)]
    exact l5 c f p (by omega) (by omega)
   .rw[if_neg (by omega)]
    by_cases h6:y=i
    .rw[if_pos h6]
     rcases l with rfl|l
     .omega
     .have e:=l5 c f (i:=x) (j:=i-1) p (by omega) (by omega)
      exact c.ntrans _ _ _ l e
    .rw[if_neg h6]
     exact f _ _ p t (by omega)
open Go.Sort
variable {α:Type} [Inhabited α]
def nk(lt:α->α->Bool)(n lo hi:Nat)(d:Array α):Prop:=∀i j,lo<=i->i<j->j<hi->i / n=j / n->lt d[j]! d[i]! = false
theorem CJ(lt:α->α->Bool)(n lo:Nat)(d:Array α):nk lt n lo lo d:=λi j h1 h2 h3=>by omega
theorem vq{q:Nat}(c:0<n)(d:n*q<=i)(e:i<n*q+n):i / n=q:=by
 rw[Nat.div_eq_iff c]
 have:n*q=q*n:=Nat.mul_comm _ _
 constructor<;>omega
theorem nk.sorted{lt:α->α->Bool}{d:Array α}(h:nk lt n lo hi d)(c:0<n)(k:lo<=a)(g:n∣a)(l:b<=a+n)(o:b<=hi):SortedIn lt a b d:=by
 obtain⟨q,rfl⟩:=g;intro i j e f p;exact h i j (by omega) f (by omega) (by rw[vq (q:=q) c e (by omega),vq (q:=q) (i:=j) c (by omega) (by omega)])
theorem nk.more{lt:α->α->Bool}{d d':Array α}(h:nk lt n lo a d)(l:0<n)(f:n∣a)(e:PermIn a b d d')(o:SortedIn lt a b d'):nk lt n lo b d':=by
 obtain⟨q,rfl⟩:=f;intro i j hi c k g;by_cases h1:j<n*q
 .rw[e.2.1 i (.inl (by omega)),e.2.1 j (.inl h1)]
  exact h i j hi c h1 g
 .by_cases h2:i<n*q
  .exfalso
   have p:i / n<q:=Nat.div_lt_of_lt_mul h2;have r:q<=j / n:=(le_div_iff_mul_le l).2 (by rw[Nat.mul_comm];omega);omega
  .exact o i j (by omega) c k
theorem nk.rest{lt:α->α->Bool}{d d':Array α}(h:nk lt n a hi d)(l:a<=b)(c:PermIn a b d d'):nk lt n b hi d':=by
 intro i j e f g k;rw[c.2.1 i (.inr e),c.2.1 j (.inr (by omega))];exact h i j (by omega) f g k
def oh(lt lt2:α->α->Bool)(n size:Nat)(d:Array α):Prop:=∀i j,i<j->j<size->i / n<j / n->lt d[j]! d[i]! = lt2 d[j]! d[i]!
theorem oh.perm{lt c:α->α->Bool}{d d':Array α}(h:oh lt c n size d)(u:0<n)(f:n∣a)(x:b<=a+n)(y:b<=size)(w:d.size=size)(g:PermIn a b d d'):oh lt c n size d':=by
 obtain⟨q,rfl⟩:=f;have l:∀k,n*q<=k->k<b->k / n=q:=λk h1 h2=>vq u h1 (by omega);intro i j t p f;by_cases hi:n*q<=i/\i<b
 .have e:=l i hi.1 hi.2
  have ad:b<=j:=by
   rcases Nat.lt_or_ge j b with o|o
   .rw[l j (by omega) o,e]at f;omega
   .exact o
  rw[g.2.1 j (.inr ad)];exact permIn_all d d' (n*q) b (λv=>lt d[j]! v=c d[j]! v) (by omega) g (λk h1 h2=>h k j (by omega) p (by rw[l k h1 h2,<-e];exact f)) i hi.1 hi.2
 .by_cases hj2:n*q<=j/\j<b
  .have e:=l j hj2.1 hj2.2
   have r:i<n*q:=(by omega);rw[g.2.1 i (.inl r)];exact permIn_all d d' (n*q) b (λv=>lt v d[i]! = c v d[i]!) (by omega) g (λk h1 h2=>h i k (by omega) (by omega) (by rw[l k h1 h2,<-e];exact f)) j hj2.1 hj2.2
  .rw[g.2.1 i (by omega),g.2.1 j (by omega)]
   exact h i j t p f
theorem oh.double{lt c:α->α->Bool}{d:Array α}(h:oh lt c n size d):oh lt c (2*n) size d:=by
 intro i j f l g;have e:∀k,k / (2*n)=k / n / 2:=λk=>by rw[Nat.mul_comm,Nat.div_div_eq_div_mul]
 rw[e,e]at g;exact h i j f l (by omega)
def qF(lt lt2:α->α->Bool)(a size:Nat)(d:Array α):Prop:=∀i j,a<=i->i<j->j<size->lt d[j]! d[i]! = lt2 d[j]! d[i]!
theorem qF.next{lt c:α->α->Bool}{d d':Array α}(h:qF lt c a size d)(l:a<=b)(e:PermIn a b d d'):qF lt c b size d':=by
 intro i j f g k;rw[e.2.1 i (.inr f),e.2.1 j (.inr (by omega))];exact h i j (by omega) g k
theorem Bv{lt c:α->α->Bool}(a:Nat):∀(j:Nat) (d:Array α),j<d.size->(∀k,a<=k->k<j->lt d[j]! d[k]! = c d[j]! d[k]!)->insInner lt a j d=insInner c a j d
 | 0,d,_,_=>rfl
 | j+1,d,hj,h=>by
  unfold insInner;by_cases ha:a<=j
  .have e:=h j ha (by omega)
   rw[e];split
   .refine Bv a j _ (by rw[Sort.size_swp];omega) λk h1 h2=>?_
    rw[swp_right d (j+1) j (by omega),swp_other d (j+1) j k (by omega) (by omega)];exact h k h1 (by omega)
   .rfl
  .have e:decide (j+1>a)=false:=decide_eq_false (by omega)
   rw[e];rfl
theorem Av{lt:α->α->Bool}(a i:Nat):∀(j:Nat) (d:Array α),j<=i->i<d.size->PermIn a (i+1) d (insInner lt a j d)
 | 0,d,_,_=>permIn_refl _ _ _
 | j+1,d,hj,hi=>by
  unfold insInner;split
  .rename_i hc
   simp only[Bool.and_eq_true,decide_eq_true_eq]at hc;exact permIn_trans _ _ _ _ _ (swp_permIn d a (i+1) (j+1) j (by omega) (by omega) (by omega) (by omega) (by omega)) (Av a i j _ (by omega) (by rw[Sort.size_swp];exact hi))
  .exact permIn_refl _ _ _
theorem Bw{lt c:α->α->Bool}(a b:Nat):∀(n i:Nat) (d:Array α),b-i=n->a<i->b<=d.size->(∀k l,a<=k->k<l->i<=l->l<b->lt d[l]! d[k]! = c d[l]! d[k]!)->insOuter lt a b i d=insOuter c a b i d
 | 0,i,d,hn,_,_,_=>by
  have f:insOuter lt a b i d=d:=by rw[insOuter,if_neg (by omega)]
  have g:insOuter c a b i d=d:=by rw[insOuter,if_neg (by omega)]
  rw[f,g]
 | n+1,i,d,hn,hai,hb,h=>by
  have f:insOuter lt a b i d=insOuter lt a b (i+1) (insInner lt a i d):=by rw[insOuter,if_pos (by omega)]
  have g:insOuter c a b i d=insOuter c a b (i+1) (insInner c a i d):=by rw[insOuter,if_pos (by omega)]
  rw[f,g,Bv a i d (by omega) λk h1 h2=>h k i h1 h2 (Nat.le_refl _) (by omega)];have e:=Av (lt:=c) a i i d (Nat.le_refl _) (by omega);refine Bw a b n (i+1) _ (by omega) (by omega) (by rw[e.1];exact hb) λk l h1 h2 h3 h4=>?_;rw[e.2.1 l (.inr h3)];by_cases hk:k<i+1
  .exact permIn_all d _ a (i+1) (λv=>lt d[l]! v=c d[l]! v) (by omega) e (λk' h5 h6=>h k' l h5 (by omega) (by omega) h4) k h1 hk
  .rw[e.2.1 k (.inr (by omega))]
   exact h k l h1 h2 (by omega) h4
theorem GV{lt c:α->α->Bool}{d:Array α}(e:b<=d.size)(h:∀k l,a<=k->k<l->l<b->lt d[l]! d[k]! = c d[l]! d[k]!):insertionSort lt d a b=insertionSort c d a b:=
 Bw a b _ (a+1) d rfl (by omega) e λk l h1 h2 _ h4=>h k l h1 h2 h4
end Go.Proofs.YtnepiccbpokmiaaGreatDoor
