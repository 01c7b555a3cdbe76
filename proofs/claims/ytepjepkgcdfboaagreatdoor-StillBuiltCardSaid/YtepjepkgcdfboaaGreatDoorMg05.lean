/- Merging in place (sort.symMerge, rotate, swapRange), plain Lean on arrays. No program. -/
import Derived.Sort.LotA
import Derived.Sort.Lot0
set_option linter.unusedVariables false
set_option linter.unusedSimpArgs false
namespace Go.Proofs.YtepjepkgcdfboaaGreatDoor
open Go.Sort
variable {α:Type} [Inhabited α]
def Rot (a m b:Nat) (d d':Array α):Prop :=
 ∀ k,d'[k]! = if a<=k/\k<b then (if k<a+(b-m) then d[k+(m-a)]! else d[k-(b-m)]!) else d[k]!
def b9t (a b n:Nat) (d d':Array α):Prop :=
 ∀ k,d'[k]! = if a<=k/\k<a+n then d[k-a+b]! else if b<=k/\k<b+n then d[k-b+a]! else d[k]!
theorem b9t.zero (a b:Nat) (d:Array α):b9t a b 0 d d:=fun k=>by
 rw [if_neg (by omega),if_neg (by omega)]
theorem b9t.step {a b n:Nat} {d d':Array α} (h:b9t a b n d d') (hab:a+n<b) (hs:b+n<d'.size):b9t a b (n+1) d (swp d' (a+n) (b+n)):=fun k=>by
 have hl:=swp_left d' (a+n) (b+n) (by omega) (by omega)
 have hr:=swp_right d' (a+n) (b+n) hs
 by_cases h1:k=a+n
 ·subst h1
  rw [hl,h (b+n),if_neg (by omega),if_neg (by omega),if_pos (by omega)]
  congr 1;omega
 ·by_cases h2:k=b+n
  ·subst h2
   rw [hr,h (a+n),if_neg (by omega),if_neg (by omega),if_neg (by omega),if_pos (by omega)]
   congr 1;omega
  ·rw [swp_other d' _ _ k h1 h2,h k]
   repeat' split
   all_goals first
    | rfl
    | (exfalso;omega)
    | (congr 1;omega)
theorem Rot.left {m i j:Nat} {d d' d'':Array α} (hs:b9t (m-i) m j d d') (hi:i<=m) (hij:j<i) (hj:0<j) (h:Rot (m-(i-j)) m (m+j) d' d''):Rot (m-i) m (m+j) d d'':=fun k=>by
 rw [h k]
 repeat' split
 all_goals (try rw [hs])
 all_goals (repeat' split)
 all_goals first
  | rfl
  | (exfalso;omega)
  | (congr 1;omega)
theorem Rot.right {m i j:Nat} {d d' d'':Array α} (hs:b9t (m-i) (m+j-i) i d d') (hi:i<=m) (hij:i<j) (h0:0<i) (h:Rot (m-i) m (m+(j-i)) d' d''):Rot (m-i) m (m+j) d d'':=fun k=>by
 rw [h k]
 repeat' split
 all_goals (try rw [hs])
 all_goals (repeat' split)
 all_goals first
  | rfl
  | (exfalso;omega)
  | (congr 1;omega)
theorem Rot.equal {m i:Nat} {d d':Array α} (hs:b9t (m-i) m i d d') (hi:i<=m):Rot (m-i) m (m+i) d d':=fun k=>by
 rw [hs k]
 repeat' split
 all_goals first
  | rfl
  | (exfalso;omega)
  | (congr 1;omega)
theorem Rot.none {a m b:Nat} (d:Array α) (h:a=m\/m=b) (h1:a<=m) (h2:m<=b):Rot a m b d d:=fun k=>by
 rcases h with rfl | rfl
 all_goals (repeat' split)
 all_goals first
  | rfl
  | (exfalso;omega)
  | (congr 1;omega)
structure Cut (lt:α->α->Bool) (a m b mid s:Nat) (d:Array α):Prop where
 lo:a<=s
 ms:s<=m
 mid1:s<=mid
 e0:mid<=mid+m-s
 e1:mid+m-s<=b
 left:∀ x y,a<=x->x<s->mid+m-s<=y->y<b->lt d[y]! d[x]! = false
 right:∀ x y,m<=x->x<mid+m-s->s<=y->y<m->lt d[y]! d[x]! = false
theorem a2i {lt:α->α->Bool} (hS:SWO lt) {a b:Nat} {d:Array α} (h:SortedIn lt a b d) {i j:Nat} (h1:a<=i) (h2:i<=j) (h3:j<b):lt d[j]! d[i]! = false:=by
 rcases Nat.lt_or_ge i j with h4 | h4
 ·exact h i j h1 h4 h3
 ·obtain rfl:i=j:=by omega
  exact hS.irrefl _
theorem Cut.of {lt:α->α->Bool} (hS:SWO lt) {a m b mid s lo hi:Nat} {d:Array α} (h1:SortedIn lt a m d) (h2:SortedIn lt m b d) (ham:a<m) (hmb:m<b) (hmid:mid=(a+b) / 2)
  (hlo:lo=if mid<m then mid+m-b else a) (hhi:hi=if mid<m then mid else m) (hs0:lo<=s) (hs1:s<=hi)
  (hl:s=lo\/lt d[mid+m-1-(s-1)]! d[s-1]! = false) (hr:s=hi\/lt d[mid+m-1-s]! d[s]! = true):Cut lt a m b mid s d:=by
 have aa:=hS.ntrans
 split at hlo
 ·rename_i hc
  rw [if_pos hc] at hhi
  refine ⟨by omega,by omega,by omega,by omega,by omega,?_,?_⟩
  ·intro x y hx af hy ad
   rcases hl with rfl | hl
   ·omega
   ·have e1:=a2i hS h2 (i:=mid+m-1-(s-1)) (j:=y) (by omega) (by omega) ad
    have e2:=a2i hS h1 (i:=x) (j:=s-1) hx (by omega) (by omega)
    exact aa _ _ _ e1 (aa _ _ _ hl e2)
  ·intro x y hx ae hy ac
   rcases hr with rfl | hr
   ·omega
   ·have ab:lt d[s]! d[mid+m-1-s]! = false:=by
     cases hh:lt d[s]! d[mid+m-1-s]! with
     | false=>rfl
     | true=>have := hS.trans _ _ _ hr hh;rw [hS.irrefl] at this;cases this
    have e1:=a2i hS h1 (i:=s) (j:=y) (by omega) hy ac
    have e2:=a2i hS h2 (i:=x) (j:=mid+m-1-s) hx (by omega) (by omega)
    exact aa _ _ _ e1 (aa _ _ _ ab e2)
 ·rename_i hc
  rw [if_neg hc] at hhi
  refine ⟨by omega,by omega,by omega,by omega,by omega,?_,?_⟩
  ·intro x y hx af hy ad
   rcases hl with rfl | hl
   ·omega
   ·have e1:=a2i hS h2 (i:=mid+m-1-(s-1)) (j:=y) (by omega) (by omega) ad
    have e2:=a2i hS h1 (i:=x) (j:=s-1) hx (by omega) (by omega)
    exact aa _ _ _ e1 (aa _ _ _ hl e2)
  ·intro x y hx ae hy ac
   rcases hr with rfl | hr
   ·omega
   ·have ab:lt d[s]! d[mid+m-1-s]! = false:=by
     cases hh:lt d[s]! d[mid+m-1-s]! with
     | false=>rfl
     | true=>have := hS.trans _ _ _ hr hh;rw [hS.irrefl] at this;cases this
    have e1:=a2i hS h1 (i:=s) (j:=y) (by omega) hy ac
    have e2:=a2i hS h2 (i:=x) (j:=mid+m-1-s) hx (by omega) (by omega)
    exact aa _ _ _ e1 (aa _ _ _ ab e2)
theorem Cut.rot {lt:α->α->Bool} (hS:SWO lt) {a m b mid s:Nat} {d d':Array α} (c:Cut lt a m b mid s d) (h1:SortedIn lt a m d) (h2:SortedIn lt m b d) (hm:m<=b) (hmid:mid<=b) (hr:Rot s m (mid+m-s) d d') :
  SortedIn lt a s d'/\SortedIn lt s mid d'/\SortedIn lt mid (mid+m-s) d'/\SortedIn lt (mid+m-s) b d'/\(∀ x y,a<=x->x<mid->mid<=y->y<b->lt d'[y]! d'[x]! = false):=by
 obtain ⟨c1,c2,c3,c4,c5,cl,cr⟩:=c
 -- where each part comes from
 have p1:∀ k,k<s->d'[k]! = d[k]!:=fun k hk=>by rw [hr k,if_neg (by omega)]
 have p2:∀ k,s<=k->k<mid->d'[k]! = d[k+(m-s)]!:=fun k hk hk2=>by rw [hr k,if_pos (by omega),if_pos (by omega)]
 have p3:∀ k,mid<=k->k<mid+m-s->d'[k]! = d[k-(mid-s)]!:=fun k hk hk2=>by
  rw [hr k,if_pos (by omega),if_neg (by omega)];congr 1;omega
 have p4:∀ k,mid+m-s<=k->d'[k]! = d[k]!:=fun k hk=>by rw [hr k,if_neg (by omega)]
 refine ⟨?_,?_,?_,?_,?_⟩
 ·intro i j hi aa hj
  rw [p1 i (by omega),p1 j hj]
  exact h1 i j hi aa (by omega)
 ·intro i j hi aa hj
  rw [p2 i hi (by omega),p2 j (by omega) hj]
  exact h2 _ _ (by omega) (by omega) (by omega)
 ·intro i j hi aa hj
  rw [p3 i hi (by omega),p3 j (by omega) hj]
  exact h1 _ _ (by omega) (by omega) (by omega)
 ·intro i j hi aa hj
  rw [p4 i hi,p4 j (by omega)]
  exact h2 _ _ (by omega) aa hj
 ·intro x y hx ac hy ab
  by_cases hxs:x<s
  ·rw [p1 x hxs]
   by_cases hye:y<mid+m-s
   ·rw [p3 y hy hye]
    exact a2i hS h1 hx (by omega) (by omega)
   ·rw [p4 y (by omega)]
    exact cl x y hx hxs (by omega) ab
  ·rw [p2 x (by omega) ac]
   by_cases hye:y<mid+m-s
   ·rw [p3 y hy hye]
    exact cr _ _ (by omega) (by omega) (by omega) (by omega)
   ·rw [p4 y (by omega)]
    exact a2i hS h2 (by omega) (by omega) ab
theorem d4r {lt:α->α->Bool} {a mid b:Nat} {d d1 d2:Array α} (hb:b<=d.size) (ham:a<=mid) (hmb:mid<=b) (hx:∀ x y,a<=x->x<mid->mid<=y->y<b->lt d[y]! d[x]! = false)
  (p1:PermIn a mid d d1) (s1:SortedIn lt a mid d1) (p2:PermIn mid b d1 d2) (s2:SortedIn lt mid b d2):SortedIn lt a b d2/\PermIn a b d d2:=by
 have ad:=p1.1
 have aa:∀ i,i<mid->d2[i]! = d1[i]!:=fun i hi=>p2.2.1 i (.inl hi)
 have ab:∀ i,mid<=i->d1[i]! = d[i]!:=fun i hi=>p1.2.1 i (.inr hi)
 -- y in the right half of d1,x in the left half of d1
 have c1:∀ y,mid<=y->y<b->∀ x,a<=x->x<mid->lt d1[y]! d1[x]! = false:=fun y hy hyb=>by
  rw [ab y hy]
  exact permIn_all d d1 a mid (fun v=>lt d[y]! v=false) (by omega) p1 (fun x hx1 hx2=>hx x y hx1 hx2 hy hyb)
 have c2:∀ x,a<=x->x<mid->∀ y,mid<=y->y<b->lt d2[y]! d2[x]! = false:=fun x hx1 hx2=>by
  rw [aa x hx2]
  exact permIn_all d1 d2 mid b (fun v=>lt v d1[x]! = false) (by omega) p2 (fun y hy hyb=>c1 y hy hyb x hx1 hx2)
 refine ⟨?_,permIn_trans _ _ _ _ _ (permIn_mono _ _ _ _ _ _ (Nat.le_refl _) hmb hb p1) (permIn_mono _ _ _ _ _ _ ham (Nat.le_refl _) (by omega) p2)⟩
 intro i j hi ac hj
 by_cases h1:j<mid
 ·rw [aa i (by omega),aa j h1]
  exact s1 i j hi ac h1
 ·by_cases h2:i<mid
  ·exact c2 i hi h2 j (by omega) hj
  ·exact s2 i j (by omega) ac hj
theorem e0n {lt:α->α->Bool} (hS:SWO lt) {a b i:Nat} {d d':Array α} (h2:SortedIn lt (a+1) b d) (hi1:a+1<=i) (hi2:i<=b) (hl:i=a+1\/lt d[i-1]! d[a]! = true) (hr:i=b\/lt d[i]! d[a]! = false)
  (hm:∀ k,d'[k]! = if a<=k/\k<i-1 then d[k+1]! else if k=i-1 then d[a]! else d[k]!):SortedIn lt a b d':=by
 have aa:∀ x y,lt x y=true->lt y x=false:=fun x y h=>by
  cases hh:lt y x with
  | false=>rfl
  | true=>have := hS.trans _ _ _ h hh;rw [hS.irrefl] at this;cases this
 intro x y hx ab hy
 rw [hm x,hm y]
 by_cases h3:y<i-1
 ·rw [if_pos (by omega),if_pos (by omega)]
  exact h2 _ _ (by omega) (by omega) (by omega)
 ·rw [if_neg (by omega:¬ (a<=y/\y<i-1))]
  by_cases h4:y=i-1
  ·rw [if_pos h4,if_pos (by omega)]
   rcases hl with rfl | hl
   ·omega
   ·have e:=a2i hS h2 (i:=x+1) (j:=i-1) (by omega) (by omega) (by omega)
    exact hS.ntrans _ _ _ (aa _ _ hl) e
  ·rw [if_neg h4]
   by_cases h5:x<i-1
   ·rw [if_pos (by omega)]
    exact a2i hS h2 (by omega) (by omega) hy
   ·rw [if_neg (by omega)]
    by_cases h6:x=i-1
    ·rw [if_pos h6]
     rcases hr with rfl | hr
     ·omega
     ·have e:=a2i hS h2 (i:=i) (j:=y) (by omega) (by omega) hy
      exact hS.ntrans _ _ _ e hr
    ·rw [if_neg h6]
     exact a2i hS h2 (by omega) (by omega) hy
theorem d1x {lt:α->α->Bool} (hS:SWO lt) {a m i:Nat} {d d':Array α} (h1:SortedIn lt a m d) (hi1:a<=i) (hi2:i<=m) (hl:i=a\/lt d[m]! d[i-1]! = false) (hr:i=m\/lt d[m]! d[i]! = true)
  (hm:∀ k,d'[k]! = if i<k/\k<=m then d[k-1]! else if k=i then d[m]! else d[k]!):SortedIn lt a (m+1) d':=by
 have aa:∀ x y,lt x y=true->lt y x=false:=fun x y h=>by
  cases hh:lt y x with
  | false=>rfl
  | true=>have := hS.trans _ _ _ h hh;rw [hS.irrefl] at this;cases this
 intro x y hx ab hy
 rw [hm x,hm y]
 by_cases h3:i<x
 ·rw [if_pos (by omega),if_pos (by omega)]
  exact h1 _ _ (by omega) (by omega) (by omega)
 ·rw [if_neg (by omega:¬ (i<x/\x<=m))]
  by_cases h4:x=i
  ·rw [if_pos h4,if_pos (by omega)]
   rcases hr with rfl | hr
   ·omega
   ·have e:=a2i hS h1 (i:=i) (j:=y-1) hi1 (by omega) (by omega)
    exact hS.ntrans _ _ _ e (aa _ _ hr)
  ·rw [if_neg h4]
   by_cases h5:i<y
   ·rw [if_pos (by omega)]
    exact a2i hS h1 hx (by omega) (by omega)
   ·rw [if_neg (by omega)]
    by_cases h6:y=i
    ·rw [if_pos h6]
     rcases hl with rfl | hl
     ·omega
     ·have e:=a2i hS h1 (i:=x) (j:=i-1) hx (by omega) (by omega)
      exact hS.ntrans _ _ _ hl e
    ·rw [if_neg h6]
     exact h1 _ _ hx ab (by omega)
open Go.Sort
variable {α:Type} [Inhabited α]
def b6l (lt:α->α->Bool) (n lo hi:Nat) (d:Array α):Prop:=∀ i j,lo<=i->i<j->j<hi->i / n=j / n->lt d[j]! d[i]! = false
theorem c9l (lt:α->α->Bool) (n lo:Nat) (d:Array α):b6l lt n lo lo d:=fun i j h1 h2 h3=>by omega
theorem d5p {n q i:Nat} (hn:0<n) (h1:n*q<=i) (h2:i<n*q+n):i / n=q:=by
 rw [Nat.div_eq_iff hn]
 have:n*q=q*n:=Nat.mul_comm _ _
 constructor<;>omega
theorem b6l.sorted {lt:α->α->Bool} {n lo hi a b:Nat} {d:Array α} (h:b6l lt n lo hi d) (hn:0<n) (hlo:lo<=a) (hd:n∣a) (hb:b<=a+n) (hh:b<=hi):SortedIn lt a b d:=by
 obtain ⟨q,rfl⟩:=hd
 intro i j ab aa hj
 exact h i j (by omega) aa (by omega) (by rw [d5p (q:=q) hn ab (by omega),d5p (q:=q) (i:=j) hn (by omega) (by omega)])
theorem b6l.more {lt:α->α->Bool} {n lo a b:Nat} {d d':Array α} (h:b6l lt n lo a d) (hn:0<n) (hd:n∣a) (hp:PermIn a b d d') (hs:SortedIn lt a b d'):b6l lt n lo b d':=by
 obtain ⟨q,rfl⟩:=hd
 intro i j hi aa hj he
 by_cases h1:j<n*q
 ·rw [hp.2.1 i (.inl (by omega)),hp.2.1 j (.inl h1)]
  exact h i j hi aa h1 he
 ·by_cases h2:i<n*q
  ·exfalso
   have e1:i / n<q:=Nat.div_lt_of_lt_mul h2
   have e2:q<=j / n:=(Nat.le_div_iff_mul_le hn).2 (by rw [Nat.mul_comm];omega)
   omega
  ·exact hs i j (by omega) aa hj
theorem b6l.rest {lt:α->α->Bool} {n a b hi:Nat} {d d':Array α} (h:b6l lt n a hi d) (hab:a<=b) (hp:PermIn a b d d'):b6l lt n b hi d':=by
 intro i j h1 h2 h3 h4
 rw [hp.2.1 i (.inr h1),hp.2.1 j (.inr (by omega))]
 exact h i j (by omega) h2 h3 h4
def Fit (lt lt2:α->α->Bool) (n size:Nat) (d:Array α):Prop:=∀ i j,i<j->j<size->i / n<j / n->lt d[j]! d[i]! = lt2 d[j]! d[i]!
theorem Fit.perm {lt lt2:α->α->Bool} {n size a b:Nat} {d d':Array α} (h:Fit lt lt2 n size d) (hn:0<n) (hd:n∣a) (hb:b<=a+n) (hs:b<=size) (hsz:d.size=size) (hp:PermIn a b d d'):Fit lt lt2 n size d':=by
 obtain ⟨q,rfl⟩:=hd
 have aa:∀ k,n*q<=k->k<b->k / n=q:=fun k h1 h2=>d5p hn h1 (by omega)
 intro i j ad hj hd
 by_cases hi:n*q<=i/\i<b
 ·have e:=aa i hi.1 hi.2
  have ac:b<=j:=by
   rcases Nat.lt_or_ge j b with h5 | h5
   ·rw [aa j (by omega) h5,e] at hd;omega
   ·exact h5
  rw [hp.2.1 j (.inr ac)]
  exact permIn_all d d' (n*q) b (fun v=>lt d[j]! v=lt2 d[j]! v) (by omega) hp (fun k h1 h2=>h k j (by omega) hj (by rw [aa k h1 h2,<-e];exact hd)) i hi.1 hi.2
 ·by_cases hj2:n*q<=j/\j<b
  ·have e:=aa j hj2.1 hj2.2
   have ab:i<n*q:=by omega
   rw [hp.2.1 i (.inl ab)]
   exact permIn_all d d' (n*q) b (fun v=>lt v d[i]! = lt2 v d[i]!) (by omega) hp (fun k h1 h2=>h i k (by omega) (by omega) (by rw [aa k h1 h2,<-e];exact hd)) j hj2.1 hj2.2
  ·rw [hp.2.1 i (by omega),hp.2.1 j (by omega)]
   exact h i j ad hj hd
theorem Fit.double {lt lt2:α->α->Bool} {n size:Nat} {d:Array α} (h:Fit lt lt2 n size d):Fit lt lt2 (2*n) size d:=by
 intro i j aa hj hd
 have e:∀ k,k / (2*n)=k / n / 2:=fun k=>by rw [Nat.mul_comm,Nat.div_div_eq_div_mul]
 rw [e,e] at hd
 exact h i j aa hj (by omega)
def d2m (lt lt2:α->α->Bool) (a size:Nat) (d:Array α):Prop:=∀ i j,a<=i->i<j->j<size->lt d[j]! d[i]! = lt2 d[j]! d[i]!
theorem d2m.next {lt lt2:α->α->Bool} {a b size:Nat} {d d':Array α} (h:d2m lt lt2 a size d) (hab:a<=b) (hp:PermIn a b d d'):d2m lt lt2 b size d':=by
 intro i j h1 h2 h3
 rw [hp.2.1 i (.inr h1),hp.2.1 j (.inr (by omega))]
 exact h i j (by omega) h2 h3
theorem c1a {lt lt2:α->α->Bool} (a:Nat):∀ (j:Nat) (d:Array α),j<d.size->(∀ k,a<=k->k<j->lt d[j]! d[k]! = lt2 d[j]! d[k]!)->insInner lt a j d=insInner lt2 a j d
 | 0,d,_,_=>rfl
 | j+1,d,hj,h=>by
  unfold insInner
  by_cases ha:a<=j
  ·have e:=h j ha (by omega)
   rw [e]
   split
   ·refine c1a a j _ (by rw [Sort.size_swp];omega) fun k h1 h2 => ?_
    rw [swp_right d (j+1) j (by omega),swp_other d (j+1) j k (by omega) (by omega)]
    exact h k h1 (by omega)
   ·rfl
  ·have e:decide (j+1>a)=false:=decide_eq_false (by omega)
   rw [e]
   rfl
theorem b5m {lt:α->α->Bool} (a i:Nat):∀ (j:Nat) (d:Array α),j<=i->i<d.size->PermIn a (i+1) d (insInner lt a j d)
 | 0,d,_,_=>permIn_refl _ _ _
 | j+1,d,hj,hi=>by
  unfold insInner
  split
  ·rename_i hc
   simp only [Bool.and_eq_true,decide_eq_true_eq] at hc
   exact permIn_trans _ _ _ _ _ (swp_permIn d a (i+1) (j+1) j (by omega) (by omega) (by omega) (by omega) (by omega)) (b5m a i j _ (by omega) (by rw [Sort.size_swp];exact hi))
  ·exact permIn_refl _ _ _
theorem c1b {lt lt2:α->α->Bool} (a b:Nat):∀ (n i:Nat) (d:Array α),b-i=n->a<i->b<=d.size->(∀ k l,a<=k->k<l->i<=l->l<b->lt d[l]! d[k]! = lt2 d[l]! d[k]!)->insOuter lt a b i d=insOuter lt2 a b i d
 | 0,i,d,hn,_,_,_=>by
  have e1:insOuter lt a b i d=d:=by rw [insOuter,if_neg (by omega)]
  have e2:insOuter lt2 a b i d=d:=by rw [insOuter,if_neg (by omega)]
  rw [e1,e2]
 | n+1,i,d,hn,hai,hb,h=>by
  have e1:insOuter lt a b i d=insOuter lt a b (i+1) (insInner lt a i d):=by rw [insOuter,if_pos (by omega)]
  have e2:insOuter lt2 a b i d=insOuter lt2 a b (i+1) (insInner lt2 a i d):=by rw [insOuter,if_pos (by omega)]
  rw [e1,e2,c1a a i d (by omega) fun k h1 h2=>h k i h1 h2 (Nat.le_refl _) (by omega)]
  have hp:=b5m (lt:=lt2) a i i d (Nat.le_refl _) (by omega)
  refine c1b a b n (i+1) _ (by omega) (by omega) (by rw [hp.1];exact hb) fun k l h1 h2 h3 h4 => ?_
  rw [hp.2.1 l (.inr h3)]
  by_cases hk:k<i+1
  ·exact permIn_all d _ a (i+1) (fun v=>lt d[l]! v=lt2 d[l]! v) (by omega) hp (fun k' h5 h6=>h k' l h5 (by omega) (by omega) h4) k h1 hk
  ·rw [hp.2.1 k (.inr (by omega))]
   exact h k l h1 h2 (by omega) h4
theorem d0r {lt lt2:α->α->Bool} {a b:Nat} {d:Array α} (hb:b<=d.size) (h:∀ k l,a<=k->k<l->l<b->lt d[l]! d[k]! = lt2 d[l]! d[k]!):insertionSort lt d a b=insertionSort lt2 d a b :=
 c1b a b _ (a+1) d rfl (by omega) hb fun k l h1 h2 _ h4=>h k l h1 h2 h4
end Go.Proofs.YtepjepkgcdfboaaGreatDoor
