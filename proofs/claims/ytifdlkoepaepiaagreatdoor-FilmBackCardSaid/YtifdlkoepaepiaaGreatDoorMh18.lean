/- Lemmas. -/
import Derived.Test.YtifdlkoepaepiaaGreatDoorMh09
import Derived.Test.YtifdlkoepaepiaaGreatDoorMh12
import Derived.Test.YtifdlkoepaepiaaGreatDoorMh02
import Derived.Shelf.GgSortFunc.SW
import Derived.Deep.Cut
set_option linter.all false
set_option maxHeartbeats 2000000
set_option maxRecDepth 100000
namespace Go.Proofs.YtifdlkoepaepiaaGreatDoor
open Tryz List Nat Go.RowKit Go.Sort Go.Shelf Go.Lib
variable {k:Nat}{P:Program}{W W' w0:World}
section
variable {α:Type} [Inhabited α]
theorem kX{enc:α->Value}{blk off:Nat}{a:Array α}(h:SW enc w0 blk off a W){p:Addr}(c:p.block<w0.heap.size)(b:p.block≠blk):W.cell? p=w0.cell? p:=by
 obtain⟨n,os,rfl⟩:=h;unfold sortWorld;rw[cell?_grow _ _ _ (by rw[size_putRow];exact c),cell?_putRow_other enc _ blk off a p (Or.inl b)];rfl
theorem pO{enc:α->Value}{blk off:Nat}{c b:Array α}(h:SW enc w0 blk off c W)(a:blk<w0.heap.size)(d:SW enc W blk off b W')(e:b.size=c.size):SW enc w0 blk off b W':=by
 obtain⟨n,os,rfl⟩:=d;exact h.on a n b os e
theorem rq{enc:α->Value}{blk off:Nat}{b:Array α}{o:Obj}(h:SW enc (w0.alloc o) blk off b W)(a:blk<w0.heap.size):SW enc w0 blk off b W:=by
 obtain⟨n,os,rfl⟩:=h;refine⟨n,#[o]++os,?_⟩;unfold sortWorld;rw[alloc_eq_grow,ahead_grow,putRow_grow enc (Sort.ahead w0 n) _ blk off _ a,grow_grow]
structure kU (P:Program) (enc:α->Value) (lt:α->α->Bool) (g:Nat) (lb:Array Value) (blk off size:Nat) (W:World) (d:Array α):Prop where
 less:LessReads P g lb enc lt blk off size W
 holds:Holds enc W blk off d
 lt_:blk<W.heap.size
 size_:d.size=size
theorem kU.start{enc:α->Value}{lt:α->α->Bool}{g:Nat}{lb:Array Value}{blk off size:Nat}{d:Array α}(E:kU P enc lt g lb blk off size W d):SW enc W blk off d W:=SW.start E.holds
theorem kU.on{enc:α->Value}{lt:α->α->Bool}{g:Nat}{lb:Array Value}{blk off size:Nat}{d d':Array α}(E:kU P enc lt g lb blk off size W d)(h:SW enc W blk off d' W')(a:d'.size=size):kU P enc lt g lb blk off size W' d':=
 ⟨h.lessReads E.less E.lt_ a,h.holds E.lt_ E.holds (a.trans E.size_.symm),h.lt E.lt_,a⟩
end
def nJ(g:Nat)(lb:Array Value)(sf:Nat)(sb:Array Value):Value:=.agg #[.func (.func g) #[] lb,.func (.func sf) #[] sb]
section
variable {α:Type} [Inhabited α] (enc:α->Value) (lt:α->α->Bool) (g:Nat) (lb:Array Value) (sf:Nat) (sb:Array Value) (blk off size:Nat)
theorem OI(f:SwapSwaps prog sf sb enc blk off size)(B:size<1099511627776)(W:World)(d:Array α)(a b n:Nat)(E:kU prog enc lt g lb blk off size W d)(z:a+n<=b)(F:b+n<=size):Calls prog 284 #[nJ g lb sf sb,a,b,n] W λe W'=>e=.returned (.tuple #[])/\∃d',pe a b n d d'/\d'.size=size/\(∀lo hi,lo<=a->b+n<=hi->hi<=size->PermIn lo hi d d')/\SW enc W blk off d' W':=by
 have x:=E.size_;have w:=E.lt_;have o:=(E.start).alloc (.cells #[.func (.func g) #[] lb,.func (.func sf) #[] sb] 308);unfold nJ;have q:=gd E;clear E;go_enter func284,ntmps284;go_wp2
 go_loopg [8] n (λj iv wr=>∃(i:Nat) (c:Array α),iv=.int .i64 i/\i+j=n/\gh (pe a b i d c)/\c.size=size/\gh (∀lo hi,lo<=a->b+n<=hi->hi<=size->PermIn lo hi d c)/\SW enc (W.alloc (.cells #[.func (.func g) #[] lb,.func (.func sf) #[] sb] 308)) blk off c wr)
 .exact⟨0,d,rfl,by omega,gd (pe.zero _ _ _),x,gd (λlo hi _ _ _=>permIn_refl _ _ _),SW.start (q.o.on o x).holds⟩
 clear o;obtain⟨i,c,rfl,C,s,l,r,h⟩:=hrel;have ad:=q.o.on (rq h w) l;have c1:=kX h (p:=⟨W.heap.size,1,none⟩) (by simp) (by show W.heap.size≠blk;omega);simp at c1;rcases gk with _|j
 .obtain rfl:i=n:=by omega
  go_wp2
  go_end0
  exact⟨rfl,c,s.o,l,r.o,rq h w⟩
 .have D:i<n:=by omega
  have A:=f wr c ad.holds l (a+i) (b+i) (by omega) (by omega);have y:((a+i:Nat):Int)=(a:Int)+(i:Int):=by simp
  have e2:((b+i:Nat):Int)=(b:Int)+(i:Int):=by simp
  rw[y,e2]at A;have t:=h.swap (by simp;omega) (a+i) (b+i) (by omega) (by omega);have v:=s.o.step (by omega) (by omega)
  have u:∀lo hi,lo<=a->b+n<=hi->hi<=size->PermIn lo hi d (swp c (a+i) (b+i)):=λlo hi h1 h2 h3=>
   permIn_trans _ _ _ _ _ (r.o lo hi h1 h2 h3) (swp_permIn _ _ _ _ _ (by omega) (by omega) (by omega) (by omega) (by omega))
  have m:=gd (And.intro t (And.intro v u));clear t v u ad h;go_wp2
  go_roundg j
  .exact⟨i+1,_,by go_num,by omega,gd m.o.2.1,by rw[Sort.size_swp];exact l,gd m.o.2.2,m.o.1⟩
  .omega
theorem M7(t:SwapSwaps prog sf sb enc blk off size)(F:size<1099511627776)(W:World)(d:Array α)(a m b:Nat)(E:kU prog enc lt g lb blk off size W d)(N:a<m)(O:m<b)(U:b<=size):Calls prog 283 #[nJ g lb sf sb,.int .i64 a,m,.int .i64 b] W λe W'=>e=.returned (.tuple #[])/\∃c,kQ a m b d c/\c.size=size/\PermIn a b d c/\SW enc W blk off c W':=by
 have I:=E.size_;have H:=E.lt_;have G:=(E.start).alloc (.cells #[.func (.func g) #[] lb,.func (.func sf) #[] sb] 308);have C:=λW d a b n=>OI enc lt g lb sf sb blk off size t F W d a b n;unfold nJ at C⊢;have⟨HE,ad⟩:=gy E C;clear E C;go_enter func283,ntmps283;go_wp2
 go_loopg [8,9] (b-a) (λk vi vj wr=>∃(i j:Nat) (o:Array α),vi=.int .i64 i/\vj=.int .i64 j/\0<i/\0<j/\i+j<=k/\i<=m-a/\j<=b-m/\o.size=size/\gh (∀c,kQ (m-i) m (m+j) o c->kQ a m b d c)/\gh (PermIn a b d o)/\SW enc (W.alloc (.cells #[.func (.func g) #[] lb,.func (.func sf) #[] sb] 308)) blk off o wr)
 .refine⟨m-a,b-m,d,by go_num,by go_num,by omega,by omega,by omega,by omega,by omega,I,gd ?_,gd (permIn_refl _ _ _),SW.start (HE.o.on G I).holds⟩
  intro c h;have s:m-(m-a)=a:=by omega
  have e2:m+(b-m)=b:=by omega
  rw[s,e2]at h;exact h
 clear G;obtain⟨i,j,o,rfl,rfl,K,L,R,S,T,y,A,z,v⟩:=hrel;have u:=HE.o.on (rq v H) y;have M:=kX v (p:=⟨W.heap.size,0,none⟩) (by simp) (by show W.heap.size≠blk;omega);have c1:=kX v (p:=⟨W.heap.size,1,none⟩) (by simp) (by show W.heap.size≠blk;omega);simp at M c1;have B:=gd v;clear v;by_cases heq:i=j
 .subst heq
  have r:=ad.o wr o (m-i) m i u (by omega) (by omega);have s:((m-i:Nat):Int)=(m:Int)-(i:Int):=by omega
  rw[s]at r;clear u;go_wp2_with fail;refine r.mono ?_;rintro e J ⟨rfl,w,f,q,l,x⟩;go_wp2
  go_end0
  refine⟨rfl,w,A.o _ (kQ.equal f (by omega)),q,permIn_trans _ _ _ _ _ z.o (l a b (by omega) (by omega) (by omega)),?_⟩;exact rq (pO B.o (by simp;omega) x (q.trans y.symm)) H
 .rcases gk with _|gk
  .omega
  .have V:((i:Int) != (j:Int))=true:=by rw[bne_iff_ne];omega
   by_cases hgt:j<i
   .have Q:=jo j i (by omega)
    have r:=ad.o wr o (m-i) m j u (by omega) (by omega);have s:((m-i:Nat):Int)=(m:Int)-(i:Int):=(by omega);rw[s]at r;clear u;go_wp2_with fail;refine r.mono ?_;rintro e J ⟨rfl,w,f,q,l,x⟩;have⟨f,l⟩:=gy f l;go_wp2
    go_roundg gk
    .refine⟨i-j,j,w,by go_num,rfl,by omega,by omega,by omega,by omega,by omega,q,gd ?_,gd ?_,pO B.o (by simp;omega) x (q.trans y.symm)⟩
     .intro c D
      exact A.o _ (kQ.left f.o (by omega) hgt L D)
     .exact permIn_trans _ _ _ _ _ z.o (l.o a b (by omega) (by omega) (by omega))
    .omega
   .have Q:=Ra j i (by omega)
    have r:=ad.o wr o (m-i) (m+j-i) i u (by omega) (by omega);have s:((m-i:Nat):Int)=(m:Int)-(i:Int):=(by omega);have e2:((m+j-i:Nat):Int)=(m:Int)+(j:Int)-(i:Int):=(by omega);rw[s,e2]at r;clear u;go_wp2_with fail;refine r.mono ?_;rintro e J ⟨rfl,w,f,q,l,x⟩;have⟨f,l⟩:=gy f l;go_wp2
    go_roundg gk
    .refine⟨i,j-i,w,rfl,by go_num,by omega,by omega,by omega,by omega,by omega,q,gd ?_,gd ?_,pO B.o (by simp;omega) x (q.trans y.symm)⟩
     .intro c D
      exact A.o _ (kQ.right f.o (by omega) (by omega) K D)
     .exact permIn_trans _ _ _ _ _ z.o (l.o a b (by omega) (by omega) (by omega))
    .omega
end
open Go.RowKit Go.Sort Go.Shelf Go.Lib
section
variable {α:Type} [Inhabited α]
theorem kU.call{enc:α->Value}{lt:α->α->Bool}{g:Nat}{lb:Array Value}{blk off size:Nat}{d:Array α}(E:kU P enc lt g lb blk off size W d)(i j:Nat)(a:i<size)(b:j<size):Calls P g (#[.int .i64 i,.int .i64 j]++lb) W λe c=>e=.returned (.bool (lt d[i]! d[j]!))/\∃q,c=W.drewN q:=E.start.less E.less E.size_ i j a b
theorem kU.drewN{enc:α->Value}{lt:α->α->Bool}{g:Nat}{lb:Array Value}{blk off size:Nat}{d:Array α}(E:kU P enc lt g lb blk off size W d)(n:Nat):kU P enc lt g lb blk off size (W.drewN n) d:=
 E.on (E.start.drewN n) E.size_
theorem kU.alloc{enc:α->Value}{lt:α->α->Bool}{g:Nat}{lb:Array Value}{blk off size:Nat}{d:Array α}(E:kU P enc lt g lb blk off size W d)(o:Obj):kU P enc lt g lb blk off size (W.alloc o) d:=
 E.on (E.start.alloc o) E.size_
def rK(a k:Nat)(d d':Array α):Prop:=∀x,d'[x]! = if a<=x/\x<k then d[x+1]! else if x=k then d[a]! else d[x]!
def rJ(k m:Nat)(d d':Array α):Prop:=∀x,d'[x]! = if k<x/\x<=m then d[x-1]! else if x=k then d[m]! else d[x]!
theorem rK.start(a:Nat)(d:Array α):rK a a d d:=λx=>by
 rw[if_neg (by omega)];split
 .rename_i h;rw[h]
 .rfl
theorem rJ.start(m:Nat)(d:Array α):rJ m m d d:=λx=>by
 rw[if_neg (by omega)];split
 .rename_i h;rw[h]
 .rfl
theorem rK.step{a:Nat}{d b:Array α}(h:rK a k d b)(i:a<=k)(f:k+1<b.size):rK a (k+1) d (swp b k (k+1)):=λx=>by
 have c:=swp_left b k (k+1) (by omega) (by omega);have e:=swp_right b k (k+1) f;by_cases h1:x=k
 .subst h1
  rw[c,h (x+1),if_neg (by omega),if_neg (by omega),if_pos (by omega)]
 .by_cases h2:x=k+1
  .subst h2
   rw[e,h k,if_neg (by omega),if_pos rfl,if_neg (by omega),if_pos rfl]
  .rw[swp_other b _ _ x h1 h2,h x]
   repeat' split
   all_goals first
    | rfl
    | (exfalso;omega)
theorem rJ.step{m:Nat}{d a:Array α}(h:rJ k m d a)(i:k<=m)(f:0<k)(e:k<a.size):rJ (k-1) m d (swp a k (k-1)):=λx=>by
 have b:=swp_left a k (k-1) e (by omega);have c:=swp_right a k (k-1) (by omega);by_cases h1:x=k
 .subst h1
  rw[b,h (x-1),if_neg (by omega),if_neg (by omega),if_pos (by omega)]
 .by_cases h2:x=k-1
  .subst h2
   rw[c,h k,if_neg (by omega),if_pos rfl,if_neg (by omega),if_pos rfl]
  .rw[swp_other a _ _ x h1 h2,h x]
   repeat' split
   all_goals first
    | rfl
    | (exfalso;omega)
end
section
variable {α:Type} [Inhabited α] (enc:α->Value) (lt lt2:α->α->Bool) (g:Nat) (lb:Array Value) (sf:Nat) (sb:Array Value) (blk off size:Nat)
def rr(a m b:Nat)(d:Array α):Prop:=∀x y,a<=x->x<m->m<=y->y<b->lt d[y]! d[x]! = lt2 d[y]! d[x]!
def rO(W:World)(d:Array α)(a b:Nat)(e:Ending)(W':World):Prop:=
 e=.returned (.tuple #[])/\∃d',SortedIn lt2 a b d'/\PermIn a b d d'/\SW enc W blk off d' W'
theorem Ky(J:SWO lt2)(eg:∀args w,(callFunc g args).run prog w=.ok (.enter g args) w)(l:SwapSwaps prog sf sb enc blk off size)(Y:size<1099511627776)(W:World)(d:Array α)(a m b:Nat)(E:kU prog enc lt g lb blk off size W d)(T:a<m)(U:m<=a+1)(V:m<b)(hb:b<=size)(I:SortedIn lt2 m b d)(o:rr lt lt2 a m b d):Calls prog 281 #[nJ g lb sf sb,a,m,b] W (rO enc lt2 blk off W d a b):=by
 have K:=E.size_;have R:=E.lt_;have s:=E.alloc (.cells #[.func (.func g) #[] lb,.func (.func sf) #[] sb] 308);have D:=λd' W' (h:SW enc (W.alloc (.cells #[.func (.func g) #[] lb,.func (.func sf) #[] sb] 308)) blk off d' W')=>rq h R;unfold nJ;have t0:(((m:Int)-(a:Int))==1)=true:=by rw[beq_iff_eq];omega
 have⟨an,aj,ao,ae⟩:=gu I o J D;have⟨W1,ad⟩:=zX (W.alloc (.cells #[.func (.func g) #[] lb,.func (.func sf) #[] sb] 308));have O:W1.cell? ⟨W.heap.size,0,none⟩=some (.func (.func g) #[] lb):=by rw[ad];simp
 have c1:W1.cell? ⟨W.heap.size,1,none⟩=some (.func (.func sf) #[] sb):=by rw[ad];simp
 have v:W.heap.size<W1.heap.size:=by rw[ad];simp
 rw[<-ad]at s ae;have⟨HE,ap⟩:=gy s ad;clear E I J D s o;go_enter func281,ntmps281;go_wp2;rw[<-ap.o];clear ad
 go_loopg [8,9,10] (b-m) (λk vi vj vh wr=>∃(i j:Nat),vi=.int .i64 i/\vj=.int .i64 j/\m<=i/\i<=j/\j<=b/\j-i<=k/\gh (i=m\/lt2 d[i-1]! d[a]! = true)/\gh (j=b\/lt2 d[j]! d[a]! = false)/\SW enc W1 blk off d wr)
 .exact⟨m,b,rfl,rfl,by omega,by omega,by omega,by omega,gd (.inl rfl),gd (.inl rfl),HE.o.start⟩
 obtain⟨i,j,rfl,rfl,S,ax,N,hk,y,B,c⟩:=hrel;have n:=HE.o.on c K;have L:=(kX c (p:=⟨W.heap.size,0,none⟩) v (by show W.heap.size≠blk;omega)).trans O;have F:=(kX c (p:=⟨W.heap.size,1,none⟩) v (by show W.heap.size≠blk;omega)).trans c1;have u:=gd c;clear c;by_cases hlt:i<j
 .rcases gk with _|gk
  .omega
  .have⟨h,hh⟩:=zX ((i+j) / 2)
   have av:((i:Int)+(j:Int)) / 2=(h:Int):=(by omega);have r:=n.call h a (by omega) (by omega);have aw:i<=h:=(by omega);have ay:h<j:=(by omega);clear hh;clear n
   cases hlv:lt d[h]! d[a]! with
   | true=>
    rw[hlv]at r
    go_wp2_with(go_at_fn g;refine r.mono ?_;rintro e w' ⟨rfl,q,rfl⟩)
    go_roundg gk
    .exact⟨h+1,j,by go_num,rfl,by omega,by omega,by omega,by omega,gd (.inr ((aj.o a h (zQ _) (by omega) (by omega) (by omega)).symm.trans hlv)),B,u.o.drewN q⟩
    .omega
   | false=>
    rw[hlv]at r
    go_wp2_with(go_at_fn g;refine r.mono ?_;rintro e w' ⟨rfl,q,rfl⟩)
    go_roundg gk
    .exact⟨i,h,rfl,rfl,by omega,by omega,by omega,by omega,y,gd (.inr ((aj.o a h (zQ _) (by omega) (by omega) (by omega)).symm.trans hlv)),u.o.drewN q⟩
    .omega
 .obtain rfl:i=j:=by omega
  go_wp2
  go_loopg [11] (i-1-a) (λkk vk wr2=>∃(k:Nat) (f:Array α),vk=.int .i64 k/\k+kk=i-1/\a<=k/\f.size=size/\gh (rK a k d f)/\gh (PermIn a b d f)/\SW enc W1 blk off f wr2)
  .exact⟨a,d,rfl,by omega,by omega,K,gd (rK.start _ _),gd (permIn_refl _ _ _),u.o⟩
  clear n L F;obtain⟨k,f,rfl,az,M,x,z,A,c⟩:=hrel;have n:=HE.o.on c x;have F:=(kX c (p:=⟨W.heap.size,1,none⟩) v (by show W.heap.size≠blk;omega)).trans c1;rcases gk with _|gk
  .obtain rfl:k=i-1:=by omega
   have Z:decide ((((i-1:Nat):Int))<(i:Int)-1)=false:=zA (by omega);go_wp2
   go_end0
   refine⟨rfl,f,?_,A.o,ae.o _ _ c⟩;obtain rfl:m=a+1:=by omega
   exact LV ao.o an.o S N y.o B.o z.o
  .have X:=l wr f n.holds x k (k+1) (by omega) (by omega)
   have Q:((k+1:Nat):Int)=(k:Int)+1:=(by simp);rw[Q]at X;have C:=c.swap (by omega) k (k+1) (by omega) (by omega);have G:=z.o.step M (by omega);have H:=permIn_trans _ _ _ _ _ A.o (swp_permIn f a b k (k+1) (by omega) (by omega) (by omega) (by omega) (by omega));have t:=gd (And.intro C (And.intro G H));have Z:decide ((k:Int)<(i:Int)-1)=true:=zB (by omega);clear C G H n c;go_wp2
   go_roundg gk
   .exact⟨k+1,_,by go_num,by omega,by omega,by rw[Sort.size_swp];exact x,gd t.o.2.1,gd t.o.2.2,t.o.1⟩
   .omega
end
open Go.RowKit Go.Sort Go.Shelf Go.Lib
section
variable {α:Type} [Inhabited α] (enc:α->Value) (lt lt2:α->α->Bool) (g:Nat) (lb:Array Value) (sf:Nat) (sb:Array Value) (blk off size:Nat)
theorem J1(J:SWO lt2)(eg:∀args w,(callFunc g args).run prog w=.ok (.enter g args) w)(l:SwapSwaps prog sf sb enc blk off size)(Y:size<1099511627776)(W:World)(d:Array α)(a m b:Nat)(E:kU prog enc lt g lb blk off size W d)(T:a+2<=m)(U:m<b)(V:b<=m+1)(hb:b<=size)(I:SortedIn lt2 a m d)(o:rr lt lt2 a m b d):Calls prog 281 #[nJ g lb sf sb,a,m,b] W (rO enc lt2 blk off W d a b):=by
 have K:=E.size_;have R:=E.lt_;have s:=E.alloc (.cells #[.func (.func g) #[] lb,.func (.func sf) #[] sb] 308);have D:=λd' W' (h:SW enc (W.alloc (.cells #[.func (.func g) #[] lb,.func (.func sf) #[] sb] 308)) blk off d' W')=>rq h R;unfold nJ;have t0:(((m:Int)-(a:Int))==1)=false:=by rw[beq_eq_false_iff_ne];omega
 have t1:(((b:Int)-(m:Int))==1)=true:=by rw[beq_iff_eq];omega
 have⟨an,aj,ao,ae⟩:=gu I o J D;have⟨W1,ad⟩:=zX (W.alloc (.cells #[.func (.func g) #[] lb,.func (.func sf) #[] sb] 308));have O:W1.cell? ⟨W.heap.size,0,none⟩=some (.func (.func g) #[] lb):=by rw[ad];simp
 have c1:W1.cell? ⟨W.heap.size,1,none⟩=some (.func (.func sf) #[] sb):=by rw[ad];simp
 have v:W.heap.size<W1.heap.size:=by rw[ad];simp
 rw[<-ad]at s ae;have⟨HE,ap⟩:=gy s ad;clear E I J D s o;go_enter func281,ntmps281;go_wp2;rw[<-ap.o];clear ad
 go_loopg [12,13,14] (m-a) (λk vi vj vh wr=>∃(i j:Nat),vi=.int .i64 i/\vj=.int .i64 j/\a<=i/\i<=j/\j<=m/\j-i<=k/\gh (i=a\/lt2 d[m]! d[i-1]! = false)/\gh (j=m\/lt2 d[m]! d[j]! = true)/\SW enc W1 blk off d wr)
 .exact⟨a,m,rfl,rfl,by omega,by omega,by omega,by omega,gd (.inl rfl),gd (.inl rfl),HE.o.start⟩
 obtain⟨i,j,rfl,rfl,S,ax,M,hk,y,B,c⟩:=hrel;have n:=HE.o.on c K;have L:=(kX c (p:=⟨W.heap.size,0,none⟩) v (by show W.heap.size≠blk;omega)).trans O;have F:=(kX c (p:=⟨W.heap.size,1,none⟩) v (by show W.heap.size≠blk;omega)).trans c1;have u:=gd c;clear c;by_cases hlt:i<j
 .rcases gk with _|gk
  .omega
  .have⟨h,hh⟩:=zX ((i+j) / 2)
   have av:((i:Int)+(j:Int)) / 2=(h:Int):=(by omega);have r:=n.call m h (by omega) (by omega);have aw:i<=h:=(by omega);have ay:h<j:=(by omega);clear hh;clear n
   cases hlv:lt d[m]! d[h]! with
   | false=>
    rw[hlv]at r
    go_wp2_with(go_at_fn g;refine r.mono ?_;rintro e Z ⟨rfl,q,rfl⟩)
    go_roundg gk
    .exact⟨h+1,j,by go_num,rfl,by omega,by omega,by omega,by omega,gd (.inr ((aj.o h m (by omega) (by omega) (zQ _) (by omega)).symm.trans hlv)),B,u.o.drewN q⟩
    .omega
   | true=>
    rw[hlv]at r
    go_wp2_with(go_at_fn g;refine r.mono ?_;rintro e Z ⟨rfl,q,rfl⟩)
    go_roundg gk
    .exact⟨i,h,rfl,rfl,by omega,by omega,by omega,by omega,y,gd (.inr ((aj.o h m (by omega) (by omega) (zQ _) (by omega)).symm.trans hlv)),u.o.drewN q⟩
    .omega
 .obtain rfl:i=j:=by omega
  go_wp2
  go_loopg [15] (m-i) (λkk vk wr2=>∃(k:Nat) (f:Array α),vk=.int .i64 k/\i+kk=k/\k<=m/\f.size=size/\gh (rJ k m d f)/\gh (PermIn a b d f)/\SW enc W1 blk off f wr2)
  .exact⟨m,d,rfl,by omega,by omega,K,gd (rJ.start _ _),gd (permIn_refl _ _ _),u.o⟩
  clear n L F;obtain⟨k,f,rfl,az,N,x,z,A,c⟩:=hrel;have n:=HE.o.on c x;have F:=(kX c (p:=⟨W.heap.size,1,none⟩) v (by show W.heap.size≠blk;omega)).trans c1;rcases gk with _|gk
  .obtain rfl:k=i:=by omega
   go_wp2
   go_end0
   refine⟨rfl,f,?_,A.o,ae.o _ _ c⟩;obtain rfl:b=m+1:=by omega
   exact J9 ao.o an.o S M y.o B.o z.o
  .have X:=l wr f n.holds x k (k-1) (by omega) (by omega)
   have Q:((k-1:Nat):Int)=(k:Int)-1:=(by omega);rw[Q]at X;have C:=c.swap (by omega) k (k-1) (by omega) (by omega);have G:=z.o.step N (by omega) (by omega);have H:=permIn_trans _ _ _ _ _ A.o (swp_permIn f a b k (k-1) (by omega) (by omega) (by omega) (by omega) (by omega));have t:=gd (And.intro C (And.intro G H));clear C G H n c;go_wp2
   go_roundg gk
   .exact⟨k-1,_,by go_num,by omega,by omega,by rw[Sort.size_swp];exact x,gd t.o.2.1,gd t.o.2.2,t.o.1⟩
   .omega
end
end Go.Proofs.YtifdlkoepaepiaaGreatDoor
