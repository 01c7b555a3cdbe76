/- Lemmas. -/
import Derived.Test.YtnepiccbpokmiaaGreatDoorMg02
import Derived.Test.YtnepiccbpokmiaaGreatDoorMg13
import Derived.Test.YtnepiccbpokmiaaGreatDoorMg03
import Derived.Shelf.GgSortFunc.SW
set_option linter.all false
set_option maxHeartbeats 2000000
set_option maxRecDepth 100000
namespace Go.Proofs.YtnepiccbpokmiaaGreatDoor
open Tryz List Nat Go.RowKit Go.Sort Go.Shelf Go.Lib
variable {k:Nat}{P:Program}{W W' w0:World}
section
variable {α:Type} [Inhabited α]
theorem kW{enc:α->Value}{blk off:Nat}{a:Array α}(h:SW enc w0 blk off a W){p:Addr}(c:p.block<w0.heap.size)(b:p.block≠blk):W.cell? p=w0.cell? p:=by
 obtain⟨n,os,rfl⟩:=h;unfold sortWorld;rw[cell?_grow _ _ _ (by rw[size_putRow];exact c),cell?_putRow_other enc _ blk off a p (Or.inl b)];rfl
theorem oB{enc:α->Value}{blk off:Nat}{d1 d2:Array α}(h:SW enc w0 blk off d1 W)(a:blk<w0.heap.size)(b:SW enc W blk off d2 W')(c:d2.size=d1.size):SW enc w0 blk off d2 W':=by
 obtain⟨n,os,rfl⟩:=b;exact h.on a n d2 os c
theorem pW{enc:α->Value}{blk off:Nat}{b:Array α}{o:Obj}(h:SW enc (w0.alloc o) blk off b W)(a:blk<w0.heap.size):SW enc w0 blk off b W:=by
 obtain⟨n,os,rfl⟩:=h;refine⟨n,#[o]++os,?_⟩;unfold sortWorld;rw[alloc_eq_grow,ahead_grow,putRow_grow enc (Sort.ahead w0 n) _ blk off _ a,grow_grow]
structure kQ (P:Program) (enc:α->Value) (lt:α->α->Bool) (g:Nat) (lb:Array Value) (blk off size:Nat) (W:World) (d:Array α):Prop where
 less:LessReads P g lb enc lt blk off size W
 holds:Holds enc W blk off d
 lt_:blk<W.heap.size
 size_:d.size=size
theorem kQ.start{enc:α->Value}{lt:α->α->Bool}{g:Nat}{lb:Array Value}{blk off size:Nat}{d:Array α}(E:kQ P enc lt g lb blk off size W d):SW enc W blk off d W:=SW.start E.holds
theorem kQ.on{enc:α->Value}{lt:α->α->Bool}{g:Nat}{lb:Array Value}{blk off size:Nat}{d d':Array α}(E:kQ P enc lt g lb blk off size W d)(h:SW enc W blk off d' W')(a:d'.size=size):kQ P enc lt g lb blk off size W' d':=
 ⟨h.lessReads E.less E.lt_ a,h.holds E.lt_ E.holds (a.trans E.size_.symm),h.lt E.lt_,a⟩
end
def m6(g:Nat)(lb:Array Value)(sf:Nat)(sb:Array Value):Value:=.agg #[.func (.func g) #[] lb,.func (.func sf) #[] sb]
section
variable {α:Type} [Inhabited α] (enc:α->Value) (lt:α->α->Bool) (g:Nat) (lb:Array Value) (sf:Nat) (sb:Array Value) (blk off size:Nat)
theorem Nj(f:SwapSwaps prog sf sb enc blk off size)(C:size<1099511627776)(W:World)(d:Array α)(a b n:Nat)(E:kQ prog enc lt g lb blk off size W d)(A:a+n<=b)(G:b+n<=size):Calls prog 345 #[m6 g lb sf sb,a,b,n] W λe W'=>e=.returned (.tuple #[])/\∃d',nZ a b n d d'/\d'.size=size/\(∀lo hi,lo<=a->b+n<=hi->hi<=size->PermIn lo hi d d')/\SW enc W blk off d' W':=by
 have x:=E.size_;have w:=E.lt_;have o:=(E.start).alloc (.cells #[.func (.func g) #[] lb,.func (.func sf) #[] sb] 291);unfold m6;have q:=gd E;clear E;go_enter func345,ntmps345;go_wp2
 go_loopg [8] n (λj iv wr=>∃(i:Nat) (c:Array α),iv=.int .i64 i/\i+j=n/\gh (nZ a b i d c)/\c.size=size/\gh (∀lo hi,lo<=a->b+n<=hi->hi<=size->PermIn lo hi d c)/\SW enc (W.alloc (.cells #[.func (.func g) #[] lb,.func (.func sf) #[] sb] 291)) blk off c wr)
 .exact⟨0,d,rfl,by omega,gd (nZ.zero _ _ _),x,gd (λlo hi _ _ _=>permIn_refl _ _ _),SW.start (q.o.on o x).holds⟩
 clear o;obtain⟨i,c,rfl,D,s,l,r,h⟩:=hrel;have ad:=q.o.on (pW h w) l;have c1:=kW h (p:=⟨W.heap.size,1,none⟩) (by simp) (by show W.heap.size≠blk;omega);simp at c1;rcases gk with _|j
 .obtain rfl:i=n:=by omega
  go_wp2
  go_end0
  exact⟨rfl,c,s.o,l,r.o,pW h w⟩
 .have F:i<n:=by omega
  have B:=f wr c ad.holds l (a+i) (b+i) (by omega) (by omega);have y:((a+i:Nat):Int)=(a:Int)+(i:Int):=by simp
  have z:((b+i:Nat):Int)=(b:Int)+(i:Int):=by simp
  rw[y,z]at B;have t:=h.swap (by simp;omega) (a+i) (b+i) (by omega) (by omega);have v:=s.o.step (by omega) (by omega)
  have u:∀lo hi,lo<=a->b+n<=hi->hi<=size->PermIn lo hi d (swp c (a+i) (b+i)):=λlo hi h1 h2 h3=>
   permIn_trans _ _ _ _ _ (r.o lo hi h1 h2 h3) (swp_permIn _ _ _ _ _ (by omega) (by omega) (by omega) (by omega) (by omega))
  have m:=gd (And.intro t (And.intro v u));clear t v u ad h;go_wp2
  go_roundg j
  .exact⟨i+1,_,by go_num,by omega,gd m.o.2.1,by rw[Sort.size_swp];exact l,gd m.o.2.2,m.o.1⟩
  .omega
theorem Lx(t:SwapSwaps prog sf sb enc blk off size)(F:size<1099511627776)(W:World)(d:Array α)(a m b:Nat)(E:kQ prog enc lt g lb blk off size W d)(N:a<m)(O:m<b)(U:b<=size):Calls prog 344 #[m6 g lb sf sb,.int .i64 a,m,.int .i64 b] W λe W'=>e=.returned (.tuple #[])/\∃c,kL a m b d c/\c.size=size/\PermIn a b d c/\SW enc W blk off c W':=by
 have I:=E.size_;have H:=E.lt_;have G:=(E.start).alloc (.cells #[.func (.func g) #[] lb,.func (.func sf) #[] sb] 291);have B:=λW d a b n=>Nj enc lt g lb sf sb blk off size t F W d a b n;unfold m6 at B⊢;have⟨HE,ad⟩:=gy E B;clear E B;go_enter func344,ntmps344;go_wp2
 go_loopg [8,9] (b-a) (λk vi vj wr=>∃(i j:Nat) (o:Array α),vi=.int .i64 i/\vj=.int .i64 j/\0<i/\0<j/\i+j<=k/\i<=m-a/\j<=b-m/\o.size=size/\gh (∀c,kL (m-i) m (m+j) o c->kL a m b d c)/\gh (PermIn a b d o)/\SW enc (W.alloc (.cells #[.func (.func g) #[] lb,.func (.func sf) #[] sb] 291)) blk off o wr)
 .refine⟨m-a,b-m,d,by go_num,by go_num,by omega,by omega,by omega,by omega,by omega,I,gd ?_,gd (permIn_refl _ _ _),SW.start (HE.o.on G I).holds⟩
  intro c h;have s:m-(m-a)=a:=by omega
  have C:m+(b-m)=b:=by omega
  rw[s,C]at h;exact h
 clear G;obtain⟨i,j,o,rfl,rfl,K,L,R,S,T,x,z,y,v⟩:=hrel;have u:=HE.o.on (pW v H) x;have M:=kW v (p:=⟨W.heap.size,0,none⟩) (by simp) (by show W.heap.size≠blk;omega);have c1:=kW v (p:=⟨W.heap.size,1,none⟩) (by simp) (by show W.heap.size≠blk;omega);simp at M c1;have A:=gd v;clear v;by_cases heq:i=j
 .subst heq
  have r:=ad.o wr o (m-i) m i u (by omega) (by omega);have s:((m-i:Nat):Int)=(m:Int)-(i:Int):=by omega
  rw[s]at r;clear u;go_wp2_with fail;refine r.mono ?_;rintro e J ⟨rfl,d2,f,q,l,w⟩;go_wp2
  go_end0
  refine⟨rfl,d2,z.o _ (kL.equal f (by omega)),q,permIn_trans _ _ _ _ _ y.o (l a b (by omega) (by omega) (by omega)),?_⟩;exact pW (oB A.o (by simp;omega) w (q.trans x.symm)) H
 .rcases gk with _|gk
  .omega
  .have V:((i:Int) != (j:Int))=true:=by rw[bne_iff_ne];omega
   by_cases hgt:j<i
   .have Q:=i6 j i (by omega)
    have r:=ad.o wr o (m-i) m j u (by omega) (by omega);have s:((m-i:Nat):Int)=(m:Int)-(i:Int):=(by omega);rw[s]at r;clear u;go_wp2_with fail;refine r.mono ?_;rintro e J ⟨rfl,d2,f,q,l,w⟩;have⟨f,l⟩:=gy f l;go_wp2
    go_roundg gk
    .refine⟨i-j,j,d2,by go_num,rfl,by omega,by omega,by omega,by omega,by omega,q,gd ?_,gd ?_,oB A.o (by simp;omega) w (q.trans x.symm)⟩
     .intro c D
      exact z.o _ (kL.left f.o (by omega) hgt L D)
     .exact permIn_trans _ _ _ _ _ y.o (l.o a b (by omega) (by omega) (by omega))
    .omega
   .have Q:=gL j i (by omega)
    have r:=ad.o wr o (m-i) (m+j-i) i u (by omega) (by omega);have s:((m-i:Nat):Int)=(m:Int)-(i:Int):=(by omega);have C:((m+j-i:Nat):Int)=(m:Int)+(j:Int)-(i:Int):=(by omega);rw[s,C]at r;clear u;go_wp2_with fail;refine r.mono ?_;rintro e J ⟨rfl,d2,f,q,l,w⟩;have⟨f,l⟩:=gy f l;go_wp2
    go_roundg gk
    .refine⟨i,j-i,d2,rfl,by go_num,by omega,by omega,by omega,by omega,by omega,q,gd ?_,gd ?_,oB A.o (by simp;omega) w (q.trans x.symm)⟩
     .intro c D
      exact z.o _ (kL.right f.o (by omega) (by omega) K D)
     .exact permIn_trans _ _ _ _ _ y.o (l.o a b (by omega) (by omega) (by omega))
    .omega
end
open Go.RowKit Go.Sort Go.Shelf Go.Lib
section
variable {α:Type} [Inhabited α]
theorem kQ.call{enc:α->Value}{lt:α->α->Bool}{g:Nat}{lb:Array Value}{blk off size:Nat}{d:Array α}(E:kQ P enc lt g lb blk off size W d)(i j:Nat)(hi:i<size)(a:j<size):Calls P g (#[.int .i64 i,.int .i64 j]++lb) W λe b=>e=.returned (.bool (lt d[i]! d[j]!))/\∃q,b=W.drewN q:=E.start.less E.less E.size_ i j hi a
theorem kQ.drewN{enc:α->Value}{lt:α->α->Bool}{g:Nat}{lb:Array Value}{blk off size:Nat}{d:Array α}(E:kQ P enc lt g lb blk off size W d)(n:Nat):kQ P enc lt g lb blk off size (W.drewN n) d:=
 E.on (E.start.drewN n) E.size_
theorem kQ.alloc{enc:α->Value}{lt:α->α->Bool}{g:Nat}{lb:Array Value}{blk off size:Nat}{d:Array α}(E:kQ P enc lt g lb blk off size W d)(o:Obj):kQ P enc lt g lb blk off size (W.alloc o) d:=
 E.on (E.start.alloc o) E.size_
def qf(a k:Nat)(d d':Array α):Prop:=∀x,d'[x]! = if a<=x/\x<k then d[x+1]! else if x=k then d[a]! else d[x]!
def qe(k m:Nat)(d d':Array α):Prop:=∀x,d'[x]! = if k<x/\x<=m then d[x-1]! else if x=k then d[m]! else d[x]!
theorem qf.start(a:Nat)(d:Array α):qf a a d d:=λx=>by
 rw[if_neg (by omega)];split
 .rename_i h;rw[h]
 .rfl
theorem qe.start(m:Nat)(d:Array α):qe m m d d:=λx=>by
 rw[if_neg (by omega)];split
 .rename_i h;rw[h]
 .rfl
theorem qf.step{a:Nat}{d b:Array α}(h:qf a k d b)(i:a<=k)(f:k+1<b.size):qf a (k+1) d (swp b k (k+1)):=λx=>by
 have c:=swp_left b k (k+1) (by omega) (by omega);have e:=swp_right b k (k+1) f;by_cases h1:x=k
 .subst h1
  rw[c,h (x+1),if_neg (by omega),if_neg (by omega),if_pos (by omega)]
 .by_cases h2:x=k+1
  .subst h2
   rw[e,h k,if_neg (by omega),if_pos rfl,if_neg (by omega),if_pos rfl]
  .rw[swp_other b _ _ x h1 h2,h x]
   repeat' split
   all_goals first
    | rfl
    | (exfalso;omega)
theorem qe.step{m:Nat}{d a:Array α}(h:qe k m d a)(i:k<=m)(f:0<k)(e:k<a.size):qe (k-1) m d (swp a k (k-1)):=λx=>by
 have b:=swp_left a k (k-1) e (by omega);have c:=swp_right a k (k-1) (by omega);by_cases h1:x=k
 .subst h1
  rw[b,h (x-1),if_neg (by omega),if_neg (by omega),if_pos (by omega)]
 .by_cases h2:x=k-1
  .subst h2
   rw[c,h k,if_neg (by omega),if_pos rfl,if_neg (by omega),if_pos rfl]
  .rw[swp_other a _ _ x h1 h2,h x]
   repeat' split
   all_goals first
    | rfl
    | (exfalso;omega)
end
section
variable {α:Type} [Inhabited α] (enc:α->Value) (lt lt2:α->α->Bool) (g:Nat) (lb:Array Value) (sf:Nat) (sb:Array Value) (blk off size:Nat)
def pY(a m b:Nat)(d:Array α):Prop:=∀x y,a<=x->x<m->m<=y->y<b->lt d[y]! d[x]! = lt2 d[y]! d[x]!
def qr(W:World)(d:Array α)(a b:Nat)(e:Ending)(W':World):Prop:=
 e=.returned (.tuple #[])/\∃d',SortedIn lt2 a b d'/\PermIn a b d d'/\SW enc W blk off d' W'
theorem Ic(J:SWO lt2)(eg:∀args w,(callFunc g args).run prog w=.ok (.enter g args) w)(l:SwapSwaps prog sf sb enc blk off size)(X:size<1099511627776)(W:World)(d:Array α)(a m b:Nat)(E:kQ prog enc lt g lb blk off size W d)(S:a<m)(T:m<=a+1)(U:m<b)(hb:b<=size)(I:SortedIn lt2 m b d)(o:pY lt lt2 a m b d):Calls prog 343 #[m6 g lb sf sb,a,m,b] W (qr enc lt2 blk off W d a b):=by
 have K:=E.size_;have R:=E.lt_;have s:=E.alloc (.cells #[.func (.func g) #[] lb,.func (.func sf) #[] sb] 291);have D:=λd' W' (h:SW enc (W.alloc (.cells #[.func (.func g) #[] lb,.func (.func sf) #[] sb] 291)) blk off d' W')=>pW h R;unfold m6;have t0:(((m:Int)-(a:Int))==1)=true:=by rw[beq_iff_eq];omega
 have⟨an,aj,ao,ae⟩:=gz I o J D;have⟨W1,ad⟩:=zX (W.alloc (.cells #[.func (.func g) #[] lb,.func (.func sf) #[] sb] 291));have O:W1.cell? ⟨W.heap.size,0,none⟩=some (.func (.func g) #[] lb):=by rw[ad];simp
 have c1:W1.cell? ⟨W.heap.size,1,none⟩=some (.func (.func sf) #[] sb):=by rw[ad];simp
 have v:W.heap.size<W1.heap.size:=by rw[ad];simp
 rw[<-ad]at s ae;have⟨HE,ap⟩:=gy s ad;clear E I J D s o;go_enter func343,ntmps343;go_wp2;rw[<-ap.o];clear ad
 go_loopg [8,9,10] (b-m) (λk vi vj vh wr=>∃(i j:Nat),vi=.int .i64 i/\vj=.int .i64 j/\m<=i/\i<=j/\j<=b/\j-i<=k/\gh (i=m\/lt2 d[i-1]! d[a]! = true)/\gh (j=b\/lt2 d[j]! d[a]! = false)/\SW enc W1 blk off d wr)
 .exact⟨m,b,rfl,rfl,by omega,by omega,by omega,by omega,gd (.inl rfl),gd (.inl rfl),HE.o.start⟩
 obtain⟨i,j,rfl,rfl,hi,ax,N,hk,y,B,c⟩:=hrel;have n:=HE.o.on c K;have L:=(kW c (p:=⟨W.heap.size,0,none⟩) v (by show W.heap.size≠blk;omega)).trans O;have F:=(kW c (p:=⟨W.heap.size,1,none⟩) v (by show W.heap.size≠blk;omega)).trans c1;have u:=gd c;clear c;by_cases hlt:i<j
 .rcases gk with _|gk
  .omega
  .have⟨h,hh⟩:=zX ((i+j) / 2)
   have av:((i:Int)+(j:Int)) / 2=(h:Int):=(by omega);have r:=n.call h a (by omega) (by omega);have aw:i<=h:=(by omega);have ay:h<j:=(by omega);clear hh;clear n
   cases hlv:lt d[h]! d[a]! with
   | true=>
    rw[hlv]at r
    go_wp2_with(go_at_fn g;refine r.mono ?_;rintro e Z ⟨rfl,q,rfl⟩)
    go_roundg gk
    .exact⟨h+1,j,by go_num,rfl,by omega,by omega,by omega,by omega,gd (.inr ((aj.o a h (zQ _) (by omega) (by omega) (by omega)).symm.trans hlv)),B,u.o.drewN q⟩
    .omega
   | false=>
    rw[hlv]at r
    go_wp2_with(go_at_fn g;refine r.mono ?_;rintro e Z ⟨rfl,q,rfl⟩)
    go_roundg gk
    .exact⟨i,h,rfl,rfl,by omega,by omega,by omega,by omega,y,gd (.inr ((aj.o a h (zQ _) (by omega) (by omega) (by omega)).symm.trans hlv)),u.o.drewN q⟩
    .omega
 .obtain rfl:i=j:=by omega
  go_wp2
  go_loopg [11] (i-1-a) (λkk vk wr2=>∃(k:Nat) (f:Array α),vk=.int .i64 k/\k+kk=i-1/\a<=k/\f.size=size/\gh (qf a k d f)/\gh (PermIn a b d f)/\SW enc W1 blk off f wr2)
  .exact⟨a,d,rfl,by omega,by omega,K,gd (qf.start _ _),gd (permIn_refl _ _ _),u.o⟩
  clear n L F;obtain⟨k,f,rfl,az,M,x,z,A,c⟩:=hrel;have n:=HE.o.on c x;have F:=(kW c (p:=⟨W.heap.size,1,none⟩) v (by show W.heap.size≠blk;omega)).trans c1;rcases gk with _|gk
  .obtain rfl:k=i-1:=by omega
   have Y:decide ((((i-1:Nat):Int))<(i:Int)-1)=false:=zA (by omega);go_wp2
   go_end0
   refine⟨rfl,f,?_,A.o,ae.o _ _ c⟩;obtain rfl:m=a+1:=by omega
   exact JS ao.o an.o hi N y.o B.o z.o
  .have V:=l wr f n.holds x k (k+1) (by omega) (by omega)
   have Q:((k+1:Nat):Int)=(k:Int)+1:=(by simp);rw[Q]at V;have C:=c.swap (by omega) k (k+1) (by omega) (by omega);have G:=z.o.step M (by omega);have H:=permIn_trans _ _ _ _ _ A.o (swp_permIn f a b k (k+1) (by omega) (by omega) (by omega) (by omega) (by omega));have t:=gd (And.intro C (And.intro G H));have Y:decide ((k:Int)<(i:Int)-1)=true:=zB (by omega);clear C G H n c;go_wp2
   go_roundg gk
   .exact⟨k+1,_,by go_num,by omega,by omega,by rw[Sort.size_swp];exact x,gd t.o.2.1,gd t.o.2.2,t.o.1⟩
   .omega
end
end Go.Proofs.YtnepiccbpokmiaaGreatDoor
