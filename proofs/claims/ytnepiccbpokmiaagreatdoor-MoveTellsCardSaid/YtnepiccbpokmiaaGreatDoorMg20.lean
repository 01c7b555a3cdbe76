/- Lemmas. -/
import Derived.Test.YtnepiccbpokmiaaGreatDoorMg17
import Derived.Deep.Cut
set_option linter.all false
set_option maxHeartbeats 2000000
set_option maxRecDepth 100000
namespace Go.Proofs.YtnepiccbpokmiaaGreatDoor
open Tryz List Nat Go.RowKit Go.Sort Go.Shelf Go.Lib
section
variable {α:Type} [Inhabited α] (enc:α->Value) (lt lt2:α->α->Bool) (g:Nat) (lb:Array Value) (sf:Nat) (sb:Array Value) (blk off size:Nat)
theorem GY(J:SWO lt2)(eg:∀args w,(callFunc g args).run prog w=.ok (.enter g args) w)(l:SwapSwaps prog sf sb enc blk off size)(V:size<1099511627776)(W:World)(d:Array α)(a m b:Nat)(E:kQ prog enc lt g lb blk off size W d)(R:a+2<=m)(S:m<b)(T:b<=m+1)(hb:b<=size)(I:SortedIn lt2 a m d)(o:pY lt lt2 a m b d):Calls prog 343 #[m6 g lb sf sb,a,m,b] W (qr enc lt2 blk off W d a b):=by
 have K:=E.size_;have Q:=E.lt_;have s:=E.alloc (.cells #[.func (.func g) #[] lb,.func (.func sf) #[] sb] 291);have D:=λd' W' (h:SW enc (W.alloc (.cells #[.func (.func g) #[] lb,.func (.func sf) #[] sb] 291)) blk off d' W')=>pW h Q;unfold m6;have t0:(((m:Int)-(a:Int))==1)=false:=by rw[beq_eq_false_iff_ne];omega
 have t1:(((b:Int)-(m:Int))==1)=true:=by rw[beq_iff_eq];omega
 have⟨an,aj,ao,ae⟩:=gz I o J D;have⟨W1,ad⟩:=zX (W.alloc (.cells #[.func (.func g) #[] lb,.func (.func sf) #[] sb] 291));have O:W1.cell? ⟨W.heap.size,0,none⟩=some (.func (.func g) #[] lb):=by rw[ad];simp
 have c1:W1.cell? ⟨W.heap.size,1,none⟩=some (.func (.func sf) #[] sb):=by rw[ad];simp
 have v:W.heap.size<W1.heap.size:=by rw[ad];simp
 rw[<-ad]at s ae;have⟨HE,ap⟩:=gy s ad;clear E I J D s o;go_enter func343,ntmps343;go_wp2;rw[<-ap.o];clear ad
 go_loopg [12,13,14] (m-a) (λk vi vj vh wr=>∃(i j:Nat),vi=.int .i64 i/\vj=.int .i64 j/\a<=i/\i<=j/\j<=m/\j-i<=k/\gh (i=a\/lt2 d[m]! d[i-1]! = false)/\gh (j=m\/lt2 d[m]! d[j]! = true)/\SW enc W1 blk off d wr)
 .exact⟨a,m,rfl,rfl,by omega,by omega,by omega,by omega,gd (.inl rfl),gd (.inl rfl),HE.o.start⟩
 obtain⟨i,j,rfl,rfl,hi,ax,M,hk,y,B,c⟩:=hrel;have n:=HE.o.on c K;have L:=(kW c (p:=⟨W.heap.size,0,none⟩) v (by show W.heap.size≠blk;omega)).trans O;have F:=(kW c (p:=⟨W.heap.size,1,none⟩) v (by show W.heap.size≠blk;omega)).trans c1;have u:=gd c;clear c;by_cases hlt:i<j
 .rcases gk with _|gk
  .omega
  .have⟨h,hh⟩:=zX ((i+j) / 2)
   have Y:((i:Int)+(j:Int)) / 2=(h:Int):=(by omega);have r:=n.call m h (by omega) (by omega);have Z:i<=h:=(by omega);have ay:h<j:=(by omega);clear hh;clear n
   cases hlv:lt d[m]! d[h]! with
   | false=>
    rw[hlv]at r
    go_wp2_with(go_at_fn g;refine r.mono ?_;rintro e X ⟨rfl,q,rfl⟩)
    go_roundg gk
    .exact⟨h+1,j,by go_num,rfl,by omega,by omega,by omega,by omega,gd (.inr ((aj.o h m (by omega) (by omega) (zQ _) (by omega)).symm.trans hlv)),B,u.o.drewN q⟩
    .omega
   | true=>
    rw[hlv]at r
    go_wp2_with(go_at_fn g;refine r.mono ?_;rintro e X ⟨rfl,q,rfl⟩)
    go_roundg gk
    .exact⟨i,h,rfl,rfl,by omega,by omega,by omega,by omega,y,gd (.inr ((aj.o h m (by omega) (by omega) (zQ _) (by omega)).symm.trans hlv)),u.o.drewN q⟩
    .omega
 .obtain rfl:i=j:=by omega
  go_wp2
  go_loopg [15] (m-i) (λkk vk wr2=>∃(k:Nat) (f:Array α),vk=.int .i64 k/\i+kk=k/\k<=m/\f.size=size/\gh (qe k m d f)/\gh (PermIn a b d f)/\SW enc W1 blk off f wr2)
  .exact⟨m,d,rfl,by omega,by omega,K,gd (qe.start _ _),gd (permIn_refl _ _ _),u.o⟩
  clear n L F;obtain⟨k,f,rfl,az,N,x,z,A,c⟩:=hrel;have n:=HE.o.on c x;have F:=(kW c (p:=⟨W.heap.size,1,none⟩) v (by show W.heap.size≠blk;omega)).trans c1;rcases gk with _|gk
  .obtain rfl:k=i:=by omega
   go_wp2
   go_end0
   refine⟨rfl,f,?_,A.o,ae.o _ _ c⟩;obtain rfl:b=m+1:=by omega
   exact Hj ao.o an.o hi M y.o B.o z.o
  .have U:=l wr f n.holds x k (k-1) (by omega) (by omega)
   have P:((k-1:Nat):Int)=(k:Int)-1:=(by omega);rw[P]at U;have C:=c.swap (by omega) k (k-1) (by omega) (by omega);have G:=z.o.step N (by omega) (by omega);have H:=permIn_trans _ _ _ _ _ A.o (swp_permIn f a b k (k-1) (by omega) (by omega) (by omega) (by omega) (by omega));have t:=gd (And.intro C (And.intro G H));clear C G H n c;go_wp2
   go_roundg gk
   .exact⟨k-1,_,by go_num,by omega,by omega,by rw[Sort.size_swp];exact x,gd t.o.2.1,gd t.o.2.2,t.o.1⟩
   .omega
end
end Go.Proofs.YtnepiccbpokmiaaGreatDoor
