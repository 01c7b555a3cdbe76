/- Lemmas. -/
import Derived.Test.YtifdlkoepaepiaaGreatDoorMh18
set_option linter.all false
set_option maxHeartbeats 4000000
set_option maxRecDepth 100000
namespace Go.Proofs.YtifdlkoepaepiaaGreatDoor
open Tryz List Nat Go.RowKit Go.Sort Go.Shelf Go.Lib
section
variable {α:Type} [Inhabited α] (enc:α->Value) (lt lt2:α->α->Bool) (g:Nat) (lb:Array Value) (sf:Nat) (sb:Array Value) (blk off size:Nat)
def Bz(N:Nat):Prop:=∀(W:World) (d:Array α) (a m b:Nat),b-a<N->kU prog enc lt g lb blk off size W d->a<m->m<b->b<=size->SortedIn lt2 a m d->SortedIn lt2 m b d->rr lt lt2 a m b d ->
 Calls prog 281 #[nJ g lb sf sb,a,m,b] W (rO enc lt2 blk off W d a b)
theorem LE(hS:SWO lt2)(eg:∀args w,(callFunc g args).run prog w=.ok (.enter g args) w)(z:SwapSwaps prog sf sb enc blk off size)(hsz:size<1099511627776)(N:Nat)(X:Bz enc lt lt2 g lb sf sb blk off size N)(W:World)(d:Array α)(a m b:Nat)(hN:b-a<=N)(E:kU prog enc lt g lb blk off size W d)(hm0:a+2<=m)(hm1:m+2<=b)(hb:b<=size)(c:SortedIn lt2 a m d)(o:SortedIn lt2 m b d)(J:rr lt lt2 a m b d):Calls prog 281 #[nJ g lb sf sb,.int .i64 a,.int .i64 m,.int .i64 b] W (rO enc lt2 blk off W d a b):=by
 have K:=E.size_;have hW:=E.lt_;have L:=E.alloc (.cells #[.func (.func g) #[] lb,.func (.func sf) #[] sb] 308);have ax:=λd' W' (h:SW enc (W.alloc (.cells #[.func (.func g) #[] lb,.func (.func sf) #[] sb] 308)) blk off d' W')=>rq h hW;have al:=λW d a m b=>M7 enc lt g lb sf sb blk off size z hsz W d a m b;unfold Bz at X;unfold nJ at X al⊢;have t0:(((m:Int)-(a:Int))==1)=false:=by rw[beq_eq_false_iff_ne];omega
 have t1:(((b:Int)-(m:Int))==1)=false:=by rw[beq_eq_false_iff_ne];omega
 have⟨mid,aw⟩:=zX ((a+b) / 2);have a2:((a:Int)+(b:Int)) / 2=(mid:Int):=by omega
 have a0:a<mid:=by omega
 have a1:mid<b:=by omega
 have⟨nn,a3⟩:=zX (mid+m);have bl:(mid:Int)+(m:Int)=(nn:Int):=by omega
 have⟨p,hp⟩:=zX (nn-1);have bA:(nn:Int)-1=(p:Int):=by omega
 have⟨lo,aG⟩:=zX (if mid<m then mid+m-b else a);have⟨hi,au⟩:=zX (if mid<m then mid else m);have av:lo<=hi/\hi<=m/\hi<=mid/\a<=lo/\(mid<m->lo+b=nn):=by
  rw[aG,au];split<;>omega
 have ak:¬mid<m->lo=a/\hi=m:=λh=>by rw[aG,au,if_neg h,if_neg h];exact⟨rfl,rfl⟩
 have ai:mid<m->hi=mid:=λh=>by rw[au,if_pos h]
 obtain⟨bv,bw,bx,bz,aQ⟩:=av;have bj:nn<=lo+b:=by
  by_cases h:mid<m
  .have:=aQ h;omega
  .have:=ak h;omega
 have⟨a8,a6,aK,aT⟩:=gu aG au aw a3;have⟨HP,aJ,ao,a7⟩:=gu hp ak ai aQ;have⟨aN,aO,aH,aP⟩:=gu c o J hS;have⟨ap,aS,aM⟩:=Q9 ax X al;have⟨W1,an⟩:=zX (W.alloc (.cells #[.func (.func g) #[] lb,.func (.func sf) #[] sb] 308));have c0:W1.cell? ⟨W.heap.size,0,none⟩=some (.func (.func g) #[] lb):=by rw[an];simp
 have c1:W1.cell? ⟨W.heap.size,1,none⟩=some (.func (.func sf) #[] sb):=by rw[an];simp
 have D:W.heap.size<W1.heap.size:=by rw[an];simp
 rw[<-an]at L ap;have⟨HE,ba⟩:=gy L an;have ag:blk<W1.heap.size:=L.lt_;clear J E c o hS ax L aG au aw a3 hp ak ai aQ X al;go_enter func281,ntmps281
 go_upto_if 106 with fail
 rw[<-ba.o];clear an
 go_cut [18,19]from 23 (λs18 s19 wc=>s18=.int .i64 lo/\s19=.int .i64 hi/\wc=W1)
 case first=>
  by_cases hc:mid<m
  .have T:(nn:Int)-(b:Int)=(lo:Int):=by have:=a7.o hc;omega
   have e2:=ao.o hc;go_wp2;go_meet
   case rel=>exact⟨rfl,by rw[e2],rfl⟩
  .have e2:=aJ.o hc
   go_wp2;go_meet
   case rel=>exact⟨by rw[e2.1],by rw[e2.2],rfl⟩
 case rest=>
  obtain⟨rfl,rfl,I⟩:=hcut;obtain rfl:=I.symm;go_wp2
  go_loopg [18,19,21] (hi-lo) (λk vi vj vh wr=>∃(i j:Nat),vi=.int .i64 i/\vj=.int .i64 j/\lo<=i/\i<=j/\j<=hi/\j-i<=k/\gh (i=lo\/lt2 d[p-(i-1)]! d[i-1]! = false)/\gh (j=hi\/lt2 d[p-j]! d[j]! = true)/\SW enc W1 blk off d wr)
  .exact⟨lo,hi,rfl,rfl,by omega,by omega,by omega,by omega,gd (.inl rfl),gd (.inl rfl),HE.o.start⟩
  obtain⟨i,j,rfl,rfl,bh,br,bi,hk,Y,Z,H⟩:=hrel;have l:=HE.o.on H K;have P:=(kX H (p:=⟨W.heap.size,0,none⟩) D (by show W.heap.size≠blk;omega)).trans c0;have Q:=(kX H (p:=⟨W.heap.size,1,none⟩) D (by show W.heap.size≠blk;omega)).trans c1;have F:=gd H;clear H;by_cases hlt:i<j
  .rcases gk with _|gk
   .omega
   .have⟨h,hh⟩:=zX ((i+j) / 2)
    have bp:((i:Int)+(j:Int)) / 2=(h:Int):=(by omega);have bq:i<=h:=(by omega);have bu:h<j:=(by omega);have bn:=HP.o;have bk:=aT.o;have⟨pc,a5⟩:=zX (p-h);have bm:(p:Int)-(h:Int)=(pc:Int):=(by omega);have V:=l.call pc h (by omega) (by omega);have aU:=gd a5;have aY:gh (lt d[pc]! d[h]! = lt2 d[pc]! d[h]!):=gd (aH.o h pc (by omega) (by omega) (by omega) (by omega));clear hh l a5 bn bk
    cases hlv:lt d[pc]! d[h]! with
    | false=>
     rw[hlv]at V
     go_wp2_with(go_at_fn g;refine V.mono ?_;rintro e w' ⟨rfl,q,rfl⟩)
     go_roundg gk
     .exact⟨h+1,j,by go_num,rfl,by omega,by omega,by omega,by omega,gd (.inr (by rw[Nat.add_sub_cancel,<-aU.o];exact aY.o.symm.trans hlv)),Z,F.o.drewN q⟩
     .omega
    | true=>
     rw[hlv]at V
     go_wp2_with(go_at_fn g;refine V.mono ?_;rintro e w' ⟨rfl,q,rfl⟩)
     go_roundg gk
     .exact⟨i,h,rfl,rfl,by omega,by omega,by omega,by omega,Y,gd (.inr (by rw[<-aU.o];exact aY.o.symm.trans hlv)),F.o.drewN q⟩
     .omega
  .obtain rfl:i=j:=by omega
   have t:sC lt2 a m b mid i d:=by
    have e:∀x,mid+m-1-x=p-x:=λx=>by rw[HP.o,aT.o]
    refine sC.of aP.o aN.o aO.o (by omega) (by omega) aK.o a8.o a6.o bh bi ?_ ?_
    .rw[e];exact Y.o
    .rw[e];exact Z.o
   have⟨en,bf⟩:=zX (nn-i);have bg:(nn:Int)-(i:Int)=(en:Int):=(by omega);have bo:mid<=en:=(by have:=t.e0;omega);have be:en<=b:=(by have:=t.e1;omega);have S:en=mid+m-i:=(by omega);have ar:∀d1 d2 v W3,kQ i m en d d1->PermIn a b d d1->(SortedIn lt2 a mid d2/\PermIn a mid d1 d2)->(SortedIn lt2 mid b v/\PermIn mid b d2 v)->SW enc W1 blk off v W3->rO enc lt2 blk off W d a b (.returned (.tuple #[])) W3:=by
    intro d1 d2 v W3 s a4 aX r aR;rw[S]at s;obtain⟨_,_,_,_,k5⟩:=t.rot aP.o aN.o aO.o (by omega) (by omega) s;have hz:b<=d1.size:=(by rw[a4.1,K];exact hb);have hj:=KM hz (by omega) (by omega) k5 aX.2 aX.1 r.2 r.1;exact⟨rfl,v,hj.1,permIn_trans _ _ _ _ _ a4 hj.2,ap.o _ _ aR⟩
   have ah:∀d1,kQ i m en d d1->SortedIn lt2 a i d1/\SortedIn lt2 i mid d1/\SortedIn lt2 mid en d1/\SortedIn lt2 en b d1/\rr lt lt2 a i mid d1/\rr lt lt2 mid en b d1:=by
    intro d1 s;rw[S]at s⊢;obtain⟨A,n,k3,B,_⟩:=t.rot aP.o aN.o aO.o (by omega) (by omega) s;refine⟨A,n,k3,B,?_,?_⟩
    .intro x y c o r U
     have T:d1[x]! = d[x]!:=(by rw[s x,if_neg (by omega)]);have e2:d1[y]! = d[y+(m-i)]!:=(by rw[s y,if_pos (by omega),if_pos (by omega)]);rw[T,e2];exact aH.o x (y+(m-i)) c (by omega) (by omega) (by omega)
    .intro x y c o r U
     have T:d1[x]! = d[x-(mid-i)]!:=by
      rw[s x,if_pos (by omega),if_neg (by omega)];congr 1;omega
     have e2:d1[y]! = d[y]!:=(by rw[s y,if_neg (by omega)]);rw[T,e2];exact aH.o (x-(mid-i)) y (by omega) (by omega) (by omega) U
   have bs:i<=m:=t.ms;have aZ:i<=mid:=t.mid1;have bc:a<=i:=t.lo;have⟨aj,a9,aI⟩:=Q9 ar ah S;clear t ar ah bf S Y Z
   -- the rotation
   go_upto_region 40 with fail
   go_cut [145]from 23 (λs145 wx=>s145=.bool (decide (i<m/\m<en))/\wx=wr)
   case first=>
    clear l;by_cases q1:i<m
    .by_cases q2:m<en
     .have e:decide (i<m/\m<en)=true:=zB ⟨q1,q2⟩
      go_wp2;go_meet
      case rel=>exact⟨by rw[e],rfl⟩
     .have e:decide (i<m/\m<en)=false:=zA λh=>q2 h.2
      go_wp2;go_meet
      case rel=>exact⟨by rw[e],rfl⟩
    .have e:decide (i<m/\m<en)=false:=zA λh=>q1 h.1
     go_wp2;go_meet
     case rel=>exact⟨by rw[e],rfl⟩
   case rest=>
   obtain⟨rfl,I⟩:=hcut;obtain rfl:=I.symm
   go_upto_if 145 with fail
   go_cut []from 23 (λwx=>∃d1,gh (kQ i m en d d1)/\gh (PermIn a b d d1)/\d1.size=size/\SW enc W1 blk off d1 wx)
   case first=>
    have G:i<m->m<en->_:=λx y=>aM.o wr d i m en l x y (by omega);by_cases q1:i<m
    .by_cases q2:m<en
     .have G:=G q1 q2
      have e:decide (i<m/\m<en)=true:=zB ⟨q1,q2⟩;go_wp2_with fail;refine G.mono ?_;rintro e w2 ⟨rfl,d1,A,n,k3,B⟩;go_wp2;go_meet
      case rel=>exact⟨d1,gd A,gd (permIn_mono _ _ _ _ _ _ bc be (by omega) k3),n,pO F.o ag B (n.trans K.symm)⟩
     .clear G
      have e:decide (i<m/\m<en)=false:=zA λh=>q2 h.2;go_wp2;go_meet
      case rel=>exact⟨d,gd (kQ.none d (.inr (by have:=aI.o;omega)) (by omega) (by have:=aI.o;omega)),gd (permIn_refl _ _ _),K,F.o⟩
    .clear G
     have e:decide (i<m/\m<en)=false:=zA λh=>q1 h.1;go_wp2;go_meet
     case rel=>exact⟨d,gd (kQ.none d (.inl (by omega)) (by omega) (by have:=aI.o;omega)),gd (permIn_refl _ _ _),K,F.o⟩
   case rest=>
    clear l P Q;obtain⟨d1,O,aL,R,ad⟩:=hcut;have l:=HE.o.on ad R;have P:=(kX ad (p:=⟨W.heap.size,0,none⟩) D (by show W.heap.size≠blk;omega)).trans c0;have Q:=(kX ad (p:=⟨W.heap.size,1,none⟩) D (by show W.heap.size≠blk;omega)).trans c1;obtain⟨s1,s2,s3,s4,s5,s6⟩:=a9.o d1 O.o;have⟨S5,S6,S1,S2⟩:=gu s5 s6 s1 s2;have⟨S3,S4⟩:=gy s3 s4;clear s1 s2 s3 s4 s5 s6
    go_upto_region 42 with fail
    go_cut [158]from 23 (λs158 wy=>s158=.bool (decide (a<i/\i<mid))/\wy=wc)
    case first=>
     clear l;by_cases q1:a<i
     .by_cases q2:i<mid
      .have e:decide (a<i/\i<mid)=true:=zB ⟨q1,q2⟩
       go_wp2;go_meet
       case rel=>exact⟨by rw[e],rfl⟩
      .have e:decide (a<i/\i<mid)=false:=zA λh=>q2 h.2
       go_wp2;go_meet
       case rel=>exact⟨by rw[e],rfl⟩
     .have e:decide (a<i/\i<mid)=false:=zA λh=>q1 h.1
      go_wp2;go_meet
      case rel=>exact⟨by rw[e],rfl⟩
    case rest=>
    obtain⟨rfl,I⟩:=hcut;obtain rfl:=I.symm
    go_upto_if 158 with fail
    go_cut []from 23 (λwy=>∃d2,gh (SortedIn lt2 a mid d2/\PermIn a mid d1 d2)/\d2.size=size/\SW enc W1 blk off d2 wy)
    case first=>
     have f:a<i->i<mid->_:=λx y=>aS.o wc d1 a i mid (by omega) l x y (by omega) S1.o S2.o S5.o;by_cases q1:a<i
     .by_cases q2:i<mid
      .have f:=f q1 q2
       have e:decide (a<i/\i<mid)=true:=zB ⟨q1,q2⟩;go_wp2_with fail;refine f.mono ?_;rintro e w2 ⟨rfl,d2,A,n,B⟩;go_wp2;go_meet
       case rel=>exact⟨d2,gd ⟨A,n⟩,n.1.trans R,pO ad ag B n.1⟩
      .clear f
       have e:decide (a<i/\i<mid)=false:=zA λh=>q2 h.2;have e9:gh (i=mid):=gd (by omega);go_wp2;go_meet
       case rel=>exact⟨d1,gd ⟨by rw[<-e9.o];exact S1.o,permIn_refl _ _ _⟩,R,ad⟩
     .clear f
      have e:decide (a<i/\i<mid)=false:=zA λh=>q1 h.1;have e9:gh (a=i):=gd (by omega);go_wp2;go_meet
      case rel=>exact⟨d1,gd ⟨by rw[e9.o];exact S2.o,permIn_refl _ _ _⟩,R,ad⟩
    case rest=>
     clear l P Q;obtain⟨d2,M,bd,C⟩:=hcut;have l:=HE.o.on C bd;have P:=(kX C (p:=⟨W.heap.size,0,none⟩) D (by show W.heap.size≠blk;omega)).trans c0;have Q:=(kX C (p:=⟨W.heap.size,1,none⟩) D (by show W.heap.size≠blk;omega)).trans c1;have u:∀k,mid<=k->d2[k]! = d1[k]!:=λk hk=>M.o.2.2.1 k (.inr hk);have aV:SortedIn lt2 mid en d2:=λx y c o r=>by rw[u x c,u y (by omega)];exact S3.o x y c o r
     have aW:SortedIn lt2 en b d2:=λx y c o r=>by rw[u x (by omega),u y (by omega)];exact S4.o x y c o r
     have⟨S3,S4⟩:=gy aV aW;have bb:gh (rr lt lt2 mid en b d2):=gd λx y c o r U=>by rw[u x c,u y (by omega)];exact S6.o x y c o r U
     clear u aV aW;have f:mid<en->en<b->_:=λx y=>aS.o wc d2 mid en b (by omega) l x y hb S3.o S4.o bb.o;by_cases q1:mid<en
     .by_cases q2:en<b
      .have f:=f q1 q2
       go_wp2_with fail;refine f.mono ?_;rintro e w2 ⟨rfl,v,A,n,B⟩;go_wp2
       go_end0
       exact aj.o d1 d2 v w2 O.o aL.o M.o ⟨A,n⟩ (pO C ag B n.1)
      .clear f
       obtain rfl:en=b:=by omega
       go_wp2
       go_end0
       exact aj.o d1 d2 d2 wc O.o aL.o M.o ⟨S3.o,permIn_refl _ _ _⟩ C
     .clear f
      obtain rfl:mid=en:=by omega
      go_wp2
      go_end0
      exact aj.o d1 d2 d2 wc O.o aL.o M.o ⟨S4.o,permIn_refl _ _ _⟩ C
theorem Hc(i:SWO lt2)(f:∀args w,(callFunc g args).run prog w=.ok (.enter g args) w)(c:SwapSwaps prog sf sb enc blk off size)(e:size<1099511627776):∀N,Bz enc lt lt2 g lb sf sb blk off size N
 | 0=>λ_ _ _ _ _ h=>by omega
 | N+1=>λW d a m b hN E h1 h2 hb s1 s2 ag=>by
  by_cases c1:m<=a+1
  .exact Ky enc lt lt2 g lb sf sb blk off size i f c e W d a m b E h1 c1 h2 hb s2 ag
  .by_cases c2:b<=m+1
   .exact J1 enc lt lt2 g lb sf sb blk off size i f c e W d a m b E (by omega) h2 c2 hb s1 ag
   .exact LE enc lt lt2 g lb sf sb blk off size i f c e N (Hc i f c e N) W d a m b (by omega) E (by omega) (by omega) hb s1 s2 ag
end
end Go.Proofs.YtifdlkoepaepiaaGreatDoor
