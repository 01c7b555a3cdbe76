/- Lemmas. -/
import Derived.Test.YtnepiccbpokmiaaGreatDoorMg20
set_option linter.all false
set_option maxHeartbeats 4000000
set_option maxRecDepth 100000
namespace Go.Proofs.YtnepiccbpokmiaaGreatDoor
open Tryz List Nat Go.RowKit Go.Sort Go.Shelf Go.Lib
section
variable {α:Type} [Inhabited α] (enc:α->Value) (lt lt2:α->α->Bool) (g:Nat) (lb:Array Value) (sf:Nat) (sb:Array Value) (blk off size:Nat)
def zn(N:Nat):Prop:=∀(W:World) (d:Array α) (a m b:Nat),b-a<N->kQ prog enc lt g lb blk off size W d->a<m->m<b->b<=size->SortedIn lt2 a m d->SortedIn lt2 m b d->pY lt lt2 a m b d ->
 Calls prog 343 #[m6 g lb sf sb,a,m,b] W (qr enc lt2 blk off W d a b)
theorem Jh(hS:SWO lt2)(eg:∀args w,(callFunc g args).run prog w=.ok (.enter g args) w)(v:SwapSwaps prog sf sb enc blk off size)(hsz:size<1099511627776)(N:Nat)(T:zn enc lt lt2 g lb sf sb blk off size N)(W:World)(d:Array α)(a m b:Nat)(hN:b-a<=N)(E:kQ prog enc lt g lb blk off size W d)(hm0:a+2<=m)(hm1:m+2<=b)(hb:b<=size)(c:SortedIn lt2 a m d)(n:SortedIn lt2 m b d)(G:pY lt lt2 a m b d):Calls prog 343 #[m6 g lb sf sb,.int .i64 a,.int .i64 m,.int .i64 b] W (qr enc lt2 blk off W d a b):=by
 have H:=E.size_;have hW:=E.lt_;have I:=E.alloc (.cells #[.func (.func g) #[] lb,.func (.func sf) #[] sb] 291);have ax:=λd' W' (h:SW enc (W.alloc (.cells #[.func (.func g) #[] lb,.func (.func sf) #[] sb] 291)) blk off d' W')=>pW h hW;have al:=λW d a m b=>Lx enc lt g lb sf sb blk off size v hsz W d a m b;unfold zn at T;unfold m6 at T al⊢;have t0:(((m:Int)-(a:Int))==1)=false:=by rw[beq_eq_false_iff_ne];omega
 have t1:(((b:Int)-(m:Int))==1)=false:=by rw[beq_eq_false_iff_ne];omega
 have⟨mid,aw⟩:=zX ((a+b) / 2);have a2:((a:Int)+(b:Int)) / 2=(mid:Int):=by omega
 have a0:a<mid:=by omega
 have a1:mid<b:=by omega
 have⟨nn,a3⟩:=zX (mid+m);have bl:(mid:Int)+(m:Int)=(nn:Int):=by omega
 have⟨p,hp⟩:=zX (nn-1);have bA:(nn:Int)-1=(p:Int):=by omega
 have⟨lo,aG⟩:=zX (if mid<m then mid+m-b else a);have⟨hi,au⟩:=zX (if mid<m then mid else m);have av:lo<=hi/\hi<=m/\hi<=mid/\a<=lo/\(mid<m->lo+b=nn):=by
  rw[aG,au];split<;>omega
 have ak:¬mid<m->lo=a/\hi=m:=λh=>by rw[aG,au,if_neg h,if_neg h];exact⟨rfl,rfl⟩
 have ai:mid<m->hi=mid:=λh=>by rw[au,if_pos h]
 obtain⟨bv,bw,bx,bz,Y⟩:=av;have bj:nn<=lo+b:=by
  by_cases h:mid<m
  .have:=Y h;omega
  .have:=ak h;omega
 have⟨a8,a6,aK,aT⟩:=gz aG au aw a3;have⟨HP,aJ,ao,a7⟩:=gz hp ak ai Y;have⟨aN,aO,aH,aP⟩:=gz c n G hS;have⟨ap,aS,aM⟩:=gS ax T al;have⟨W1,an⟩:=zX (W.alloc (.cells #[.func (.func g) #[] lb,.func (.func sf) #[] sb] 291));have c0:W1.cell? ⟨W.heap.size,0,none⟩=some (.func (.func g) #[] lb):=by rw[an];simp
 have c1:W1.cell? ⟨W.heap.size,1,none⟩=some (.func (.func sf) #[] sb):=by rw[an];simp
 have A:W.heap.size<W1.heap.size:=by rw[an];simp
 rw[<-an]at I ap;have⟨HE,ba⟩:=gy I an;have Z:blk<W1.heap.size:=I.lt_;clear G E c n hS ax I aG au aw a3 hp ak ai Y T al;go_enter func343,ntmps343
 go_upto_if 106 with fail
 rw[<-ba.o];clear an
 go_cut [18,19]from 23 (λs18 s19 wc=>s18=.int .i64 lo/\s19=.int .i64 hi/\wc=W1)
 case first=>
  by_cases hc:mid<m
  .have Q:(nn:Int)-(b:Int)=(lo:Int):=by have:=a7.o hc;omega
   have t:=ao.o hc;go_wp2;go_meet
   case rel=>exact⟨rfl,by rw[t],rfl⟩
  .have t:=aJ.o hc
   go_wp2;go_meet
   case rel=>exact⟨by rw[t.1],by rw[t.2],rfl⟩
 case rest=>
  obtain⟨rfl,rfl,F⟩:=hcut;obtain rfl:=F.symm;go_wp2
  go_loopg [18,19,21] (hi-lo) (λk vi vj vh wr=>∃(i j:Nat),vi=.int .i64 i/\vj=.int .i64 j/\lo<=i/\i<=j/\j<=hi/\j-i<=k/\gh (i=lo\/lt2 d[p-(i-1)]! d[i-1]! = false)/\gh (j=hi\/lt2 d[p-j]! d[j]! = true)/\SW enc W1 blk off d wr)
  .exact⟨lo,hi,rfl,rfl,by omega,by omega,by omega,by omega,gd (.inl rfl),gd (.inl rfl),HE.o.start⟩
  obtain⟨i,j,rfl,rfl,bh,br,bi,hk,U,V,D⟩:=hrel;have l:=HE.o.on D H;have L:=(kW D (p:=⟨W.heap.size,0,none⟩) A (by show W.heap.size≠blk;omega)).trans c0;have M:=(kW D (p:=⟨W.heap.size,1,none⟩) A (by show W.heap.size≠blk;omega)).trans c1;have B:=gd D;clear D;by_cases hlt:i<j
  .rcases gk with _|gk
   .omega
   .have⟨h,hh⟩:=zX ((i+j) / 2)
    have bp:((i:Int)+(j:Int)) / 2=(h:Int):=(by omega);have bq:i<=h:=(by omega);have bu:h<j:=(by omega);have bn:=HP.o;have bk:=aT.o;have⟨pc,a5⟩:=zX (p-h);have bm:(p:Int)-(h:Int)=(pc:Int):=(by omega);have S:=l.call pc h (by omega) (by omega);have aU:=gd a5;have aY:gh (lt d[pc]! d[h]! = lt2 d[pc]! d[h]!):=gd (aH.o h pc (by omega) (by omega) (by omega) (by omega));clear hh l a5 bn bk
    cases hlv:lt d[pc]! d[h]! with
    | false=>
     rw[hlv]at S
     go_wp2_with(go_at_fn g;refine S.mono ?_;rintro e w' ⟨rfl,q,rfl⟩)
     go_roundg gk
     .exact⟨h+1,j,by go_num,rfl,by omega,by omega,by omega,by omega,gd (.inr (by rw[Nat.add_sub_cancel,<-aU.o];exact aY.o.symm.trans hlv)),V,B.o.drewN q⟩
     .omega
    | true=>
     rw[hlv]at S
     go_wp2_with(go_at_fn g;refine S.mono ?_;rintro e w' ⟨rfl,q,rfl⟩)
     go_roundg gk
     .exact⟨i,h,rfl,rfl,by omega,by omega,by omega,by omega,U,gd (.inr (by rw[<-aU.o];exact aY.o.symm.trans hlv)),B.o.drewN q⟩
     .omega
  .obtain rfl:i=j:=by omega
   have s:qO lt2 a m b mid i d:=by
    have e:∀x,mid+m-1-x=p-x:=λx=>by rw[HP.o,aT.o]
    refine qO.of aP.o aN.o aO.o (by omega) (by omega) aK.o a8.o a6.o bh bi ?_ ?_
    .rw[e];exact U.o
    .rw[e];exact V.o
   have⟨en,bf⟩:=zX (nn-i);have bg:(nn:Int)-(i:Int)=(en:Int):=(by omega);have bo:mid<=en:=(by have:=s.e0;omega);have be:en<=b:=(by have:=s.e1;omega);have P:en=mid+m-i:=(by omega);have ar:∀d1 d2 d3 W3,kL i m en d d1->PermIn a b d d1->(SortedIn lt2 a mid d2/\PermIn a mid d1 d2)->(SortedIn lt2 mid b d3/\PermIn mid b d2 d3)->SW enc W1 blk off d3 W3->qr enc lt2 blk off W d a b (.returned (.tuple #[])) W3:=by
    intro d1 d2 d3 W3 r a4 aX o aR;rw[P]at r;obtain⟨_,_,_,_,k5⟩:=s.rot aP.o aN.o aO.o (by omega) (by omega) r;have hz:b<=d1.size:=(by rw[a4.1,H];exact hb);have hj:=IA hz (by omega) (by omega) k5 aX.2 aX.1 o.2 o.1;exact⟨rfl,d3,hj.1,permIn_trans _ _ _ _ _ a4 hj.2,ap.o _ _ aR⟩
   have ah:∀d1,kL i m en d d1->SortedIn lt2 a i d1/\SortedIn lt2 i mid d1/\SortedIn lt2 mid en d1/\SortedIn lt2 en b d1/\pY lt lt2 a i mid d1/\pY lt lt2 mid en b d1:=by
    intro d1 r;rw[P]at r⊢;obtain⟨k1,k2,k3,k4,_⟩:=s.rot aP.o aN.o aO.o (by omega) (by omega) r;refine⟨k1,k2,k3,k4,?_,?_⟩
    .intro x y c n o R
     have Q:d1[x]! = d[x]!:=(by rw[r x,if_neg (by omega)]);have t:d1[y]! = d[y+(m-i)]!:=(by rw[r y,if_pos (by omega),if_pos (by omega)]);rw[Q,t];exact aH.o x (y+(m-i)) c (by omega) (by omega) (by omega)
    .intro x y c n o R
     have Q:d1[x]! = d[x-(mid-i)]!:=by
      rw[r x,if_pos (by omega),if_neg (by omega)];congr 1;omega
     have t:d1[y]! = d[y]!:=(by rw[r y,if_neg (by omega)]);rw[Q,t];exact aH.o (x-(mid-i)) y (by omega) (by omega) (by omega) R
   have bs:i<=m:=s.ms;have aZ:i<=mid:=s.mid1;have bc:a<=i:=s.lo;have⟨aj,a9,aI⟩:=gS ar ah P;clear s ar ah bf P U V
   -- the rotation
   go_upto_region 40 with fail
   go_cut [145]from 23 (λs145 wx=>s145=.bool (decide (i<m/\m<en))/\wx=wr)
   case first=>
    clear l;by_cases q1:i<m
    .by_cases q2:m<en
     .have e:decide (i<m/\m<en)=true:=zB ⟨q1,q2⟩
      go_wp2;go_meet
      case rel=>exact⟨by rw[e],rfl⟩
     .have e:decide (i<m/\m<en)=false:=zA λh=>q2 h.2
      go_wp2;go_meet
      case rel=>exact⟨by rw[e],rfl⟩
    .have e:decide (i<m/\m<en)=false:=zA λh=>q1 h.1
     go_wp2;go_meet
     case rel=>exact⟨by rw[e],rfl⟩
   case rest=>
   obtain⟨rfl,F⟩:=hcut;obtain rfl:=F.symm
   go_upto_if 145 with fail
   go_cut []from 23 (λwx=>∃d1,gh (kL i m en d d1)/\gh (PermIn a b d d1)/\d1.size=size/\SW enc W1 blk off d1 wx)
   case first=>
    have C:i<m->m<en->_:=λx y=>aM.o wr d i m en l x y (by omega);by_cases q1:i<m
    .by_cases q2:m<en
     .have C:=C q1 q2
      have e:decide (i<m/\m<en)=true:=zB ⟨q1,q2⟩;go_wp2_with fail;refine C.mono ?_;rintro e w2 ⟨rfl,d1,k1,k2,k3,k4⟩;go_wp2;go_meet
      case rel=>exact⟨d1,gd k1,gd (permIn_mono _ _ _ _ _ _ bc be (by omega) k3),k2,oB B.o Z k4 (k2.trans H.symm)⟩
     .clear C
      have e:decide (i<m/\m<en)=false:=zA λh=>q2 h.2;go_wp2;go_meet
      case rel=>exact⟨d,gd (kL.none d (.inr (by have:=aI.o;omega)) (by omega) (by have:=aI.o;omega)),gd (permIn_refl _ _ _),H,B.o⟩
    .clear C
     have e:decide (i<m/\m<en)=false:=zA λh=>q1 h.1;go_wp2;go_meet
     case rel=>exact⟨d,gd (kL.none d (.inl (by omega)) (by omega) (by have:=aI.o;omega)),gd (permIn_refl _ _ _),H,B.o⟩
   case rest=>
    clear l L M;obtain⟨d1,K,X,O,ad⟩:=hcut;have l:=HE.o.on ad O;have L:=(kW ad (p:=⟨W.heap.size,0,none⟩) A (by show W.heap.size≠blk;omega)).trans c0;have M:=(kW ad (p:=⟨W.heap.size,1,none⟩) A (by show W.heap.size≠blk;omega)).trans c1;obtain⟨s1,s2,s3,s4,s5,s6⟩:=a9.o d1 K.o;have⟨S5,S6,S1,S2⟩:=gz s5 s6 s1 s2;have⟨S3,S4⟩:=gy s3 s4;clear s1 s2 s3 s4 s5 s6
    go_upto_region 42 with fail
    go_cut [158]from 23 (λs158 wy=>s158=.bool (decide (a<i/\i<mid))/\wy=wc)
    case first=>
     clear l;by_cases q1:a<i
     .by_cases q2:i<mid
      .have e:decide (a<i/\i<mid)=true:=zB ⟨q1,q2⟩
       go_wp2;go_meet
       case rel=>exact⟨by rw[e],rfl⟩
      .have e:decide (a<i/\i<mid)=false:=zA λh=>q2 h.2
       go_wp2;go_meet
       case rel=>exact⟨by rw[e],rfl⟩
     .have e:decide (a<i/\i<mid)=false:=zA λh=>q1 h.1
      go_wp2;go_meet
      case rel=>exact⟨by rw[e],rfl⟩
    case rest=>
    obtain⟨rfl,F⟩:=hcut;obtain rfl:=F.symm
    go_upto_if 158 with fail
    go_cut []from 23 (λwy=>∃d2,gh (SortedIn lt2 a mid d2/\PermIn a mid d1 d2)/\d2.size=size/\SW enc W1 blk off d2 wy)
    case first=>
     have f:a<i->i<mid->_:=λx y=>aS.o wc d1 a i mid (by omega) l x y (by omega) S1.o S2.o S5.o;by_cases q1:a<i
     .by_cases q2:i<mid
      .have f:=f q1 q2
       have e:decide (a<i/\i<mid)=true:=zB ⟨q1,q2⟩;go_wp2_with fail;refine f.mono ?_;rintro e w2 ⟨rfl,d2,k1,k2,k4⟩;go_wp2;go_meet
       case rel=>exact⟨d2,gd ⟨k1,k2⟩,k2.1.trans O,oB ad Z k4 k2.1⟩
      .clear f
       have e:decide (a<i/\i<mid)=false:=zA λh=>q2 h.2;have e9:gh (i=mid):=gd (by omega);go_wp2;go_meet
       case rel=>exact⟨d1,gd ⟨by rw[<-e9.o];exact S1.o,permIn_refl _ _ _⟩,O,ad⟩
     .clear f
      have e:decide (a<i/\i<mid)=false:=zA λh=>q1 h.1;have e9:gh (a=i):=gd (by omega);go_wp2;go_meet
      case rel=>exact⟨d1,gd ⟨by rw[e9.o];exact S2.o,permIn_refl _ _ _⟩,O,ad⟩
    case rest=>
     clear l L M;obtain⟨d2,J,bd,z⟩:=hcut;have l:=HE.o.on z bd;have L:=(kW z (p:=⟨W.heap.size,0,none⟩) A (by show W.heap.size≠blk;omega)).trans c0;have M:=(kW z (p:=⟨W.heap.size,1,none⟩) A (by show W.heap.size≠blk;omega)).trans c1;have u:∀k,mid<=k->d2[k]! = d1[k]!:=λk hk=>J.o.2.2.1 k (.inr hk);have aV:SortedIn lt2 mid en d2:=λx y c n o=>by rw[u x c,u y (by omega)];exact S3.o x y c n o
     have aW:SortedIn lt2 en b d2:=λx y c n o=>by rw[u x (by omega),u y (by omega)];exact S4.o x y c n o
     have⟨S3,S4⟩:=gy aV aW;have bb:gh (pY lt lt2 mid en b d2):=gd λx y c n o R=>by rw[u x c,u y (by omega)];exact S6.o x y c n o R
     clear u aV aW;have f:mid<en->en<b->_:=λx y=>aS.o wc d2 mid en b (by omega) l x y hb S3.o S4.o bb.o;by_cases q1:mid<en
     .by_cases q2:en<b
      .have f:=f q1 q2
       go_wp2_with fail;refine f.mono ?_;rintro e w2 ⟨rfl,d3,k1,k2,k4⟩;go_wp2
       go_end0
       exact aj.o d1 d2 d3 w2 K.o X.o J.o ⟨k1,k2⟩ (oB z Z k4 k2.1)
      .clear f
       obtain rfl:en=b:=by omega
       go_wp2
       go_end0
       exact aj.o d1 d2 d2 wc K.o X.o J.o ⟨S3.o,permIn_refl _ _ _⟩ z
     .clear f
      obtain rfl:mid=en:=by omega
      go_wp2
      go_end0
      exact aj.o d1 d2 d2 wc K.o X.o J.o ⟨S4.o,permIn_refl _ _ _⟩ z
theorem FH(i:SWO lt2)(f:∀args w,(callFunc g args).run prog w=.ok (.enter g args) w)(c:SwapSwaps prog sf sb enc blk off size)(e:size<1099511627776):∀N,zn enc lt lt2 g lb sf sb blk off size N
 | 0=>λ_ _ _ _ _ h=>by omega
 | N+1=>λW d a m b hN E h1 h2 hb s1 s2 ag=>by
  by_cases c1:m<=a+1
  .exact Ic enc lt lt2 g lb sf sb blk off size i f c e W d a m b E h1 c1 h2 hb s2 ag
  .by_cases c2:b<=m+1
   .exact GY enc lt lt2 g lb sf sb blk off size i f c e W d a m b E (by omega) h2 c2 hb s1 ag
   .exact Jh enc lt lt2 g lb sf sb blk off size i f c e N (FH i f c e N) W d a m b (by omega) E (by omega) (by omega) hb s1 s2 ag
end
end Go.Proofs.YtnepiccbpokmiaaGreatDoor
