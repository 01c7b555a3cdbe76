/- Lemmas. -/
import Derived.Test.YtnepiccbpokmiaaGreatDoorMg23
set_option linter.all false
set_option maxHeartbeats 4000000
set_option maxRecDepth 100000
namespace Go.Proofs.YtnepiccbpokmiaaGreatDoor
open Tryz List Nat Go.RowKit Go.Sort Go.Shelf Go.Lib
section
variable {α:Type} [Inhabited α] (enc:α->Value) (lt lt2:α->α->Bool) (g:Nat) (lb:Array Value) (sf:Nat) (sb:Array Value) (blk off size:Nat)
theorem Kx(p:SWO lt2)(m:∀args w,(callFunc g args).run prog w=.ok (.enter g args) w)(c:SwapSwaps prog sf sb enc blk off size)(r:size<1099511627776)(W:World)(d:Array α)(a b:Nat)(E:kQ prog enc lt g lb blk off size W d)(f:a<=b)(j:b<=size)(o:qF lt lt2 a size d):Calls prog 342 #[m6 g lb sf sb,a,b] W (qr enc lt2 blk off W d a b):=by
 have q:=E.size_;subst q;refine(insertionSort_func_w enc lt g lb sf sb blk off a b d W m E.less c E.holds E.lt_ f j (by omega)).mono ?_;rintro e s ⟨rfl,n,os,rfl⟩;rw[GV j λk l h i h3=>o k l h i (by omega)];obtain⟨h,i⟩:=insertionSort_holds p d a b f j;exact⟨rfl,_,i,h,n,os,rfl⟩
theorem LE(hS:SWO lt2)(eg:∀args w,(callFunc g args).run prog w=.ok (.enter g args) w)(r:SwapSwaps prog sf sb enc blk off size)(M:size<1099511627776)(W:World)(d:Array α)(E:kQ prog enc lt g lb blk off size W d)(l:qF lt lt2 0 size d):Calls prog 330 #[m6 g lb sf sb,size] W (qr enc lt2 blk off W d 0 size):=by
 have hd:=E.size_;have hW:=E.lt_;have P:=E.alloc (.cells #[.func (.func g) #[] lb,.func (.func sf) #[] sb] 291);have au:=λd' W' (h:SW enc (W.alloc (.cells #[.func (.func g) #[] lb,.func (.func sf) #[] sb] 291)) blk off d' W')=>pW h hW;have Y:=λW d a b=>Kx enc lt lt2 g lb sf sb blk off size hS eg r M W d a b;have Z:=λW d a m b (h:_)=>FH enc lt lt2 g lb sf sb blk off size hS eg r M (b-a+1) W d a m b (lt_succ_self _) h;unfold m6 at Y Z⊢;have ay:gh (oh lt lt2 20 size d):=gd λi j K C _=>l i j (zero_le _) K C;have⟨ap,ao,am,an⟩:=gz l au Y Z;have⟨W1,aj⟩:=zX (W.alloc (.cells #[.func (.func g) #[] lb,.func (.func sf) #[] sb] 291));have c0:W1.cell? ⟨W.heap.size,0,none⟩=some (.func (.func g) #[] lb):=by rw[aj];simp
 have c1:W1.cell? ⟨W.heap.size,1,none⟩=some (.func (.func sf) #[] sb):=by rw[aj];simp
 have R:W.heap.size<W1.heap.size:=by rw[aj];simp
 rw[<-aj]at P ao;have⟨HE,aF⟩:=gy P aj;have Q:blk<W1.heap.size:=P.lt_;clear E au P Y Z l;go_enter func330,ntmps330;go_wp2;rw[<-aF.o];clear aj
 go_loopg [5,6] size (λk va vb wr=>∃(a:Nat) (c:Array α),va=.int .i64 a/\vb=.int .i64 ((a:Int)+20)/\20∣a/\a<=size/\size<=a+k/\c.size=size/\gh (nk lt2 20 0 a c)/\gh (qF lt lt2 a size c/\oh lt lt2 20 size c)/\gh (PermIn 0 size d c)/\SW enc W1 blk off c wr)
 .exact⟨0,d,rfl,rfl,by omega,by omega,by omega,hd,gd (CJ _ _ _ _),gd ⟨ap.o,ay.o⟩,gd (permIn_refl _ _ _),HE.o.start⟩
 obtain⟨a,c,rfl,rfl,H,ha,hk,s,u,A,o,f⟩:=hrel;have ad:=HE.o.on f s;have aD:=(kW f (p:=⟨W.heap.size,0,none⟩) R (by show W.heap.size≠blk;omega)).trans c0;have aE:=(kW f (p:=⟨W.heap.size,1,none⟩) R (by show W.heap.size≠blk;omega)).trans c1;by_cases hle:a+20<=size
 .rcases gk with _|gk
  .omega
  .have hi:=am.o wr c a (a+20) ad (by omega) hle A.o.1
   have J:((a+20:Nat):Int)=(a:Int)+20:=(by simp);rw[J]at hi;have V:decide ((a:Int)+20<=(size:Int))=true:=zB (by omega);clear ad;go_wp2_with fail;refine hi.mono ?_;rintro e w2 ⟨rfl,d2,k1,k2,k4⟩;have⟨k1,aa⟩:=gy k1 k2;have S:=k2.1.trans s;clear k2;go_wp2
   go_roundg gk
   .refine⟨a+20,d2,by go_num,by go_num,by omega,hle,by omega,S,gd (u.o.more (by omega) H aa.o k1.o),gd ⟨A.o.1.next (by omega) aa.o,A.o.2.perm (by omega) H (zQ _) hle s aa.o⟩,gd ?_,oB f Q k4 aa.o.1⟩
    exact permIn_trans _ _ _ _ _ o.o (permIn_mono _ _ _ _ _ _ (zero_le _) hle (by omega) aa.o)
   .omega
 .have V:decide ((a:Int)+20<=(size:Int))=false:=zA (by omega)
  have hi:=am.o wr c a size ad ha (zQ _) A.o.1;clear ad;go_wp2_with fail;refine hi.mono ?_;rintro e w2 ⟨rfl,d2,k1,k2,k4⟩;have S:=k2.1.trans s;have⟨z,aB⟩:=gy (u.o.more (by omega) H k2 k1) (A.o.2.perm (by omega) H (by omega) (zQ _) s k2);have aC:=gd (permIn_trans _ _ _ _ _ o.o (permIn_mono _ _ _ _ _ _ (zero_le _) (zQ _) (by omega) k2));have av:=oB f Q k4 k2.1;clear k1 k2 k4 hi u o A f aD aE s H hk V hle ha;go_wp2_with fail
  go_loopg [4,5,6,7] size (λk vs va vb vm wr=>∃(n:Nat) (c:Array α),vs=.int .i64 n/\0<n/\size<=n+k/\n<=20+2*size/\c.size=size/\gh (nk lt2 n 0 size c)/\gh (oh lt lt2 n size c)/\gh (PermIn 0 size d c)/\SW enc W1 blk off c wr)
  .exact⟨20,d2,rfl,by omega,by omega,by omega,S,z,aB,aC,av⟩
  clear S z aB aC av;obtain⟨n,c,rfl,v,hk,aI,s,u,az,o,f⟩:=hrel;by_cases hlt:n<size
  .rcases gk with _|ko
   .omega
   .go_wp2
    go_loopg [5,6] size (λk va vb wr=>∃(a:Nat) (dj:Array α),va=.int .i64 a/\vb=.int .i64 ((a:Int)+2*(n:Int))/\gh (2*n∣a)/\a<=size/\size<=a+k/\dj.size=size/\gh (nk lt2 (2*n) 0 a dj)/\gh (nk lt2 n a size dj)/\gh (oh lt lt2 (2*n) size dj/\∀i j,a<=i->i<j->j<size->i / n<j / n->lt dj[j]! dj[i]! = lt2 dj[j]! dj[i]!)/\gh (PermIn 0 size d dj)/\SW enc W1 blk off dj wr)
    .exact⟨0,c,rfl,by simp,gd (Nat.dvd_zero _),by omega,by omega,s,gd (CJ _ _ _ _),u,gd ⟨az.o.double,λi j _ C T U=>az.o i j C T U⟩,o,f⟩
    clear f u o s az;obtain⟨a,dj,rfl,rfl,t,ha,aH,B,z,G,F,o,f⟩:=hrel;have ad:=HE.o.on f B;have aD:=(kW f (p:=⟨W.heap.size,0,none⟩) R (by show W.heap.size≠blk;omega)).trans c0;have aE:=(kW f (p:=⟨W.heap.size,1,none⟩) R (by show W.heap.size≠blk;omega)).trans c1;have D:gh (n∣a):=gd (Nat.dvd_trans (Nat.dvd_mul_left n 2) t.o);have I:∀b,b<=size->gh (pY lt lt2 a (a+n) b dj):=λb hb=>gd (by
     obtain⟨q,hq⟩:=D.o;intro x y K C T U;refine F.o.2 x y K (by omega) (by omega) ?_;rw[vq (q:=q) v (by omega) (by omega)];refine Nat.lt_of_lt_of_le (lt_succ_self q) ((le_div_iff_mul_le v).2 ?_)
     have:(q+1)*n=n*q+n:=by rw[Nat.add_mul,Nat.one_mul,zY]
     show(q+1)*n<=y;omega)
    have N:=λhh=>gd (G.o.sorted v (zQ _) D.o (zQ _) hh);by_cases hle:a+2*n<=size
    .rcases gk with _|aG
     .omega
     .have O:SortedIn lt2 (a+n) (a+2*n) dj:=G.o.sorted v (by omega) (Nat.dvd_add D.o (Nat.dvd_refl _)) (by omega) hle
      have L:=an.o wr dj a (a+n) (a+2*n) ad (by omega) (by omega) hle (N (by omega)).o O (I _ hle).o;have J:((a+n:Nat):Int)=(a:Int)+(n:Int):=(by simp);have e2:((a+2*n:Nat):Int)=(a:Int)+2*(n:Int):=(by simp);rw[J,e2]at L;have V:decide ((a:Int)+2*(n:Int)<=(size:Int))=true:=zB (by omega);clear ad N O I;go_wp2_with fail;refine L.mono ?_;rintro e w3 ⟨rfl,d3,k1,k2,k4⟩;have⟨k1,aa⟩:=gy k1 k2;have X:=k2.1.trans B;clear k2;go_wp2
      go_roundg aG
      .refine⟨a+2*n,d3,by go_num,by go_num,gd (Nat.dvd_add t.o (Nat.dvd_refl _)),hle,by omega,X,gd (z.o.more (by omega) t.o aa.o k1.o),gd (G.o.rest (by omega) aa.o),gd ⟨F.o.1.perm (by omega) t.o (zQ _) hle B aa.o,λi j K C T U=>by rw[aa.o.2.1 i (.inr K),aa.o.2.1 j (.inr (by omega))];exact F.o.2 i j (by omega) C T U⟩,gd ?_,oB f Q k4 aa.o.1⟩
       exact permIn_trans _ _ _ _ _ o.o (permIn_mono _ _ _ _ _ _ (zero_le _) hle (by omega) aa.o)
      .omega
    .have V:decide ((a:Int)+2*(n:Int)<=(size:Int))=false:=zA (by omega)
     by_cases hmn:a+n<size
     .have O:SortedIn lt2 (a+n) size dj:=G.o.sorted v (by omega) (Nat.dvd_add D.o (Nat.dvd_refl _)) (by omega) (zQ _)
      have L:=an.o wr dj a (a+n) size ad (by omega) hmn (zQ _) (N (by omega)).o O (I _ (zQ _)).o;have J:((a+n:Nat):Int)=(a:Int)+(n:Int):=(by simp);rw[J]at L;have t2:decide ((a:Int)+(n:Int)<(size:Int))=true:=zB (by omega);clear ad N O I;go_wp2_with fail;refine L.mono ?_;rintro e w3 ⟨rfl,d3,k1,k2,k4⟩;have⟨k1,aa⟩:=gy k1 k2;have X:=k2.1.trans B;clear k2;go_wp2
      go_roundg ko
      .refine⟨2*n,d3,by go_num,by omega,by omega,by omega,X,gd (z.o.more (by omega) t.o aa.o k1.o),gd (F.o.1.perm (by omega) t.o (by omega) (zQ _) B aa.o),gd ?_,oB f Q k4 aa.o.1⟩
       exact permIn_trans _ _ _ _ _ o.o (permIn_mono _ _ _ _ _ _ (zero_le _) (zQ _) (by omega) aa.o)
      .omega
     .have t2:decide ((a:Int)+(n:Int)<(size:Int))=false:=zA (by omega)
      have s3:gh (SortedIn lt2 a size dj):=gd (G.o.sorted v (zQ _) D.o (by omega) (zQ _));clear ad N I;go_wp2
      go_roundg ko
      .exact⟨2*n,dj,by go_num,by omega,by omega,by omega,B,gd (z.o.more (by omega) t.o (permIn_refl _ _ _) s3.o),gd F.o.1,o,f⟩
      .omega
  .go_wp2
   go_end0
   refine⟨rfl,c,?_,o.o,ao.o _ _ f⟩;exact u.o.sorted v (zQ _) (Nat.dvd_zero _) (by omega) (zQ _)
end
end Go.Proofs.YtnepiccbpokmiaaGreatDoor
