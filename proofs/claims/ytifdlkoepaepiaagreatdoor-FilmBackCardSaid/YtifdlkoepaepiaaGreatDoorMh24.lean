/- Lemmas. -/
import Derived.Test.YtifdlkoepaepiaaGreatDoorMh20
set_option linter.all false
set_option maxHeartbeats 4000000
set_option maxRecDepth 100000
namespace Go.Proofs.YtifdlkoepaepiaaGreatDoor
open Tryz List Nat Go.RowKit Go.Sort Go.Shelf Go.Lib
section
variable {α:Type} [Inhabited α] (enc:α->Value) (lt lt2:α->α->Bool) (g:Nat) (lb:Array Value) (sf:Nat) (sb:Array Value) (blk off size:Nat)
theorem Mv(p:SWO lt2)(m:∀args w,(callFunc g args).run prog w=.ok (.enter g args) w)(c:SwapSwaps prog sf sb enc blk off size)(r:size<1099511627776)(W:World)(d:Array α)(a b:Nat)(E:kU prog enc lt g lb blk off size W d)(f:a<=b)(j:b<=size)(o:se lt lt2 a size d):Calls prog 280 #[nJ g lb sf sb,a,b] W (rO enc lt2 blk off W d a b):=by
 have q:=E.size_;subst q;refine(insertionSort_func_w enc lt g lb sf sb blk off a b d W m E.less c E.holds E.lt_ f j (by omega)).mono ?_;rintro e s ⟨rfl,n,os,rfl⟩;rw[JW j λk l h i h3=>o k l h i (by omega)];obtain⟨h,i⟩:=insertionSort_holds p d a b f j;exact⟨rfl,_,i,h,n,os,rfl⟩
theorem Ng(hS:SWO lt2)(eg:∀args w,(callFunc g args).run prog w=.ok (.enter g args) w)(t:SwapSwaps prog sf sb enc blk off size)(Q:size<1099511627776)(W:World)(d:Array α)(E:kU prog enc lt g lb blk off size W d)(o:se lt lt2 0 size d):Calls prog 266 #[nJ g lb sf sb,size] W (rO enc lt2 blk off W d 0 size):=by
 have hd:=E.size_;have hW:=E.lt_;have T:=E.alloc (.cells #[.func (.func g) #[] lb,.func (.func sf) #[] sb] 308);have au:=λd' W' (h:SW enc (W.alloc (.cells #[.func (.func g) #[] lb,.func (.func sf) #[] sb] 308)) blk off d' W')=>rq h hW;have af:=λW d a b=>Mv enc lt lt2 g lb sf sb blk off size hS eg t Q W d a b;have ag:=λW d a m b (h:_)=>Hc enc lt lt2 g lb sf sb blk off size hS eg t Q (b-a+1) W d a m b (lt_succ_self _) h;unfold nJ at af ag⊢;have ay:gh (pD lt lt2 20 size d):=gd λi j N G _=>o i j (zero_le _) N G;have⟨ap,ao,am,an⟩:=gu o au af ag;have⟨W1,aj⟩:=zX (W.alloc (.cells #[.func (.func g) #[] lb,.func (.func sf) #[] sb] 308));have c0:W1.cell? ⟨W.heap.size,0,none⟩=some (.func (.func g) #[] lb):=by rw[aj];simp
 have c1:W1.cell? ⟨W.heap.size,1,none⟩=some (.func (.func sf) #[] sb):=by rw[aj];simp
 have V:W.heap.size<W1.heap.size:=by rw[aj];simp
 rw[<-aj]at T ao;have⟨HE,aF⟩:=gy T aj;have U:blk<W1.heap.size:=T.lt_;clear E au T af ag o;go_enter func266,ntmps266;go_wp2;rw[<-aF.o];clear aj
 go_loopg [5,6] size (λk va vb wr=>∃(a:Nat) (c:Array α),va=.int .i64 a/\vb=.int .i64 ((a:Int)+20)/\20∣a/\a<=size/\size<=a+k/\c.size=size/\gh (nU lt2 20 0 a c)/\gh (se lt lt2 a size c/\pD lt lt2 20 size c)/\gh (PermIn 0 size d c)/\SW enc W1 blk off c wr)
 .exact⟨0,d,rfl,rfl,by omega,by omega,by omega,hd,gd (D7 _ _ _ _),gd ⟨ap.o,ay.o⟩,gd (permIn_refl _ _ _),HE.o.start⟩
 obtain⟨a,c,rfl,rfl,K,ha,hk,u,A,D,s,l⟩:=hrel;have ad:=HE.o.on l u;have aD:=(kX l (p:=⟨W.heap.size,0,none⟩) V (by show W.heap.size≠blk;omega)).trans c0;have aE:=(kX l (p:=⟨W.heap.size,1,none⟩) V (by show W.heap.size≠blk;omega)).trans c1;by_cases hle:a+20<=size
 .rcases gk with _|gk
  .omega
  .have O:=am.o wr c a (a+20) ad (by omega) hle D.o.1
   have M:((a+20:Nat):Int)=(a:Int)+20:=(by simp);rw[M]at O;have t1:decide ((a:Int)+20<=(size:Int))=true:=zB (by omega);clear ad;go_wp2_with fail;refine O.mono ?_;rintro e w2 ⟨rfl,d2,r,f,v⟩;have⟨r,aa⟩:=gy r f;have X:=f.1.trans u;clear f;go_wp2
   go_roundg gk
   .refine⟨a+20,d2,by go_num,by go_num,by omega,hle,by omega,X,gd (A.o.more (by omega) K aa.o r.o),gd ⟨D.o.1.next (by omega) aa.o,D.o.2.perm (by omega) K (zQ _) hle u aa.o⟩,gd ?_,pO l U v aa.o.1⟩
    exact permIn_trans _ _ _ _ _ s.o (permIn_mono _ _ _ _ _ _ (zero_le _) hle (by omega) aa.o)
   .omega
 .have t1:decide ((a:Int)+20<=(size:Int))=false:=zA (by omega)
  have O:=am.o wr c a size ad ha (zQ _) D.o.1;clear ad;go_wp2_with fail;refine O.mono ?_;rintro e w2 ⟨rfl,d2,r,f,v⟩;have X:=f.1.trans u;have⟨C,aB⟩:=gy (A.o.more (by omega) K f r) (D.o.2.perm (by omega) K (by omega) (zQ _) u f);have aC:=gd (permIn_trans _ _ _ _ _ s.o (permIn_mono _ _ _ _ _ _ (zero_le _) (zQ _) (by omega) f));have av:=pO l U v f.1;clear r f v O A s D l aD aE u K hk t1 hle ha;go_wp2_with fail
  go_loopg [4,5,6,7] size (λk vs va vb vm wr=>∃(n:Nat) (c:Array α),vs=.int .i64 n/\0<n/\size<=n+k/\n<=20+2*size/\c.size=size/\gh (nU lt2 n 0 size c)/\gh (pD lt lt2 n size c)/\gh (PermIn 0 size d c)/\SW enc W1 blk off c wr)
  .exact⟨20,d2,rfl,by omega,by omega,by omega,X,C,aB,aC,av⟩
  clear X C aB aC av;obtain⟨n,c,rfl,B,hk,aI,u,A,az,s,l⟩:=hrel;by_cases hlt:n<size
  .rcases gk with _|ko
   .omega
   .go_wp2
    go_loopg [5,6] size (λk va vb wr=>∃(a:Nat) (dj:Array α),va=.int .i64 a/\vb=.int .i64 ((a:Int)+2*(n:Int))/\gh (2*n∣a)/\a<=size/\size<=a+k/\dj.size=size/\gh (nU lt2 (2*n) 0 a dj)/\gh (nU lt2 n a size dj)/\gh (pD lt lt2 (2*n) size dj/\∀i j,a<=i->i<j->j<size->i / n<j / n->lt dj[j]! dj[i]! = lt2 dj[j]! dj[i]!)/\gh (PermIn 0 size d dj)/\SW enc W1 blk off dj wr)
    .exact⟨0,c,rfl,by simp,gd (Nat.dvd_zero _),by omega,by omega,u,gd (D7 _ _ _ _),A,gd ⟨az.o.double,λi j _ G Y Z=>az.o i j G Y Z⟩,s,l⟩
    clear l A s u az;obtain⟨a,dj,rfl,rfl,z,ha,aH,F,C,J,I,s,l⟩:=hrel;have ad:=HE.o.on l F;have aD:=(kX l (p:=⟨W.heap.size,0,none⟩) V (by show W.heap.size≠blk;omega)).trans c0;have aE:=(kX l (p:=⟨W.heap.size,1,none⟩) V (by show W.heap.size≠blk;omega)).trans c1;have H:gh (n∣a):=gd (Nat.dvd_trans (Nat.dvd_mul_left n 2) z.o);have L:∀b,b<=size->gh (rr lt lt2 a (a+n) b dj):=λb hb=>gd (by
     obtain⟨q,hq⟩:=H.o;intro x y N G Y Z;refine I.o.2 x y N (by omega) (by omega) ?_;rw[xS (q:=q) B (by omega) (by omega)];refine Nat.lt_of_lt_of_le (lt_succ_self q) ((le_div_iff_mul_le B).2 ?_)
     have:(q+1)*n=n*q+n:=by rw[Nat.add_mul,Nat.one_mul,zY]
     show(q+1)*n<=y;omega)
    have R:=λhh=>gd (J.o.sorted B (zQ _) H.o (zQ _) hh);by_cases hle:a+2*n<=size
    .rcases gk with _|aG
     .omega
     .have S:SortedIn lt2 (a+n) (a+2*n) dj:=J.o.sorted B (by omega) (Nat.dvd_add H.o (Nat.dvd_refl _)) (by omega) hle
      have P:=an.o wr dj a (a+n) (a+2*n) ad (by omega) (by omega) hle (R (by omega)).o S (L _ hle).o;have M:((a+n:Nat):Int)=(a:Int)+(n:Int):=(by simp);have e2:((a+2*n:Nat):Int)=(a:Int)+2*(n:Int):=(by simp);rw[M,e2]at P;have t1:decide ((a:Int)+2*(n:Int)<=(size:Int))=true:=zB (by omega);clear ad R S L;go_wp2_with fail;refine P.mono ?_;rintro e w3 ⟨rfl,d3,r,f,v⟩;have⟨r,aa⟩:=gy r f;have aA:=f.1.trans F;clear f;go_wp2
      go_roundg aG
      .refine⟨a+2*n,d3,by go_num,by go_num,gd (Nat.dvd_add z.o (Nat.dvd_refl _)),hle,by omega,aA,gd (C.o.more (by omega) z.o aa.o r.o),gd (J.o.rest (by omega) aa.o),gd ⟨I.o.1.perm (by omega) z.o (zQ _) hle F aa.o,λi j N G Y Z=>by rw[aa.o.2.1 i (.inr N),aa.o.2.1 j (.inr (by omega))];exact I.o.2 i j (by omega) G Y Z⟩,gd ?_,pO l U v aa.o.1⟩
       exact permIn_trans _ _ _ _ _ s.o (permIn_mono _ _ _ _ _ _ (zero_le _) hle (by omega) aa.o)
      .omega
    .have t1:decide ((a:Int)+2*(n:Int)<=(size:Int))=false:=zA (by omega)
     by_cases hmn:a+n<size
     .have S:SortedIn lt2 (a+n) size dj:=J.o.sorted B (by omega) (Nat.dvd_add H.o (Nat.dvd_refl _)) (by omega) (zQ _)
      have P:=an.o wr dj a (a+n) size ad (by omega) hmn (zQ _) (R (by omega)).o S (L _ (zQ _)).o;have M:((a+n:Nat):Int)=(a:Int)+(n:Int):=(by simp);rw[M]at P;have t2:decide ((a:Int)+(n:Int)<(size:Int))=true:=zB (by omega);clear ad R S L;go_wp2_with fail;refine P.mono ?_;rintro e w3 ⟨rfl,d3,r,f,v⟩;have⟨r,aa⟩:=gy r f;have aA:=f.1.trans F;clear f;go_wp2
      go_roundg ko
      .refine⟨2*n,d3,by go_num,by omega,by omega,by omega,aA,gd (C.o.more (by omega) z.o aa.o r.o),gd (I.o.1.perm (by omega) z.o (by omega) (zQ _) F aa.o),gd ?_,pO l U v aa.o.1⟩
       exact permIn_trans _ _ _ _ _ s.o (permIn_mono _ _ _ _ _ _ (zero_le _) (zQ _) (by omega) aa.o)
      .omega
     .have t2:decide ((a:Int)+(n:Int)<(size:Int))=false:=zA (by omega)
      have s3:gh (SortedIn lt2 a size dj):=gd (J.o.sorted B (zQ _) H.o (by omega) (zQ _));clear ad R L;go_wp2
      go_roundg ko
      .exact⟨2*n,dj,by go_num,by omega,by omega,by omega,F,gd (C.o.more (by omega) z.o (permIn_refl _ _ _) s3.o),gd I.o.1,s,l⟩
      .omega
  .go_wp2
   go_end0
   refine⟨rfl,c,?_,s.o,ao.o _ _ l⟩;exact A.o.sorted B (zQ _) (Nat.dvd_zero _) (by omega) (zQ _)
end
end Go.Proofs.YtifdlkoepaepiaaGreatDoor
