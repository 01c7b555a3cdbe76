/- Lemmas. -/
import Derived.Test.YtnepiccbpokmiaaGreatDoorMg18
set_option linter.all false
set_option maxHeartbeats 2000000
set_option maxRecDepth 100000
namespace Go.Proofs.YtnepiccbpokmiaaGreatDoor
open Tryz List Nat Go.RowKit
variable {best:Int}{l:List Int}{C G' bs rs:List Nat}{E N a b d g g' i k m n o s vl:Nat}{c':Nat->Nat}{B':Nat->Option Addr}{u v:Value}
instance (d:Nat) (l:List Int):Decidable (gU d l):=inferInstanceAs (Decidable (∀s∈l,0<=s/\s<2^d))
structure iH where
 W:Int
 H:Int
 d:Int
 P:List (List Int)
def qI(W H d n:Int):Bool:=decide (1<=W)&&decide (W<=64)&&decide (1<=H)&&decide (H<=64)&&decide (1<=d)&&decide (d<=16)&&decide (1<=n)&&decide (n<=4)
theorem uz(W H d n:Int):qI W H d n=true ↔ (1<=W/\W<=64)/\(1<=H/\H<=64)/\(1<=d/\d<=16)/\1<=n/\n<=4:=by
 simp only[qI,Bool.and_eq_true,decide_eq_true_eq];omega
def rG(W H d:Int)(l:List Int):Bool:=decide ((l.length:Int)=W*H)&&decide (gU d.toNat l)
def iH.isB(r:iH):Bool:=qI r.W r.H r.d r.P.length&&r.P.all (rG r.W r.H r.d)
def iH.pic(r:iH):gH:=⟨r.W.toNat,r.H.toNat,r.d.toNat,r.P⟩
def gH.raw(p:gH):iH:=⟨p.W,p.H,p.d,p.P⟩
theorem iH.ok{r:iH}(h:r.isB=true):r.pic.Ok/\r.pic.raw=r:=by
 obtain⟨W,H,d,P⟩:=r;simp only[iH.isB,Bool.and_eq_true,uz,all_eq_true,rG,decide_eq_true_eq]at h;obtain⟨⟨j,hH,q,t⟩,f⟩:=h;have e:((W.toNat:Nat):Int)*((H.toNat:Nat):Int)=W*H:=by rw[Int.toNat_of_nonneg (by omega),Int.toNat_of_nonneg (by omega)]
 constructor
 .refine⟨?_,?_,?_,?_,?_,?_,?_,?_,λl hl=>?_,λl hl=>(f l hl).2⟩<;>simp only[iH.pic]
  .omega
  .omega
  .omega
  .omega
  .omega
  .omega
  .omega
  .omega
  .have:=(f l hl).1
   rw[<-e]at this
   exact_mod_cast this
 .simp only[iH.pic,gH.raw,Int.toNat_of_nonneg (show(0:Int)<=W by omega),Int.toNat_of_nonneg (show(0:Int)<=H by omega),Int.toNat_of_nonneg (show(0:Int)<=d by omega)]
theorem gH.Ok.isB{p:gH}(h:p.Ok):p.raw.isB=true:=by
 have:=h.w0;have:=h.w1;have:=h.h0;have:=h.h1;have:=h.d0;have:=h.d1;have:=h.n0;have:=h.n1
 simp only[iH.isB,Bool.and_eq_true,uz,all_eq_true,rG,decide_eq_true_eq,gH.raw];refine⟨⟨⟨by omega,by omega⟩,⟨by omega,by omega⟩,⟨by omega,by omega⟩,by omega,by omega⟩,λl hl=>⟨by rw[h.len l hl];simp,?_⟩⟩
 have:=h.smp l hl
 simpa using this
def j9(r s:iH):Bool:=r.isB&&s.isB&&decide (r.W=s.W)&&decide (r.H=s.H)&&decide (r.d=s.d)&&decide (r.P.length=s.P.length)
theorem Eg{p q:gH}(x:p.Ok)(y:q.Ok)(h:jv p q):j9 p.raw q.raw=true:=by
 have e:p.raw.W=q.raw.W:=by simp only[gH.raw,h.W]
 have f:p.raw.H=q.raw.H:=by simp only[gH.raw,h.H]
 have j:p.raw.d=q.raw.d:=by simp only[gH.raw,h.d]
 have t:p.raw.P.length=q.raw.P.length:=by simp only[gH.raw,h.n]
 simp only[j9,x.isB,y.isB,e,f,j,t,decide_true,Bool.and_self]
theorem KD{r s:iH}(h:j9 r s=true):r.isB=true/\s.isB=true/\jv r.pic s.pic:=by
 simp only[j9,Bool.and_eq_true,decide_eq_true_eq]at h;obtain⟨⟨⟨⟨⟨e,f⟩,j⟩,q⟩,t⟩,x⟩:=h;exact⟨e,f,by simp only[iH.pic,j],by simp only[iH.pic,q],by simp only[iH.pic,t],x⟩
def ip(r:iH)(A:Option Addr)(cap:Nat):Value:=.agg #[r.W,r.H,r.d,.slice A r.P.length cap]
theorem uM(p:gH)(g o cap:Nat):ip p.raw (some ⟨g,o,none⟩) cap=gN p g o cap:=rfl
structure jH (w:World) (r:iH) (A:Option Addr) (B:Nat->Option Addr) (c:Nat->Nat) (G:List Nat):Prop where
 lt:∀x∈G,x<w.heap.size
 ex:0<r.P.length->∃g o,A=some ⟨g,o,none⟩/\g∈G/\∀i,i<r.P.length->w.cell? ⟨g,o+i,none⟩=some (.slice (B i) (r.P.getD i []).length (c i))
 cells:∀i,i<r.P.length->gu vi w (B i) (r.P.getD i [])
 blk:∀i,i<r.P.length->0<(r.P.getD i []).length->∀ad,B i=some ad->ad.block∈G
 cap:∀i,i<r.P.length->(r.P.getD i []).length<=c i/\c i<=9223372036854775807
 many:r.P.length<=9223372036854775807
section
variable {w w':World} {r:iH} {A:Option Addr} {B:Nat->Option Addr} {c:Nat->Nat} {G F:List Nat}
theorem jH.Z(h:jH w r A B c G)(j:gf F w w')(t:∀x∈G,x∉F):jH w' r A B c G:=
 { h with
  lt:=λx hx=>Nat.lt_of_lt_of_le (h.lt x hx) j.size
  ex:=λhn=>by
   obtain⟨g,o,y,q,z⟩:=h.ex hn;exact⟨g,o,y,q,λi hi=>(World.cell?_of_block (w:=w) (j.block g (h.lt g q) (t g q))).trans (z i hi)⟩
  cells:=λi hi=>by
   rcases eq_zero_or_pos (r.P.getD i []).length with f|f
   .rw[eq_nil_of_length_eq_zero f]
    exact⟨λh=>by simp at h⟩
   .exact(h.cells i hi).Z j λad e=>t _ (h.blk i hi f ad e) }
theorem jH.few(h:jH w r A B c G)(hi:i<r.P.length):(r.P.getD i []).length<=9223372036854775807:=Nat.le_trans (h.cap i hi).1 (h.cap i hi).2
theorem jH.Y(h:jH w r A B c G)(e:gf [] w w'):jH w' r A B c G:=h.Z e (by simp)
theorem jH.pic(h:jH w r A B c G)(t:r.isB=true):∃g o,A=some ⟨g,o,none⟩/\gW w r.pic g o B c G:=by
 obtain⟨f,z⟩:=iH.ok t;obtain⟨g,o,q,x,y⟩:=h.ex f.n0;have j:∀i,i<r.P.length->(r.P.getD i []).length=r.pic.W*r.pic.H:=λi hi=>f.len _ (by
  rw[zD,zF hi];exact zG hi)
 exact⟨g,o,q,f,x,h.lt,λi hi=>(y i hi).trans (by rw[j i hi]),h.cells,λi hi ad e=>h.blk i hi (by rw[j i hi];exact f.pos) ad e,λi hi=>by rw[<-j i hi];exact h.cap i hi⟩
theorem gW.raw{p:gH}(h:gW w p g o B c G):jH w p.raw (some ⟨g,o,none⟩) B c G:=by
 have f:=h.ok
 have:=f.w1;have:=f.h1;have:=f.d1;have:=f.n1;have:=f.area
 have j:p.raw.P.length=p.P.length:=rfl;refine⟨h.lt,λ_=>⟨g,o,rfl,h.gG,λi hi=>(h.X i hi).trans (by rw[show p.raw.P=p.P from rfl,h.len hi])⟩,h.cells,λi hi _ ad e=>h.blk i hi ad e,λi hi=>?_,?_⟩
 .rw[show p.raw.P=p.P from rfl,h.len hi];exact h.cap i hi
 .omega
end
theorem G4(W H d n:Nat)(w:World)(t:1<=W)(x:W<=64)(h:1<=H)(j:H<=64)(f:1<=d)(d1:d<=16)(q:1<=n)(n1:n<=4):Calls prog 65 #[W,H,d,n] w λe w'=>e=.returned (.bool true)/\w=w':=by
 have y:=iI 1 W (by omega);have z:=iI W 64 (by omega);have D:=iI 1 H (by omega);have I:=iI H 64 (by omega);have J:=iI 1 d (by omega);have K:=iI d 16 (by omega);have L:=iI 1 n (by omega);have M:=iI n 4 (by omega);clear t x h j f d1 q n1;go_enter func65,ntmps65;go_wp2;go_ret;exact⟨rfl,rfl⟩
theorem vA{w:World}{p:gH}{B:Nat->Option Addr}{c:Nat->Nat}{G:List Nat}(cap:Nat)(h:gW w p g o B c G):Calls prog 33 #[gN p g o cap] w λe w'=>e=.returned (.bool true)/\gf [] w w':=by
 have⟨W,hW⟩:=zX p.W;have⟨H,hH⟩:=zX p.H;have⟨d,hd⟩:=zX p.d;have⟨n,hn⟩:=zX p.P.length;have⟨N,hN⟩:=zX (W*H);have eN:(W:Int)*(H:Int)=(N:Int):=by rw[hN];simp
 have f:=h.ok;have K:=G4 W H d n;have R:=λw'=>K w' (by rw[hW];exact f.w0) (by rw[hW];exact f.w1) (by rw[hH];exact f.h0) (by rw[hH];exact f.h1) (by rw[hd];exact f.d0) (by rw[hd];exact f.d1) (by rw[hn];exact f.n0) (by rw[hn];exact f.n1);have V:N<=4096:=by rw[hN,hW,hH];exact f.area
 have aw:n<=4:=by rw[hn];exact f.n1
 have M:1<=d:=by rw[hd];exact f.d0
 have O:d<=16:=by rw[hd];exact f.d1
 have I:∀w',gf [] w w'->∀i,i<n->∃b q,w'.cell? ⟨g,o+i,none⟩=some (.slice (some ⟨b,q,none⟩) N (c i))/\∀k,k<N->∃s:Int,w'.cell? ⟨b,q+k,none⟩=some (.int .i64 s)/\0<=s/\s<2^d:=by
  intro w' S i hi;have y:=h.Y S;rw[hn]at hi;obtain⟨b,q,e,hb,t⟩:=y.at_ hi;have x:=y.X i hi;rw[e,<-hW,<-hH,<-hN]at x;refine⟨b,q,x,λk hk'=>⟨_,t k (by rw[<-hW,<-hH,<-hN];exact hk'),?_⟩⟩;rw[hd];exact nB (y.ok.smp _ (by rw[zD,zF hi];exact zG hi)) k
 unfold gN;rw[<-hW,<-hH,<-hd,<-hn];have⟨w1,ad⟩:=zX (w.alloc (.cells #[W,H,d,.slice (some ⟨g,o,none⟩) n cap] 25));have J:=jD ad;have⟨bb,ae⟩:=zX w.heap.size;have D:=qd ad ae;have⟨b0,b1,b2,b3⟩:=jM D;simp at b0 b1 b2 b3;obtain⟨T,U⟩:=jl M O;have⟨aj,ai,HC,ag⟩:=gz ad ae I J;clear hW hH hd hn hN f K I ad ae D J h;go_enter func33,ntmps33;go_wp2_with fail;rw[<-aj.o,<-ai.o];refine gx (R _) ?_;go_wp2_with fail
 go_loopg [21] n (λj iv wr=>∃i:Nat,iv=.int .i64 i/\i+j=n/\w1=wr)
 .exact⟨0,rfl,by omega,rfl⟩
 obtain⟨i,rfl,Y,rfl⟩:=hrel;rcases gk with _|j
 .obtain rfl:i=n:=by omega
  go_wp2;go_ret;exact⟨rfl,ag.o⟩
 .have hi:i<n:=by omega
  obtain⟨b,q,x,t⟩:=HC.o _ ag.o i hi;have L:=gd t;have t2:((N:Int) != (N:Int))=false:=by simp
  clear t;go_wp2_with fail
  go_loopg [35] N (λz kv wr=>∃k:Nat,kv=.int .i64 k/\k+z=N/\w1=wr)
  .exact⟨0,rfl,by omega,rfl⟩
  obtain⟨k,rfl,Z,rfl⟩:=hrel;rcases gk with _|z
  .obtain rfl:k=N:=by omega
   go_wp2
   go_roundg j
   .exact⟨i+1,by go_num,by omega,rfl⟩
   .omega
  .have Q:k<N:=by omega
   obtain⟨s,X,ax,ay⟩:=L.o k Q;have t3:decide (s<0)=false:=zA (by omega);have t4:decide ((2:Int)^d<=s)=false:=zA (by omega);go_wp2
   go_roundg z
   .exact⟨k+1,by go_num,by omega,rfl⟩
   .omega
theorem G0(W H d n:Int)(w:World):Calls prog 65 #[W,H,d,n] w λe w'=>e=.returned (.bool (qI W H d n))/\w=w':=by
 unfold qI;go_enter func65,ntmps65;go_wp2
 all_goals
  go_ret;refine⟨?_,rfl⟩
  first|(simp[*];done)|(simp[*];omega)
theorem OS{w:World}{r:iH}{A:Option Addr}{B:Nat->Option Addr}{c:Nat->Nat}{G:List Nat}(cap:Nat)(h:jH w r A B c G)(t:r.isB=false):Calls prog 33 #[ip r A cap] w λe w'=>e=.returned (.bool false)/\gf [] w w':=by
 obtain⟨W,H,d,P⟩:=r;unfold ip;simp only at t⊢;have⟨n,hn⟩:=zX P.length;have z:=λw'=>G0 W H d (n:Int) w';have⟨w1,ah⟩:=zX (w.alloc (.cells #[W,H,d,.slice A n cap] 25));have L:=jD ah;have⟨bb,ak⟩:=zX w.heap.size;have ad:=qd ah ak;have⟨b0,b1,b2,b3⟩:=jM ad;simp at b0 b1 b2 b3;have⟨h1,ar,ap,af⟩:=gz (h.Y L) ah ak L;have aw:n<=9223372036854775807:=by rw[hn];exact h.many
 rw[<-hn];have⟨ay,HN⟩:=gy t hn;clear ah ak ad L h t hn;by_cases hnum:qI W H d n=true
 .rw[hnum]at z
  have ae:=(uz W H d n).1 hnum;obtain⟨⟨aJ,aD⟩,⟨aG,aB⟩,⟨aK,aL⟩,aO,aP⟩:=ae;obtain⟨f,rfl⟩:∃f:Nat,d=(f:Int):=⟨d.toNat,by omega⟩;obtain⟨aE,aF⟩:=jl (d:=f) (by omega) (by omega);obtain⟨N,I⟩:∃N:Int,N=W*H:=⟨_,rfl⟩;have eN:W*H=N:=I.symm;have aC:0<=N/\N<=4096:=by
   rw[I];exact⟨Int.mul_nonneg (by omega) (by omega),Int.mul_le_mul aD aB (by omega) (by omega)⟩
  obtain⟨aH,aI⟩:=aC;have ai:gh ((∀i,i<P.length->((P.getD i []).length:Int)=N/\gU f (P.getD i []))->False):=gd λhall=>by
   have:iH.isB ⟨W,H,(f:Int),P⟩=true:=by
    simp only[iH.isB,Bool.and_eq_true,all_eq_true,rG,decide_eq_true_eq];refine⟨by rw[<-HN.o];exact hnum,λl hl=>?_⟩;obtain⟨i,hi,rfl⟩:=List.mem_iff_getElem.1 hl
    have:=hall i hi
    rw[zD,zF hi]at this;rw[<-I]
    simpa using this
   rw[ay.o]at this;cases this
  clear I hnum;go_enter func33,ntmps33;go_wp2_with fail;rw[<-ar.o,<-ap.o];refine gx (z _) ?_;go_wp2_with fail
  go_loopg [21] n (λj iv wr=>∃i:Nat,iv=.int .i64 i/\i+j=n/\gh (∀q,q<i->((P.getD q []).length:Int)=N/\gU f (P.getD q []))/\w1=wr)
  .exact⟨0,rfl,by omega,gd (λq h=>by omega),rfl⟩
  obtain⟨i,rfl,aM,R,rfl⟩:=hrel;rcases gk with _|j
  .obtain rfl:i=n:=by omega
   exact(ai.o λq y=>R.o q (by rw[HN.o];exact y)).elim
  .have hi:i<n:=by omega
   have t1:decide (i<n)=true:=zB hi;have D:i<P.length:=(by rw[<-HN.o];exact hi);obtain⟨g,o,rfl,hg,U⟩:=h1.o.ex (by show 0<P.length;omega);have M:=U i D;have O:gu vi w1 (B i) (P.getD i []):=h1.o.cells i D;have⟨l,hl⟩:=zX (P.getD i []);have ao:l.length<=9223372036854775807:=(by rw[hl];exact h1.o.few D);simp only at M;rw[<-hl]at M O;have⟨HL,ax⟩:=gy hl O;have⟨m,hm⟩:=zX l.length;rw[<-hm]at M ao;have J:=gd hm;clear hl U D O hm;by_cases hlen:(m:Int)=N
   .have t2:((m:Int) != N)=false:=by simp[hlen]
    have az:gh (gU f l->∀q,q<i+1->((P.getD q []).length:Int)=N/\gU f (P.getD q [])):=gd λhs q y=>by
     by_cases e:q=i
     .subst e
      rw[<-HL.o];exact⟨by rw[<-J.o];exact hlen,hs⟩
     .exact R.o q (by omega)
    clear hlen;go_wp2_with fail
    go_loopg [35] m (λQ kv wr=>∃k:Nat,kv=.int .i64 k/\k+Q=m/\gh (∀q (h:q<l.length),q<k->0<=l[q]/\l[q]<2^f)/\w1=wr)
    .exact⟨0,rfl,by omega,gd (λq _ h=>by omega),rfl⟩
    obtain⟨k,rfl,aN,T,rfl⟩:=hrel;rcases gk with _|Q
    .obtain rfl:k=m:=by omega
     have Z:gh (gU f l):=gd λs hs=>by
      obtain⟨q,y,rfl⟩:=List.mem_iff_getElem.1 hs;exact T.o q y (by rw[J.o];exact y)
     go_wp2
     go_roundg j
     .exact⟨i+1,by go_num,by omega,gd (az.o Z.o),rfl⟩
     .omega
    .have X:k<m:=by omega
     have t3:decide (k<m)=true:=zB X;have V:k<l.length:=(by rw[<-J.o];exact X);obtain⟨gb,q,hB,K⟩:=ax.o.at_ V;have⟨x,hx⟩:=zX (l[k]);rw[<-hx]at K;have am:w1.cell? ⟨gb,q+k,none⟩=some (.int .i64 x):=K;have S:0<=x/\x<2^f->gh (∀q (h:q<l.length),q<k+1->0<=l[q]/\l[q]<2^f):=λhok=>gd λq h h2=>by
      by_cases e:q=k
      .subst e
       rw[<-hx];exact hok
      .exact T.o q h (by omega)
     have HX:=gd S;clear K hx V S;by_cases hok:0<=x/\x<2^f
     .have Y:decide (x<0)=false:=zA (by omega)
      have t5:decide ((2:Int)^f<=x)=false:=zA (by omega);have aA:=HX.o hok;clear hok;go_wp2
      go_roundg Q
      .exact⟨k+1,by go_num,by omega,aA,rfl⟩
      .omega
     .by_cases h2:x<0
      .have Y:decide (x<0)=true:=zB h2
       clear hok;go_wp2;go_ret;exact⟨rfl,af.o⟩
      .have Y:decide (x<0)=false:=zA h2
       have t5:decide ((2:Int)^f<=x)=true:=zB (by omega);clear hok h2;go_wp2;go_ret;exact⟨rfl,af.o⟩
   .have t2:((m:Int) != N)=true:=by simp[hlen]
    clear hlen;go_wp2;go_ret;exact⟨rfl,af.o⟩
 .rw[Bool.not_eq_true]at hnum
  rw[hnum]at z;go_enter func33,ntmps33;go_wp2_with fail;rw[<-ar.o,<-ap.o];refine gx (z _) ?_;go_wp2;go_ret;exact⟨rfl,af.o⟩
theorem FC{w:World}{r:iH}{A:Option Addr}{B:Nat->Option Addr}{c:Nat->Nat}{G:List Nat}(cap:Nat)(h:jH w r A B c G):Calls prog 33 #[ip r A cap] w λe w'=>e=.returned (.bool r.isB)/\gf [] w w':=by
 cases hb:r.isB with
 | true=>
  obtain⟨g,o,rfl,j⟩:=h.pic hb;have f:ip r (some ⟨g,o,none⟩) cap=gN r.pic g o cap:=by rw[<-uM,(iH.ok hb).2]
  rw[f];exact vA cap j
 | false=>exact OS cap h hb
theorem q6{w:World}{r s:iH}{A:Option Addr}{B:Nat->Option Addr}{c:Nat->Nat}{G:List Nat}(cap:Nat)(h:jH w r A B c G){z:Option Addr}(cap':Nat)(O:jH w s z B' c' G'):Calls prog 16 #[ip r A cap,ip s z cap'] w λe w'=>e=.returned (.bool (j9 r s))/\gf [] w w':=by
 have x:=λw' (hc:gf [] w w')=>FC cap (h.Y hc);have y:=λw' (hc:gf [] w w')=>FC cap' (O.Y hc);unfold j9;generalize r.isB=z1 at *;generalize s.isB=z2 at *;unfold ip at x y⊢;obtain⟨W,H,d,P⟩:=r;obtain⟨V,I,f,Q⟩:=s;simp only at x y⊢;have⟨n,hn⟩:=zX P.length;have⟨m,hm⟩:=zX Q.length;rw[<-hn]at x⊢;rw[<-hm]at y⊢;have⟨w1,ai⟩:=zX ((w.alloc (.cells #[W,H,d,.slice A n cap] 25)).alloc (.cells #[V,I,f,.slice z m cap'] 25));have K:=rT ai;have⟨bb,ak⟩:=zX w.heap.size;have L:=FV ai ak;have J:gn w1 (bb+1) 25 #[V,I,f,.slice z m cap']:=by rw[ai,ak];exact gn.new2 w _ _ _
 have⟨ar,al,aj,ac⟩:=gz ai ak L J;have⟨am,ap,aq⟩:=gS K x y;clear ai ak L J K h O x y hn hm;go_enter func16,ntmps16;go_wp2_with fail;rw[<-ar.o];refine(ap.o w1 am.o).mono ?_;rintro e R ⟨rfl,j⟩;have ad:=gd (am.o.tq j)
 cases z1 with
 | false=>
  clear j;go_wp2;go_ret;exact⟨rfl,ad.o⟩
 | true=>
  have t:=(ac.o.Z j (by simp)).X 0;have d1:=(ac.o.Z j (by simp)).X 1;have d2:=(ac.o.Z j (by simp)).X 2;have d3:=(ac.o.Z j (by simp)).X 3;simp at t d1 d2 d3;rw[al.o]at t d1 d2 d3;go_wp2_with fail;refine(aq.o R ad.o).mono ?_;rintro e S ⟨rfl,q⟩;have D:=gd (ad.o.tq q)
  cases z2 with
  | false=>
   clear j q t d1 d2 d3;go_wp2;go_ret;exact⟨rfl,D.o⟩
  | true=>
   have M:=((aj.o.Z j (by simp)).Z q (by simp)).X 0;have c1:=((aj.o.Z j (by simp)).Z q (by simp)).X 1;have c2:=((aj.o.Z j (by simp)).Z q (by simp)).X 2;have c3:=((aj.o.Z j (by simp)).Z q (by simp)).X 3;have t:=((ac.o.Z j (by simp)).Z q (by simp)).X 0;have d1:=((ac.o.Z j (by simp)).Z q (by simp)).X 1;have d2:=((ac.o.Z j (by simp)).Z q (by simp)).X 2;have d3:=((ac.o.Z j (by simp)).Z q (by simp)).X 3;simp at M c1 c2 c3 t d1 d2 d3;rw[al.o]at M c1 c2 c3 t d1 d2 d3;clear j q;go_wp2
   all_goals
    go_ret;refine⟨?_,D.o⟩
    first|(simp[*];done)|(simp[*];rw[Bool.eq_iff_iff];simp;omega)
theorem qo(c:Nat)(w:World)(f:1<=c)(h:c<=64):Calls prog 85 #[c] w λe w'=>e=.returned (.bool true)/\w=w':=by
 have j:=iI 1 c (by omega);have q:=iI c 64 (by omega);go_enter func85,ntmps85;go_wp2;go_ret;exact⟨rfl,rfl⟩
theorem pG(c:Nat)(w:World)(f:1<=c)(h:c<=16):Calls prog 60 #[c] w λe w'=>e=.returned (.bool true)/\w=w':=by
 have j:=iI 1 c (by omega);have q:=iI c 16 (by omega);go_enter func60,ntmps60;go_wp2;go_ret;exact⟨rfl,rfl⟩
theorem uE(v:Int)(d:Nat)(w:World)(f:1<=d)(h:d<=16):Calls prog 29 #[v,d] w λe w'=>e=.returned (.int .i64 (iw v d))/\w=w':=by
 obtain⟨x,y⟩:=jl f h;have j:=CI v (i:=d) (by omega);have t:=pG d w f h;have q:=gd j;clear j;go_enter func29,ntmps29;go_wp2_with fail;refine t.mono ?_;rintro e D ⟨rfl,rfl⟩;go_wp2;go_ret;exact⟨congrArg (λz=>Ending.returned (.int .i64 z)) q.o,rfl⟩
theorem q8(v:Int)(d:Nat)(w:World)(h:1<=d)(q:d<=16):Calls prog 101 #[v,d] w λe w'=>e=.returned (.int .i64 (ii v d))/\w=w':=by
 obtain⟨H,I⟩:=jl h q;have z:=pE h;have J:=jZ (d-1);have t:=uE v d w h q;have x:=pG d w h q;have y:=tg v d;have ad:=rt v d;have j:ii v d=if 2^(d-1)<=iw v d then iw v d-2^d else iw v d:=rfl;have⟨u,hu⟩:=zX (iw v d);rw[<-hu]at t y ad j;have f:=gd j;have L:(2:Int)^((d:Int)-1).toNat=2^(d-1):=by congr 1;omega
 have K:(2:Int)^(d-1)<=32768:=by omega
 clear j hu z;by_cases hs:2^(d-1)<=u
 .have D:decide ((2:Int)^(d-1)<=u)=true:=by simpa using hs
  rw[if_pos hs]at f;go_enter func101,ntmps101
  go_wp2_with(first|(go_at_call 29;refine gx t ?_)|(go_at_call 60;refine gx x ?_))
  go_ret;rw[f.o];exact⟨rfl,rfl⟩
 .have D:decide ((2:Int)^(d-1)<=u)=false:=by simpa using hs
  rw[if_neg hs]at f;go_enter func101,ntmps101
  go_wp2_with(first|(go_at_call 29;refine gx t ?_)|(go_at_call 60;refine gx x ?_))
  go_ret;rw[f.o];exact⟨rfl,rfl⟩
theorem yJ(l:List Int)(A:Option Addr)(cap W x y:Nat)(w:World)(K:1<=W)(L:W<=64)(hx:x<W)(hy:y<64)(S:y*W+x<=l.length)(R:gu vi w A l)(J:l.length<=1099511627776):Calls prog 214 #[.slice A l.length cap,W,x,y] w λe w'=>e=.returned (.tuple #[.int .i64 (ij l W x y).w,.int .i64 (ij l W x y).n,.int .i64 (ij l W x y).nw,.int .i64 (ij l W x y).ne])/\∃n,w'=w.drewN n:=by
 have j:=λw'=>qo W w' K L;have t3:=gL x 0 (by omega);have t4:decide (W<=x)=false:=zA (by omega);have t5:=gL y 0 (by omega);have t6:=kK 64 y (by omega);have⟨m,hm⟩:=zX l.length;have⟨yw,ap⟩:=zX (y*W);have⟨p,hp⟩:=zX (y*W+x);have aH:(y:Int)*(W:Int)=(yw:Int):=by rw[ap];simp
 have aK:(yw:Int)+(x:Int)=(p:Int):=by rw[hp,ap];simp
 have O:=λ(h:0<l.length)=>R.ex h;have Q:ij l W x y=if y=0 then(if x=0 then⟨0,0,0,0⟩else⟨l.getD (p-1) 0,l.getD (p-1) 0,l.getD (p-1) 0,l.getD (p-1) 0⟩)
   else⟨if 0<x then l.getD (p-1) 0 else l.getD (p-W) 0,l.getD (p-W) 0,if 0<x then l.getD (p-W-1) 0 else l.getD (p-W) 0,if x<W-1 then l.getD (p-W+1) 0 else l.getD (p-W) 0⟩:=by
  unfold ij;rw[<-hp]
 have H:y≠0->W<=y*W:=λh=>Ci h;rw[<-hp]at S;rw[<-ap]at H hp;rw[<-hm]at S J⊢;have aM:decide (m<p)=false:=zA (by omega);have⟨HD,HM,HC,aA⟩:=gz Q hm O H;have T:=gd hp;clear Q hm O ap hp R H;by_cases hy0:y=0
 .have t8:((y:Int)==0)=true:=by rw[beq_iff_eq];omega
  rw[if_pos hy0]at HD;by_cases hx0:x=0
  .have M:((x:Int)==0)=true:=by rw[beq_iff_eq];omega
   rw[if_pos hx0]at HD;clear hy0 hx0;go_enter func214,ntmps214
   go_wp2_with(go_at_call 85;refine gx (j _) ?_)
   refine bodyPost_ret (v:=.tuple #[(0:Int),(0:Int),(0:Int),(0:Int)]) (by simp[results,results214,go_sem]) rfl ⟨by rw[HD.o],0,rfl⟩
  .have M:((x:Int)==0)=false:=by rw[beq_eq_false_iff_ne];omega
   rw[if_neg hx0]at HD;have aJ:1<=p:=(by have:=T.o;omega);have⟨p1,ab⟩:=zX (p-1);have Z:(p:Int)-1=(p1:Int):=(by omega);rw[<-ab]at HD;have t:p1<m:=(by omega);obtain⟨b,o,rfl,_,f⟩:=HC.o (by rw[<-HM.o];omega);have hv:=gu.vi_getD f (m:=p1) (by rw[<-HM.o];exact t);have⟨v,ay⟩:=zX (l.getD p1 0);rw[<-ay]at hv HD;clear hy0 hx0 f ay ab;go_enter func214,ntmps214
   go_wp2_with(go_at_call 85;refine gx (j _) ?_)
   go_quiet (fail)
   go_wp2;refine bodyPost_ret (v:=.tuple #[v,v,v,v]) (by simp[results,results214,go_sem]) rfl ⟨by rw[HD.o],_,rfl⟩
 .have t8:((y:Int)==0)=false:=by rw[beq_eq_false_iff_ne];omega
  rw[if_neg hy0]at HD;have hW:=aA.o hy0;have⟨q,hq⟩:=zX (p-W);have aL:(p:Int)-(W:Int)=(q:Int):=by omega
  rw[<-hq]at HD;have U:q<m:=by omega
  obtain⟨b,o,rfl,_,f⟩:=HC.o (by rw[<-HM.o];omega);have V:=gu.vi_getD f (m:=q) (by rw[<-HM.o];exact U);have⟨vn,ad⟩:=zX (l.getD q 0);rw[<-ad]at V HD;have⟨q2,ao⟩:=zX (q+1);have aD:(q:Int)+1=(q2:Int):=by omega
  rw[<-ao]at HD;have⟨W1,am⟩:=zX (W-1);have aB:(W:Int)-1=(W1:Int):=by omega
  rw[<-am]at HD;by_cases hx0:0<x
  .have M:=i6 0 x (by omega)
   have Y:decide (0<x)=true:=zB hx0;rw[if_pos hx0,if_pos hx0]at HD;have⟨p1,ab⟩:=zX (p-1);have Z:(p:Int)-1=(p1:Int):=(by omega);have⟨q1,ah⟩:=zX (q-1);have aC:(q:Int)-1=(q1:Int):=(by omega);rw[<-ab,<-ah]at HD;have t:p1<m:=(by omega);have ar:q1<m:=(by omega);have X:=gu.vi_getD f (m:=p1) (by rw[<-HM.o];exact t);have au:=gu.vi_getD f (m:=q1) (by rw[<-HM.o];exact ar);have⟨vw,ak⟩:=zX (l.getD p1 0);have⟨az,ae⟩:=zX (l.getD q1 0);rw[<-ak]at X HD;rw[<-ae]at au HD;by_cases hx1:x<W1
   .have I:decide (x<W1)=true:=zB hx1
    rw[if_pos hx1]at HD;have z:q2<m:=(by omega);have D:=gu.vi_getD f (m:=q2) (by rw[<-HM.o];exact z);have⟨ax,aa⟩:=zX (l.getD q2 0);rw[<-aa]at D HD;clear hy0 hx0 f aa ad ak ae ab ah hq ao am;go_enter func214,ntmps214
    go_wp2_with(go_at_call 85;refine gx (j _) ?_)
    go_quiet (fail)
    go_wp2;refine bodyPost_ret (v:=.tuple #[vw,vn,az,ax]) (by simp[results,results214,go_sem]) rfl ⟨by rw[HD.o],_,rfl⟩
   .have I:decide (x<W1)=false:=zA hx1
    rw[if_neg hx1]at HD;clear hy0 hx0 f ad ak ae ab ah hq ao am;go_enter func214,ntmps214
    go_wp2_with(go_at_call 85;refine gx (j _) ?_)
    go_quiet (fail)
    go_wp2;refine bodyPost_ret (v:=.tuple #[vw,vn,az,vn]) (by simp[results,results214,go_sem]) rfl ⟨by rw[HD.o],_,rfl⟩
  .have M:=gL 0 x (by omega)
   have Y:decide (0<x)=false:=zA hx0;rw[if_neg hx0,if_neg hx0]at HD;by_cases hx1:x<W1
   .have I:decide (x<W1)=true:=zB hx1
    rw[if_pos hx1]at HD;have z:q2<m:=(by omega);have D:=gu.vi_getD f (m:=q2) (by rw[<-HM.o];exact z);have⟨ax,aa⟩:=zX (l.getD q2 0);rw[<-aa]at D HD;clear hy0 hx0 f aa ad hq ao am;go_enter func214,ntmps214
    go_wp2_with(go_at_call 85;refine gx (j _) ?_)
    refine bodyPost_ret (v:=.tuple #[vn,vn,vn,ax]) (by simp[results,results214,go_sem]) rfl ⟨by rw[HD.o],0,rfl⟩
   .have I:decide (x<W1)=false:=zA hx1
    rw[if_neg hx1]at HD;clear hy0 hx0 f ad hq ao am;go_enter func214,ntmps214
    go_wp2_with(go_at_call 85;refine gx (j _) ?_)
    refine bodyPost_ret (v:=.tuple #[vn,vn,vn,vn]) (by simp[results,results214,go_sem]) rfl ⟨by rw[HD.o],0,rfl⟩
theorem uU(x:Int)(w:World)(f:jB x):Calls prog 100 #[x] w λe w'=>e=.returned (.int .i64 (iA x 0))/\w=w':=by
  obtain⟨h,j⟩:=f;go_enter func100,ntmps100;go_wp2
  all_goals
    go_ret;refine⟨?_,rfl⟩
    first
      | (have e : iA x 0 = -x := by(unfold iA;split<;> omega)
         rw[e];rfl)
      | (have e : iA x 0 = x := by(unfold iA;split<;> omega)
         rw[e];rfl)
theorem Kn(a b:Int):iA (a-b) 0=iA a b:=by
 unfold iA;split<;>split<;>omega
def kT(bs:List Nat):List Nat:=bs++replicate ((8-bs.length%8)%8) 0
theorem rj(bs:List Nat):(kT bs).length=8*((bs.length+7) / 8):=by
 unfold kT;rw[zC,zV];omega
theorem LN(w:World)(b:Nat)(F bs:List Nat)(h:hJ w b F bs)(z:bs.length<549755813000):Calls prog 37 #[.pointer b] w λe w'=>e=.returned (.tuple #[])/\∃F',hJ w' b F' (kT bs)/\gB F F' w w':=by
 have H:=gd h;clear h;go_enter func37,ntmps37;go_wp2_with fail
 go_loopg [] ((8-bs.length%8)%8) (λj wr=>∃(i:Nat) (F':List Nat),i+j=(8-bs.length%8)%8/\gh (hJ wr b F' (bs++replicate i 0))/\gh (gB F F' w wr))
 .exact⟨0,F,by omega,gd (by simpa using H.o),gd (gB.refl _ _)⟩
 obtain⟨i,F',L,f,y⟩:=hrel;obtain⟨v,G,x,-,-⟩:=f.o.ex;have c1:=x.X 1;simp only[zC,zV]at c1;simp at c1;have⟨q,hq⟩:=zX (bs.length+i);have t:((bs.length:Int)+(i:Int))=(q:Int):=by omega
 rw[t]at c1;rcases gk with _|j
 .have K:(q:Int)%8=0:=by omega
  obtain rfl:i=(8-bs.length%8)%8:=by omega
  clear x hq t;go_wp2
  go_end0
  exact⟨rfl,F',f.o,y.o⟩
 .have⟨r,hr⟩:=zX (q%8)
  have K:(q:Int)%8=(r:Int):=by omega
  have M:((r:Int) != 0)=true:=by rw[bne_iff_ne];omega
  have I:=uR wr b F' _ 0 f.o (by omega) (by rw[zC,zV];omega);clear x hq t hr;go_wp2_with fail;refine I.mono ?_;rintro e O ⟨rfl,D,ad,J⟩;go_wp2_with fail
  go_roundg j
  .refine⟨i+1,D,by omega,gd ?_,gd (y.o.trans J)⟩
   rw[replicate_succ',<-zH];exact ad
  .omega
structure hO (w:World) (b:Nat) (F:List Nat) (bs:List Nat):Prop where
 ex:∃v G,gn w b 69 #[v]/\gE w 5 v G (bs.map b8)/\F=b::G
 bit:∀x∈bs,x<2
theorem hO.mem{w:World}{F:List Nat}(h:hO w b F bs):b∈F:=by
 obtain⟨_,_,_,_,rfl⟩:=h.ex;simp
theorem hO.lt{w:World}{F:List Nat}(h:hO w b F bs):∀x∈F,x<w.heap.size:=by
 obtain⟨_,_,f,j,rfl⟩:=h.ex;intro x e;rcases zJ.1 e with rfl|e
 .exact f.lt
 .exact j.lt x e
theorem hO.Z{w w':World}{F G:List Nat}(h:hO w b F bs)(e:gf G w w')(f:∀x∈F,x∉G):hO w' b F bs:=by
 obtain⟨v,K,j,q,rfl⟩:=h.ex;exact⟨⟨v,K,j.Z e (f b (by simp)),q.Z e λx hx=>f x (by simp[hx]),rfl⟩,h.bit⟩
theorem hO.Y{w w':World}{F:List Nat}(h:hO w b F bs)(e:gf [] w w'):hO w' b F bs:=h.Z e (by simp)
theorem hO.new(w:World):hO (w.alloc (.cells #[.slice none 0 0] 69)) w.heap.size [w.heap.size] []:=
 ⟨⟨_,[],gn.new _ _ _,gE.nil _ _,rfl⟩,by simp⟩
theorem hO.push{w j:World}{e c x:Nat}{G:List Nat}{o:Obj}(q:gn w b 69 #[v])(I:gE w 5 v G (bs.map b8))(f:∀y∈bs,y<2)(K:x<2)(J:gv j 5 (.slice e (bs.length+1) c) e (bs.map b8++[.int .u8 x]))(t:gB G [e] (w.alloc o) j):hO (j.setCell b (.slice e (bs.length+1) c)) b [b,e] (bs++[x])/\gB (b::G) [b,e] w (j.setCell b (.slice e (bs.length+1) c)):=by
 have z:=I.ne_ q (by decide);have H:e≠b:=by
  rintro rfl;rcases t.new e (by simp)with h|h
  .exact z h
  .have:=q.lt;simp at h;omega
 have D:=((q.alloc o).Z t.Z z).T 0 (.slice e (bs.length+1) c);have ad:=J.R (p:=⟨b,0,none⟩) H (.slice e (bs.length+1) c);refine⟨⟨⟨_,[e],by simpa using D,?_,rfl⟩,λy hy=>?_⟩,((((gB.refl (b::G) w).alloc o).trans (t.cons b)).setCell (by simp) _)⟩
 .have:=ad.S
  simpa[b8]using this
 .rcases zP.1 hy with h|h
  .exact f y h
  .rw[zU.1 h];exact K
theorem jh(w:World)(b:Nat)(F bs:List Nat)(v n:Nat)(h:hO w b F bs)(S:n<=63)(y:v<2^n)(K:bs.length<549755813888):Calls prog 42 #[.pointer b,.int .u64 v,n] w λe w'=>e=.returned (.int .i64 0)/\∃F',hO w' b F' (bs++gA v n)/\gB F F' w w':=by
 have X:v<18446744073709551616:=Nat.lt_of_lt_of_le y (Nat.le_trans (Nat.pow_le_pow_right (by decide) S) (by decide:2^63<=18446744073709551616));have t1:decide ((n:Int)<0)=false:=by simp
 have t2:decide ((64:Int)<n)=false:=by simp;omega
 have aw:decide ((n:Int)<64)=true:=by simp;omega
 have t3:(((v:Int) / 2^n) != 0)=false:=by
  have:(v:Int) / 2^n=((v / 2^n:Nat):Int):=by simp
  rw[this,div_eq_of_lt y];rfl
 clear y;go_enter func42,ntmps42;go_wp2_with fail
 go_loopg [7] n (λk i wr=>∃(F' f:List Nat),i=.int .i64 ((k:Int)-1)/\k<=n/\hO wr b F' f/\gh (bs++gA v n=f++gA v k)/\f.length+k<=bs.length+n/\gB F F' w wr)
 .exact⟨F,bs,rfl,zQ _,h,gd rfl,zQ _,gB.refl _ _⟩
 obtain⟨F',f,rfl,hk,t,z,av,I⟩:=hrel;rcases gk with _|k
 .have t4:decide ((0:Int)<=((0:Nat):Int)-1)=false:=by simp
  go_wp2;go_ret;refine⟨rfl,F',?_,I⟩;rw[z.o]
  simpa[gA]using t
 .have Q:(((k+1:Nat):Int)-1)=(k:Int):=by omega
  rw[Q];have⟨aa,ab⟩:=zX (v / 2^k%2);have W:bits BinOp.and IntKind.u64 ((v:Int) / 2^k) 1=(aa:Int):=by
   have e:(v:Int) / 2^k=((v / 2^k:Nat):Int):=(by simp);have au:v / 2^k<=v:=div_le_self _ _;rw[e,ab];exact AF (by omega)
  have U:aa<=1:=by omega
  have ad:gh (bs++gA v n=(f++[aa])++gA v k):=by
   refine gd ?_;rw[z.o,ab,gA,zH];rfl
  clear ab;obtain⟨vv,G,j,q,rfl⟩:=t.ex;have D:=t.bit;obtain⟨A,cap,rfl,Y,Z,-⟩:=q.oq;have H:=j.X 0;simp at H;have L:=gd D;clear D t
  go_wp2_with(at_builtin;refine jT rfl rfl ku rfl rfl (q.alloc _) (.int .u8 aa) rfl ?c1 ?c2 ?c3 ?c4 ?_)
  case c1=>simp[go_sem]
  case c2=>rfl
  case c3=>simp;omega
  case c4=>simp;omega
  intro R V w2 J x
  try rw[zE]at J
  try rw[zE]
  obtain⟨T,M⟩:=hO.push j q L.o (by omega) J x;have O:=((j.alloc (.cells #[.int .u8 aa] 5)).Z x.Z (q.ne_ j (by decide))).X 0;have d1:=((j.alloc (.cells #[.int .u8 aa] 5)).Z x.Z (q.ne_ j (by decide))).V 0;simp at O;clear H;go_wp2_with fail
  go_roundg k
  .exact⟨[b,R],f++[aa],rfl,by omega,T,ad,by simp;omega,I.trans M⟩
  .omega
theorem Ct(w:World)(b:Nat)(F bs:List Nat)(n:Nat)(h:hO w b F bs)(hn:n<=4096)(S:bs.length<549755813888):Calls prog 222 #[.pointer b,n] w λe w'=>e=.returned (.int .i64 0)/\∃F',hO w' b F' (bs++(replicate n 0++[1]))/\gB F F' w w':=by
 have t1:decide ((n:Int)<0)=false:=by simp
 have t2:decide ((4096:Int)<n)=false:=by simp;omega
 go_enter func222,ntmps222;go_wp2_with fail
 go_loopg [5] n (λk i wr=>∃(F' y:List Nat),i=.int .i64 ((n-k:Nat):Int)/\k<=n/\hO wr b F' y/\gh (y=bs++replicate (n-k) 0)/\y.length+k<=bs.length+n/\gB F F' w wr)
 .exact⟨F,bs,by simp,zQ _,h,gd (by simp),zQ _,gB.refl _ _⟩
 obtain⟨F',y,rfl,hk,t,H,Z,Q⟩:=hrel;rcases gk with _|k
 .have t4:decide (((n-0:Nat):Int)<(n:Int))=false:=by simp
  obtain⟨X,G,f,j,rfl⟩:=t.ex;have ad:=t.bit;obtain⟨A,cap,rfl,U,V,-⟩:=j.oq;have z:=f.X 0;have W:=f.V 0;simp at z;have J:=gd ad;clear ad t
  go_wp2_with(at_builtin;refine jT rfl rfl ku rfl rfl (j.alloc _) (.int .u8 (1:Nat)) rfl ?c1 ?c2 ?c3 ?c4 ?_)
  case c1=>simp[go_sem]
  case c2=>rfl
  case c3=>simp;omega
  case c4=>simp;omega
  intro M T Y D q
  try rw[zE]at D
  try rw[zE]
  obtain⟨I,K⟩:=hO.push (x:=1) f j J.o (by omega) D q;have L:=((f.alloc (.cells #[.int .u8 (1:Nat)] 5)).Z q.Z (j.ne_ f (by decide))).X 0;have d1:=((f.alloc (.cells #[.int .u8 (1:Nat)] 5)).Z q.Z (j.ne_ f (by decide))).V 0;simp at L;clear z W;go_wp2_with fail;go_ret;refine⟨rfl,[b,M],?_,Q.trans K⟩;rw[H.o]at I
  simpa[H.o]using I
 .have⟨m,hm⟩:=zX (n-(k+1))
  rw[<-hm]at H⊢;have ap:m<n:=by omega
  have R:n-k=m+1:=by omega
  have O:=gd R;clear hm R;obtain⟨X,G,f,j,rfl⟩:=t.ex;have ad:=t.bit;obtain⟨A,cap,rfl,U,V,-⟩:=j.oq;have z:=f.X 0;simp at z;have J:=gd ad;clear ad t
  go_wp2_with(at_builtin;refine jT rfl rfl ku rfl rfl (j.alloc _) (.int .u8 (0:Nat)) rfl ?c1 ?c2 ?c3 ?c4 ?_)
  case c1=>simp[go_sem]
  case c2=>rfl
  case c3=>simp;omega
  case c4=>simp;omega
  intro M T Y D q
  try rw[zE]at D
  try rw[zE]
  obtain⟨I,K⟩:=hO.push (x:=0) f j J.o (by omega) D q;have L:=((f.alloc (.cells #[.int .u8 (0:Nat)] 5)).Z q.Z (j.ne_ f (by decide))).X 0;have d1:=((f.alloc (.cells #[.int .u8 (0:Nat)] 5)).Z q.Z (j.ne_ f (by decide))).V 0;simp at L;clear z;go_wp2_with fail
  go_roundg k
  .refine⟨[b,M],y++[0],?_,by omega,I,?_,by simp;omega,Q.trans K⟩
   .rw[O.o];go_num
   .refine gd ?_
    rw[H.o,O.o,replicate_succ',zH]
  .omega
theorem JL(w:World)(b:Nat)(F bs:List Nat)(h:hO w b F bs)(O:bs.length<274877906944):Calls prog 46 #[.pointer b] w λe w'=>e=.returned (.tuple #[])/\∃F',hO w' b F' (kT bs)/\gB F F' w w':=by
 have⟨n,hn⟩:=zX ((8-bs.length%8)%8);have L:kT bs=bs++replicate n 0:=by rw[hn];rfl
 have K:(bs.length+n)%8=0/\n<=7:=by omega
 rw[L];have z:=gd K;clear hn L K;go_enter func46,ntmps46;go_wp2_with fail
 go_loopg [] n (λk wr=>∃(F' f:List Nat),k<=n/\hO wr b F' f/\gh (f=bs++replicate (n-k) 0)/\f.length+k=bs.length+n/\gB F F' w wr)
 .exact⟨F,bs,zQ _,h,gd (by simp),rfl,gB.refl _ _⟩
 obtain⟨F',f,hk,t,H,D,J⟩:=hrel;rcases gk with _|k
 .have V:f.length%8=0:=by have:=z.o;omega
  have Y:(f.length:Int)%8=0:=by omega
  clear D;obtain⟨vv,G,j,q,rfl⟩:=t.ex;obtain⟨A,cap,rfl,S,T,-⟩:=q.oq;have y:=j.X 0;simp at y;clear V;go_wp2
  go_end0
  refine⟨rfl,_,?_,J⟩
  have:=H.o
  rw[Nat.sub_zero]at this;rw[<-this];exact t
 .have⟨r,hr⟩:=zX (f.length%8)
  have W:r≠0:=by have:=z.o;omega
  have Y:(f.length:Int)%8=(r:Int):=by omega
  have t1:((r:Int) != 0)=true:=by rw[bne_iff_ne];omega
  have R:=gd D;have au:f.length<=274877906952:=by have:=z.o;omega
  clear hr W D;obtain⟨vv,G,j,q,rfl⟩:=t.ex;have I:=t.bit;obtain⟨A,cap,rfl,S,T,-⟩:=q.oq;have y:=j.X 0;simp at y;have Q:=gd I;clear I t
  go_wp2_with(at_builtin;refine jT rfl rfl ku rfl rfl (q.alloc _) (.int .u8 (0:Nat)) rfl ?c1 ?c2 ?c3 ?c4 ?_)
  case c1=>simp[go_sem]
  case c2=>rfl
  case c3=>simp;omega
  case c4=>simp;omega
  intro Z am w2 M ad
  try rw[zE]at M
  try rw[zE]
  obtain⟨hq,U⟩:=hO.push (x:=0) j q Q.o (by omega) M ad;have X:=((j.alloc (.cells #[.int .u8 (0:Nat)] 5)).Z ad.Z (q.ne_ j (by decide))).X 0;have d1:=((j.alloc (.cells #[.int .u8 (0:Nat)] 5)).Z ad.Z (q.ne_ j (by decide))).V 0;simp at X;clear y;go_wp2_with fail
  go_roundg k
  .refine⟨[b,Z],f++[0],by omega,hq,?_,by have:=R.o;simp;omega,J.trans U⟩
   refine gd ?_;rw[H.o,show n-k=n-(k+1)+1 by omega,replicate_succ',zH]
  .omega
theorem Ls(w:World)(b:Nat)(F bs:List Nat)(h:hO w b F bs):Calls prog 171 #[.pointer b] w λe w'=>e=.returned bs.length/\w=w':=by
 obtain⟨v,G,f,j,rfl⟩:=h.ex;obtain⟨A,cap,rfl,t,x,-⟩:=j.oq;have q:=f.X 0;simp at q;clear f j h;go_enter func171,ntmps171;go_wp2;go_ret;exact⟨rfl,rfl⟩
def nI(bs:List Nat)(i:Nat):List Nat:=iE (bs.take i)++replicate ((bs.length+7) / 8-(i+7) / 8) 0
theorem Jm(h:i<=bs.length):(nI bs i).length=(bs.length+7) / 8:=by
 unfold nI;rw[zC,mL,zI,zV];omega
theorem Jl(bs:List Nat):nI bs bs.length=iE bs:=by simp[nI]
theorem Ii(D:∀x∈bs,x<2)(h:i<bs.length):∃q,(nI bs i)[i / 8]?=some q/\q<256/\q ||| (bs[i]*2^(7-i%8))=q+bs[i]*2^(7-i%8)/\nI bs (i+1)=(nI bs i).set (i / 8) (q+bs[i]*2^(7-i%8)):=by
 have j:(bs.take i).length=i:=by rw[zI];omega
 have ad:bs.take (i+1)=bs.take i++[bs[i]]:=take_succ_eq_append_getElem h;have y:bs[i]<2:=D _ (zG h);have t:=mL (bs.take i);rw[j]at t;unfold nI;rw[ad];by_cases h8:i%8=0
 .obtain⟨z,H⟩:∃z,(bs.length+7) / 8-(i+7) / 8=z+1:=⟨(bs.length+7) / 8-(i+7) / 8-1,by omega⟩
  have I:(bs.length+7) / 8-(i+1+7) / 8=z:=by omega
  have f:i / 8=(iE (bs.take i)).length:=by rw[t];omega
  refine⟨0,?_,by decide,by simp,?_⟩
  .rw[H,f,zS (zQ _),Nat.sub_self]
   rfl
  .rw[Cn (by rw[j];exact h8),H,I,f,set_append_right _ _ (zQ _),Nat.sub_self,zH,h8,Nat.zero_add]
   rfl
 .have f:i / 8<(iE (bs.take i)).length:=by rw[t];omega
  have e:=De (bs:=bs.take i) (b:=bs[i]) (by rw[j];exact h8);rw[j]at e;refine⟨j4 (bs.take i) (i / 8),?_,xS (λx y=>D x (mem_of_mem_take y)) _,FK (bs:=bs.take i) (r:=i%8) (by rw[j];omega) (by omega) y,?_⟩
  .rw[getElem?_append_left f]
   unfold iE;rw[zW,getElem?_range (by rw[t]at f;rw[j];exact f)];rfl
  .rw[e,List.set_append_left _ _ f,show(bs.length+7) / 8-(i+1+7) / 8=(bs.length+7) / 8-(i+7) / 8 by omega]
theorem JM(w:World)(b:Nat)(F bs:List Nat)(h:hO w b F bs)(y:bs.length<549755813888):Calls prog 48 #[.pointer b] w λe w'=>∃v G,e=.returned v/\gE w' 5 v G ((iE bs).map b8)/\gf [] w w'/\∀x∈G,w.heap.size<=x:=by
 have Y:=h.lt;obtain⟨v,G,O,W,rfl⟩:=h.ex;obtain⟨A,cap,rfl,X,aH,ab⟩:=W.oq;have⟨n,hn⟩:=zX bs.length;have⟨N,hN⟩:=zX ((n+7) / 8);have e1:((n:Int)+7) / 8=(N:Int):=by omega
 have aJ:=lp (P:=prog) ku rfl .i64 .i64 N (by omega) (by omega);have R:=O.X 0;simp at R;have S:=λi (hi:i<bs.length)=>Ii (i:=i) h.bit hi;rw[<-hn]at R y X;have aG:N<=137438953472:=by omega
 have⟨ax,HN,ah,HB⟩:=gz S hn hN O;have ar:=gd h.bit;clear h O W Y S hn hN;go_enter func48,ntmps48;go_wp2_with fail;have⟨g3,ak⟩:=zX w.heap.size;rw[<-ak];have H:=gd ak;have ay:gf [] w (w.alloc (.cells (replicate N (Value.int .u8 0)).toArray 5)):=(zR [] w).alloc _;clear ak
 go_loopg [4] n (λj v4 wr=>∃i:Nat,v4=.int .i64 i/\i+j=n/\gv wr 5 (.slice g3 N N) g3 ((nI bs i).map b8)/\gf [] w wr)
 .refine⟨0,rfl,by omega,?_,ay⟩
  have:=gv.made w 5 (replicate N (Value.int .u8 0)) (by simp[maxLen];omega)
  rw[zV,<-H.o]at this;have e:(nI bs 0).map b8=replicate N (Value.int .u8 0):=by
   unfold nI;rw[take_zero,zM,map_replicate,ah.o,HN.o];have U:(bs.length+7) / 8-(0+7) / 8=(bs.length+7) / 8:=(by omega);rw[U];simp[iE];right;rfl
  rw[e];exact this
 obtain⟨i,rfl,aI,f,ad⟩:=hrel;have az:wr.cell? b=some (.slice A n cap):=by
  have:=(HB.o.Z ad (by simp)).X 0
  simp at this;rw[this,HN.o]
 rcases gk with _|j
 .obtain rfl:i=n:=by omega
  have t1:decide (i<i)=false:=by simp
  go_wp2;go_ret;refine⟨_,[g3],rfl,?_,ad,λx hx=>by have:=H.o;simp at hx;omega⟩
  have:=f.S
  rw[HN.o,Jl]at this;exact this
 .have hi:i<n:=by omega
  have z:i<bs.length:=by rw[<-HN.o];exact hi
  obtain⟨q,L,Z,D,t⟩:=ax.o i z;have aF:=ar.o _ (zG z);obtain⟨g,o,rfl,J⟩:=(ab.Y ad).at_ z;have⟨x,hx⟩:=zX (bs[i]);rw[<-hx]at D t aF J;have⟨I,hI⟩:=zX (i / 8);have⟨r,hr⟩:=zX (i%8);have U:(i:Int) / 8=(I:Int):=by omega
  have V:(i:Int)%8=(r:Int):=by omega
  have Q:I<N:=by have:=ah.o;omega
  rw[<-hI]at L t;rw[<-hr]at D t;have aB:wr.cell? ⟨g,o+i,none⟩=some (.int .u8 x):=J;have K:(nI bs i).length=N:=by rw[Jm (by omega),ah.o,HN.o]
  have aL:wr.cell? ⟨g3,I,none⟩=some (.int .u8 q):=by
   obtain⟨_,_,_,_,M,_⟩:=f.open_;rw[M I (by rw[zE,K];exact Q),zW,L];rfl
  have aM:wr.frozen? ⟨g3,I,none⟩=false:=by
   obtain⟨_,_,_,_,_,M⟩:=f.open_;exact M I
  have⟨av,aw,au,ai⟩:=gz D t K f;clear L D t J hx hI hr K f z;go_wp2_with fail;refine jE 22 (by kernel_rfl) (by kernel_rfl) ?_;simp only[take_succ_cons,take_zero,drop_succ_cons,drop_zero]
  repeat(go_big_quiet_step (fail))
  refine wpQuiet_nil ?_;intro _ aE;obtain⟨nq,rfl⟩:=aE;have aK:2^(7-r)<=128:=Nat.pow_le_pow_right (n:=2) (j:=7) (by decide) (by omega);have T:x*2^(7-r)<256:=by
   have:x=0\/x=1:=by omega
   rcases this with rfl|rfl<;>omega
  have hv:bits .or .u8 (q:Int) ((x:Int)*2^(7-r)%256)=((q+x*2^(7-r):Nat):Int):=by
   have V:((x:Int)*2^(7-r)%256)=((x*2^(7-r):Nat):Int):=by
    rw[Int.natCast_mul,Int.natCast_pow];refine Int.emod_eq_of_lt ?_ ?_
    .exact Int.mul_nonneg (by omega) (Int.le_of_lt (jZ _))
    .exact_mod_cast T
   rw[V,zo Z T,av.o]
  go_wp2_with fail
  try rw[hv]
  go_roundg j
  .refine⟨i+1,by go_num,by omega,?_,(ad.drewN nq).setCell (.inr (by have:=H.o;simp;omega)) _⟩
   have h1:=(ai.o.drewN nq).T (i:=I) (by rw[zE,au.o];exact Q) (.int .u8 ((q+x*2^(7-r):Nat):Int));rw[aw.o,map_set];exact h1
  .omega
theorem uC(x:Int)(w:World)(h:ib x):Calls prog 216 #[x] w λe w'=>e=.returned (.bool true)/\w=w':=by
 obtain⟨f,j⟩:=h;go_enter func216,ntmps216;go_wp2;go_ret;exact⟨rfl,rfl⟩
theorem uk(k:Nat)(w:World)(h:k<=25):Calls prog 221 #[k] w λe w'=>e=.returned (.bool true)/\w=w':=by
 have f:decide ((k:Int)<=(25:Int))=true:=by simp;omega
 go_enter func221,ntmps221;go_wp2;go_ret;exact⟨rfl,rfl⟩
theorem Nq(h:m<18446744073709551616):m ^^^ 18446744073709551615=18446744073709551615-m:=by
 have e:(BitVec.ofNat 64 m ^^^ BitVec.allOnes 64).toNat=(~~~(BitVec.ofNat 64 m)).toNat:=by rw[BitVec.xor_allOnes]
 rw[BitVec.toNat_xor,BitVec.toNat_not,BitVec.toNat_ofNat,BitVec.toNat_allOnes,mod_eq_of_lt (by simpa using h)]at e
 simpa using e
theorem Oi(h:m<18446744073709551616):bits .xor .u64 IntKind.u64.max (m:Int)=((18446744073709551615-m:Nat):Int):=by
 have e:=u64_xor_nat 18446744073709551615 m (by decide) h;rw[Nat.xor_comm,Nq h]at e;exact e
theorem N3(x:Int)(w:World)(h:ib x):Calls prog 235 #[x] w λe w'=>e=.returned (.int .u64 (jt x))/\w=w':=by
 obtain⟨I,J⟩:=h;by_cases hx:0<=x
 .have D:decide (x<(0:Int))=false:=by simp;omega
  have f:((jt x:Nat):Int)=x*2:=by unfold jt;rw[if_pos hx];omega
  have j:IntKind.u64.wrap x=x:=by rw[IntKind.wrap_u64];omega
  have t:IntKind.u64.wrap (x*2)=x*2:=by rw[IntKind.wrap_u64];omega
  rw[f];clear f;go_enter func235,ntmps235;go_wp2;go_ret;exact⟨rfl,rfl⟩
 .obtain⟨m,y⟩:∃m:Nat,(m:Int)=x+18446744073709551616:=⟨(x+18446744073709551616).toNat,by omega⟩
  obtain⟨q,z⟩:∃q:Nat,(q:Int)=2*x+18446744073709551616:=⟨(2*x+18446744073709551616).toNat,by omega⟩;have D:decide (x<(0:Int))=true:=by simp;omega
  have j:IntKind.u64.wrap x=(m:Int):=by rw[IntKind.wrap_u64];omega
  have t:IntKind.u64.wrap ((m:Int)*2)=(q:Int):=by rw[IntKind.wrap_u64];omega
  have H:=Oi (m:=q) (by omega);have f:((jt x:Nat):Int)=((18446744073709551615-q:Nat):Int):=by unfold jt;rw[if_neg hx];omega
  rw[f];clear f y z hx;go_enter func235,ntmps235;go_wp2;go_ret;exact⟨rfl,rfl⟩
theorem yh(x:Int)(w:World)(h:ib x):Calls prog 165 #[x] w λe w'=>e=.returned (.int .u64 (jt x))/\w=w':=by
 have f:=uC x w h;have j:=N3 x w h;clear h;go_enter func165,ntmps165
 go_wp2_with(first|(go_at_call 216;refine gx f ?_)|(go_at_call 235;refine gx j ?_))
 go_ret;exact⟨rfl,rfl⟩
theorem Lp(k:Nat)(x:Int)(w:World)(y:k<=25)(h:ib x):Calls prog 285 #[k,x] w λe w'=>e=.returned (.int .i64 (mV k x))/\w=w':=by
 have D:=sW h;have⟨u,ac⟩:=zX (jt x);have f:=yh x w h;rw[<-ac]at D f;have z:u / 2^k<=u:=div_le_self _ _;have⟨q,aa⟩:=zX (u / 2^k);have I:(u:Int) / 2^k=(q:Int):=by rw[aa];simp
 rw[<-aa]at z;have t:mV k x=if q<32 then q+1+k else 65:=by unfold mV;rw[<-ac,<-aa]
 have j:=gd t;clear t ac aa;by_cases hs:q<32
 .have H:decide ((q:Int)<32)=true:=by simp;omega
  go_enter func285,ntmps285
  go_wp2_with(first|(go_at_call 221;refine gx (uk _ _ y) ?_)|(go_at_call 216;refine gx (uC _ _ h) ?_)|(go_at_call 165;refine gx f ?_))
  go_ret;rw[j.o,if_pos hs];refine⟨?_,rfl⟩
  first|rfl|(go_num)
 .have H:decide ((q:Int)<32)=false:=by simp;omega
  go_enter func285,ntmps285
  go_wp2_with(first|(go_at_call 221;refine gx (uk _ _ y) ?_)|(go_at_call 216;refine gx (uC _ _ h) ?_)|(go_at_call 165;refine gx f ?_))
  go_ret;rw[j.o,if_neg hs];exact⟨rfl,rfl⟩
theorem yK(k:Nat)(l:List Int)(A:Option Addr)(cap:Nat)(w:World)(y:k<=25)(I:∀x∈l,ib x)(S:gu vi w A l)(T:l.length<=1099511627776):Calls prog 218 #[k,.slice A l.length cap] w λe w'=>e=.returned (.int .i64 (iR k l))/\w=w':=by
 have M:=gd I;clear I;have⟨n,hn⟩:=zX l.length;rw[<-hn]at T⊢;have z:=gd hn;clear hn;go_enter func218,ntmps218;go_wp2_with fail
 go_loopg [5,6] n (λj s i wr=>j<=n/\i=.int .i64 ((n-j:Nat):Int)/\s=.int .i64 ((iR k (l.take (n-j)):Nat):Int)/\w=wr)
 .exact⟨zQ _,by simp,by simp[iR],rfl⟩
 obtain⟨V,rfl,rfl,rfl⟩:=hrel;rcases gk with _|j
 .have W:decide (((n-0:Nat):Int)<(n:Int))=false:=by simp
  have e:l.take n=l:=by rw[z.o,zN]
  rw[Nat.sub_zero,e];go_wp2;go_ret;exact⟨rfl,rfl⟩
 .have⟨m,ai⟩:=zX (n-(j+1))
  rw[<-ai];have Q:m<n:=by omega
  have H:n-j=m+1:=by omega
  have K:=gd H;clear ai H;have t:m<l.length:=by rw[<-z.o];exact Q
  obtain⟨b,o,rfl,h⟩:=S.at_ t;have f:=Dt k (l.take m) l[m];rw[<-jd l t]at f;have q:=zf k (l.take m) y;rw[zI]at q;have⟨x,hx⟩:=zX (l[m]);rw[<-hx]at h f;have ad:w.cell? ⟨b,o+m,none⟩=some (.int .i64 x):=h;have R:ib x:=by rw[hx];exact M.o _ (zG _)
  have⟨s,hs⟩:=zX (iR k (l.take m));rw[<-hs]at f q⊢;have O:=mO k x y;have L:=gd f;have U:s<=65*n:=by omega
  have D:=Lp k x w y R;have⟨c,ac⟩:=zX (mV k x);rw[<-ac]at D O;have J:=gd ac;clear f h hx hs q ac t
  go_wp2_with(go_at_call 285;refine gx D ?_)
  go_roundg j
  .rw[K.o,L.o,<-J.o]
   exact⟨by omega,by go_num,by go_num,rfl⟩
  .omega
theorem yg(l:List Int)(A:Option Addr)(cap:Nat)(w:World)(M:∀x∈l,ib x)(L:gu vi w A l)(O:l.length<=1099511627776):Calls prog 157 #[.slice A l.length cap] w λe w'=>e=.returned (.int .i64 (jS l))/\w=w':=by
 have D:=λk (hk:k<=25)=>yK k l A cap w hk M L O;have z:=gd D;clear D M L;go_enter func157,ntmps157;go_wp2_with fail
 go_loopg [3,4] 25 (λj b i wr=>j<=25/\b=.int .i64 (ls l (25-j))/\i=.int .i64 ((26-j:Nat):Int)/\w=wr)
 .exact⟨zQ _,rfl,rfl,rfl⟩
 obtain⟨T,rfl,rfl,rfl⟩:=hrel;rcases gk with _|j
 .have U:decide (((26-0:Nat):Int)<=(25:Int))=false:=by simp
  go_wp2;go_ret;exact⟨rfl,rfl⟩
 .have⟨m,aj⟩:=zX (25-(j+1))
  rw[<-aj];have S:m<25:=by omega
  have I:25-j=m+1:=by omega
  have J:26-(j+1)=m+1:=by omega
  have K:26-j=m+2:=by omega
  rw[J];have⟨HM,ah⟩:=gy I K;have y:ls l (m+1)=if iR (m+1) l<iR (ls l m) l then m+1 else ls l m:=rfl;have ad:=vW l m;have h:=z.o (m+1) (by omega);have f:=z.o (ls l m) (by omega);have⟨s,hs⟩:=zX (iR (m+1) l);have⟨b,hb⟩:=zX (ls l m);rw[<-hb]at f⊢;have⟨t,ht⟩:=zX (iR b l);rw[<-hs]at h;rw[<-ht]at f;rw[<-hb,<-hs,<-ht]at y;have H:=gd y;clear y hs hb ht aj I J K ad;have R:(((m+1:Nat):Int))=(m:Int)+1:=by omega
  by_cases hlt:s<t
  .have Q:decide (s<t)=true:=zB hlt
   have q:gh (ls l (m+1)=m+1):=gd (by rw[H.o,if_pos hlt]);clear hlt;go_wp2_with fail;refine gx h ?_;go_wp2_with fail;refine gx f ?_;go_wp2_with fail
   go_roundg j
   .rw[HM.o,ah.o,q.o]
    exact⟨by omega,by go_num,by go_num,rfl⟩
   .omega
  .have Q:decide (s<t)=false:=zA hlt
   have q:gh (ls l (m+1)=b):=gd (by rw[H.o,if_neg hlt]);clear hlt;go_wp2_with fail;refine gx h ?_;go_wp2_with fail;refine gx f ?_;go_wp2_with fail
   go_roundg j
   .rw[HM.o,ah.o,q.o]
    exact⟨by omega,rfl,by go_num,rfl⟩
   .omega
theorem xj(l:List Int)(A:Option Addr)(cap:Nat)(w:World)(t:∀x∈l,ib x)(I:gu vi w A l)(J:l.length<=1099511627776):Calls prog 143 #[.slice A l.length cap] w λe w'=>e=.returned (.bool true)/\w=w':=by
 have D:=gd t;clear t;have⟨n,hn⟩:=zX l.length;rw[<-hn]at J⊢;have z:=gd hn;clear hn;go_enter func143,ntmps143;go_wp2_with fail
 go_loopg [3] n (λj i wr=>j<=n/\i=.int .i64 ((n-j:Nat):Int)/\w=wr)
 .exact⟨zQ _,by simp,rfl⟩
 obtain⟨L,rfl,rfl⟩:=hrel;rcases gk with _|j
 .have M:decide (((n-0:Nat):Int)<(n:Int))=false:=by simp
  rw[Nat.sub_zero];go_wp2;go_ret;exact⟨rfl,rfl⟩
 .have⟨m,ac⟩:=zX (n-(j+1))
  rw[<-ac];have H:m<n:=by omega
  have ad:n-j=m+1:=by omega
  have y:=gd ad;clear ac ad;have h:m<l.length:=by rw[<-z.o];exact H
  obtain⟨g,o,rfl,f⟩:=I.at_ h;have q:=uC l[m] w (D.o _ (zG _));have⟨x,hx⟩:=zX (l[m]);rw[<-hx]at f q;have K:w.cell? ⟨g,o+m,none⟩=some (.int .i64 x):=f;clear f hx h
  go_wp2_with(go_at_call 216;refine gx q ?_)
  go_roundg j
  .rw[y.o]
   exact⟨by omega,by go_num,rfl⟩
  .omega
theorem ze(m:Nat)(w:World)(f:m<=30):Calls prog 286 #[.int .i64 ((m:Int)+1)] w λe w'=>e=.returned (.int .i64 (-2^m))/\w=w':=by
 have q:decide ((m:Int)+1<1)=false:=by simp;omega
 have t:decide ((31:Int)<(m:Int)+1)=false:=by simp;omega
 have j:(2:Int)^m<=1073741824:=pz (n:=30) f;have h:=jZ m;go_enter func286,ntmps286;go_wp2;go_ret;refine⟨?_,rfl⟩
 first|rfl|(go_num)
theorem yI(m:Nat)(w:World)(f:m<=30):Calls prog 287 #[.int .i64 ((m:Int)+1)] w λe w'=>e=.returned (.int .i64 (2^m-1))/\w=w':=by
 have q:decide ((m:Int)+1<1)=false:=by simp;omega
 have t:decide ((31:Int)<(m:Int)+1)=false:=by simp;omega
 have j:(2:Int)^m<=1073741824:=pz (n:=30) f;have h:=jZ m;go_enter func287,ntmps287;go_wp2;go_ret;refine⟨?_,rfl⟩
 first|rfl|(go_num)
theorem MU(x:Int)(n:Nat)(w:World)(y:n<=31)(z : -4611686018427387904<=x)(D:x<=4611686018427387904):Calls prog 220 #[x,n] w λe w'=>e=.returned (.bool (mc x n))/\w=w':=by
 rcases n with _|m
 .have h:mc x 0=false:=by simp[mc]
  rw[h];go_enter func220,ntmps220;go_wp2;go_ret;exact⟨rfl,rfl⟩
 .have f:m<=30:=by omega
  have t:((m+1:Nat):Int)=(m:Int)+1:=by omega
  rw[t];have H:decide ((1:Int)<=(m:Int)+1)=true:=by simp;omega
  have I:decide ((m:Int)+1<=31)=true:=by simp;omega
  have h:mc x (m+1)=(decide (-2^m<=x)&&decide (x<=2^m-1)):=by
   unfold mc;simp[y]
  rw[h];clear h;by_cases h1 : -2^m<=x
  .have j:decide ((-2^m:Int)<=x)=true:=by simpa using h1
   by_cases h2:x<=2^m-1
   .have q:decide (x<=(2^m-1:Int))=true:=by simpa using h2
    rw[j,q];go_enter func220,ntmps220
    go_wp2_with(first|(go_at_call 286;refine gx (ze m _ f) ?_)|(go_at_call 287;refine gx (yI m _ f) ?_))
    go_ret;exact⟨rfl,rfl⟩
   .have q:decide (x<=(2^m-1:Int))=false:=by simpa using h2
    rw[j,q];go_enter func220,ntmps220
    go_wp2_with(first|(go_at_call 286;refine gx (ze m _ f) ?_)|(go_at_call 287;refine gx (yI m _ f) ?_))
    go_ret;exact⟨rfl,rfl⟩
  .have j:decide ((-2^m:Int)<=x)=false:=by simpa using h1
   rw[j];go_enter func220,ntmps220
   go_wp2_with(first|(go_at_call 286;refine gx (ze m _ f) ?_)|(go_at_call 287;refine gx (yI m _ f) ?_))
   go_ret;exact⟨rfl,rfl⟩
theorem Dq(l:List Int)(A:Option Addr)(cap:Nat)(w:World)(R:∀x∈l,ib x)(hc:gu vi w A l)(hl:l.length<=1099511627776):Calls prog 147 #[.slice A l.length cap] w λe w'=>e=.returned (.int .i64 (jV l))/\w=w':=by
 have M:=gd R;clear R;have⟨n,hn⟩:=zX l.length;rw[<-hn]at hl⊢;have L:=gd hn;clear hn;go_enter func147,ntmps147;go_wp2_with fail
 go_loopg [3,4] n (λj s i wr=>j<=n/\i=.int .i64 ((n-j:Nat):Int)/\s=.int .i64 ((jV (l.take (n-j)):Nat):Int)/\w=wr)
 .exact⟨zQ _,by simp,by simp[jV],rfl⟩
 obtain⟨hj,rfl,rfl,rfl⟩:=hrel;rcases gk with _|j
 .have t4:decide (((n-0:Nat):Int)<(n:Int))=false:=by simp
  have e:l.take n=l:=by rw[L.o,zN]
  rw[Nat.sub_zero,e];go_wp2;go_ret;exact⟨rfl,rfl⟩
 .have⟨m,al⟩:=zX (n-(j+1))
  rw[<-al];have U:m<n:=by omega
  have Q:n-j=m+1:=by omega
  have K:=gd Q;clear al Q;have I:m<l.length:=by rw[<-L.o];exact U
  obtain⟨b,o,rfl,D⟩:=hc.at_ I;have t:=BS (l.take m) l[m];rw[<-jd l I]at t;have H:=qt (l:=l.take m) (λx hx=>M.o x (mem_of_mem_take hx));have⟨x,hx⟩:=zX (l[m]);rw[<-hx]at D t;have ag:w.cell? ⟨b,o+m,none⟩=some (.int .i64 x):=D;have J:ib x:=by rw[hx];exact M.o _ (zG _)
  have V:=J;obtain⟨au,av⟩:=V;have⟨s,hs⟩:=zX (jV (l.take m));rw[<-hs]at t H⊢;have y:=gd t;clear t D hx hs I;go_wp2_with fail
  go_loopg [3] (32-s) (λf v wr=>∃v':Nat,v=.int .i64 v'/\v'+f=32/\gh (kl x 32 s=kl x f v')/\v'<=31/\w=wr)
  .exact⟨s,rfl,by omega,gd (by
   have:∀d,d+(32-s)=32->kl x 32 s=kl x (32-s) s:=by
    intro d _;have W:∀f g w',w'<=31->32<=w'+f->32<=w'+g->kl x f w'=kl x g w':=by
     intro f
     induction f with
     | zero=>intro g w' X Y Z;omega
     | succ f ih=>
      intro g w' X Y Z;rcases g with _|g
      .omega
      .unfold kl
       split
       .rename_i hcc
        have:w'≠31:=λe=>by rw[e,sG J]at hcc;simp at hcc
        exact ih g (w'+1) (by omega) (by omega) (by omega)
       .rfl
    exact W 32 (32-s) s H (by omega) (by omega)
   exact this s (by omega)),H,rfl⟩
  obtain⟨v,rfl,ar,q,T,rfl⟩:=hrel;have z:=MU x v w T (by omega) (by omega);by_cases hx00:x=0
  .have h:=uy (x:=x) (w:=v) (f:=gk) (.inl hx00)
   rw[<-q.o,<-y.o]at h;have ad:=gd h;clear h q y;have t5:(x != 0)=false:=(by simp[hx00]);clear hx00;go_wp2
   go_roundg j
   .rw[K.o,ad.o];exact⟨by omega,by go_num,rfl,rfl⟩
   .omega
  .have t5:(x != 0)=true:=by simp[hx00]
   have t6:decide ((v:Int)<32)=true:=(by simp;omega);have O:x≠0:=hx00;have S:=gd O;clear hx00 O
   cases hfb:mc x v with
   | true=>
    rw[hfb]at z;have h:=uy (x:=x) (w:=v) (f:=gk) (.inr hfb);rw[<-q.o,<-y.o]at h;have ad:=gd h;clear h q hfb y
    go_wp2_with(go_at_call 220;refine gx z ?_)
    go_roundg j
    .rw[K.o,ad.o];exact⟨by omega,by go_num,rfl,rfl⟩
    .omega
   | false=>
    rw[hfb]at z;have aq:v≠31:=λe=>by rw[e,sG J]at hfb;cases hfb
    obtain⟨g,rfl⟩:∃g,gk=g+1:=⟨gk-1,by omega⟩;have h:=Dd S.o (by omega) hfb g;rw[<-q.o]at h;have ad:=gd h;clear h q hfb
    go_wp2_with(go_at_call 220;refine gx z ?_)
    go_roundg g
    .exact⟨v+1,by go_num,by omega,ad,by omega,rfl⟩
    .omega
theorem Dp(n warm:Nat)(w:World)(f:1<=n)(h:n<=4096)(j:warm<=n):Calls prog 142 #[n,warm] w λe w'=>e=.returned (.bool true)/\w=w':=by
 have q:decide ((1:Int)<=(n:Int))=true:=by simp;omega
 have t:decide ((n:Int)<=4096)=true:=by simp;omega
 go_enter func142,ntmps142;go_wp2;go_ret;exact⟨rfl,rfl⟩
theorem sM(o n warm:Nat)(w:World)(ho:o<=8)(h1:1<=n)(h2:n<=4096)(h3:warm<=n):Calls prog 144 #[o,n,warm] w λe w'=>∃v G,e=.returned v/\gE w' 3 v G ((io o n warm).map i64)/\gf [] w w'/\∀x∈G,w.heap.size<=x:=by
 have t1:decide ((o:Int)<0)=false:=by simp
 have t2:decide ((8:Int)<(o:Int))=false:=by simp;omega
 have ar:2^o<=256:=Nat.pow_le_pow_right (n:=2) (j:=8) (by decide) ho;have aq:=Nat.two_pow_pos o;have⟨P,hP⟩:=zX (2^o);have⟨s,hs⟩:=zX (n / 2^o);have az:(2:Int)^o=(P:Int):=by rw[hP];simp
 have aB:s<=n:=by rw[hs];exact div_le_self _ _
 have T:P*s+n%P=n:=by rw[hs,hP];exact div_add_mod n (2^o)
 have ad:io o n warm=if s*P=n/\warm<=s then(s-warm)::replicate (P-1) s else[]:=by unfold io;rw[<-hs,<-hP]
 have e1:(n:Int) / (P:Int)=(s:Int):=by rw[hs,hP];simp
 have⟨r,hr⟩:=zX (n%P);have H:(n:Int)%(P:Int)=(r:Int):=by rw[hr];simp
 rw[<-hP]at aq ar;rw[<-hr]at T;have W:(s*P=n) ↔ r=0:=by rw[zY];omega
 have⟨HD,ai⟩:=gy ad W;clear ad hs T hr W hP;have M:=λw'=>Dp n warm w' h1 h2 h3;by_cases c1:r=0
 .have t3:((n:Int)%(P:Int) != 0)=false:=by rw[H,bne_eq_false_iff_eq];omega
  by_cases c2:warm<=s
  .have t4:decide (s<warm)=false:=by simp;omega
   have t:=HD.o;rw[if_pos ⟨ai.o.2 c1,c2⟩]at t;have z:=gd t;have ag:((s:Int)-(warm:Int))=((s-warm:Nat):Int):=(by omega);clear t c1 H;go_enter func144,ntmps144
   go_wp2_with(go_at_call 142;refine gx (M _) ?_)
   go_loopg [7,8] P (λj v iv wr=>∃G f,iv=.int .i64 ((f.length:Nat):Int)/\gE wr 3 v G (f.map i64)/\gh (f=replicate (P-j) s)/\f.length+j=P/\gf [] w wr/\∀x∈G,w.heap.size<=x)
   .exact⟨[],[],rfl,gE.nil _ _,gd (by simp),by simp,zR _ _,by simp⟩
   obtain⟨G,f,rfl,L,K,D,O,Y⟩:=hrel;have J:=gd Y;clear Y;rcases gk with _|j
   .have t5:decide (f.length<P)=false:=by simp;omega
    rcases L.cases with⟨rfl,I,rfl⟩|⟨g,V,rfl⟩
    .exfalso
     have h6:f.length=0:=by
      have:=congrArg length I
      simpa using this
     omega
    .obtain⟨cap,rfl,au,av,S,U⟩:=V.oq
     have aC:wr.cell? g=some (.int .i64 s):=by
      refine S 0 s ?_;rw[K.o,getElem?_replicate,if_pos (by omega)]
     have aA:=U 0;have ax:0<f.length:=(by omega);have Q:=gd D;clear S U D;go_wp2;go_ret;refine⟨_,[g],rfl,?_,O.setCell (.inr (by have:=J.o g (by simp);simpa using this)) _,J.o⟩;have X:=(V.T (i:=0) (by simpa using ax) (.int .i64 ((s-warm:Nat):Int))).S;have e:(f.map i64).set 0 (.int .i64 ((s-warm:Nat):Int))=(io o n warm).map i64:=by
      rw[z.o,K.o,Nat.sub_zero];obtain⟨q,hq⟩:∃q,P=q+1:=⟨P-1,by omega⟩;rw[hq,replicate_succ];rfl
     rw[e]at X
     try rw[ag]
     exact X
   .obtain⟨A,cap,rfl,au,av,-⟩:=L.oq
    have t5:decide (f.length<P)=true:=(by simp;omega);have Q:=gd D;have aw:f.length<=256:=(by omega);clear D
    go_wp2_with(at_builtin;refine jT rfl rfl iJ rfl rfl (L.alloc _) (.int .i64 s) rfl ?c1 ?c2 ?c3 ?c4 ?_)
    case c1=>simp[go_sem]
    case c2=>rfl
    case c3=>rw[zE];omega
    case c4=>rw[zE];omega
    intro g2 ap w2 ay R;go_wp2_with fail
    go_roundg j
    .have D:=Q.o
     refine⟨[g2],f++[s],by rw[zC,length_singleton];go_num,?_,gd ?_,by rw[zC,length_singleton];omega,(O.alloc _).trans R.Z λx hx=>.inr (J.o x hx),?_⟩
     .have:=ay.S
      simpa[i64]using this
     .rw[K.o,show P-j=P-(j+1)+1 by omega,replicate_succ']
     .intro y Z
      simp at Z;subst Z;rcases R.new y (by simp)with I|I
      .exact J.o y I
      .have:=O.size
       simp at I;omega
    .omega
  .have t4:decide (s<warm)=true:=by simp;omega
   have t:=HD.o;rw[if_neg (λh=>c2 h.2)]at t;have z:=gd t;clear t c1 H;go_enter func144,ntmps144
   go_wp2_with(go_at_call 142;refine gx (M _) ?_)
   go_ret;refine⟨_,[],rfl,?_,zR _ _,by simp⟩;rw[z.o];exact gE.nil _ _
 .have t3:((n:Int)%(P:Int) != 0)=true:=by rw[H,bne_iff_ne];omega
  have t:=HD.o;rw[if_neg (λh=>c1 (ai.o.1 h.1))]at t;have z:=gd t;clear t c1 H;go_enter func144,ntmps144
  go_wp2_with(go_at_call 142;refine gx (M _) ?_)
  go_ret;refine⟨_,[],rfl,?_,zR _ _,by simp⟩;rw[z.o];exact gE.nil _ _
theorem BH(l:List Int)(A:Option Addr)(cap:Nat)(w:World)(f:∀x∈l,ib x)(q:gu vi w A l)(t:l.length<=4194304):Calls prog 217 #[.int .i64 (31:Nat),.slice A l.length cap] w λe w'=>e=.returned (.int .i64 (lw l))/\w=w':=by
 have ad:=Dq l A cap w f q (by omega);have h:=qt f;have j:lw l=5+l.length*jV l:=by unfold lw;rw[zY]
 rw[j];have⟨n,hn⟩:=zX l.length;have⟨W,hW⟩:=zX (jV l);rw[<-hn,<-hW]at ad⊢;rw[<-hn]at t;rw[<-hW]at h;have y:n*W<=4194304*31:=zL t h;have⟨m,ab⟩:=zX (n*W);have z:(n:Int)*(W:Int)=(m:Int):=by rw[ab];simp
 rw[<-ab]at y⊢;clear f q hn hW ab j;go_enter func217,ntmps217
 go_wp2_with(go_at_call 147;refine gx ad ?_)
 go_ret;refine⟨?_,rfl⟩
 first|rfl|(go_num)
theorem Hc(k:Nat)(l:List Int)(A:Option Addr)(cap:Nat)(w:World)(q:k<=25)(j:∀x∈l,ib x)(f:gu vi w A l)(t:l.length<=4194304):Calls prog 217 #[k,.slice A l.length cap] w λe w'=>e=.returned (.int .i64 (iR k l))/\w=w':=by
 have h:=yK k l A cap w q j f (by omega);have y:((k:Int)==31)=false:=by rw[beq_eq_false_iff_ne];omega
 have⟨s,aa⟩:=zX (iR k l);rw[<-aa]at h⊢;clear j f aa;go_enter func217,ntmps217
 go_wp2_with(go_at_call 218;refine gx h ?_)
 go_ret;exact⟨rfl,rfl⟩
theorem Ju(l:List Int)(A:Option Addr)(cap:Nat)(w:World)(t:∀x∈l,ib x)(h:gu vi w A l)(D:l.length<=4194304):Calls prog 145 #[.slice A l.length cap] w λe w'=>e=.returned (.int .i64 (jx l))/\w=w':=by
 have y:=yg l A cap w t h (by omega);have z:=BH l A cap w t h D;have j:=yK (jS l) l A cap w (qv l) t h (by omega);have f:jx l=if lw l<iR (jS l) l then 31 else jS l:=rfl;have⟨b,ab⟩:=zX (jS l);rw[<-ab]at y j f;have⟨s,ac⟩:=zX (iR b l);have⟨q,hq⟩:=zX (lw l);rw[<-ac]at j f;rw[<-hq]at z f;rw[f];clear t h ac hq ab f;by_cases hlt:q<s
 .have H:decide (q<s)=true:=zB hlt
  rw[if_pos hlt];clear hlt;go_enter func145,ntmps145
  go_wp2_with(first|(go_at_call 157;refine gx y ?_)|(go_at_call 217;refine gx z ?_)|(go_at_call 218;refine gx j ?_))
  go_ret;exact⟨rfl,rfl⟩
 .have H:decide (q<s)=false:=zA hlt
  rw[if_neg hlt];clear hlt;go_enter func145,ntmps145
  go_wp2_with(first|(go_at_call 157;refine gx y ?_)|(go_at_call 217;refine gx z ?_)|(go_at_call 218;refine gx j ?_))
  go_ret;exact⟨rfl,rfl⟩
theorem EB(w:World)(b:Nat)(F bs:List Nat)(k:Nat)(l:List Int)(A:Option Addr)(cap:Nat)(h:hO w b F bs)(W:k<=25)(hw:∀x∈l,ib x)(hc:gu vi w A l)(hA:gM A l F)(t:bs.length+65*l.length<274877906944):Calls prog 149 #[.pointer b,k,.slice A l.length cap] w λe w'=>e=.returned (.int .i64 0)/\∃F',hO w' b F' (bs++kt k l)/\gB F F' w w':=by
 have Z:=gd hw;clear hw;have⟨n,hn⟩:=zX l.length;rw[<-hn]at t⊢;have⟨HN,HA⟩:=gy hn hA;clear hn hA;go_enter func149,ntmps149;have aC:=λw'=>uk k w' W;have ar:=λw' hc'=>xj l A cap w' Z.o hc' (by have:=HN.o;omega);have ad:=ar w hc;rw[<-HN.o]at ad;clear ar
 go_wp2_with(first|(go_at_call 221;refine gx (aC _) ?_)|(go_at_call 143;refine gx ad ?_))
 go_loopg [7,8,9] n (λj i v8 v9 wr=>∃F' f,j<=n/\i=.int .i64 ((n-j:Nat):Int)/\hO wr b F' f/\gh (f=bs++kt k (l.take (n-j)))/\f.length<=bs.length+65*(n-j)/\gB F F' w wr)
 .exact⟨F,bs,zQ _,by simp,h,gd (by simp[kt]),by omega,gB.refl _ _⟩
 obtain⟨F',f,aD,rfl,H,K,az,z⟩:=hrel;rcases gk with _|j
 .go_wp2
  go_ret;refine⟨rfl,F',?_,z⟩;have e:l.take n=l:=by rw[HN.o,zN]
  rw[K.o,Nat.sub_zero,e]at H;exact H
 .have⟨m,av⟩:=zX (n-(j+1))
  rw[<-av]at K az⊢;have aB:m<n:=by omega
  have aw:n-j=m+1:=by omega
  have X:=gd aw;clear av aw;have Q:m<l.length:=by rw[<-HN.o];exact aB
  obtain⟨g,o,rfl,L⟩:=(hc.Q HA.o z.Z).at_ Q;have D:=Ax k (l.take m) l[m];rw[<-jd l Q]at D;have⟨x,hx⟩:=zX (l[m]);rw[<-hx]at L D;have ak:wr.cell? ⟨g,o+m,none⟩=some (.int .i64 x):=L;have ay:ib x:=by rw[hx];exact Z.o _ (zG _)
  have Y:gh (bs++kt k (l.take (m+1))=f++jm k x):=by
   refine gd ?_;rw[D,K.o,zH]
  have au:=nz k x;have al:=mO k x W;have hu:=sW ay;have O:=yh x wr ay;have⟨u,ap⟩:=zX (jt x);rw[<-ap]at hu O;have hq:u / 2^k<=u:=div_le_self _ _;have R:=div_add_mod u (2^k);have M:=mod_lt u (Nat.two_pow_pos k);have⟨q,ag⟩:=zX (u / 2^k);have⟨r,ah⟩:=zX (u%2^k);have e1:(u:Int) / 2^k=(q:Int):=by rw[ag];simp
  have ax:jm k x=if q<32 then replicate q 0++1::gA r k else replicate 32 0++1::gA u 32:=by unfold jm;rw[<-ap,<-ag,<-ah]
  rw[<-ag]at hq R;rw[<-ah]at R M;have aE:bits .and .u64 (u:Int) (2^k-1)=(r:Int):=by
   have h1:=yQ (u:Int) (n:=k) (by omega);rw[Int.emod_eq_of_lt (by omega) (by omega)]at h1;rw[h1,ah];unfold kS;rw[show(u:Int)%2^k=((u%2^k:Nat):Int)by simp];rfl
  obtain⟨aF,aG⟩:(1:Int)<=2^k/\(2:Int)^k<=33554432:=⟨by have:=jZ k;omega,pz (n:=25) W⟩;have y:=gd ax;have aA:f.length+65<274877906944:=by omega
  have aq:gh ((f++jm k x).length<=bs.length+65*(m+1)):=gd (by rw[zC,au];omega);have aj:=gd M;clear ax R ap ag ah L hx D Q au al M;by_cases hs:q<32
  .have t1:decide ((q:Int)<32)=true:=by simp;omega
   rw[if_pos hs]at y
   go_wp2_with(go_at_call 165;refine gx O ?_)
   refine(Ct _ b F' f q H (by omega) (by omega)).mono ?_;rintro e w1 ⟨rfl,I,U,S⟩;go_wp2_with fail;refine(jh _ b I _ r k U (by omega) aj.o (by simp;omega)).mono ?_;rintro e w2 ⟨rfl,J,V,T⟩;go_wp2_with fail
   go_roundg j
   .rw[X.o]
    refine⟨J,f++jm k x,by omega,by go_num,?_,gd Y.o.symm,aq.o,(z.trans S).trans T⟩;rw[y.o]
    simpa using V
   .omega
  .have t1:decide ((q:Int)<32)=false:=by simp;omega
   rw[if_neg hs]at y
   go_wp2_with(go_at_call 165;refine gx O ?_)
   refine(Ct _ b F' f 32 H (by omega) (by omega)).mono ?_;rintro e w1 ⟨rfl,I,U,S⟩;go_wp2_with fail;refine(jh _ b I _ u 32 U (by omega) (by omega) (by simp;omega)).mono ?_;rintro e w2 ⟨rfl,J,V,T⟩;go_wp2_with fail
   go_roundg j
   .rw[X.o]
    refine⟨J,f++jm k x,by omega,by go_num,?_,gd Y.o.symm,aq.o,(z.trans S).trans T⟩;rw[y.o]
    simpa using V
   .omega
theorem Lj(w:World):Calls prog 221 #[(31:Int)] w λe w'=>e=.returned (.bool false)/\w=w':=by
 go_enter func221,ntmps221;go_wp2;go_ret;exact⟨rfl,rfl⟩
theorem Ln(o n warm:Nat)(ks:List Nat)(A:Option Addr)(cap:Nat)(w:World)(M:o<=8)(W:1<=n)(X:n<=4096)(Y:warm<=n)(q:io o n warm≠[])(f:ks.length=(io o n warm).length)(h:qa ks)(L:gu i64 w A ks):Calls prog 219 #[.agg #[.int .i64 o,.slice A ks.length cap],n,warm] w λe w'=>e=.returned (.bool true)/\gf [] w w':=by
 have V:=pI q;have R:2^o<=256:=Nat.pow_le_pow_right (n:=2) (j:=8) (by decide) M;have Q:=Nat.two_pow_pos o;have⟨N,hN⟩:=zX ks.length;have I:N=(io o n warm).length:=by rw[hN,f]
 have ay:1<=N:=by omega
 have az:N<=256:=by omega
 rw[<-hN];have⟨al,HN,am⟩:=gS h hN I;clear V R Q hN I f h q;go_enter func219,ntmps219;go_wp2_with fail;refine(sM o n warm _ M W X Y).mono ?_;rintro e w1 ⟨v,G,rfl,H,ad,hG⟩;obtain⟨Z,an,rfl,ar,au,-⟩:=H.oq;rw[<-am.o];have J:=(gn.new w 123 #[o,.slice A N cap]).Z ad (by simp);have T:=J.X 1;simp at T;have D:gf [] w w1:=((zR [] w).alloc _).tq ad;have S:=L.Y D;have t1:((N:Int)==0)=false:=by rw[beq_eq_false_iff_ne];omega
 clear ad J H L;go_wp2_with fail
 go_loopg [8] N (λj i wr=>j<=N/\i=.int .i64 ((N-j:Nat):Int)/\w1=wr)
 .exact⟨zQ _,by simp,rfl⟩
 obtain⟨hj,rfl,rfl⟩:=hrel;rcases gk with _|j
 .have t4:decide (((N-0:Nat):Int)<(N:Int))=false:=by simp
  go_wp2;go_ret;exact⟨rfl,D⟩
 .have⟨i,ai⟩:=zX (N-(j+1))
  rw[<-ai];have U:i<N:=by omega
  have K:N-j=i+1:=by omega
  have z:=gd K;clear ai K;have x:i<ks.length:=by rw[<-HN.o];exact U
  obtain⟨g,aA,rfl,O⟩:=S.i64_at x;have t:=al.o _ (zG x);have⟨k,ak⟩:=zX (ks[i]);rw[<-ak]at O t;have t5:decide ((k:Int)<0)=false:=by simp
  clear ak x;rcases t with t|rfl
  .have y:=uk k w1 t
   go_wp2_with(go_at_call 221;refine gx y ?_)
   go_roundg j
   .rw[z.o]
    exact⟨by omega,by go_num,rfl⟩
   .omega
  .have y:=Lj w1
   go_wp2_with(go_at_call 221;refine gx y ?_)
   go_roundg j
   .rw[z.o]
    exact⟨by omega,by go_num,rfl⟩
   .omega
theorem Do(o n warm:Nat)(ks:List Nat)(A:Option Addr)(cap:Nat)(l:List Int)(W:Option Addr)(f:Nat)(w:World)(ho:o<=8)(h1:1<=n)(h2:n<=4096)(h3:warm<=n)(z:io o n warm≠[])(t:ks.length=(io o n warm).length)(O:qa ks)(K:gu i64 w A ks)(Q:l.length=n-warm)(hw:∀x∈l,ib x)(M:gu vi w W l)(y:l.length<=f)(hcap2:f<=9223372036854775807):Calls prog 146 #[.agg #[.int .i64 o,.slice A ks.length cap],n,warm,.slice W l.length f] w λe w'=>e=.returned (.int .i64 (j8 ks (ie (io o n warm) l)))/\gf [] w w':=by
 have aU:=qZ z;have ak:=pI z;have a8:2^o<=256:=Nat.pow_le_pow_right (n:=2) (j:=8) (by decide) ho;have⟨ss,aD⟩:=zX (io o n warm);have⟨N,hN⟩:=zX ks.length;have⟨L,hL⟩:=zX l.length;have au:=λw K=>Ln o n warm ks A cap w ho h1 h2 h3 z t O K;have an:=λw K=>xj l W f w hw K (by omega);have ac:=λw=>sM o n warm w ho h1 h2 h3;rw[<-aD]at t aU ak ac⊢;rw[<-hN]at au t⊢;rw[<-hL]at an Q y⊢;have bn:(((L:Nat):Int) != (n:Int)-(warm:Int))=false:=by rw[bne_eq_false_iff_eq];omega
 have⟨aK,aI,al,a3⟩:=gz au an ac O;have⟨HW,HN,HL,aJ⟩:=gz hw hN hL t;have⟨a5,a4⟩:=gy aU Q;have aX:N<=256:=by omega
 have bi:L<=4096:=by omega
 clear au an ac O hw hN hL t aU ak a8 aD Q z;go_enter func146,ntmps146;go_wp2_with fail;refine(aK.o _ (K.Y ((zR [] w).alloc _))).mono ?_;rintro e w1 ⟨rfl,aL⟩;have ax:gf [] w w1:=((zR [] w).alloc _).tq aL;have aN:=(gn.new w 123 #[o,.slice A N cap]).Z aL (by simp);have aZ:=aN.X 0;simp at aZ;have ay:=aI.o _ (M.Y ax)
 go_wp2_with(go_at_call 143;refine gx ay ?_)
 refine(al.o _).mono ?_;rintro e w2 ⟨v,G,rfl,aC,aM,hG⟩;obtain⟨A2,a6,rfl,aQ,bd,ah⟩:=aC.oq;have am:gf [] w w2:=ax.tq aM;have az:=aN.Z aM (by simp);have ba:=K.Y am;have bb:=M.Y am;have af:=aJ.o;rw[<-af];have a2:=gd az;clear aN az aZ aL aM aC K M hG ay;have ai:=gd af;clear af aQ;go_wp2_with fail
 go_loopg [9,10,12] N (λj cv av iv wr=>∃i:Nat,iv=.int .i64 i/\i+j=N/\av=.int .i64 ((jz ss i:Nat):Int)/\cv=.int .i64 ((j8 (ks.take i) ((ie ss l).take i):Nat):Int)/\j8 (ks.take i) ((ie ss l).take i)<=4+i*300000/\gf [] w2 wr)
 .exact⟨0,rfl,by omega,by simp[jz],by simp[j8],by simp[j8],zR _ _⟩
 obtain⟨i,rfl,bj,rfl,rfl,aP,J⟩:=hrel;have be:=(a2.o.Z J (by simp)).X 1;simp at be;rcases gk with _|j
 .obtain rfl:i=N:=by omega
  have t4:decide (i<i)=false:=by simp
  have e1:ks.take i=ks:=by rw[HN.o,zN]
  have e2:(ie ss l).take i=ie ss l:=by rw[ai.o,<-nR ss l,zN]
  rw[e1,e2];clear e1 e2;go_wp2;go_ret;exact⟨rfl,am.tq J⟩
 .have hi:i<N:=by omega
  have X:i<ks.length:=by rw[<-HN.o];exact hi
  have U:i<ss.length:=by rw[<-ai.o];exact hi
  obtain⟨bg,bl,rfl,ao⟩:=(ba.Y J).i64_at X;obtain⟨bh,bm,rfl,ap⟩:=(ah.Y J).i64_at U;have T:=a3.o _ (zG X);have H:=B4 (ks:=ks) (ps:=ie ss l) (i:=i) (zF X) (qp ss l i U);have ar:=qS ss i U;have V:=r8 ss i U;have⟨k,a0⟩:=zX (ks[i]);have⟨s,hs⟩:=zX (ss[i]);have⟨lo,a1⟩:=zX (jz ss i);have⟨aF,aR⟩:=zX (jz ss (i+1));rw[<-a0]at ao T H;rw[<-hs]at ap H ar V;rw[<-a1]at H ar V⊢;rw[<-aR]at V;have bf:aF<=L:=by
   have:=a5.o
   have:=a4.o
   omega
  have Y:∀x∈(l.drop lo).take s,ib x:=λx hx=>HW.o x (mem_of_mem_drop (mem_of_mem_take hx));have aT:((l.drop lo).take s).length=s:=by rw[zI,zO,<-HL.o];omega
  have S:=ub T Y;rw[aT]at S;obtain⟨Z,bk,a9,aA⟩:=sN (P:=prog) underlying22 oY W L f lo s aF V bf y;have aO:∀q,gu vi (wr.drewN q) Z ((l.drop lo).take s):=λq=>aA Int vi _ l HL.o.symm ((bb.Y J).drewN q);have ad:=λq=>BH ((l.drop lo).take s) Z (f-lo) (wr.drewN q) Y (aO q) (by omega);have R:=λq (T:k<=25)=>Hc k ((l.drop lo).take s) Z (f-lo) (wr.drewN q) T Y (aO q) (by omega);rw[aT]at ad R;have⟨c0,aY⟩:=zX (j8 (ks.take i) ((ie ss l).take i));rw[<-aY]at H aP⊢;have⟨part,aj⟩:=zX ((l.drop lo).take s);rw[<-aj]at ad H S R;have a7:(lo:Int)+(s:Int)=(aF:Int):=by omega
  have bc:c0<=76800004:=by omega
  have⟨ag,aV,aW⟩:=gS H aP aR;have h9:aF<=4096:=by omega
  clear H a0 hs Y a9 aA aT aj aO X U a1 aR V ar aY aP;by_cases hk31:k=31
  .subst hk31
   have I:mx 31 part=5+lw part:=(by unfold mx;rw[if_pos rfl]);rw[I]at S;have D:gh (j8 (ks.take (i+1)) ((ie ss l).take (i+1))=c0+(5+lw part)):=gd (by rw[ag.o,I]);have⟨q,hq⟩:=zX (lw part);rw[<-hq]at ad S D;have HR:=gd ad;clear T I hq ag R ad;go_wp2_with fail
   go_quiet ((go_at_call 217;exact Calls.quiet_of_same ((HR.o _).mono λ_ _ h=>⟨h.1,h.2.symm⟩)))
   go_wp2
   go_roundg j
   .refine⟨i+1,by go_num,by omega,by rw[<-aW.o],by rw[D.o];go_num,by rw[D.o];have:=aV.o;omega,J.drewN nq⟩
   .omega
  .have aS:k<=25:=by omega
   have I:mx k part=5+iR k part:=(by unfold mx;rw[if_neg hk31]);rw[I]at S;have D:gh (j8 (ks.take (i+1)) ((ie ss l).take (i+1))=c0+(5+iR k part)):=gd (by rw[ag.o,I]);have⟨q,hq⟩:=zX (iR k part);rw[<-hq]at R S D;have HR:=gd (λqq=>R qq aS);clear T I hq ag R ad hk31;go_wp2_with fail
   go_quiet ((go_at_call 217;exact Calls.quiet_of_same ((HR.o _).mono λ_ _ h=>⟨h.1,h.2.symm⟩)))
   go_wp2
   go_roundg j
   .refine⟨i+1,by go_num,by omega,by rw[<-aW.o],by rw[D.o];go_num,by rw[D.o];have:=aV.o;omega,J.drewN nq⟩
   .omega
theorem GM(w:World)(b:Nat)(F bs:List Nat)(l:List Int)(A:Option Addr)(cap W:Nat)(h:hO w b F bs)(J:W<=31)(S:gu vi w A l)(I:gM A l F)(T:l.length<=4096)(R:bs.length<274877906944):Calls prog 148 #[.pointer b,.slice A l.length cap,W] w λe w'=>e=.returned (.tuple #[])/\∃F',hO w' b F' (bs++l.flatMap (λx=>gA (kS x W) W))/\gB F F' w w':=by
 have⟨n,hn⟩:=zX l.length;rw[<-hn]at T⊢;have⟨HN,HA⟩:=gy hn I;have am:=jZ W;have X:(2:Int)^W<=2147483648:=pz (n:=31) J;clear hn I;go_enter func148,ntmps148;go_wp2_with fail
 go_loopg [6] n (λj iv wr=>∃(i:Nat) (F' f:List Nat),iv=.int .i64 i/\i+j=n/\hO wr b F' f/\gh (f=bs++(l.take i).flatMap (λx=>gA (kS x W) W))/\f.length<=bs.length+31*i/\gB F F' w wr)
 .exact⟨0,F,bs,rfl,by omega,h,gd (by simp),by omega,gB.refl _ _⟩
 obtain⟨i,F',f,rfl,Z,z,D,Y,ad⟩:=hrel;rcases gk with _|j
 .obtain rfl:i=n:=by omega
  have t1:decide (i<i)=false:=by simp
  go_wp2
  go_end0
  refine⟨rfl,F',?_,ad⟩;rw[D.o,HN.o,zN]at z;exact z
 .have hi:i<n:=by omega
  have t:i<l.length:=by rw[<-HN.o];exact hi
  obtain⟨g,o,rfl,q⟩:=(S.Q HA.o ad.Z).at_ t;have y:=jd l t;have⟨x,hx⟩:=zX (l[i]);rw[<-hx]at q y;have U:wr.cell? ⟨g,o+i,none⟩=some (.int .i64 x):=q;have V:bits BinOp.and IntKind.u64 (IntKind.u64.wrap x) (2^W-1)=((kS x W:Nat):Int):=by rw[IntKind.wrap_u64];exact yQ x J
  have Q:gh (bs++(l.take (i+1)).flatMap (λx=>gA (kS x W) W)=f++gA (kS x W) W):=gd (by rw[y,D.o];simp);have H:=jh wr b F' f (kS x W) W z (by omega) (Fc x W) (by omega);have L:=gd H;clear q hx y t H;go_wp2_with fail;refine L.o.mono ?_;rintro e w1 ⟨rfl,K,O,M⟩;go_wp2_with fail
  go_roundg j
  .exact⟨i+1,K,f++gA (kS x W) W,by go_num,by omega,O,gd Q.o.symm,by rw[zC,gJ];omega,ad.trans M⟩
  .omega
theorem M2(w:World)(b:Nat)(F bs:List Nat)(o n warm:Nat)(ks:List Nat)(A:Option Addr)(cap:Nat)(l:List Int)(Y:Option Addr)(f:Nat)(h:hO w b F bs)(ho:o<=8)(h1:1<=n)(h2:n<=4096)(h3:warm<=n)(M:io o n warm≠[])(q:ks.length=(io o n warm).length)(Q:qa ks)(hc:gu i64 w A ks)(K:l.length=n-warm)(hw:∀x∈l,ib x)(J:gu vi w Y l)(y:l.length<=f)(O:f<=9223372036854775807)(hA:gM A ks F)(hAl:gM Y l F)(hbs:bs.length<137438953472):Calls prog 106 #[.pointer b,.agg #[.int .i64 o,.slice A ks.length cap],n,warm,.slice Y l.length f] w λe w'=>e=.returned (.int .i64 0)/\∃F',hO w' b F' (bs++mU o ks (ie (io o n warm) l))/\gB F F' w w':=by
 have br:=qZ M;have aw:=pI M;have b6:2^o<=256:=Nat.pow_le_pow_right (n:=2) (j:=8) (by decide) ho;have V:=λw hc J=>Do o n warm ks A cap l Y f w ho h1 h2 h3 M q Q hc K hw J y O;have⟨ss,aV⟩:=zX (io o n warm);have⟨N,hN⟩:=zX ks.length;have⟨L,hL⟩:=zX l.length;have ab:=λw=>sM o n warm w ho h1 h2 h3;have bM:=xT ks (ie (io o n warm) l);rw[<-aV]at q br aw ab V bM⊢;have⟨CC,bG⟩:=zX (j8 ks (ie ss l));rw[<-bG]at V bM;rw[<-hN]at V q⊢;rw[<-hL]at V K y⊢;have⟨aL,ay,bZ,HW⟩:=gz V ab Q hw;have⟨HN,HL,ba,b1⟩:=gz hN hL q br;have⟨b0,HA,bA,HF⟩:=gz K hA hAl h.lt;have bI:N<=256:=by omega
 have cf:L<=4096:=by omega
 have t0:((CC:Int)==0)=false:=by rw[beq_eq_false_iff_ne];omega
 clear V ab Q hw hN hL q br aw b6 aV K M bG hA hAl;go_enter func106,ntmps106;go_wp2_with fail;have a1:gf [] w (w.alloc (.cells #[o,.slice A N cap] 123)):=(zR [] w).alloc _;refine(aL.o _ (hc.Y a1) (J.Y a1)).mono ?_;rintro e w1 ⟨rfl,bd⟩;have a3:=(gn.new w 123 #[o,.slice A N cap]).Z bd (by simp);have ag:gf [] w w1:=a1.tq bd;have aU:=a3.lt;have bN:=a3.X 0;simp at bN;have aX:=h.Y ag;clear bd a1;go_wp2_with fail;refine(jh _ b F bs o 4 aX (by omega) (by omega) (by omega)).mono ?_;rintro e cj ⟨rfl,F1,al,ao⟩;have bo:w.heap.size∉F:=λhm=>by have:=HF.o _ hm;omega
 have aA:=a3.Z ao.Z bo;have aS:=aA.X 0;simp at aS;clear bN a3;go_wp2_with fail;refine(ay.o _).mono ?_;rintro e w2 ⟨v,G,rfl,aq,a0,hG⟩;obtain⟨A2,b2,rfl,bi,ca,-⟩:=aq.oq;have S:gB F F1 w1 w2:=ao.Y a0;have aN:=aA.Z a0 (by simp);have aB:=hc.Y ag;have aC:=J.Y ag;have bK:=aB.Q HA.o S.Z;have b9:=aC.Q bA.o S.Z;have bv:=al.Y a0;have bH:∀x∈G,x∉F1:=λx hx hm=>by
  have X:=hG x hx;have h6:=al.lt x hm;omega
 have bX:w.heap.size∉F1:=ao.o aU bo;have⟨bx,a8⟩:=gy (HA.o.grow aB S) (bA.o.grow aC S);have bz:gh (gM A2 ss F1):=gd (aq.apt bH);have bL:gu i64 w2 A2 ss:=aq.cells;have bj:gB F F1 w w2:=gB.pre ag S;have⟨bB,bF⟩:=gy aN bX;have af:=ba.o;rw[<-af];have ar:=gd af;clear af bi hG aq bH bX bo aU S aB aC ao ag a0 aX al aA aN aS;go_wp2_with fail
 go_loopg [12,13,14,15] N (λj av iv pv wv wr=>∃(i:Nat) (F' I:List Nat),iv=.int .i64 i/\i+j=N/\av=.int .i64 ((jz ss i:Nat):Int)/\hO wr b F' I/\gh (I=bs++mU o (ks.take i) ((ie ss l).take i))/\I.length<=bs.length+4+i*300000/\gB F1 F' w2 wr)
 .exact⟨0,F1,bs++gA o 4,rfl,by omega,by simp[jz],bv,gd (by simp[mU]),by simp[gJ],gB.refl _ _⟩
 obtain⟨i,F',I,rfl,ch,rfl,bW,bc,cg,z⟩:=hrel;have bO:=(bB.o.Z z.Z bF.o).X 1;simp at bO;rcases gk with _|j
 .obtain rfl:i=N:=by omega
  have t4:decide (i<i)=false:=by simp
  have e1:ks.take i=ks:=by rw[HN.o,zN]
  have e2:(ie ss l).take i=ie ss l:=by rw[ar.o,<-nR ss l,zN]
  rw[e1,e2]at bc;clear e1 e2;go_wp2;go_ret;refine⟨rfl,F',?_,bj.trans z⟩;rw[<-bc.o];exact bW
 .have hi:i<N:=by omega
  have aT:i<ks.length:=by rw[<-HN.o];exact hi
  have T:i<ss.length:=by rw[<-ar.o];exact hi
  have aO:=bK.Q bx.o z.Z;have aQ:=bL.Q bz.o z.Z;obtain⟨b4,cd,eK,ai⟩:=aO.i64_at aT;obtain⟨b5,ce,eS,aj⟩:=aQ.i64_at T;have hk:=bZ.o _ (zG aT);have ak:=BX (o:=o) (ks:=ks) (ps:=ie ss l) (i:=i) (zF aT) (qp ss l i T);have aD:=qS ss i T;have aW:=r8 ss i T;have⟨k,bn⟩:=zX (ks[i]);have⟨s,hs⟩:=zX (ss[i]);have⟨lo,bS⟩:=zX (jz ss i);have⟨a4,bk⟩:=zX (jz ss (i+1));have ac:∀F2 F3 t,gB F' F2 wr t->gB F' F3 wr t->t.cell? ⟨b4,cd+i,none⟩=some (.int .i64 k):=λF2 F3 t X _=>by
   obtain⟨g9,o9,D,h9⟩:=(bK.Q bx.o (z.trans X).Z).i64_at aT;rw[eK]at D;injection D with D;injection D with D e10;subst D;subst e10;rw[bn];exact h9
  have ad:∀F2 t,gB F' F2 wr t->t.cell? ⟨b5,ce+i,none⟩=some (.int .i64 s):=λF2 t X=>by
   obtain⟨g9,o9,D,h9⟩:=(bL.Q bz.o (z.trans X).Z).i64_at T;rw[eS]at D;injection D with D;injection D with D e10;subst D;subst e10;rw[hs];exact h9
  have bP:∀F2 t,gB F' F2 wr t->t.cell? ⟨w.heap.size,1,none⟩=some (.slice A N cap):=λF2 t X=>by
   have:=(bB.o.Z (z.trans X).Z bF.o).X 1
   simpa using this
  subst eK;subst eS;rw[<-bn]at ai hk ak;rw[<-hs]at aj ak aD aW;rw[<-bS]at ak aD aW⊢;rw[<-bk]at aW;have cc:a4<=L:=by
   have:=b1.o
   have:=b0.o
   omega
  have a7:∀x∈(l.drop lo).take s,ib x:=λx hx=>HW.o x (mem_of_mem_drop (mem_of_mem_take hx));have a5:((l.drop lo).take s).length=s:=by rw[zI,zO,<-HL.o];omega
  have bV:=ub hk a7;have aE:=AY k ((l.drop lo).take s);rw[a5]at bV;obtain⟨R,ci,bJ,aR⟩:=sN (P:=prog) underlying22 oY Y L f lo s a4 aW cc y;have bh:=aR Int vi w2 l HL.o.symm b9;have az:gM R ((l.drop lo).take s) F1:=a8.o.to (by rw[zI,zO];omega) bJ;have be:bs++mU o (ks.take (i+1)) ((ie ss l).take (i+1))=I++mj k ((l.drop lo).take s):=by rw[ak,bc.o,zH]
  have⟨part,au⟩:=zX ((l.drop lo).take s);rw[<-au]at bV be bh a5 a7 aE az;have b3:(lo:Int)+(s:Int)=(a4:Int):=by omega
  have h9:a4<=4096:=by omega
  have⟨bD,am,bb,bE⟩:=gz be az a7 aE;have⟨aG,bC,aZ,a9⟩:=gz a5 bk bh ac;have⟨aK,bY⟩:=gy ad bP;have b7:I.length<137515753480:=by omega
  have bm:k<2^5:=by omega
  clear ak bn hs a7 bJ aR a5 au bh aT T bS bk aW aD aE be az ac ad bP aO aQ;have bT:=jh wr b F' I k 5 bW (by omega) bm (by omega);go_wp2_with fail;refine bT.mono ?_;rintro e w3 ⟨rfl,F3,aY,H⟩;have bR:=a9.o _ _ w3 H H;have bQ:=bY.o _ w3 H;have ap:=aZ.o.Q am.o (z.trans H).Z;clear ai aj bO bT;by_cases hke:k=31
  .have t5:((k:Int)==31)=true:=by rw[beq_iff_eq];omega
   have a6:=Dq part R (f-lo) w3 bb.o ap (by rw[aG.o];omega);rw[aG.o]at a6;have bu:=qt bb.o;have U:mj k part=gA k 5++(gA (jV part) 5++part.flatMap (λx=>gA (kS x (jV part)) (jV part))):=(by unfold mj;rw[if_pos hke]);have⟨W,hW⟩:=zX (jV part);rw[<-hW]at a6 bu U;have ax:=gd U;clear hke hW U hk;go_wp2_with fail;refine gx a6 ?_;go_wp2_with fail;refine(jh w3 b F3 _ W 5 aY (by omega) (by omega) (by rw[zC,gJ];omega)).mono ?_;rintro e w4 ⟨rfl,F4,bw,a2⟩;have aP:=aZ.o.Q am.o ((z.trans H).trans a2).Z;have bg:gM R part F4:=am.o.grow aZ.o ((z.trans H).trans a2);have bp:=GM w4 b F4 _ part R (f-lo) W bw (by omega) aP bg (by rw[aG.o];omega) (by rw[zC,zC,gJ,gJ];omega);rw[aG.o]at bp;clear bR bQ ap a6 aP;go_wp2_with fail;refine bp.mono ?_;rintro e t ⟨rfl,F5,aF,Z⟩;have cb:=aK.o _ t ((H.trans a2).trans Z);clear bp;go_wp2_with fail
   go_roundg j
   .refine⟨i+1,F5,I++mj k part,by go_num,by omega,by rw[<-bC.o],?_,gd bD.o.symm,?_,((z.trans H).trans a2).trans Z⟩
    .rw[ax.o]
     simpa using aF
    .rw[zC,bE.o];omega
   .omega
  .have t5:((k:Int)==31)=false:=by rw[beq_eq_false_iff_ne];omega
   have bl:k<=25:=(by omega);have U:mj k part=gA k 5++kt k part:=(by unfold mj;rw[if_neg hke]);have ax:=gd U;have bf:gM R part F3:=am.o.grow aZ.o (z.trans H);have bq:=EB w3 b F3 _ k part R (f-lo) aY bl bb.o ap bf (by rw[zC,gJ,aG.o];omega);rw[aG.o]at bq;clear hke U hk;go_wp2_with fail;refine bq.mono ?_;rintro e t ⟨rfl,F5,aF,Z⟩;have cb:=aK.o _ t (H.trans Z);clear bq bR bQ ap;go_wp2_with fail
   go_roundg j
   .refine⟨i+1,F5,I++mj k part,by go_num,by omega,by rw[<-bC.o],?_,gd bD.o.symm,?_,(z.trans H).trans Z⟩
    .rw[ax.o]
     simpa using aF
    .rw[zC,bE.o];omega
   .omega
theorem sD{w:World}{p q:gH}{B:Nat->Option Addr}{c:Nat->Nat}{G:List Nat}(cap:Nat)(h:gW w p g o B c G){t:Nat}(cap':Nat)(f:gW w q g' t B' c' G')(x:jv p q):Calls prog 16 #[gN p g o cap,gN q g' t cap'] w λe w'=>e=.returned (.bool true)/\gf [] w w':=by
 have j:=q6 cap h.raw cap' f.raw;rw[Eg h.ok f.ok x]at j;exact j
theorem IJ{w:World}{p:gH}{B:Nat->Option Addr}{c:Nat->Nat}{G:List Nat}(cap:Nat)(h:gW w p g o B c G):Calls prog 16 #[gN p g o cap,.agg #[.int .i64 0,.int .i64 0,.int .i64 0,.slice none 0 0]] w λe w'=>e=.returned (.bool false)/\gf [] w w':=by
 have j:jH w ⟨0,0,0,[]⟩ none (λ_=>none) (λ_=>0) []:=⟨by simp,by simp,by simp,by simp,by simp,by simp⟩;have f:=q6 cap h.raw 0 j;rw[show j9 p.raw ⟨0,0,0,[]⟩=false by simp[j9,iH.isB,qI]]at f;exact f
theorem uW:jA prog 23 22 (.slice none 0 0) 1 24:=.mk' underlying23 (by kernel_rfl)
structure ke (w:World) (xs:List Value) (P:List (List Int)) (gs:List Nat):Prop where
 lx:xs.length=P.length
 lg:gs.length=P.length
 nd:gs.Nodup
 row:∀(i:Nat) (l:List Int),P[i]?=some l->∃u g,xs[i]?=some u/\gs[i]?=some g/\gv w 3 u g (l.map vi)
section
variable {w w':World} {xs:List Value} {P:List (List Int)} {gs F:List Nat}
theorem ke.nil(w:World):ke w [] [] []:=⟨rfl,rfl,nodup_nil,λi l h=>by simp at h⟩
theorem ke.Z(h:ke w xs P gs)(q:gf F w w')(t:∀x∈gs,x∉F):ke w' xs P gs:=
 ⟨h.lx,h.lg,h.nd,λi l hl=>by
  obtain⟨u,g,f,e,j⟩:=h.row i l hl;exact⟨u,g,f,e,j.Z q (t g (mem_of_getElem? e))⟩⟩
theorem ke.Y(h:ke w xs P gs)(e:gf [] w w'):ke w' xs P gs:=h.Z e (by simp)
theorem ke.lt(h:ke w xs P gs):∀x∈gs,x<w.heap.size:=λx hx=>by
 obtain⟨i,hi,rfl⟩:=getElem_of_mem hx;have f:i<P.length:=by rw[<-h.lg];exact hi
 obtain⟨u,g,q,e,j⟩:=h.row i _ (zF f);rw[zF hi]at e;injection e with e;rw[e];exact j.lt
theorem ke.snoc(h:ke w xs P gs)(r:gv w 3 u g (l.map vi))(t:g∉gs):ke w (xs++[u]) (P++[l]) (gs++[g]):=by
 refine⟨by simp[h.lx],by simp[h.lg],?_,λi l' hl=>?_⟩
 .rw[nodup_append]
  refine⟨h.nd,by simp,λa ha b hb=>?_⟩;simp at hb;subst hb;exact λe=>t (by rw[<-e];exact ha)
 .rcases Nat.lt_trichotomy i P.length with hi|hi|hi
  .rw[getElem?_append_left hi]at hl
   obtain⟨x,g',f,j,q⟩:=h.row i l' hl;exact⟨x,g',by rw[getElem?_append_left (by rw[h.lx];exact hi)];exact f,by rw[getElem?_append_left (by rw[h.lg];exact hi)];exact j,q⟩
  .subst hi
   simp at hl;subst hl;exact⟨u,g,by rw[<-h.lx];simp,by rw[<-h.lg];simp,r⟩
  .rw[getElem?_eq_none (by simp;omega)]at hl
   cases hl
theorem ke.set(h:ke w xs P gs)(j:xs[i]?=some u)(e:gs[i]?=some g)(r:gv w' 3 u g (l.map vi))(z:gf [g] w w'):ke w' xs (P.set i l) gs:=by
 refine⟨by rw[h.lx,length_set],by rw[h.lg,length_set],h.nd,λk l' hl=>?_⟩;by_cases hk:i=k
 .subst hk
  have hi:i<P.length:=by rw[<-h.lx];exact(List.getElem?_eq_some_iff.1 j).1
  rw[getElem?_set_self hi]at hl;injection hl with hl;subst hl;exact⟨u,g,j,e,r⟩
 .rw[getElem?_set_ne hk]at hl
  obtain⟨D,g',x,f,y⟩:=h.row k l' hl;refine⟨D,g',x,f,y.Z z λhm=>?_⟩;simp at hm;subst hm;have hi:=(List.getElem?_eq_some_iff.1 e).1;have q:=(List.getElem?_eq_some_iff.1 e).2;have t:=(List.getElem?_eq_some_iff.1 f).2;exact hk ((getElem_inj h.nd).1 (q.trans t.symm))
end
structure iL (w:World) (p:gH) (gP cap:Nat) (xs:List Value) (gs:List Nat):Prop where
 ok:p.Ok
 row:gv w 22 (.slice gP p.P.length cap) gP xs
 pl:ke w xs p.P gs
def OK:Option Value->Option Addr
 | some (.slice a _ _)=>a
 | _=>none
def OL:Option Value->Nat
 | some (.slice _ _ c)=>c
 | _=>0
section
variable {w w':World} {p:gH} {gP cap:Nat} {xs:List Value} {gs F:List Nat}
theorem iL.Z(h:iL w p gP cap xs gs)(e:gf F w w')(f:gP∉F)(j:∀x∈gs,x∉F):iL w' p gP cap xs gs:=⟨h.ok,h.row.Z e f,h.pl.Z e j⟩
theorem iL.Y(h:iL w p gP cap xs gs)(e:gf [] w w'):iL w' p gP cap xs gs:=h.Z e (by simp) (by simp)
theorem iL.ltP(h:iL w p gP cap xs gs):gP<w.heap.size:=h.row.lt
theorem iL.plane(h:iL w p gP cap xs gs)(hi:i<p.P.length):∃g c,xs[i]?=some (.slice (some ⟨g,0,none⟩) (p.W*p.H) c)/\gs[i]?=some g/\gv w 3 (.slice (some ⟨g,0,none⟩) (p.W*p.H) c) g ((p.P.getD i []).map vi)/\w.cell? ⟨gP,i,none⟩=some (.slice (some ⟨g,0,none⟩) (p.W*p.H) c):=by
 have j:p.P[i]?=some (p.P.getD i []):=by rw[zD,zF hi];rfl
 obtain⟨u,g,e,t,f⟩:=h.pl.row i _ j;obtain⟨c,rfl,y,_⟩:=f.oq;have x:(p.P.getD i []).length=p.W*p.H:=h.ok.len _ (mem_of_getElem? j);rw[x]at e f;obtain⟨_,_,_,_,q,_⟩:=h.row.open_;refine⟨g,c,e,t,f,?_⟩;rw[q i (by rw[h.pl.lx];exact hi),e]
theorem iL.at_(h:iL w p gP cap xs gs):gW w p gP 0 (λi=>OK xs[i]?) (λi=>OL xs[i]?) (gP::gs) where
 ok:=h.ok
 gG:=by simp
 lt:=λx y=>by
  rcases zJ.1 y with rfl|y
  .exact h.row.lt
  .exact h.pl.lt x y
 X:=λi hi=>by
  obtain⟨g,c,f,q,j,t⟩:=h.plane hi
  rw[Nat.zero_add,t,f]
  rfl
 cells:=λi hi=>by
  obtain⟨g,c,f,q,j,t⟩:=h.plane hi
  rw[f]
  have H:=j.lt
  obtain⟨c',e,_,_,D,_⟩:=j.oq
  exact⟨λ_=>⟨g,0,rfl,H,λk a ha=>by rw[Nat.zero_add];exact D k a ha⟩⟩
 blk:=λi hi ad e=>by
  obtain⟨g,c,f,q,j,t⟩:=h.plane hi
  rw[f]at e
  injection e with e
  subst e
  exact mem_cons_of_mem _ (mem_of_getElem? q)
 cap:=λi hi=>by
  obtain⟨g,c,f,q,j,t⟩:=h.plane hi
  rw[f]
  obtain⟨c',e,I,z,_⟩:=j.oq
  injection e with _ e1 e2
  subst e2
  exact⟨by show _<=c;omega,z⟩
end
theorem mM{p:gH}(h:i<p.P.length):p.P.getD i []∈p.P:=by
 rw[zD,zF h];exact zG h
theorem iL.setPlane{w w':World}{p e:gH}{gP cap:Nat}{xs:List Value}{gs:List Nat}(h:iL w p gP cap xs gs)(z:xs[i]?=some u)(x:gs[i]?=some g)(r:gv w' 3 u g (l.map vi))(t:gf [g] w w')(f:gP≠g)(j:e.Ok)(q:e.P=p.P.set i l):iL w' e gP cap xs gs:=by
 refine⟨j,?_,?_⟩
 .have y:e.P.length=p.P.length:=by rw[q,length_set]
  rw[y];exact h.row.Z t (by simpa using f)
 .rw[q]
  exact h.pl.set z x r t
theorem iL.neP{w:World}{p:gH}{gP cap:Nat}{xs:List Value}{gs:List Nat}(h:iL w p gP cap xs gs)(hi:i<p.P.length)(j:gs[i]?=some g):gP≠g:=by
 obtain⟨g',c,q,e,f,_⟩:=h.plane hi;rw[j]at e;injection e with e;subst e;exact h.row.ne_row f (by decide)
def oM(l:List Int)(W X Y c:Nat):List Int:=(range c).map λi=>l.getD (Y*W+(X+i)) 0
theorem JP(l:List Int)(W X Y c:Nat):oM l W X Y (c+1)=oM l W X Y c++[l.getD (Y*W+(X+c)) 0]:=by simp[oM,range_succ]
theorem Df(w:World)(A:Option Addr)(cap:Nat)(l:List Int)(W H X Y f z:Nat)(S:l.length=W*H)(hW:W<=64)(hH:H<=64)(D:X+f<=W)(hy:Y+z<=H)(hc:gu vi w A l):Calls prog 78 #[.slice A l.length cap,W,X,Y,f,z] w λe w'=>∃v F,e=.returned v/\gE w' 3 v F ((jb l W X Y f z).map vi)/\gf [] w w'/\∀x∈F,w.heap.size<=x:=by
 have⟨n,hn⟩:=zX l.length;rw[<-hn];have⟨YH,an⟩:=zX (Y+z);have aD:(Y:Int)+(z:Int)=(YH:Int):=by omega
 have⟨XW,am⟩:=zX (X+f);have aC:(X:Int)+(f:Int)=(XW:Int):=by omega
 have aI:n<=4096:=by rw[hn,S];exact zL hW hH
 have⟨HN,HL,aw,al⟩:=gz hn S an am;have az:YH<=64:=by omega
 have ay:XW<=64:=by omega
 have⟨HC,HB⟩:=gy hc (And.intro D hy);clear hn S an am hc D hy;go_enter func78,ntmps78;go_wp2_with fail
 go_loopg [13,14,15] z (λj v13 v14 v15 wr=>∃(k y:Nat) (F:List Nat),v14=.int .i64 y/\gh (y=Y+k)/\y+j=YH/\k+j=z/\gh (gE wr 3 v13 F ((jb l W X Y f k).map vi))/\gh (gf [] w wr)/\gh (∀x∈F,w.heap.size<=x))
 .exact⟨0,Y,[],rfl,gd rfl,by have:=aw.o;omega,by omega,gd (by simpa[jb]using gE.nil w 3),gd (zR _ _),gd (by simp)⟩
 obtain⟨k,y,F,rfl,Z,aL,aH,U,ak,T⟩:=hrel;rcases gk with _|j
 .have t1:decide (y<YH)=false:=zA (by omega)
  have t:=U.o;rw[show k=z by omega]at t;have K:=gd t;clear t;go_wp2;go_ret;exact⟨_,F,rfl,K.o,ak.o,T.o⟩
 .have t1:decide (y<YH)=true:=zB (by omega)
  have aK:y<64:=by omega
  have⟨P,hP⟩:=zX (y*W);have eP:(y:Int)*(W:Int)=(P:Int):=by rw[hP];simp
  have aF:P<=4096:=by rw[hP];exact zL (show y<=64 by omega) hW
  have aA:P+W<=n:=by
   have h1:=HB.o.2;have h3:=mul_le_mul_right W (show y+1<=H by omega);rw[succ_mul,zY H]at h3;have h4:=HN.o;have h5:=HL.o;omega
  have HP:=gd hP;clear hP;go_wp2_with fail
  go_loopg [13,15] f (λL v13 v15 wr2=>∃(c x:Nat) (I:List Nat),v15=.int .i64 x/\gh (x=X+c)/\x+L=XW/\c+L=f/\gh (gE wr2 3 v13 I ((jb l W X Y f k++oM l W X y c).map vi))/\gh (gf [] w wr2)/\gh (∀x∈I,w.heap.size<=x))
  .exact⟨0,X,F,rfl,gd rfl,by have:=al.o;omega,by omega,gd (by simpa[oM]using U.o),ak,T⟩
  obtain⟨c,x,I,rfl,V,aJ,aG,K,J,O⟩:=hrel;rcases gk with _|L
  .have t2:decide (x<XW)=false:=zA (by omega)
   have t:=K.o;rw[show c=f by omega]at t;have e:jb l W X Y f k++oM l W X y f=jb l W X Y f (k+1):=(by rw[Co,Z.o];rfl);rw[e]at t;have ar:=gd t;clear t e;go_wp2_with fail
   go_roundg j
   .exact⟨k+1,y+1,I,by go_num,gd (by rw[Z.o];omega),by omega,by omega,ar,J,O⟩
   .omega
  .have t2:decide (x<XW)=true:=zB (by omega)
   have⟨q,hq⟩:=zX (P+x);have aE:(P:Int)+(x:Int)=(q:Int):=(by omega);have aB:q<n:=(by have:=HB.o.1;have:=al.o;omega);have R:q<l.length:=(by rw[<-HN.o];exact aB);obtain⟨g,o,rfl,M⟩:=(HC.o.Y J.o).at_ R;have⟨v,hv⟩:=zX (l[q]);rw[<-hv]at M;have c1:wr.cell? ⟨g,o+q,none⟩=some (.int .i64 v):=M;have ap:oM l W X y (c+1)=oM l W X y c++[v]:=by
    rw[JP,hv,<-V.o,<-HP.o,<-hq,zD,zF R];rfl
   have av:=gd ap;have ac:(jb l W X Y f k++oM l W X y c).length<=8192:=by
    rw[zC,pK];have h1:=zL (show k<=64 by omega) (show f<=64 by omega);simp[oM];omega
   have ab:=gd ac;have ad:=K.o.alloc (.cells #[.int .i64 v] 3);clear M hv ap ac R hq
   go_wp2_with(at_builtin;refine jT rfl rfl iJ rfl rfl ad (.int .i64 v) rfl ?c1 ?c2 ?c3 ?c4 ?_)
   case c1=>simp[go_sem]
   case c2=>rfl
   case c3=>rw[zE];have:=ab.o;omega
   case c4=>rw[zE];have:=ab.o;omega
   intro g2 ax w2 ao Q;have au:=gd ao.S;have aq:gh (gf [] w w2):=gd ((J.o.alloc _).trans Q.Z (λx D=>.inr (O.o x D)));have ai:gh (∀x∈[g2],w.heap.size<=x):=gd (λx D=>by
    rcases Q.new x D with h|h
    .exact O.o x h
    .have h5:=J.o.size
     have h6:=((zR [] wr).alloc (.cells #[.int .i64 v] 3)).size;omega)
   clear ao Q ad;go_wp2_with fail
   go_roundg L
   .refine⟨c+1,x+1,[g2],by go_num,gd (by rw[V.o];omega),by omega,by omega,gd ?_,aq,ai⟩
    rw[av.o,zM,zM];exact au.o
   .omega
theorem sg(w:World)(o:Obj):(w.alloc o).heap.size=w.heap.size+1:=by
 show(w.heap.push o).size=_;exact Array.size_push _
def nu(i a b c d:Nat):List Nat:=if i=0 then[a,b,c,d]else if i=1 then[d,b,c,a]else[d,c,b,a]
theorem N6(w:World)(g a b c d cap:Nat)(h:gv w 5 (.slice g 4 cap) g ([a,b,c,d].map b8)):Calls prog 99 #[.slice g 4 cap] w λe w'=>e=.returned (.tuple #[])/\gv w' 5 (.slice g 4 cap) g ([d,c,b,a].map b8)/\gf [g] w w':=by
 have D:=gd h;clear h;go_enter func99,ntmps99;go_wp2_with fail
 go_loopg [2,3] 2 (λk s2 s3 wr=>∃i:Nat,i+k=2/\s2=.int .i64 i/\s3=.int .i64 (3-(i:Int))/\gh (gv wr 5 (.slice g 4 cap) g ((nu i a b c d).map b8))/\gh (gf [g] w wr))
 .exact⟨0,rfl,rfl,rfl,gd D.o,gd (zR _ _)⟩
 obtain⟨i,z,rfl,rfl,j,t⟩:=hrel;rcases(show i=0\/i=1\/i=2 by omega)with rfl|rfl|rfl
 .obtain⟨_,_,_,_,f,ad⟩:=j.o.open_
  have H:=f 0 (by simp[nu]);have c3:=f 3 (by simp[nu]);have I:=ad 0;have f3:=ad 3;simp[nu,b8]at H c3;obtain rfl:gk=2:=by omega
  have q:gv ((wr.setCell g (.int .u8 d)).setCell ⟨g,3,none⟩ (.int .u8 a)).drew 5 (.slice g 4 cap) g ((nu 1 a b c d).map b8) :=
   ((j.o.T (i:=0) (by simp[nu]) (.int .u8 d)).T (i:=3) (by simp[nu]) (.int .u8 a)).drew
  have x:=gd q;have y:=gd (((t.o.setCell (p:=⟨g,0,none⟩) (.inl (by simp)) (.int .u8 d)).setCell (p:=⟨g,3,none⟩) (.inl (by simp)) (.int .u8 a)).drew);clear f ad z q;go_wp2_with fail
  go_region
  go_wp2
  go_roundg 1
  .exact⟨1,rfl,by go_num,by go_num,x,y⟩
  .omega
 .obtain⟨_,_,_,_,f,ad⟩:=j.o.open_
  have c1:=f 1 (by simp[nu]);have c2:=f 2 (by simp[nu]);have f1:=ad 1;have f2:=ad 2;simp[nu,b8]at c1 c2;obtain rfl:gk=1:=by omega
  have q:gv ((wr.setCell ⟨g,1,none⟩ (.int .u8 c)).setCell ⟨g,2,none⟩ (.int .u8 b)).drew 5 (.slice g 4 cap) g ((nu 2 a b c d).map b8) :=
   ((j.o.T (i:=1) (by simp[nu]) (.int .u8 c)).T (i:=2) (by simp[nu]) (.int .u8 b)).drew
  have x:=gd q;have y:=gd (((t.o.setCell (p:=⟨g,1,none⟩) (.inl (by simp)) (.int .u8 c)).setCell (p:=⟨g,2,none⟩) (.inl (by simp)) (.int .u8 b)).drew);clear f ad z q;go_wp2_with fail
  go_region
  go_wp2
  go_roundg 0
  .exact⟨2,rfl,by go_num,by go_num,x,y⟩
  .omega
 .go_wp2
  go_end0
  exact⟨rfl,j.o,t.o⟩
theorem Ke(w:World):Calls prog 140 #[(4:Int)] w λe w'=>e=.returned (.int .i64 4)/\w=w':=by
 go_enter func140,ntmps140;go_wp2;go_ret;exact⟨rfl,rfl⟩
def og(n i:Nat):List Nat:=(range i).map λk=>n / 256^k%256
theorem KF(n i:Nat):og n (i+1)=og n i++[n / 256^i%256]:=by simp[og,range_succ]
theorem KE(n:Nat):og n 4=[n%256,n / 256%256,n / 65536%256,n / 16777216%256]:=by simp[og,range_succ]
theorem LB(n:Nat)(X:n<4294967296)(w:World):Calls prog 98 #[.int .u64 n,(4:Int)] w λe w'=>∃(g cap:Nat),e=.returned (.slice g 4 cap)/\gv w' 5 (.slice g 4 cap) g ((og n 4).map b8)/\gf [] w w'/\w.heap.size<=g:=by
 have T:=λw'=>Ke w';go_enter func98,ntmps98;go_wp2_with fail;refine gx (T _) ?_;go_wp2_with fail
 go_loopg [0,5,8] 4 (λj v0 v5 v8 wr=>∃(i m:Nat) (F:List Nat),v8=.int .i64 i/\i+j=4/\v0=.int .u64 m/\gh (m=n / 256^i)/\m<4294967296/\gh (gE wr 5 v5 F ((og n i).map b8))/\gh (gf [] w wr)/\gh (∀x∈F,w.heap.size<=x)/\gh (0<i->v5≠.slice none 0 0))
 .exact⟨0,n,[],rfl,rfl,rfl,gd (by simp),X,gd (gE.nil _ _),gd (zR _ _),gd (by simp),gd (by simp)⟩
 obtain⟨i,m,F,rfl,aq,rfl,D,hm,H,f,t,M⟩:=hrel;rcases gk with _|j
 .obtain rfl:i=4:=by omega
  rcases H.o.cases with⟨Y,_⟩|⟨g,y,hF⟩
  .exact absurd Y (M.o (by omega))
  .obtain⟨cap,rfl,_⟩:=y.oq
   have U:=t.o g (by rw[hF];simp);have O:=gd y;clear y;go_wp2;go_ret;exact⟨g,cap,rfl,O.o,f.o,U⟩
 .have t1:=i6 i 4 (by omega)
  have ad:(m:Int)%256=((m%256:Nat):Int):=by omega
  have Q:(m:Int) / 256=((m / 256:Nat):Int):=by omega
  have⟨r,hr⟩:=zX (m%256);have⟨q,hq⟩:=zX (m / 256);rw[<-hr]at ad;rw[<-hq]at Q;have S:q<4294967296:=by omega
  have K:og n (i+1)=og n i++[r]:=by rw[KF,<-D.o,<-hr]
  have L:q=n / 256^(i+1):=by rw[hq,D.o,Nat.pow_succ,Nat.div_div_eq_div_mul]
  have⟨ak,al⟩:=gy K L;have R:=H.o.alloc (.cells #[.int .u8 r] 5);have ar:IntKind.u8.wrap (r:Int)=(r:Int):=by rw[IntKind.wrap_u8];omega
  have I:gh ((og n i).length=i):=gd (by simp[og]);clear K L hr hq
  go_wp2_with(at_builtin;refine jT rfl rfl ku rfl rfl R (.int .u8 r) rfl ?c1 ?c2 ?c3 ?c4 ?_)
  case c1=>simp[go_sem]
  case c2=>rfl
  case c3=>simp[I.o];omega
  case c4=>simp[I.o];omega
  intro W Z w2 V J;go_wp2_with fail
  go_roundg j
  .refine⟨i+1,q,[W],by go_num,by omega,rfl,gd al.o,S,gd ?_,gd ?_,gd ?_,gd (by simp)⟩
   .rw[ak.o,zM]
    exact V.S
   .exact(f.o.tq ((zR [] wr).alloc _)).trans J.Z λx z=>.inr (t.o x z)
   .intro x z
    rcases J.new x z with h|h
    .exact t.o x h
    .have:=f.o.size;rw[sg]at h;omega
  .omega
theorem EU(n:Nat)(z:n<4294967296)(w:World):Calls prog 74 #[.int .u64 n,(4:Int)] w λe w'=>∃(g cap:Nat),e=.returned (.slice g 4 cap)/\gv w' 5 (.slice g 4 cap) g ((iK n).map b8)/\gf [] w w'/\w.heap.size<=g:=by
 have h:=LB n z w;go_enter func74,ntmps74;go_wp2_with fail;refine h.mono ?_;rintro e D ⟨g,cap,rfl,f,ad,y⟩;rw[KE]at f;have t:=N6 D g _ _ _ _ cap f;clear h f;go_wp2_with fail;refine t.mono ?_;rintro e H ⟨rfl,j,q⟩;go_wp2;go_ret;exact⟨g,cap,rfl,j,ad.trans q (λx hx=>.inr (by simp at hx;omega)),y⟩
theorem gv.cells_b8{w:World}{l:List Nat}(h:gv w 5 v g (l.map b8)):∃cap,v=.slice g l.length cap/\l.length<=cap/\cap<=9223372036854775807/\gu b8 w (some ⟨g,0,none⟩) l:=by
 have e:=h.lt;obtain⟨cap,rfl,f,j,q,t⟩:=h.oq;exact⟨cap,rfl,f,j,⟨λ_=>⟨g,0,rfl,e,λi a ha=>by rw[Nat.zero_add];exact q i a ha⟩⟩⟩
theorem gu.raw_b8{w:World}{A:Option Addr}{l:List Nat}(h:gu b8 w A l):gu (λu=>u) w A (l.map b8):=⟨λh0=>by
 obtain⟨b,o,e,f,j⟩:=h.ex (by simpa using h0);refine⟨b,o,e,f,λi a ha=>?_⟩;rw[zW]at ha;obtain⟨x,q,rfl⟩:=Option.map_eq_some_iff.1 ha;exact j i x q⟩
theorem gv.cellsB{w:World}{c:Nat}{l:List Nat}(h:gv w 5 (.slice g' n c) g (l.map b8)):gu (λu=>u) w (some ⟨g',0,none⟩) (l.map b8):=by
 obtain⟨cap,e,_,_,f⟩:=gv.cells_b8 h;injection e with e _ _;rw[e];exact f.raw_b8
theorem y8{w:World}{e:TypeId}{F:List Nat}{ys:List Value}(h:gE w e v F ys)(f:ys.length=N)(x:0<N):∃g c,v=.slice (some ⟨g,0,none⟩) N c/\gv w e (.slice (some ⟨g,0,none⟩) N c) g ys/\F=[g]:=by
 rcases h.cases with⟨_,t,_⟩|⟨g,q,hF⟩
 .rw[t]at f
  simp at f;omega
 .have j:=q
  obtain⟨c,rfl,_⟩:=q.open_;rw[f]at j⊢;exact⟨g,c,rfl,j,hF⟩
def lY(l:List Int)(d:Nat):Nat->Nat->Nat
 | 0,_=>0
 | f+1,a=>if a<l.length/\l.getD a 0=l.getD (a-d) 0 then lY l d f (a+1)+1 else 0
theorem Fo(l:List Int)(d:Nat):∀f a,lY l d f a<=f
 | 0,_=>zQ _
 | f+1,a=>by
  unfold lY
  have:=Fo l d f (a+1)
  split<;>omega
theorem EK(l:List Int)(d:Nat):∀f a,lY l d f a=min f (lY l d (f+1) a)
 | 0,_=>by simp[lY]
 | f+1,a=>by
  rw[lY,lY];split
  .have:=EK l d f (a+1)
   omega
  .simp
def jw(l:List Int)(a d:Nat):Nat:=lY l d 64 a
theorem Cw(l:List Int)(a d:Nat):jw l a d=if a<l.length/\l.getD a 0=l.getD (a-d) 0 then min (jw l (a+1) d+1) 64 else 0:=by
 unfold jw;rw[lY];split
 .have h:=EK l d 63 (a+1)
  rw[show 63+1=64 from rfl]at h;omega
 .rfl
theorem EI(l:List Int)(a d:Nat):jw l a d<=64:=Fo _ _ _ _
theorem LA(h:l.length<=a)(d:Nat):jw l a d=0:=by rw[Cw,if_neg (by omega)]
theorem Cv(l:List Int)(d:Nat):∀f a,lY l d f a<=l.length-a
 | 0,_=>zero_le _
 | f+1,a=>by
  unfold lY;split
  .have:=Cv l d f (a+1)
   omega
  .exact zero_le _
def lM(l:List Int)(a:Nat):Nat->Nat
 | 0=>0
 | m+1=>max (lM l a m) (jw l a (m+1))
theorem sR(l:List Int)(a:Nat):∀m,lM l a m<=64/\lM l a m<=l.length-a
 | 0=>by simp[lM]
 | m+1=>by
  have e:=sR l a m;have f:=EI l a (m+1);have h:jw l a (m+1)<=l.length-a:=Cv _ _ _ _;simp only[lM];omega
def kZ(l:List Int)(a:Nat):Nat:=lM l a (min a 1024)
def oW(l:List Int)(a n:Nat):Nat->Nat->Nat
 | 0,d=>d
 | f+1,d=>if jw l a d<n then oW l a n f (d+1)else d
def pV(l:List Int)(a n:Nat):Nat:=oW l a n 1024 1
theorem AU{l:List Int}{a n e:Nat}(j:n<=jw l a e):∀f d,d<=e->e<=d+f->(∀k,d<=k->k<e->jw l a k<n)->oW l a n f d=e
 | 0,d,h1,h2,_=>by simp only[oW];omega
 | f+1,d,h1,h2,h=>by
  unfold oW;by_cases hd:d=e
  .subst hd
   rw[if_neg (by omega)]
  .rw[if_pos (h d (zQ _) (by omega))]
   exact AU j f (d+1) (by omega) (by omega) λk h3 h4=>h k (by omega) h4
theorem yr:∀f (D:List Nat) m d n,(kY f D m d).getD n 0=if m<n/\n<=m+f/\n<D.length then d else D.getD n 0
 | 0,D,m,d,n=>by rw[if_neg (by omega)];rfl
 | f+1,D,m,d,n=>by
  rw[kY,yr f,oz,length_set];by_cases h1:n=m+1
  .subst h1
   by_cases h2:m+1<D.length
   .rw[if_neg (by omega),if_pos ⟨rfl,h2⟩,if_pos (by omega)]
   .rw[if_neg (by omega),if_neg (by omega),if_neg (by omega)]
  .by_cases h2:m<n/\n<=m+(f+1)/\n<D.length
   .rw[if_pos (by omega),if_pos h2]
   .rw[if_neg (by omega),if_neg (by omega),if_neg h2]
structure tz (l:List Int) (a d:Nat) (rs:List Nat) (s:mw):Prop where
 new:∀k,1<=k->k<d->s.runs.getD k 0=jw l a k
 old:∀k,d<=k->s.runs.getD k 0=rs.getD k 0
 long:s.N=lM l a (d-1)
 R:∀n,s.N<n->s.dists.getD n 0=0
 near:∀n,1<=n->n<=s.N->1<=s.dists.getD n 0/\s.dists.getD n 0<d/\n<=jw l a (s.dists.getD n 0)/\∀k,1<=k->k<s.dists.getD n 0->jw l a k<n
def vg(l:List Int)(a:Nat)(rs:List Nat):Prop:=∀d,1<=d->d<=min a 1024->rs.getD d 0=jw l a d
theorem Ei{l:List Int}{a k:Nat}(e:1<=k):∀ {m},k<=m->jw l a k<=lM l a m
 | 0,h=>by omega
 | m+1,h=>by
  rw[lM];by_cases h1:k=m+1
  .subst h1;omega
  .have:=Ei (l:=l) (a:=a) e (show k<=m by omega);omega
theorem IB{s:mw}(j:s.Ok)(H:vg l (a+1) rs)(D:a<l.length)(q:1<=d)(L:d<=min a 1024)(h:tz l a d rs s):tz l a (d+1) rs (lB l a s d):=by
 have f:mI l a s.runs d=jw l a d:=by
  unfold mI;rw[Cw,h.old d (zQ _),H d q (by omega)];by_cases e:l.getD a 0=l.getD (a-d) 0
  .rw[if_pos e,if_pos ⟨D,e⟩]
  .rw[if_neg e,if_neg (λc=>e c.2)]
 have ad:=EI l a d;have K:=j.dl;have z:max s.N (jw l a d)=lM l a (d+1-1):=by
  obtain⟨e,rfl⟩:∃e,d=e+1:=⟨d-1,by omega⟩;rw[Nat.add_sub_cancel,lM,h.long,Nat.add_sub_cancel]
 refine⟨λk hk0 hk=>?_,λk hk=>?_,?_,λn hn=>?_,λn hn0 hn=>?_⟩
 .simp only[lB,f]
  rw[oz];by_cases e:d=k
  .subst e;rw[if_pos ⟨rfl,by have:=j.rl;omega⟩]
  .rw[if_neg (by omega),h.new k hk0 (by omega)]
 .simp only[lB,f]
  rw[oz,if_neg (by omega),h.old k (by omega)]
 .simp only[lB,f]
  exact z
 .simp only[lB,f]at hn⊢
  rw[yr,if_neg (by omega),h.R n (by omega)]
 .simp only[lB,f]at hn⊢
  rw[yr];have J:=j.l64;by_cases e:s.N<n
  .rw[if_pos (by omega)]
   refine⟨q,by omega,by omega,λk hk0 hk=>?_⟩
   have:=Ei (l:=l) (a:=a) hk0 (show k<=d-1 by omega)
   have:=h.long
   omega
  .rw[if_neg (by omega)]
   obtain⟨t,I,x,y⟩:=h.near n hn0 (by omega);exact⟨t,by omega,x,y⟩
theorem Dx{l:List Int}{a:Nat}{rs:List Nat}(j:vg l (a+1) rs)(e:a<l.length):∀f d s,s.Ok->1<=d->d+f<=min a 1024+1->tz l a d rs s->tz l a (d+f) rs (oN l a f d s)
 | 0,_,_,_,_,_,h=>h
 | f+1,d,s,ho,h1,h2,h=>by
  have:=Dx j e f (d+1) _ (yq (l:=l) (at_:=a) ho (by omega)) (by omega) (by omega) (IB ho j e h1 (by omega) h)
  rw[show d+(f+1)=d+1+f by omega];exact this
theorem CA(e:rC rs)(h:vg l (a+1) rs)(f:a<l.length):tz l a (1+min a 1024) rs (kX l a rs):=
 Dx h f (min a 1024) 1 _ (xW e) (zQ _) (by omega)
  ⟨λk h1 h2=>by omega,λk _=>rfl,rfl,λn _=>by
   show(replicate 65 0).getD n 0=0;rw[zD,getElem?_replicate];split<;>rfl,λn h1 h2=>by simp[qB]at h2;omega⟩
def oP(l:List Int)(a s:Nat):gK:=if s=0 then⟨0,0,l.getD a 0⟩else⟨s,pV l a s,0⟩
theorem yO(l:List Int)(a s:Nat):(oP l a s).len=s:=by
 unfold oP;split
 .exact(‹s=0›).symm
 .rfl
structure pu (N vl:Nat) (v:Nat->Nat) (best step:Nat):Prop where
 lit:step=0->best=vl/\∀k,3<=k->k<=N->vl<v k
 cop:step≠0->3<=step/\step<=N/\best=v step/\best<=vl/\∀k,3<=k->k<=N->v step<=v k/\(v k=v step->k<=step)
theorem pu.uniq{v:Nat->Nat}{x s':Nat}(h:pu N vl v b s)(q:pu N vl v x s'):b=x/\s=s':=by
 by_cases e:s=0
 .obtain⟨K,t⟩:=h.lit e
  by_cases e':s'=0
  .obtain⟨L,_⟩:=q.lit e'
   omega
  .obtain⟨f,j,z,D,_⟩:=q.cop e'
   have:=t s' f j
   omega
 .obtain⟨f,j,z,D,H⟩:=h.cop e
  by_cases e':s'=0
  .obtain⟨_,t⟩:=q.lit e'
   have:=t s f j
   omega
  .obtain⟨c1,c2,c3,c4,c5⟩:=q.cop e'
   have I:=H s' c1 c2;have J:=c5 s f j;have y:v s=v s':=by omega
   have:=I.2 y.symm
   have:=J.2 y
   omega
def rM(cp:Nat)(C:Nat->Nat)(D:List Nat)(n:Nat)(s:Nat × gK):Nat × gK:=
 if n<3\/D.getD n 0=0 then s else if C n+cp<=s.1 then(C n+cp,⟨n,D.getD n 0,0⟩)else s
def rS(cp:Nat)(C:Nat->Nat)(D:List Nat):Nat->Nat->Nat × gK->Nat × gK
 | 0,_,s=>s
 | f+1,n,s=>rS cp C D f (n+1) (rM cp C D n s)
theorem O0{α:Type}{l:List α}(h:i<l.length)(v d:α):(l.set i v).getD i d=v:=by
 rw[zD,getElem?_set_self h];rfl
theorem Ee{cp k:Nat}{C:List Nat}{F:List gK}{D:List Nat}(h:k<C.length):∀f n (s:Nat × gK),mu cp k D f n (C.set k s.1,F.set k s.2)=(C.set k (rS cp (λn=>C.getD (k+n) 0) D f n s).1,F.set k (rS cp (λn=>C.getD (k+n) 0) D f n s).2)
 | 0,_,_=>rfl
 | f+1,n,s=>by
  rw[mu,rS];have e:ns cp k D n (C.set k s.1,F.set k s.2)=(C.set k (rM cp (λn=>C.getD (k+n) 0) D n s).1,F.set k (rM cp (λn=>C.getD (k+n) 0) D n s).2):=by
   unfold ns rM;split
   .rfl
   .have j:(C.set k s.1).getD (k+n) 0=C.getD (k+n) 0:=by rw[oz,if_neg (by omega)]
    simp only[j,O0 h];split
    .simp only[set_set]
    .rfl
  rw[e];exact Ee h f (n+1) _
structure Up (N vl:Nat) (v:Nat->Nat) (D:List Nat) (l:List Int) (a m:Nat) (s:Nat × gK):Prop where
 sel:pu (min N (m-1)) vl v s.1 s.2.len
 tok:s.2=if s.2.len=0 then⟨0,0,l.getD a 0⟩else⟨s.2.len,D.getD s.2.len 0,0⟩
theorem Om{cp:Nat}{C:Nat->Nat}{D:List Nat}{s:Nat × gK}(J:∀n,3<=n->(D.getD n 0=0 ↔ N<n))(h:Up N vl (λn=>C n+cp) D l a m s):Up N vl (λn=>C n+cp) D l a (m+1) (rM cp C D m s):=by
 unfold rM;obtain⟨⟨f,y⟩,H⟩:=h;have L:=J m;by_cases e:m<3\/D.getD m 0=0
 .rw[if_pos e]
  refine⟨⟨λe0=>⟨(f e0).1,λk hk hk2=>(f e0).2 k hk (by omega)⟩,λe0=>?_⟩,H⟩;obtain⟨x,z,j,q,t⟩:=y e0;exact⟨x,by omega,j,q,λk hk hk2=>t k hk (by omega)⟩
 .rw[if_neg e]
  by_cases e2:C m+cp<=s.1
  .rw[if_pos e2]
   refine⟨⟨λe0=>by simp only at e0;omega,λ_=>⟨by simp only;omega,by simp only;omega,rfl,?_,λk hk hk2=>?_⟩⟩,by rw[if_neg (by simp only;omega)]⟩
   .by_cases e0:s.2.len=0
    .have:=(f e0).1;simp only;omega
    .obtain⟨_,_,_,q,_⟩:=y e0;simp only;omega
   .by_cases e0:s.2.len=0
    .obtain⟨K,I⟩:=f e0
     by_cases e3:k=m
     .subst e3;simp only;omega
     .have:=I k hk (by omega)
      simp only at this⊢;omega
    .obtain⟨x,z,j,q,t⟩:=y e0
     by_cases e3:k=m
     .subst e3;simp only;omega
     .have:=t k hk (by omega)
      simp only at this j⊢;omega
  .rw[if_neg e2]
   refine⟨⟨λe0=>⟨(f e0).1,λk hk hk2=>?_⟩,λe0=>?_⟩,H⟩
   .by_cases e3:k=m
    .subst e3;have:=(f e0).1;omega
    .exact(f e0).2 k hk (by omega)
   .obtain⟨x,z,j,q,t⟩:=y e0
    refine⟨x,by omega,j,q,λk hk hk2=>?_⟩;by_cases e3:k=m
    .subst e3
     try simp only at j⊢
     omega
    .exact t k hk (by omega)
theorem FS{N vl cp:Nat}{C:Nat->Nat}{D:List Nat}{l:List Int}{a:Nat}(e:∀n,3<=n->(D.getD n 0=0 ↔ N<n)):∀f m s,Up N vl (λn=>C n+cp) D l a m s->Up N vl (λn=>C n+cp) D l a (m+f) (rS cp C D f m s)
 | 0,_,_,h=>h
 | f+1,m,s,h=>by
  rw[show m+(f+1)=m+1+f by omega];exact FS e f (m+1) _ (Om e h)
def jp(l:List Int)(lit cp:Nat):Nat->lG
 | 0=>qD l.length
 | j+1=>p8 l lit cp (l.length-(j+1)) (jp l lit cp j)
theorem FE(l:List Int)(e cp:Nat):∀k j,k+j=l.length->oQ l e cp k (jp l e cp j)=jp l e cp l.length
 | 0,j,h=>by rw[show j=l.length by omega];rfl
 | k+1,j,h=>by
  rw[oQ]
  have:=FE l e cp k (j+1) (by omega)
  rw[jp,show l.length-(j+1)=k by omega]at this;exact this
theorem I9(l:List Int)(e cp:Nat):pR l e cp=jp l e cp l.length:=FE l e cp l.length 0 (by omega)
theorem rB(l:List Int)(e cp:Nat):∀j,j<=l.length->(jp l e cp j).Ok l.length e (l.length-j)
 | 0,_=>x6 _ _
 | j+1,h=>by
  have f:=rB l e cp j (by omega);rw[show l.length-j=l.length-(j+1)+1 by omega]at f;exact yD f (by omega)
theorem Dz(l:List Int)(e cp:Nat):∀j,j<=l.length->vg l (l.length-j) (jp l e cp j).runs
 | 0,_=>λd h1 h2=>by
  rw[LA (by omega)];show(replicate 1025 0).getD d 0=0;rw[zD,getElem?_replicate];split<;>rfl
 | j+1,h=>λd h1 h2=>by
  have f:=rB l e cp j (by omega);have q:=Dz l e cp j (by omega);rw[show l.length-j=l.length-(j+1)+1 by omega]at q;exact(CA ⟨f.rl,λx hx=>(f.rb x hx).1⟩ q (by omega)).new d h1 (by omega)
theorem DA(l:List Int)(f cp:Nat){j:Nat}(h:j<l.length):∃b s,(jp l f cp (j+1)).costs=(jp l f cp j).costs.set (l.length-(j+1)) b /\ (jp l f cp (j+1)).first=(jp l f cp j).first.set (l.length-(j+1)) (oP l (l.length-(j+1)) s) /\ pu (kZ l (l.length-(j+1))) ((jp l f cp j).costs.getD (l.length-(j+1)+1) 0+f) (λn=>(jp l f cp j).costs.getD (l.length-(j+1)+n) 0+cp) b s:=by
 have⟨k,hk⟩:=zX (l.length-(j+1));have t:=rB l f cp j (by omega);have K:=Dz l f cp j (by omega);rw[show l.length-j=k+1 by omega]at K t;rw[<-hk];have⟨S,hS⟩:=zX (jp l f cp j);have T:jp l f cp (j+1)=p8 l f cp k S:=by rw[jp,<-hk,hS]
 rw[T,<-hS];rw[<-hS]at t K;have z:=CA ⟨t.rl,λx hx=>(t.rb x hx).1⟩ K (show k<l.length by omega);have M:k<S.costs.length:=by have:=t.pair.cl;simp only at this;omega
 have Z:(kX l k S.runs).N=kZ l k:=by
  have:=z.long
  rw[show 1+min k 1024-1=min k 1024 by omega]at this;exact this
 have ad:=sR l k (min k 1024);have V:∀n,3<=n->((kX l k S.runs).dists.getD n 0=0 ↔ kZ l k<n):=λn hn=>by
  constructor
  .intro L
   rcases zZ (kZ l k) n with y|y
   .exact y
   .have:=(z.near n (by omega) (by omega)).1
    omega
  .intro y
   exact z.R n (by omega)
 have L:Up (kZ l k) (S.costs.getD (k+1) 0+f) (λn=>S.costs.getD (k+n) 0+cp) (kX l k S.runs).dists l k 0 (S.costs.getD (k+1) 0+f,⟨0,0,l.getD k 0⟩) :=
  ⟨⟨λ_=>⟨rfl,λk y h2=>by omega⟩,λe=>absurd rfl e⟩,by simp⟩
 have I:=FS (cp:=cp) (C:=λn=>S.costs.getD (k+n) 0) V 65 0 _ L;have J:=Ee (cp:=cp) (k:=k) (C:=S.costs) (F:=S.first) (D:=(kX l k S.runs).dists) M 65 0 (S.costs.getD (k+1) 0+f,⟨0,0,l.getD k 0⟩);have⟨r,ae⟩:=zX (rS cp (λn=>S.costs.getD (k+n) 0) (kX l k S.runs).dists 65 0 (S.costs.getD (k+1) 0+f,⟨0,0,l.getD k 0⟩));rw[<-ae]at I J;have H:=I.sel;rw[show min (kZ l k) (0+65-1)=kZ l k by unfold kZ;omega]at H;refine⟨r.1,r.2.len,?_,?_,H⟩
 .show(mu cp k (kX l k S.runs).dists 65 0 (lW l f k S)).1=_
  unfold lW;rw[J]
 .show(mu cp k (kX l k S.runs).dists 65 0 (lW l f k S)).2=_
  unfold lW;rw[J]
  congr 1
  rw[I.tok];by_cases e:r.2.len=0
  .rw[if_pos e]
   unfold oP;rw[if_pos rfl]
  .rw[if_neg e]
   unfold oP;simp only;rw[if_neg e];obtain⟨W,X,_⟩:=H.cop e;obtain⟨O,Y,Q,R⟩:=z.near r.2.len (by omega) (by omega);have U:pV l k r.2.len=(kX l k S.runs).dists.getD r.2.len 0:=AU Q 1024 1 O (by omega) λq hq1 hq2=>R q hq1 hq2;rw[U]
theorem xL(F:List gK)(k:Nat)(t:gK)(i:Nat):iy (F.set k t) i=if k=i/\k<F.length then t else iy F i:=by
 unfold iy;rw[zD,zD,getElem?_set];by_cases h:k=i
 .subst h
  by_cases h2:k<F.length
  .simp[h2]
  .simp[h2]
 .simp[h]
structure Fx (l:List Int) (F:List gK) (i:Nat):Prop where
 tok:iy F i=oP l i (iy F i).len
 cop:(iy F i).len≠0->3<=(iy F i).len/\(iy F i).len<=kZ l i
theorem BN(l:List Int)(f cp:Nat):∀j,j<=l.length->∀i,l.length-j<=i->i<l.length->Fx l (jp l f cp j).first i
 | 0,_,i,h1,h2=>by omega
 | j+1,hj,i,h1,h2=>by
  obtain⟨b,s,_,z,D⟩:=DA l f cp (show j<l.length by omega);have H:(jp l f cp j).first.length=l.length:=(rB l f cp j (by omega)).pair.fl;rw[z];by_cases e:l.length-(j+1)=i
  .subst e
   have q:iy ((jp l f cp j).first.set (l.length-(j+1)) (oP l (l.length-(j+1)) s)) (l.length-(j+1))=oP l (l.length-(j+1)) s:=by
    rw[xL,if_pos ⟨rfl,by omega⟩]
   refine⟨?_,?_⟩
   .rw[q,yO]
   .rw[q,yO]
    intro h;obtain⟨x,y,_⟩:=D.cop h;exact⟨x,y⟩
  .have q:iy ((jp l f cp j).first.set (l.length-(j+1)) (oP l (l.length-(j+1)) s)) i=iy (jp l f cp j).first i:=by
    rw[xL,if_neg (by omega)]
   have t:=BN l f cp j (by omega) i (by omega) h2;exact⟨by rw[q];exact t.tok,by rw[q];exact t.cop⟩
theorem Ej{l:List Int}{a s:Nat}(q:0<s):∀ {m},s<=lM l a m->∃e,1<=e/\e<=m/\s<=jw l a e
 | 0,h=>by simp only[lM]at h;omega
 | m+1,h=>by
  rw[lM]at h;by_cases h1:s<=jw l a (m+1)
  .exact⟨m+1,by omega,by omega,h1⟩
  .obtain⟨e,f,t,j⟩:=Ej (l:=l) (a:=a) q (m:=m) (by omega)
   exact⟨e,f,by omega,j⟩
theorem Mx(f:0<s)(h:s<=kZ l a):∃e,1<=e/\e<=a/\e<=1024/\s<=jw l a e:=by
 obtain⟨e,j,t,q⟩:=Ej f h;exact⟨e,j,by omega,by omega,q⟩
structure oG (E:Nat) (v:Nat->Nat) (k:Nat) (best:Int) (s:Nat):Prop where
 none:best<0->k=E
 some:0<=best->k<E/\k<s/\3<=s/\s<=E/\best=(v s:Nat)/\∀j,k<j->j<=E->v s<=v j/\(v j=v s->j<=s)
theorem IY(E:Nat)(v:Nat->Nat)(s:Nat):oG E v E (-1) s:=⟨λ_=>rfl,λh=>by omega⟩
theorem Kp{v:Nat->Nat}(h:oG E v (k+1) best s)(q:3<=k+1)(t:k+1<=E)(y:best<0\/((v (k+1):Nat):Int)<best):oG E v k (v (k+1):Nat) (k+1):=by
 refine⟨λh0=>by omega,λ_=>⟨by omega,by omega,q,t,rfl,λj hj hj2=>?_⟩⟩;by_cases e:j=k+1
 .subst e;exact⟨zQ _,λ_=>zQ _⟩
 .by_cases hb:best<0
  .have:=h.none hb;omega
  .obtain⟨_,_,_,_,x,f⟩:=h.some (by omega)
   have:=f j (by omega) hj2
   omega
theorem Ko{v:Nat->Nat}(h:oG E v (k+1) best s)(H:¬(best<0))(y:¬((v (k+1):Nat):Int)<best):oG E v k best s:=by
 obtain⟨z,D,f,q,t,x⟩:=h.some (by omega);refine⟨λh0=>by omega,λ_=>⟨by omega,by omega,f,q,t,λj hj hj2=>?_⟩⟩;by_cases e:j=k+1
 .subst e;omega
 .exact x j (by omega) hj2
theorem Mh{v:Nat->Nat}(h:oG (if N<3 then 0 else N) v k best s)(t:k<3)(x:best<0\/(vl:Int)<best):pu N vl v vl 0:=by
 refine⟨λ_=>⟨rfl,λj hj hj2=>?_⟩,λe=>absurd rfl e⟩;rw[if_neg (by omega)]at h;by_cases hb:best<0
 .have:=h.none hb;omega
 .obtain⟨_,_,_,_,q,f⟩:=h.some (by omega)
  have:=(f j (by omega) hj2).1
  omega
theorem Mg{v:Nat->Nat}(h:oG (if N<3 then 0 else N) v k best s)(H:k<3)(I:¬best<0)(x:¬(vl:Int)<best):pu N vl v best.toNat s/\3<=s:=by
 obtain⟨y,z,q,f,D,t⟩:=h.some (by omega);by_cases hN:N<3
 .rw[if_pos hN]at f;omega
 .rw[if_neg hN]at f t
  refine⟨⟨λe=>by omega,λ_=>⟨q,f,by omega,by omega,λj hj hj2=>t j (by omega) hj2⟩⟩,q⟩
structure rK (l:List Int) (lit cp t:Nat) (Y:List Nat):Prop where
 len:Y.length=l.length+1
 at_:∀i,l.length-t<=i->i<l.length->Y.getD i 0=(iy (jp l lit cp t).first i).len
theorem JV{l:List Int}{f cp t:Nat}{Y q:List Nat}{b s:Nat}(J:t<l.length)(h:rK l f cp t Y)(H:q.length=l.length+1)(D:∀i,l.length-(t+1)<i->q.getD i 0=Y.getD i 0)(I:q.getD (l.length-(t+1)) 0=s)(j:pu (kZ l (l.length-(t+1))) ((jp l f cp t).costs.getD (l.length-(t+1)+1) 0+f) (λn=>(jp l f cp t).costs.getD (l.length-(t+1)+n) 0+cp) b s):rK l f cp (t+1) q/\(jp l f cp (t+1)).costs=(jp l f cp t).costs.set (l.length-(t+1)) b:=by
 obtain⟨L,M,x,y,z⟩:=DA l f cp J;obtain⟨rfl,rfl⟩:=j.uniq z;have K:(jp l f cp t).first.length=l.length:=(rB l f cp t (by omega)).pair.fl;refine⟨⟨H,λi h1 h2=>?_⟩,x⟩;rw[y,xL];by_cases e:l.length-(t+1)=i
 .rw[if_pos ⟨e,by omega⟩,yO,<-e,I]
 .rw[if_neg (by omega),D i (by omega),h.at_ i (by omega) h2]
theorem gv.nat_cell{w:World}(h:gv w 3 v g (C.map i64))(hi:i<C.length):w.cell? ⟨g,i,none⟩=some (.int .i64 (C.getD i 0:Nat))/\w.frozen? ⟨g,i,none⟩=false:=by
 obtain⟨_,_,_,_,e,f⟩:=h.oq;refine⟨?_,f i⟩;rw[zD,zF hi];exact e i _ (zF hi)
theorem gv.nat_set{w:World}(h:gv w 3 v g (C.map i64))(hi:i<C.length)(x:Nat):gv (w.setCell ⟨g,i,none⟩ (.int .i64 (x:Nat))) 3 v g ((C.set i x).map i64):=by
 rw[map_set];exact h.T (by rw[zE];exact hi) _
theorem gv.nat_zeros(w:World)(m:Nat)(h:m<=1048576):gv (w.alloc (.cells (replicate m (Value.int .i64 0)).toArray 3)) 3 (.slice (some ⟨w.heap.size,0,none⟩) m m) w.heap.size ((replicate m 0).map i64):=by
 have:=gv.made w 3 (replicate m (Value.int .i64 0)) (by simp[maxLen];omega)
 rw[map_replicate]
 simpa[i64]using this
theorem uh(h:∀b∈bs,b<2):∀d∈iE bs,d<256:=by
 intro d e;obtain⟨i,_,rfl⟩:=List.mem_map.1 e;exact xS h i
theorem p7(h:∀b∈bs,b<2)(k:Nat):bt bs k<2:=by
 unfold bt;rw[zD]
 cases hx:bs[k]? with
 | none=>simp
 | some x=>exact h x (mem_of_getElem? hx)
theorem GR(h:∀b∈bs,b<2)(hi:i<bs.length):nK (iE bs) i=bt bs i:=by
 have j:i / 8<(bs.length+7) / 8:=by omega
 have e:(iE bs).getD (i / 8) 0=j4 bs (i / 8):=by
  rw[zD];unfold iE;rw[zW,getElem?_range j];rfl
 unfold nK;rw[e];have⟨q,ab⟩:=zX (i / 8);have⟨r,ac⟩:=zX (i%8);have f:i=8*q+r:=by omega
 have ad:r<8:=by omega
 rw[<-ab,<-ac,f];have t:=p7 h (8*q);have x:=p7 h (8*q+1);have y:=p7 h (8*q+2);have z:=p7 h (8*q+3);have D:=p7 h (8*q+4);have H:=p7 h (8*q+5);have I:=p7 h (8*q+6);have J:=p7 h (8*q+7);unfold j4;clear ab ac f j e hi;obtain rfl|rfl|rfl|rfl|rfl|rfl|rfl|rfl:r=0\/r=1\/r=2\/r=3\/r=4\/r=5\/r=6\/r=7:=by omega
 all_goals
  simp only[Nat.add_zero,Nat.sub_zero,Nat.sub_self,Nat.reduceSub,Nat.reducePow];omega
theorem Gd(h:∀b∈bs,b<2):∃rest,oC (iE bs)=bs++rest:=by
 refine⟨(oC (iE bs)).drop bs.length,?_⟩;have e:(oC (iE bs)).take bs.length=bs:=by
  apply ext_getElem?;intro i;rcases zZ i bs.length with hi|hi
  .rw[getElem?_take,if_pos hi,Bi (by rw[mL];omega),GR h hi]
   unfold bt;rw[zD,zF hi];rfl
  .rw[getElem?_take,if_neg (by omega),getElem?_eq_none hi]
 have f:=take_append_drop bs.length (oC (iE bs));rw[e]at f;exact f.symm
theorem AE{A B:List Nat}(h:∀b∈A++B++C,b<2):jG (iE (A++B++C)) A.length B:=by
 obtain⟨rest,e⟩:=Gd h;refine⟨C++rest,?_⟩;rw[e,zH,zH,drop_left]
def rR(ds:List Nat):ByteArray:=strOfNums (ds.map Int.ofNat)
theorem gu.raw{α:Type}{f:α->Value}{w:World}{A:Option Addr}{l:List α}(h:gu f w A l):gu (λu=>u) w A (l.map f):=⟨λh0=>by
 obtain⟨b,o,e,j,q⟩:=h.ex (by simpa using h0);refine⟨b,o,e,j,λi a ha=>?_⟩;rw[zW]at ha;obtain⟨x,t,rfl⟩:=Option.map_eq_some_iff.1 ha;exact q i x t⟩
theorem LF{w:World}{A:Option Addr}{cap:Nat}{f:List Nat}(t:gu b8 w A f)(j:0<n)(x:n=f.length):(Go.convert 40 9 (.slice A n cap)).run prog w=.ok (.string (rR f)) w:=by
 subst x;obtain⟨g,o,rfl,y,h⟩:=t.ex j;exact run_convert_bytes_arg w 40 5 underlying40 underlying5 g o _ cap (f.map Int.ofNat) (by simp) (λi hi=>by
  have q:=h i _ (zF hi);rw[q];have e:(f.map Int.ofNat).getD i 0=(f[i]:Nat):=by
   rw[zD,zW,zF hi];rfl
  rw[e];rfl) 9 underlying9
def th(w:World)(b:Nat)(F ds:List Nat)(p:Nat)(l:List Int)(n:Nat)(e:Ending)(w':World):Prop:=
 ∃v G,e=.returned (.tuple #[v,(0:Int)])/\gE w' 3 v G (l.map vi)/\iU w' b F ds (p+n)/\gf [b] w w'/\∀x∈G,w.heap.size<=x
theorem KS{α:Type}{l:List α}{x:α}(h:l.Nodup)(t:x∉l):(l.set i x).Nodup:=by
 rw[Nodup,pairwise_iff_getElem]at h⊢;intro a b f j y e;rw[length_set]at f j;have q:∀k (hk:k<l.length),l[k]∈l:=λk hk=>zG hk;rw[getElem_set,getElem_set]at e;split at e
 .split at e
  .omega
  .exact t (e ▸ q b j)
 .split at e
  .exact t (e ▸ q a f)
  .exact h a b f j y e
theorem ke.replace{w w':World}{xs:List Value}{P:List (List Int)}{gs F:List Nat}(h:ke w xs P gs)(hi:i<P.length)(r:gv w' 3 u g (l.map vi))(q:gf F w w')(t:∀x∈gs,x∉F)(y:g∉gs):ke w' (xs.set i u) (P.set i l) (gs.set i g):=by
 refine⟨by rw[length_set,length_set,h.lx],by rw[length_set,length_set,h.lg],KS h.nd y,λk l' hl=>?_⟩;by_cases hk:i=k
 .subst hk
  rw[getElem?_set_self hi]at hl;injection hl with hl;subst hl;exact⟨u,g,getElem?_set_self (by rw[h.lx];exact hi),getElem?_set_self (by rw[h.lg];exact hi),r⟩
 .rw[getElem?_set_ne hk]at hl
  obtain⟨z,g',f,e,j⟩:=h.row k l' hl;exact⟨z,g',by rw[getElem?_set_ne hk];exact f,by rw[getElem?_set_ne hk];exact e,j.Z q (t g' (mem_of_getElem? e))⟩
theorem iL.replace{w j:World}{p q:gH}{gP cap:Nat}{xs:List Value}{gs F:List Nat}(h:iL w p gP cap xs gs)(hi:i<p.P.length)(r:gv j 3 u g (l.map vi))(H:gf F w j)(hF:∀x∈gP::gs,x∉F)(R:w.heap.size<=g)(y:q.Ok)(D:q.P=p.P.set i l):iL (j.setCell ⟨gP,i,none⟩ u) q gP cap (xs.set i u) (gs.set i g):=by
 have ad:g∉gs:=λf=>by have:=h.pl.lt g f;omega
 have L:gP≠g:=λe=>by have:=h.ltP;omega
 have J:gP∉gs:=λf=>by
  obtain⟨k,I,e⟩:=getElem_of_mem f;have M:k<p.P.length:=by rw[<-h.pl.lg];exact I
  have:=h.neP M (zF I)
  exact this e.symm
 have K:gf [gP] j (j.setCell ⟨gP,i,none⟩ u):=(zR [gP] j).zs i u;refine⟨y,?_,?_⟩
 .have Q:q.P.length=p.P.length:=by rw[D,length_set]
  rw[Q];exact(h.row.Z H (hF gP (by simp))).T (by rw[h.pl.lx];exact hi) u
 .rw[D]
  have O:=h.pl.replace hi r H (λx z=>hF x (by simp[z])) ad;refine O.Z K ?_;intro x z f;simp at f;subst f;rcases mem_or_eq_of_mem_set z with t|t
  .exact J t
  .exact L t
theorem iL.sample{w:World}{p j:gH}{gP cap:Nat}{xs:List Value}{gs:List Nat}(h:iL w p gP cap xs gs){v:Int}(D:xs[i]?=some u)(t:gs[i]?=some g)(hi:i<p.P.length)(z:gv w 3 u g ((p.P.getD i []).map vi))(y:k<(p.P.getD i []).length)(f:j.Ok)(x:j.P=p.P.set i ((p.P.getD i []).set k v)):iL (w.setCell ⟨g,k,none⟩ (.int .i64 v)) j gP cap xs gs:=by
 have q:=z.T (i:=k) (by rw[zE];exact y) (.int .i64 v);have e:((p.P.getD i []).map vi).set k (.int .i64 v)=((p.P.getD i []).set k v).map vi:=by rw[map_set];rfl
 rw[e]at q;exact h.setPlane D t q ((zR [g] w).zs k _) (h.neP hi t) f x
def vB(p:gH)(i:Nat)(l:List Int):gH:=⟨p.W,p.H,p.d,p.P.set i l⟩
theorem Fp{p:gH}(h:p.Ok)(i:Nat)(f:l.length=p.W*p.H)(j:gU p.d l):(vB p i l).Ok where
 w0:=h.w0
 w1:=h.w1
 h0:=h.h0
 h1:=h.h1
 d0:=h.d0
 d1:=h.d1
 n0:=by show 1<=(p.P.set i l).length;rw[length_set];exact h.n0
 n1:=by show(p.P.set i l).length<=4;rw[length_set];exact h.n1
 len:=λx hx=>by
  rcases mem_or_eq_of_mem_set hx with e|e
  .exact h.len x e
  .rw[e];exact f
 smp:=λx hx=>by
  rcases mem_or_eq_of_mem_set hx with e|e
  .exact h.smp x e
  .rw[e];exact j
theorem Cx{p q:gH}(h:jv p q)(i:Nat)(l:List Int):jv p (vB q i l):=⟨h.W,h.H,h.d,by show _=(q.P.set i l).length;rw[length_set];exact h.n⟩
theorem N9(h:gU d l)(k:Nat){v:Int}(f:0<=v)(j:v<2^d):gU d (l.set k v):=by
 intro x q;rcases mem_or_eq_of_mem_set q with e|e
 .exact h x e
 .rw[e];exact⟨f,j⟩
theorem C4{w:World}{r:iH}{A:Option Addr}{B:Nat->Option Addr}{c:Nat->Nat}{G:List Nat}(cap:Nat)(h:jH w r A B c G):Calls prog 4 #[ip r A cap] w λe w'=>∃b,e=.returned (.bool b)/\gf [] w w':=by
 obtain⟨W,H,d,P⟩:=r;unfold ip;simp only;have⟨n,hn⟩:=zX P.length;have⟨w1,aa⟩:=zX (w.alloc (.cells #[W,H,d,.slice A n cap] 25));have f:=jD aa;have q:gn w1 w.heap.size 25 #[W,H,d,.slice A n cap]:=by rw[aa];exact gn.new w _ _
 have D:=q.X 3;simp at D;have⟨h1,aj,ac⟩:=gS (h.Y f) aa f;have K:n<=9223372036854775807:=by rw[hn];exact h.many
 rw[<-hn];have y:=gd hn;clear aa q f h hn;go_enter func4,ntmps4;go_wp2_with fail;rw[<-aj.o]
 go_loopg [3,4] n (λj v3 v4 wr=>∃(i:Nat) (N:Int),v3=.int .i64 N/\v4=.int .i64 i/\i+j=n/\w1=wr)
 .exact⟨0,0,rfl,rfl,by omega,rfl⟩
 obtain⟨i,N,rfl,rfl,L,rfl⟩:=hrel;rcases gk with _|j
 .obtain rfl:i=n:=by omega
  have Q:decide (i<i)=false:=by simp
  go_wp2;go_ret;exact⟨_,rfl,ac.o⟩
 .have hi:i<n:=by omega
  have x:i<P.length:=by rw[<-y.o];exact hi
  obtain⟨g,o,rfl,I,t⟩:=h1.o.ex (by show 0<P.length;omega);have z:=t i x;simp only at z;generalize (P.getD i []).length=m at *;have⟨N1,ad⟩:=zX (IntKind.i64.wrap (N+1));have M:=ad.symm;have⟨N2,ae⟩:=zX (IntKind.i64.wrap (N1+(m:Int)));have O:=ae.symm;clear t x I ad ae;by_cases h4:4200<N2
  .have J:decide (4200<N2)=true:=zB h4
   clear h4;go_wp2;go_ret;exact⟨_,rfl,ac.o⟩
  .have J:decide (4200<N2)=false:=zA h4
   clear h4;go_wp2
   go_roundg j
   .exact⟨i+1,N2,by simp,by go_num,by omega,rfl⟩
   .omega
end Go.Proofs.YtnepiccbpokmiaaGreatDoor
