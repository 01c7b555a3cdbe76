/- Lemmas. -/
import Derived.Test.YtifdlkoepaepiaaGreatDoorMg36
import Derived.Test.YtifdlkoepaepiaaGreatDoorMg29
set_option linter.all false
set_option maxHeartbeats 2000000
set_option maxRecDepth 100000
namespace Go.Proofs.YtifdlkoepaepiaaGreatDoor
open Tryz List Nat Go.RowKit
variable {d:Nat}
def nj (l:List Int) (W d i:Nat):Nat:=(pY (kL l W i) d).toNat
theorem uH(l:List Int)(W d i:Nat):nj l W d i<=12:=by
 have:=Ea (kL l W i) d
 unfold nj;omega
theorem Eb(l:List Int)(W d i:Nat):((nj l W d i:Nat):Int)=pY (kL l W i) d:=by
 have:=Ea (kL l W i) d
 unfold nj;omega
def kN (l:List Int) (W d:Nat):Nat->ij
 | 0=>mj 429
 | i+1=>mc (kN l W d i) (33*nj l W d i) (jU l W d i)
theorem qD(l:List Int)(W:Nat){d:Nat}(b:1<=d)(c:d<=16):∀i,iw (kN l W d i)/\(kN l W d i).L.length=429/\(kN l W d i).low.length<=4+65*i
 | 0=>⟨MN _,zV,by show([0,0,0,0]:List Nat).length<=4+65*0;decide⟩
 | i+1=>by
  obtain⟨f,g,k⟩:=qD l W b c i;have j:=uH l W d i;have e:=sM l W b i;have a:jU l W d i<4294967296:=Nat.lt_of_lt_of_le e (Nat.le_trans (Nat.pow_le_pow_right (n:=2) (by decide) c) (by decide));have h:=Oh (kN l W d i) (33*nj l W d i) a;exact⟨O7 f a (by omega),by unfold kN;rw[Jy,g],by unfold kN;omega⟩
def nv (l:List Int) (W d:Nat):List Nat:=(kN l W d l.length).low
def pG (l:List Int) (W d:Nat):List Nat:=gx (nv l W d).length 16++(nv l W d).flatMap λx=>gx x 8
theorem yY(l:List Int)(W:Nat)(a:1<=d)(b:d<=16):(nv l W d).length<=4+65*l.length:=(qD l W a b l.length).2.2
theorem DQ(l:List Int)(W:Nat)(a:1<=d)(b:d<=16):∀x∈nv l W d,x<256:=(qD l W a b l.length).1.dig
theorem J7(w:World)(b:Nat)(F bs:List Nat)(l:List Int)(A:Option Addr)(s W d:Nat)(h:hJ w b F bs)(K:1<=W)(hw1:W<=16)(B:1<=d)(C:d<=16)(hl:l.length<=256)(J:l.length<=64*W)(hs:ie d l)(c:gz vi w A l)(hA:ib A l F)(hbs:bs.length<68719476736):Calls prog 127 #[.pointer b,.slice A l.length s,W,d] w λe w'=>e=.returned (.tuple #[])/\∃F',hJ w' b F' (bs++pG l W d)/\gE F F' w w':=by
 have O:=λw c=>z8 l A s W d w B C K (by omega) J hs c (by omega);have ae:=λi (hi:i<l.length) w c=>xA l A s W d i w B C K (by omega) (by omega) (by omega) hs c (by omega);have a6:pG l W d=gx (nv l W d).length 16++(nv l W d).flatMap λx=>gx x 8:=rfl;have T:=yY l W B C;have aV:=DQ l W B C;have S:nv l W d=(kN l W d l.length).low:=rfl;rw[a6];have⟨R,hR⟩:=zX (nv l W d);rw[<-hR]at T aV S⊢;have N:=Kq l W d;have M:∀i,i<l.length->(pR l W d)[i]?=some (jU l W d i:Int):=λi hi=>by simp[pR,jH,hi]
 have D:=λi=>sM l W B i;have ay:=λi=>qD l W B C i;have⟨f,hf⟩:=zX (pR l W d);rw[<-hf]at O N M;have⟨n,hn⟩:=zX l.length;rw[<-hn]at O ae T S N M hl⊢;have a3:=h.lt;have⟨ba,HN,be,bc⟩:=gu O ae aV S;have⟨bd,aL,a9,aM⟩:=gu T N M D;have⟨aK,bq,bb⟩:=gX ay hn a3;clear O ae aV S T N M D ay hn hA a3 a6 hR hf hs J;go_enter func127,ntmps127;go_wp2_with fail;have a5:=Kz 429 w (by omega) (by omega);refine a5.mono ?_;rintro e w1 ⟨cb,cg,ch,rfl,g,aP,br,bh,bu⟩;have a1:=ba.o w1 (c.Y aP);clear a5;go_wp2_with fail;refine a1.mono ?_;rintro e w2 ⟨fv,Y,rfl,an,aQ,bk⟩;obtain⟨fc,rfl,bj,bx,_,_⟩:=an.T;rw[aL.o]at bj⊢;have y:gz vi w2 (some ⟨Y,0,none⟩) f:=an.R.cells;have ag:=g.Y aQ;have bm:=g.lt;have ar:=aP.tq aQ;clear a1 an aP aQ g;go_wp2_with fail
 go_loopg [28] n (λj iv wr=>∃(i z:Nat),iv=.int .i64 i/\i+j=n/\kI 270 wr cb z ch (kN l W d i)/\gz vi wr (some ⟨Y,0,none⟩) f/\w.heap.size<=z/\z≠Y/\gg [] w wr)
 .exact⟨0,cg,rfl,by omega,ag,y,bh,by omega,ar⟩
 clear ag y ar;obtain⟨i,z,rfl,bD,g,y,bz,bC,G⟩:=hrel;have p:=aK.o i;rcases gk with _|j
 .obtain rfl:i=n:=by omega
  have L:=Nt wr cb z ch _ g p.1 (by have:=p.2.2;omega);rw[<-bc.o]at L;clear p g;have aU:R.length<2^16:=by have:=bd.o;omega
  have⟨r,hr⟩:=zX R.length;rw[<-hr]at L aU;have HR:=gd hr;clear hr;go_wp2_with fail;refine L.mono ?_;rintro e Z ⟨I,c3,rfl,ah,m,bA⟩;have aA:=h.Y (G.tq m);have o:gz b8 Z (some ⟨I,0,none⟩) R:=ah.R.cells;have bo:=G.size;have u:ib (some ⟨I,0,none⟩) R F:=λ_ ad e hm=>by
   injection e with e;subst e
   have:=bb.o _ hm
   simp at this;omega
  have aO:=G.tq m;clear L ah y h;go_wp2_with fail;have bF:r<65536:=aU;refine(iG Z b F bs r 16 aA (by omega) aU (by omega)).mono ?_;rintro e w4 ⟨rfl,F4,aB,V⟩;have av:=o.N u V.Z;have au:=u.grow o V;have H:=gE.pre aO V;clear aA o u V;go_wp2_with fail
  go_loopg [57] r (λj iv wr=>∃(q:Nat) (F' E:List Nat),iv=.int .i64 q/\q+j=r/\hJ wr b F' E/\gh (E=bs++gx r 16++(R.take q).flatMap λx=>gx x 8)/\E.length<=bs.length+16+8*q/\gz b8 wr (some ⟨I,0,none⟩) R/\ib (some ⟨I,0,none⟩) R F'/\gE F F' w wr)
  .exact⟨0,F4,_,rfl,by omega,aB,gd (by simp),by rw[zC,gH];omega,av,au,H⟩
  clear aB av au H;obtain⟨q,F',E,rfl,bE,a7,Hb,bw,o,u,H⟩:=hrel;rcases gk with _|j
  .obtain rfl:q=r:=by omega
   go_wp2
   go_end0
   refine⟨rfl,F',?_,H⟩;have e:R.take q=R:=(by rw[HR.o,zN]);have h5:=Hb.o;rw[e,zH]at h5;rw[<-HR.o,<-h5];exact a7
  .have bn:q<r:=by omega
   have Q:q<R.length:=(by rw[<-HR.o];exact bn);obtain⟨g5,o5,a,t⟩:=o.at_ Q;injection a with a;injection a with a e6 _;subst a;subst e6;have a8:=be.o R[q] (zG Q);have aW:(R.take (q+1)).flatMap (λx=>gx x 8)=(R.take q).flatMap (λx=>gx x 8)++gx R[q] 8:=(by rw[jD R Q,flatMap_append,flatMap_cons,flatMap_nil,append_nil]);have⟨x,hx⟩:=zX (R[q]);rw[<-hx]at t a8 aW;have aR:wr.cell? ⟨I,0+q,none⟩=some (.int .u8 x):=t;rw[Nat.zero_add]at aR;have bp:x<2^8:=a8;have bf:=gd aW;clear aW hx t Q;go_wp2_with fail;refine(iG wr b F' E x 8 a7 (by omega) bp (by omega)).mono ?_;rintro e w5 ⟨rfl,F5,aX,al⟩;go_wp2_with fail
   go_roundg j
   .refine⟨q+1,F5,_,by go_num,by omega,aX,gd ?_,?_,o.N u al.Z,u.grow o al,H.trans al⟩
    .rw[bf.o,Hb.o];simp only[zH]
    .rw[zC,gH];omega
   .omega
 .have aT:i<n:=by omega
  have a2:=a9.o i aT;have bl:i<f.length:=by rw[aL.o];exact aT
  obtain⟨g5,o5,a,_,a0⟩:=y.ex (by omega);injection a with a;injection a with a e6 _;subst a;subst e6;have t:=a0 i _ a2;rw[Nat.zero_add]at t;have aR:wr.cell? ⟨Y,i,none⟩=some (.int .i64 (jU l W d i:Int)):=t;have P:=HN.o i aT wr (c.Y G);rw[<-Eb]at P;have bi:=uH l W d i;have U:kN l W d (i+1)=mc (kN l W d i) (33*nj l W d i) (jU l W d i):=rfl;have D:=aM.o i;have aS:jU l W d i<65536:=Nat.lt_of_lt_of_le D (Nat.pow_le_pow_right (n:=2) (by decide) C);have⟨v,hv⟩:=zX (jU l W d i);rw[<-hv]at aR U aS;have⟨k,hk⟩:=zX (nj l W d i);rw[<-hk]at P bi U;have am:=λw c=>PC w cb z ch (kN l W d i) (33*k) v c p.1 (by rw[p.2.1];omega) (by omega) (by have:=p.2.2;omega);rw[<-U]at am;generalize jV 7 (kL l W i) d=gs at *;have⟨aN,aY⟩:=gy am y;clear U hk hv D am t a0 a2 bl p;go_wp2_with fail;refine P.mono ?_;rintro e Z ⟨rfl,m⟩;have a4:=aN.o Z (g.Y m);have bg:((33*k:Nat):Int)=33*(k:Int):=by simp
  rw[bg]at a4;clear P;go_wp2_with fail;refine a4.mono ?_;rintro e w4 ⟨rfl,g4,ax,aZ,bB⟩;go_wp2_with fail
  go_roundg j
  .have bo:=m.size
   refine⟨i+1,g4,by go_num,by omega,ax,?_,?_,?_,?_⟩
   .exact(aY.o.Y m).Z aZ (λad e hm=>by
     injection e with e;subst e;simp at hm;omega)
   .omega
   .obtain⟨b9,o9,X,bv,_⟩:=aY.o.ex (by rw[aL.o];omega)
    injection X with X;injection X with X _ _;omega
   .exact(G.tq m).trans aZ (λx hx=>by
     simp at hx;omega)
  .omega
end Go.Proofs.YtifdlkoepaepiaaGreatDoor
