/- Lemmas. -/
import Derived.Test.YtnepiccbpokmiaaGreatDoorMg39
import Derived.Test.YtnepiccbpokmiaaGreatDoorMg27
set_option linter.all false
set_option maxHeartbeats 2000000
set_option maxRecDepth 100000
namespace Go.Proofs.YtnepiccbpokmiaaGreatDoor
open Tryz List Nat Go.RowKit
variable {d:Nat}
def oe(l:List Int)(W d i:Nat):Nat:=(nF (lO l W i) d).toNat
theorem yU(l:List Int)(W d i:Nat):oe l W d i<=12:=by
 have:=CM (lO l W i) d
 unfold oe;omega
theorem CN(l:List Int)(W d i:Nat):((oe l W d i:Nat):Int)=nF (lO l W i) d:=by
 have:=CM (lO l W i) d
 unfold oe;omega
def lV(l:List Int)(W d:Nat):Nat->ix
 | 0=>pg 429
 | i+1=>nt (lV l W d i) (33*oe l W d i) (kM l W d i)
theorem tj(l:List Int)(W:Nat){d:Nat}(b:1<=d)(c:d<=16):∀i,iY (lV l W d i)/\(lV l W d i).M.length=429/\(lV l W d i).low.length<=4+65*i
 | 0=>⟨KR _,zV,by show([0,0,0,0]:List Nat).length<=4+65*0;decide⟩
 | i+1=>by
  obtain⟨k1,k2,k3⟩:=tj l W b c i;have g:=yU l W d i;have e:=uv l W b i;have a:kM l W d i<4294967296:=Nat.lt_of_lt_of_le e (Nat.le_trans (Nat.pow_le_pow_right (n:=2) (by decide) c) (by decide));have f:=MK (lV l W d i) (33*oe l W d i) a;exact⟨NT k1 a (by omega),by unfold lV;rw[GB,k2],by unfold lV;omega⟩
def mn(l:List Int)(W d:Nat):List Nat:=(lV l W d l.length).low
def qX(l:List Int)(W d:Nat):List Nat:=gA (mn l W d).length 16++(mn l W d).flatMap λx=>gA x 8
theorem xk(l:List Int)(W:Nat)(a:1<=d)(b:d<=16):(mn l W d).length<=4+65*l.length:=(tj l W a b l.length).2.2
theorem Cu(l:List Int)(W:Nat)(a:1<=d)(b:d<=16):∀x∈mn l W d,x<256:=(tj l W a b l.length).1.dig
theorem Ha(w:World)(b:Nat)(F bs:List Nat)(l:List Int)(A:Option Addr)(cap W d:Nat)(h:hJ w b F bs)(J:1<=W)(hw1:W<=16)(z:1<=d)(B:d<=16)(hl:l.length<=256)(I:l.length<=64*W)(hs:gU d l)(c:gu vi w A l)(hA:gM A l F)(hbs:bs.length<68719476736):Calls prog 137 #[.pointer b,.slice A l.length cap,W,d] w λe w'=>e=.returned (.tuple #[])/\∃F',hJ w' b F' (bs++qX l W d)/\gB F F' w w':=by
 have N:=λw c=>x4 l A cap W d w z B J (by omega) I hs c (by omega);have ae:=λi (hi:i<l.length) w c=>EN l A cap W d i w z B J (by omega) (by omega) (by omega) hs c (by omega);have a6:qX l W d=gA (mn l W d).length 16++(mn l W d).flatMap λx=>gA x 8:=rfl;have S:=xk l W z B;have aV:=Cu l W z B;have Q:mn l W d=(lV l W d l.length).low:=rfl;rw[a6];have⟨R,hR⟩:=zX (mn l W d);rw[<-hR]at S aV Q⊢;have M:=xd l W d;have L:∀i,i<l.length->(k8 l W d)[i]?=some (kM l W d i:Int):=λi hi=>by simp[k8,jN,hi]
 have C:=λi=>uv l W z i;have ay:=λi=>tj l W z B i;have⟨f,hf⟩:=zX (k8 l W d);rw[<-hf]at N M L;have⟨n,hn⟩:=zX l.length;rw[<-hn]at N ae S Q M L hl⊢;have a3:=h.lt;have⟨ba,HN,be,bc⟩:=gz N ae aV Q;have⟨bd,aL,a9,aM⟩:=gz S M L C;have⟨aK,bq,bb⟩:=gS ay hn a3;clear N ae aV Q S M L C ay hn hA a3 a6 hR hf hs I;go_enter func137,ntmps137;go_wp2_with fail;have a5:=Ig 429 w (by omega) (by omega);refine a5.mono ?_;rintro e w1 ⟨cb,cg,ch,rfl,g,aP,br,bh,bu⟩;have a1:=ba.o w1 (c.Y aP);clear a5;go_wp2_with fail;refine a1.mono ?_;rintro e w2 ⟨fv,X,rfl,an,aQ,bk⟩;obtain⟨fc,rfl,bj,bx,_,_⟩:=an.oq;rw[aL.o]at bj⊢;have u:gu vi w2 (some ⟨X,0,none⟩) f:=an.S.cells;have ag:=g.Y aQ;have bm:=g.lt;have ar:=aP.tq aQ;clear a1 an aP aQ g;go_wp2_with fail
 go_loopg [28] n (λj iv wr=>∃(i y:Nat),iv=.int .i64 i/\i+j=n/\iZ 248 wr cb y ch (lV l W d i)/\gu vi wr (some ⟨X,0,none⟩) f/\w.heap.size<=y/\y≠X/\gf [] w wr)
 .exact⟨0,cg,rfl,by omega,ag,u,bh,by omega,ar⟩
 clear ag u ar;obtain⟨i,y,rfl,bD,g,u,bz,bC,E⟩:=hrel;have p:=aK.o i;rcases gk with _|j
 .obtain rfl:i=n:=by omega
  have K:=L3 wr cb y ch _ g p.1 (by have:=p.2.2;omega);rw[<-bc.o]at K;clear p g;have aU:R.length<2^16:=by have:=bd.o;omega
  have⟨r,hr⟩:=zX R.length;rw[<-hr]at K aU;have Z:=gd hr;clear hr;go_wp2_with fail;refine K.mono ?_;rintro e Y ⟨H,c3,rfl,ah,m,bA⟩;have aA:=h.Y (E.tq m);have o:gu b8 Y (some ⟨H,0,none⟩) R:=ah.S.cells;have bo:=E.size;have t:gM (some ⟨H,0,none⟩) R F:=λ_ ad e hm=>by
   injection e with e;subst e
   have:=bb.o _ hm
   simp at this;omega
  have aO:=E.tq m;clear K ah u h;go_wp2_with fail;have bF:r<65536:=aU;refine(i8 Y b F bs r 16 aA (by omega) aU (by omega)).mono ?_;rintro e w4 ⟨rfl,F4,aB,U⟩;have av:=o.Q t U.Z;have au:=t.grow o U;have G:=gB.pre aO U;clear aA o t U;go_wp2_with fail
  go_loopg [57] r (λj iv wr=>∃(q:Nat) (F' D:List Nat),iv=.int .i64 q/\q+j=r/\hJ wr b F' D/\gh (D=bs++gA r 16++(R.take q).flatMap λx=>gA x 8)/\D.length<=bs.length+16+8*q/\gu b8 wr (some ⟨H,0,none⟩) R/\gM (some ⟨H,0,none⟩) R F'/\gB F F' w wr)
  .exact⟨0,F4,_,rfl,by omega,aB,gd (by simp),by rw[zC,gJ];omega,av,au,G⟩
  clear aB av au G;obtain⟨q,F',D,rfl,bE,a7,Hb,bw,o,t,G⟩:=hrel;rcases gk with _|j
  .obtain rfl:q=r:=by omega
   go_wp2
   go_end0
   refine⟨rfl,F',?_,G⟩;have e:R.take q=R:=(by rw[Z.o,zN]);have h5:=Hb.o;rw[e,zH]at h5;rw[<-Z.o,<-h5];exact a7
  .have bn:q<r:=by omega
   have P:q<R.length:=(by rw[<-Z.o];exact bn);obtain⟨g5,o5,a,s⟩:=o.at_ P;injection a with a;injection a with a e6 _;subst a;subst e6;have a8:=be.o R[q] (zG P);have aW:(R.take (q+1)).flatMap (λx=>gA x 8)=(R.take q).flatMap (λx=>gA x 8)++gA R[q] 8:=(by rw[jd R P,flatMap_append,flatMap_cons,flatMap_nil,append_nil]);have⟨x,hx⟩:=zX (R[q]);rw[<-hx]at s a8 aW;have aR:wr.cell? ⟨H,0+q,none⟩=some (.int .u8 x):=s;rw[Nat.zero_add]at aR;have bp:x<2^8:=a8;have bf:=gd aW;clear aW hx s P;go_wp2_with fail;refine(i8 wr b F' D x 8 a7 (by omega) bp (by omega)).mono ?_;rintro e w5 ⟨rfl,F5,aX,al⟩;go_wp2_with fail
   go_roundg j
   .refine⟨q+1,F5,_,by go_num,by omega,aX,gd ?_,?_,o.Q t al.Z,t.grow o al,G.trans al⟩
    .rw[bf.o,Hb.o];simp only[zH]
    .rw[zC,gJ];omega
   .omega
 .have aT:i<n:=by omega
  have a2:=a9.o i aT;have bl:i<f.length:=by rw[aL.o];exact aT
  obtain⟨g5,o5,a,_,a0⟩:=u.ex (by omega);injection a with a;injection a with a e6 _;subst a;subst e6;have s:=a0 i _ a2;rw[Nat.zero_add]at s;have aR:wr.cell? ⟨X,i,none⟩=some (.int .i64 (kM l W d i:Int)):=s;have O:=HN.o i aT wr (c.Y E);rw[<-CN]at O;have bi:=yU l W d i;have T:lV l W d (i+1)=nt (lV l W d i) (33*oe l W d i) (kM l W d i):=rfl;have C:=aM.o i;have aS:kM l W d i<65536:=Nat.lt_of_lt_of_le C (Nat.pow_le_pow_right (n:=2) (by decide) B);have⟨v,hv⟩:=zX (kM l W d i);rw[<-hv]at aR T aS;have⟨k,hk⟩:=zX (oe l W d i);rw[<-hk]at O bi T;have am:=λw c=>OB w cb y ch (lV l W d i) (33*k) v c p.1 (by rw[p.2.1];omega) (by omega) (by have:=p.2.2;omega);rw[<-T]at am;generalize jL 7 (lO l W i) d=gs at *;have⟨aN,aY⟩:=gy am u;clear T hk hv C am s a0 a2 bl p;go_wp2_with fail;refine O.mono ?_;rintro e Y ⟨rfl,m⟩;have a4:=aN.o Y (g.Y m);have bg:((33*k:Nat):Int)=33*(k:Int):=by simp
  rw[bg]at a4;clear O;go_wp2_with fail;refine a4.mono ?_;rintro e w4 ⟨rfl,g4,ax,aZ,bB⟩;go_wp2_with fail
  go_roundg j
  .have bo:=m.size
   refine⟨i+1,g4,by go_num,by omega,ax,?_,?_,?_,?_⟩
   .exact(aY.o.Y m).Z aZ (λad e hm=>by
     injection e with e;subst e;simp at hm;omega)
   .omega
   .obtain⟨b9,o9,V,bv,_⟩:=aY.o.ex (by rw[aL.o];omega)
    injection V with V;injection V with V _ _;omega
   .exact(E.tq m).trans aZ (λx hx=>by
     simp at hx;omega)
  .omega
end Go.Proofs.YtnepiccbpokmiaaGreatDoor
