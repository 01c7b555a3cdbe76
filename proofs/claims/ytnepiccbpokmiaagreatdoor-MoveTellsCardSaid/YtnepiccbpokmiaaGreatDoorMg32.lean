/- Lemmas. -/
import Derived.Test.YtnepiccbpokmiaaGreatDoorMg26
import Derived.Test.YtnepiccbpokmiaaGreatDoorMg19
set_option linter.all false
set_option maxHeartbeats 2000000
set_option maxRecDepth 100000
namespace Go.Proofs.YtnepiccbpokmiaaGreatDoor
open Tryz List Nat Go.RowKit
variable {d:Nat}
def sX(v:Int):List Nat:=[v.toNat / 256,v.toNat%256]
def iX(l:List Int):List Nat:=l.flatMap sX
def rk(p:gH):List Nat:=[p.W,p.H,p.d,p.P.length]++p.P.flatMap iX
def kw(p:gH):Nat:=lE (rk p)
theorem vE(l:List Int):(iX l).length=2*l.length:=by
 induction l with
 | nil=>rfl
 | cons a l ih=>simp only[iX,flatMap_cons,zC,sX,zK,length_nil]at ih⊢;omega
theorem zw(a:1<=d)(b:d<=16){v:Int}(c:0<=v)(e:v<2^d):v.toNat<65536:=by
 have:=(jl a b).2
 omega
theorem GD(e:1<=d)(f:d<=16){l:List Int}(g:gU d l):∀x∈iX l,x<256:=by
 intro x c;obtain⟨v,h,c⟩:=List.mem_flatMap.1 c;obtain⟨a,b⟩:=g v h
 have:=zw e f a b
 simp only[sX,zJ,not_mem_nil,or_false]at c;omega
theorem xh{p:gH}(h:p.Ok):∀x∈rk p,x<256:=by
 intro x a;rcases zP.1 a with a|a
 .have:=h.w1;have:=h.h1;have:=h.d1;have:=h.n1
  simp only[zJ,not_mem_nil,or_false]at a;omega
 .obtain⟨l,b,a⟩:=List.mem_flatMap.1 a
  exact GD h.d0 h.d1 (h.smp l b) x a
theorem rV{m:Nat}:∀(P:List (List Int)),(∀l∈P,l.length=m)->(P.flatMap iX).length=2*m*P.length
 | [],_=>by simp
 | l::P,h=>by
  rw[flatMap_cons,zC,vE,h l (by simp),rV P (λx hx=>h x (by simp[hx])),zK,mul_succ];omega
theorem rg{p:gH}(h:p.Ok):kw p<4294967296:=tk (xh h)
theorem CL(w:World)(a b:Nat):gu (λu=>u) (w.alloc (.cells #[.int .u8 a,.int .u8 b] 5)) (some ⟨w.heap.size,0,none⟩) ([a,b].map b8):=⟨λ_=>by
 have c:=gn.new w 5 #[.int .u8 a,.int .u8 b];refine⟨w.heap.size,0,rfl,c.lt,λi x hx=>?_⟩;rw[Nat.zero_add,c.X i]
 match i,hx with
 | 0,hx=>exact hx
 | 1,hx=>exact hx
 | i+2,hx=>simp at hx⟩
theorem KY{w:World}{p:gH}{g o:Nat}{B:Nat->Option Addr}{c:Nat->Nat}{G:List Nat}(cap:Nat)(h:gW w p g o B c G):Calls prog 75 #[gN p g o cap] w λe w'=>e=.returned (.int .u32 (kw p:Int))/\gf [] w w':=by
 have A:=λw' (V:gf [] w w')=>vA cap (h.Y V);have f:=h.ok;unfold gN at A⊢;have⟨W,hW⟩:=zX p.W;have⟨H,hH⟩:=zX p.H;have⟨d,hd⟩:=zX p.d;have⟨n,hn⟩:=zX p.P.length;have⟨N,hN⟩:=zX (W*H);rw[<-hW,<-hH,<-hd,<-hn]at A⊢;have bh:N<=4096:=by rw[hN,hW,hH];exact f.area
 have bn:n<=4:=by rw[hn];exact f.n1
 have bi:W<=64:=by rw[hW];exact f.w1
 have bg:H<=64:=by rw[hH];exact f.h1
 have bj:d<=16:=by rw[hd];exact f.d1
 have al:∀w',gf [] w w'->∀i,i<n->∃b q,w'.cell? ⟨g,o+i,none⟩=some (.slice (some ⟨b,q,none⟩) N (c i))/\∀w'',gf [] w w''->∀k,k<N->w''.cell? ⟨b,q+k,none⟩=some (.int .i64 ((p.P.getD i []).getD k 0)):=by
  intro w' V i hi;rw[hn]at hi;obtain⟨b,q,e,hb,I⟩:=h.at_ hi;have L:=(h.Y V).X i hi;rw[e,<-hW,<-hH,<-hN]at L;refine⟨b,q,L,λw'' hc'' k hk'=>?_⟩;have hh:=I k (by rw[<-hW,<-hH,<-hN];exact hk');exact(World.cell?_of_block (w:=w) (hc''.block b (h.lt b hb) (by simp))).trans hh
 have aZ:∀i k,i<n->∃m:Nat,(p.P.getD i []).getD k 0=(m:Int)/\m<65536:=by
  intro i k hi;rw[hn]at hi;obtain⟨a,b⟩:=nB (f.smp _ (by rw[zD,zF hi];exact zG hi:p.P.getD i []∈p.P)) k;exact⟨((p.P.getD i []).getD k 0).toNat,by omega,zw f.d0 f.d1 a b⟩
 have am:∀i,i<n->(p.P.getD i []).length=N:=λi hi=>by rw[hN,hW,hH];exact h.len (by rw[<-hn];exact hi)
 have ak:=xh f;have bc:(rk p).length<=100000:=by
  unfold rk;rw[zC,rV p.P (λl hl=>f.len l hl)];have T:=f.area;have U:=f.n1;have E:=zL (zL (zQ 2) T) U;simp only[zK,length_nil];omega
 have s:∀i,i<=n->([W,H,d,n]++(p.P.take i).flatMap iX).length<=100000:=by
  intro i hi;rw[zC,rV (m:=p.W*p.H) _ (λl hl=>f.len l (mem_of_mem_take hl)),zI,<-hn];have T:=f.area;have E:=zL (zL (zQ 2) T) (show min i n<=4 by omega);simp only[zK,length_nil];omega
 have⟨w1,aw⟩:=zX (w.alloc (.cells #[W,H,d,.slice (some ⟨g,o,none⟩) n cap] 25));have aP:=jD aw;have aQ:gn w1 w.heap.size 25 #[W,H,d,.slice (some ⟨g,o,none⟩) n cap]:=by rw[aw];exact gn.new w _ _
 have aH:gh (∀i,i=n->lE ([W,H,d,n]++(p.P.take i).flatMap iX)=kw p):=gd (λi hi=>by
  rw[zT (by omega),hW,hH,hd,hn];rfl)
 have aE:gh (∀i,i=n->∀x∈[W,H,d,n]++(p.P.take i).flatMap iX,x<256):=gd (λi hi=>by
  rw[zT (by omega),hW,hH,hd,hn];exact ak)
 have ap:gh (∀i,i<n->[W,H,d,n]++(p.P.take (i+1)).flatMap iX=([W,H,d,n]++(p.P.take i).flatMap iX)++iX (p.P.getD i [])):=gd (λi hi=>by
  have aU:i<p.P.length:=by omega
  rw[take_succ_eq_append_getElem aU,flatMap_append,zH,zD,zF aU];simp)
 have⟨a7,ah,HC,a8⟩:=gz aw aQ al aZ;have⟨aL,a1,aO,a2⟩:=gz aP A s am;have v:∀m:Nat,m<256->IntKind.u8.wrap (m:Int)=(m:Int):=λm J=>by rw[IntKind.wrap_u8];omega
 have wW:=v W (by omega);have wH:=v H (by omega);have wd:=v d (by omega);have wn:=v n (by omega);clear hW hH hd hn hN f al aZ aw aQ aP h A ak bc s am v;go_enter func75,ntmps75;go_wp2_with fail;rw[<-a7.o];refine(a1.o w1 aL.o).mono ?_;rintro e u ⟨rfl,r⟩;have c0:=(ah.o.Z r (by simp)).X 0;have c1:=(ah.o.Z r (by simp)).X 1;have c2:=(ah.o.Z r (by simp)).X 2;have c3:=(ah.o.Z r (by simp)).X 3;simp at c0 c1 c2 c3;have a9:=((ah.o.Z r (by simp)).alloc (.cells #[.int .u8 W,.int .u8 H,.int .u8 d,.int .u8 n] 5)).X 3;simp at a9;have ai:=gd (aL.o.tq r);have ab:gE (u.alloc (.cells #[.int .u8 W,.int .u8 H,.int .u8 d,.int .u8 n] 5)) 5 (.slice (some ⟨u.heap.size,0,none⟩) 4 4) [u.heap.size] ([W,H,d,n].map b8):=by
  have:=gv.made u 5 ([W,H,d,n].map b8) (by simp[maxLen])
  exact gv.S this
 have a3:=gd ab;clear r ab;go_wp2_with fail
 go_loopg [3,5,7,28,34] n (λj v3 v5 v7 v28 v34 wr=>∃(i:Nat) (F:List Nat),v28=.int .i64 i/\i+j=n/\gh (gE wr 5 v3 F (([W,H,d,n]++(p.P.take i).flatMap iX).map b8))/\gh (gf [] w wr)/\gh (∀x∈F,w.heap.size<=x))
 .exact⟨0,[u.heap.size],rfl,by omega,gd (by simpa using a3.o),gd (ai.o.alloc _),gd (by intro x t;simp at t;have:=ai.o.size;omega)⟩
 obtain⟨i,F,rfl,bl,Z,R,HF⟩:=hrel;rcases gk with _|j
 .obtain rfl:i=n:=by omega
  have⟨ds,aT⟩:=zX ([W,H,d,i]++(p.P.take i).flatMap iX);have X:=Z.o;have K:=aE.o i rfl;have M:=aH.o i rfl;have s:=aO.o i (zQ _);rw[<-aT]at X K M s;obtain⟨A3,aC,rfl,ba,bb,aR⟩:=X.oq;have D:=Bb wr A3 aC _ aR K (by omega);rw[M]at D;have⟨q,hq⟩:=zX ds.length;rw[<-hq]at D⊢;have a6:=gd D;clear D ba bb aR X K M s aT hq;go_wp2_with fail;refine gx a6.o ?_;go_wp2;go_ret;exact⟨rfl,R.o⟩
 .have hi:i<n:=by omega
  obtain⟨b,q,L,I⟩:=HC.o wr R.o i hi;have HK:=gd I;have⟨l,hl⟩:=zX (p.P.getD i []);have⟨pre,af⟩:=zX ([W,H,d,n]++(p.P.take i).flatMap iX);have C:=ap.o i hi;have Q:=aO.o i (by omega);have O:=a2.o i hi;have P:=a8.o i;rw[<-hl]at C O P;rw[<-af]at C Q;have⟨HL,aB,a5,aj⟩:=gz hl af C Q;have⟨aA,a4⟩:=gy O P;clear I hl af C Q O P;go_wp2_with fail
  go_loopg [3,7,34] N (λY v3 v7 v34 wr2=>∃(k:Nat) (y:List Nat),v34=.int .i64 k/\k+Y=N/\gh (gE wr2 5 v3 y ((pre++iX (l.take k)).map b8))/\gh (gf [] w wr2)/\gh (∀x∈y,w.heap.size<=x))
  .exact⟨0,F,rfl,by omega,gd (by rw[aB.o];simpa[iX]using Z.o),gd R.o,gd HF.o⟩
  obtain⟨k,y,rfl,bm,aM,z,S⟩:=hrel;rcases gk with _|Y
  .obtain rfl:k=N:=by omega
   go_wp2
   go_roundg j
   .refine⟨i+1,y,by go_num,by omega,gd ?_,z,S⟩
    have h:=aM.o;rw[zT (by rw[aA.o];exact zQ _)]at h;rw[a5.o];exact h
   .omega
  .have aV:k<N:=by omega
   obtain⟨m,J,bf⟩:=a4.o k hi;have bd:=HK.o wr z.o k aV;rw[<-HL.o,J]at bd;have aX:gh (iX (l.take (k+1))=iX (l.take k)++[m / 256,m%256]):=by
    refine gd ?_;have aW:k<l.length:=(by rw[aA.o];exact aV);have e:l[k]=(m:Int):=by
     rw[<-J,zD,zF aW];rfl
    rw[take_succ_eq_append_getElem aW,iX,flatMap_append,e];simp[iX,sX]
   have aY:(iX (l.take k)).length<=8192:=(by rw[vE,zI,aA.o];omega);have aN:=gd aY;have be:(m:Int) / 256=((m / 256:Nat):Int):=(by omega);have⟨ag,ad⟩:=zX (m / 256);have⟨ax,an⟩:=zX (m%256);rw[<-ad,<-an]at aX;rw[<-ad]at be;have bk:ag<256:=(by omega);have e8:IntKind.u8.wrap (ag:Int)=(ag:Int):=(by rw[IntKind.wrap_u8];omega);have e9:IntKind.u8.wrap (m:Int)=(ax:Int):=(by rw[IntKind.wrap_u8];omega);have aJ:=aM.o.alloc (.cells #[.int .u8 ag,.int .u8 ax] 5);have aS:=CL wr ag ax;have a0:=gd aS;clear J ad an aY aS
   go_wp2_with(at_builtin;refine na rfl rfl ku rfl rfl aJ ([ag,ax].map b8) 2 rfl ?c1 ?c2 ?c3 ?c4 ?c5 ?_)
   case c1=>rfl
   case c2=>exact a0.o
   case c3=>exact ni _
   case c4=>have:=aj.o;have:=aN.o;simp only[zE,zC,zK,length_nil];omega
   case c5=>have:=aj.o;have:=aN.o;simp only[zE,zC,zK,length_nil];omega
   intro v' F' w' U E;go_wp2_with fail
   go_roundg Y
   .refine⟨k+1,F',by go_num,by omega,gd ?_,gd ?_,gd ?_⟩
    .rw[aX.o,zM,zM]
     exact U
    .exact(z.o.tq ((zR [] wr).alloc _)).trans E.Z λx t=>.inr (S.o x t)
    .intro x t
     rcases E.new x t with h|h
     .exact S.o x h
     .have:=z.o.size;rw[iO]at h;omega
   .omega
end Go.Proofs.YtnepiccbpokmiaaGreatDoor
