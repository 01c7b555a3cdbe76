/- Lemmas. -/
import Derived.Test.YtifdlkoepaepiaaGreatDoorMh16
set_option linter.all false
set_option maxHeartbeats 4000000
set_option maxRecDepth 100000
namespace Go.Proofs.YtifdlkoepaepiaaGreatDoor
open Tryz List Nat Go.RowKit
variable {x:Int}{bs ds rs:List Nat}{a cp d g g' i j k o:Nat}{c:Nat->Nat}{B:Nat->Option Addr}{u v:Value}
structure iI where
 t:Int
 p:qc
structure iW where
 k:Bool
 t:Int
 ds:List Nat
def gV(l:List iI)(i:Nat):iI:=l.getD i ⟨0,⟨0,0,0,[]⟩⟩
def iN(l:List iW)(i:Nat):iW:=l.getD i ⟨false,0,[]⟩
def BU(l:List Int):Prop:=∀i,i<l.length->0<=l.getD i 0/\l.getD i 0<=1125899906842624/\(0<i->l.getD (i-1) 0<l.getD i 0)
structure nF (l:List iI):Prop where
 n0:1<=l.length
 n1:l.length<=64
 ok:∀i,i<l.length->(gV l i).p.Ok
 al:∀i,i<l.length->iY (gV l 0).p (gV l i).p
 times:BU (l.map (·.t))
theorem P9{l:List iI}(h:i<l.length):l[i]?=some (gV l i):=by
 unfold gV;rw[zD,zF h];rfl
theorem oh{l:List iI}(h:i<l.length):(l.map (·.t)).getD i 0=(gV l i).t:=by
 rw[zD,zW,P9 h];rfl
theorem iY.sym{p q:qc}(h:iY p q):iY q p:=⟨h.W.symm,h.H.symm,h.d.symm,h.n.symm⟩
theorem iY.tr{p q r:qc}(h:iY p q)(k:iY q r):iY p r:=⟨h.W.trans k.W,h.H.trans k.H,h.d.trans k.d,h.n.trans k.n⟩
def sq(w:World)(s:iI)(g a:Nat)(G:List Nat):Prop:=∃(gp op cp:Nat) (B:Nat->Option Addr) (c:Nat->Nat) (Gp:List Nat),
 w.cell? ⟨g,a,none⟩=some (.int .i64 s.t)/\w.cell? ⟨g,a+1,none⟩=some (.int .i64 s.p.W)/\w.cell? ⟨g,a+2,none⟩=some (.int .i64 s.p.H)/\w.cell? ⟨g,a+3,none⟩=some (.int .i64 s.p.d)/\w.cell? ⟨g,a+4,none⟩=some (.slice (some ⟨gp,op,none⟩) s.p.P.length cp) /\
 ip w s.p gp op B c Gp/\∀x∈Gp,x∈G
structure jY (w:World) (A:Option Addr) (l:List iI) (G:List Nat):Prop where
 ex:0<l.length->∃g o,A=some ⟨g,o,none⟩/\g∈G/\∀i,i<l.length->sq w (gV l i) g (o+i*5) G
 lt:∀x∈G,x<w.heap.size
def sz(w:World)(c:iW)(g a:Nat)(G:List Nat):Prop:=∃(A:Option Addr) (cap:Nat),
 w.cell? ⟨g,a,none⟩=some (.bool c.k)/\w.cell? ⟨g,a+1,none⟩=some (.int .i64 c.t)/\w.cell? ⟨g,a+2,none⟩=some (.slice A c.ds.length cap) /\
 gz b8 w A c.ds/\c.ds.length<=cap/\cap<=9223372036854775807/\∀ad,A=some ad->ad.block∈G
structure lZ (w:World) (A:Option Addr) (l:List iW) (G:List Nat):Prop where
 ex:0<l.length->∃g o,A=some ⟨g,o,none⟩/\g∈G/\∀i,i<l.length->sz w (iN l i) g (o+i*3) G
 lt:∀x∈G,x<w.heap.size
section
variable {w w':World} {F G G':List Nat} {A:Option Addr}
theorem sq.Z{s:iI}(h:sq w s g a G)(f:gg F w w')(q:g∈G)(J:∀x∈G,x<w.heap.size)(m:∀x∈G,x∉F):sq w' s g a G:=by
 obtain⟨t,K,cp,B,c,r,y,z,C,D,H,I,b⟩:=h;have e:∀i,w'.cell? ⟨g,i,none⟩=w.cell? ⟨g,i,none⟩:=λi=>World.cell?_of_block (w:=w) (f.block g (J g q) (m g q));exact⟨t,K,cp,B,c,r,(e _).trans y,(e _).trans z,(e _).trans C,(e _).trans D,(e _).trans H,I.Z f (λx hx=>m x (b x hx)),b⟩
theorem sq.mono{s:iI}(h:sq w s g a G)(C:∀x∈G,x∈G'):sq w s g a G':=by
 obtain⟨e,D,cp,B,c,b,f,m,q,r,t,y,z⟩:=h;exact⟨e,D,cp,B,c,b,f,m,q,r,t,y,λx hx=>C x (z x hx)⟩
theorem jY.Z{l:List iI}(h:jY w A l G)(b:gg F w w')(m:∀x∈G,x∉F):jY w' A l G where
 ex:=λh0=>by
  obtain⟨g,o,e,f,q⟩:=h.ex h0
  exact⟨g,o,e,f,λi hl=>(q i hl).Z b f h.lt m⟩
 lt:=λx hx=>Nat.lt_of_lt_of_le (h.lt x hx) b.size
theorem jY.Y{l:List iI}(h:jY w A l G)(b:gg [] w w'):jY w' A l G:=h.Z b (by simp)
theorem sz.Z{c:iW}(h:sz w c g a G)(f:gg F w w')(q:g∈G)(D:∀x∈G,x<w.heap.size)(m:∀x∈G,x∉F):sz w' c g a G:=by
 obtain⟨A,cap,r,s,t,y,z,C,b⟩:=h;have e:∀i,w'.cell? ⟨g,i,none⟩=w.cell? ⟨g,i,none⟩:=λi=>World.cell?_of_block (w:=w) (f.block g (D g q) (m g q));exact⟨A,cap,(e _).trans r,(e _).trans s,(e _).trans t,y.Z f (λad ea=>m _ (b ad ea)),z,C,b⟩
theorem sz.mono{c:iW}(h:sz w c g a G)(y:∀x∈G,x∈G'):sz w c g a G':=by
 obtain⟨A,cap,b,f,m,q,r,s,t⟩:=h;exact⟨A,cap,b,f,m,q,r,s,λad e=>y _ (t ad e)⟩
theorem lZ.Z{l:List iW}(h:lZ w A l G)(b:gg F w w')(m:∀x∈G,x∉F):lZ w' A l G where
 ex:=λh0=>by
  obtain⟨g,o,e,f,q⟩:=h.ex h0
  exact⟨g,o,e,f,λi hl=>(q i hl).Z b f h.lt m⟩
 lt:=λx hx=>Nat.lt_of_lt_of_le (h.lt x hx) b.size
theorem lZ.Y{l:List iW}(h:lZ w A l G)(b:gg [] w w'):lZ w' A l G:=h.Z b (by simp)
end
theorem rB(l:List iI)(k i:Nat):gV (l.drop k) i=gV l (k+i):=by
 unfold gV;rw[zD,zD,getElem?_drop]
theorem ql{l:List iI}(h:i<k):gV (l.take k) i=gV l i:=by
 unfold gV;rw[zD,zD,getElem?_take,if_pos h]
theorem BP(l:List iW)(k i:Nat):iN (l.drop k) i=iN l (k+i):=by
 unfold iN;rw[zD,zD,getElem?_drop]
theorem BQ{l:List iW}(h:i<k):iN (l.take k) i=iN l i:=by
 unfold iN;rw[zD,zD,getElem?_take,if_pos h]
theorem IB(w:World)(A:Option Addr)(cap:Nat)(l:List Int)(r:gz vi w A l)(M:l.length<=64)(z:BU l):Calls prog 22 #[.slice A l.length cap] w λe w'=>e=.returned (.bool true)/\w=w':=by
 have m:∀i,i<l.length->∃g o,A=some ⟨g,o,none⟩/\w.cell? ⟨g,o+i,none⟩=some (.int .i64 (l.getD i 0))/\(0<i->w.cell? ⟨g,o+(i-1),none⟩=some (.int .i64 (l.getD (i-1) 0))):=λi f=>by
  obtain⟨g,o,e,N,H⟩:=r.ex (by omega);have t:∀j,j<l.length->w.cell? ⟨g,o+j,none⟩=some (.int .i64 (l.getD j 0)):=λj hj=>by
   rw[H j _ (zF hj),zD,zF hj];rfl
  exact⟨g,o,e,t i f,λq=>t (i-1) (by omega)⟩
 have⟨n,hn⟩:=zX l.length;have⟨ac,HT,HN⟩:=Q9 m z hn;rw[<-hn]at M⊢;clear m z hn r;go_enter func22,ntmps22;go_wp2_with fail
 go_loopg [3,4,7] n (λj v3 v4 v7 wr=>∃i:Nat,v7=.int .i64 i/\i+j=n/\w=wr)
 .exact⟨0,rfl,by omega,rfl⟩
 obtain⟨i,rfl,ad,rfl⟩:=hrel;rcases gk with _|j
 .obtain rfl:i=n:=by omega
  have C:decide ((i:Int)<(i:Int))=false:=by simp
  go_wp2_with fail;go_ret;exact⟨rfl,rfl⟩
 .have f:i<n:=by omega
  have C:=jo i n (by omega);obtain⟨q,L,b⟩:=HT.o i (by rw[<-HN.o];exact f);obtain⟨g,o,rfl,h,c1⟩:=ac.o i (by rw[<-HN.o];exact f);have⟨x,hx⟩:=zX (l.getD i 0);have⟨y,hy⟩:=zX (l.getD (i-1) 0);rw[<-hx]at q L b h;rw[<-hy]at b c1;have S:decide (x<0)=false:=zA (by omega);have T:=Ra 1125899906842624 x (by omega);have I:(0:Int)<=(i:Int):=by omega
  have J:(i:Int)<(n:Int):=by omega
  rcases i with _|i
  .have D:decide ((0:Int)<((0:Nat):Int))=false:=by simp
   rw[Nat.add_zero]at h;clear hx hy c1 b;go_wp2_with fail
   go_roundg j
   .exact⟨1,by go_num,by omega,rfl⟩
   .omega
  .have c1:=c1 (by omega)
   have b:=b (by omega);rw[Nat.add_sub_cancel]at c1;have D:decide ((0:Int)<((i+1:Nat):Int))=true:=zB (by omega);have U:decide (x<=y)=false:=zA (by omega);have K:((i+1:Nat):Int)-1=(i:Int):=(by omega);have⟨s,hs⟩:=zX (i+1);rw[<-hs]at h C D K I J f ad⊢;have O:(0:Int)<=(i:Int):=(by omega);have Q:(i:Int)<(n:Int):=(by omega);have R:s<=64:=(by omega);clear hx hy hs;go_wp2_with fail
   go_roundg j
   .exact⟨s+1,by go_num,by omega,rfl⟩
   .omega
theorem J4(W H d n:Nat)(w:World)(w0:1<=W)(r:W<=64)(h:1<=H)(m:H<=64)(b:1<=d)(f:d<=16)(q:1<=n)(n1:n<=4):Calls prog 40 #[W,H,d,n] w λe w'=>e=.returned (.bool true)/\w=w':=by
 have s:=jB 1 W (by omega);have t:=jB W 64 (by omega);have y:=jB 1 H (by omega);have z:=jB H 64 (by omega);have C:=jB 1 d (by omega);have D:=jB d 16 (by omega);have I:=jB 1 n (by omega);have J:=jB n 4 (by omega);clear w0 r h m b f q n1;go_enter func40,ntmps40;go_wp2;go_ret;exact⟨rfl,rfl⟩
theorem oJ{w:World}{p:qc}{G:List Nat}(cap:Nat)(h:ip w p g o B c G):Calls prog 30 #[gW p g o cap] w λe w'=>e=.returned (.bool true)/\gg [] w w':=by
 have⟨W,hW⟩:=zX p.W;have⟨H,hH⟩:=zX p.H;have⟨d,hd⟩:=zX p.d;have⟨n,hn⟩:=zX p.P.length;have⟨N,hN⟩:=zX (W*H);have eN:(W:Int)*(H:Int)=(N:Int):=by rw[hN];simp
 have f:=h.ok;have J:=J4 W H d n;have Q:=λw'=>J w' (by rw[hW];exact f.w0) (by rw[hW];exact f.w1) (by rw[hH];exact f.h0) (by rw[hH];exact f.h1) (by rw[hd];exact f.d0) (by rw[hd];exact f.d1) (by rw[hn];exact f.n0) (by rw[hn];exact f.n1);have U:N<=4096:=by rw[hN,hW,hH];exact f.area
 have Z:n<=4:=by rw[hn];exact f.n1
 have L:1<=d:=by rw[hd];exact f.d0
 have M:d<=16:=by rw[hd];exact f.d1
 have D:∀w',gg [] w w'->∀i,i<n->∃b q,w'.cell? ⟨g,o+i,none⟩=some (.slice (some ⟨b,q,none⟩) N (c i))/\∀k,k<N->∃s:Int,w'.cell? ⟨b,q+k,none⟩=some (.int .i64 s)/\0<=s/\s<2^d:=by
  intro w' R i m;have y:=h.Y R;rw[hn]at m;obtain⟨b,q,e,hb,r⟩:=y.at_ m;have t:=y.X i m;rw[e,<-hW,<-hH,<-hN]at t;refine⟨b,q,t,λk hk'=>⟨_,r k (by rw[<-hW,<-hH,<-hN];exact hk'),?_⟩⟩;rw[hd];exact mK (y.ok.smp _ (by rw[zD,zF m];exact zG m)) k
 unfold gW;rw[<-hW,<-hH,<-hd,<-hn];have⟨w1,ad⟩:=zX (w.alloc (.cells #[W,H,d,.slice (some ⟨g,o,none⟩) n cap] 46));have I:=H4 ad;have⟨bb,ae⟩:=zX w.heap.size;have C:=RD ad ae;have⟨b0,b1,b2,b3⟩:=my C;simp at b0 b1 b2 b3;obtain⟨S,T⟩:=jX L M;have⟨aj,ai,HC,ag⟩:=gu ad ae D I;clear hW hH hd hn hN f J D ad ae C I h;go_enter func30,ntmps30;go_wp2_with fail;rw[<-aj.o,<-ai.o];refine gB (Q _) ?_;go_wp2_with fail
 go_loopg [21] n (λj iv wr=>∃i:Nat,iv=.int .i64 i/\i+j=n/\w1=wr)
 .exact⟨0,rfl,by omega,rfl⟩
 obtain⟨i,rfl,X,rfl⟩:=hrel;rcases gk with _|j
 .obtain rfl:i=n:=by omega
  go_wp2;go_ret;exact⟨rfl,ag.o⟩
 .have m:i<n:=by omega
  obtain⟨b,q,t,r⟩:=HC.o _ ag.o i m;have K:=gd r;have t2:((N:Int) != (N:Int))=false:=by simp
  clear r;go_wp2_with fail
  go_loopg [35] N (λz kv wr=>∃k:Nat,kv=.int .i64 k/\k+z=N/\w1=wr)
  .exact⟨0,rfl,by omega,rfl⟩
  obtain⟨k,rfl,Y,rfl⟩:=hrel;rcases gk with _|z
  .obtain rfl:k=N:=by omega
   go_wp2
   go_roundg j
   .exact⟨i+1,by go_num,by omega,rfl⟩
   .omega
  .have O:k<N:=by omega
   obtain⟨s,V,ax,ay⟩:=K.o k O;have t3:decide (s<0)=false:=zA (by omega);have t4:decide ((2:Int)^d<=s)=false:=zA (by omega);go_wp2
   go_roundg z
   .exact⟨k+1,by go_num,by omega,rfl⟩
   .omega
theorem yo{w:World}{p q:qc}{G:List Nat}(cap:Nat)(h:ip w p g o B c G){I:Nat}{O:Nat->Option Addr}{R:Nat->Nat}{G':List Nat}(f:Nat)(N:ip w q g' I O R G')(C:iY p q):Calls prog 24 #[gW p g o cap,gW q g' I f] w λe w'=>e=.returned (.bool true)/\gg [] w w':=by
 have D:=λw' (hc:gg [] w w')=>oJ cap (h.Y hc);have r:=λw' (hc:gg [] w w')=>oJ f (N.Y hc);unfold gW at D r⊢;rw[<-C.W,<-C.H,<-C.d,<-C.n]at r⊢;have⟨W,hW⟩:=zX p.W;have⟨H,hH⟩:=zX p.H;have⟨d,hd⟩:=zX p.d;have⟨n,hn⟩:=zX p.P.length;rw[<-hW,<-hH,<-hd,<-hn]at D r⊢;have⟨w1,ag⟩:=zX ((w.alloc (.cells #[W,H,d,.slice (some ⟨g,o,none⟩) n cap] 46)).alloc (.cells #[W,H,d,.slice (some ⟨g',I,none⟩) n f] 46));have K:=RF ag;have⟨bb,ai⟩:=zX w.heap.size;have L:=RG ag ai;have J:gn w1 (bb+1) 46 #[W,H,d,.slice (some ⟨g',I,none⟩) n f]:=by rw[ag,ai];exact gn.new2 w _ _ _
 have⟨ar,al,ah,ac⟩:=gu ag ai L J;have⟨am,ap,aq⟩:=Q9 K D r;clear hW hH hd hn ag ai L J K h N D r C;go_enter func24,ntmps24;go_wp2_with fail;rw[<-ar.o];refine(ap.o w1 am.o).mono ?_;rintro e S ⟨rfl,b⟩;have ad:=gd (am.o.tq b);have s:=(ac.o.Z b (by simp)).X 0;have t:=(ac.o.Z b (by simp)).X 1;have y:=(ac.o.Z b (by simp)).X 2;have z:=(ac.o.Z b (by simp)).X 3;simp at s t y z;rw[al.o]at s t y z;go_wp2_with fail;refine(aq.o S ad.o).mono ?_;rintro e T ⟨rfl,m⟩;have Q:=gd (ad.o.tq m);have M:=((ah.o.Z b (by simp)).Z m (by simp)).X 0;have c1:=((ah.o.Z b (by simp)).Z m (by simp)).X 1;have c2:=((ah.o.Z b (by simp)).Z m (by simp)).X 2;have c3:=((ah.o.Z b (by simp)).Z m (by simp)).X 3;have s:=((ac.o.Z b (by simp)).Z m (by simp)).X 0;have t:=((ac.o.Z b (by simp)).Z m (by simp)).X 1;have y:=((ac.o.Z b (by simp)).Z m (by simp)).X 2;have z:=((ac.o.Z b (by simp)).Z m (by simp)).X 3;simp at M c1 c2 c3 s t y z;rw[al.o]at M c1 c2 c3 s t y z;clear b m;go_wp2;go_ret;exact⟨rfl,Q.o⟩
theorem rj:jx prog 44 22 (.slice none 0 0) 1 24:=.mk' underlying44 (by kernel_rfl)
structure jm (w:World) (xs:List Value) (P:List (List Int)) (gs:List Nat):Prop where
 lx:xs.length=P.length
 lg:gs.length=P.length
 nd:gs.Nodup
 row:∀(i:Nat) (l:List Int),P[i]?=some l->∃u g,xs[i]?=some u/\gs[i]?=some g/\gv w 3 u g (l.map vi)
section
variable {w w':World} {xs:List Value} {P:List (List Int)} {gs F:List Nat}
theorem jm.nil(w:World):jm w [] [] []:=⟨rfl,rfl,nodup_nil,λi l h=>by simp at h⟩
theorem jm.Z(h:jm w xs P gs)(m:gg F w w')(q:∀x∈gs,x∉F):jm w' xs P gs:=
 ⟨h.lx,h.lg,h.nd,λi l hl=>by
  obtain⟨u,g,e,b,f⟩:=h.row i l hl;exact⟨u,g,e,b,f.Z m (q g (mem_of_getElem? b))⟩⟩
theorem jm.Y(h:jm w xs P gs)(b:gg [] w w'):jm w' xs P gs:=h.Z b (by simp)
theorem jm.lt(h:jm w xs P gs):∀x∈gs,x<w.heap.size:=λx hx=>by
 obtain⟨i,f,rfl⟩:=getElem_of_mem hx;have e:i<P.length:=by rw[<-h.lg];exact f
 obtain⟨u,g,q,b,m⟩:=h.row i _ (zF e);rw[zF f]at b;injection b with b;rw[b];exact m.lt
theorem jm.snoc(h:jm w xs P gs){l:List Int}(r:gv w 3 u g (l.map vi))(t:g∉gs):jm w (xs++[u]) (P++[l]) (gs++[g]):=by
 refine⟨by simp[h.lx],by simp[h.lg],?_,λi l' hl=>?_⟩
 .rw[nodup_append]
  refine⟨h.nd,by simp,λa ha b hb=>?_⟩;simp at hb;subst hb;exact λe=>t (by rw[<-e];exact ha)
 .rcases Nat.lt_trichotomy i P.length with f|f|f
  .rw[getElem?_append_left f]at hl
   obtain⟨y,g',m,q,s⟩:=h.row i l' hl;exact⟨y,g',by rw[getElem?_append_left (by rw[h.lx];exact f)];exact m,by rw[getElem?_append_left (by rw[h.lg];exact f)];exact q,s⟩
  .subst f
   simp at hl;subst hl;exact⟨u,g,by rw[<-h.lx];simp,by rw[<-h.lg];simp,r⟩
  .rw[getElem?_eq_none (by simp;omega)]at hl
   cases hl
theorem jm.set(h:jm w xs P gs)(m:xs[i]?=some u)(b:gs[i]?=some g){l:List Int}(r:gv w' 3 u g (l.map vi))(y:gg [g] w w'):jm w' xs (P.set i l) gs:=by
 refine⟨by rw[h.lx,length_set],by rw[h.lg,length_set],h.nd,λk l' hl=>?_⟩;by_cases hk:i=k
 .subst hk
  have f:i<P.length:=by rw[<-h.lx];exact(List.getElem?_eq_some_iff.1 m).1
  rw[getElem?_set_self f]at hl;injection hl with hl;subst hl;exact⟨u,g,m,b,r⟩
 .rw[getElem?_set_ne hk]at hl
  obtain⟨z,g',s,e,t⟩:=h.row k l' hl;refine⟨z,g',s,e,t.Z y λhm=>?_⟩;simp at hm;subst hm;have f:=(List.getElem?_eq_some_iff.1 b).1;have q:=(List.getElem?_eq_some_iff.1 b).2;have e2:=(List.getElem?_eq_some_iff.1 e).2;exact hk ((getElem_inj h.nd).1 (q.trans e2.symm))
end
structure iL (w:World) (p:qc) (gP cap:Nat) (xs:List Value) (gs:List Nat):Prop where
 ok:p.Ok
 row:gv w 22 (.slice gP p.P.length cap) gP xs
 pl:jm w xs p.P gs
def Hh:Option Value->Option Addr
 | some (.slice a _ _)=>a
 | _=>none
def Hi:Option Value->Nat
 | some (.slice _ _ c)=>c
 | _=>0
section
variable {w w':World} {p:qc} {gP cap:Nat} {xs:List Value} {gs F:List Nat}
theorem iL.Z(h:iL w p gP cap xs gs)(b:gg F w w')(e:gP∉F)(f:∀x∈gs,x∉F):iL w' p gP cap xs gs:=⟨h.ok,h.row.Z b e,h.pl.Z b f⟩
theorem iL.Y(h:iL w p gP cap xs gs)(b:gg [] w w'):iL w' p gP cap xs gs:=h.Z b (by simp) (by simp)
theorem iL.ltP(h:iL w p gP cap xs gs):gP<w.heap.size:=h.row.lt
theorem iL.plane(h:iL w p gP cap xs gs)(m:i<p.P.length):∃g c,xs[i]?=some (.slice (some ⟨g,0,none⟩) (p.W*p.H) c)/\gs[i]?=some g/\gv w 3 (.slice (some ⟨g,0,none⟩) (p.W*p.H) c) g ((p.P.getD i []).map vi)/\w.cell? ⟨gP,i,none⟩=some (.slice (some ⟨g,0,none⟩) (p.W*p.H) c):=by
 have f:p.P[i]?=some (p.P.getD i []):=by rw[zD,zF m];rfl
 obtain⟨u,g,b,r,e⟩:=h.pl.row i _ f;obtain⟨c,rfl,t,_⟩:=e.T;have s:(p.P.getD i []).length=p.W*p.H:=h.ok.len _ (mem_of_getElem? f);rw[s]at b e;obtain⟨_,_,_,_,q,_⟩:=h.row.open_;refine⟨g,c,b,r,e,?_⟩;rw[q i (by rw[h.pl.lx];exact m),b]
theorem iL.at_(h:iL w p gP cap xs gs):ip w p gP 0 (λi=>Hh xs[i]?) (λi=>Hi xs[i]?) (gP::gs) where
 ok:=h.ok
 gG:=by simp
 lt:=λx r=>by
  rcases zJ.1 r with rfl|r
  .exact h.row.lt
  .exact h.pl.lt x r
 X:=λi hi=>by
  obtain⟨g,c,b,m,f,q⟩:=h.plane hi
  rw[Nat.zero_add,q,b]
  rfl
 cells:=λi hi=>by
  obtain⟨g,c,b,m,f,q⟩:=h.plane hi
  rw[b]
  have y:=f.lt
  obtain⟨z,e,_,_,t,_⟩:=f.T
  exact⟨λ_=>⟨g,0,rfl,y,λk a ha=>by rw[Nat.zero_add];exact t k a ha⟩⟩
 blk:=λi hi ad e=>by
  obtain⟨g,c,b,m,f,q⟩:=h.plane hi
  rw[b]at e
  injection e with e
  subst e
  exact mem_cons_of_mem _ (mem_of_getElem? m)
 cap:=λi hi=>by
  obtain⟨g,c,b,m,f,q⟩:=h.plane hi
  rw[b]
  obtain⟨z,e,C,s,_⟩:=f.T
  injection e with _ e1 e2
  subst e2
  exact⟨by show _<=c;omega,s⟩
end
theorem IE:jx prog 60 2 (.int .i64 0) 1 8:=.mk' underlying60 (by kernel_rfl)
def tH(w:World)(s:iI)(g a gp op cp:Nat):Prop:=w.cell? ⟨g,a,none⟩=some (.int .i64 s.t)/\w.cell? ⟨g,a+1,none⟩=some (.int .i64 s.p.W)/\w.cell? ⟨g,a+2,none⟩=some (.int .i64 s.p.H)/\w.cell? ⟨g,a+3,none⟩=some (.int .i64 s.p.d)/\w.cell? ⟨g,a+4,none⟩=some (.slice (some ⟨gp,op,none⟩) s.p.P.length cp)
theorem jY.stay{w:World}{l:List iI}{G:List Nat}(h:jY w (some ⟨g,o,none⟩) l G)(H:i<l.length):∃(b f cp:Nat) (B:Nat->Option Addr) (c:Nat->Nat) (Gp:List Nat),(∀x∈Gp,x∈G)/\∀F wz,gg F w wz->(∀x∈G,x∉F)->tH wz (gV l i) g (o+i*5) b f cp/\ip wz (gV l i).p b f B c Gp:=by
 obtain⟨g',I,e,q,r⟩:=h.ex (by omega);injection e with e;injection e with e1 e2;subst e1;subst e2;obtain⟨b,f,cp,B,c,Gp,s,t,y,z,C,D,m⟩:=r i H;refine⟨b,f,cp,B,c,Gp,m,λF wz hc hd=>?_⟩;have e:∀k,wz.cell? ⟨g,k,none⟩=w.cell? ⟨g,k,none⟩:=λk=>World.cell?_of_block (w:=w) (hc.block g (h.lt g q) (hd g q));exact⟨⟨(e _).trans s,(e _).trans t,(e _).trans y,(e _).trans z,(e _).trans C⟩,D.Z hc (λx hx=>hd x (m x hx))⟩
theorem rF{w:World}{x:Nat}{a b c d:Value}(h:gn w x 48 #[a,b,c,d,v]):w.cell? x=some a/\w.cell? ⟨x,1,none⟩=some b/\w.cell? ⟨x,2,none⟩=some c/\w.cell? ⟨x,3,none⟩=some d/\w.cell? ⟨x,4,none⟩=some v:=
 ⟨h.X 0,h.X 1,h.X 2,h.X 3,h.X 4⟩
theorem Iv{w:World}{A:Option Addr}{l:List iI}{G:List Nat}(cap:Nat)(h:jY w A l G)(hn0:1<=l.length)(hn1:l.length<=64)(r:∀i,i<l.length->iY (gV l 0).p (gV l i).p){b:Bool}(t:∀w A cap,gz vi w A (l.map (·.t))->Calls prog 22 #[.slice A (l.map (·.t)).length cap] w λe w'=>e=.returned (.bool b)/\w=w'):Calls prog 19 #[.slice A l.length cap] w λe w'=>e=.returned (.int .i64 (if b=true then 0 else 12))/\gg [] w w':=by
 obtain⟨g,o,rfl,a3,-⟩:=h.ex (by omega);have y:=λi (m:i<l.length)=>h.stay m;have T:=λi (m:i<l.length)=>oh m;have S:(l.map (·.t)).length=l.length:=zE _;have⟨ts,aL⟩:=zX (l.map (·.t));rw[<-aL]at t T S;have⟨n,hn⟩:=zX l.length;rw[<-hn]at hn0 hn1 y r T S⊢;have a8:=kg (P:=prog) IE rfl .i64 .i64 n (by omega) (by omega);obtain⟨gp,op,cp,B,c,Gp,-,I⟩:=y 0 (by omega);rw[Nat.zero_mul,Nat.add_zero]at I;have I:=λwz (f:gg [] w wz)=>I [] wz f (by simp);have⟨p0,aC⟩:=zX ((gV l 0).p);have H:∀wz,gg [] w wz->(wz.cell? ⟨g,o,none⟩=some (.int .i64 (gV l 0).t)/\wz.cell? ⟨g,o+1,none⟩=some (.int .i64 p0.W)/\wz.cell? ⟨g,o+1+1,none⟩=some (.int .i64 p0.H)/\wz.cell? ⟨g,o+1+2,none⟩=some (.int .i64 p0.d)/\wz.cell? ⟨g,o+1+3,none⟩=some (.slice (some ⟨gp,op,none⟩) p0.P.length cp))/\ip wz p0 gp op B c Gp:=λwz f=>by
  rw[aC];exact I wz f
 have ai:∀i,i<n->iY p0 (gV l i).p:=λi m=>by rw[aC];exact r i m
 have R:=oJ cp (H w (zR [] w)).2;unfold gW at R;have⟨np,aB⟩:=zX p0.P.length;rw[<-aB]at R H;have⟨aE,aX,aM,aY⟩:=gu H y ai t;have⟨aZ,ag,aU⟩:=Q9 T S aB;obtain⟨⟨L,M,N,O,Q⟩,-⟩:=H w (zR [] w);have t1:=Ra n 1 (by omega);have t2:=Ra 64 n (by omega);have b0:(0:Int)<(n:Int):=by omega
 clear y r t T S I H ai aC aB hn aL h a3;go_enter func19,ntmps19;go_wp2_with fail;refine R.mono ?_;rintro e U ⟨rfl,ax⟩;have⟨w2,ar⟩:=zX (U.alloc (.cells (Array.replicate n (Value.int .i64 0)) 2));have⟨gT,an⟩:=zX U.heap.size;have ac:gv w2 2 (.slice gT n n) gT ((ia (ts.take 0) n).map vi):=by
  have K:=gv.made U 2 (replicate n (Value.int .i64 0)) (by simp[maxLen];omega);rw[zV,toArray_replicate]at K;rw[take_zero,BD,map_replicate,ar,an];exact K
 have av:=gd ac;have aO:gh (gg [] w w2):=gd (ax.tq (by rw[ar];exact(zR [] U).alloc _));have aS:gh (w.heap.size<=gT/\gT<w2.heap.size):=gd ⟨by rw[an];exact ax.size,ac.lt⟩;have⟨a0,au⟩:=gy ar an;clear R ax ar an ac L M N O Q t1 t2;go_wp2_with fail;rw[<-a0.o,<-au.o]
 go_loopg [4,5,27] n (λj v4 v5 v27 wr=>∃i:Nat,v27=.int .i64 i/\i+j=n/\gh (gv wr 2 (.slice gT n n) gT ((ia (ts.take i) n).map vi))/\gh (gg [gT] w2 wr))
 .exact⟨0,rfl,by omega,av,gd (zR _ _)⟩
 obtain⟨i,rfl,a7,HR,aD⟩:=hrel;have C:gh (gg [] w wr):=gd (aO.o.trans aD.o (λx hx=>.inr (by simp at hx;have:=aS.o;omega)));rcases gk with _|j
 .obtain rfl:i=n:=by omega
  have t1:decide ((i:Int)<(i:Int))=false:=by simp
  have hr:=HR.o;rw[zT (by rw[ag.o];exact zQ _),q7 ag.o]at hr;have J:=aY.o wr (some ⟨gT,0,none⟩) i hr.R.cells;rw[ag.o]at J;clear hr;cases b
  all_goals
   go_wp2_with fail;refine gB J ?_;go_wp2_with fail;go_ret;exact⟨rfl,C.o⟩
 .have m:i<n:=by omega
  have t1:=jo i n (by omega);have b1:(0:Int)<=(i:Int):=by omega
  have b2:(i:Int)<(n:Int):=by omega
  obtain⟨gi,oi,ci,Bi,cc,Gi,-,ad⟩:=aX.o i m;have ad:=λwz (f:gg [] w wz)=>ad [] wz f (by simp);have⟨s,hs⟩:=zX (gV l i);rw[<-hs]at ad;obtain⟨⟨c0,c1,c2,c3,c4⟩,-⟩:=ad wr C.o;have⟨w5,af⟩:=zX (wr.alloc (.cells #[s.t,s.p.W,s.p.H,s.p.d,.slice (some ⟨gi,oi,none⟩) s.p.P.length ci] 48));have⟨X5,am⟩:=zX wr.heap.size;have az:=RD af am;have D:=H4 af
  have q:∀wz,gg [] w5 wz->Calls prog 24 #[gW p0 gp op cp,gW s.p gi oi ci] wz λe w'=>e=.returned (.bool true)/\gg [] wz w':=λwz f=>
   yo cp (aE.o wz ((C.o.tq D).tq f)).2 ci (ad wz ((C.o.tq D).tq f)).2 (by rw[hs];exact aM.o i m)
  unfold gW at q;rw[<-aU.o]at q;obtain⟨⟨L,M,N,O,Q⟩,-⟩:=aE.o w5 (C.o.tq D);obtain⟨V,W,X,Y,Z⟩:=rF az;have aK:(ts.take i).length=i:=by rw[zI,ag.o];omega
  have aJ:∀wz,gg [] wr wz->gv wz 2 (.slice gT n n) gT ((ia (ts.take i) n).map vi):=λwz f=>HR.o.Z f (by simp);have aG:∀wz,gv wz 2 (.slice gT n n) gT ((ia (ts.take i) n).map vi)->(∃x,wz.cell? ⟨gT,i,none⟩=some (.int .i64 x))/\wz.frozen? ⟨gT,i,none⟩=false/\gv (wz.setCell ⟨gT,i,none⟩ (.int .i64 s.t)) 2 (.slice gT n n) gT ((ia (ts.take (i+1)) n).map vi):=λwz f=>by
   have aH:i<(ia (ts.take i) n).length:=(by rw[nM (by omega)];exact m);obtain⟨_,-,-,-,a1,a2⟩:=f.T;refine⟨⟨_,a1 i _ (zF aH)⟩,a2 i,?_⟩;have K:=f.S (i:=i) (by rw[zE];exact aH) (.int .i64 s.t);have e:((ia (ts.take i) n).map vi).set i (.int .i64 s.t)=(ia (ts.take (i+1)) n).map vi:=by
    have h2:=sX (done:=ts.take i) (n:=n) (by omega) s.t;rw[aK]at h2;have J:i<ts.length:=(by rw[ag.o];exact m);have e3:ts[i]=s.t:=by
     have:=aZ.o i m
     rw[zD,zF J]at this;rw[hs];exact this
    rw[take_succ_eq_append_getElem J,e3,<-h2,map_set];rfl
   rw[e]at K;exact K
  have⟨aT,aR,aW,aw⟩:=gu q aG aJ af;have⟨aF,aN,aP⟩:=Q9 am az D;have y:gh (s.t=s.t):=gd rfl;rw[af]at L M N O Q;rw[af,am]at V W X Y Z;have⟨wo,a5⟩:=zX wr;subst a5;clear ad hs af am az D q aK aJ aG y;go_wp2_with fail;rw[<-aw.o,<-aF.o];rw[<-aw.o]at L M N O Q;rw[<-aw.o,<-aF.o]at V W X Y Z;refine i9 6 (by kernel_rfl) (by kernel_rfl) ?_;simp only[take_succ_cons,take_zero,drop_succ_cons,drop_zero]
  repeat(go_big_quiet_step (fail))
  refine wpQuiet_nil ?_;intro _ a4;obtain⟨nq,rfl⟩:=a4;have q:=aT.o (w5.drewN nq) ((zR [] w5).drewN nq);clear c0 c1 c2 c3 c4 L M N O Q V W X Y Z;go_wp2_with fail;refine q.mono ?_;rintro e w6 ⟨rfl,ay⟩;have aA:gg [] wo w6:=aP.o.tq (((zR [] w5).drewN nq).tq ay);obtain⟨V,W,X,Y,Z⟩:=rF (aN.o.Z (((zR [] w5).drewN nq).tq ay) (by simp));obtain⟨⟨z,f⟩,a6,aI⟩:=aR.o w6 (aW.o w6 aA);have aV:=gd aI;have aQ:gh (gg [gT] w2 (w6.setCell ⟨gT,i,none⟩ (.int .i64 s.t))):=gd ((aD.o.tq (aA.mono (by simp))).setCell (p:=⟨gT,i,none⟩) (.inl (by simp)) _);clear q ay aA aI;go_wp2_with fail
  go_roundg j
  .exact⟨i+1,by go_num,by omega,aV,aQ⟩
  .omega
theorem ID{w:World}{A:Option Addr}{l:List iI}{G:List Nat}(cap:Nat)(h:jY w A l G)(b:nF l):Calls prog 19 #[.slice A l.length cap] w λe w'=>e=.returned (.int .i64 0)/\gg [] w w':=
 Iv cap h b.n0 b.n1 (λi hi=>b.al i hi) (λw A cap hc=>IB w A cap _ hc (by rw[zE];exact b.n1) b.times)
theorem gg.X{F:List Nat}{a b:World}{p:Addr}(h:gg F a b)(r:p.block∉F)(m:a.cell? p=some v):b.cell? p=some v:=by
 have q:p.block<a.heap.size:=by
  rcases zZ p.block a.heap.size with f|f
  .exact f
  .have e:a.heap[p.block]?=none:=Array.getElem?_eq_none f
   simp[World.cell?,e]at m
 exact(World.cell?_of_block (w:=a) (h.block p.block q r)).trans m
theorem NN(l R:List Int)(ks:List Nat)(A V:Option Addr)(cap f W H d:Nat)(w:World)(M:1<=W)(D:W<=64)(hh0:1<=H)(s:H<=64)(h0:1<=d)(T:d<=16)(hl:l.length=W*H)(hs:ie d l)(U:R.length=W*H)(m:ie d R)(L:∀y x,y<H->x<W->R.getD (y*W+x) 0=p9 l W d (ks.getD y 0) y x)(t:ks.length=H)(C:∀k∈ks,k<10)(hc:gz vi w A R)(hk:gz i64 w V ks):Calls prog 136 #[.slice A R.length cap,W,H,d,.slice V ks.length f] w λe w'=>∃v g,e=.returned (.tuple #[v,(0:Int)])/\gv w' 3 v g (l.map vi)/\gg [] w w'/\w.heap.size<=g:=by
 have⟨n,hn⟩:=zX (W*H);have a6:n<=4096:=by rw[hn];exact zL D s
 have a7:n<=64*W:=by rw[hn,zY];exact mul_le_mul_right W s
 have Z:=yU R A cap W H d w M D hh0 s h0 T U m hc;have X:=Cs ks V f w C (by omega) hk;have a5:=kg (P:=prog) iO rfl .i64 .i64 n (by omega) (by omega);have ac:=gv.zeros w n (by omega);have⟨B,hB⟩:=zX w.heap.size;have aI:gg [] w (w.alloc (.cells (replicate n (Value.int .i64 0)).toArray 3)):=(zR [] w).alloc _;rw[<-hB]at ac;rw[t]at X⊢;rw[U,<-hn]at Z⊢;have⟨HN,HR,HL,aP⟩:=gu hn (U.trans hn.symm) (hl.trans hn.symm) t;have⟨HS,aV,aQ,HC⟩:=gu hs L C hc;have⟨aW,HK,HB⟩:=Q9 m hk hB;clear hn U hl t hs L C hc hk hB m;go_enter func136,ntmps136
 go_wp2_with(first|(go_at_call 190;refine gB Z ?_)|(go_at_call 191;refine gB X ?_))
 rw[<-HB.o]
 go_loopg [38] n (λj iv wr=>∃i:Nat,iv=.int .i64 i/\i+j=n/\gv wr 3 (.slice B n n) B ((ia (l.take i) n).map vi)/\gg [] w wr)
 .exact⟨0,rfl,by omega,ac,aI⟩
 clear ac aI Z X;obtain⟨i,rfl,a4,I,J⟩:=hrel;rcases gk with _|j
 .obtain rfl:i=n:=by omega
  have e:ia (l.take i) i=l:=by
   have:=uw l
   rw[HL.o]at this;exact this
  rw[e]at I;go_wp2;refine bodyPost_ret (v:=.tuple #[.slice B i i,(0:Int)]) (by simp[results,results136,go_sem]) rfl ?_;exact⟨_,B,rfl,I,J,by have:=HB.o;omega⟩
 .have N:i<n:=by omega
  have⟨x,hx⟩:=zX (i%W);have⟨y,hy⟩:=zX (i / W);have aG:x<W:=by rw[hx];exact mod_lt _ (by omega)
  have aM:y<H:=by rw[hy];exact Nat.div_lt_of_lt_mul (by have:=HN.o;omega)
  have K:y*W+x=i:=by rw[hx,hy,zY];exact div_add_mod i W
  have aY:(i:Int)%(W:Int)=(x:Int):=by rw[hx];simp
  have aZ:(i:Int) / (W:Int)=(y:Int):=by rw[hy];simp
  have a2:(i:Int).tmod (W:Int)=(x:Int):=by rw[Int.tmod_eq_emod_of_nonneg (by omega)];exact aY
  have a3:(i:Int).tdiv (W:Int)=(y:Int):=by rw[Int.tdiv_eq_ediv_of_nonneg (by omega)];exact aZ
  have af:(ia (l.take i) n).length=n:=nM (by rw[zI];omega);have aL:iC (ia (l.take i) n) W x y=iC l W x y:=by
   have:=AV (l:=l) aG K (by rw[HL.o];omega)
   rw[HL.o]at this;exact this
  have O:=λw' (h:gg [] wr w')=>xJ (ia (l.take i) n) (some ⟨B,0,none⟩) n W x y w' M D aG (by omega) (by rw[K,af];omega) (I.R.cells.Y h) (by omega);rw[af,aL]at O;have⟨k,al⟩:=zX (ks.getD y 0);have Y:y<ks.length:=by rw[aP.o];exact aM
  have ay:k<10:=by rw[al,zD,zF Y];exact aQ.o _ (zG _)
  have Q:=λw'=>xU k (iC l W x y) d w' ay h0 T (qL HS.o W x y);have b:=Nr HS.o W k y x;have aD:=aV.o y x aM aG;rw[<-al,K]at aD;rw[K]at b;have⟨g,hg⟩:=zX (iC l W x y);rw[<-hg]at O Q b;have⟨gs,av⟩:=zX (jV k g d);have aw:=sN (d:=d) (g:=g) (by rw[hg];exact qL HS.o W x y) k;rw[<-av]at aw;rw[<-av]at Q b;rw[<-aD]at b;have⟨r,hr⟩:=zX (R.getD i 0);rw[<-hr]at b;obtain⟨bk,ok,rfl,ah⟩:=(HK.o.Y J).at_ Y;have az:wr.cell? ⟨bk,ok+y,none⟩=some (.int .i64 k):=by
   rw[ah,al,zD,zF Y];rfl
  have ax:i<R.length:=by rw[HR.o];exact N
  obtain⟨ba,oa,rfl,ai⟩:=(HC.o.Y J).at_ ax;have S:wr.cell? ⟨ba,oa+i,none⟩=some (.int .i64 r):=by
   rw[ai,hr,zD,zF ax];rfl
  clear ah ai ax;have a8:wrap64 (r+gs)=r+gs:=by
   have h3:=mZ aW.o i;rw[<-hr]at h3;have hp:(2:Int)^d<=65536:=by
    have:=Nat.pow_le_pow_right (n:=2) (by decide) T
    have e:((2^d:Nat):Int)=(2:Int)^d:=(by simp);omega
   exact IntWalk.wrap64_in _ (by omega)
  have⟨aS,aT,aU⟩:=Q9 O Q S;have aR:gh (l.take (i+1)=l.take i++[gU (r+gs) d]):=gd (by
   have aK:i<l.length:=(by rw[HL.o];exact N);rw[b,zD,zF aK];exact jD l aK)
  have aq:gh ((l.take i).length=i):=gd (by rw[zI,HL.o];omega);have⟨aH,ap,aN⟩:=Q9 b I J;clear hx hy K aL O Q b aD hg av hr al I J af;go_wp2_with fail
  go_quiet (fail)
  go_wp2_with fail;refine(aS.o _ ((zR [] wr).drewN nq)).mono ?_;obtain⟨ga,gb,gc,ge⟩:=g;rintro e w1 ⟨rfl,q,rfl⟩;have⟨wy,aF⟩:=zX ((wr.drewN nq).drewN q);have aJ:gg [] wr wy:=by rw[aF];exact((zR [] wr).drewN nq).drewN q
  rw[<-aF];have az:=aJ.X (by simp) az;clear S aF;go_wp2_with fail;refine(aT.o _).mono ?_;rintro e w2 ⟨rfl,aX⟩;have ar:gg [] wr w2:=aJ.tq aX;have S:=ar.X (by simp) aU.o;have aE:=λw'=>o7 (r+gs) d w' h0 T;rw[aH.o]at aE;go_wp2_with fail;refine(aE _).mono ?_;rintro e w3 ⟨rfl,rfl⟩;have ad:=ap.o.Z ar (by simp);obtain⟨a0,a1⟩:=ad.fill_cell (by rw[aq.o];exact N);have aa:=ad.fill (by rw[aq.o];exact N) (l.getD i 0);rw[aq.o]at a0 a1 aa;have aO:=gd aa;clear ad aa S aE az;go_wp2_with fail
  go_roundg j
  .have au:gg [B] w2 (w2.setCell ⟨B,i,none⟩ (.int .i64 (l.getD i 0))):=(zR _ _).setCell (.inl (by simp)) _
   refine⟨i+1,by go_num,by omega,?_,(aN.o.tq ar).trans au λz hz=>.inr (by have:=HB.o;simp at hz;omega)⟩;have e:=aR.o;rw[aH.o]at e;rw[e];exact aO.o
  .omega
theorem Pm{n:Nat}(h:kK x n=true):tv (kO x n) n=x:=by
 unfold kK at h;simp only[Bool.and_eq_true,decide_eq_true_eq]at h;obtain⟨⟨⟨r,s⟩,t⟩,y⟩:=h;have z:(2:Int)^n=2^(n-1)+2^(n-1):=by
  obtain⟨m,rfl⟩:∃m,n=m+1:=⟨n-1,by omega⟩;rw[Int.pow_succ,Nat.add_sub_cancel];omega
 have q:((2^(n-1):Nat):Int)=(2:Int)^(n-1):=by simp
 have f:=ke (n-1);have b:=Ez x n;unfold tv;by_cases hx:0<=x
 .have e:x%2^n=x:=Int.emod_eq_of_lt hx (by omega)
  rw[e]at b;rw[if_pos (by omega),b]
 .have e:x%2^n=x+2^n:=by
   rw[<-Int.add_emod_right];exact Int.emod_eq_of_lt (by omega) (by omega)
  rw[e]at b;rw[if_neg (by omega),b];omega
theorem Pl{n:Nat}(b:1<=n)(h:x=0\/kK x n=true):tv (kO x n) n=x:=by
 rcases h with rfl|h
 .have e:kO 0 n=0:=by simp[kO]
  rw[e];unfold tv;rw[if_pos (Nat.two_pow_pos _)];rfl
 .exact Pm h
theorem LT(w:World)(b:Nat)(F ds:List Nat)(p n:Nat)(x:Int)(h:gM w b F ds p)(M:n<=31)(q:x=0\/kK x n=true)(s:ig ds p (gx (kO x n) n)):Calls prog 236 #[.pointer b,n] w λe w'=>e=.returned x/\gM w' b F ds (p+n)/\gg [b] w w':=by
 have f:=iU w b F ds p n (kO x n) h (by omega) (xI x n) s;rcases eq_zero_or_pos n with rfl|t
 .have I:x=0:=by
   rcases q with h|h
   .exact h
   .simp[kK]at h
  subst I;clear q s h;have J:(((0:Nat):Int)==0)=true:=rfl;go_enter func236,ntmps236;go_wp2_with fail;refine f.mono ?_;rintro e K ⟨rfl,m,ad⟩;obtain⟨z,C,D,A,cap,y⟩:=Bb m;clear f;go_wp2;go_ret;exact⟨rfl,m,ad⟩
 .have r:=Nc t (by omega) (xI x n)
  rw[Pl t q]at r;have H:=xI x n;rw[IntWalk.i64_left,Int.fdiv_eq_ediv_of_nonneg _ (by have:=ke (64-n);omega)]at r;have⟨v,hv⟩:=zX (kO x n);rw[<-hv]at f r H;have J:((n:Int)==0)=false:=by rw[beq_eq_false_iff_ne];omega
  have L:(64:Int)-(n:Int)=((64-n:Nat):Int):=by omega
  clear q s h hv;go_enter func236,ntmps236;go_wp2_with fail;refine f.mono ?_;rintro e K ⟨rfl,m,ad⟩;obtain⟨z,C,D,A,cap,y⟩:=Bb m;clear f;go_wp2;go_ret;exact⟨rfl,m,ad⟩
def pU(n:Nat)(l:List Int):List Nat:=l.flatMap λx=>gx (kO x n) n
theorem JD(n:Nat)(l:List Int){m:Nat}(b:m<l.length):pU n (l.drop m)=gx (kO l[m] n) n++pU n (l.drop (m+1)):=by
 unfold pU;rw[drop_eq_getElem_cons b,flatMap_cons]
theorem Pf(w:World)(b:Nat)(F ds:List Nat)(p k:Nat)(l:List Int)(h:gM w b F ds p)(hk:k<=25\/k=31)(D:∀x∈l,iy x)(hl:l.length<=4096)(N:ig ds p (mV k l)):Calls prog 189 #[.pointer b,l.length] w λe w'=>∃v G,e=.returned (.tuple #[k,v,(0:Int)])/\jj w' 3 v G (l.map vi)/\gM w' b F ds (p+(mV k l).length)/\gg [b] w w'/\∀x∈G,w.heap.size<=x:=by
 unfold mV at N⊢;have aq:k<2^5:=by omega
 have Q:=iU w b F ds p 5 k h (by omega) aq N.left;have r:=N.right;rw[gH]at r;have aW:=h.lt b h.mem;rcases hk with hk|rfl
 .rw[if_neg (by omega)]at r⊢
  have R:=λw' (hr:gM w' b F ds (p+5))=>Bd w' b F ds (p+5) k l hr hk D (by omega) r;have t1:=jB k 25 (by omega);have aJ:=gd R;rw[zC,gH];generalize (jl k l).length=q at *;generalize l.length=n at *;clear R N r D h;go_enter func189,ntmps189;go_wp2_with fail;refine Q.mono ?_;rintro e w1 ⟨rfl,ad,s⟩;have R:=aJ.o w1 ad;clear Q
  go_wp2_with(go_at_call 60;refine gB (iS _ b F ds _ ad) ?_)
  refine R.mono ?_;rintro e w2 ⟨v,G,rfl,C,z,t,T⟩;go_wp2;refine bodyPost_ret (v:=.tuple #[k,v,(0:Int)]) (by simp[results,results189,go_sem]) rfl ?_;exact⟨v,G,rfl,C,z.cast (by omega),s.tq t,λx hx=>Nat.le_trans s.size (T x hx)⟩
 .rw[if_pos rfl]at r⊢
  have aF:=ut D;have aw:=KS D;have M:=λA cap w' (hc:gz vi w' A l)=>Bf l A cap w' D hc (by omega);have⟨wd,aj⟩:=zX (kY l);rw[<-aj]at r aF aw M⊢;have L:=λw' (hr:gM w' b F ds (p+5))=>iU w' b F ds (p+5) 5 wd hr (by omega) (by omega) r.left;have W:=r.right;rw[gH]at W;have ay:ig ds (p+5+5) (pU wd (l.drop 0)):=by rw[drop_zero];exact W
  have ac:(gx 31 5++(gx wd 5++l.flatMap λx=>gx (kO x wd) wd)).length=5+(5+(pU wd l).length):=by
   rw[zC,zC,gH,gH];rfl
  rw[ac];have⟨n,hn⟩:=zX l.length;rw[<-hn]at hl⊢;have⟨HN,aI,HA,aH⟩:=gu hn h.lt ay L;have⟨aN,aM⟩:=gy aw M;clear hn ay W r N L aw M aj ac D h;go_enter func189,ntmps189;go_wp2_with fail;refine Q.mono ?_;rintro e w1 ⟨rfl,ad,s⟩;have L:=aH.o w1 ad;clear Q
  go_wp2_with(go_at_call 60;refine gB (iS _ b F ds _ ad) ?_)
  refine L.mono ?_;rintro e w2 ⟨rfl,z,t⟩;have ag:=s.tq t;clear L ad s t;go_wp2_with fail
  go_loopg [11,38] n (λj v iv wr=>∃G I f,j<=n/\iv=.int .i64 ((n-j:Nat):Int)/\jj wr 3 v G (f.map vi)/\gh (f=l.take (n-j))/\gM wr b F ds I/\gh (ig ds I (pU wd (l.drop (n-j))))/\gh (I+(pU wd (l.drop (n-j))).length=p+5+5+(pU wd l).length)/\gg [b] w wr/\∀x∈G,w.heap.size<=x)
  .exact⟨[],p+5+5,[],zQ _,by simp,jj.nil _ _,gd (by simp),z,gd (by rw[Nat.sub_self];exact HA.o),gd (by simp),ag,by simp⟩
  clear z ag;obtain⟨G,I,f,hj,rfl,C,K,Z,U,O,X,T⟩:=hrel;have J:=gd T;clear T;rcases gk with _|j
  .obtain⟨A,cap,rfl,aP,aQ,aR⟩:=C.T
   have t4:decide (((n-0:Nat):Int)<(n:Int))=false:=(by simp);have aX:decide (n<n)=false:=(by simp);have e:l.take (n-0)=l:=(by rw[HN.o,Nat.sub_zero,zN]);have e2:l.drop (n-0)=[]:=(by rw[HN.o,Nat.sub_zero,drop_length]);have aC:f=l:=K.o.trans e;have hp:=O.o;rw[e2]at hp;have aD:I=p+5+5+(pU wd l).length:=(by simpa[pU]using hp);subst aC;have M:=aM.o A cap wr aR;have HP:=gd aD;clear e e2 hp aD K O U
   go_wp2_with(go_at_call 60;refine gB (iS _ b F ds _ Z) ?_)
   refine gB M ?_;go_wp2_with fail;refine bodyPost_ret (v:=.tuple #[(31:Int),.slice A f.length cap,(0:Int)]) (by simp[results,results189,go_sem]) rfl ?_;exact⟨_,G,rfl,C,Z.cast (by rw[HP.o];omega),X,J.o⟩
  .obtain⟨A,cap,rfl,aP,aQ,-⟩:=C.T
   have⟨m,aA⟩:=zX (n-(j+1));rw[<-aA]at U O K⊢;have aS:m<n:=(by omega);have aB:n-j=m+1:=(by omega);have HM:=gd aB;clear aA aB;have Y:m<l.length:=(by rw[<-HN.o];exact aS);have S:=JD wd l Y;have av:=jD l Y;have ax:=aN.o l[m] (zG _);have⟨x,hx⟩:=zX (l[m]);rw[<-hx]at S ax av;have r:=U.o;rw[S]at r;have aE:=LT wr b F ds I wd x Z aF ax r.left;have aG:=gd r.right;have aC:f.length<=4096:=(by rw[K.o,zI];omega);have⟨aL,aK⟩:=gy av S;clear S av hx r Y ax;go_wp2_with fail;refine aE.mono ?_;rintro e aV ⟨rfl,ad,s⟩;have az:∀y∈G,y∉[b]:=λy H=>by have:=J.o y H;simp;omega
   have aU:=C.Z s az;clear aE az
   go_wp2_with(at_builtin;refine ka rfl rfl iO rfl rfl (aU.alloc _) (.int .i64 x) rfl ?c1 ?c2 ?c3 ?c4 ?_)
   case c1=>simp[go_sem]
   case c2=>rfl
   case c3=>rw[zE];omega
   case c4=>rw[zE];omega
   intro g2 aO w2' z V;go_wp2_with fail
   go_roundg j
   .rw[HM.o]
    have t:gg [b] w w2':=(X.tq (s.alloc _)).trans V.Z λx hx=>.inr (J.o x hx);have aT:∀y∈F,y∉G:=λy H hyG=>by have:=J.o y hyG;have:=aI.o y H;omega
    refine⟨[g2],_,f++[x],by omega,by go_num,?_,?_,(ad.Y ((zR [] aV).alloc _)).Z V.Z aT,gd (by have:=aG.o;rw[gH]at this;exact this),?_,t,?_⟩
    .have:=z.R
     simpa[vi]using this
    .exact gd (by rw[K.o,aL.o])
    .refine gd ?_
     rw[<-O.o,aK.o,zC,gH];omega
    .intro y H
     simp at H;subst H;rcases V.new y (by simp)with h1|h1
     .exact J.o y h1
     .have:=X.size
      have:=s.size
      simp at h1;omega
   .omega
theorem Cm(l:List Int)(W d:Nat):∀(k i:Nat),∃r,kw l W d (i+k)=kw l W d i++r
 | 0,i=>⟨[],by simp⟩
 | k+1,i=>by
  obtain⟨r,b⟩:=Cm l W d k i;exact⟨r++rT (mG l W d (i+k)) l W d (i+k),by rw[show i+(k+1)=(i+k)+1 by omega,kw,b,zH]⟩
theorem NE{l:List Int}(b:ie d l)(i n:Nat):ie d (ia (l.take i) n):=by
 intro s h;unfold ia at h;rcases zP.1 h with h|h
 .exact b s (mem_of_mem_take h)
 .rw[eq_of_mem_replicate h];exact⟨Int.le_refl _,ke d⟩
theorem O3(w:World)(b:Nat)(F ds:List Nat)(p:Nat)(l:List Int)(W H d:Nat)(h:gM w b F ds p)(hw0:1<=W)(S:W<=64)(hh0:1<=H)(O:H<=64)(f:1<=d)(q:d<=16)(Q:l.length=W*H)(hs:ie d l)(ha:ig ds p (kw l W d (W*H))):Calls prog 114 #[.pointer b,W,H,d] w λe w'=>∃v g,e=.returned (.tuple #[v,(0:Int)])/\gv w' 3 v g (l.map vi)/\gM w' b F ds (p+(kw l W d (W*H)).length)/\gg [b] w w'/\w.heap.size<=g:=by
 have br:l.length<=4096:=by rw[Q];exact zL S O
 obtain⟨bM,a9⟩:=jX f q;have bv:=λi=>vZ l W f q a9 i;have⟨n,hn⟩:=zX l.length;have bV:n<=64*W:=by rw[hn,Q,zY];exact mul_le_mul_right W O
 have bU:(W:Int)*(H:Int)=(n:Int):=by rw[hn,Q];simp
 rw[<-Q,<-hn]at ha⊢;rw[<-hn]at br;have bT:=kg (P:=prog) iO rfl .i64 .i64 n (by omega) (by omega);have t1:=Ra W 1 (by omega);have t2:=Ra 64 W (by omega);have t3:=Ra H 1 (by omega);have t4:=Ra 64 H (by omega);have aC:=Gw d w f q;have bP:=h.lt b h.mem;have bu:=h.lt;have⟨HA,bJ,HS,HN⟩:=gu ha bv hs hn;have⟨HP,bg⟩:=gy a9 bu;clear bv hs hn Q a9 ha bu;go_enter func114,ntmps114;go_wp2_with fail;refine aC.mono ?_;rintro e T ⟨N,rfl,a7,aY,bQ⟩;have ba:=h.Y aY;have af:=gv.zeros T n (by omega);have⟨B,hB⟩:=zX T.heap.size;have Y:gg [] T (T.alloc (.cells (replicate n (Value.int .i64 0)).toArray 3)):=(zR [] T).alloc _;have az:=a7.Z Y (by simp);have bA:=ba.Y Y;have bL:N<B:=by rw[hB];exact a7.lt
 rw[<-hB]at af;have⟨HB,an⟩:=gy hB aY;clear aC h hB a7 aY
 go_wp2_with(go_at_call 60;refine gB (iS _ b F ds _ ba) ?_)
 rw[<-HB.o]
 go_loopg [14,15,16,17,18,19,20,55] n (λj va vb vc vd ve vf vg iv wr=>∃(i C:Nat),iv=.int .i64 i/\i+j=n/\gv wr 3 (.slice B n n) B ((ia (l.take i) n).map vi)/\gM wr b F ds C/\gh (C=p+(kw l W d i).length)/\jh wr N d (mG l W d i)/\gh (gg [b] w wr))
 .exact⟨0,p,rfl,by omega,by simpa using af,bA,gd (by simp[kw]),az,gd ((an.o.trans Y (by simp)).mono (by simp))⟩
 clear af bA az Y ba;obtain⟨i,C,rfl,bR,I,bb,U,ai,be⟩:=hrel;rcases gk with _|j
 .obtain rfl:n=i:=by omega
  have t5:decide (n<n)=false:=by simp
  have e:ia (l.take n) n=l:=by
   have:=uw l
   rw[<-HN.o]at this;exact this
  rw[e]at I;go_wp2_with fail
  go_ret2
  exact⟨_,B,rfl,I,bb.cast U.o,be.o,by have:=HB.o;have:=an.o.size;omega⟩
 .have aR:i<n:=by omega
  have⟨x,hx⟩:=zX (i%W);have⟨y,hy⟩:=zX (i / W);have bC:x<W:=by rw[hx];exact mod_lt _ (by omega)
  have bE:y*W+x=i:=by rw[hx,hy,zY];exact div_add_mod i W
  have aS:iC (ia (l.take i) n) W (i%W) (i / W)=iC l W (i%W) (i / W):=by
   have:=AV (l:=l) bC bE (by rw[<-HN.o];omega)
   rw[<-HN.o,hx,hy]at this;exact this
  clear hx hy bC bE;have ah:(ia (l.take i) n).length=n:=nM (by rw[zI];omega);have D:=bJ.o i;have bo:=uJ (iC l W (i%W) (i / W)) d;obtain⟨r,hr⟩:=Cm l W d (n-(i+1)) (i+1);rw[show i+1+(n-(i+1))=n by omega]at hr;have K:kw l W d (i+1)=kw l W d i++rT (mG l W d i) l W d i:=rfl;have aT:mG l W d (i+1)=sg (mG l W d i) l W d i:=rfl;have aZ:=HA.o;rw[hr]at aZ;have a0:=aZ.left;rw[K]at a0;have M:=a0.right;rw[<-U.o]at M;have⟨m,hm⟩:=zX (mG l W d i);rw[<-hm]at ai K aT D M;have a6:=Fw N d m (ia (l.take i) n) (some ⟨B,0,none⟩) n W i wr ai D f q hw0 S (by rw[ah];omega) (by omega) (NE HS.o i n) I.R.cells (by rw[ah];exact br);have ec:j0 (ia (l.take i) n) W d i=j0 l W d i:=by unfold j0;rw[aS]
  have et:kH (ia (l.take i) n) W d i=kH l W d i:=by unfold kH;rw[aS]
  have ep:lV m (ia (l.take i) n) W d i=lV m l W d i:=by unfold lV;rw[ec,et,aS]
  rw[ec,et,ep,ah]at a6;have a5:i<l.length:=by rw[<-HN.o];exact aR
  have aV:=mZ HS.o i;have bz:=Eq (jW m (j0 l W d i)) (jV 7 (iC l W (i%W) (i / W)) d) (kH l W d i) (d:=d) bM;have bx:lV m l W d i=pZ (jW m (j0 l W d i)) (jV 7 (iC l W (i%W) (i / W)) d) (kH l W d i) d:=rfl;rw[<-bx]at bz;have t:=vL (l.getD i 0) (lV m l W d i) (kH l W d i) f;have a2:=Ej (l.getD i 0) (lV m l W d i) (kH l W d i) f q;have ax:=sG q t;have s:=Le (g:=lV m l W d i) (kH l W d i) aV.1 aV.2;have a1:RE m l W d i=qe (l.getD i 0) (lV m l W d i) (kH l W d i) d:=rfl;rw[<-a1]at t a2 s ax;have bp:=Fd f t.1 t.2;have bn:rT m l W d i=jp (pz (jW m (j0 l W d i))) (RE m l W d i):=rfl;have bw:sg m l W d i=m.set (j0 l W d i) (p6 (jW m (j0 l W d i)) (RE m l W d i)):=rfl;rw[bn]at M K;rw[bw]at aT;have ao:j0 l W d i<365:=bo;have bS:=xT (rN D ao).2;have aU:=jD l a5;have bD:l[i]=l.getD i 0:=by rw[zD,zF a5];rfl
  rw[bD]at aU;have aP:(l.take i).length=i:=by rw[zI];omega
  obtain⟨Z,aQ⟩:=I.fill_cell (by rw[aP];exact aR);have aX:=gd I;rw[aP]at Z aQ;generalize j0 l W d i=cx at *;generalize lV m l W d i=pr at *;generalize kH l W d i=tb at *;generalize RE m l W d i=er at *;have⟨xv,aI⟩:=zX (l.getD i 0);rw[<-aI]at s aU aV a1;have bq:=λw h=>Hn N d m cx w h D ao;generalize pz (jW m cx)=kk at *;have ae:=λw h=>Ft N d m cx er w h D f q ao t.1 t.2;obtain⟨bN,aE⟩:=bz;have bW:pr<65536:=Int.lt_of_lt_of_le aE HP.o;have al:=λw' (hq:gM w' b F ds C)=>Bd w' b F ds C kk [er] hq (by omega) (λz hz=>by rw[zU.1 hz];exact a2) (by simp) (by simpa[jl]using M);have a3:=λw'=>oB er d w' f q;rw[bp]at a3;have bB:=λv w'=>o7 v d w' f q;have⟨bI,bH,bi,bh⟩:=gu ae bq K aT;have⟨bj,aW,bd,bG⟩:=gu aU aP s al;have⟨bF,bk⟩:=gy a3 bB;clear ae bq K aT a1 hm bx bo bD bn bw D t s al a3 bB bp a2 aZ a0 M hr aS ah ec et ep aI I aU aP a5 Z aQ aV aE;go_wp2_with fail;refine a6.mono ?_;rintro e w2 ⟨rfl,L⟩;have aF:=bb.Y L;have aq:=ai.Z L (by simp);clear a6 bb ai;go_wp2_with fail;refine(bH.o _ aq).mono ?_;rintro e w3 ⟨rfl,n3,rfl⟩;have a4:=bG.o _ (aF.Y ((zR [] w2).drewN n3));rw[show(([er]:List Int).length:Int)=1 from rfl]at a4;go_wp2_with fail;refine a4.mono ?_;rintro e w4 ⟨v4,G4,rfl,aJ,aG,V,bK⟩;rcases aJ.cases with⟨_,a8,_⟩|⟨g4,aK,rfl⟩
  .exfalso
   have:=congrArg length a8
   simp at this
  obtain⟨c4,rfl,_,_,ac,_⟩:=aK.T;have e0:=ac 0 er rfl;have bO:w4.cell? g4=some (.int .i64 er):=e0;have aA:=(aq.Z ((zR [] w2).drewN n3) (by simp)).Z V (by simp;omega);have aw:=gd (((be.o.trans L (by simp)).drewN n3).tq V);have am:=((aX.o.Z L (by simp)).drewN n3).Z V (by have:=HB.o;have:=an.o.size;simp;omega);have bs:=bI.o w4 aA;have ay:=bF.o w4;rw[show(([er]:List Int).length)=1 from rfl];clear aJ aK ac e0 aq aF L V a4 bK aA
  go_wp2_with(go_at_call 79;refine gB ay ?_)
  refine bs.mono ?_;rintro e w5 ⟨rfl,aB,X⟩;have ag:=am.Z X (by simp;omega);obtain⟨Z,aQ⟩:=ag.fill_cell (by rw[aW.o];exact aR);have ad:=ag.fill (by rw[aW.o];exact aR) xv;rw[aW.o]at Z aQ ad;have bf:=gd ad;have aH:=aG.Z X (λz hz hm=>by simp at hm;have:=bg.o z hz;have:=an.o.size;omega);have ak:=gd (aw.o.trans X (λz hz=>.inr (by simp at hz;omega)));have J:gg [B] w5 (w5.setCell ⟨B,i,none⟩ (.int .i64 xv)):=(zR _ _).setCell (.inl (by simp)) _;have bl:∀z∈F,z∉[B]:=λz hz hm=>by simp at hm;have:=bg.o z hz;have:=an.o.size;have:=HB.o;omega
  have bc:=gd bl;clear bs am ag ad aG X ay bl
  cases tb with
  | false=>
   have s:gU (pr+er) d=xv:=bd.o;have R:=bk.o (pr+er);rw[s]at R
   go_wp2_with(go_at_call 81;refine gB (R _) ?_)
   go_roundg j
   .refine⟨i+1,C+(jl kk [er]).length,by go_num,by omega,?_,aH.Z J bc.o,gd ?_,?_,gd (ak.o.trans J (λz hz=>.inr (by simp at hz;have:=HB.o;have:=an.o.size;omega)))⟩
    .rw[bj.o];exact bf.o
    .rw[bi.o,zC,U.o];simp[jl];omega
    .rw[bh.o];exact aB.Z J (by simp;omega)
   .omega
  | true=>
   have s:gU (pr + -er) d=xv:=bd.o;have R:=bk.o (pr + -er);rw[s]at R
   go_wp2_with(go_at_call 81;refine gB (R _) ?_)
   go_roundg j
   .refine⟨i+1,C+(jl kk [er]).length,by go_num,by omega,?_,aH.Z J bc.o,gd ?_,?_,gd (ak.o.trans J (λz hz=>.inr (by simp at hz;have:=HB.o;have:=an.o.size;omega)))⟩
    .rw[bj.o];exact bf.o
    .rw[bi.o,zC,U.o];simp[jl];omega
    .rw[bh.o];exact aB.Z J (by simp;omega)
   .omega
def tk(l:List Int)(i:Nat)(t:gZ):Prop:=
 (t.len=0/\t.dist=0/\t.lit=l.getD i 0)\/(1<=t.len/\i+t.len<=l.length/\1<=t.dist/\t.dist<=i/\∀j,j<t.len->l.getD (i+j) 0=l.getD (i+j-t.dist) 0)
def qG(l:List Int)(k:Nat)(rs:List Nat):Prop:=∀d,1<=d->d<=k->∀j,j<rs.getD d 0->l.getD (k+j) 0=l.getD (k+j-d) 0
structure uX (l:List Int) (k:Nat) (rs:List Nat) (d:Nat) (s:mR):Prop where
 r1:∀e,1<=e->e<d->∀j,j<s.runs.getD e 0->l.getD (k+j) 0=l.getD (k+j-e) 0
 r2:∀e,d<=e->s.runs.getD e 0=rs.getD e 0
 dd:∀m,s.dists.getD m 0≠0->s.dists.getD m 0<d/\m<=s.runs.getD (s.dists.getD m 0) 0
theorem Ek:∀f D m d n,(km f D m d).getD n 0=D.getD n 0\/((km f D m d).getD n 0=d/\m<n/\n<=m+f)
 | 0,_,_,_,_=>.inl rfl
 | f+1,D,m,d,n=>by
  rw[km];rcases Ek f (D.set (m+1) d) (m+1) d n with h|⟨h,b,e⟩
  .rw[h,rR]
   split
   .exact .inr ⟨rfl,by omega,by omega⟩
   .exact .inl rfl
  .exact .inr ⟨h,by omega,by omega⟩
theorem LU{l:List Int}{b:List Nat}(h:qG l (k+1) b)(e:rs.getD d 0=b.getD d 0)(m:1<=d)(q:d<=k):∀j,j<kT l k rs d->l.getD (k+j) 0=l.getD (k+j-d) 0:=by
 intro j f;unfold kT at f;split at f
 .rename_i hq
  cases j with
  | zero=>exact hq
  | succ j=>
   have:=h d m (by omega) j (by rw[<-e];omega)
   rw[show k+(j+1)=k+1+j by omega];exact this
 .omega
theorem Me{l:List Int}{s:mR}(z:qG l (k+1) rs)(C:s.Ok)(h:uX l k rs d s)(r:1<=d)(t:d<=k)(I:d<=1024):uX l k rs (d+1) (nB l k s d):=by
 have y:=LU (rs:=s.runs) z (h.r2 d (zQ _)) r t;have f:d<s.runs.length:=by rw[C.rl];omega
 refine⟨λe he1 he2 j hj=>?_,λe he=>?_,λm hm=>?_⟩
 .have b:j<(s.runs.set d (kT l k s.runs d)).getD e 0:=hj
  rw[rR]at b;split at b
  .rename_i hq
   obtain⟨rfl,_⟩:=hq;exact y j b
  .rename_i hq
   exact h.r1 e he1 (by
    have:¬d=e:=λhh=>hq ⟨hh,f⟩
    omega) j b
 .show(s.runs.set d (kT l k s.runs d)).getD e 0=_
  rw[rR,if_neg (by omega)];exact h.r2 e (by omega)
 .have q:(km (kT l k s.runs d-s.M) s.dists s.M d).getD m 0≠0:=hm
  show(km (kT l k s.runs d-s.M) s.dists s.M d).getD m 0<d+1/\m<=(s.runs.set d (kT l k s.runs d)).getD ((km (kT l k s.runs d-s.M) s.dists s.M d).getD m 0) 0;rcases Ek (kT l k s.runs d-s.M) s.dists s.M d m with e|⟨e,H,e2⟩
  .rw[e]at q⊢
   obtain⟨J,D⟩:=h.dd m q;refine⟨by omega,?_⟩;rw[rR,if_neg (by omega)];exact D
  .rw[e]
   refine⟨by omega,?_⟩;rw[rR,if_pos ⟨rfl,f⟩];omega
theorem Gh{l:List Int}{k:Nat}{rs:List Nat}(b:qG l (k+1) rs):∀f d s,s.Ok->uX l k rs d s->1<=d->d+f<=k+1->d+f<=1025->uX l k rs (d+f) (qj l k f d s)
 | 0,_,_,_,h,_,_,_=>h
 | f+1,d,s,ho,h,h1,h2,h3=>by
  have:=Gh b f (d+1) _ (AI (l:=l) (at_:=k) ho (by omega)) (Me b ho h h1 (by omega) (by omega)) (by omega) (by omega) (by omega)
  rw[show d+(f+1)=d+1+f by omega];exact this
theorem Ei{l:List Int}(f:qG l (k+1) rs)(b:rm rs):uX l k rs (1+min k 1024) (nC l k rs):=by
 refine Gh f _ _ _ (z7 b) ⟨λe h1 h2=>by omega,λe _=>rfl,λm hm=>?_⟩ (by omega) (by omega) (by omega);exfalso;apply hm;show(replicate 65 0).getD m 0=0;rw[zD,getElem?_replicate];split<;>rfl
theorem NP{l:List Nat}(h:l.length<=i):l.getD i 0=0:=by
 rw[zD,getElem?_eq_none h];rfl
theorem Ld{l:List Int}(m:qG l (k+1) rs)(e:rm rs):qG l k (nC l k rs).runs:=by
 intro d f q j b;have h:=Ei m e;by_cases h3:d<=1024
 .exact h.r1 d f (by omega) j b
 .rw[NP (by rw[(AL e).rl];omega)]at b
  omega
theorem EL{F:List gZ}{t:gZ}:jA (F.set i t) j=if i=j/\i<F.length then t else jA F j:=by
 unfold jA;rw[zD,zD,getElem?_set];by_cases h:i=j
 .subst h
  by_cases h2:i<F.length
  .simp[h2]
  .simp[h2]
 .simp[h]
def pP(l:List Int)(k:Nat)(F:List gZ):Prop:=F.length=l.length/\∀i,k<=i->i<l.length->tk l i (jA F i)
theorem Lt{l:List Int}{n:Nat}{D:List Nat}{p:List Nat × List gZ}(b:D.getD n 0≠0->3<=n->tk l k ⟨n,D.getD n 0,0⟩)(h:pP l k p.2):pP l k (n7 cp k D n p).2:=by
 unfold n7;split
 .exact h
 .rename_i hq
  split
  .refine⟨by rw[length_set];exact h.1,λi h1 h2=>?_⟩
   rw[EL];split
   .rename_i he
    obtain⟨rfl,_⟩:=he;exact b (by omega) (by omega)
   .exact h.2 i h1 h2
  .exact h
theorem C7{l:List Int}{cp k:Nat}{D:List Nat}(b:∀n,D.getD n 0≠0->3<=n->tk l k ⟨n,D.getD n 0,0⟩):∀f m p,pP l k p.2->pP l k (nW cp k D f m p).2
 | 0,_,_,h=>h
 | f+1,m,p,h=>C7 b f (m+1) _ (Lt (b m) h)
theorem N4{l:List Int}{b:Nat}{s:l3}(f:s.Ok l.length b (k+1))(z:k<l.length)(y:qG l (k+1) s.runs)(e:pP l (k+1) s.first):qG l k (rx l b cp k s).runs/\pP l k (rx l b cp k s).first:=by
 have q:rm s.runs:=⟨f.rl,λx hx=>(f.rb x hx).1⟩;have h:=AJ (l:=l) (at_:=k) (rs:=s.runs) (B:=l.length-(k+1)) (λx hx=>(f.rb x hx).2);have m:=Ei y q;refine⟨Ld y q,C7 (λn hn h3=>?_) 65 0 _ ?_⟩
 .obtain⟨r,t⟩:=m.dd n hn
  have C:=h.db n hn;have D:=h.lb;refine .inr ⟨by simp only;omega,by simp only;omega,by simp only;omega,by simp only;omega,λj hj=>?_⟩;exact m.r1 _ (by omega) r j (by simp only at hj;omega)
 .refine⟨by show(s.first.set k _).length=_;rw[length_set];exact e.1,λi r t=>?_⟩
  show tk l i (jA (s.first.set k _) i);rw[EL];split
  .rename_i he
   obtain⟨rfl,_⟩:=he;exact .inl ⟨rfl,rfl,rfl⟩
  .rename_i he
   exact e.2 i (by
    have:¬k=i:=λhh=>he ⟨hh,by rw[e.1];exact z⟩
    omega) t
theorem G0{l:List Int}{b cp:Nat}:∀k s,s.Ok l.length b k->k<=l.length->qG l k s.runs->pP l k s.first->pP l 0 (qW l b cp k s).first
 | 0,_,_,_,_,h=>h
 | k+1,s,ho,hk,hr,hf=>by
  obtain⟨e,f⟩:=N4 (cp:=cp) ho (by omega) hr hf;exact G0 k _ (AP ho (by omega)) (by omega) e f
theorem Lv(l:List Int)(b cp:Nat):pP l 0 (rU l b cp).first:=by
 refine G0 _ _ (Af _ _) (zQ _) (λd _ _ j hj=>?_) ⟨zV,λi h1 h2=>by omega⟩;exfalso
 have:(replicate 1025 0).getD d 0=0:=by
  rw[zD,getElem?_replicate];split<;>rfl
 have e:j<(replicate 1025 0).getD d 0:=hj;omega
def sR(l:List Int):Nat->List gZ->Prop
 | i,[]=>l.length<=i
 | i,t::T=>i<l.length/\tk l i t/\sR l (i+max t.len 1) T
theorem DY{l:List Int}{F:List gZ}(h:pP l 0 F):∀f i,l.length<=i+f->sR l i (lh F l.length f i)
 | 0,i,hi=>by simpa[lh,sR]using hi
 | f+1,i,hi=>by
  unfold lh;split
  .rename_i hl
   exact⟨hl,h.2 i (zero_le _) hl,DY h f _ (by omega)⟩
  .show l.length<=i
   omega
theorem Ku(l:List Int)(b cp:Nat):sR l 0 (l5 l b cp):=DY (Lv l b cp) _ _ (by omega)
def kV(bs:List Nat):List Nat:=bs++replicate ((8-bs.length%8)%8) 0
theorem rW(bs:List Nat):(kV bs).length=8*((bs.length+7) / 8):=by
 unfold kV;rw[zC,zV];omega
theorem GP(w:World)(b:Nat)(F bs:List Nat)(h:hJ w b F bs)(y:bs.length<549755813000):Calls prog 45 #[.pointer b] w λe w'=>e=.returned (.tuple #[])/\∃F',hJ w' b F' (kV bs)/\gE F F' w w':=by
 have C:=gd h;clear h;go_enter func45,ntmps45;go_wp2_with fail
 go_loopg [] ((8-bs.length%8)%8) (λj wr=>∃(i:Nat) (F':List Nat),i+j=(8-bs.length%8)%8/\gh (hJ wr b F' (bs++replicate i 0))/\gh (gE F F' w wr))
 .exact⟨0,F,by omega,gd (by simpa using C.o),gd (gE.refl _ _)⟩
 obtain⟨i,F',J,f,t⟩:=hrel;obtain⟨v,G,s,-,-⟩:=f.o.ex;have c1:=s.X 1;simp only[zC,zV]at c1;simp at c1;have⟨q,hq⟩:=zX (bs.length+i);have m:((bs.length:Int)+(i:Int))=(q:Int):=by omega
 rw[m]at c1;rcases gk with _|j
 .have I:(q:Int)%8=0:=by omega
  obtain rfl:i=(8-bs.length%8)%8:=by omega
  clear s hq m;go_wp2
  go_end0
  exact⟨rfl,F',f.o,t.o⟩
 .have⟨r,hr⟩:=zX (q%8)
  have I:(q:Int)%8=(r:Int):=by omega
  have K:((r:Int) != 0)=true:=by rw[bne_iff_ne];omega
  have D:=xG wr b F' _ 0 f.o (by omega) (by rw[zC,zV];omega);clear s hq m hr;go_wp2_with fail;refine D.mono ?_;rintro e L ⟨rfl,z,ad,H⟩;go_wp2_with fail
  go_roundg j
  .refine⟨i+1,z,by omega,gd ?_,gd (t.o.trans H)⟩
   rw[replicate_succ',<-zH];exact ad
  .omega
theorem xd(h:∀b∈bs,b<2):∀d∈iD bs,d<256:=by
 intro d e;obtain⟨i,_,rfl⟩:=List.mem_map.1 e;exact D9 h i
theorem ru(h:∀b∈bs,b<2)(k:Nat):bt bs k<2:=by
 unfold bt;rw[zD]
 cases hx:bs[k]? with
 | none=>simp
 | some x=>exact h x (mem_of_getElem? hx)
theorem JO(h:∀b∈bs,b<2)(s:i<bs.length):lW (iD bs) i=bt bs i:=by
 have m:i / 8<(bs.length+7) / 8:=by omega
 have e:(iD bs).getD (i / 8) 0=j6 bs (i / 8):=by
  rw[zD];unfold iD;rw[zW,getElem?_range m];rfl
 unfold lW;rw[e];have⟨q,ab⟩:=zX (i / 8);have⟨r,ac⟩:=zX (i%8);have f:i=8*q+r:=by omega
 have ad:r<8:=by omega
 rw[<-ab,<-ac,f];have t:=ru h (8*q);have y:=ru h (8*q+1);have z:=ru h (8*q+2);have C:=ru h (8*q+3);have D:=ru h (8*q+4);have H:=ru h (8*q+5);have I:=ru h (8*q+6);have J:=ru h (8*q+7);unfold j6;clear ab ac f m e s;obtain rfl|rfl|rfl|rfl|rfl|rfl|rfl|rfl:r=0\/r=1\/r=2\/r=3\/r=4\/r=5\/r=6\/r=7:=by omega
 all_goals
  simp only[Nat.add_zero,Nat.sub_zero,Nat.sub_self,Nat.reduceSub,Nat.reducePow];omega
theorem I5(h:∀b∈bs,b<2):∃rest,pJ (iD bs)=bs++rest:=by
 refine⟨(pJ (iD bs)).drop bs.length,?_⟩;have e:(pJ (iD bs)).take bs.length=bs:=by
  apply ext_getElem?;intro i;rcases zZ i bs.length with f|f
  .rw[getElem?_take,if_pos f,CM (by rw[ox];omega),JO h f]
   unfold bt;rw[zD,zF f];rfl
  .rw[getElem?_take,if_neg (by omega),getElem?_eq_none f]
 have e2:=take_append_drop bs.length (pJ (iD bs));rw[e]at e2;exact e2.symm
theorem zw{A B C:List Nat}(h:∀b∈A++B++C,b<2):ig (iD (A++B++C)) A.length B:=by
 obtain⟨rest,e⟩:=I5 h;refine⟨C++rest,?_⟩;rw[e,zH,zH,drop_left]
theorem oO{p:qc}(h:i<p.P.length):p.P.getD i []∈p.P:=by
 rw[zD,zF h];exact zG h
theorem iL.setPlane{w w':World}{p b:qc}{gP cap:Nat}{xs:List Value}{gs:List Nat}(h:iL w p gP cap xs gs){l:List Int}(y:xs[i]?=some u)(s:gs[i]?=some g)(r:gv w' 3 u g (l.map vi))(q:gg [g] w w')(e:gP≠g)(f:b.Ok)(m:b.P=p.P.set i l):iL w' b gP cap xs gs:=by
 refine⟨f,?_,?_⟩
 .have t:b.P.length=p.P.length:=by rw[m,length_set]
  rw[t];exact h.row.Z q (by simpa using e)
 .rw[m]
  exact h.pl.set y s r q
theorem iL.neP{w:World}{p:qc}{gP cap:Nat}{xs:List Value}{gs:List Nat}(h:iL w p gP cap xs gs)(m:i<p.P.length)(f:gs[i]?=some g):gP≠g:=by
 obtain⟨g',c,q,b,e,_⟩:=h.plane m;rw[f]at b;injection b with b;subst b;exact h.row.ne_row e (by decide)
theorem MO{α:Type}{l:List α}{x:α}(h:l.Nodup)(r:x∉l):(l.set i x).Nodup:=by
 rw[Nodup,pairwise_iff_getElem]at h⊢;intro a b f m s e;rw[length_set]at f m;have q:∀k (hk:k<l.length),l[k]∈l:=λk hk=>zG hk;rw[getElem_set,getElem_set]at e;split at e
 .split at e
  .omega
  .exact r (e ▸ q b m)
 .split at e
  .exact r (e ▸ q a f)
  .exact h a b f m s e
theorem jm.replace{w w':World}{xs:List Value}{P:List (List Int)}{gs F:List Nat}(h:jm w xs P gs){l:List Int}(b:i<P.length)(r:gv w' 3 u g (l.map vi))(q:gg F w w')(s:∀x∈gs,x∉F)(t:g∉gs):jm w' (xs.set i u) (P.set i l) (gs.set i g):=by
 refine⟨by rw[length_set,length_set,h.lx],by rw[length_set,length_set,h.lg],MO h.nd t,λk l' hl=>?_⟩;by_cases hk:i=k
 .subst hk
  rw[getElem?_set_self b]at hl;injection hl with hl;subst hl;exact⟨u,g,getElem?_set_self (by rw[h.lx];exact b),getElem?_set_self (by rw[h.lg];exact b),r⟩
 .rw[getElem?_set_ne hk]at hl
  obtain⟨y,g',f,e,m⟩:=h.row k l' hl;exact⟨y,g',by rw[getElem?_set_ne hk];exact f,by rw[getElem?_set_ne hk];exact e,m.Z q (s g' (mem_of_getElem? e))⟩
theorem iL.replace{w wa:World}{p f:qc}{gP cap:Nat}{xs:List Value}{gs F:List Nat}(h:iL w p gP cap xs gs){l:List Int}(z:i<p.P.length)(r:gv wa 3 u g (l.map vi))(y:gg F w wa)(hF:∀x∈gP::gs,x∉F)(M:w.heap.size<=g)(q:f.Ok)(t:f.P=p.P.set i l):iL (wa.setCell ⟨gP,i,none⟩ u) f gP cap (xs.set i u) (gs.set i g):=by
 have ad:g∉gs:=λb=>by have:=h.pl.lt g b;omega
 have I:gP≠g:=λe=>by have:=h.ltP;omega
 have D:gP∉gs:=λb=>by
  obtain⟨k,C,e⟩:=getElem_of_mem b;have J:k<p.P.length:=by rw[<-h.pl.lg];exact C
  have:=h.neP J (zF C)
  exact this e.symm
 have H:gg [gP] wa (wa.setCell ⟨gP,i,none⟩ u):=(zR [gP] wa).zs i u;refine⟨q,?_,?_⟩
 .have L:f.P.length=p.P.length:=by rw[t,length_set]
  rw[L];exact(h.row.Z y (hF gP (by simp))).S (by rw[h.pl.lx];exact z) u
 .rw[t]
  have K:=h.pl.replace z r y (λx s=>hF x (by simp[s])) ad;refine K.Z H ?_;intro x s b;simp at b;subst b;rcases mem_or_eq_of_mem_set s with m|m
  .exact D m
  .exact I m
theorem iL.sample{w:World}{p f:qc}{gP cap:Nat}{xs:List Value}{gs:List Nat}(h:iL w p gP cap xs gs){v:Int}(z:xs[i]?=some u)(q:gs[i]?=some g)(s:i<p.P.length)(y:gv w 3 u g ((p.P.getD i []).map vi))(t:k<(p.P.getD i []).length)(b:f.Ok)(r:f.P=p.P.set i ((p.P.getD i []).set k v)):iL (w.setCell ⟨g,k,none⟩ (.int .i64 v)) f gP cap xs gs:=by
 have m:=y.S (i:=k) (by rw[zE];exact t) (.int .i64 v);have e:((p.P.getD i []).map vi).set k (.int .i64 v)=((p.P.getD i []).set k v).map vi:=by rw[map_set];rfl
 rw[e]at m;exact h.setPlane z q m ((zR [g] w).zs k _) (h.neP s q) b r
def yj(p:qc)(i:Nat)(l:List Int):qc:=⟨p.W,p.H,p.d,p.P.set i l⟩
theorem H3{p:qc}(h:p.Ok)(i:Nat){l:List Int}(e:l.length=p.W*p.H)(f:ie p.d l):(yj p i l).Ok where
 w0:=h.w0
 w1:=h.w1
 h0:=h.h0
 h1:=h.h1
 d0:=h.d0
 d1:=h.d1
 n0:=by show 1<=(p.P.set i l).length;rw[length_set];exact h.n0
 n1:=by show(p.P.set i l).length<=4;rw[length_set];exact h.n1
 len:=λx hx=>by
  rcases mem_or_eq_of_mem_set hx with b|b
  .exact h.len x b
  .rw[b];exact e
 smp:=λx hx=>by
  rcases mem_or_eq_of_mem_set hx with b|b
  .exact h.smp x b
  .rw[b];exact f
theorem Hz{p q:qc}(h:iY p q)(i:Nat)(l:List Int):iY p (yj q i l):=⟨h.W,h.H,h.d,by show _=(q.P.set i l).length;rw[length_set];exact h.n⟩
theorem Qi{l:List Int}(h:ie d l)(k:Nat){v:Int}(e:0<=v)(f:v<2^d):ie d (l.set k v):=by
 intro x m;rcases mem_or_eq_of_mem_set m with b|b
 .exact h x b
 .rw[b];exact⟨e,f⟩
theorem Kg(w:World)(o:Obj):(w.alloc o).heap.size=w.heap.size+1:=by
 show(w.heap.push o).size=_;exact Array.size_push _
def oc(i a b c d:Nat):List Nat:=if i=0 then[a,b,c,d]else if i=1 then[d,b,c,a]else[d,c,b,a]
theorem Pi(w:World)(g a b c d cap:Nat)(h:gv w 5 (.slice g 4 cap) g ([a,b,c,d].map b8)):Calls prog 77 #[.slice g 4 cap] w λe w'=>e=.returned (.tuple #[])/\gv w' 5 (.slice g 4 cap) g ([d,c,b,a].map b8)/\gg [g] w w':=by
 have z:=gd h;clear h;go_enter func77,ntmps77;go_wp2_with fail
 go_loopg [2,3] 2 (λk s2 s3 wr=>∃i:Nat,i+k=2/\s2=.int .i64 i/\s3=.int .i64 (3-(i:Int))/\gh (gv wr 5 (.slice g 4 cap) g ((oc i a b c d).map b8))/\gh (gg [g] w wr))
 .exact⟨0,rfl,rfl,rfl,gd z.o,gd (zR _ _)⟩
 obtain⟨i,y,rfl,rfl,m,r⟩:=hrel;rcases(show i=0\/i=1\/i=2 by omega)with rfl|rfl|rfl
 .obtain⟨_,_,_,_,f,ad⟩:=m.o.open_
  have C:=f 0 (by simp[oc]);have c3:=f 3 (by simp[oc]);have D:=ad 0;have J:=ad 3;simp[oc,b8]at C c3;obtain rfl:gk=2:=by omega
  have q:gv ((wr.setCell g (.int .u8 d)).setCell ⟨g,3,none⟩ (.int .u8 a)).drew 5 (.slice g 4 cap) g ((oc 1 a b c d).map b8) :=
   ((m.o.S (i:=0) (by simp[oc]) (.int .u8 d)).S (i:=3) (by simp[oc]) (.int .u8 a)).drew
  have s:=gd q;have t:=gd (((r.o.setCell (p:=⟨g,0,none⟩) (.inl (by simp)) (.int .u8 d)).setCell (p:=⟨g,3,none⟩) (.inl (by simp)) (.int .u8 a)).drew);clear f ad y q;go_wp2_with fail
  go_region
  go_wp2
  go_roundg 1
  .exact⟨1,rfl,by go_num,by go_num,s,t⟩
  .omega
 .obtain⟨_,_,_,_,f,ad⟩:=m.o.open_
  have c1:=f 1 (by simp[oc]);have c2:=f 2 (by simp[oc]);have H:=ad 1;have I:=ad 2;simp[oc,b8]at c1 c2;obtain rfl:gk=1:=by omega
  have q:gv ((wr.setCell ⟨g,1,none⟩ (.int .u8 c)).setCell ⟨g,2,none⟩ (.int .u8 b)).drew 5 (.slice g 4 cap) g ((oc 2 a b c d).map b8) :=
   ((m.o.S (i:=1) (by simp[oc]) (.int .u8 c)).S (i:=2) (by simp[oc]) (.int .u8 b)).drew
  have s:=gd q;have t:=gd (((r.o.setCell (p:=⟨g,1,none⟩) (.inl (by simp)) (.int .u8 c)).setCell (p:=⟨g,2,none⟩) (.inl (by simp)) (.int .u8 b)).drew);clear f ad y q;go_wp2_with fail
  go_region
  go_wp2
  go_roundg 0
  .exact⟨2,rfl,by go_num,by go_num,s,t⟩
  .omega
 .go_wp2
  go_end0
  exact⟨rfl,m.o,r.o⟩
theorem L7(w:World):Calls prog 86 #[(4:Int)] w λe w'=>e=.returned (.int .i64 4)/\w=w':=by
 go_enter func86,ntmps86;go_wp2;go_ret;exact⟨rfl,rfl⟩
def pm(n i:Nat):List Nat:=(range i).map λk=>n / 256^k%256
theorem MD(n i:Nat):pm n (i+1)=pm n i++[n / 256^i%256]:=by simp[pm,range_succ]
theorem MC(n:Nat):pm n 4=[n%256,n / 256%256,n / 65536%256,n / 16777216%256]:=by simp[pm,range_succ]
theorem Nd(n:Nat)(T:n<4294967296)(w:World):Calls prog 76 #[.int .u64 n,(4:Int)] w λe w'=>∃(g cap:Nat),e=.returned (.slice g 4 cap)/\gv w' 5 (.slice g 4 cap) g ((pm n 4).map b8)/\gg [] w w'/\w.heap.size<=g:=by
 have O:=λw'=>L7 w';go_enter func76,ntmps76;go_wp2_with fail;refine gB (O _) ?_;go_wp2_with fail
 go_loopg [0,5,8] 4 (λj v0 v5 v8 wr=>∃(i m:Nat) (F:List Nat),v8=.int .i64 i/\i+j=4/\v0=.int .u64 m/\gh (m=n / 256^i)/\m<4294967296/\gh (jj wr 5 v5 F ((pm n i).map b8))/\gh (gg [] w wr)/\gh (∀x∈F,w.heap.size<=x)/\gh (0<i->v5≠.slice none 0 0))
 .exact⟨0,n,[],rfl,rfl,rfl,gd (by simp),T,gd (jj.nil _ _),gd (zR _ _),gd (by simp),gd (by simp)⟩
 obtain⟨i,m,F,rfl,W,rfl,y,Y,z,b,f,J⟩:=hrel;rcases gk with _|j
 .obtain rfl:i=4:=by omega
  rcases z.o.cases with⟨U,_⟩|⟨g,s,hF⟩
  .exact absurd U (J.o (by omega))
  .obtain⟨cap,rfl,_⟩:=s.T
   have Q:=f.o g (by rw[hF];simp);have K:=gd s;clear s;go_wp2;go_ret;exact⟨g,cap,rfl,K.o,b.o,Q⟩
 .have Z:=jo i 4 (by omega)
  have ad:(m:Int)%256=((m%256:Nat):Int):=by omega
  have L:(m:Int) / 256=((m / 256:Nat):Int):=by omega
  have⟨r,hr⟩:=zX (m%256);have⟨q,hq⟩:=zX (m / 256);rw[<-hr]at ad;rw[<-hq]at L;have N:q<4294967296:=by omega
  have H:pm n (i+1)=pm n i++[r]:=by rw[MD,<-y.o,<-hr]
  have I:q=n / 256^(i+1):=by rw[hq,y.o,Nat.pow_succ,Nat.div_div_eq_div_mul]
  have⟨ak,al⟩:=gy H I;have M:=z.o.alloc (.cells #[.int .u8 r] 5);have X:IntKind.u8.wrap (r:Int)=(r:Int):=by rw[IntKind.wrap_u8];omega
  have C:gh ((pm n i).length=i):=gd (by simp[pm]);clear H I hr hq
  go_wp2_with(at_builtin;refine ka rfl rfl nT rfl rfl M (.int .u8 r) rfl ?c1 ?c2 ?c3 ?c4 ?_)
  case c1=>simp[go_sem]
  case c2=>rfl
  case c3=>simp[C.o];omega
  case c4=>simp[C.o];omega
  intro S V w2 R D;go_wp2_with fail
  go_roundg j
  .refine⟨i+1,q,[S],by go_num,by omega,rfl,gd al.o,N,gd ?_,gd ?_,gd ?_,gd (by simp)⟩
   .rw[ak.o,zM]
    exact R.R
   .exact(b.o.tq ((zR [] wr).alloc _)).trans D.Z λx t=>.inr (f.o x t)
   .intro x t
    rcases D.new x t with h|h
    .exact f.o x h
    .have:=b.o.size;rw[Kg]at h;omega
  .omega
theorem BM(n:Nat)(s:n<4294967296)(w:World):Calls prog 47 #[.int .u64 n,(4:Int)] w λe w'=>∃(g cap:Nat),e=.returned (.slice g 4 cap)/\gv w' 5 (.slice g 4 cap) g ((jP n).map b8)/\gg [] w w'/\w.heap.size<=g:=by
 have f:=Nd n s w;go_enter func47,ntmps47;go_wp2_with fail;refine f.mono ?_;rintro e t ⟨g,cap,rfl,b,ad,r⟩;rw[MC]at b;have q:=Pi t g _ _ _ _ cap b;clear f b;go_wp2_with fail;refine q.mono ?_;rintro e y ⟨rfl,h,m⟩;go_wp2;go_ret;exact⟨g,cap,rfl,h,ad.trans m (λx hx=>.inr (by simp at hx;omega)),r⟩
theorem gv.cells_b8{w:World}{l:List Nat}(h:gv w 5 v g (l.map b8)):∃cap,v=.slice g l.length cap/\l.length<=cap/\cap<=9223372036854775807/\gz b8 w (some ⟨g,0,none⟩) l:=by
 have b:=h.lt;obtain⟨cap,rfl,e,f,m,q⟩:=h.T;exact⟨cap,rfl,e,f,⟨λ_=>⟨g,0,rfl,b,λi a ha=>by rw[Nat.zero_add];exact m i a ha⟩⟩⟩
theorem gz.raw_b8{w:World}{A:Option Addr}{l:List Nat}(h:gz b8 w A l):gz (λu=>u) w A (l.map b8):=⟨λh0=>by
 obtain⟨b,o,e,e2,e3⟩:=h.ex (by simpa using h0);refine⟨b,o,e,e2,λi a ha=>?_⟩;rw[zW]at ha;obtain⟨x,f,rfl⟩:=Option.map_eq_some_iff.1 ha;exact e3 i x f⟩
theorem gv.cellsB{w:World}{n c:Nat}{l:List Nat}(h:gv w 5 (.slice g' n c) g (l.map b8)):gz (λu=>u) w (some ⟨g',0,none⟩) (l.map b8):=by
 obtain⟨cap,e,_,_,b⟩:=gv.cells_b8 h;injection e with e _ _;rw[e];exact b.raw_b8
theorem Rn{w:World}{e:TypeId}{F:List Nat}{ys:List Value}{N:Nat}(h:jj w e v F ys)(b:ys.length=N)(r:0<N):∃g c,v=.slice (some ⟨g,0,none⟩) N c/\gv w e (.slice (some ⟨g,0,none⟩) N c) g ys/\F=[g]:=by
 rcases h.cases with⟨_,q,_⟩|⟨g,m,hF⟩
 .rw[q]at b
  simp at b;omega
 .have f:=m
  obtain⟨c,rfl,_⟩:=m.open_;rw[b]at f⊢;exact⟨g,c,rfl,f,hF⟩
def nh(ds:List Nat):Nat:=ds.foldl (λn c=>n*256+c) 0
theorem KW{n:Nat}(h:n<4294967296):nh (jP n)=n:=by
 unfold nh jP;simp only[foldl_cons,foldl_nil];omega
theorem Fc:∀(ds:List Nat) (a:Nat),(∀d∈ds,d<256)->ds.foldl (λn c=>n*256+c) a<(a+1)*256^ds.length
 | [],a,_=>by simp
 | d::ds,a,h=>by
  have b:=Fc ds (a*256+d) (λx hx=>h x (by simp[hx]));have e:=h d (by simp);rw[foldl_cons,zK,Nat.pow_succ];refine Nat.lt_of_lt_of_le b ?_;rw[zY (256^ds.length) 256,<-Nat.mul_assoc];exact mul_le_mul_right _ (by omega)
theorem OO(b:∀d∈ds,d<256)(e:ds.length<=4):nh ds<4294967296:=by
 have h:=Fc ds 0 b;have f:256^ds.length<=256^4:=Nat.pow_le_pow_right (by decide) e;unfold nh;omega
theorem Ns(h:i<ds.length):nh (ds.take (i+1))=nh (ds.take i)*256+ds.getD i 0:=by
 unfold nh;rw[take_succ_eq_append_getElem h,foldl_append,zD,zF h];rfl
structure rz (w:World) (b g cap:Nat) (ds:List Nat):Prop where
 blk:gn w b 132 #[.slice g ds.length cap,(0:Int),(0:Int)]
 row:gv w 5 (.slice g ds.length cap) g (ds.map b8)
 ne:g≠b
theorem rz.Y{w w':World}{b cap:Nat}(h:rz w b g cap ds)(e:gg [] w w'):rz w' b g cap ds:=⟨h.blk.Z e (by simp),h.row.Z e (by simp),h.ne⟩
theorem MR(w:World)(A:Option Addr)(cap:Nat)(ds:List Nat)(r:gz b8 w A ds)(f:0<ds.length)(I:ds.length<=4):Calls prog 55 #[.slice A ds.length cap] w λe w'=>∃b g c,e=.returned (.pointer (some ⟨b,0,none⟩))/\rz w' b g c ds/\gg [] w w'/\w.heap.size<=b:=by
 have m:gz (λu=>u) w A (ds.map b8):=⟨λf=>by
  obtain⟨b,o,y,e2,e3⟩:=r.ex (by simpa using f);refine⟨b,o,y,e2,λi a ha=>?_⟩
  cases e:ds[i]? with
  | none=>simp[e]at ha
  | some d=>simp[e]at ha;subst ha;exact e3 i d e⟩
 have t:=gd m;clear r m;go_enter func55,ntmps55
 go_wp2_with(at_builtin;refine ns rfl rfl nT rfl rfl (jj.nil _ _) (ds.map b8) ds.length rfl ?c1 ?c2 ?c3 ?c4 ?c5 ?_)
 case c1=>exact(zE _).symm
 case c2=>exact t.o
 case c3=>exact pj _
 case c4=>rw[zE,length_nil];omega
 case c5=>rw[zE,length_nil];omega
 intro J F' w' z q;rcases z.cases with⟨_,C,_⟩|⟨g,h,hF⟩
 .exfalso
  rw[List.map_eq_nil_iff.1 C]at f;simp at f
 have s:=h;obtain⟨c,rfl,-⟩:=h.T;have H:=s.lt;have D:=q.size;go_wp2;go_ret;refine⟨w'.heap.size,g,c,rfl,⟨gn.new _ _ _,s.Z ((zR [] w').alloc _) (by simp),by omega⟩,q.Z.alloc _,D⟩
theorem Oj(w:World)(b g cap:Nat)(ds:List Nat)(h:rz w b g cap ds)(q:ds.length<=4):Calls prog 108 #[.pointer b] w λe w'=>e=.returned ds.length/\∃n,w'=w.drewN n:=by
 have f:=h.blk.X 0;have m:=h.blk.X 1;simp at f m;clear h;go_enter func108,ntmps108;go_wp2_with fail
 go_quiet (fail)
 go_wp2;go_ret;exact⟨by simp,_,rfl⟩
theorem OF(w:World):(sizeOf 5).run prog w=.ok 1 w:=by
 exact sizeOf5 w
theorem Om(w:World)(b g cap:Nat)(ds:List Nat)(h:rz w b g cap ds)(r:ds.length=4):Calls prog 85 #[.pointer b,(4:Int)] w λe w'=>∃v G,e=.returned v/\jj w' 5 v G (ds.map b8)/\gg [b] w w':=by
 have V:=λw' (h':rz w' b g cap ds)=>(Oj w' b g cap ds h' (by omega)).mono λe w'' t=>(⟨by rw[t.1,r];rfl,t.2⟩:e=.returned (.int .i64 4)/\∃n,w''=w'.drewN n);have Z:=h.row;have aD:=Z.cells_b8;obtain⟨aC,e',S,aG,U⟩:=aD;injection e' with _ _ e3;subst e3;rw[r]at S;obtain⟨M,W,-,N⟩:=s9 (P:=prog) underlying41 OF (some ⟨g,0,none⟩) 4 cap 0 4 4 rfl (zQ _) S;have f:=h.blk;rw[r]at f;have J:∀wn,gg [] w wn->gz (λu=>u) wn M (ds.map b8):=λwn y=>by
  have L:=N Nat b8 w ds r U;rw[drop_zero,zT (by omega)]at L;exact(L.Y y).raw_b8
 have⟨D,hD⟩:=zX (ds.map b8);rw[<-hD]at J⊢;have R:D.length=4:=by rw[hD,zE,r]
 have Q:∀u∈D,u.oneCell'=true:=by rw[hD];exact pj _
 have m:=f.X 0;have q:=f.X 1;have ad:=f.X 2;simp at m q ad;have⟨HB,aB,ax,ah⟩:=gu f (V w h) J R;have az:=gd Q;have aE:∀w,(Instr.slice 41 (.slice g 4 cap) (some (.int .i64 0)) (some (.int .i64 4)) none).run prog w=.ok (.slice M 4 (cap-0)) w:=W;clear V Z U N f J hD R Q h r W;go_enter func85,ntmps85;go_wp2_with fail;refine aB.o.mono ?_;rintro e w' ⟨rfl,n,rfl⟩;have⟨wn,al⟩:=zX (w.drewN n);have y:gg [] w wn:=by rw[al];exact(zR [] w).drewN n
 rw[<-al];have z:=HB.o.Z y (by simp);have m:=z.X 0;have q:=z.X 1;have ad:=z.X 2;simp at m q ad;have HN:=gd y;clear al y z;go_wp2_with fail;refine i9 15 (by kernel_rfl) (by kernel_rfl) ?_;simp only[take_succ_cons,take_zero,drop_succ_cons,drop_zero]
 repeat(go_big_quiet_step (fail))
 refine wpQuiet_nil ?_;intro _ aF;obtain⟨nq,rfl⟩:=aF;have H:gh (gg [] w (wn.drewN nq)):=gd (HN.o.drewN nq);have T:=ax.o _ H.o;clear m q ad
 go_wp2_with(at_builtin;refine ns rfl rfl nT rfl rfl (jj.nil _ _) D 4 rfl ?c1 ?c2 ?c3 ?c4 ?c5 ?_)
 case c1=>exact ah.o.symm
 case c2=>exact T
 case c3=>exact az.o
 case c4=>rw[ah.o,length_nil];omega
 case c5=>rw[ah.o,length_nil];omega
 intro v8 C w8 O I;have Y:jj w8 5 v8 C D:=by simpa using O
 have K:gg [] w w8:=H.o.tq I.Z;have s:=HB.o.Z K (by simp);have m:=s.X 0;have q:=s.X 1;have ad:=s.X 2;have aH:=s.U 1;simp at m q ad;have aA:gh (∀x∈C,x≠b):=gd (λx hx e=>by
  rcases I.new x hx with t|t
  .simp at t
  .have L:=HB.o.lt
   have h2:=H.o.size;omega)
 have⟨H8,ay⟩:=gy Y K;clear O I K s T Y;go_wp2_with fail;go_ret;have X:gg [b] w8 (w8.setCell ⟨b,1,none⟩ (.int .i64 4)):=(zR [b] w8).zs 1 _;exact⟨v8,C,rfl,H8.o.Z X (λx hx=>by simpa using aA.o x hx),(ay.o.mono (by simp)).tq X⟩
theorem MQ(w:World):Calls prog 86 #[(4:Int)] w λe w'=>e=.returned (.int .i64 4)/\w=w':=by
 go_enter func86,ntmps86;go_wp2;go_ret;exact⟨rfl,rfl⟩
theorem MP(w:World)(b g cap:Nat)(ds:List Nat)(h:rz w b g cap ds)(t:ds.length=4)(r:∀d∈ds,d<256):Calls prog 56 #[.pointer b,(4:Int)] w λe w'=>e=.returned (.int .u64 (nh ds:Int))/\gg [b] w w':=by
 have L:=Om w b g cap ds h t;have I:=λw'=>MQ w';have K:∀k,k<=4->nh (ds.take k)<4294967296:=λk f=>OO (λd q=>r d (mem_of_mem_take q)) (by rw[zI];omega);have y:∀k,k<4->nh (ds.take (k+1))=nh (ds.take k)*256+ds.getD k 0:=λk f=>Ns (by omega);have z:ds.take 4=ds:=zT (by omega);have J:∀k,k<4->ds.getD k 0<256:=λk f=>by
  rw[zD,zF (by omega)];exact r _ (zG _)
 have⟨ax,ah,ab,af⟩:=gu L K y z;have⟨av,HL⟩:=gy J t;clear L K y z J t h r;go_enter func56,ntmps56;go_wp2_with fail;refine gB (I _) ?_;go_wp2_with fail;refine ax.o.mono ?_;rintro e R ⟨v,G,rfl,ad,D⟩;obtain⟨A,c,rfl,-,-,H⟩:=ad.T;have C:∀k,k<4->∃g o,A=some ⟨g,o,none⟩/\R.cell? ⟨g,o+k,none⟩=some (b8 (ds.getD k 0)):=λk f=>by
  obtain⟨g,o,M,e2,e3⟩:=H.ex (by rw[HL.o];decide);refine⟨g,o,M,e3 k _ ?_⟩;rw[zD,zF (by rw[HL.o];exact f)];rfl
 have⟨ar,au⟩:=gy C D;rw[HL.o];clear ad H C D I;go_wp2_with fail
 go_loopg [5,7,13] 4 (λj v5 v7 v13 wr=>∃k:Nat,v13=.int .i64 k/\k+j=4/\v5=.int .u64 (nh (ds.take k):Int)/\R=wr)
 .exact⟨0,rfl,by omega,rfl,rfl⟩
 obtain⟨k,rfl,U,rfl,rfl⟩:=hrel;rcases gk with _|j
 .obtain rfl:k=4:=by omega
  rw[af.o];go_wp2_with fail;go_ret;exact⟨rfl,au.o⟩
 .have f:k<4:=by omega
  have X:=jo k 4 (by omega);obtain⟨V,W,T,Q⟩:=ar.o k f;subst T;unfold b8 at Q;have⟨x,aq⟩:=zX (ds.getD k 0);have⟨s,hs⟩:=zX (nh (ds.take k));have⟨s2,ao⟩:=zX (s*256);have⟨s3,ag⟩:=zX (nh (ds.take (k+1)));have m:=ab.o k f;have q:=ah.o k (by omega);have N:=ah.o (k+1) (by omega);have O:=av.o k f;rw[<-aq]at Q m O;rw[<-hs]at m q⊢;rw[<-ag]at m N;rw[<-ao]at m;have M:(s:Int)*256=(s2:Int):=by omega
  have e2:(s2:Int)+(x:Int)=(s3:Int):=by omega
  have Y:IntKind.u64.wrap (x:Int)=(x:Int):=IntWalk.u64_in _ (by omega);have Z:IntKind.u64.wrap (s2:Int)=(s2:Int):=IntWalk.u64_in _ (by omega);have u3:IntKind.u64.wrap (s3:Int)=(s3:Int):=IntWalk.u64_in _ (by omega);have S:=gd ag;clear m q N O hs ao ag aq;go_wp2_with fail
  go_roundg j
  .exact⟨k+1,by go_num,by omega,by rw[<-S.o],rfl⟩
  .omega
structure j1 (w0:World) (E:List Nat) (n gC:Nat) (w:World) (P:List (List Int)) (xs:List Value) (gs:List Nat):Prop where
 row:gv w 22 (.slice gC n n) gC (xs++replicate (n-P.length) (.slice none 0 0))
 pl:jm w xs P gs
 dg:gC∉gs
 new:∀x∈gC::gs,w0.heap.size<=x
 old:∀x∈E,x<w0.heap.size
 Z:gg E w0 w
section
variable {w0 w wa:World} {E:List Nat} {n gC:Nat} {P:List (List Int)} {l:List Int} {xs:List Value} {gs:List Nat}
theorem j1.start(e:n<=4096)(b:∀x∈E,x<w0.heap.size):j1 w0 E n w0.heap.size (w0.alloc (.cells (replicate n (Value.slice none 0 0)).toArray 22)) [] [] []:=by
 refine⟨?_,jm.nil _,by simp,by simp,b,(zR E w0).alloc _⟩
 have:=gv.made w0 22 (replicate n (.slice none 0 0)) (by simp[maxLen];omega)
 simpa using this
theorem j1.turn(h:j1 w0 E n gC w P xs gs)(b:gg E w wa):j1 w0 E n gC wa P xs gs:=by
 have e:∀x∈gC::gs,x∉E:=λx hx hm=>by have:=h.new x hx;have:=h.old x hm;omega
 exact⟨h.row.Z b (e gC (by simp)),h.pl.Z b (λx hx=>e x (by simp[hx])),h.dg,h.new,h.old,h.Z.trans b (λx hx=>.inl hx)⟩
theorem j1.next(h:j1 w0 E n gC w P xs gs)(H:P.length<n){f:Nat}(q:gg [] w wa)(D:w.heap.size<=f)(r:gv wa 3 u f (l.map vi)):j1 w0 E n gC (wa.setCell ⟨gC,P.length,none⟩ u) (P++[l]) (xs++[u]) (gs++[f]):=by
 have z:=h.pl.lx;have s:f≠gC:=λe=>by have:=h.row.lt;omega
 have C:f∉gs:=λm=>by have:=h.pl.lt f m;omega
 have t:gg [gC] wa (wa.setCell ⟨gC,P.length,none⟩ u):=(zR [gC] wa).zs (P.length) u;refine⟨?_,?_,?_,?_,h.old,?_⟩
 .have y:=(h.row.Z q (by simp)).S (i:=P.length) (by simp[z];omega) u
  have e:(xs++replicate (n-P.length) (Value.slice none 0 0)).set P.length u=(xs++[u])++replicate (n-(P++[l]).length) (Value.slice none 0 0):=by
   rw[set_append_right _ _ (by omega),z,Nat.sub_self,zC,length_singleton];rw[show n-P.length=(n-(P.length+1))+1 by omega,replicate_succ];simp
  rw[e]at y;exact y
 .refine((h.pl.Y q).snoc r C).Z t ?_
  intro x b m;simp at m;subst m;rcases zP.1 b with b|b
  .exact h.dg b
  .simp at b;exact s b.symm
 .intro m
  rcases zP.1 m with b|b
  .exact h.dg b
  .simp at b;exact s b.symm
 .intro x b
  have:=h.Z.size
  simp only[zJ,zP,not_mem_nil,or_false]at b;rcases b with rfl|b|rfl
  .exact h.new x (by simp)
  .exact h.new x (by simp[b])
  .omega
 .exact(h.Z.tq (q.mono (by simp))).trans t (λx b=>.inr (by simp at b;subst b;exact h.new _ (by simp)))
theorem j1.last(h:j1 w0 E n gC w (P++[l]) xs gs)(r:P.length<n):∃g c,w.cell? ⟨gC,P.length,none⟩=some (.slice (some ⟨g,0,none⟩) l.length c)/\gv w 3 (.slice (some ⟨g,0,none⟩) l.length c) g (l.map vi)/\xs[P.length]?=some (.slice (some ⟨g,0,none⟩) l.length c)/\gs[P.length]?=some g/\w0.heap.size<=g:=by
 obtain⟨u,g,b,e,f⟩:=h.pl.row P.length l (by simp);obtain⟨c,rfl,_,_⟩:=f.T;obtain⟨_,_,_,_,m,_⟩:=h.row.open_;refine⟨g,c,?_,f,b,e,h.new g (mem_cons_of_mem _ (mem_of_getElem? e))⟩;have q:P.length<xs.length:=by rw[h.pl.lx];simp
 rw[m P.length (by rw[zC];omega),getElem?_append_left q,b]
theorem j1.fill(h:j1 w0 E n gC w (P++[l]) xs gs)(b:xs[P.length]?=some u)(t:gs[P.length]?=some g)(r:gv w 3 u g (l.map vi))(z:j<l.length)(v:Int):j1 w0 E n gC (w.setCell ⟨g,j,none⟩ (.int .i64 v)) (P++[l.set j v]) xs gs:=by
 have f:gg [g] w (w.setCell ⟨g,j,none⟩ (.int .i64 v)):=(zR [g] w).zs j _;have q:g∈gs:=mem_of_getElem? t;have ad:gC∉[g]:=λhm=>by simp at hm;subst hm;exact h.dg q
 have s:=r.S (i:=j) (by rw[zE];exact z) (.int .i64 v);have e:(l.map vi).set j (.int .i64 v)=(l.set j v).map vi:=by rw[map_set];rfl
 rw[e]at s;have y:=h.pl.set b t s f;have e2:(P++[l]).set P.length (l.set j v)=P++[l.set j v]:=by rw[set_append_right _ _ (zQ _)];simp
 rw[e2]at y;have m:=h.row.Z f ad;have e3:(P++[l]).length=(P++[l.set j v]).length:=by simp
 rw[e3]at m;exact⟨m,y,h.dg,h.new,h.old,h.Z.trans f (λx b=>.inr (by simp at b;subst b;exact h.new _ (mem_cons_of_mem _ q)))⟩
end
theorem QR(w:World)(A:Option Addr)(cap:Nat)(l:List Int)(q:gz vi w A l)(r:l.length=2)(t:0<=l.getD 0 0)(z:l.getD 0 0<=1125899906842624)(C:0<=l.getD 1 0)(m:l.getD 1 0<=l.getD 0 0):Calls prog 22 #[.slice A l.length cap] w λe w'=>e=.returned (.bool false)/\w=w':=by
 obtain⟨g,o,rfl,s,h⟩:=q.ex (by omega);have f:∀j,j<l.length->w.cell? ⟨g,o+j,none⟩=some (.int .i64 (l.getD j 0)):=λj hj=>by
  rw[h j _ (zF hj),zD,zF hj];rfl
 have b:=f 0 (by omega);have c1:=f 1 (by omega);have⟨x,hx⟩:=zX (l.getD 0 0);have⟨y,hy⟩:=zX (l.getD 1 0);rw[<-hx]at t z m b;rw[<-hy]at C m c1;rw[Nat.add_zero]at b;rw[r];clear q s h f hx hy r;have⟨C0,C1⟩:=gy b c1;have I:decide (x<0)=false:=zA (by omega);have J:=Ra 1125899906842624 x (by omega);have K:decide (y<0)=false:=zA (by omega);have L:=Ra 1125899906842624 y (by omega);clear b c1;go_enter func22,ntmps22;go_wp2_with fail
 go_loopg [3,4,7] 2 (λj v3 v4 v7 wr=>∃i:Nat,v7=.int .i64 i/\i+j=2/\(i=0\/i=1)/\w=wr)
 .exact⟨0,rfl,by omega,by omega,rfl⟩
 obtain⟨i,rfl,H,D,rfl⟩:=hrel;rcases D with rfl|rfl
 .obtain⟨j,rfl⟩:∃j,gk=j+1:=⟨1,by omega⟩
  have b:=C0.o;go_wp2_with fail
  go_roundg j
  .exact⟨1,by go_num,by omega,by omega,rfl⟩
  .omega
 .have b:=C0.o
  have c1:=C1.o;go_wp2_with fail;refine bodyPost_ret (v:=.bool false) (by simp[results,results22,go_sem]) rfl ?_;exact⟨rfl,rfl⟩
end Go.Proofs.YtifdlkoepaepiaaGreatDoor
