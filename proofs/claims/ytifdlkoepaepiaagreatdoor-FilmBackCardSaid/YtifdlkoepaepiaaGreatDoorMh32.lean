/- Lemmas. -/
import Derived.Test.YtifdlkoepaepiaaGreatDoorMh29
import Derived.Test.YtifdlkoepaepiaaGreatDoorMh12
import Derived.Test.YtifdlkoepaepiaaGreatDoorMh02
import Derived.Test.YtifdlkoepaepiaaGreatDoorMh26
set_option linter.all false
set_option maxHeartbeats 2000000
set_option maxRecDepth 100000
namespace Go.Proofs.YtifdlkoepaepiaaGreatDoor
open Tryz List Nat Go.RowKit
open Go.RowKit Go.Sort Go.Lib
variable {d n:Nat}
theorem yH(l:List Int)(A:Option Addr)(j:Nat)(w:World)(S:0<l.length)(T:l.length<=4096)(t:gz vi w A l):Calls prog 130 #[.slice A l.length j] w λe w'=>∃g c,e=.returned (.slice (some ⟨g,0,none⟩) (iA l).length c)/\gz vi w' (some ⟨g,0,none⟩) (iA l)/\w.heap.size<=g/\(iA l).length<=c/\c<=9223372036854775807/\gg [] w w':=by
 obtain⟨b,o,rfl,U,O⟩:=t.ex S;have p:=slices_Clone_int b o l.length j l w (zQ _) (by omega) (gz.getD_ t);rw[zN]at p;have i:(l.mergeSort λx y=>decide (x<=y)).length=l.length:=length_mergeSort _;have f:=Mi l;have J:iA l=compact (l.mergeSort λx y=>decide (x<=y)):=rfl;rw[J]at f⊢;have⟨s,hs⟩:=zX (l.mergeSort λx y=>decide (x<=y));have ad:=λg cp w1 hH m=>slices_Sort_int g 0 cp l w1 hH m (by omega);rw[<-hs]at i f ad⊢;have⟨n,hn⟩:=zX l.length;have h:=λg cp u hH r=>slices_Compact_int g 0 cp s u hH (by omega) r;rw[i]at h;rw[<-hn]at p ad i T f h⊢;have⟨k,hk⟩:=zX (compact s);rw[<-hk]at h f⊢;have⟨HN,HM,ax,aw⟩:=gu hn i ad h;have G:=gd f;clear ad h hn i hs hk J f O t;go_enter func130,ntmps130;go_wp2_with fail;refine p.mono ?_;rintro e w1 ⟨v,rfl,E,D,C⟩;obtain⟨g,F,m⟩:=gv.of_owns E D;have H:gg [] w w1:=gg.of_below C;have a:gv w1 3 v g (l.map (Value.int .i64)):=F;obtain⟨cp,rfl,r,R,_,_⟩:=a.T;rw[<-HN.o]at r a⊢;have K:=ax.o g cp w1 a.holds a.lt;clear p E D F C;go_wp2_with fail;refine K.mono ?_;rintro e u ⟨rfl,q,os,rfl⟩;have z:=(a.aheadN q).putRow (ys:=s) (by rw[HM.o,HN.o]);have B:=z.growO os;have Q:gg [] w _:=(((H.aheadN q).putRow (enc:=Value.int .i64) (blk:=g) (.inr m) 0 s.toArray).growO os);have M:=aw.o g cp _ B.holds r;generalize grow (putRow (Value.int .i64) (Sort.ahead w1 q) g 0 s.toArray) os=u at *;clear K z a H;go_wp2_with fail;refine M.mono ?_;rintro e V ⟨rfl,L,rfl⟩;have N:(k++replicate (n-k.length) (0:Int)).length=s.length:=by
  rw[zC,zV,HM.o]
  have:=G.o
  omega
 have P:=(B.aheadN L).putRow (ys:=k++replicate (n-k.length) 0) N;have I:=gz.take P.R.cells k.length;rw[take_left']at I
 .go_wp2
  go_ret;exact⟨g,cp,rfl,I,m,by have:=G.o;omega,R,(Q.aheadN L).putRow (.inr m) 0 _⟩
 .rfl
def lG(n:Nat):Nat:=if n<=2 then 1 else if n<=4 then 2 else if n<=16 then 4 else 8
theorem Dw(h:n<=16):n<=2^lG n:=by
 unfold lG;split
 .simpa using ‹n<=2›
 .split
  .simpa using ‹n<=4›
  .simpa using h
theorem AB(h:n<=16):lG n<=4:=by
 unfold lG;split
 .omega
 .split
  .omega
  .omega
theorem DN(n:Nat)(w:World)(a:1<=n)(b:n<=256):Calls prog 73 #[n] w λe w'=>e=.returned (.int .i64 (lG n))/\w=w':=by
 have h:=Ra n 1 (by omega);have i:=Ra 256 n (by omega);by_cases h2:n<=2
 .have e:lG n=1:=by unfold lG;rw[if_pos h2]
  rw[e];have c:=jB n 2 (by omega);clear a b h2;go_enter func73,ntmps73;go_wp2;go_ret;exact⟨rfl,rfl⟩
 .have c:=mF n 2 (by omega)
  by_cases h4:n<=4
  .have e:lG n=2:=by unfold lG;rw[if_neg h2,if_pos h4]
   rw[e];have f:=jB n 4 (by omega);clear a b h2 h4;go_enter func73,ntmps73;go_wp2;go_ret;exact⟨rfl,rfl⟩
  .have f:=mF n 4 (by omega)
   by_cases h5:n<=16
   .have e:lG n=4:=by unfold lG;rw[if_neg h2,if_neg h4,if_pos h5]
    rw[e];have g:=jB n 16 (by omega);clear a b h2 h4 h5;go_enter func73,ntmps73;go_wp2;go_ret;exact⟨rfl,rfl⟩
   .have e:lG n=8:=by unfold lG;rw[if_neg h2,if_neg h4,if_neg h5]
    rw[e];have g:=mF n 16 (by omega);clear a b h2 h4 h5;go_enter func73,ntmps73;go_wp2;go_ret;exact⟨rfl,rfl⟩
def oK(l:List Int):List Int:=l.map λs=>((iA l).countP (· < s):Int)
def pE(l:List Int)(d:Nat):List Nat:=gx ((iA l).length-1) 4++iq (iA l) d++iq (oK l) (lG (iA l).length)
theorem Fm(l:List Int):(oK l).length=l.length:=by simp[oK]
theorem E7{l:List Int}(h:ie d l):ie d (iA l):=λs hs=>h s ((sP l s).1 hs)
theorem NA(l:List Int):(iA l).Pairwise (·<=·):=(uv l).imp λh=>by omega
theorem Jh(w:World)(b:Nat)(F bs:List Nat)(l:List Int)(A:Option Addr)(t d:Nat)(h:hJ w b F bs)(h0:1<=d)(h1:d<=16)(c:0<l.length)(hl:l.length<=256)(hs:ie d l)(hc:gz vi w A l)(hA:ib A l F)(u:(iA l).length<=16)(hbs:bs.length<68719476736):Calls prog 128 #[.pointer b,.slice A l.length t,d] w λe w'=>e=.returned (.tuple #[])/\∃F',hJ w' b F' (bs++pE l d)/\gE F F' w w':=by
 have o:=yH l A t w c (by omega) hc;have N:=Eh c;have M:=E7 hs;have R:=NA l;have a:=λx (hx:x∈l)=>(yG (iA l) (uv l) ((sP l x).2 hx)).1;have Z:pE l d=gx ((iA l).length-1) 4++iq (iA l) d++iq (oK l) (lG (iA l).length):=rfl;have v:oK l=l.map λs=>((iA l).countP (· < s):Int):=rfl;rw[Z];have⟨D,hD⟩:=zX (iA l);rw[<-hD]at o N M R a v u⊢;have⟨k,aK⟩:=zX D.length;have E:=Dw u;have Y:=AB u;have P:=λw=>DN D.length w N (by omega);rw[<-aK]at o N a u E Y P⊢;have⟨q,hq⟩:=zX (lG k);rw[<-hq]at E Y P⊢;have⟨I,hI⟩:=zX (oK l);rw[<-hI]at v⊢;have⟨n,hn⟩:=zX l.length;rw[<-hn]at o hl c⊢;have aS:=h.lt;have⟨HN,ak,aC,aY⟩:=gu hn aK v M;have⟨aB,aX,aW,HA⟩:=gu R a E hA;have aZ:=gd aS;clear hn aK v M R a E hA aS Z hD hI hq hs;have k1:IntKind.u64.wrap ((k:Int)-1)=((k-1:Nat):Int):=by
  have e:((k-1:Nat):Int)=(k:Int)-1:=by omega
  rw[e];exact IntWalk.u64_in _ (by omega)
 go_enter func128,ntmps128;go_wp2_with fail;refine o.mono ?_;rintro e w1 ⟨g,cp,rfl,K,hg,a7,a6,V⟩;have J:ib (some ⟨g,0,none⟩) D F:=λ_ ad e hm=>by
  injection e with e;subst e
  have:=aZ.o _ hm
  simp at this;omega
 have av:=h.Y V;clear o h;go_wp2_with fail;refine(iG w1 b F bs (k-1) 4 av (by omega) (by omega) (by omega)).mono ?_;rintro e w2 ⟨rfl,F2,aw,B⟩;have z:=K.N J B.Z;have y:=J.grow K B;have aq:=gE.pre V B;clear av K J;have Q:=Ax w2 b F2 _ D (some ⟨g,0,none⟩) cp d aw h1 (by have:=ak.o;omega) aY.o z y (by rw[zC,gH];omega);rw[<-ak.o]at Q;go_wp2_with fail;refine Q.mono ?_;rintro e w3 ⟨rfl,F3,ax,C⟩;have ao:=z.N y C.Z;have am:=y.grow z C;have ar:=aq.trans C;clear aw Q z y B C aq;have aV:=gd (xf D d);go_wp2_with fail
 go_loopg [25] n (λj iv wr=>∃(i:Nat) (F' m:List Nat),iv=.int .i64 i/\i+j=n/\hJ wr b F' m/\gh (m=bs++gx (k-1) 4++iq D d++iq (I.take i) q)/\m.length<=bs.length+4+d*k+4*i/\gz vi wr (some ⟨g,0,none⟩) D/\ib (some ⟨g,0,none⟩) D F'/\gE F F' w wr)
 .exact⟨0,F3,_,rfl,by omega,ax,gd (by simp[iq]),by rw[zC,zC,gH,aV.o,ak.o];omega,ao,am,ar⟩
 clear ax ao am ar;obtain⟨i,F',m,rfl,a8,aU,U,a3,L,an,O⟩:=hrel;rcases gk with _|j
 .obtain rfl:i=n:=by omega
  go_wp2
  go_end0
  refine⟨rfl,F',?_,O⟩;have e:I.take i=I:=by rw[HN.o,aC.o,zT (by simp)]
  have h5:=U.o;rw[e,zH,zH]at h5;rw[zH,<-h5];exact aU
 .have a4:i<n:=by omega
  have G:i<l.length:=by rw[<-HN.o];exact a4
  obtain⟨g2,o2,rfl,T⟩:=(hc.N HA.o O.Z).at_ G;have a:=aX.o l[i] (zG G);have X:i<I.length:=by rw[aC.o,zE];exact G
  have W:I[i]=(D.countP (· < l[i]):Int):=by simp[aC.o]
  have r:=Du (I.take i) I[i] q;rw[<-jD I X,W,Int.toNat_natCast]at r;have f:=λw h=>slices_BinarySearch_int g 0 D.length cp D l[i] w (zQ _) (by have:=ak.o;omega) h (by rw[zN];exact aB.o);rw[zN]at f;rw[<-ak.o]at f;have⟨x,hx⟩:=zX (l[i]);rw[<-hx]at T a f r;have⟨p,hp⟩:=zX (D.countP (· < x));rw[<-hp]at a f r;have a2:=f wr (by rw[ak.o];exact gz.getD_ L);have aT:p<2^q:=by have:=aW.o;omega
  have a5:wr.cell? _=some (Value.int .i64 x):=T;have⟨a1,a0⟩:=gy r aT;clear f r aT hp hx T G X W;generalize D.contains x=cb at *;go_wp2_with fail;refine a2.mono ?_;rintro e w4 ⟨rfl,nq,rfl⟩
  go_wp2_with(go_at_call 73;refine gB (P _) ?_)
  refine(iG _ b F' m p q (aU.Y ((zR [] wr).drewN nq)) (by omega) a0.o (by have:=zL h1 u;omega)).mono ?_;rintro e w5 ⟨rfl,F5,aM,S⟩;have H:=((zR [] wr).drewN nq);go_wp2_with fail
  go_roundg j
  .refine⟨i+1,F5,_,by go_num,by omega,aM,gd ?_,?_,(L.Y H).N an S.Z,an.grow (L.Y H) S,(O.Y H).trans S⟩
   .rw[a1.o,U.o];simp only[zH]
   .rw[zC,gH];omega
  .omega
def nj(l:List Int)(W d i:Nat):Nat:=(pY (kL l W i) d).toNat
theorem uH(l:List Int)(W d i:Nat):nj l W d i<=12:=by
 have:=Ea (kL l W i) d
 unfold nj;omega
theorem Eb(l:List Int)(W d i:Nat):((nj l W d i:Nat):Int)=pY (kL l W i) d:=by
 have:=Ea (kL l W i) d
 unfold nj;omega
def kN(l:List Int)(W d:Nat):Nat->ij
 | 0=>mj 429
 | i+1=>mc (kN l W d i) (33*nj l W d i) (jU l W d i)
theorem qD(l:List Int)(W:Nat){d:Nat}(b:1<=d)(c:d<=16):∀i,iw (kN l W d i)/\(kN l W d i).L.length=429/\(kN l W d i).low.length<=4+65*i
 | 0=>⟨MN _,zV,by show([0,0,0,0]:List Nat).length<=4+65*0;decide⟩
 | i+1=>by
  obtain⟨f,g,k⟩:=qD l W b c i;have j:=uH l W d i;have e:=sM l W b i;have a:jU l W d i<4294967296:=Nat.lt_of_lt_of_le e (Nat.le_trans (Nat.pow_le_pow_right (n:=2) (by decide) c) (by decide));have h:=Oh (kN l W d i) (33*nj l W d i) a;exact⟨O7 f a (by omega),by unfold kN;rw[Jy,g],by unfold kN;omega⟩
def nv(l:List Int)(W d:Nat):List Nat:=(kN l W d l.length).low
def pG(l:List Int)(W d:Nat):List Nat:=gx (nv l W d).length 16++(nv l W d).flatMap λx=>gx x 8
theorem yY(l:List Int)(W:Nat)(a:1<=d)(b:d<=16):(nv l W d).length<=4+65*l.length:=(qD l W a b l.length).2.2
theorem DQ(l:List Int)(W:Nat)(a:1<=d)(b:d<=16):∀x∈nv l W d,x<256:=(qD l W a b l.length).1.dig
theorem J7(w:World)(b:Nat)(F bs:List Nat)(l:List Int)(A:Option Addr)(s W d:Nat)(h:hJ w b F bs)(K:1<=W)(hw1:W<=16)(B:1<=d)(C:d<=16)(hl:l.length<=256)(J:l.length<=64*W)(hs:ie d l)(c:gz vi w A l)(hA:ib A l F)(hbs:bs.length<68719476736):Calls prog 127 #[.pointer b,.slice A l.length s,W,d] w λe w'=>e=.returned (.tuple #[])/\∃F',hJ w' b F' (bs++pG l W d)/\gE F F' w w':=by
 have O:=λw c=>z8 l A s W d w B C K (by omega) J hs c (by omega);have ae:=λi (hi:i<l.length) w c=>xA l A s W d i w B C K (by omega) (by omega) (by omega) hs c (by omega);have a6:pG l W d=gx (nv l W d).length 16++(nv l W d).flatMap λx=>gx x 8:=rfl;have T:=yY l W B C;have aV:=DQ l W B C;have S:nv l W d=(kN l W d l.length).low:=rfl;rw[a6];have⟨R,hR⟩:=zX (nv l W d);rw[<-hR]at T aV S⊢;have N:=Kq l W d;have M:∀i,i<l.length->(pR l W d)[i]?=some (jU l W d i:Int):=λi hi=>by simp[pR,jH,hi]
 have D:=λi=>sM l W B i;have ay:=λi=>qD l W B C i;have⟨f,hf⟩:=zX (pR l W d);rw[<-hf]at O N M;have⟨n,hn⟩:=zX l.length;rw[<-hn]at O ae T S N M hl⊢;have a3:=h.lt;have⟨ba,HN,be,bc⟩:=gu O ae aV S;have⟨bd,aL,a9,aM⟩:=gu T N M D;have⟨aK,bq,bb⟩:=Q9 ay hn a3;clear O ae aV S T N M D ay hn hA a3 a6 hR hf hs J;go_enter func127,ntmps127;go_wp2_with fail;have a5:=Kz 429 w (by omega) (by omega);refine a5.mono ?_;rintro e w1 ⟨cb,cg,ch,rfl,g,aP,br,bh,bu⟩;have a1:=ba.o w1 (c.Y aP);clear a5;go_wp2_with fail;refine a1.mono ?_;rintro e w2 ⟨fv,Y,rfl,an,aQ,bk⟩;obtain⟨fc,rfl,bj,bx,_,_⟩:=an.T;rw[aL.o]at bj⊢;have y:gz vi w2 (some ⟨Y,0,none⟩) f:=an.R.cells;have ag:=g.Y aQ;have bm:=g.lt;have ar:=aP.tq aQ;clear a1 an aP aQ g;go_wp2_with fail
 go_loopg [28] n (λj iv wr=>∃(i z:Nat),iv=.int .i64 i/\i+j=n/\kI 270 wr cb z ch (kN l W d i)/\gz vi wr (some ⟨Y,0,none⟩) f/\w.heap.size<=z/\z≠Y/\gg [] w wr)
 .exact⟨0,cg,rfl,by omega,ag,y,bh,by omega,ar⟩
 clear ag y ar;obtain⟨i,z,rfl,bD,g,y,bz,bC,G⟩:=hrel;have p:=aK.o i;rcases gk with _|j
 .obtain rfl:i=n:=by omega
  have L:=Nt wr cb z ch _ g p.1 (by have:=p.2.2;omega);rw[<-bc.o]at L;clear p g;have aU:R.length<2^16:=by have:=bd.o;omega
  have⟨r,hr⟩:=zX R.length;rw[<-hr]at L aU;have HR:=gd hr;clear hr;go_wp2_with fail;refine L.mono ?_;rintro e Z ⟨I,c3,rfl,ah,m,bA⟩;have aA:=h.Y (G.tq m);have o:gz b8 Z (some ⟨I,0,none⟩) R:=ah.R.cells;have bo:=G.size;have u:ib (some ⟨I,0,none⟩) R F:=λ_ ad e hm=>by
   injection e with e;subst e
   have:=bb.o _ hm
   simp at this;omega
  have aO:=G.tq m;clear L ah y h;go_wp2_with fail;have bF:r<65536:=aU;refine(iG Z b F bs r 16 aA (by omega) aU (by omega)).mono ?_;rintro e w4 ⟨rfl,F4,aB,V⟩;have av:=o.N u V.Z;have au:=u.grow o V;have H:=gE.pre aO V;clear aA o u V;go_wp2_with fail
  go_loopg [57] r (λj iv wr=>∃(q:Nat) (F' E:List Nat),iv=.int .i64 q/\q+j=r/\hJ wr b F' E/\gh (E=bs++gx r 16++(R.take q).flatMap λx=>gx x 8)/\E.length<=bs.length+16+8*q/\gz b8 wr (some ⟨I,0,none⟩) R/\ib (some ⟨I,0,none⟩) R F'/\gE F F' w wr)
  .exact⟨0,F4,_,rfl,by omega,aB,gd (by simp),by rw[zC,gH];omega,av,au,H⟩
  clear aB av au H;obtain⟨q,F',E,rfl,bE,a7,Hb,bw,o,u,H⟩:=hrel;rcases gk with _|j
  .obtain rfl:q=r:=by omega
   go_wp2
   go_end0
   refine⟨rfl,F',?_,H⟩;have e:R.take q=R:=(by rw[HR.o,zN]);have h5:=Hb.o;rw[e,zH]at h5;rw[<-HR.o,<-h5];exact a7
  .have bn:q<r:=by omega
   have Q:q<R.length:=(by rw[<-HR.o];exact bn);obtain⟨g5,o5,a,t⟩:=o.at_ Q;injection a with a;injection a with a e6 _;subst a;subst e6;have a8:=be.o R[q] (zG Q);have aW:(R.take (q+1)).flatMap (λx=>gx x 8)=(R.take q).flatMap (λx=>gx x 8)++gx R[q] 8:=(by rw[jD R Q,flatMap_append,flatMap_cons,flatMap_nil,append_nil]);have⟨x,hx⟩:=zX (R[q]);rw[<-hx]at t a8 aW;have aR:wr.cell? ⟨I,0+q,none⟩=some (.int .u8 x):=t;rw[Nat.zero_add]at aR;have bp:x<2^8:=a8;have bf:=gd aW;clear aW hx t Q;go_wp2_with fail;refine(iG wr b F' E x 8 a7 (by omega) bp (by omega)).mono ?_;rintro e w5 ⟨rfl,F5,aX,al⟩;go_wp2_with fail
   go_roundg j
   .refine⟨q+1,F5,_,by go_num,by omega,aX,gd ?_,?_,o.N u al.Z,u.grow o al,H.trans al⟩
    .rw[bf.o,Hb.o];simp only[zH]
    .rw[zC,gH];omega
   .omega
 .have aT:i<n:=by omega
  have a2:=a9.o i aT;have bl:i<f.length:=by rw[aL.o];exact aT
  obtain⟨g5,o5,a,_,a0⟩:=y.ex (by omega);injection a with a;injection a with a e6 _;subst a;subst e6;have t:=a0 i _ a2;rw[Nat.zero_add]at t;have aR:wr.cell? ⟨Y,i,none⟩=some (.int .i64 (jU l W d i:Int)):=t;have P:=HN.o i aT wr (c.Y G);rw[<-Eb]at P;have bi:=uH l W d i;have U:kN l W d (i+1)=mc (kN l W d i) (33*nj l W d i) (jU l W d i):=rfl;have D:=aM.o i;have aS:jU l W d i<65536:=Nat.lt_of_lt_of_le D (Nat.pow_le_pow_right (n:=2) (by decide) C);have⟨v,hv⟩:=zX (jU l W d i);rw[<-hv]at aR U aS;have⟨k,hk⟩:=zX (nj l W d i);rw[<-hk]at P bi U;have am:=λw c=>PC w cb z ch (kN l W d i) (33*k) v c p.1 (by rw[p.2.1];omega) (by omega) (by have:=p.2.2;omega);rw[<-U]at am;generalize jV 7 (kL l W i) d=gs at *;have⟨aN,aY⟩:=gy am y;clear U hk hv D am t a0 a2 bl p;go_wp2_with fail;refine P.mono ?_;rintro e Z ⟨rfl,m⟩;have a4:=aN.o Z (g.Y m);have bg:((33*k:Nat):Int)=33*(k:Int):=by simp
  rw[bg]at a4;clear P;go_wp2_with fail;refine a4.mono ?_;rintro e w4 ⟨rfl,g4,ax,aZ,bB⟩;go_wp2_with fail
  go_roundg j
  .have bo:=m.size
   refine⟨i+1,g4,by go_num,by omega,ax,?_,?_,?_,?_⟩
   .exact(aY.o.Y m).Z aZ (λad e hm=>by
     injection e with e;subst e;simp at hm;omega)
   .omega
   .obtain⟨b9,o9,X,bv,_⟩:=aY.o.ex (by rw[aL.o];omega)
    injection X with X;injection X with X _ _;omega
   .exact(G.tq m).trans aZ (λx hx=>by
     simp at hx;omega)
  .omega
end Go.Proofs.YtifdlkoepaepiaaGreatDoor
