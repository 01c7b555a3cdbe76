/- Lemmas. -/
import Derived.Test.YtnepiccbpokmiaaGreatDoorMg35
import Derived.Test.YtnepiccbpokmiaaGreatDoorMg42
import Derived.Test.YtnepiccbpokmiaaGreatDoorMg31
set_option linter.all false
set_option maxHeartbeats 2000000
set_option maxRecDepth 100000
namespace Go.Proofs.YtnepiccbpokmiaaGreatDoor
open Tryz List Nat Go.RowKit
theorem y9(w:World)(b:Nat)(F bs:List Nat)(l:List Int)(A:Option Addr)(cap d:Nat)(h:hO w b F bs)(J:d<=16)(K:l.length<=4096)(y:gU d l)(I:gu vi w A l)(v:gM A l F)(H:bs.length<137438953472):Calls prog 102 #[.pointer b,.slice A l.length cap,d] w λe w'=>e=.returned (.tuple #[])/\∃F',hO w' b F' (bs++iF l d)/\gB F F' w w':=by
 have⟨n,hn⟩:=zX l.length;rw[<-hn]at K⊢;have⟨HN,HA,HS⟩:=gS hn v y;clear hn v y;go_enter func102,ntmps102;go_wp2_with fail
 go_loopg [6] n (λj iv wr=>∃(i:Nat) (F' a:List Nat),iv=.int .i64 i/\i+j=n/\hO wr b F' a/\gh (a=bs++iF (l.take i) d)/\a.length<=bs.length+16*i/\gB F F' w wr)
 .exact⟨0,F,bs,rfl,by omega,h,gd (by simp[iF]),by omega,gB.refl _ _⟩
 obtain⟨i,F',a,rfl,N,q,r,M,m⟩:=hrel;rcases gk with _|j
 .obtain rfl:i=n:=by omega
  have Q:decide (i<i)=false:=by simp
  go_wp2
  go_end0
  refine⟨rfl,F',?_,m⟩;rw[r.o,HN.o,zN]at q;exact q
 .have hi:i<n:=by omega
  have c:i<l.length:=by rw[<-HN.o];exact hi
  obtain⟨g,o,rfl,k⟩:=(I.Q HA.o m.Z).at_ c;have t:=jd l c;have z:=HS.o l[i] (zG c);have f:=uc (l.take i) l[i] d;rw[<-t]at f;have⟨x,ag⟩:=zX (l[i].toNat);have u:l[i]=(x:Int):=by rw[ag];exact(Int.toNat_of_nonneg z.1).symm
  have p:x<2^d:=by
   have P:((2^d:Nat):Int)=(2:Int)^d:=(by simp);omega
  have L:x<65536:=Nat.lt_of_lt_of_le p (by have:=Nat.pow_le_pow_right (n:=2) (by decide) J;exact this);rw[u]at k;rw[<-ag]at f;have ad:wr.cell? ⟨g,o+i,none⟩=some (.int .i64 x):=k;have D:gh (bs++iF (l.take (i+1)) d=a++gA x d):=gd (by rw[f,r.o,zH]);have O:IntKind.u64.wrap (x:Int)=(x:Int):=IntWalk.u64_in _ (by omega);have s:=jh wr b F' a x d q (by omega) p (by omega);have C:=gd s;clear k z t c s f ag u p;go_wp2_with fail;refine C.o.mono ?_;rintro e R ⟨rfl,B,G,E⟩;go_wp2_with fail
  go_roundg j
  .exact⟨i+1,B,a++gA x d,by go_num,by omega,G,gd D.o.symm,by rw[zC,gJ];omega,m.trans E⟩
  .omega
theorem Mj{α:Type}(a b:α)(i j:Nat):(replicate i a++replicate (j+1) b).set i a=replicate (i+1) a++replicate j b:=by
 rw[set_append_right _ _ (by simp),replicate_succ' (n:=i)];simp[replicate_succ]
theorem Is(H:Nat)(w:World)(hH:H<=64):Calls prog 164 #[H] w λe h=>∃g,e=.returned (.slice (some ⟨g,0,none⟩) H H)/\gv h 3 (.slice (some ⟨g,0,none⟩) H H) g ((replicate H 7).map i64)/\gf [] w h/\w.heap.size<=g:=by
 have m:=lp (P:=prog) iJ rfl .i64 .i64 H (by omega) (by omega);have b:=gv.nat_zeros w H (by omega);have⟨B,hB⟩:=zX w.heap.size;have⟨w1,ab⟩:=zX (w.alloc (.cells (replicate H (Value.int .i64 0)).toArray 3));have c:=jD ab;rw[<-ab,<-hB]at b;have⟨af,HB⟩:=gy ab hB;clear ab hB;go_enter func164,ntmps164;go_wp2_with fail
 try simp only[Array.replicate]
 rw[<-HB.o]
 go_loopg [4] H (λj iv wr=>∃i:Nat,iv=.int .i64 i/\i+j=H/\gv wr 3 (.slice B H H) B ((replicate i 7++replicate j 0).map i64)/\gf [] w wr)
 .exact⟨0,rfl,by omega,by rw[af.o]at b;simpa using b,by rw[af.o]at c;exact c⟩
 clear b c;obtain⟨i,rfl,l,a,f⟩:=hrel;rcases gk with _|j
 .obtain rfl:i=H:=by omega
  have n:decide (i<i)=false:=by simp
  go_wp2;go_ret;exact⟨B,rfl,by simpa using a,f,by have:=HB.o;omega⟩
 .have hi:i<H:=by omega
  have ad:i<(replicate i 7++replicate (j+1) 0).length:=by simp
  obtain⟨c1,f1⟩:=a.nat_cell ad;have d:=a.nat_set ad 7;rw[Mj]at d;have k:=gd d;clear ad d a;go_wp2_with fail
  go_roundg j
  .exact⟨i+1,by go_num,by omega,k.o,f.setCell (.inr (by have:=HB.o;simp;omega)) _⟩
  .omega
theorem Lr(l:List Int)(A:Option Addr)(cap W H d:Nat)(w:World)(b:1<=W)(m:W<=16)(a:1<=H)(k:H<=16)(i:1<=d)(j:d<=16)(f:l.length=W*H)(g:gU d l)(c:gu vi w A l):Calls prog 79 #[.slice A l.length cap,W,H,d] w λe w'=>e=.returned (.bool true)/\w=w':=by
 have h:=ul l A cap W H d w b (by omega) a (by omega) i j f g c;have o:=iI W 16 (by omega);have p:=iI H 16 (by omega);generalize l.length=n at *;clear f g c;go_enter func79,ntmps79
 go_wp2_with(go_at_call 66;refine gx h ?_)
 go_ret;exact⟨rfl,rfl⟩
theorem Li(f:List Nat)(A:Option Addr)(cap:Nat)(w:World)(hl:f.length<=4096)(T:∀x∈f,x<65536)(hc:gu i64 w A f):Calls prog 115 #[.slice A f.length cap] w λe V=>∃v F,e=.returned v/\gE V 3 v F ((jO (kJ f) f).map i64)/\gf [] w V/\∀x∈F,w.heap.size<=x:=by
 have⟨n,hn⟩:=zX f.length;rw[<-hn]at hl⊢;have⟨HN,aC⟩:=gy hn T;clear hn T;go_enter func115,ntmps115;go_wp2_with fail
 go_loopg [3,4] n (λj vo iv wr=>∃(i:Nat) (F:List Nat),iv=.int .i64 i/\i+j=n/\gE wr 3 vo F ((jO (kJ (f.take i)) (f.take i)).map i64)/\(∀x∈F,w.heap.size<=x)/\gf [] w wr)
 .exact⟨0,[],rfl,by omega,gE.nil _ _,by simp,zR _ _⟩
 obtain⟨i,F,rfl,aX,a,hF,ad⟩:=hrel;rcases gk with _|j
 .obtain rfl:i=n:=by omega
  have t1:decide (i<i)=false:=by simp
  rw[HN.o,zN]at a;go_wp2;go_ret;exact⟨_,F,rfl,a,ad,hF⟩
 .have hi:i<n:=by omega
  have G:i<f.length:=by rw[<-HN.o];exact hi
  have I:=aC.o f[i] (zG G);have H:=jd f G;have p:=DE f[i] (f.take i);rw[<-H]at p;have aR:kJ (f.take i)<=65536:=zj (m:=65536) λx I=>aC.o x (mem_of_mem_take I);have⟨x,an⟩:=zX (f[i]);have b:=λ(h:x<kJ (f.take (i+1)))=>Bu (f.take i) h;rw[an,<-H,<-an]at b;rw[<-an]at I p;have X:gh (f[i]=x):=gd an.symm;have⟨HT,aN⟩:=gy p b;have⟨m0,ay⟩:=zX (kJ (f.take i));rw[<-ay]at aR;have D:=gd ay;clear an H p b ay;have⟨wk,a0⟩:=zX wr;go_wp2_with fail
  go_loopg [3] (x+1-m0) (λk vo wz=>∃(q:Nat) (F:List Nat),q+k=max (x+1) m0/\m0<=q/\q<=65536/\gE wz 3 vo F ((jO q (f.take i)).map i64)/\(∀x∈F,w.heap.size<=x)/\gf [] w wz)
  .exact⟨m0,F,by omega,zQ _,by omega,by rw[D.o];exact a,hF,ad⟩
  clear a hF ad;obtain⟨q,F,aZ,aQ,aY,a,hF,ad⟩:=hrel;obtain⟨g,o,rfl,y⟩:=oF (hc.Y ad) G;rw[X.o]at y;have aw:wr.cell? ⟨g,o+i,none⟩=some (.int .i64 x):=y;have aT:(0:Int)<=(i:Int):=by omega
  have aU:(i:Int)<(n:Int):=by omega
  have L:((jO q (f.take i)).map i64).length=q:=by rw[zE,oU]
  have r:=gd L;clear y L;rcases gk with _|k
  .have t2:decide (q<=x)=false:=zA (by omega)
   have s:q=kJ (f.take (i+1)):=(by rw[HT.o,<-D.o];omega);have u:x<q:=(by omega);have b:=aN.o (by rw[<-s];exact u);rw[<-s]at b;have aP:(f.take i).count x<=4096:=Nat.le_trans count_le_length (by rw[zI];omega);have M:¬(jO q (f.take i)).map i64=[]:=λe=>by
    have:=congrArg length e
    rw[r.o]at this;simp at this;omega
   rcases a.cases with⟨_,h9,_⟩|⟨d,C,rfl⟩
   .exact absurd h9 M
   obtain⟨aO,rfl,_,_,J,K⟩:=C.oq;have R:=J x ((f.take i).count x) (uw _ u);have fq:=K x;have l:=C.T (i:=x) (by rw[r.o];exact u) (i64 ((f.take i).count x+1));rw[<-map_set,<-b]at l;have Q:jO q (f.take (i+1))=jO (kJ (f.take (i+1))) (f.take (i+1)):=(by rw[<-s]);rw[Q]at l;generalize (f.take i).count x=c at *;have aS:wr.cell? ⟨d,x,none⟩=some (.int .i64 c):=R;have S:((c+1:Nat):Int)=(c:Int)+1:=(by simp);have B:gv (wr.setCell ⟨d,x,none⟩ (.int .i64 ((c+1:Nat):Int))) 3 (.slice d (jO q (f.take i)).length aO) d ((jO (kJ (f.take (i+1))) (f.take (i+1))).map i64):=l;rw[S,oU]at B;rw[oU];have ar:=gd B;have aV:(0:Int)<=(x:Int):=(by omega);have aW:(x:Int)<(q:Int):=(by omega);have⟨aK,ak⟩:=gy ad hF;clear l B J K R b s Q M C a ad hF S;go_wp2_with fail
   go_roundg j
   .exact⟨i+1,[d],by go_num,by omega,ar.o.S,ak.o,aK.o.setCell (.inr (ak.o d (by simp))) _⟩
   .omega
  .have t2:decide (q<=x)=true:=zB (by omega)
   obtain⟨A3,c3,rfl,_,_,_⟩:=a.oq;rw[oU];rw[oU]at a;have O:=H8 (f:=f.take i) (m:=q) (by rw[<-D.o];exact aQ);have al:=gd O;have P:=a.alloc (.cells #[(0:Int)] 3);have U:(wr.alloc (.cells #[(0:Int)] 3)).cell? ⟨wr.heap.size,0,none⟩=some (.int .i64 0):=(by simp);have⟨aD,aB⟩:=gy hF ad;clear O hF ad
   go_wp2_with(at_builtin;refine jT rfl rfl iJ rfl rfl P (.int .i64 0) rfl U rfl ?c1 ?c2 ?_)
   case c1=>rw[r.o];omega
   case c2=>rw[r.o];omega
   intro t au W N E;have Y:gh (gf [] w W):=gd (E.fresh aD.o (aB.o.alloc _));have Z:gh (∀z∈[t],w.heap.size<=z):=gd (E.freshF aD.o (aB.o.alloc _));have aM:gh (gv W 3 (.slice t ((jO q (f.take i)).length+1) au) t ((jO (q+1) (f.take i)).map i64)):=gd (by rw[al.o,zM];exact N);clear N E a P U;go_wp2_with fail
   go_roundg k
   .exact⟨q+1,[t],by omega,by omega,by omega,aM.o.S,Z.o,Y.o⟩
   .omega
theorem Di(l:List Int)(A:Option Addr)(cap W H d:Nat)(ks:List Nat)(D:Option Addr)(a:Nat)(w:World)(r:1<=W)(s:W<=64)(h:1<=H)(n:H<=64)(U:1<=d)(V:d<=16)(q:l.length=W*H)(Y:gU d l)(X:gu vi w A l)(o:ks.length=H)(p:∀k∈ks,k<10)(f:gu i64 w D ks):Calls prog 104 #[.slice A l.length cap,W,H,d,.slice D H a] w λe Z=>∃g c,e=.returned (.slice (some ⟨g,0,none⟩) l.length c)/\gv Z 3 (.slice (some ⟨g,0,none⟩) l.length c) g (((kN l W H d ks).map λv=>ii v d).map vi)/\l.length<=c/\c<=9223372036854775807/\gf [] w Z/\w.heap.size<=g:=by
 have F:=Ex l A cap W H d ks D a w r s h n U V q Y X o p f;have B:=sH l W H d ks;have aC:1<=l.length:=by rw[q];exact zL r h
 have aD:l.length<=4096:=by rw[q];exact zL s n
 rw[<-q]at B;generalize kN l W H d ks=E at *;have⟨m,hm⟩:=zX l.length;rw[<-hm]at F B aC aD⊢;have z:=gd B;clear q Y X o p f B hm;go_enter func104,ntmps104;go_wp2_with fail;refine F.mono ?_;rintro e w3 ⟨v3,G3,rfl,N,O,P⟩;rcases N.cases with⟨_,ap,_⟩|⟨g3,u,rfl⟩
 .exfalso
  have:=congrArg length ap
  rw[zE,z.o]at this;simp at this;omega
 obtain⟨K,rfl,L,an,_,_⟩:=u.oq;have T:w.heap.size<=g3:=P g3 (by simp);rw[z.o]at L u⊢;clear F N P;go_wp2_with fail
 go_loopg [13] m (λj iv wr=>∃(i:Nat),iv=.int .i64 i/\i+j=m/\gv wr 3 (.slice g3 m K) g3 ((mY (λv=>ii v d) E i).map vi)/\gf [] w wr)
 .exact⟨0,rfl,by omega,by rw[x9];exact u,O⟩
 clear u O;obtain⟨i,rfl,aF,b,R⟩:=hrel;rcases gk with _|j
 .obtain rfl:i=m:=by omega
  have t1:decide (i<i)=false:=by simp
  have I:=b;have G:=x8 (λv=>ii v d) E;rw[z.o]at G;rw[G]at I;have HR:=gd I;clear I G b;go_wp2;go_ret;exact⟨g3,K,rfl,HR.o,L,an,R,T⟩
 .have aB:i<m:=by omega
  have C:i<E.length:=by rw[z.o];exact aB
  obtain⟨ay,aA,_,_,ad,M⟩:=b.oq;have Q:=ad i _ (yZ (λv=>ii v d) E C);have aE:=M i;have t:=b.T (i:=i) (by rw[zE,yF];exact C) (vi (ii (E.getD i 0) d));rw[<-map_set,yG (λv=>ii v d) E C]at t;have S:=λw=>q8 (E.getD i 0) d w U V;generalize E.getD i 0=x at *;have⟨y,hy⟩:=zX (ii x d);rw[<-hy]at t S;have az:wr.cell? ⟨g3,i,none⟩=some (.int .i64 x):=Q;have J:gv (wr.setCell ⟨g3,i,none⟩ (.int .i64 y)) _ _ _ _:=t;have am:=gd J;clear aA ad M Q t J hy b C
  go_wp2_with(go_at_call 101;refine gx (S _) ?_)
  go_roundg j
  .exact⟨i+1,by go_num,by omega,am.o,R.setCell (.inr T) _⟩
  .omega
theorem xH(l:List Int)(A:Option Addr)(cap W H d:Nat)(w:World)(n:1<=W)(o:W<=64)(D:1<=H)(a:H<=64)(V:1<=d)(X:d<=16)(h:l.length=W*H)(Y:gU d l)(t:gu vi w A l):Calls prog 113 #[.slice A l.length cap,W,H,d] w λe Z=>∃g c,e=.returned (.slice (some ⟨g,0,none⟩) l.length c)/\gv Z 3 (.slice (some ⟨g,0,none⟩) l.length c) g ((k8 l W d).map vi)/\l.length<=c/\c<=9223372036854775807/\gf [] w Z/\w.heap.size<=g:=by
 have J:=Is H w a;have s:=λAk capk w t hck=>Di l A cap W H d (replicate H 7) Ak capk w n o D a V X h Y t (zV ..) (λk hk=>by have:=eq_of_mem_replicate hk;omega) hck;have r:((kN l W H d (replicate H 7)).map λv=>ii v d).length=l.length:=by rw[zE,sH,h]
 have z:=LR n h d;have u:∀x∈(kN l W H d (replicate H 7)).map λv=>ii v d,ib x:=λx hx=>by
  obtain⟨v,_,rfl⟩:=List.mem_map.1 hx
  have:=ql X (ny v V)
  unfold ib;omega
 have aN:l.length<=4096:=by rw[h];exact zL o a
 have⟨E,hE⟩:=zX ((kN l W H d (replicate H 7)).map λv=>ii v d);rw[<-hE]at s r z u;have⟨m,hm⟩:=zX l.length;rw[<-hm]at s r aN⊢;have⟨av,aE,aG,aF⟩:=gz r s z u;have HC:=gd t;clear h Y t hm r s z u hE;go_enter func113,ntmps113;go_wp2_with fail;refine J.mono ?_;rintro e w1 ⟨g1,rfl,K,q,aK⟩;have U:=aE.o (some ⟨g1,0,none⟩) H w1 (HC.o.Y q) K.S.cells;clear J K;go_wp2_with fail;refine U.mono ?_;rintro e w3 ⟨g3,M,rfl,Q,ap,ao,R,I⟩;have N:=q.tq R;have P:w.heap.size<=g3:=Nat.le_trans q.size I;clear U q R I aK;go_wp2_with fail
 go_loopg [10] m (λj iv wr=>∃(i:Nat),iv=.int .i64 i/\i+j=m/\gv wr 3 (.slice g3 m M) g3 ((mY (λv=>((jt v:Nat):Int)) E i).map vi)/\gf [] w wr)
 .exact⟨0,rfl,by omega,by rw[x9];exact Q,N⟩
 clear Q N;obtain⟨i,rfl,aP,f,T⟩:=hrel;rcases gk with _|j
 .obtain rfl:i=m:=by omega
  have t1:decide (i<i)=false:=by simp
  have F:=f;have C:=x8 (λv=>((jt v:Nat):Int)) E;rw[av.o]at C;rw[C,aG.o]at F;have HR:=gd F;clear F C f;go_wp2;go_ret;exact⟨g3,M,rfl,HR.o,ap,ao,T,P⟩
 .have aL:i<m:=by omega
  have b:i<E.length:=by rw[av.o];exact aL
  obtain⟨aH,aJ,_,_,L,O⟩:=f.oq;have S:=L i _ (yZ (λv=>((jt v:Nat):Int)) E b);have aO:=O i;have p:=f.T (i:=i) (by rw[zE,yF];exact b) (vi ((jt (E.getD i 0):Nat):Int));rw[<-map_set,yG (λv=>((jt v:Nat):Int)) E b]at p;have B:ib (E.getD i 0):=by
   rw[zD,zF b];exact aF.o _ (zG b)
  have G:=λw=>yh (E.getD i 0) w B;have aM:=sW B;generalize E.getD i 0=x at *;have⟨y,hy⟩:=zX (jt x);rw[<-hy]at p G aM;have aQ:IntKind.i64.wrap (y:Int)=(y:Int):=IntWalk.i64_in _ (by omega);have aI:wr.cell? ⟨g3,i,none⟩=some (.int .i64 x):=S;have ad:gv (wr.setCell ⟨g3,i,none⟩ (.int .i64 y)) _ _ _ _:=p;have an:=gd ad;clear aJ L O S p ad hy f b B
  go_wp2_with(go_at_call 165;refine gx (G _) ?_)
  go_roundg j
  .exact⟨i+1,by go_num,by omega,an.o,T.setCell (.inr P) _⟩
  .omega
theorem JJ(l:List Int)(A:Option Addr)(cap W d i:Nat)(w:World)(t:1<=d)(u:d<=16)(b:1<=W)(c:W<=64)(hi:i<=l.length)(h:i<64*W)(m:gU d l)(f:gu vi w A l)(v:l.length<=4096):Calls prog 162 #[.slice A l.length cap,W,i,d] w λe w'=>e=.returned (.int .i64 (oe l W d i:Nat))/\gf [] w w':=by
 have⟨x,hx⟩:=zX (i%W);have⟨y,hy⟩:=zX (i / W);have r:x<W:=by rw[hx];exact mod_lt _ (by omega)
 have p:y<64:=by rw[hy];exact Nat.div_lt_of_lt_mul (by rw[zY];exact h)
 have s:y*W+x=i:=by rw[hx,hy,zY];exact div_add_mod i W
 have z:(i:Int)%(W:Int)=(x:Int):=by rw[hx];simp
 have B:(i:Int) / (W:Int)=(y:Int):=by rw[hy];simp
 have a:=λw f=>yJ l A cap W x y w b c r p (by omega) f (by omega);have ad:=pf m W x y;have j:=λw=>K4 (ij l W x y) d w t u ad;have k:lO l W i=ij l W x y:=by unfold lO;rw[<-hx,<-hy]
 rw[CN,k];have⟨n,hn⟩:=zX l.length;rw[<-hn]at a⊢;generalize ij l W x y=g at *;generalize nF g d=cx at *;obtain⟨C,D,E,F⟩:=g;simp only at a j;have o:=gd a;clear hx hy s a ad k hn m hi;go_enter func162,ntmps162;go_wp2_with fail
 go_quiet ((go_at_call 214;exact sB (o.o _ (f.Y ((zR [] w).drewN _)))))
 go_wp2_with fail;refine(j _).mono ?_;rintro e G ⟨rfl,q⟩;go_wp2_with fail;go_ret;exact⟨rfl,((zR [] w).drewN nq).tq q⟩
theorem K5(l:List Int)(A:Option Addr)(cap W H d:Nat)(w:World)(B:1<=W)(hw1:W<=16)(Y:1<=H)(z:H<=16)(u:1<=d)(y:d<=16)(M:l.length=W*H)(Z:gU d l)(m:gu vi w A l):Calls prog 110 #[.slice A l.length cap,W,H,d] w λe N=>∃g c,e=.returned (.slice (some ⟨g,0,none⟩) (mn l W d).length c)/\gv N 5 (.slice (some ⟨g,0,none⟩) (mn l W d).length c) g ((mn l W d).map b8)/\gf [] w N/\w.heap.size<=g:=by
 have ao:l.length<=256:=by rw[M];exact zL hw1 z
 have a9:l.length<=64*W:=by rw[M,zY];exact mul_le_mul_right W (Nat.le_trans z (by decide))
 have K:=λw m=>xH l A cap W H d w B (by omega) Y (by omega) u y M Z m;have V:=λi (hi:i<l.length) w m=>JJ l A cap W d i w u y B (by omega) (by omega) (by omega) Z m (by omega);have J:=xk l W u y;have I:mn l W d=(lV l W d l.length).low:=rfl;have⟨R,hR⟩:=zX (mn l W d);rw[<-hR]at J I⊢;have G:=xd l W d;have F:∀i,i<l.length->(k8 l W d)[i]?=some (kM l W d i:Int):=λi hi=>by simp[k8,jN,hi]
 have s:=λi=>uv l W u i;have am:=λi=>tj l W u y i;have⟨f,hf⟩:=zX (k8 l W d);rw[<-hf]at K G F;have⟨n,hn⟩:=zX l.length;rw[<-hn]at K V J I G F ao⊢;have⟨a2,aX,a1,bb⟩:=gz K V I J;have⟨aZ,aY,aC,aA⟩:=gz G F s am;clear K V I J G F s am hn hR hf Z a9 M;go_enter func110,ntmps110;go_wp2_with fail;have aU:=GA 429 w (by omega) (by omega);refine aU.mono ?_;rintro e w1 ⟨L,cg,ch,rfl,b,O,bc,a3,bd⟩;have aR:=a2.o w1 (m.Y O);clear aU;go_wp2_with fail;refine aR.mono ?_;rintro e w2 ⟨a,fc,rfl,ap,be,bf,P,a5⟩;have p:gu vi w2 (some ⟨a,0,none⟩) f:=ap.S.cells;have af:=b.Y P;have ba:=b.lt;have ak:=O.tq P;clear aR ap O P b;go_wp2_with fail
 go_loopg [12] n (λj iv wr=>∃(i r:Nat),iv=.int .i64 i/\i+j=n/\iZ 219 wr L r ch (lV l W d i)/\gu vi wr (some ⟨a,0,none⟩) f/\w.heap.size<=r/\r≠a/\gf [] w wr)
 .exact⟨0,cg,rfl,by omega,af,p,a3,by omega,ak⟩
 clear af p ak;obtain⟨i,r,rfl,bi,b,p,bg,a7,E⟩:=hrel;have q:=aA.o i;rcases gk with _|j
 .obtain rfl:i=n:=by omega
  have t1:decide (i<i)=false:=by simp
  have T:=IN wr L r ch _ b q.1 (by have:=q.2.2;omega);rw[<-a1.o]at T;have aV:=gd T;clear q b T p;go_wp2_with fail;refine aV.o.mono ?_;rintro e w3 ⟨g3,c3,rfl,aq,Q,a6⟩;go_wp2;go_ret;exact⟨g3,c3,rfl,aq,E.tq Q,Nat.le_trans E.size a6⟩
 .have aT:i<n:=by omega
  have aS:=aY.o i aT;obtain⟨g5,o5,t,aP,aQ⟩:=p.ex (by rw[aZ.o];omega);injection t with t;injection t with t e6 _;subst t;subst e6;have X:=aQ i _ aS;rw[Nat.zero_add]at X;have aN:wr.cell? ⟨a,i,none⟩=some (.int .i64 (kM l W d i:Int)):=X;have U:=λwz (hz:gf [] wr wz)=>aX.o i aT wz (m.Y (E.tq hz));have a4:=yU l W d i;have C:lV l W d (i+1)=nt (lV l W d i) (33*oe l W d i) (kM l W d i):=rfl;have s:=aC.o i;have aJ:kM l W d i<65536:=Nat.lt_of_lt_of_le s (Nat.pow_le_pow_right (n:=2) (by decide) y);have⟨v,hv⟩:=zX (kM l W d i);rw[<-hv]at aN C aJ;have⟨k,hk⟩:=zX (oe l W d i);rw[<-hk]at U a4 C;have D:=λw m=>ML w L r ch (lV l W d i) (33*k) v m q.1 (by rw[q.2.1];omega) (by omega) (by have:=q.2.2;omega);rw[<-C]at D;have aO:((33*k:Nat):Int)=33*(k:Int):=by simp
  rw[aO]at D;have bl:IntKind.u64.wrap (v:Int)=(v:Int):=IntWalk.u64_in _ (by omega);have bj:IntKind.i64.wrap (33*(k:Int))=33*(k:Int):=IntWalk.i64_in _ (by omega);have⟨aD,a0,aW,az⟩:=gz D U p b;have aM:gh (∀wz,gf [] wr wz->wz.cell? ⟨a,i,none⟩=some (.int .i64 v)):=gd λwz hz=>(World.cell?_of_block (w:=wr) (hz.block a aP (by simp))).trans aN;have an:a≠L/\a≠r/\a≠ch:=by
   refine⟨?_,λh=>a7 h.symm,?_⟩
   .intro h;omega
   .intro h;omega
  have⟨aB,aL⟩:=gy an aP;clear C hk hv s D X aQ aS q U b p an aO;go_wp2_with fail
  go_region_held3 (λN=>N.cell? ⟨a,i,none⟩=some (.int .i64 v))
   (first|exact a8|exact aM.o _ o|(go_keep;done))
   (first
    | (go_at_call 162;refine(a0.o _ ((zR [] wr).drew)).mono ?_;rintro e w3 ⟨rfl,Q⟩;have o:gf [] wr w3 := ((zR [] wr).drew).tq Q)
    | (go_at_call 161;refine(aD.o w3 (az.o.Y o)).mono ?_;rintro e w4 ⟨rfl,g4,al,S,bh⟩;have a8:w4.cell? ⟨a,i,none⟩=some (.int .i64 v) := (World.cell?_of_block (w := w3) (S.block a (Nat.lt_of_lt_of_le aL.o o.size) (by have := aB.o;simp[this]))).trans (aM.o _ o)))
  go_wp2_with fail
  go_roundg j
  .have bk:=o.size
   refine⟨i+1,g4,by go_num,by omega,al,?_,?_,?_,?_⟩
   .exact(aW.o.Y o).Z S (λad e hm=>by
     injection e with e;subst e
     have:=aB.o
     simp at hm;omega)
   .omega
   .have:=aB.o
    have:=aL.o
    omega
   .exact(E.tq o).trans S (λx hx=>by
     simp at hx;omega)
  .omega
end Go.Proofs.YtnepiccbpokmiaaGreatDoor
