/- Lemmas. -/
import Derived.Test.YtnepiccbpokmiaaGreatDoorMg33
import Derived.Test.YtnepiccbpokmiaaGreatDoorMg05
import Derived.Test.YtnepiccbpokmiaaGreatDoorMg13
import Derived.Test.YtnepiccbpokmiaaGreatDoorMg03
set_option linter.all false
set_option maxHeartbeats 2000000
set_option maxRecDepth 100000
namespace Go.Proofs.YtnepiccbpokmiaaGreatDoor
open Tryz List Nat Go.RowKit
open Go.RowKit Go.Sort Go.Lib
variable {n:Nat}
theorem vR(l:List Int)(A:Option Addr)(cap:Nat)(w:World)(Q:0<l.length)(R:l.length<=4096)(p:gu vi w A l):Calls prog 128 #[.slice A l.length cap] w λe w'=>∃g c,e=.returned (.slice (some ⟨g,0,none⟩) (ig l).length c)/\gu vi w' (some ⟨g,0,none⟩) (ig l)/\w.heap.size<=g/\(ig l).length<=c/\c<=9223372036854775807/\gf [] w w':=by
 obtain⟨b,o,rfl,S,M⟩:=p.ex Q;have j:=slices_Clone_int b o l.length cap l w (zQ _) (by omega) (gu.getD_ p);rw[zN]at j;have h:(l.mergeSort λx y=>decide (x<=y)).length=l.length:=length_mergeSort _;have d:=CP l;have H:ig l=compact (l.mergeSort λx y=>decide (x<=y)):=rfl;rw[H]at d⊢;have⟨s,hs⟩:=zX (l.mergeSort λx y=>decide (x<=y));have ad:=λg cp w1 hH i=>slices_Sort_int g 0 cp l w1 hH i (by omega);rw[<-hs]at h d ad⊢;have⟨n,hn⟩:=zX l.length;have f:=λg cp r hH m=>slices_Compact_int g 0 cp s r hH (by omega) m;rw[h]at f;rw[<-hn]at j ad h R d f⊢;have⟨k,hk⟩:=zX (compact s);rw[<-hk]at f d⊢;have⟨HN,HM,ax,aw⟩:=gz hn h ad f;have E:=gd d;clear ad f hn h hs hk H d M p;go_enter func128,ntmps128;go_wp2_with fail;refine j.mono ?_;rintro e w1 ⟨v,rfl,C,B,z⟩;obtain⟨g,D,i⟩:=gv.of_owns C B;have F:gf [] w w1:=gf.of_below z;have a:gv w1 3 v g (l.map (Value.int .i64)):=D;obtain⟨cp,rfl,m,P,_,_⟩:=a.oq;rw[<-HN.o]at m a⊢;have I:=ax.o g cp w1 a.holds a.lt;clear j C B D z;go_wp2_with fail;refine I.mono ?_;rintro e r ⟨rfl,q,os,rfl⟩;have t:=(a.aheadN q).putRow (ys:=s) (by rw[HM.o,HN.o]);have u:=t.growO os;have O:gf [] w _:=(((F.aheadN q).putRow (enc:=Value.int .i64) (blk:=g) (.inr i) 0 s.toArray).growO os);have K:=aw.o g cp _ u.holds m;generalize grow (putRow (Value.int .i64) (Sort.ahead w1 q) g 0 s.toArray) os=r at *;clear I t a F;go_wp2_with fail;refine K.mono ?_;rintro e T ⟨rfl,J,rfl⟩;have L:(k++replicate (n-k.length) (0:Int)).length=s.length:=by
  rw[zC,zV,HM.o]
  have:=E.o
  omega
 have N:=(u.aheadN J).putRow (ys:=k++replicate (n-k.length) 0) L;have G:=gu.take N.S.cells k.length;rw[take_left']at G
 .go_wp2
  go_ret;exact⟨g,cp,rfl,G,i,by have:=E.o;omega,P,(O.aheadN J).putRow (.inr i) 0 _⟩
 .rfl
def j7(n:Nat):Nat:=if n<=2 then 1 else if n<=4 then 2 else if n<=16 then 4 else 8
theorem BW(h:n<=16):n<=2^j7 n:=by
 unfold j7;split
 .simpa using ‹n<=2›
 .split
  .simpa using ‹n<=4›
  .simpa using h
theorem DM(h:n<=16):j7 n<=4:=by
 unfold j7;split
 .omega
 .split
  .omega
  .omega
theorem Jp(n:Nat)(w:World)(a:1<=n)(b:n<=256):Calls prog 188 #[n] w λe w'=>e=.returned (.int .i64 (j7 n))/\w=w':=by
 have g:=gL n 1 (by omega);have h:=gL 256 n (by omega);by_cases h2:n<=2
 .have e:j7 n=1:=by unfold j7;rw[if_pos h2]
  rw[e];have c:=iI n 2 (by omega);clear a b h2;go_enter func188,ntmps188;go_wp2;go_ret;exact⟨rfl,rfl⟩
 .have c:=kK n 2 (by omega)
  by_cases h4:n<=4
  .have e:j7 n=2:=by unfold j7;rw[if_neg h2,if_pos h4]
   rw[e];have d:=iI n 4 (by omega);clear a b h2 h4;go_enter func188,ntmps188;go_wp2;go_ret;exact⟨rfl,rfl⟩
  .have d:=kK n 4 (by omega)
   by_cases h5:n<=16
   .have e:j7 n=4:=by unfold j7;rw[if_neg h2,if_neg h4,if_pos h5]
    rw[e];have f:=iI n 16 (by omega);clear a b h2 h4 h5;go_enter func188,ntmps188;go_wp2;go_ret;exact⟨rfl,rfl⟩
   .have e:j7 n=8:=by unfold j7;rw[if_neg h2,if_neg h4,if_neg h5]
    rw[e];have f:=kK n 16 (by omega);clear a b h2 h4 h5;go_enter func188,ntmps188;go_wp2;go_ret;exact⟨rfl,rfl⟩
def qM(l:List Int):List Int:=l.map λs=>((ig l).countP (· < s):Int)
def pC(l:List Int)(d:Nat):List Nat:=gA ((ig l).length-1) 4++iF (ig l) d++iF (qM l) (j7 (ig l).length)
theorem DP{d:Nat}{l:List Int}(h:gU d l):gU d (ig l):=λs hs=>h s ((ng l s).1 hs)
theorem Me(l:List Int):(ig l).Pairwise (·<=·):=(oy l).imp λh=>by omega
theorem Gm(w:World)(b:Nat)(F bs:List Nat)(l:List Int)(A:Option Addr)(cap d:Nat)(h:hJ w b F bs)(h0:1<=d)(h1:d<=16)(c:0<l.length)(hl:l.length<=256)(hs:gU d l)(hc:gu vi w A l)(hA:gM A l F)(t:(ig l).length<=16)(hbs:bs.length<68719476736):Calls prog 138 #[.pointer b,.slice A l.length cap,d] w λe w'=>e=.returned (.tuple #[])/\∃F',hJ w' b F' (bs++pC l d)/\gB F F' w w':=by
 have o:=vR l A cap w c (by omega) hc;have M:=CQ c;have L:=DP hs;have Q:=Me l;have a:=λx (hx:x∈l)=>(AN (ig l) (oy l) ((ng l x).2 hx)).1;have Y:pC l d=gA ((ig l).length-1) 4++iF (ig l) d++iF (qM l) (j7 (ig l).length):=rfl;have u:qM l=l.map λs=>((ig l).countP (· < s):Int):=rfl;rw[Y];have⟨D,hD⟩:=zX (ig l);rw[<-hD]at o M L Q a u t⊢;have⟨k,aK⟩:=zX D.length;have C:=BW t;have X:=DM t;have O:=λw=>Jp D.length w M (by omega);rw[<-aK]at o M a t C X O⊢;have⟨q,hq⟩:=zX (j7 k);rw[<-hq]at C X O⊢;have⟨I,hI⟩:=zX (qM l);rw[<-hI]at u⊢;have⟨n,hn⟩:=zX l.length;rw[<-hn]at o hl c⊢;have Z:=h.lt;have⟨HN,ak,aC,aY⟩:=gz hn aK u L;have⟨aB,aX,aW,HA⟩:=gz Q a C hA;have aZ:=gd Z;clear hn aK u L Q a C hA Z Y hD hI hq hs;have k1:IntKind.u64.wrap ((k:Int)-1)=((k-1:Nat):Int):=by
  have e:((k-1:Nat):Int)=(k:Int)-1:=by omega
  rw[e];exact IntWalk.u64_in _ (by omega)
 go_enter func138,ntmps138;go_wp2_with fail;refine o.mono ?_;rintro e w1 ⟨g,cp,rfl,J,hg,a7,a6,U⟩;have H:gM (some ⟨g,0,none⟩) D F:=λ_ ad e hm=>by
  injection e with e;subst e
  have:=aZ.o _ hm
  simp at this;omega
 have av:=h.Y U;clear o h;go_wp2_with fail;refine(i8 w1 b F bs (k-1) 4 av (by omega) (by omega) (by omega)).mono ?_;rintro e w2 ⟨rfl,F2,aw,z⟩;have y:=J.Q H z.Z;have v:=H.grow J z;have aq:=gB.pre U z;clear av J H;have P:=ye w2 b F2 _ D (some ⟨g,0,none⟩) cp d aw h1 (by have:=ak.o;omega) aY.o y v (by rw[zC,gJ];omega);rw[<-ak.o]at P;go_wp2_with fail;refine P.mono ?_;rintro e w3 ⟨rfl,F3,ax,B⟩;have ao:=y.Q v B.Z;have am:=v.grow y B;have ar:=aq.trans B;clear aw P y v z B aq;have aV:=gd (um D d);go_wp2_with fail
 go_loopg [25] n (λj iv wr=>∃(i:Nat) (F' m:List Nat),iv=.int .i64 i/\i+j=n/\hJ wr b F' m/\gh (m=bs++gA (k-1) 4++iF D d++iF (I.take i) q)/\m.length<=bs.length+4+d*k+4*i/\gu vi wr (some ⟨g,0,none⟩) D/\gM (some ⟨g,0,none⟩) D F'/\gB F F' w wr)
 .exact⟨0,F3,_,rfl,by omega,ax,gd (by simp[iF]),by rw[zC,zC,gJ,aV.o,ak.o];omega,ao,am,ar⟩
 clear ax ao am ar;obtain⟨i,F',m,rfl,a8,aU,T,a3,K,an,N⟩:=hrel;rcases gk with _|j
 .obtain rfl:i=n:=by omega
  go_wp2
  go_end0
  refine⟨rfl,F',?_,N⟩;have e:I.take i=I:=by rw[HN.o,aC.o,zT (by simp)]
  have h5:=T.o;rw[e,zH,zH]at h5;rw[zH,<-h5];exact aU
 .have a4:i<n:=by omega
  have E:i<l.length:=by rw[<-HN.o];exact a4
  obtain⟨g2,o2,rfl,S⟩:=(hc.Q HA.o N.Z).at_ E;have a:=aX.o l[i] (zG E);have W:i<I.length:=by rw[aC.o,zE];exact E
  have V:I[i]=(D.countP (· < l[i]):Int):=by simp[aC.o]
  have r:=uc (I.take i) I[i] q;rw[<-jd I W,V,Int.toNat_natCast]at r;have f:=λw h=>slices_BinarySearch_int g 0 D.length cp D l[i] w (zQ _) (by have:=ak.o;omega) h (by rw[zN];exact aB.o);rw[zN]at f;rw[<-ak.o]at f;have⟨x,hx⟩:=zX (l[i]);rw[<-hx]at S a f r;have⟨p,hp⟩:=zX (D.countP (· < x));rw[<-hp]at a f r;have a2:=f wr (by rw[ak.o];exact gu.getD_ K);have aT:p<2^q:=by have:=aW.o;omega
  have a5:wr.cell? _=some (Value.int .i64 x):=S;have⟨a1,a0⟩:=gy r aT;clear f r aT hp hx S E W V;generalize D.contains x=cb at *;go_wp2_with fail;refine a2.mono ?_;rintro e w4 ⟨rfl,nq,rfl⟩
  go_wp2_with(go_at_call 188;refine gx (O _) ?_)
  refine(i8 _ b F' m p q (aU.Y ((zR [] wr).drewN nq)) (by omega) a0.o (by have:=zL h1 t;omega)).mono ?_;rintro e w5 ⟨rfl,F5,aM,R⟩;have G:=((zR [] wr).drewN nq);go_wp2_with fail
  go_roundg j
  .refine⟨i+1,F5,_,by go_num,by omega,aM,gd ?_,?_,(K.Y G).Q an R.Z,an.grow (K.Y G) R,(N.Y G).trans R⟩
   .rw[a1.o,T.o];simp only[zH]
   .rw[zC,gJ];omega
  .omega
theorem It(n:Nat)(w:World)(a:1<=n)(b:n<=256):Calls prog 112 #[n] w λe w'=>e=.returned (.int .i64 (j7 n))/\w=w':=by
 have g:=gL n 1 (by omega);have h:=gL 256 n (by omega);by_cases h2:n<=2
 .have e:j7 n=1:=by unfold j7;rw[if_pos h2]
  rw[e];have c:=iI n 2 (by omega);clear a b h2;go_enter func112,ntmps112;go_wp2;go_ret;exact⟨rfl,rfl⟩
 .have c:=kK n 2 (by omega)
  by_cases h4:n<=4
  .have e:j7 n=2:=by unfold j7;rw[if_neg h2,if_pos h4]
   rw[e];have d:=iI n 4 (by omega);clear a b h2 h4;go_enter func112,ntmps112;go_wp2;go_ret;exact⟨rfl,rfl⟩
  .have d:=kK n 4 (by omega)
   by_cases h5:n<=16
   .have e:j7 n=4:=by unfold j7;rw[if_neg h2,if_neg h4,if_pos h5]
    rw[e];have f:=iI n 16 (by omega);clear a b h2 h4 h5;go_enter func112,ntmps112;go_wp2;go_ret;exact⟨rfl,rfl⟩
   .have e:j7 n=8:=by unfold j7;rw[if_neg h2,if_neg h4,if_neg h5]
    rw[e];have f:=kK n 16 (by omega);clear a b h2 h4 h5;go_enter func112,ntmps112;go_wp2;go_ret;exact⟨rfl,rfl⟩
end Go.Proofs.YtnepiccbpokmiaaGreatDoor
