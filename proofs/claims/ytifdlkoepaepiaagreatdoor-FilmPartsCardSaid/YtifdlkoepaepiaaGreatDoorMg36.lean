/- Lemmas. -/
import Derived.Test.YtifdlkoepaepiaaGreatDoorMg32
import Derived.Test.YtifdlkoepaepiaaGreatDoorMg04
import Derived.Test.YtifdlkoepaepiaaGreatDoorMg15
import Derived.Test.YtifdlkoepaepiaaGreatDoorMg02
set_option linter.all false
set_option maxHeartbeats 2000000
set_option maxRecDepth 100000
namespace Go.Proofs.YtifdlkoepaepiaaGreatDoor
open Tryz List Nat Go.RowKit
open Go.RowKit Go.Sort Go.Lib
variable {n:Nat}
theorem yH(l:List Int)(A:Option Addr)(i:Nat)(w:World)(R:0<l.length)(S:l.length<=4096)(r:gz vi w A l):Calls prog 130 #[.slice A l.length i] w λe w'=>∃g c,e=.returned (.slice (some ⟨g,0,none⟩) (iA l).length c)/\gz vi w' (some ⟨g,0,none⟩) (iA l)/\w.heap.size<=g/\(iA l).length<=c/\c<=9223372036854775807/\gg [] w w':=by
 obtain⟨b,o,rfl,T,N⟩:=r.ex R;have m:=slices_Clone_int b o l.length i l w (zQ _) (by omega) (gz.getD_ r);rw[zN]at m;have h:(l.mergeSort λx y=>decide (x<=y)).length=l.length:=length_mergeSort _;have d:=Mi l;have I:iA l=compact (l.mergeSort λx y=>decide (x<=y)):=rfl;rw[I]at d⊢;have⟨s,hs⟩:=zX (l.mergeSort λx y=>decide (x<=y));have ad:=λg cp w1 hH j=>slices_Sort_int g 0 cp l w1 hH j (by omega);rw[<-hs]at h d ad⊢;have⟨n,hn⟩:=zX l.length;have f:=λg cp t hH p=>slices_Compact_int g 0 cp s t hH (by omega) p;rw[h]at f;rw[<-hn]at m ad h S d f⊢;have⟨k,hk⟩:=zX (compact s);rw[<-hk]at f d⊢;have⟨HN,HM,ax,aw⟩:=gu hn h ad f;have F:=gd d;clear ad f hn h hs hk I d N r;go_enter func130,ntmps130;go_wp2_with fail;refine m.mono ?_;rintro e w1 ⟨v,rfl,D,C,B⟩;obtain⟨g,E,j⟩:=gv.of_owns D C;have G:gg [] w w1:=gg.of_below B;have a:gv w1 3 v g (l.map (Value.int .i64)):=E;obtain⟨cp,rfl,p,Q,_,_⟩:=a.T;rw[<-HN.o]at p a⊢;have J:=ax.o g cp w1 a.holds a.lt;clear m D C E B;go_wp2_with fail;refine J.mono ?_;rintro e t ⟨rfl,q,os,rfl⟩;have u:=(a.aheadN q).putRow (ys:=s) (by rw[HM.o,HN.o]);have z:=u.growO os;have P:gg [] w _:=(((G.aheadN q).putRow (enc:=Value.int .i64) (blk:=g) (.inr j) 0 s.toArray).growO os);have L:=aw.o g cp _ z.holds p;generalize grow (putRow (Value.int .i64) (Sort.ahead w1 q) g 0 s.toArray) os=t at *;clear J u a G;go_wp2_with fail;refine L.mono ?_;rintro e U ⟨rfl,K,rfl⟩;have M:(k++replicate (n-k.length) (0:Int)).length=s.length:=by
  rw[zC,zV,HM.o]
  have:=F.o
  omega
 have O:=(z.aheadN K).putRow (ys:=k++replicate (n-k.length) 0) M;have H:=gz.take O.R.cells k.length;rw[take_left']at H
 .go_wp2
  go_ret;exact⟨g,cp,rfl,H,j,by have:=F.o;omega,Q,(P.aheadN K).putRow (.inr j) 0 _⟩
 .rfl
def lG (n:Nat):Nat:=if n<=2 then 1 else if n<=4 then 2 else if n<=16 then 4 else 8
theorem Dw(h:n<=16):n<=2^lG n:=by
 unfold lG;split
 .simpa using ‹n<=2›
 .split
  .simpa using ‹n<=4›
  .simpa using h
theorem AB(h:n<=16):lG n<=4:=by
 unfold lG;split
 .omega
 .split
  .omega
  .omega
theorem DN(n:Nat)(w:World)(a:1<=n)(b:n<=256):Calls prog 73 #[n] w λe w'=>e=.returned (.int .i64 (lG n))/\w=w':=by
 have g:=gY n 1 (by omega);have h:=gY 256 n (by omega);by_cases h2:n<=2
 .have e:lG n=1:=by unfold lG;rw[if_pos h2]
  rw[e];have c:=jB n 2 (by omega);clear a b h2;go_enter func73,ntmps73;go_wp2;go_ret;exact⟨rfl,rfl⟩
 .have c:=mF n 2 (by omega)
  by_cases h4:n<=4
  .have e:lG n=2:=by unfold lG;rw[if_neg h2,if_pos h4]
   rw[e];have d:=jB n 4 (by omega);clear a b h2 h4;go_enter func73,ntmps73;go_wp2;go_ret;exact⟨rfl,rfl⟩
  .have d:=mF n 4 (by omega)
   by_cases h5:n<=16
   .have e:lG n=4:=by unfold lG;rw[if_neg h2,if_neg h4,if_pos h5]
    rw[e];have f:=jB n 16 (by omega);clear a b h2 h4 h5;go_enter func73,ntmps73;go_wp2;go_ret;exact⟨rfl,rfl⟩
   .have e:lG n=8:=by unfold lG;rw[if_neg h2,if_neg h4,if_neg h5]
    rw[e];have f:=mF n 16 (by omega);clear a b h2 h4 h5;go_enter func73,ntmps73;go_wp2;go_ret;exact⟨rfl,rfl⟩
def oK (l:List Int):List Int:=l.map λs=>((iA l).countP (· < s):Int)
def pE (l:List Int) (d:Nat):List Nat:=gx ((iA l).length-1) 4++iq (iA l) d++iq (oK l) (lG (iA l).length)
theorem Fm(l:List Int):(oK l).length=l.length:=by simp[oK]
theorem E7{d:Nat}{l:List Int}(h:ie d l):ie d (iA l):=λs hs=>h s ((sP l s).1 hs)
theorem NA(l:List Int):(iA l).Pairwise (·<=·):=(uv l).imp λh=>by omega
theorem Jh(w:World)(b:Nat)(F bs:List Nat)(l:List Int)(A:Option Addr)(t d:Nat)(h:hJ w b F bs)(h0:1<=d)(h1:d<=16)(c:0<l.length)(hl:l.length<=256)(hs:ie d l)(hc:gz vi w A l)(hA:ib A l F)(u:(iA l).length<=16)(hbs:bs.length<68719476736):Calls prog 128 #[.pointer b,.slice A l.length t,d] w λe w'=>e=.returned (.tuple #[])/\∃F',hJ w' b F' (bs++pE l d)/\gE F F' w w':=by
 have o:=yH l A t w c (by omega) hc;have N:=Eh c;have M:=E7 hs;have R:=NA l;have a:=λx (hx:x∈l)=>(yG (iA l) (uv l) ((sP l x).2 hx)).1;have Z:pE l d=gx ((iA l).length-1) 4++iq (iA l) d++iq (oK l) (lG (iA l).length):=rfl;have v:oK l=l.map λs=>((iA l).countP (· < s):Int):=rfl;rw[Z];have⟨D,hD⟩:=zX (iA l);rw[<-hD]at o N M R a v u⊢;have⟨k,aK⟩:=zX D.length;have E:=Dw u;have Y:=AB u;have P:=λw=>DN D.length w N (by omega);rw[<-aK]at o N a u E Y P⊢;have⟨q,hq⟩:=zX (lG k);rw[<-hq]at E Y P⊢;have⟨I,hI⟩:=zX (oK l);rw[<-hI]at v⊢;have⟨n,hn⟩:=zX l.length;rw[<-hn]at o hl c⊢;have aS:=h.lt;have⟨HN,ak,aC,aY⟩:=gu hn aK v M;have⟨aB,aX,aW,HA⟩:=gu R a E hA;have aZ:=gd aS;clear hn aK v M R a E hA aS Z hD hI hq hs;have k1:IntKind.u64.wrap ((k:Int)-1)=((k-1:Nat):Int):=by
  have e:((k-1:Nat):Int)=(k:Int)-1:=by omega
  rw[e];exact IntWalk.u64_in _ (by omega)
 go_enter func128,ntmps128;go_wp2_with fail;refine o.mono ?_;rintro e w1 ⟨g,cp,rfl,K,hg,a7,a6,V⟩;have J:ib (some ⟨g,0,none⟩) D F:=λ_ ad e hm=>by
  injection e with e;subst e
  have:=aZ.o _ hm
  simp at this;omega
 have av:=h.Y V;clear o h;go_wp2_with fail;refine(iG w1 b F bs (k-1) 4 av (by omega) (by omega) (by omega)).mono ?_;rintro e w2 ⟨rfl,F2,aw,B⟩;have z:=K.N J B.Z;have y:=J.grow K B;have aq:=gE.pre V B;clear av K J;have Q:=Ax w2 b F2 _ D (some ⟨g,0,none⟩) cp d aw h1 (by have:=ak.o;omega) aY.o z y (by rw[zC,gH];omega);rw[<-ak.o]at Q;go_wp2_with fail;refine Q.mono ?_;rintro e w3 ⟨rfl,F3,ax,C⟩;have ao:=z.N y C.Z;have am:=y.grow z C;have ar:=aq.trans C;clear aw Q z y B C aq;have aV:=gd (xf D d);go_wp2_with fail
 go_loopg [25] n (λj iv wr=>∃(i:Nat) (F' m:List Nat),iv=.int .i64 i/\i+j=n/\hJ wr b F' m/\gh (m=bs++gx (k-1) 4++iq D d++iq (I.take i) q)/\m.length<=bs.length+4+d*k+4*i/\gz vi wr (some ⟨g,0,none⟩) D/\ib (some ⟨g,0,none⟩) D F'/\gE F F' w wr)
 .exact⟨0,F3,_,rfl,by omega,ax,gd (by simp[iq]),by rw[zC,zC,gH,aV.o,ak.o];omega,ao,am,ar⟩
 clear ax ao am ar;obtain⟨i,F',m,rfl,a8,aU,U,a3,L,an,O⟩:=hrel;rcases gk with _|j
 .obtain rfl:i=n:=by omega
  go_wp2
  go_end0
  refine⟨rfl,F',?_,O⟩;have e:I.take i=I:=by rw[HN.o,aC.o,zT (by simp)]
  have h5:=U.o;rw[e,zH,zH]at h5;rw[zH,<-h5];exact aU
 .have a4:i<n:=by omega
  have G:i<l.length:=by rw[<-HN.o];exact a4
  obtain⟨g2,o2,rfl,T⟩:=(hc.N HA.o O.Z).at_ G;have a:=aX.o l[i] (zG G);have X:i<I.length:=by rw[aC.o,zE];exact G
  have W:I[i]=(D.countP (· < l[i]):Int):=by simp[aC.o]
  have r:=Du (I.take i) I[i] q;rw[<-jD I X,W,Int.toNat_natCast]at r;have f:=λw h=>slices_BinarySearch_int g 0 D.length cp D l[i] w (zQ _) (by have:=ak.o;omega) h (by rw[zN];exact aB.o);rw[zN]at f;rw[<-ak.o]at f;have⟨x,hx⟩:=zX (l[i]);rw[<-hx]at T a f r;have⟨p,hp⟩:=zX (D.countP (· < x));rw[<-hp]at a f r;have a2:=f wr (by rw[ak.o];exact gz.getD_ L);have aT:p<2^q:=by have:=aW.o;omega
  have a5:wr.cell? _=some (Value.int .i64 x):=T;have⟨a1,a0⟩:=gy r aT;clear f r aT hp hx T G X W;generalize D.contains x=cb at *;go_wp2_with fail;refine a2.mono ?_;rintro e w4 ⟨rfl,nq,rfl⟩
  go_wp2_with(go_at_call 73;refine gB (P _) ?_)
  refine(iG _ b F' m p q (aU.Y ((zR [] wr).drewN nq)) (by omega) a0.o (by have:=zL h1 u;omega)).mono ?_;rintro e w5 ⟨rfl,F5,aM,S⟩;have H:=((zR [] wr).drewN nq);go_wp2_with fail
  go_roundg j
  .refine⟨i+1,F5,_,by go_num,by omega,aM,gd ?_,?_,(L.Y H).N an S.Z,an.grow (L.Y H) S,(O.Y H).trans S⟩
   .rw[a1.o,U.o];simp only[zH]
   .rw[zC,gH];omega
  .omega
end Go.Proofs.YtifdlkoepaepiaaGreatDoor
