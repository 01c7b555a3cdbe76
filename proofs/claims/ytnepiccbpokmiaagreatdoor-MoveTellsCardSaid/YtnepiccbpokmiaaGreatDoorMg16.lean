/- Lemmas. -/
import Derived.Test.YtnepiccbpokmiaaGreatDoorProg
import Derived.Test.YtnepiccbpokmiaaGreatDoorMg01
import Derived.Test.YtnepiccbpokmiaaGreatDoorMg12
import Derived.WalkLawsBesides
import Derived.WalkSpells
import Derived.Handy
import Derived.StillTailTactics
import Derived.Deep.DeepCutAuto
import Derived.Deep.LoopGhost
set_option linter.all false
set_option maxHeartbeats 4000000
set_option maxRecDepth 100000
namespace Go.Proofs.YtnepiccbpokmiaaGreatDoor
open Tryz List Nat Go.RowKit
variable {done l:List Int}{F G bs ds rs us:List Nat}{B b cp d g i k lit m n p v:Nat}{A:Option Addr}{w w':World}
structure hJ (w:World) (b:Nat) (F:List Nat) (bs:List Nat):Prop where
 ex:∃v G,gn w b 63 #[v,bs.length]/\gE w 5 v G ((iE bs).map b8)/\F=b::G
 bit:∀x∈bs,x<2
theorem hJ.mem(h:hJ w b F bs):b∈F:=by
 obtain⟨_,_,_,_,rfl⟩:=h.ex;simp
theorem hJ.lt(h:hJ w b F bs):∀x∈F,x<w.heap.size:=by
 obtain⟨_,_,c,e,rfl⟩:=h.ex;intro x a;rcases zJ.1 a with rfl|a
 .exact c.lt
 .exact e.lt x a
theorem hJ.Z(h:hJ w b F bs)(a:gf G w w')(c:∀x∈F,x∉G):hJ w' b F bs:=by
 obtain⟨v,K,e,f,rfl⟩:=h.ex;exact⟨⟨v,K,e.Z a (c b (by simp)),f.Z a λx hx=>c x (by simp[hx]),rfl⟩,h.bit⟩
theorem hJ.Y(h:hJ w b F bs)(a:gf [] w w'):hJ w' b F bs:=h.Z a (by simp)
theorem hJ.new(w:World):hJ (w.alloc (.cells #[.slice none 0 0,(0:Int)] 63)) w.heap.size [w.heap.size] []:=
 ⟨⟨_,[],gn.new _ _ _,gE.nil _ _,rfl⟩,by simp⟩
theorem ku:jA prog 40 5 (.int .u8 0) 1 1:=.mk' underlying40 (by kernel_rfl)
theorem uR(w:World)(b:Nat)(F bs:List Nat)(x:Nat)(h:hJ w b F bs)(hx:x<2)(hlen:bs.length<1099511627776):Calls prog 72 #[.pointer b,.int .u8 x] w λe w'=>e=.returned (.tuple #[])/\∃F',hJ w' b F' (bs++[x])/\gB F F' w w':=by
 obtain⟨v,G,q,C,rfl⟩:=h.ex;have U:=h.bit;have M:=C.ne_ q (by decide);have T:∀y∈bs++[x],y<2:=by
  intro y t;rcases zP.1 t with t|t
  .exact U y t
  .simp at t;omega
 obtain⟨A,ay,rfl,W,aC,-⟩:=C.oq;have aG:(iE bs).length<=137438953472:=by rw[mL];omega
 have L:=q.X 0;have V:=q.X 1;have⟨aE,aF⟩:=pt q 0 1;simp at L V;have I:=gd T;clear T U h;obtain⟨i,r,H,aI⟩:∃i r,bs.length=8*i+r/\r<8:=⟨bs.length / 8,bs.length%8,by omega,by omega⟩;have e1:(bs.length:Int) / 8=(i:Int):=by omega
 have e2:(bs.length:Int)%8=(r:Int):=by omega
 have HL:=gd H;by_cases h8:r=0
 .subst h8
  have s:(iE bs).length=i:=by rw[mL];omega
  have f:=gd s;clear H s;go_enter func72,ntmps72
  go_wp2_with(at_builtin;refine jT rfl rfl ku rfl rfl (C.alloc _) (.int .u8 0) rfl ?c1 ?c2 ?c3 ?c4 ?_)
  case c1=>simp[go_sem]
  case c2=>rfl
  case c3=>simp;omega
  case c4=>simp;omega
  intro a z w2 N J;have u:a≠b:=by
   rintro rfl;rcases J.new a (by simp)with h|h
   .exact M h
   .have:=q.lt;simp at h;omega
  have K:=(q.alloc (.cells #[.int .u8 0] 5)).Z J.Z (by simpa using M)
  try simp only[zE]at N
  try rw[f.o]at N
  try simp only[zE]
  try rw[f.o]
  have E:=K.X 0;have X:=K.V 0;simp at E;clear L V aE aF W aC aG;have D:=K.T 0 (.slice (some ⟨a,0,none⟩) (i+1) z);have ad:=N.R (p:=⟨b,0,none⟩) u (.slice (some ⟨a,0,none⟩) (i+1) z)
  have aA:gB (b::G) [b,a] w (w2.setCell b (.slice (some ⟨a,0,none⟩) (i+1) z)) :=
   (((gB.refl (b::G) w).alloc _).trans (J.cons b)).setCell (by simp) _
  go_wp2_with fail;generalize hw3:w2.setCell b (.slice (some ⟨a,0,none⟩) (i+1) z)=w3 at *;clear E X;have aD:=D.X 0;have E:=D.X 1;have X:=D.V 1;simp at aD E;have aJ:w3.cell? ⟨a,i,none⟩=some (.int .u8 0):=by
   obtain⟨_,_,_,_,o,_⟩:=ad.open_;rw[o i (by simp[f.o])];rw[zS (by simp[f.o])];simp[f.o]
  have aK:w3.frozen? ⟨a,i,none⟩=false:=by
   obtain⟨_,_,_,_,_,o⟩:=ad.open_;exact o i
  refine jE 21 (by kernel_rfl) (by kernel_rfl) ?_;simp only[take_succ_cons,take_zero,drop_succ_cons,drop_zero]
  repeat(go_big_quiet_step (fail))
  refine wpQuiet_nil ?_;intro _ O;obtain⟨nq,rfl⟩:=O;go_wp2_with fail
  go_end0
  have R:bits .or .u8 0 ((x:Int)*128)=((x*128:Nat):Int):=by
   have:=zo (x:=0) (y:=x*128) (by decide) (by omega)
   simpa using this
  rw[R];refine⟨rfl,[b,a],⟨⟨.slice (some ⟨a,0,none⟩) (i+1) z,[a],?_,?_,rfl⟩,I.o⟩,?_⟩
  .have c:=((D.drewN nq).R (p:=⟨a,i,none⟩) u.symm (.int .u8 ((x*128:Nat):Int))).T 1 (.int .i64 ((bs.length:Int)+1))
   simpa using c
  .have c:=((ad.drewN nq).T (i:=i) (by simp[f.o]) (.int .u8 ((x*128:Nat):Int))).R (p:=⟨b,1,none⟩) u (.int .i64 ((bs.length:Int)+1))
   have e:(map b8 (iE bs)++[Value.int .u8 0]).set i (.int .u8 ((x*128:Nat):Int))=(iE (bs++[x])).map b8:=by
    rw[Cn (by rw[HL.o];omega),zM,set_append_right _ _ (by simp[f.o])];simp[f.o,b8]
   rw[e]at c;exact c.S
  .exact((aA.drewN nq).setCell (p:=⟨a,i,none⟩) (by simp) _).setCell (p:=⟨b,1,none⟩) (by simp) _
 .have aH:(r:Int)≠0:=by omega
  have t1:((r:Int)==0)=false:=by rw[beq_eq_false_iff_ne];exact aH
  have s:(iE bs).length=i+1:=by rw[mL];omega
  have f:=gd s;obtain⟨a,rfl⟩:∃a,A=some ⟨a,0,none⟩:=by
   obtain⟨A',az,c,_,_,P,Q⟩:=C.open_;injection c with c _ _;subst c;obtain⟨b0,o0,o,_⟩:=P.ex (by simp[s]);obtain⟨g,h5,_⟩:=Q _ o;exact⟨g,by rw[o,h5]⟩
  obtain⟨ad,rfl⟩:=C.row rfl;have u:a≠b:=by simpa[eq_comm]using M
  have aB:j4 bs i<256:=xS (λy t=>I.o y (by simp[t])) i;have aJ:w.cell? ⟨a,i,none⟩=some (.int .u8 (j4 bs i)):=by
   obtain⟨_,_,_,_,o,_⟩:=ad.open_;rw[o i (by simp[f.o])]
   have:i<(bs.length+7) / 8:=by omega
   simp[iE,b8,this]
  have aK:w.frozen? ⟨a,i,none⟩=false:=by
   obtain⟨_,_,_,_,_,o⟩:=ad.open_;exact o i
  rw[s]at q L W;have Y:=FK (b:=x) H aI hx;have S:iE (bs++[x])=(iE bs).set i (j4 bs i+x*2^(7-r)):=by
   have c:=De (bs:=bs) (b:=x) (by omega);have P:bs.length / 8=i:=(by omega);have Q:bs.length%8=r:=(by omega);rw[c,P,Q]
  have⟨af,ax⟩:=gy S Y;clear H s S Y;go_enter func72,ntmps72;go_wp2_with fail;refine jE 21 (by kernel_rfl) (by kernel_rfl) ?_;simp only[take_succ_cons,take_zero,drop_succ_cons,drop_zero]
  repeat(go_big_quiet_step (fail))
  refine wpQuiet_nil ?_;intro _ O;obtain⟨nq,rfl⟩:=O;go_wp2_with fail
  go_end0
  have aL:2^(7-r)<=128:=Nat.pow_le_pow_right (n:=2) (j:=7) (by decide) (by omega);have Z:x*2^(7-r)<256:=by
   have:x=0\/x=1:=by omega
   rcases this with rfl|rfl<;>omega
  have R:bits .or .u8 ((j4 bs i:Nat):Int) ((x:Int)*2^(7-r)%256)=((j4 bs i+x*2^(7-r):Nat):Int):=by
   have e3:((x:Int)*2^(7-r)%256)=((x*2^(7-r):Nat):Int):=by
    rw[Int.natCast_mul,Int.natCast_pow];refine Int.emod_eq_of_lt ?_ ?_
    .exact Int.mul_nonneg (by omega) (Int.le_of_lt (jZ _))
    .exact_mod_cast Z
   rw[e3,zo aB Z,ax.o]
  rw[R];refine⟨rfl,[b,a],⟨⟨.slice (some ⟨a,0,none⟩) (i+1) ay,[a],?_,?_,rfl⟩,I.o⟩,?_⟩
  .have c:=((q.drewN nq).R (p:=⟨a,i,none⟩) u.symm (.int .u8 ((j4 bs i+x*2^(7-r):Nat):Int))).T 1 (.int .i64 ((bs.length:Int)+1))
   simpa using c
  .have c:=((ad.drewN nq).T (i:=i) (by simp[f.o]) (.int .u8 ((j4 bs i+x*2^(7-r):Nat):Int))).R (p:=⟨b,1,none⟩) u (.int .i64 ((bs.length:Int)+1))
   rw[f.o]at c;have e:(map b8 (iE bs)).set i (.int .u8 ((j4 bs i+x*2^(7-r):Nat):Int))=(iE (bs++[x])).map b8:=by
    rw[af.o,map_set];rfl
   rw[e]at c;exact c.S
  .exact(((gB.refl [b,a] w).drewN nq).setCell (p:=⟨a,i,none⟩) (by simp) _).setCell (p:=⟨b,1,none⟩) (by simp) _
theorem i8(w:World)(b:Nat)(F bs:List Nat)(v n:Nat)(h:hJ w b F bs)(y:n<=63)(c:v<2^n)(q:bs.length<549755813888):Calls prog 70 #[.pointer b,.int .u64 v,n] w λe w'=>e=.returned (.int .i64 0)/\∃F',hJ w' b F' (bs++gA v n)/\gB F F' w w':=by
 have D:v<18446744073709551616:=Nat.lt_of_lt_of_le c (Nat.le_trans (Nat.pow_le_pow_right (by decide) y) (by decide:2^63<=18446744073709551616));have J:decide ((n:Int)<0)=false:=by simp
 have K:decide ((64:Int)<n)=false:=by simp;omega
 have L:(((v:Int) / 2^n) != 0)=false:=by
  have:(v:Int) / 2^n=((v / 2^n:Nat):Int):=by simp
  rw[this,div_eq_of_lt c];rfl
 clear c;go_enter func70,ntmps70;go_wp2_with fail
 go_loopg [7] n (λk i wr=>∃(F' a:List Nat),i=.int .i64 ((k:Int)-1)/\k<=n/\hJ wr b F' a/\gh (bs++gA v n=a++gA v k)/\a.length+k<=bs.length+n/\gB F F' w wr)
 .exact⟨F,bs,rfl,zQ _,h,gd rfl,zQ _,gB.refl _ _⟩
 obtain⟨F',a,rfl,I,j,f,H,o⟩:=hrel;rcases gk with _|k
 .have M:decide ((0:Int)<=((0:Nat):Int)-1)=false:=by simp
  go_wp2;go_ret;refine⟨rfl,F',?_,o⟩;rw[f.o]
  simpa[gA]using j
 .have t:(((k+1:Nat):Int)-1)=(k:Int):=by omega
  rw[t];have⟨ad,ab⟩:=zX (v / 2^k%2);have C:bits BinOp.and IntKind.u64 ((v:Int) / 2^k) 1=(ad:Int):=by
   have e:(v:Int) / 2^k=((v / 2^k:Nat):Int):=(by simp);have E:v / 2^k<=v:=div_le_self _ _;rw[e,ab];exact AF (by omega)
  have z:ad<=1:=by omega
  have s:gh (bs++gA v n=(a++[ad])++gA v k):=by
   refine gd ?_;rw[f.o,ab,gA,zH];rfl
  clear ab;go_wp2_with fail;refine(uR _ b F' a ad j (by omega) (by omega)).mono ?_;rintro e N ⟨rfl,r,x,u⟩;go_wp2_with fail
  go_roundg k
  .exact⟨r,a++[ad],rfl,by omega,x,s,by simp;omega,o.trans u⟩
  .omega
theorem DI(w:World)(b:Nat)(F bs:List Nat)(n:Nat)(h:hJ w b F bs)(C:n<=4096)(t:bs.length<549755813888):Calls prog 273 #[.pointer b,n] w λe w'=>e=.returned (.int .i64 0)/\∃F',hJ w' b F' (bs++(replicate n 0++[1]))/\gB F F' w w':=by
 have D:decide ((n:Int)<0)=false:=by simp
 have E:decide ((4096:Int)<n)=false:=by simp;omega
 go_enter func273,ntmps273;go_wp2_with fail
 go_loopg [12] n (λk i wr=>∃(F' a:List Nat),i=.int .i64 ((n-k:Nat):Int)/\k<=n/\hJ wr b F' a/\gh (a=bs++replicate (n-k) 0)/\a.length+k<=bs.length+n/\gB F F' w wr)
 .exact⟨F,bs,by simp,zQ _,h,gd (by simp),zQ _,gB.refl _ _⟩
 obtain⟨F',a,rfl,z,r,j,x,s⟩:=hrel;rcases gk with _|k
 .have H:decide (((n-0:Nat):Int)<(n:Int))=false:=by simp
  go_wp2_with fail;refine(uR _ b F' a 1 r (by omega) (by omega)).mono ?_;rintro e u ⟨rfl,f,c,o⟩;go_wp2;go_ret;refine⟨rfl,f,?_,s.trans o⟩;rw[j.o]at c
  simpa using c
 .have⟨m,hm⟩:=zX (n-(k+1))
  rw[<-hm]at j⊢;have y:m<n:=by omega
  have ad:n-k=m+1:=by omega
  have q:=gd ad;clear hm ad;go_wp2_with fail;refine(uR _ b F' a 0 r (by omega) (by omega)).mono ?_;rintro e u ⟨rfl,f,c,o⟩;go_wp2_with fail
  go_roundg k
  .refine⟨f,a++[0],?_,by omega,c,?_,by simp;omega,s.trans o⟩
   .rw[q.o];go_num
   .refine gd ?_
    rw[j.o,q.o,replicate_succ',zH]
  .omega
theorem Nn(w:World)(b:Nat)(F bs:List Nat)(h:hJ w b F bs):Calls prog 131 #[.pointer b] w λe w'=>e=.returned bs.length/\w=w':=by
 obtain⟨v,G,a,f,rfl⟩:=h.ex;have c:=a.X 1;simp at c;clear a f h;go_enter func131,ntmps131;go_wp2;go_ret;exact⟨rfl,rfl⟩
theorem ni(l:List Nat):∀u∈l.map b8,u.oneCell'=true:=by
 intro u a;obtain⟨d,_,rfl⟩:=List.mem_map.1 a;rfl
theorem LO(w:World)(b:Nat)(A:Option Addr)(cap:Nat)(ds:List Nat)(o:w.cell? b=some (.slice A ds.length cap))(a:gu (λu=>u) w A (ds.map b8))(q:ds.length<=137438953472):Calls prog 38 #[.pointer b] w λe w'=>∃v G,e=.returned v/\gE w' 5 v G (ds.map b8)/\gf [] w w'/\∀x∈G,w.heap.size<=x:=by
 have f:=gd a;clear a;go_enter func38,ntmps38
 go_wp2_with(at_builtin;refine na rfl rfl ku rfl rfl (gE.nil _ _) (ds.map b8) ds.length rfl ?c1 ?c2 ?c3 ?c4 ?c5 ?_)
 case c1=>exact(zE _).symm
 case c2=>exact f.o
 case c3=>exact ni _
 case c4=>rw[zE,length_nil];omega
 case c5=>rw[zE,length_nil];omega
 intro r F' w' j c;go_wp2;go_ret;exact⟨r,F',rfl,by simpa using j,c.Z,λx hx=>by rcases c.new x hx with h|h;simp at h;exact h⟩
theorem LP(w:World)(b:Nat)(F bs:List Nat)(h:hJ w b F bs)(f:bs.length<549755813888):Calls prog 38 #[.pointer b] w λe w'=>∃v G,e=.returned v/\gE w' 5 v G ((iE bs).map b8)/\gf [] w w'/\∀x∈G,w.heap.size<=x:=by
 obtain⟨v,G,s,j,rfl⟩:=h.ex;obtain⟨A,q,rfl,u,y,-⟩:=j.oq;obtain⟨t,ad,a,-,-,o,-⟩:=j.open_;injection a with a _ _;subst a;have r:(iE bs).length<=137438953472:=by rw[mL];omega
 have c:=s.X 0;simp at c;exact LO w b A q _ c o r
structure iU (w:World) (b:Nat) (F:List Nat) (ds:List Nat) (at_:Nat):Prop where
 ex:∃v G,gn w b 107 #[v,at_,(0:Int)]/\gE w 5 v G (ds.map b8)/\F=b::G
 dig:∀d∈ds,d<256
 len:ds.length<1099511627776
 at_le:at_<=8*ds.length
def nK(ds:List Nat)(i:Nat):Nat:=ds.getD (i / 8) 0 / 2^(7-i%8)%2
def oC(ds:List Nat):List Nat:=(range (8*ds.length)).map (nK ds)
theorem Hp(ds:List Nat):(oC ds).length=8*ds.length:=by simp[oC]
theorem Bi(h:i<8*ds.length):(oC ds)[i]?=some (nK ds i):=by
 simp[oC,h]
theorem iU.mem(h:iU w b F ds p):b∈F:=by
 obtain⟨_,_,_,_,rfl⟩:=h.ex;simp
theorem iU.lt(h:iU w b F ds p):∀x∈F,x<w.heap.size:=by
 obtain⟨_,_,c,e,rfl⟩:=h.ex;intro x a;rcases zJ.1 a with rfl|a
 .exact c.lt
 .exact e.lt x a
theorem iU.Z(h:iU w b F ds p)(a:gf G w w')(c:∀x∈F,x∉G):iU w' b F ds p:=by
 obtain⟨v,K,e,f,rfl⟩:=h.ex;exact⟨⟨v,K,e.Z a (c b (by simp)),f.Z a λx hx=>c x (by simp[hx]),rfl⟩,h.dig,h.len,h.at_le⟩
theorem iU.Y(h:iU w b F ds p)(a:gf [] w w'):iU w' b F ds p:=h.Z a (by simp)
theorem N8(w:World)(A:Option Addr)(cap:Nat)(ds:List Nat)(r:gu b8 w A ds)(s:∀d∈ds,d<256)(J:ds.length<1099511627776)(H:ds.length<=cap)(I:cap<=9223372036854775807):Calls prog 53 #[.slice A ds.length cap] w λe w'=>∃b F,e=.returned (.pointer (some ⟨b,0,none⟩))/\iU w' b F ds 0/\gf [] w w'/\∀x∈F,w.heap.size<=x:=by
 have j:gu (λu=>u) w A (ds.map b8):=⟨λh0=>by
  obtain⟨b,o,C,D,E⟩:=r.ex (by simpa using h0);refine⟨b,o,C,D,λi a ha=>?_⟩;rw[zW]at ha
  cases e:ds[i]? with
  | none=>simp[e]at ha
  | some d=>simp[e]at ha;subst ha;exact E i d e⟩
 have⟨HC,HD⟩:=gy j s;clear r j s;go_enter func53,ntmps53
 go_wp2_with(at_builtin;refine na rfl rfl ku rfl rfl (gE.nil _ _) (ds.map b8) ds.length rfl ?c1 ?c2 ?c3 ?c4 ?c5 ?_)
 case c1=>exact(zE _).symm
 case c2=>exact HC.o
 case c3=>exact ni _
 case c4=>rw[zE,length_nil];omega
 case c5=>rw[zE,length_nil];omega
 intro K F' w' q c;obtain⟨t,y,rfl,-⟩:=q.open_;go_wp2;go_ret;have z:gE w' 5 (.slice t ds.length y) F' (ds.map b8):=by simpa using q
 refine⟨_,w'.heap.size::F',rfl,⟨⟨_,F',gn.new _ _ _,z.alloc _,rfl⟩,HD.o,J,by simp⟩,c.Z.alloc _,λx f=>?_⟩
 have:=c.size
 rcases zJ.1 f with rfl|f
 .exact this
 .rcases c.new x f with h|h
  .simp at h
  .exact h
theorem DL(ds:List Nat)(i:Nat):nK ds i<2:=by unfold nK;omega
theorem DZ(h:i<ds.length):ds[i]?=some (ds.getD i 0):=by
 rw[zD,zF h];rfl
theorem NN(w : World)(b : Nat)(F ds : List Nat)(p i : Nat)(h : iU w b F ds p)(hi : i < 8 * ds.length):Calls prog 90 #[.pointer b,i] w λe w'=>e=.returned (.int .u8 (nK ds i))/\w=w':=by
  obtain⟨v,G,t,u,rfl⟩:=h.ex;obtain⟨A,H,rfl,I,J,c⟩:=u.oq;have E:=h.len;have z:=t.X 0;simp at z;obtain⟨g,o,rfl,K,f⟩:=c.ex (by omega);have⟨q,hq⟩:=zX (i / 8);have⟨r,hr⟩:=zX (i%8);have s:q<ds.length:=by omega
  have a:=f q _ (DZ s);have⟨y,hy⟩:=zX (ds.getD q 0);rw[<-hy]at a;have ad:y<256:=by
    rw[hy];exact h.dig _ (mem_of_getElem? (DZ s))
  have L:w.cell? ⟨g,o+q,none⟩=some (.int .u8 y):=a;have M:(i:Int) / 8=(q:Int):=by omega
  have N:(i:Int)%8=(r:Int):=by omega
  have j:nK ds i=y / 2^(7-r)%2:=by unfold nK;rw[<-hq,<-hr,<-hy]
  have x:=gd j;have C:y / 2^(7-r)<256:=Nat.lt_of_le_of_lt (div_le_self _ _) ad;clear j hy hq hr a f c u t h;go_enter func90,ntmps90;go_wp2;go_ret;rw[x.o]
  first
    | exact⟨rfl,rfl⟩
    | (have D : (y : Int) / 2 ^ (7 - r) = ((y / 2 ^ (7 - r) : Nat) : Int) := by simp
       refine⟨?_,rfl⟩;rw[<-Ht C,<-D];rfl)
theorem Fb(w:World)(b:Nat)(F ds:List Nat)(p:Nat)(h:iU w b F ds p):Calls prog 56 #[.pointer b] w λe w'=>e=.returned (.int .i64 ((8*ds.length-p:Nat):Int))/\∃n,w'=w.drewN n:=by
 obtain⟨v,G,a,f,rfl⟩:=h.ex;obtain⟨A,r,rfl,t,u,j⟩:=f.oq;have ad:=h.len;have s:=h.at_le;have o:=a.X 0;have q:=a.X 1;simp at o q;have c:((8*ds.length-p:Nat):Int)=8*(ds.length:Int)-p:=by omega
 rw[c];clear c j f a h;go_enter func56,ntmps56;go_wp2_with fail
 go_quiet (fail)
 go_wp2;go_ret;exact⟨rfl,_,rfl⟩
theorem vt(w:World)(b:Nat)(F ds:List Nat)(p:Nat)(h:iU w b F ds p):Calls prog 87 #[.pointer b] w λe w'=>e=.returned (.int .i64 0)/\w=w':=by
 obtain⟨v,G,a,f,rfl⟩:=h.ex;have c:=a.X 2;simp at c;clear f a h;go_enter func87,ntmps87;go_wp2;go_ret;exact⟨rfl,rfl⟩
def nl(ds:List Nat)(p:Nat):Nat->Nat
 | 0=>0
 | n+1=>2*nl ds p n+nK ds (p+n)
theorem ED(ds:List Nat)(p:Nat):∀n,nl ds p n<2^n
 | 0=>by simp[nl]
 | n+1=>by
  have:=ED ds p n
  have:=DL ds (p+n)
  rw[nl,Nat.pow_succ];omega
def jG(ds:List Nat)(p:Nat)(bs:List Nat):Prop:=∃rest,(oC ds).drop p=bs++rest
theorem jG.len(h:jG ds p bs):bs.length<=8*ds.length-p:=by
 obtain⟨rest,h⟩:=h
 have:=congrArg length h
 rw[zO,Hp,zC]at this;omega
theorem jG.le(h:jG ds p bs)(a:p<=8*ds.length):p+bs.length<=8*ds.length:=by have:=h.len;omega
theorem jG.left(h:jG ds p (us++bs)):jG ds p us:=by
 obtain⟨rest,h⟩:=h;exact⟨bs++rest,by rw[h,zH]⟩
theorem jG.right(h:jG ds p (us++bs)):jG ds (p+us.length) bs:=by
 obtain⟨rest,h⟩:=h;refine⟨rest,?_⟩;rw[<-drop_drop,h,zH,drop_left]
theorem jG.get(h:jG ds p bs){x:Nat}(hi:bs[i]?=some x):nK ds (p+i)=x:=by
 have e:=h.len;obtain⟨rest,h⟩:=h;have c:i<bs.length:=(List.getElem?_eq_some_iff.1 hi).1;have a:((oC ds).drop p)[i]?=some x:=by rw[h,getElem?_append_left c,hi]
 rw[getElem?_drop,Bi (by omega)]at a
 simpa using a
theorem xt(v:Nat):∀(n i:Nat),i<n->(gA v n)[i]?=some (v / 2^(n-1-i)%2)
 | n+1,0,_=>by simp[gA]
 | n+1,i+1,h=>by
  rw[gA,getElem?_cons_succ,xt v n i (by omega)]
  have:n-1-i=n+1-1-(i+1):=by omega
  rw[this]
theorem AZ{ds:List Nat}{p v n:Nat}(h:jG ds p (gA v n))(a:v<2^n):∀m,m<=n->nl ds p m=v / 2^(n-m)
 | 0,_=>by rw[nl,Nat.sub_zero,div_eq_of_lt a]
 | m+1,hm=>by
  rw[nl,AZ h a m (by omega),h.get (xt v n m (by omega))];have c:n-1-m=n-(m+1):=by omega
  have e:n-m=n-(m+1)+1:=by omega
  rw[c,e,Nat.pow_succ,<-Nat.div_div_eq_div_mul];omega
theorem Iw(h:jG ds p (gA v n))(a:v<2^n):nl ds p n=v:=by
 rw[AZ h a n (zQ _),Nat.sub_self,Nat.pow_zero,Nat.div_one]
theorem N7(w:World)(b:Nat)(F ds:List Nat)(p n:Nat)(h:iU w b F ds p)(S:n<=63)(T:p+n<=8*ds.length):Calls prog 57 #[.pointer b,n] w λe w'=>e=.returned (.int .u64 (nl ds p n))/\iU w' b F ds (p+n)/\gf [b] w w':=by
 have L:=h.len;have U:decide ((n:Int)<0)=false:=by simp
 have V:decide ((64:Int)<n)=false:=by simp;omega
 have W:decide ((8*ds.length-p)<n)=false:=by simp;omega
 have O:w.cell? ⟨b,2,none⟩=some (.int .i64 0):=by
  obtain⟨v,G,c,f,rfl⟩:=h.ex
  simpa using c.X 2
 go_enter func57,ntmps57;go_wp2_with fail;refine(Fb w b F ds p h).mono ?_;rintro e w' ⟨rfl,nq,rfl⟩;go_wp2_with fail
 go_loopg [5,28] n (λk v i wr=>k<=n/\i=.int .i64 ((n-k:Nat):Int)/\v=.int .u64 (nl ds p (n-k))/\iU wr b F ds (p+(n-k))/\gf [b] w wr)
 .exact⟨zQ _,by simp,by simp[nl],by simpa using h.Y ((zR _ _).drewN nq),(zR _ _).drewN nq⟩
 obtain⟨R,rfl,rfl,a,o⟩:=hrel;rcases gk with _|k
 .have X:decide (((n-0:Nat):Int)<(n:Int))=false:=by simp
  go_wp2;go_ret;exact⟨by simp,by simpa using a,o⟩
 .have⟨m,hm⟩:=zX (n-(k+1))
  rw[<-hm]at a⊢;have Q:m<n:=by omega
  have r:n-k=m+1:=by omega
  have u:=gd r;clear hm r;have t:=ED ds p m;have E:2^m<=2^62:=Nat.pow_le_pow_right (by decide) (by omega);have⟨v,ac⟩:=zX (nl ds p m);rw[<-ac]at t⊢;have z:=gd ac;have M:v<4611686018427387904:=by omega
  clear ac t E;have N:wr.cell? ⟨b,1,none⟩=some (.int .i64 ((p+m:Nat):Int)):=by
   obtain⟨v,G,c,f,rfl⟩:=a.ex
   simpa using c.X 1
  have P:wr.frozen? ⟨b,1,none⟩=false:=by
   obtain⟨v,G,c,f,rfl⟩:=a.ex;exact c.V 1
  have j:=DL ds (p+m);have⟨y,hy⟩:=zX (nK ds (p+m));have q:=NN wr b F ds (p+m) (p+m) a (by omega);rw[<-hy]at q j;have C:=gd hy;clear hy;have s:bits BinOp.or IntKind.u64 ((v:Int)*2) (y:Int)=((2*v+y:Nat):Int):=by
   have:=Hx (v:=v) (b:=y) (by omega) j
   rw[<-this]
   congr 1
   omega
  have x:=gd s;clear s;have ad:((p+m:Nat):Int)=(p:Int)+m:=by omega
  go_wp2_with fail;refine q.mono ?_;rintro e Y ⟨rfl,rfl⟩;go_wp2_with fail
  go_roundg k
  .rw[u.o]
   refine⟨by omega,by go_num,?_,?_,o.setCell (by simp) _⟩
   .rw[nl,<-z.o,<-C.o,<-x.o]
   .obtain⟨K,G,c,f,H⟩:=a.ex
    have D:b∉G:=f.ne_ c (by decide);have J:=c.T 1 (.int .i64 ((p+m:Nat)+1:Int));refine⟨⟨K,G,?_,f.R (p:=⟨b,1,none⟩) D _,H⟩,a.dig,a.len,by omega⟩;have I:((p+(m+1):Nat):Int)=((p+m:Nat):Int)+1:=(by omega);rw[I]
    simpa using J
  .omega
theorem qY(w:World)(b:Nat)(F ds:List Nat)(p n v:Nat)(h:iU w b F ds p)(f:n<=63)(j:v<2^n)(a:jG ds p (gA v n)):Calls prog 57 #[.pointer b,n] w λe w'=>e=.returned (.int .u64 v)/\iU w' b F ds (p+n)/\gf [b] w w':=by
 have c:=a.le h.at_le;rw[gJ]at c
 have:=N7 w b F ds p n h f c
 rw[Iw a j]at this;exact this
def vi(x:Int):Value:=.int .i64 x
theorem pX(l:List Int):∀u∈l.map vi,u.oneCell'=true:=by
 intro u a;obtain⟨d,_,rfl⟩:=List.mem_map.1 a;rfl
theorem iJ:jA prog 22 3 (.int .i64 0) 1 8:=.mk' underlying22 (by kernel_rfl)
theorem gu.at_{α:Type}{f:α->Value}{l:List α}(h:gu f w A l)(c:m<l.length):∃b o,A=some ⟨b,o,none⟩/\w.cell? ⟨b,o+m,none⟩=some (f l[m]):=by
 obtain⟨b,o,e,_,a⟩:=h.ex (by omega);exact⟨b,o,e,a m _ (zF c)⟩
theorem te(x:Int)(w:World)(h:ib x):Calls prog 266 #[x] w λe w'=>e=.returned (.bool true)/\w=w':=by
 obtain⟨a,c⟩:=h;go_enter func266,ntmps266;go_wp2;go_ret;exact⟨rfl,rfl⟩
theorem yc(k:Nat)(w:World)(h:k<=25):Calls prog 249 #[k] w λe w'=>e=.returned (.bool true)/\w=w':=by
 have a:decide ((k:Int)<=(25:Int))=true:=by simp;omega
 go_enter func249,ntmps249;go_wp2;go_ret;exact⟨rfl,rfl⟩
theorem yM(x:Int)(w:World)(h:ib x):Calls prog 193 #[x] w λe w'=>e=.returned (.int .u64 (jt x))/\w=w':=by
 have c:=h;obtain⟨o,q⟩:=h;by_cases hx:0<=x
 .have j:decide ((0:Int)<=x)=true:=by simpa using hx
  go_enter func193,ntmps193
  go_wp2_with(go_at_call 266;refine gx (te _ _ c) ?_)
  go_ret;refine⟨?_,rfl⟩
  have:((jt x:Nat):Int)=2*x:=by unfold jt;rw[if_pos hx];omega
  rw[this];rfl
 .have j:decide ((0:Int)<=x)=false:=by simpa using hx
  have a:((jt x:Nat):Int)=-(2*x)-1:=by unfold jt;rw[if_neg hx];omega
  have f:=gd a;clear a;go_enter func193,ntmps193
  go_wp2_with(go_at_call 266;refine gx (te _ _ c) ?_)
  go_ret;refine⟨?_,rfl⟩;rw[f.o]
  first|rfl|(go_num)
theorem DF(u:Nat)(w:World)(h:u<2147483648):Calls prog 202 #[.int .u64 u] w λe w'=>e=.returned (.int .i64 (la u))/\w=w':=by
 have j:decide ((2147483648:Int)<=(u:Int))=false:=by simp;omega
 by_cases hx:u%2=0
 .have f:((u:Int)%2==0)=true:=by rw[beq_iff_eq];omega
  have a:la u=(u:Int) / 2:=by unfold la;rw[if_pos hx];omega
  have c:=gd a;clear a hx;go_enter func202,ntmps202;go_wp2;go_ret;rw[c.o];exact⟨rfl,rfl⟩
 .have f:((u:Int)%2==0)=false:=by rw[beq_eq_false_iff_ne];omega
  have a:la u=-((u:Int) / 2)-1:=by unfold la;rw[if_neg hx];omega
  have c:=gd a;clear a hx;go_enter func202,ntmps202;go_wp2;go_ret;rw[c.o];exact⟨rfl,rfl⟩
theorem Na(k:Nat)(x:Int)(w:World)(j:k<=25)(h:ib x):Calls prog 312 #[k,x] w λe w'=>e=.returned (.int .i64 (mV k x))/\w=w':=by
 have r:=sW h;have⟨u,ac⟩:=zX (jt x);have a:=yM x w h;rw[<-ac]at r a;have o:u / 2^k<=u:=div_le_self _ _;have⟨q,aa⟩:=zX (u / 2^k);have t:(u:Int) / 2^k=(q:Int):=by rw[aa];simp
 rw[<-aa]at o;have f:mV k x=if q<32 then q+1+k else 65:=by unfold mV;rw[<-ac,<-aa]
 have c:=gd f;clear f ac aa;by_cases hs:q<32
 .have s:decide ((q:Int)<32)=true:=by simp;omega
  go_enter func312,ntmps312
  go_wp2_with(first|(go_at_call 249;refine gx (yc _ _ j) ?_)|(go_at_call 266;refine gx (te _ _ h) ?_)|(go_at_call 193;refine gx a ?_))
  go_ret;rw[c.o,if_pos hs];refine⟨?_,rfl⟩
  first|rfl|(go_num)
 .have s:decide ((q:Int)<32)=false:=by simp;omega
  go_enter func312,ntmps312
  go_wp2_with(first|(go_at_call 249;refine gx (yc _ _ j) ?_)|(go_at_call 266;refine gx (te _ _ h) ?_)|(go_at_call 193;refine gx a ?_))
  go_ret;rw[c.o,if_neg hs];exact⟨rfl,rfl⟩
theorem Dt(k:Nat)(l:List Int)(x:Int):iR k (l++[x])=iR k l+mV k x:=by simp[iR]
theorem jd{α:Type}(l:List α)(h:m<l.length):l.take (m+1)=l.take m++[l[m]]:=by
 rw[take_succ_eq_append_getElem h]
theorem zg(k:Nat)(l:List Int)(A:Option Addr)(cap:Nat)(w:World)(r:k<=25)(z:∀x∈l,ib x)(L:gu vi w A l)(M:l.length<=1099511627776):Calls prog 275 #[k,.slice A l.length cap] w λe w'=>e=.returned (.int .i64 (iR k l))/\w=w':=by
 have H:=gd z;clear z;have⟨n,hn⟩:=zX l.length;rw[<-hn]at M⊢;have t:=gd hn;clear hn;go_enter func275,ntmps275;go_wp2_with fail
 go_loopg [5,10] n (λj s i wr=>j<=n/\i=.int .i64 ((n-j:Nat):Int)/\s=.int .i64 ((iR k (l.take (n-j)):Nat):Int)/\w=wr)
 .exact⟨zQ _,by simp,by simp[iR],rfl⟩
 obtain⟨O,rfl,rfl,rfl⟩:=hrel;rcases gk with _|j
 .have P:decide (((n-0:Nat):Int)<(n:Int))=false:=by simp
  have e:l.take n=l:=by rw[t.o,zN]
  rw[Nat.sub_zero,e];go_wp2;go_ret;exact⟨rfl,rfl⟩
 .have⟨m,ai⟩:=zX (n-(j+1))
  rw[<-ai];have J:m<n:=by omega
  have y:n-j=m+1:=by omega
  have D:=gd y;clear ai y;have q:m<l.length:=by rw[<-t.o];exact J
  obtain⟨b,o,rfl,f⟩:=L.at_ q;have a:=Dt k (l.take m) l[m];rw[<-jd l q]at a;have h:=zf k (l.take m) r;rw[zI]at h;have⟨x,hx⟩:=zX (l[m]);rw[<-hx]at f a;have ad:w.cell? ⟨b,o+m,none⟩=some (.int .i64 x):=f;have K:ib x:=by rw[hx];exact H.o _ (zG _)
  have⟨s,hs⟩:=zX (iR k (l.take m));rw[<-hs]at a h⊢;have I:=mO k x r;have E:=gd a;have N:s<=65*n:=by omega
  have u:=Na k x w r K;have⟨c,ac⟩:=zX (mV k x);rw[<-ac]at u I;have C:=gd ac;clear a f hx hs h ac q
  go_wp2_with(go_at_call 312;refine gx u ?_)
  go_roundg j
  .rw[D.o,E.o,<-C.o]
   exact⟨by omega,by go_num,by go_num,rfl⟩
  .omega
theorem yL(l:List Int)(A:Option Addr)(cap:Nat)(w:World)(z:∀x∈l,ib x)(y:gu vi w A l)(C:l.length<=1099511627776):Calls prog 204 #[.slice A l.length cap] w λe w'=>e=.returned (.int .i64 (jS l))/\w=w':=by
 have c:=λk (hk:k<=25)=>zg k l A cap w hk z y C;have r:=c 0 (by omega);have ad:=gd c;clear c z y;go_enter func204,ntmps204;go_wp2_with fail;refine gx r ?_;clear r;go_wp2_with fail
 go_loopg [3,4,5] 25 (λj b s i wr=>j<=25/\b=.int .i64 (ls l (25-j))/\s=.int .i64 (iR (ls l (25-j)) l)/\i=.int .i64 ((26-j:Nat):Int)/\w=wr)
 .exact⟨zQ _,rfl,rfl,rfl,rfl⟩
 obtain⟨I,rfl,rfl,rfl,rfl⟩:=hrel;rcases gk with _|j
 .have J:decide (((26-0:Nat):Int)<=(25:Int))=false:=by simp
  go_wp2;go_ret;exact⟨rfl,rfl⟩
 .have⟨m,ag⟩:=zX (25-(j+1))
  rw[<-ag];have H:m<25:=by omega
  have h:25-j=m+1:=by omega
  have o:26-(j+1)=m+1:=by omega
  have q:26-j=m+2:=by omega
  rw[o];have⟨HM,ae⟩:=gy h q;have u:ls l (m+1)=if iR (m+1) l<iR (ls l m) l then m+1 else ls l m:=rfl;have f:=gd u;have a:=ad.o (m+1) (by omega);have⟨s,hs⟩:=zX (iR (m+1) l);have⟨b,hb⟩:=zX (ls l m);rw[<-hs]at a;rw[<-hb];have⟨t,ht⟩:=zX (iR b l);rw[<-ht];have⟨HB,HT,ac⟩:=gS hb ht hs;clear u ag h o q hb ht hs;have E:((m+1:Nat):Int)=(m:Int)+1:=by omega
  by_cases hlt:s<t
  .have D:decide (s<t)=true:=by simpa using hlt
   go_wp2_with(go_at_call 275;refine gx a ?_)
   go_roundg j
   .rw[HM.o,ae.o,f.o,<-HB.o,<-ac.o,<-HT.o,if_pos hlt,<-ac.o]
    exact⟨by omega,by go_num,rfl,by go_num,rfl⟩
   .omega
  .have D:decide (s<t)=false:=by simpa using hlt
   go_wp2_with(go_at_call 275;refine gx a ?_)
   go_roundg j
   .rw[HM.o,ae.o,f.o,<-HB.o,<-ac.o,<-HT.o,if_neg hlt,<-HT.o]
    exact⟨by omega,rfl,rfl,by go_num,rfl⟩
   .omega
def mq:List (Int × Int):=[(0,1),(1,0),(1,1),(-1,1),(0,2),(2,0),(1,2),(-1,2),(2,1),(-2,1),(2,2),(-2,2),(0,3),(3,0),(1,3),(-1,3),(3,1),(-3,1),(2,3),(-2,3),(3,2),(-3,2),(0,4),(4,0)]
def mK(i:Nat):Int:=(mq.getD i (0,0)).1
def m8(i:Nat):Int:=(mq.getD i (0,0)).2
theorem FR(i:Nat):-4<=mK i/\mK i<=4/\0<=m8 i/\m8 i<=4:=by
 rcases zZ i 24 with h|h
 .have:∀i:Fin 24,-4<=mK i.1/\mK i.1<=4/\0<=m8 i.1/\m8 i.1<=4:=by decide
  exact this ⟨i,h⟩
 .have:mq.getD i (0,0)=(0,0):=by rw[zD,getElem?_eq_none (by simpa[mq]using h)];rfl
  unfold mK m8;rw[this]
  decide
def lP(c W:Nat):Int:=if 24<c then(c:Int)-24 else max (m8 (c-1)*W+mK (c-1)) 1
def mi(d W:Nat):Nat->Nat->Nat
 | 0,_=>d+24
 | f+1,c=>if lP c W=d then c else mi d W f (c+1)
def mt(d W:Nat):Nat:=mi d W 24 1
theorem Bn{d W:Nat}(a:1<=d):∀f c,c+f=25->1<=c->(1<=mi d W f c/\mi d W f c<=d+24)/\lP (mi d W f c) W=d
 | 0,c,h,h1=>by
  refine⟨by simp only[mi];omega,?_⟩;have e:mi d W 0 c=d+24:=rfl;rw[e];unfold lP;rw[if_pos (by omega)];omega
 | f+1,c,h,h1=>by
  unfold mi;split
  .rename_i hn
   exact⟨by omega,hn⟩
  .exact Bn a f (c+1) (by omega) (by omega)
theorem yo{W:Nat}(a:1<=d):(1<=mt d W/\mt d W<=d+24)/\lP (mt d W) W=d:=Bn a 24 1 rfl (by omega)
structure gK where
 len:Nat
 dist:Nat
 lit:Int
def gK.isLit(t:gK):Bool:=decide (t.len=0)&&decide (t.dist=0)
def gK.isCopy(t:gK):Bool:=decide (3<=t.len)&&decide (t.len<=64)&&decide (1<=t.dist)&&decide (t.dist<=1024)&&decide (t.lit=0)
def gK.ok(t:gK):Prop:=t.isLit=true\/t.isCopy=true
theorem gK.isLit_iff{t:gK}:t.isLit=true ↔ t.len=0/\t.dist=0:=by simp[gK.isLit]
theorem gK.isCopy_iff{t:gK}:t.isCopy=true ↔ 3<=t.len/\t.len<=64/\1<=t.dist/\t.dist<=1024/\t.lit=0:=by simp[gK.isCopy,and_assoc]
def kB(t:gK):List Go.Value:=[.int .i64 t.len,.int .i64 t.dist,.int .i64 t.lit]
def tJ(t:gK):Go.Value:=.agg #[t.len,t.dist,t.lit]
theorem Bc{l:List gK}{t:gK}(h:l[i]?=some t):(l.flatMap kB)[i*3]?=some (.int .i64 t.len)/\(l.flatMap kB)[i*3+1]?=some (.int .i64 t.dist)/\(l.flatMap kB)[i*3+2]?=some (.int .i64 t.lit):=by
 induction l generalizing i with
 | nil=>simp at h
 | cons s l ih=>
  rw[flatMap_cons];have e:(kB s).length=3:=rfl
  cases i with
  | zero=>
   simp at h;subst h;refine⟨rfl,rfl,rfl⟩
  | succ i=>
   obtain⟨a,b,c⟩:=ih (by simpa using h);refine⟨?_,?_,?_⟩
   .rw[zS (by omega),e,show(i+1)*3-3=i*3 by omega];exact a
   .rw[zS (by omega),e,show(i+1)*3+1-3=i*3+1 by omega];exact b
   .rw[zS (by omega),e,show(i+1)*3+2-3=i*3+2 by omega];exact c
structure jJ (w:World):Prop where
 px:∀i,i<24->w.cell? ⟨0,i*2,none⟩=some (.int .i64 (mK i))
 py:∀i,i<24->w.cell? ⟨0,i*2+1,none⟩=some (.int .i64 (m8 i))
 lt:0<w.heap.size
theorem jJ.Z(h:jJ w)(a:gf F w w')(hF:0∉F):jJ w':=
 ⟨λi hi=>(World.cell?_of_block (w:=w) (a.block 0 h.lt hF)).trans (h.px i hi),λi hi=>(World.cell?_of_block (w:=w) (a.block 0 h.lt hF)).trans (h.py i hi),Nat.lt_of_lt_of_le h.lt a.size⟩
theorem jJ.Y(h:jJ w)(a:gf [] w w'):jJ w':=h.Z a (by simp)
theorem MG(c W:Nat)(w:World)(h:jJ w)(D:1<=c)(E:c<=1048)(f:1<=W)(j:W<=64):Calls prog 254 #[c,W] w λe w'=>e=.returned (.int .i64 (lP c W))/\∃n,w'=w.drewN n:=by
 have J:=gL c 1 (by omega);have K:=gL 1048 c (by omega);have L:=gL W 1 (by omega);have M:=gL 64 W (by omega);by_cases hb:24<c
 .have r:=i6 24 c (by omega)
  have e:lP c W=(c:Int)-24:=by unfold lP;rw[if_pos hb]
  rw[e];go_enter func254,ntmps254;go_wp2;go_ret;exact⟨rfl,0,rfl⟩
 .have r:=gL 24 c (by omega)
  obtain⟨i,hi⟩:∃i,c=i+1:=⟨c-1,by omega⟩;subst hi;have a:i<24:=by omega
  obtain⟨H,I,o,q⟩:=FR i;have e:lP (i+1) W=max (m8 i*W+mK i) 1:=by unfold lP;rw[if_neg hb];rfl
  have u:=h.px i a;have C:=h.py i a;rw[e];generalize mK i=x at *;generalize m8 i=y at *;have⟨m,hm⟩:=zX (y*(W:Int));have t:0<=m:=by rw[hm];exact Int.mul_nonneg o (by omega)
  have ad:m<=256:=by rw[hm];exact Int.mul_le_mul (c:=4) (d:=64) q (by omega) (by omega) (by omega)
  rw[<-hm];have s:y*(W:Int)=m:=hm.symm;clear e hm hb;go_enter func254,ntmps254;go_wp2_with fail
  go_quiet (fail)
  go_wp2_with fail
  all_goals
   go_ret;exact⟨congrArg (λz=>Ending.returned (.int .i64 z)) (show _=max (m+x) 1 by omega),nq,rfl⟩
theorem MA(d W:Nat)(w:World)(h:jJ w)(E:1<=d)(H:d<=1024)(r:1<=W)(s:W<=64):Calls prog 203 #[d,W] w λe w'=>e=.returned (.int .i64 (mt d W))/\∃n,w'=w.drewN n:=by
 have J:=gL d 1 (by omega);have K:=gL 1024 d (by omega);have L:=gL W 1 (by omega);have M:=gL 64 W (by omega);have u:mt d W=mi d W 24 1:=rfl;have x:=λc (n:Nat) (a:1<=c) (b:c<=1048)=>MG c W (w.drewN n) (h.Y ((zR [] w).drewN n)) a b r s;have⟨HD,HN⟩:=gy u x;clear u x h;go_enter func203,ntmps203;go_wp2_with fail
 go_loopg [5] 24 (λj iv wr=>∃c n:Nat,iv=.int .i64 c/\c+j=25/\1<=c/\mt d W=mi d W j c/\wr=w.drewN n)
 .exact⟨1,0,rfl,rfl,zQ _,HD.o,rfl⟩
 obtain⟨c,n,rfl,I,y,o,rfl⟩:=hrel;rcases gk with _|j
 .have C:=kK c 24 (by omega)
  go_wp2;go_ret;rw[o];exact⟨congrArg (λz=>Ending.returned (.int .i64 z)) (show(d:Int)+24=((d+24:Nat):Int)by omega),n,rfl⟩
 .have C:=iI c 24 (by omega)
  have t:=HN.o c n y (by omega);have f:mi d W (j+1) c=if lP c W=d then c else mi d W j (c+1):=rfl;generalize lP c W=nr at *;by_cases hq:nr=(d:Int)
  .have D:(nr==(d:Int))=true:=by simpa using hq
   rw[if_pos hq]at f;have q:=gd f;clear hq f;go_wp2_with fail;refine t.mono ?_;rintro e w' ⟨rfl,k,rfl⟩;go_wp2_with fail;go_ret;rw[o,q.o];exact⟨rfl,n+k,by first|rfl|rw[World.drewN_drewN]⟩
  .have D:(nr==(d:Int))=false:=by simpa using hq
   rw[if_neg hq]at f;have⟨q,ad⟩:=gy f o;clear hq f o;go_wp2_with fail;refine t.mono ?_;rintro e w' ⟨rfl,k,rfl⟩;go_wp2_with fail
   go_roundg j
   .exact⟨c+1,n+k,by go_num,by omega,by omega,by rw[ad.o,q.o],by first|rfl|rw[World.drewN_drewN]⟩
   .omega
theorem yA(t:gK)(w:World):Calls prog 201 #[tJ t] w λe w'=>e=.returned (.bool t.isLit)/\gf [] w w':=by
 obtain⟨a,b,c⟩:=t;have e:gK.isLit ⟨a,b,c⟩=((a:Int)==0&&(b:Int)==0):=by
  unfold gK.isLit;rw[Bool.eq_iff_iff];simp
 rw[e];have f:gh (∀o,gf [] w (w.alloc o)):=gd λo=>(zR [] w).alloc o;show Calls _ _ #[.agg #[.int .i64 a,.int .i64 b,.int .i64 c]] _ _;by_cases ha:(a:Int)=0
 .have h:((a:Int)==0)=true:=by simpa using ha
  go_enter func201,ntmps201;go_wp2_with fail;go_ret;refine⟨?_,f.o _⟩;rw[ha];rfl
 .have h:((a:Int)==0)=false:=by simpa using ha
  go_enter func201,ntmps201;go_wp2_with fail;go_ret;refine⟨?_,f.o _⟩;rw[h];rfl
theorem Ky(t:gK)(w:World)(h:t.isCopy=true):Calls prog 274 #[tJ t] w λe w'=>e=.returned (.bool true)/\gf [] w w':=by
 rw[gK.isCopy_iff]at h;obtain⟨a,b,c⟩:=t;obtain⟨q,r,s,u,f⟩:=h;simp only at q r s u f;subst f;have x:=iI 3 a (by omega);have y:=iI a 64 (by omega);have z:=iI 1 b (by omega);have C:=iI b 1024 (by omega);have j:gh (∀o,gf [] w (w.alloc o)):=gd λo=>(zR [] w).alloc o;show Calls _ _ #[.agg #[.int .i64 a,.int .i64 b,.int .i64 0]] _ _;go_enter func274,ntmps274;go_wp2_with fail;go_ret;exact⟨rfl,j.o _⟩
def lD(w:World)(A:Option Addr)(l:List gK):Prop:=gu (λu=>u) w A (l.flatMap kB)
theorem lD.at_{l:List gK}(h:lD w A l){t:gK}(f:l[m]?=some t):∃g o,A=some ⟨g,o,none⟩/\w.cell? ⟨g,o+m*3,none⟩=some (.int .i64 t.len)/\w.cell? ⟨g,o+m*3+1,none⟩=some (.int .i64 t.dist)/\w.cell? ⟨g,o+m*3+2,none⟩=some (.int .i64 t.lit):=by
 obtain⟨a,b,c⟩:=Bc f;have j:=(List.getElem?_eq_some_iff.1 a).1;obtain⟨g,o,rfl,_,e⟩:=h.ex (by omega);exact⟨g,o,rfl,e _ _ a,e _ _ b,e _ _ c⟩
theorem lD.Z{l:List gK}(h:lD w A l)(c:gf F w w')(a:∀ad,A=some ad->ad.block∉F):lD w' A l:=gu.Z h c a
theorem lD.Y{l:List gK}(h:lD w A l)(a:gf [] w w'):lD w' A l:=gu.Y h a
theorem OA(l:List gK)(A:Option Addr)(cap:Nat)(w:World)(N:l.length<=1099511627776)(a:∀t∈l,t.ok)(M:lD w A l):Calls prog 200 #[.slice A l.length cap] w λe w'=>e=.returned (.bool true)/\gf [] w w':=by
 have⟨n,hn⟩:=zX l.length;rw[<-hn]at N⊢;have⟨HN,HK⟩:=gy hn a;clear hn a;go_enter func200,ntmps200;go_wp2_with fail
 go_loopg [7] n (λj iv wr=>∃i:Nat,iv=.int .i64 i/\i+j=n/\gf [] w wr)
 .exact⟨0,rfl,by omega,zR _ _⟩
 obtain⟨i,rfl,O,f⟩:=hrel;rcases gk with _|j
 .obtain rfl:i=n:=by omega
  go_wp2;go_ret;exact⟨rfl,f⟩
 .have H:i<n:=by omega
  have q:i<l.length:=by rw[<-HN.o];exact H
  have c:=HK.o l[i] (zG q);have⟨t,ht⟩:=zX (l[i]);have r:l[i]?=some t:=by rw[ht];exact zF q
  rw[<-ht]at c;obtain⟨g,o,rfl,c1,c2,c3⟩:=(M.Y f).at_ r;have s:=λw=>yA t w;have y:=λw h=>Ky t w h;have z:tJ t=.agg #[t.len,t.dist,t.lit]:=rfl;unfold gK.ok at c;rw[z]at s y;generalize t.len=ta at *;generalize t.dist=tb at *;generalize t.lit=tc at *;clear r ht q z;have L:=gn.new wr 157 #[ta,tb,tc];have D:=(zR [] wr).alloc (.cells #[ta,tb,tc] 157);go_wp2_with fail;refine(s _).mono ?_;rintro e P ⟨rfl,u⟩;have ad:=L.Z u (by simp);have I:=ad.X 0;have J:=ad.X 1;have K:=ad.X 2;simp only[size_toArray,zK,length_nil,getElem?_toArray,getElem?_cons_zero,getElem?_cons_succ]at I J K;have x:=f.tq (D.tq u)
  cases hlt:t.isLit with
  | true=>
   go_wp2_with fail
   go_roundg j
   .exact⟨i+1,by go_num,by omega,x⟩
   .omega
  | false=>
   rw[hlt]at c;have C:t.isCopy=true:=(by rcases c with h|h;cases h;exact h);go_wp2_with fail;refine(y _ C).mono ?_;rintro e Q ⟨rfl,E⟩;go_wp2_with fail
   go_roundg j
   .exact⟨i+1,by go_num,by omega,x.tq E⟩
   .omega
theorem jl(a:1<=d)(c:d<=16):(2:Int)<=2^d/\(2:Int)^d<=65536:=by
 have e:(2:Int)^1<=2^d:=by
  have:=Nat.pow_le_pow_right (n:=2) (by decide) a
  exact_mod_cast this
 have f:(2:Int)^d<=2^16:=by
  have:=Nat.pow_le_pow_right (n:=2) (by decide) c
  exact_mod_cast this
 omega
theorem vd(v:Int)(d:Nat)(w:World)(f:1<=d)(h:d<=16):Calls prog 69 #[v,d] w λe w'=>e=.returned (.int .i64 (iw v d))/\w=w':=by
 have q:=gL d 1 (by omega);have r:=gL 16 d (by omega);obtain⟨j,o⟩:=jl f h;have a:=CI v (i:=d) (by omega);have c:=gd a;clear a;go_enter func69,ntmps69;go_wp2;go_ret;refine⟨?_,rfl⟩
 first|exact congrArg (λz=>Ending.returned (.int .i64 z)) c.o
theorem qx(v:Int)(d:Nat)(w:World)(f:1<=d)(j:d<=16):Calls prog 92 #[v,d] w λe w'=>e=.returned (.int .i64 (ii v d))/\w=w':=by
 have C:=gL d 1 (by omega);have D:=gL 16 d (by omega);obtain⟨ad,t⟩:=jl f j;have r:=pE f;have x:=jZ (d-1);have h:=vd v d w f j;have o:=tg v d;have q:=rt v d;have c:ii v d=if 2^(d-1)<=iw v d then iw v d-2^d else iw v d:=rfl;have⟨u,hu⟩:=zX (iw v d);rw[<-hu]at h o q c;have a:=gd c;have z:(2:Int)^((d:Int)-1).toNat=2^(d-1):=by congr 1;omega
 have y:(2:Int)^(d-1)<=32768:=by omega
 clear c hu r;by_cases hs:2^(d-1)<=u
 .have s:decide ((2:Int)^(d-1)<=u)=true:=by simpa using hs
  rw[if_pos hs]at a;go_enter func92,ntmps92
  go_wp2_with(go_at_call 69;refine gx h ?_)
  go_ret;rw[a.o];exact⟨rfl,rfl⟩
 .have s:decide ((2:Int)^(d-1)<=u)=false:=by simpa using hs
  rw[if_neg hs]at a;go_enter func92,ntmps92
  go_wp2_with(go_at_call 69;refine gx h ?_)
  go_ret;rw[a.o];exact⟨rfl,rfl⟩
def jB(x:Int):Prop:=-1152921504606846976<=x/\x<=1152921504606846976
theorem tl(a b:Int)(w:World)(j:jB a)(o:jB b):Calls prog 308 #[a,b] w λe w'=>e=.returned (.int .i64 (iA a b))/\w=w':=by
 obtain⟨r,s⟩:=j;obtain⟨t,u⟩:=o;by_cases h:a<b
 .have q:decide (a<b)=true:=zB h
  have c:iA a b=b-a:=by unfold iA;rw[if_pos h]
  have f:=gd c;clear c;go_enter func308,ntmps308;go_wp2;go_ret;rw[f.o];exact⟨rfl,rfl⟩
 .have q:decide (a<b)=false:=zA h
  have c:iA a b=a-b:=by unfold iA;rw[if_neg h]
  have f:=gd c;clear c;go_enter func308,ntmps308;go_wp2;go_ret;rw[f.o];exact⟨rfl,rfl⟩
theorem Ji(t a b c:Int)(B:Nat)(cap:Nat)(w:World)(f:jB t)(x:jB a)(y:jB b)(z:jB c)(C:w.cell? B=some (.int .i64 a))(D:w.cell? ⟨B,1,none⟩=some (.int .i64 b))(E:w.cell? ⟨B,2,none⟩=some (.int .i64 c)):Calls prog 293 #[t,.slice B 3 cap] w λe w'=>e=.returned (.int .i64 (pL t a b c))/\w=w':=by
 have⟨b1,ac⟩:=zX (if iA b t<iA a t then b else a);have s:pL t a b c=if iA c t<iA b1 t then c else b1:=by rw[ac];rfl
 have u:jB b1:=by rw[ac];split<;>assumption
 have h:=tl a t w x f;have o:=tl b t w y f;have q:=tl c t w z f;have ad:=tl b1 t w u f;have⟨HD,HB⟩:=gy s ac;have⟨da,af⟩:=zX (iA a t);have⟨db,ag⟩:=zX (iA b t);have⟨dc,ah⟩:=zX (iA c t);have⟨d1,ae⟩:=zX (iA b1 t);rw[<-af]at h HB;rw[<-ag]at o HB;rw[<-ah]at q HD;rw[<-ae]at ad HD;clear s ac af ag ah ae u f x y z;go_enter func293,ntmps293;go_wp2_with fail
 go_loopg [5,13] 3 (λj bv iv wr=>w=wr/\((j=3/\iv=.int .i64 0/\bv=.int .i64 a)\/(j=2/\iv=.int .i64 1/\bv=.int .i64 a)\/(j=1/\iv=.int .i64 2/\bv=.int .i64 b1)\/(j=0/\iv=.int .i64 3/\bv=.int .i64 (pL t a b c))))
 .exact⟨rfl,.inl ⟨rfl,rfl,rfl⟩⟩
 obtain⟨rfl,hrel⟩:=hrel;rcases hrel with⟨rfl,rfl,rfl⟩|⟨rfl,rfl,rfl⟩|⟨rfl,rfl,rfl⟩|⟨rfl,rfl,rfl⟩
 .go_wp2_with(go_at_call 308;refine gx h ?_)
  go_roundg 2
  .exact⟨rfl,.inr (.inl ⟨rfl,rfl,rfl⟩)⟩
  .omega
 .by_cases hlt:db<da
  .have r:decide (db<da)=true:=zB hlt
   rw[if_pos hlt]at HB
   go_wp2_with(first|(go_at_call 308;((with_reducible refine o.mono ?_);rintro e w' ⟨rfl,rfl⟩))|(go_at_call 308;((with_reducible refine h.mono ?_);rintro e w' ⟨rfl,rfl⟩)))
   go_roundg 1
   .exact⟨rfl,.inr (.inr (.inl ⟨rfl,rfl,by rw[HB.o]⟩))⟩
   .omega
  .have r:decide (db<da)=false:=zA hlt
   rw[if_neg hlt]at HB
   go_wp2_with(first|(go_at_call 308;((with_reducible refine o.mono ?_);rintro e w' ⟨rfl,rfl⟩))|(go_at_call 308;((with_reducible refine h.mono ?_);rintro e w' ⟨rfl,rfl⟩)))
   go_roundg 1
   .exact⟨rfl,.inr (.inr (.inl ⟨rfl,rfl,by rw[HB.o]⟩))⟩
   .omega
 .by_cases hlt:dc<d1
  .have r:decide (dc<d1)=true:=zB hlt
   rw[if_pos hlt]at HD
   go_wp2_with(first|(go_at_call 308;((with_reducible refine q.mono ?_);rintro e w' ⟨rfl,rfl⟩))|(go_at_call 308;((with_reducible refine ad.mono ?_);rintro e w' ⟨rfl,rfl⟩)))
   go_roundg 0
   .exact⟨rfl,.inr (.inr (.inr ⟨rfl,rfl,by rw[HD.o]⟩))⟩
   .omega
  .have r:decide (dc<d1)=false:=zA hlt
   rw[if_neg hlt]at HD
   go_wp2_with(first|(go_at_call 308;((with_reducible refine q.mono ?_);rintro e w' ⟨rfl,rfl⟩))|(go_at_call 308;((with_reducible refine ad.mono ?_);rintro e w' ⟨rfl,rfl⟩)))
   go_roundg 0
   .exact⟨rfl,.inr (.inr (.inr ⟨rfl,rfl,by rw[HD.o]⟩))⟩
   .omega
 .go_wp2
  go_ret;exact⟨rfl,rfl⟩
theorem Bx(l:List Int)(A:Option Addr)(cap W H d:Nat)(w:World)(E:1<=W)(h:W<=64)(D:1<=H)(f:H<=64)(y:1<=d)(z:d<=16)(a:l.length=W*H)(r:gU d l)(C:gu vi w A l):Calls prog 242 #[.slice A l.length cap,W,H,d] w λe w'=>e=.returned (.bool true)/\w=w':=by
 have R:=gL W 1 (by omega);have S:=gL 64 W (by omega);have T:=gL H 1 (by omega);have U:=gL 64 H (by omega);have V:=gL d 1 (by omega);have X:=gL 16 d (by omega);obtain⟨L,M⟩:=jl y z;have⟨m,hm⟩:=zX l.length;rw[<-hm]at a⊢;have J:(W:Int)*(H:Int)=(m:Int):=by rw[a];simp
 have K:m<=4096:=by rw[a];exact zL h f
 have⟨HN,HS⟩:=gy hm r;clear hm a r;go_enter func242,ntmps242;go_wp2_with fail
 go_loopg [41] m (λj i wr=>j<=m/\i=.int .i64 ((m-j:Nat):Int)/\w=wr)
 .exact⟨zQ _,by simp,rfl⟩
 obtain⟨Q,rfl,rfl⟩:=hrel;rcases gk with _|j
 .have Y:decide (((m-0:Nat):Int)<(m:Int))=false:=by simp
  go_wp2;go_ret;exact⟨rfl,rfl⟩
 .have⟨i,ac⟩:=zX (m-(j+1))
  rw[<-ac];have u:i<m:=by omega
  have ad:m-j=i+1:=by omega
  have t:=gd ad;clear ac ad;have q:i<l.length:=by rw[<-HN.o];exact u
  obtain⟨g,o,rfl,c⟩:=C.at_ q;have s:=HS.o l[i] (zG _);have⟨x,af⟩:=zX (l[i]);rw[<-af]at c s;have I:w.cell? ⟨g,o+i,none⟩=some (.int .i64 x):=c;obtain⟨N,O⟩:=s;have Z:decide (x<0)=false:=zA (by omega);have P:decide ((2:Int)^d<=x)=false:=zA (by omega);clear c af q;go_wp2
  go_roundg j
  .rw[t.o]
   exact⟨by omega,by go_num,rfl⟩
  .omega
theorem GQ(ks:List Nat)(A:Option Addr)(cap:Nat)(w:World)(a:∀k∈ks,k<10)(s:ks.length<=64)(r:gu i64 w A ks):Calls prog 243 #[.slice A ks.length cap,ks.length] w λe w'=>e=.returned (.bool true)/\w=w':=by
 have⟨m,hm⟩:=zX ks.length;rw[<-hm]at s⊢;have⟨HN,HS⟩:=gy hm a;clear hm a;go_enter func243,ntmps243;go_wp2_with fail
 go_loopg [13] m (λj i wr=>j<=m/\i=.int .i64 ((m-j:Nat):Int)/\w=wr)
 .exact⟨zQ _,by simp,rfl⟩
 obtain⟨z,rfl,rfl⟩:=hrel;rcases gk with _|j
 .have C:decide (((m-0:Nat):Int)<(m:Int))=false:=by simp
  go_wp2;go_ret;exact⟨rfl,rfl⟩
 .have⟨i,ac⟩:=zX (m-(j+1))
  rw[<-ac];have q:i<m:=by omega
  have ad:m-j=i+1:=by omega
  have h:=gd ad;clear ac ad;have f:i<ks.length:=by rw[<-HN.o];exact q
  obtain⟨g,o,rfl,c⟩:=r.at_ f;have t:=HS.o ks[i] (zG _);have⟨x,af⟩:=zX (ks[i]);rw[<-af]at c t;have u:w.cell? ⟨g,o+i,none⟩=some (.int .i64 x):=c;have D:=gL x 0 (by omega);have y:=kK 10 x (by omega);clear c af f;go_wp2
  go_roundg j
  .rw[h.o]
   exact⟨by omega,by go_num,rfl⟩
  .omega
theorem gu.vi_getD{o:Nat}(e:∀(i:Nat) (a:Int),l[i]?=some a->w.cell? ⟨b,o+i,none⟩=some (vi a))(c:m<l.length):w.cell? ⟨b,o+m,none⟩=some (.int .i64 (l.getD m 0)):=by
 have:=e m l[m] (zF c)
 rw[this,zD,zF c];rfl
theorem y7(l:List Int)(A:Option Addr)(cap W x y:Nat)(w:World)(Q:1<=W)(R:W<=64)(hx:x<W)(hy:y<64)(E:y*W+x<=l.length)(D:gu vi w A l)(t:l.length<=1099511627776):Calls prog 244 #[.slice A l.length cap,W,x,y] w λe w'=>e=.returned (.tuple #[.int .i64 (ij l W x y).w,.int .i64 (ij l W x y).n,.int .i64 (ij l W x y).nw,.int .i64 (ij l W x y).ne])/\∃n,w'=w.drewN n:=by
 have t1:=gL W 1 (by omega);have t2:=gL 64 W (by omega);have t3:=gL x 0 (by omega);have t4:decide (W<=x)=false:=zA (by omega);have t5:=gL y 0 (by omega);have t6:=kK 64 y (by omega);have⟨m,hm⟩:=zX l.length;have⟨yw,ao⟩:=zX (y*W);have⟨p,hp⟩:=zX (y*W+x);have X:(y:Int)*(W:Int)=(yw:Int):=by rw[ao];simp
 have Z:(yw:Int)+(x:Int)=(p:Int):=by rw[hp,ao];simp
 have z:=λ(h:0<l.length)=>D.ex h;have C:ij l W x y=if y=0 then(if x=0 then⟨0,0,0,0⟩else⟨l.getD (p-1) 0,l.getD (p-1) 0,l.getD (p-1) 0,l.getD (p-1) 0⟩)
   else⟨if 0<x then l.getD (p-1) 0 else l.getD (p-W) 0,l.getD (p-W) 0,if 0<x then l.getD (p-W-1) 0 else l.getD (p-W) 0,if x<W-1 then l.getD (p-W+1) 0 else l.getD (p-W) 0⟩:=by
  unfold ij;rw[<-hp]
 have r:y≠0->W<=y*W:=λh=>Ci h;rw[<-hp]at E;rw[<-ao]at r hp;rw[<-hm]at E t⊢;have aL:decide (m<p)=false:=zA (by omega);have⟨HD,HM,HC,az⟩:=gz C hm z r;have H:=gd hp;clear C hm z ao hp D r;by_cases hy0:y=0
 .have S:((y:Int)==0)=true:=by rw[beq_iff_eq];omega
  rw[if_pos hy0]at HD;by_cases hx0:x=0
  .have u:((x:Int)==0)=true:=by rw[beq_iff_eq];omega
   rw[if_pos hx0]at HD;clear hy0 hx0;go_enter func244,ntmps244;go_wp2;refine bodyPost_ret (v:=.tuple #[(0:Int),(0:Int),(0:Int),(0:Int)]) (by simp[results,results244,go_sem]) rfl ⟨by rw[HD.o],0,rfl⟩
  .have u:((x:Int)==0)=false:=by rw[beq_eq_false_iff_ne];omega
   rw[if_neg hx0]at HD;have Y:1<=p:=(by have:=H.o;omega);have⟨p1,ab⟩:=zX (p-1);have M:(p:Int)-1=(p1:Int):=(by omega);rw[<-ab]at HD;have c:p1<m:=(by omega);obtain⟨b,o,rfl,_,a⟩:=HC.o (by rw[<-HM.o];omega);have P:=gu.vi_getD a (m:=p1) (by rw[<-HM.o];exact c);have⟨v,ax⟩:=zX (l.getD p1 0);rw[<-ax]at P HD;clear hy0 hx0 a ax ab;go_enter func244,ntmps244;go_wp2;refine bodyPost_ret (v:=.tuple #[v,v,v,v]) (by simp[results,results244,go_sem]) rfl ⟨by rw[HD.o],0,rfl⟩
 .have S:((y:Int)==0)=false:=by rw[beq_eq_false_iff_ne];omega
  rw[if_neg hy0]at HD;have hW:=az.o hy0;have⟨q,hq⟩:=zX (p-W);have aK:(p:Int)-(W:Int)=(q:Int):=by omega
  rw[<-hq]at HD;have I:q<m:=by omega
  obtain⟨b,o,rfl,_,a⟩:=HC.o (by rw[<-HM.o];omega);have J:=gu.vi_getD a (m:=q) (by rw[<-HM.o];exact I);have⟨vn,ad⟩:=zX (l.getD q 0);rw[<-ad]at J HD;have⟨q2,an⟩:=zX (q+1);have V:(q:Int)+1=(q2:Int):=by omega
  rw[<-an]at HD;have⟨W1,al⟩:=zX (W-1);have T:(W:Int)-1=(W1:Int):=by omega
  rw[<-al]at HD;by_cases hx0:0<x
  .have u:=i6 0 x (by omega)
   have L:decide (0<x)=true:=zB hx0;rw[if_pos hx0,if_pos hx0]at HD;have⟨p1,ab⟩:=zX (p-1);have M:(p:Int)-1=(p1:Int):=(by omega);have⟨q1,ah⟩:=zX (q-1);have U:(q:Int)-1=(q1:Int):=(by omega);rw[<-ab,<-ah]at HD;have c:p1<m:=(by omega);have N:q1<m:=(by omega);have K:=gu.vi_getD a (m:=p1) (by rw[<-HM.o];exact c);have O:=gu.vi_getD a (m:=q1) (by rw[<-HM.o];exact N);have⟨vw,ak⟩:=zX (l.getD p1 0);have⟨ay,ae⟩:=zX (l.getD q1 0);rw[<-ak]at K HD;rw[<-ae]at O HD;by_cases hx1:x<W1
   .have s:decide (x<W1)=true:=zB hx1
    rw[if_pos hx1]at HD;have f:q2<m:=(by omega);have j:=gu.vi_getD a (m:=q2) (by rw[<-HM.o];exact f);have⟨aw,aa⟩:=zX (l.getD q2 0);rw[<-aa]at j HD;clear hy0 hx0 a aa ad ak ae ab ah hq an al;go_enter func244,ntmps244;go_wp2
    go_quiet (fail)
    go_wp2;refine bodyPost_ret (v:=.tuple #[vw,vn,ay,aw]) (by simp[results,results244,go_sem]) rfl ⟨by rw[HD.o],_,rfl⟩
   .have s:decide (x<W1)=false:=zA hx1
    rw[if_neg hx1]at HD;clear hy0 hx0 a ad ak ae ab ah hq an al;go_enter func244,ntmps244;go_wp2
    go_quiet (fail)
    go_wp2;refine bodyPost_ret (v:=.tuple #[vw,vn,ay,vn]) (by simp[results,results244,go_sem]) rfl ⟨by rw[HD.o],_,rfl⟩
  .have u:=gL 0 x (by omega)
   have L:decide (0<x)=false:=zA hx0;rw[if_neg hx0,if_neg hx0]at HD;by_cases hx1:x<W1
   .have s:decide (x<W1)=true:=zB hx1
    rw[if_pos hx1]at HD;have f:q2<m:=(by omega);have j:=gu.vi_getD a (m:=q2) (by rw[<-HM.o];exact f);have⟨aw,aa⟩:=zX (l.getD q2 0);rw[<-aa]at j HD;clear hy0 hx0 a aa ad hq an al;go_enter func244,ntmps244;go_wp2;refine bodyPost_ret (v:=.tuple #[vn,vn,vn,aw]) (by simp[results,results244,go_sem]) rfl ⟨by rw[HD.o],0,rfl⟩
   .have s:decide (x<W1)=false:=zA hx1
    rw[if_neg hx1]at HD;clear hy0 hx0 a ad hq an al;go_enter func244,ntmps244;go_wp2;refine bodyPost_ret (v:=.tuple #[vn,vn,vn,vn]) (by simp[results,results244,go_sem]) rfl ⟨by rw[HD.o],0,rfl⟩
theorem zv(f:Nat)(g:ll)(d:Nat)(w:World)(T:f<10)(x:1<=d)(y:d<=16)(C:oI d g):Calls prog 245 #[f,g.w,g.n,g.nw,g.ne,d] w λe w'=>e=.returned (.int .i64 (jL f g d))/\gf [] w w':=by
 have U:=gL f 0 (by omega);have V:=kK 10 f (by omega);have W:=gL d 1 (by omega);have X:=gL 16 d (by omega);obtain⟨R,S⟩:=jl x y;obtain⟨a,b,c,e⟩:=g;obtain⟨⟨h,o⟩,⟨r,s⟩,⟨c1,c2⟩,⟨t,u⟩⟩:=C;simp only at h o r s c1 c2 t u⊢;have J:decide (a<0)=false:=zA (by omega);have K:decide ((2:Int)^d<=a)=false:=zA (by omega);have L:decide (b<0)=false:=zA (by omega);have M:decide ((2:Int)^d<=b)=false:=zA (by omega);have N:decide (c<0)=false:=zA (by omega);have O:decide ((2:Int)^d<=c)=false:=zA (by omega);have P:decide (e<0)=false:=zA (by omega);have Q:decide ((2:Int)^d<=e)=false:=zA (by omega);have D:∀w,(Instr.index 49 (.agg #[a,b,c,.int .i64 e]) (.int .i64 0)).run prog w=.ok (.int .i64 a) w:=λ_=>by kernel_rfl
 have E:∀w,(Instr.index 49 (.agg #[a,b,c,.int .i64 e]) (.int .i64 1)).run prog w=.ok (.int .i64 b) w:=λ_=>by kernel_rfl
 have H:∀w,(Instr.index 49 (.agg #[a,b,c,.int .i64 e]) (.int .i64 2)).run prog w=.ok (.int .i64 c) w:=λ_=>by kernel_rfl
 have I:∀w,(Instr.index 49 (.agg #[a,b,c,.int .i64 e]) (.int .i64 3)).run prog w=.ok (.int .i64 e) w:=λ_=>by kernel_rfl
 go_enter func245,ntmps245;go_wp2_with fail
 go_loopg [35] 4 (λj iv wr=>w=wr/\((j=4/\iv=.int .i64 0)\/(j=3/\iv=.int .i64 1)\/(j=2/\iv=.int .i64 2)\/(j=1/\iv=.int .i64 3)\/(j=0/\iv=.int .i64 4)))
 .exact⟨rfl,.inl ⟨rfl,rfl⟩⟩
 obtain⟨rfl,hrel⟩:=hrel;rcases hrel with⟨rfl,rfl⟩|⟨rfl,rfl⟩|⟨rfl,rfl⟩|⟨rfl,rfl⟩|⟨rfl,rfl⟩
 .go_wp2
  go_roundg 3
  .exact⟨rfl,.inr (.inl ⟨rfl,rfl⟩)⟩
  .omega
 .go_wp2
  go_roundg 2
  .exact⟨rfl,.inr (.inr (.inl ⟨rfl,rfl⟩))⟩
  .omega
 .go_wp2
  go_roundg 1
  .exact⟨rfl,.inr (.inr (.inr (.inl ⟨rfl,rfl⟩)))⟩
  .omega
 .go_wp2
  go_roundg 0
  .exact⟨rfl,.inr (.inr (.inr (.inr ⟨rfl,rfl⟩)))⟩
  .omega
 .clear D E H I J K L M N O P Q
  obtain rfl|rfl|rfl|rfl|rfl|rfl|rfl|rfl|rfl|rfl:f=0\/f=1\/f=2\/f=3\/f=4\/f=5\/f=6\/f=7\/f=8\/f=9:=by omega
  .go_wp2
   go_ret;exact⟨rfl,zR _ _⟩
  .go_wp2
   go_ret;exact⟨rfl,zR _ _⟩
  .go_wp2
   go_ret;exact⟨rfl,zR _ _⟩
  .go_wp2
   go_ret;exact⟨rfl,zR _ _⟩
  .go_wp2
   go_ret;exact⟨rfl,zR _ _⟩
  .go_wp2
   go_ret;exact⟨rfl,zR _ _⟩
  .have q:=Ji (a+b-c) a b c w.heap.size 3 (w.alloc (.cells #[a,b,c] 3)) (by unfold jB;omega) (by unfold jB;omega) (by unfold jB;omega) (by unfold jB;omega) (by simp[go_sem]) (by simp[go_sem]) (by simp[go_sem])
   go_wp2_with(go_at_call 293;refine gx q ?_)
   go_ret;exact⟨rfl,(zR _ _).alloc _⟩
  .go_wp2
   all_goals
    go_ret;exact⟨congrArg (λz=>Ending.returned (.int .i64 z)) (show _=max (min a b) (min (max a b) (a+b-c))by omega),zR _ _⟩
  .go_wp2
   all_goals
    go_ret;exact⟨congrArg (λz=>Ending.returned (.int .i64 z)) (show _=min (max (a+b-c) 0) (2^d-1)by omega),zR _ _⟩
  .go_wp2
   go_ret;exact⟨rfl,zR _ _⟩
theorem gv.zeros(w:World)(n:Nat)(h:n<=1048576):gv (w.alloc (.cells (replicate n (Value.int .i64 0)).toArray 3)) 3 (.slice (some ⟨w.heap.size,0,none⟩) n n) w.heap.size ((jI [] n).map vi):=by
 have:=gv.made w 3 (replicate n (Value.int .i64 0)) (by simp[maxLen];omega)
 rw[xZ,map_replicate]
 simpa[vi]using this
theorem gv.fill{v:Value}(h:gv w 3 v g ((jI done n).map vi))(c:done.length<n)(x:Int):gv (w.setCell ⟨g,done.length,none⟩ (.int .i64 x)) 3 v g ((jI (done++[x]) n).map vi):=by
 have a:=h.T (i:=done.length) (by rw[zE,xY (by omega)];exact c) (vi x);rw[<-map_set,CT c]at a;exact a
theorem gv.fill_cell{v:Value}(h:gv w 3 v g ((jI done n).map vi))(q:done.length<n):w.cell? ⟨g,done.length,none⟩=some (.int .i64 0)/\w.frozen? ⟨g,done.length,none⟩=false:=by
 obtain⟨e,f,j,o,a,c⟩:=h.oq;refine⟨a done.length 0 ?_,c _⟩;unfold jI;rw[zS (zQ _),Nat.sub_self,getElem?_replicate];rw[if_pos (by omega)]
theorem FO(l:List Int)(A:Option Addr)(cap W H y d kind:Nat)(w:World)(T:1<=W)(f:W<=64)(u:H<=64)(hy:y<H)(Q:1<=d)(R:d<=16)(hk:kind<10)(z:l.length=W*H)(S:gU d l)(E:gu vi w A l):Calls prog 268 #[.slice A l.length cap,W,y,d,kind] w λe w'=>∃v G,e=.returned v/\gE w' 3 v G ((jY l W y d kind).map vi)/\gf [] w w'/\∀x∈G,w.heap.size<=x:=by
 have aZ:=lp (P:=prog) iJ rfl .i64 .i64 W (by omega) (by omega);have J:=λx (hx:x<W) w E=>y7 l A cap W x y w T f hx (by omega) (by
  rw[z]
  have:(y+1)*W<=H*W:=mul_le_mul_right W hy
  rw[Nat.add_mul,Nat.one_mul]at this;rw[zY W H];omega) E (by rw[z];exact Nat.le_trans (zL f u) (by decide))
 have am:=λx w=>zv kind (ij l W x y) d w hk Q R (pf S W x y);have t:∀x,x<W->y*W+x<l.length:=λx hx=>by
  rw[z]
  have:(y+1)*W<=H*W:=mul_le_mul_right W hy
  rw[Nat.add_mul,Nat.one_mul]at this;rw[zY W H];omega
 have aR:l.length<=4096:=by rw[z];exact zL f u
 have⟨m,hm⟩:=zX l.length;rw[<-hm]at J t aR⊢;have⟨yw,aq⟩:=zX (y*W);have aV:(y:Int)*(W:Int)=(yw:Int):=by rw[aq];simp
 rw[<-aq]at t;have⟨HN,HO,aI,HS⟩:=gz J am t S;have⟨HM,aL⟩:=gy hm aq;clear J am t S hm z aq;go_enter func268,ntmps268;go_wp2_with fail;have K:=gv.zeros w W (by omega);have⟨B,hB⟩:=zX w.heap.size;rw[<-hB]at K⊢;have I:=gd hB;have az:gf [] w (w.alloc (.cells (replicate W (Value.int .i64 0)).toArray 3)):=(zR [] w).alloc _;clear hB
 go_loopg [22] W (λj iv wr=>∃done:List Int,iv=.int .i64 done.length/\done.length+j=W/\gh (done=(range done.length).map (ph l W d kind y))/\gv wr 3 (.slice B W W) B ((jI done W).map vi)/\gf [] w wr)
 .exact⟨[],rfl,by simp,gd (by simp),K,az⟩
 obtain⟨done,rfl,s,U,h,L⟩:=hrel;clear K az;have⟨m1,aj⟩:=zX done.length;rcases gk with _|j
 .rw[<-aj]at s⊢
  obtain rfl:m1=W:=by omega
  have a:=gd aj;clear aj s;go_wp2;go_ret;refine⟨_,[B],rfl,?_,L,λx hx=>by have:=I.o;simp at hx;omega⟩;have e:jI done m1=jY l m1 y d kind:=by
   rw[sq a.o.symm,U.o,<-a.o];rfl
  rw[<-e];exact h.S
 .obtain⟨V,Y⟩:=h.fill_cell (by omega)
  have ag:=λx=>h.fill (by omega) x;have ai:∀x,x=ph l W d kind y m1->done++[x]=(range (m1+1)).map (ph l W d kind y):=λx hx=>by
   rw[hx,range_succ,zM,aj,<-U.o];rfl
  rw[<-aj]at s V Y ag⊢;have Z:m1<W:=by omega
  have t:=aI.o m1 Z;have C:=E.Y L;obtain⟨b,o,rfl,aY,aN⟩:=C.ex (by rw[<-HM.o];omega);have aX:b≠B:=by
   intro e;subst e;obtain⟨b',o',c,aW,_⟩:=E.ex (by rw[<-HM.o];omega);injection c with c;injection c with c _ _
   have:=I.o
   omega
  have⟨q,hq⟩:=zX (yw+m1);have a0:(yw:Int)+(m1:Int)=(q:Int):=by omega
  have N:=HN.o m1 Z wr C;have D:=HO.o m1;have r:ph l W d kind y m1=iw (l.getD q 0-jL kind (ij l W m1 y) d) d:=by unfold ph;rw[hq,aL.o]
  have M:=sJ (pf HS.o W m1 y) kind;have O:=nS HS.o q;have aU:q<m:=by omega
  obtain⟨aS,aT⟩:=jl Q R;have⟨g,hg⟩:=zX (ij l W m1 y);rw[<-hg]at N D r M;have⟨gs,aD⟩:=zX (jL kind g d);rw[<-aD]at D r M;have⟨v,hv⟩:=zX (l.getD q 0);rw[<-hv]at r O;have⟨aJ,ay,an,a⟩:=gz ai r s aj;have X:∀w',gf [] wr w'->w'.cell? ⟨b,o+q,none⟩=some (.int .i64 v):=λw' h'=>by
   obtain⟨b',o',c,_,ar⟩:=(C.Y h').ex (by rw[<-HM.o];omega);injection c with c;injection c with e1 e2 _;subst e1;subst e2;rw[gu.vi_getD ar (by rw[<-HM.o];exact aU),<-hv]
  have aH:=gd X;have a1 : -65536<=v-gs:=by omega
  have a2:v-gs<=65536:=by omega
  have aK:=gd O;clear ai r ag X hv aD hg aN hq s aj M C aS aT;go_wp2_with fail;refine N.mono ?_;rintro e w1 ⟨rfl,nq,rfl⟩;go_wp2_with fail;refine(D (wr.drewN nq)).mono ?_;rintro e w2 ⟨rfl,aM⟩;have ad:gf [] wr w2:=((zR [] wr).drewN nq).tq aM;have aP:=aH.o w2 ad;have aO:w2.cell? ⟨B,m1,none⟩=some (.int .i64 0):=by
   have:=(h.Z ad (by simp)).fill_cell (by have:=an.o;have:=a.o;omega)
   rw[a.o];exact this.1
  have aQ:w2.frozen? ⟨B,m1,none⟩=false:=by
   have:=(h.Z ad (by simp)).fill_cell (by have:=an.o;have:=a.o;omega)
   rw[a.o];exact this.2
  have aG:=vd (v-gs) d w2 Q R;have⟨rv,aF⟩:=zX (iw (v-gs) d);rw[<-aF]at aG ay;clear V Y aF N D;have O:=aK.o;go_wp2_with fail;refine aG.mono ?_;rintro e w3 ⟨rfl,rfl⟩;go_wp2_with fail
  go_roundg j
  .have ah:=(h.Z ad (by simp)).fill (by have:=an.o;have:=a.o;omega) rv
   refine⟨done++[rv],?_,?_,gd ?_,?_,?_⟩
   .rw[zC,length_singleton,<-a.o];go_num
   .rw[zC,length_singleton,<-a.o];have:=an.o;omega
   .rw[zC,length_singleton,<-a.o]
    exact aJ.o rv ay.o.symm
   .rw[<-a.o]at ah
    exact ah
   .exact(L.tq ad).setCell (.inr (by have:=I.o;simp;omega)) _
  .omega
theorem LQ(l:List Int)(A:Option Addr)(cap d:Nat)(w:World)(q:1<=d)(z:d<=16)(O:l.length<=65536)(N:gu vi w A l):Calls prog 267 #[.slice A l.length cap,d] w λe w'=>e=.returned (.int .i64 (ji l d))/\w=w':=by
 have⟨n,hn⟩:=zX l.length;rw[<-hn]at O⊢;have C:=gd hn;clear hn;go_enter func267,ntmps267;go_wp2_with fail
 go_loopg [5,10] n (λj s i wr=>j<=n/\i=.int .i64 ((n-j:Nat):Int)/\s=.int .i64 (ji (l.take (n-j)) d)/\w=wr)
 .exact⟨zQ _,by simp,by simp[ji],rfl⟩
 obtain⟨T,rfl,rfl,rfl⟩:=hrel;rcases gk with _|j
 .have U:decide (((n-0:Nat):Int)<(n:Int))=false:=by simp
  have e:l.take n=l:=by rw[C.o,zN]
  rw[Nat.sub_zero,e];go_wp2;go_ret;exact⟨rfl,rfl⟩
 .have⟨m,al⟩:=zX (n-(j+1))
  rw[<-al];have M:m<n:=by omega
  have H:n-j=m+1:=by omega
  have J:=gd H;clear al H;have y:m<l.length:=by rw[<-C.o];exact M
  obtain⟨b,o,rfl,r⟩:=N.at_ y;have c:=Bf (l.take m) l[m] d;rw[<-jd l y]at c;have h:=CF q z (l.take m);rw[zI]at h;have⟨x,hx⟩:=zX (l[m]);rw[<-hx]at r c;have ad:w.cell? ⟨b,o+m,none⟩=some (.int .i64 x):=r;have⟨s,hs⟩:=zX (ji (l.take m) d);rw[<-hs]at c h⊢;have S:0<=s:=h.1;have P:s<=2147483648:=by omega
  have D:=qx x d w q z;have E:=ny x q;have I:=xr q z x;have t:nD d x=iA (ii x d) 0:=rfl;have⟨f,hf⟩:=zX (ii x d);rw[<-hf]at D t E;have L:(2:Int)^(d-1)<=2^15:=by
   have:=Nat.pow_le_pow_right (n:=2) (by decide) (show d-1<=15 by omega)
   exact_mod_cast this
  have u:=tl f 0 w (by unfold jB;omega) (by unfold jB;omega);rw[<-t]at u;have⟨a,ai⟩:=zX (nD d x);rw[<-ai]at u I c;obtain⟨Q,R⟩:=I;have K:=gd c;clear c r hx hs h y E t hf ai L
  go_wp2_with(first|(go_at_call 92;refine gx D ?_)|(go_at_call 308;refine gx u ?_))
  go_roundg j
  .rw[J.o,K.o]
   exact⟨by omega,by go_num,rfl,rfl⟩
  .omega
def qz(l:List Int)(W d y:Nat):Int:=((mo l W y d 9:Nat):Int)
theorem AG(l:List Int)(W H d:Nat):((range H).map (qz l W d)).map vi=(lm l W H d).map i64:=by
 unfold lm;rw[map_map,map_map];rfl
theorem I0(done:List Int)(n:Nat):(jI done n).set done.length 0=jI done n:=by
 unfold jI;rw[set_append_right _ _ (zQ _),Nat.sub_self]
 congr 1
 rcases eq_zero_or_pos (n-done.length)with h|h
 .rw[h];rfl
 .obtain⟨k,a⟩:∃k,n-done.length=k+1:=⟨n-done.length-1,by omega⟩
  rw[a];rfl
theorem Mn(l:List Int)(A:Option Addr)(cap W H d:Nat)(w:World)(I:1<=W)(J:W<=64)(hh0:1<=H)(E:H<=64)(Z:1<=d)(f:d<=16)(hl:l.length=W*H)(o:gU d l)(h:gu vi w A l):Calls prog 194 #[.slice A l.length cap,W,H,d] w λe w'=>∃v G,e=.returned v/\gE w' 3 v G ((lm l W H d).map i64)/\gf [] w w'/\∀x∈G,w.heap.size<=x:=by
 have bd:=lp (P:=prog) iJ rfl .i64 .i64 H (by omega) (by omega);have R:=Bx l A cap W H d w I J hh0 E Z f hl o h;have V:=λy (hy:y<H) k (hk:k<10) w h=>FO l A cap W H y d k w I J E hy Z f hk hl o h;have aY:=λy k A cap w h=>LQ (jY l W y d k) A cap d w Z f (by rw[rq];omega) h;have⟨m,hm⟩:=zX l.length;rw[<-hm]at V R⊢;have⟨HR,aP⟩:=gy V aY;clear V aY hm hl o;go_enter func194,ntmps194
 go_wp2_with(go_at_call 242;refine gx R ?_)
 have T:=gv.zeros w H (by omega);have⟨B,hB⟩:=zX w.heap.size;rw[<-hB]at T⊢;have HB:=gd hB;have aQ:gf [] w (w.alloc (.cells (replicate H (Value.int .i64 0)).toArray 3)):=(zR [] w).alloc _;clear hB R
 go_loopg [24] H (λj iv wr=>∃done:List Int,iv=.int .i64 done.length/\done.length+j=H/\gh (done=(range done.length).map (qz l W d))/\gv wr 3 (.slice B H H) B ((jI done H).map vi)/\gf [] w wr)
 .exact⟨[],rfl,by simp,gd (by simp),T,aQ⟩
 obtain⟨done,rfl,D,Hd,M,Q⟩:=hrel;clear T aQ;have⟨m1,aj⟩:=zX done.length;rcases gk with _|j
 .rw[<-aj]at D⊢
  obtain rfl:m1=H:=by omega
  have r:=gd aj;clear aj D;go_wp2;go_ret;refine⟨_,[B],rfl,?_,Q,λx hx=>by have:=HB.o;simp at hx;omega⟩;have e:jI done m1=(range m1).map (qz l W d):=by
   rw[sq r.o.symm,Hd.o,<-r.o]
  rw[<-AG,<-e];exact M.S
 .have ah:done++[qz l W d m1]=(range (m1+1)).map (qz l W d):=by
   rw[range_succ,zM,aj,<-Hd.o];rfl
  have ad:=I0 done H;have X:=CT (done:=done) (n:=H) (by omega) (qz l W d m1);have z:=xY (done:=done) (n:=H) (by omega);rw[<-aj]at D ad X⊢;have K:m1<H:=by omega
  have⟨a4,aI,aL,r⟩:=gz ah X z aj;have a0:=gd D;have aT:=h.Y Q;have aX:=HR.o m1 K 0 (by omega) wr aT;rw[<-ad]at M;clear ah X ad z aj D aT;go_wp2_with fail;refine aX.mono ?_;rintro e w1 ⟨v1,G1,rfl,S,aR,bb⟩;have Y:=aP.o m1 0;have a9:=xP l W m1 d;have⟨r0,ak⟩:=zX (jY l W m1 d 0);rw[<-ak]at S Y;obtain⟨A1,c1,rfl,-,-,ax⟩:=S.oq;have aC:=Y A1 c1 w1 ax;have a1:=gd ak;clear aX Y ak;go_wp2_with fail;refine aC.mono ?_;rintro e be ⟨rfl,rfl⟩;have au:gf [] w w1:=Q.tq aR;have aB:=M.Z aR (by simp);clear S ax aC a9 M;go_wp2_with fail
  go_loopg [11,12] 9 (λq lv kv wx=>q<=9/\kv=.int .i64 ((10-q:Nat):Int)/\lv=.int .i64 (ji (jY l W m1 d (mo l W m1 d (9-q))) d)/\gv wx 3 (.slice B H H) B (((jI done H).set m1 ((mo l W m1 d (9-q):Nat):Int)).map vi)/\gf [] w wx)
  .exact⟨zQ _,rfl,by rw[a1.o];rfl,aB,au⟩
  obtain⟨hq,rfl,rfl,a,O⟩:=hrel;clear aB au;rcases gk with _|q
  .have t2:decide (((10-0:Nat):Int)<(10:Int))=false:=by simp
   rw[Nat.sub_zero]at a;go_wp2
   go_roundg j
   .refine⟨done++[qz l W d m1],?_,?_,gd ?_,?_,O⟩
    .rw[zC,length_singleton,<-r.o];go_num
    .rw[zC,length_singleton,<-r.o];have:=a0.o;omega
    .rw[zC,length_singleton,<-r.o]
     exact a4.o
    .rw[<-aI.o]
     exact a
   .omega
  .have⟨k,hk⟩:=zX (9-(q+1))
   rw[<-hk]at a⊢;have aU:10-(q+1)=k+1:=(by omega);have aV:9-q=k+1:=(by omega);have aW:10-q=k+2:=(by omega);have a8:k+1<10:=(by omega);rw[aU];have⟨aM,aN⟩:=gy aV aW;have u:mo l W m1 d (k+1)=if ji (jY l W m1 d (k+1)) d<ji (jY l W m1 d (mo l W m1 d k)) d then k+1 else mo l W m1 d k:=rfl;have L:=HR.o m1 K (k+1) a8 wr (h.Y O);have N:=aP.o m1 (k+1);have aw:((k+1:Nat):Int)=(k:Int)+1:=(by omega);rw[aw]at L⊢;have⟨r1,al⟩:=zX (jY l W m1 d (k+1));rw[<-al]at L N u;have⟨b,hb⟩:=zX (mo l W m1 d k);rw[<-hb]at u a⊢;have⟨t,ht⟩:=zX (ji (jY l W m1 d b) d);rw[<-ht]at u⊢;have⟨s,o⟩:=zX (ji r1 d);rw[<-o]at N u;have⟨aO,HT,a3,a2⟩:=gz u ht o al;obtain⟨_,am,_⟩:=a.open_;have z:=aL.o;have aS:∀w',gf [] wr w'->w'.cell? ⟨B,m1,none⟩=some (.int .i64 b)/\w'.frozen? ⟨B,m1,none⟩=false:=λw' h'=>by
    obtain⟨a5,h2,h3,h4,h5,h6⟩:=(a.Z h' (by simp)).oq;refine⟨h5 m1 (b:Int) ?_,h6 m1⟩;rw[getElem?_set_self (by rw[z];exact K)]
   have aZ:=gd aS;clear u hb ht o al hk aU aV aW z aS am;go_wp2_with fail;refine L.mono ?_;rintro e w2 ⟨v2,G2,rfl,af,C,bc⟩;obtain⟨A2,c2,rfl,-,-,ay⟩:=af.oq;have aD:=N A2 c2 w2 ay;obtain⟨a6,a7⟩:=aZ.o w2 C;clear L N af ay;by_cases hlt:s<t
   .have t3:decide (s<t)=true:=zB hlt
    have c:=aO.o;rw[if_pos hlt]at c;have U:=gd c;clear c hlt;go_wp2_with fail;refine aD.mono ?_;rintro e ba ⟨rfl,rfl⟩;go_wp2_with fail
    go_roundg q
    .rw[aM.o,aN.o,U.o,<-a2.o,<-a3.o]
     have f:=(a.Z C (by simp)).T (i:=m1) (by rw[zE,length_set,aL.o];exact K) (vi ((k+1:Nat):Int));rw[<-map_set,set_set]at f;refine⟨by omega,by go_num,rfl,?_,(O.tq C).setCell (.inr (by have:=HB.o;simp;omega)) _⟩;have e7:vi ((k+1:Nat):Int)=.int .i64 ((k:Int)+1):=(by unfold vi;go_num);rw[e7]at f;exact f
    .omega
   .have t3:decide (s<t)=false:=zA hlt
    have c:=aO.o;rw[if_neg hlt]at c;have U:=gd c;clear c hlt;go_wp2_with fail;refine aD.mono ?_;rintro e ba ⟨rfl,rfl⟩;go_wp2_with fail
    go_roundg q
    .rw[aM.o,aN.o,U.o,<-HT.o]
     exact⟨by omega,by go_num,rfl,a.Z C (by simp),O.tq C⟩
    .omega
theorem gv.room(w:World)(n:Nat)(h:n<=1048576):gv (w.alloc (.cells (replicate n (Value.int .i64 0)).toArray 3)) 3 (.slice (some ⟨w.heap.size,0,none⟩) 0 n) w.heap.size []:=
 ⟨n,_,rfl,gn.new w _ _,zero_le _,by simp[maxLen];omega,by simp,by simp⟩
theorem Ay{P:Program}{t e:TypeId}{z:Value}{a:Nat}(E:jA P t e z 1 a)(c:z.cells=#[z])(j f:IntKind)(n:Nat)(y:a*n<=281474976710656)(s:n<=9223372036854775807)(w:World):(Instr.makeSlice t (.int j 0) (.int f (n:Int))).run P w=.ok (.slice (some ⟨w.heap.size,0,none⟩) 0 n) (w.alloc (.cells (replicate n z).toArray e)):=by
 obtain⟨i,hi,x,o,r⟩:=E.hi;subst r;have q:(i.bytes:Int)*(n:Int)<=281474976710656:=by
  have h:((i.bytes*n:Nat):Int)<=281474976710656:=by omega
  rwa [Int.natCast_mul]at h
 have u:=run_make (P:=P) w t e i z E.ht hi x j f 0 n (by omega) (by omega) q (by omega);rw[u,o,c];simp only[Int.toNat_natCast,Nat.mul_one]
 have:madeCells #[z] n=(replicate n z).toArray:=by
  apply Array.toList_inj.1;rw[toList_madeCells_one]
 rw[this];rfl
theorem Mo(l:List Int)(A:Option Addr)(cap W H d:Nat)(ks:List Nat)(N:Option Addr)(h:Nat)(w:World)(D:1<=W)(f:W<=64)(hh0:1<=H)(q:H<=64)(h0:1<=d)(h1:d<=16)(C:l.length=W*H)(hs:gU d l)(L:gu vi w A l)(c:ks.length=H)(s:∀k∈ks,k<10)(z:gu i64 w N ks):Calls prog 195 #[.slice A l.length cap,W,H,d,.slice N ks.length h] w λe w'=>∃v G,e=.returned (.tuple #[v,(0:Int)])/\gE w' 3 v G ((kN l W H d ks).map vi)/\gf [] w w'/\∀x∈G,w.heap.size<=x:=by
 have aE:l.length<=4096:=by rw[C];exact zL f q
 have aF:=Ay (P:=prog) iJ rfl .i64 .i64 l.length (by omega) (by omega);have X:=Bx l A cap W H d w D f hh0 q h0 h1 C hs L;have U:=GQ ks N h w s (by omega) z;rw[c]at U;have S:=λy (hy:y<H) k (M:k<10) w L=>FO l A cap W H y d k w D f q hy h0 h1 M C hs L;have⟨m,hm⟩:=zX l.length;rw[<-hm]at S X aF aE⊢;rw[c];have⟨HR,aA,az⟩:=gS S s c;have V:=C;rw[<-hm]at V;have aB:=gd V;clear S hm C hs s c V;go_enter func195,ntmps195
 go_wp2_with(first|(go_at_call 242;refine gx X ?_)|(go_at_call 243;refine gx U ?_))
 have ad:=(gv.room w m (by omega)).S;have⟨B,hB⟩:=zX w.heap.size;rw[<-hB]at ad⊢;have HB:=gd hB;have aq:gf [] w (w.alloc (.cells (replicate m (Value.int .i64 0)).toArray 3)):=(zR [] w).alloc _;clear hB X U
 go_loopg [12,32] H (λj ov iv wr=>∃(a:List Int) (G:List Nat),j<=H/\iv=.int .i64 ((H-j:Nat):Int)/\gE wr 3 ov G (a.map vi)/\gh (a=(range (H-j)).flatMap (λy=>jY l W y d (ks.getD y 0)))/\gf [] w wr/\∀x∈G,w.heap.size<=x)
 .exact⟨[],[B],zQ _,by simp,ad,gd (by simp),aq,λx hx=>by have:=HB.o;simp at hx;omega⟩
 obtain⟨a,G,hj,rfl,J,E,t,hG⟩:=hrel;obtain⟨Ao,co,rfl,-,-,-⟩:=J.oq;have O:=gd hG;clear hG ad aq;rcases gk with _|j
 .have t4:decide (((H-0:Nat):Int)<(H:Int))=false:=by simp
  go_wp2
  go_ret2
  refine⟨_,G,rfl,?_,t,O.o⟩;have e:=E.o;rw[Nat.sub_zero]at e;rw[e]at J;rw[e];exact J
 .have⟨i,au⟩:=zX (H-(j+1))
  rw[<-au]at E⊢;have av:i<H:=by omega
  have aw:H-j=i+1:=by omega
  have HI:=gd aw;clear au aw;have K:i<ks.length:=by rw[az.o];exact av
  obtain⟨g,o,rfl,Q⟩:=(z.Y t).at_ K;have M:=aA.o _ (zG K);have ar:ks.getD i 0=ks[i]:=by rw[zD,zF K];rfl
  have I:(range (i+1)).flatMap (λy=>jY l W y d (ks.getD y 0))=a++jY l W i d ks[i]:=by
   rw[range_succ,flatMap_append,<-E.o,flatMap_cons,flatMap_nil,append_nil,ar]
  have⟨k,ax⟩:=zX (ks[i]);rw[<-ax]at Q M I;have am:wr.cell? ⟨g,o+i,none⟩=some (.int .i64 k):=Q;have hr:=HR.o i av k M wr (L.Y t);have Y:=rq l W i d k;have⟨r,ay⟩:=zX (jY l W i d k);rw[<-ay]at hr I Y;have⟨HS,aC⟩:=gy I Y;have aJ:a.length<=4096:=by
   have aI:=aB.o;rw[E.o,Ac _ W _ λy _=>rq _ _ _ _ _,length_range]
   have:=mul_le_mul_left W (show i<=H by omega)
   omega
  clear ax K ar I ay Q Y;go_wp2_with fail;refine hr.mono ?_;rintro e w1 ⟨v1,G1,rfl,R,T,aH⟩;obtain⟨A1,c1,rfl,-,-,al⟩:=R.oq;have ah:=J.Y T;have aD:gu (λu=>u) w1 A1 (r.map vi):=by
   obtain⟨A',c',Z,_,_,h6,_⟩:=R.open_;injection Z with Z;subst Z;exact h6
  have aG:r.length<=64:=by rw[aC.o];exact f
  clear hr R al
  go_wp2_with(at_builtin;refine na rfl rfl iJ rfl rfl ah (r.map vi) r.length rfl ?c1 ?c2 ?c3 ?c4 ?c5 ?_)
  case c1=>exact(zE _).symm
  case c2=>exact aD
  case c3=>exact pX _
  case c4=>rw[zE,zE];omega
  case c5=>rw[zE,zE];omega
  intro v' F' w2 h2 h3;go_wp2_with fail
  go_roundg j
  .rw[HI.o]
   refine⟨a++r,F',by omega,by go_num,?_,gd HS.o.symm,(t.tq T).trans h3.Z λx hx=>.inr (O.o x hx),λx hx=>?_⟩
   .rw[zM]
    exact h2
   .rcases h3.new x hx with h9|h9
    .exact O.o x h9
    .have:=t.size
     have:=T.size
     omega
  .omega
structure mw where
 runs:List Nat
 dists:List Nat
 N:Nat
structure mw.Ok (s:mw):Prop where
 rl:s.runs.length=1025
 dl:s.dists.length=65
 r64:∀x∈s.runs,x<=64
 d1024:∀x∈s.dists,x<=1024
 l64:s.N<=64
def kY:Nat->List Nat->Nat->Nat->List Nat
 | 0,D,_,_=>D
 | f+1,D,m,d=>kY f (D.set (m+1) d) (m+1) d
theorem CS:∀f D m d,(kY f D m d).length=D.length
 | 0,_,_,_=>rfl
 | f+1,D,m,d=>by rw[kY,CS,length_set]
theorem sz{l:List Nat}(h:∀x∈l,x<=B)(c:v<=B):∀x∈l.set i v,x<=B:=λx hx=>by
 rcases mem_or_eq_of_mem_set hx with a|a
 .exact h x a
 .omega
theorem DU{B:Nat}:∀f D m d,(∀x∈D,x<=B)->d<=B->∀x∈kY f D m d,x<=B
 | 0,_,_,_,h,_=>h
 | f+1,D,m,d,h,hd=>DU f _ _ d (sz h hd) hd
def mI(l:List Int)(at_:Nat)(rs:List Nat)(d:Nat):Nat:=if l.getD at_ 0=l.getD (at_-d) 0 then min (rs.getD d 0+1) 64 else 0
theorem EJ(l:List Int)(at_:Nat)(rs:List Nat)(d:Nat):mI l at_ rs d<=64:=by
 unfold mI;split<;>omega
def lB(l:List Int)(at_:Nat)(s:mw)(d:Nat):mw:=
 ⟨s.runs.set d (mI l at_ s.runs d),kY (mI l at_ s.runs d-s.N) s.dists s.N d,max s.N (mI l at_ s.runs d)⟩
theorem yq{at_:Nat}{s:mw}(h:s.Ok)(a:d<=1024):(lB l at_ s d).Ok:=by
 have:=EJ l at_ s.runs d
 exact⟨by simp[lB,h.rl],by simp[lB,CS,h.dl],sz h.r64 this,DU _ _ _ _ h.d1024 a,by have:=h.l64;simp only[lB];omega⟩
def oN(l:List Int)(at_:Nat):Nat->Nat->mw->mw
 | 0,_,s=>s
 | f+1,d,s=>oN l at_ f (d+1) (lB l at_ s d)
theorem zp{l:List Int}{at_:Nat}:∀f d s,s.Ok->d+f<=1025->(oN l at_ f d s).Ok
 | 0,_,_,h,_=>h
 | f+1,d,s,h,hd=>zp f (d+1) _ (yq h (by omega)) (by omega)
def qB(rs:List Nat):mw:=⟨rs,replicate 65 0,0⟩
def kX(l:List Int)(at_:Nat)(rs:List Nat):mw:=oN l at_ (min at_ 1024) 1 (qB rs)
def rC(rs:List Nat):Prop:=rs.length=1025/\∀x∈rs,x<=64
theorem xW(h:rC rs):(qB rs).Ok:=
 ⟨h.1,by simp[qB],h.2,λx hx=>by rw[eq_of_mem_replicate hx];exact zero_le _,zero_le _⟩
theorem DR{at_:Nat}(h:rC rs):(kX l at_ rs).Ok:=zp _ _ _ (xW h) (by omega)
structure mw.In (s:mw) (B:Nat):Prop where
 rb:∀x∈s.runs,x<=B
 lb:s.N<=B
 db:∀n,s.dists.getD n 0≠0->n<=s.N
theorem oz(l:List Nat)(i v j:Nat):(l.set i v).getD j 0=if i=j/\i<l.length then v else l.getD j 0:=by
 rw[zD,zD,getElem?_set];by_cases h:i=j
 .subst h
  by_cases h2:i<l.length
  .simp[h2]
  .simp[h2]
 .simp[h]
theorem DT:∀f D m d n,(∀n,D.getD n 0≠0->n<=m)->(kY f D m d).getD n 0≠0->n<=m+f
 | 0,_,_,_,n,h,hn=>h n hn
 | f+1,D,m,d,n,h,hn=>by
  have:=DT f (D.set (m+1) d) (m+1) d n (λk hk=>by
   rw[oz]at hk;split at hk
   .omega
   .have:=h k hk;omega) hn
  omega
theorem Ma{at_:Nat}{s:mw}(h:s.In B)(a:mI l at_ s.runs d<=B):(lB l at_ s d).In B:=by
 refine⟨sz h.rb a,?_,λn hn=>?_⟩
 .have:=h.lb;simp only[lB];omega
 .have:=DT _ _ _ _ n h.db hn
  simp only[lB];omega
theorem Fz{l:List Int}{at_ B:Nat}:∀f d s,s.In (B+1)->(∀k,d<=k->s.runs.getD k 0<=B)->(oN l at_ f d s).In (B+1)
 | 0,_,_,h,_=>h
 | f+1,d,s,h,hb=>by
  have c:=hb d (zQ _);have a:mI l at_ s.runs d<=B+1:=by
   unfold mI;split<;>omega
  refine Fz f (d+1) _ (Ma h a) λk hk=>?_;show(s.runs.set d _).getD k 0<=B;rw[oz,if_neg (by omega)];exact hb k (by omega)
theorem DQ{at_:Nat}(h:∀x∈rs,x<=B):(kX l at_ rs).In (B+1):=by
 have c:∀k,rs.getD k 0<=B:=λk=>by
  rcases zZ k rs.length with a|a
  .rw[zD,zF a];exact h _ (zG a)
  .rw[zD,getElem?_eq_none a];exact zero_le _
 refine Fz _ _ _ ⟨λx hx=>by have:=h x hx;omega,zero_le _,λn hn=>?_⟩ λk _=>c k;exfalso;apply hn;show(replicate 65 0).getD n 0=0;rw[zD,getElem?_replicate];split<;>rfl
structure lG where
 costs:List Nat
 first:List gK
 runs:List Nat
def ns(cp at_:Nat)(D:List Nat)(n:Nat)(s:List Nat × List gK):List Nat × List gK:=
 if n<3\/D.getD n 0=0 then s else if s.1.getD (at_+n) 0+cp<=s.1.getD at_ 0 then(s.1.set at_ (s.1.getD (at_+n) 0+cp),s.2.set at_ ⟨n,D.getD n 0,0⟩)else s
def mu(cp at_:Nat)(D:List Nat):Nat->Nat->List Nat × List gK->List Nat × List gK
 | 0,_,s=>s
 | f+1,n,s=>mu cp at_ D f (n+1) (ns cp at_ D n s)
def lW(l:List Int)(lit at_:Nat)(s:lG):List Nat × List gK:=(s.costs.set at_ (s.costs.getD (at_+1) 0+lit),s.first.set at_ ⟨0,0,l.getD at_ 0⟩)
def p8(l:List Int)(lit cp at_:Nat)(s:lG):lG:=
 ⟨(mu cp at_ (kX l at_ s.runs).dists 65 0 (lW l lit at_ s)).1,(mu cp at_ (kX l at_ s.runs).dists 65 0 (lW l lit at_ s)).2,(kX l at_ s.runs).runs⟩
def oQ(l:List Int)(lit cp:Nat):Nat->lG->lG
 | 0,s=>s
 | k+1,s=>oQ l lit cp k (p8 l lit cp k s)
def qD(n:Nat):lG:=⟨replicate (n+1) 0,replicate n ⟨0,0,0⟩,replicate 1025 0⟩
def pR(l:List Int)(lit cp:Nat):lG:=oQ l lit cp l.length (qD l.length)
def iy(F:List gK)(i:Nat):gK:=F.getD i ⟨0,0,0⟩
def kf(F:List gK)(n:Nat):Nat->Nat->List gK
 | 0,_=>[]
 | f+1,i=>if i<n then iy F i::kf F n f (i+max (iy F i).len 1)else[]
def lf(l:List Int)(lit cp:Nat):List gK:=kf (pR l lit cp).first l.length l.length 0
structure qA (n B:Nat) (p:List Nat × List gK):Prop where
 cl:p.1.length=n+1
 fl:p.2.length=n
 cb:∀x∈p.1,x<=B
 fo:∀t∈p.2,t.ok
structure lG.Ok (n lit k:Nat) (s:lG):Prop where
 pair:qA n ((n-k)*lit) (s.costs,s.first)
 rl:s.runs.length=1025
 rb:∀x∈s.runs,x<=64/\x<=n-k
theorem ry{l:List Nat}(h:∀x∈l,x<=B)(i:Nat):l.getD i 0<=B:=by
 rcases zZ i l.length with a|a
 .rw[zD,zF a];exact h _ (zG a)
 .rw[zD,getElem?_eq_none a];exact zero_le _
theorem Fa{at_:Nat}{D:List Nat}{p:List Nat × List gK}(h:qA n B p)(j:m<=64)(c:∀x∈D,x<=1024):qA n B (ns cp at_ D m p):=by
 unfold ns;split
 .exact h
 .rename_i h1
  split
  .rename_i h2
   have e:=ry h.cb at_;have f:=ry c m;refine⟨by simp[h.cl],by simp[h.fl],sz h.cb (by omega),λt ht=>?_⟩;rcases mem_or_eq_of_mem_set ht with a|rfl
   .exact h.fo t a
   .right
    rw[gK.isCopy_iff];exact⟨by simp only;omega,by simp only;omega,by simp only;omega,by simp only;omega,rfl⟩
  .exact h
theorem Ed{n B cp at_:Nat}{D:List Nat}(a:∀x∈D,x<=1024):∀f m p,qA n B p->m+f<=65->qA n B (mu cp at_ D f m p)
 | 0,_,_,h,_=>h
 | f+1,m,p,h,hm=>Ed a f (m+1) _ (Fa h (by omega) a) (by omega)
theorem E8{s:lG}(h:s.Ok n lit (k+1))(f:k<n):qA n ((n-k)*lit) (lW l lit k s):=by
 have e:(n-k)*lit=(n-(k+1))*lit+lit:=by rw[show n-k=n-(k+1)+1 by omega,Nat.add_mul,Nat.one_mul]
 have a:=ry h.pair.cb (k+1);rw[e];refine⟨by simp[lW,h.pair.cl],by simp[lW,h.pair.fl],sz (λx hx=>?_) (by simp only at a;omega),λt ht=>?_⟩
 .have:=h.pair.cb x hx;omega
 .rcases mem_or_eq_of_mem_set ht with c|rfl
  .exact h.pair.fo t c
  .left
   rfl
theorem yD{s:lG}(h:s.Ok n lit (k+1))(f:k<n):(p8 l lit cp k s).Ok n lit k:=by
 have e:rC s.runs:=⟨h.rl,λx hx=>(h.rb x hx).1⟩;have a:=DR (l:=l) (at_:=k) e;have c:=DQ (l:=l) (at_:=k) (rs:=s.runs) (B:=n-(k+1)) (λx hx=>(h.rb x hx).2);refine⟨Ed a.d1024 65 0 _ (E8 h f) (by omega),a.rl,λx hx=>⟨a.r64 x hx,?_⟩⟩
 have:=c.rb x hx
 omega
theorem x6(n lit:Nat):(qD n).Ok n lit n:=
 ⟨⟨zV,zV,λx hx=>by rw[eq_of_mem_replicate hx];exact zero_le _,λt ht=>by rw[eq_of_mem_replicate ht];exact .inl rfl⟩,zV,λx hx=>by rw[eq_of_mem_replicate hx];omega⟩
theorem FD{l:List Int}{n lit cp:Nat}:∀k s,s.Ok n lit k->k<=n->(oQ l lit cp k s).Ok n lit 0
 | 0,_,h,_=>h
 | k+1,s,h,hk=>FD k _ (yD h (by omega)) (by omega)
theorem ud(l:List Int)(lit cp:Nat):(pR l lit cp).Ok l.length lit 0:=FD _ _ (x6 _ _) (zQ _)
theorem EO{F:List gK}(h:∀t∈F,t.ok){n:Nat}(c:n<=F.length):∀f i,∀t∈kf F n f i,t.ok
 | 0,_,t,ht=>by simp[kf]at ht
 | f+1,i,t,ht=>by
  unfold kf at ht;split at ht
  .rename_i hi
   rcases zJ.1 ht with rfl|a
   .unfold iy
    rw[zD,zF (by omega)];exact h _ (zG _)
   .exact EO h c f _ t a
  .simp at ht
theorem DD{F:List gK}{n:Nat}:∀f i,(kf F n f i).length<=f
 | 0,_=>by simp[kf]
 | f+1,i=>by
  unfold kf;split
  .have:=DD (F:=F) (n:=n) f (i+max (iy F i).len 1)
   simp only[zK];omega
  .exact zero_le _
theorem KC(l:List Int)(lit cp:Nat):∀t∈lf l lit cp,t.ok:=
 EO (ud l lit cp).pair.fo (by rw[(ud l lit cp).pair.fl];exact zQ _) _ _
theorem xB(l:List Int)(lit cp:Nat):(lf l lit cp).length<=l.length:=DD _ _
theorem Ax(k:Nat)(l:List Int)(x:Int):kt k (l++[x])=kt k l++jm k x:=by simp[kt]
theorem uX(w:World)(b:Nat)(F bs:List Nat)(k:Nat)(l:List Int)(A:Option Addr)(cap:Nat)(h:hJ w b F bs)(Z:k<=25)(hw:∀x∈l,ib x)(Y:gu vi w A l)(X:gM A l F)(y:bs.length+65*l.length<274877906944):Calls prog 199 #[.pointer b,k,.slice A l.length cap] w λe w'=>e=.returned (.int .i64 0)/\∃F',hJ w' b F' (bs++kt k l)/\gB F F' w w':=by
 have T:=gd hw;clear hw;have⟨n,hn⟩:=zX l.length;rw[<-hn]at y⊢;have⟨HN,HA⟩:=gy hn X;clear hn X;go_enter func199,ntmps199
 go_wp2_with(go_at_call 249;refine gx (yc _ _ Z) ?_)
 go_loopg [18] n (λj i wr=>j<=n/\i=.int .i64 ((n-j:Nat):Int)/\w=wr)
 .exact⟨zQ _,by simp,rfl⟩
 obtain⟨hj,rfl,rfl⟩:=hrel;rcases gk with _|j
 .have t4:decide (((n-0:Nat):Int)<(n:Int))=false:=by simp
  go_wp2_with fail
  go_loopg [28] n (λj i wr=>∃F' a,j<=n/\i=.int .i64 ((n-j:Nat):Int)/\hJ wr b F' a/\gh (a=bs++kt k (l.take (n-j)))/\a.length<=bs.length+65*(n-j)/\gB F F' w wr)
  .exact⟨F,bs,zQ _,by simp,h,gd (by simp[kt]),by omega,gB.refl _ _⟩
  obtain⟨F',a,aA,rfl,I,L,ay,D⟩:=hrel;rcases gk with _|j
  .go_wp2
   go_ret;refine⟨rfl,F',?_,D⟩;have e:l.take n=l:=(by rw[HN.o,zN]);rw[L.o,Nat.sub_zero,e]at I;exact I
  .have⟨m,af⟩:=zX (n-(j+1))
   rw[<-af]at L ay⊢;have N:m<n:=(by omega);have s:n-j=m+1:=(by omega);have z:=gd s;clear af s;have f:m<l.length:=(by rw[<-HN.o];exact N);obtain⟨g,o,rfl,c⟩:=(Y.Q HA.o D.Z).at_ f;have H:=Ax k (l.take m) l[m];rw[<-jd l f]at H;have⟨x,hx⟩:=zX (l[m]);rw[<-hx]at c H;have ac:wr.cell? ⟨g,o+m,none⟩=some (.int .i64 x):=c;have t:ib x:=(by rw[hx];exact T.o _ (zG _));have S:gh (bs++kt k (l.take (m+1))=a++jm k x):=by
    refine gd ?_;rw[H,L.o,zH]
   have V:=nz k x;have ap:=mO k x Z;have hu:=sW t;have M:=yM x wr t;have⟨u,au⟩:=zX (jt x);rw[<-au]at hu M;have hq:u / 2^k<=u:=div_le_self _ _;have E:=div_add_mod u (2^k);have ad:=mod_lt u (Nat.two_pow_pos k);have⟨q,ak⟩:=zX (u / 2^k);have⟨r,am⟩:=zX (u%2^k);have e1:(u:Int) / 2^k=(q:Int):=(by rw[ak];simp);have W:jm k x=if q<32 then replicate q 0++1::gA r k else replicate 32 0++1::gA u 32:=(by unfold jm;rw[<-au,<-ak,<-am]);rw[<-ak]at hq E;rw[<-am]at E ad;have aB:(q:Int)*2^k=(u:Int)-r:=by
    have:((2^k*q+r:Nat):Int)=(u:Int):=by rw[E]
    rw[Int.natCast_add,Int.natCast_mul,Int.natCast_pow]at this;rw[Int.mul_comm];simp at this;omega
   have C:=gd W;have az:a.length+65<274877906944:=(by omega);have U:gh ((a++jm k x).length<=bs.length+65*(m+1)):=gd (by rw[zC,V];omega);have aC:r<=u:=(by rw[am];exact mod_le _ _);have ao:=gd ad;clear W E au ak am c hx H f V ap ad;by_cases hs:q<32
   .have t1:decide ((q:Int)<32)=true:=by simp;omega
    rw[if_pos hs]at C
    go_wp2_with(go_at_call 193;refine gx M ?_)
    refine(DI _ b F' a q I (by omega) (by omega)).mono ?_;rintro e w1 ⟨rfl,J,Q,O⟩;go_wp2_with fail;rw[show(u:Int)-((u:Int)-r)=r by omega];refine(i8 _ b J _ r k Q (by omega) ao.o (by simp;omega)).mono ?_;rintro e w2 ⟨rfl,K,R,P⟩;go_wp2_with fail
    go_roundg j
    .rw[z.o]
     refine⟨K,a++jm k x,by omega,by go_num,?_,gd S.o.symm,U.o,(D.trans O).trans P⟩;rw[C.o]
     simpa using R
    .omega
   .have t1:decide ((q:Int)<32)=false:=by simp;omega
    rw[if_neg hs]at C
    go_wp2_with(go_at_call 193;refine gx M ?_)
    refine(DI _ b F' a 32 I (by omega) (by omega)).mono ?_;rintro e w1 ⟨rfl,J,Q,O⟩;go_wp2_with fail;refine(i8 _ b J _ u 32 Q (by omega) (by omega) (by simp;omega)).mono ?_;rintro e w2 ⟨rfl,K,R,P⟩;go_wp2_with fail
    go_roundg j
    .rw[z.o]
     refine⟨K,a++jm k x,by omega,by go_num,?_,gd S.o.symm,U.o,(D.trans O).trans P⟩;rw[C.o]
     simpa using R
    .omega
 .have⟨m,af⟩:=zX (n-(j+1))
  rw[<-af];have N:m<n:=by omega
  have s:n-j=m+1:=by omega
  have z:=gd s;clear af s;have f:m<l.length:=by rw[<-HN.o];exact N
  obtain⟨g,o,rfl,c⟩:=Y.at_ f;have t:ib l[m]:=T.o _ (zG _);have⟨x,hx⟩:=zX (l[m]);rw[<-hx]at c t;have ac:w.cell? ⟨g,o+m,none⟩=some (.int .i64 x):=c;clear c hx f
  go_wp2_with(go_at_call 266;refine gx (te _ _ t) ?_)
  go_roundg j
  .rw[z.o]
   exact⟨by omega,by go_num,rfl⟩
  .omega
end Go.Proofs.YtnepiccbpokmiaaGreatDoor
