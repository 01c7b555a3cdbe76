/- Lemmas. -/
import Derived.Test.YtifdlkoepaepiaaGreatDoorProg
import Derived.Test.YtifdlkoepaepiaaGreatDoorMh01
import Derived.Test.YtifdlkoepaepiaaGreatDoorMh10
import Derived.WalkLawsBesides
import Derived.WalkSpells
import Derived.Handy
import Derived.StillTailTactics
import Derived.Deep.DeepCutAuto
import Derived.Deep.LoopGhost
set_option linter.all false
set_option maxHeartbeats 4000000
set_option maxRecDepth 100000
namespace Go.Proofs.YtifdlkoepaepiaaGreatDoor
open Tryz List Nat Go.RowKit
variable {done l:List Int}{F G bs ds rs us:List Nat}{B b cp d g i k lit m n p v:Nat}{A:Option Addr}{w w':World}
structure hJ (w:World) (b:Nat) (F:List Nat) (bs:List Nat):Prop where
 ex:∃v G,gn w b 90 #[v,bs.length]/\jj w 5 v G ((iD bs).map b8)/\F=b::G
 bit:∀x∈bs,x<2
theorem hJ.mem(h:hJ w b F bs):b∈F:=by
 obtain⟨_,_,_,_,rfl⟩:=h.ex;simp
theorem hJ.lt(h:hJ w b F bs):∀x∈F,x<w.heap.size:=by
 obtain⟨_,_,c,e,rfl⟩:=h.ex;intro x a;rcases zJ.1 a with rfl|a
 .exact c.lt
 .exact e.lt x a
theorem hJ.Z(h:hJ w b F bs)(a:gg G w w')(c:∀x∈F,x∉G):hJ w' b F bs:=by
 obtain⟨v,K,e,f,rfl⟩:=h.ex;exact⟨⟨v,K,e.Z a (c b (by simp)),f.Z a λx hx=>c x (by simp[hx]),rfl⟩,h.bit⟩
theorem hJ.Y(h:hJ w b F bs)(a:gg [] w w'):hJ w' b F bs:=h.Z a (by simp)
theorem hJ.new(w:World):hJ (w.alloc (.cells #[.slice none 0 0,(0:Int)] 90)) w.heap.size [w.heap.size] []:=
 ⟨⟨_,[],gn.new _ _ _,jj.nil _ _,rfl⟩,by simp⟩
theorem nT:jx prog 41 5 (.int .u8 0) 1 1:=.mk' underlying41 (by kernel_rfl)
theorem xG(w:World)(b:Nat)(F bs:List Nat)(x:Nat)(h:hJ w b F bs)(hx:x<2)(hlen:bs.length<1099511627776):Calls prog 68 #[.pointer b,.int .u8 x] w λe w'=>e=.returned (.tuple #[])/\∃F',hJ w' b F' (bs++[x])/\gE F F' w w':=by
 obtain⟨v,G,q,C,rfl⟩:=h.ex;have U:=h.bit;have M:=C.ne_ q (by decide);have T:∀y∈bs++[x],y<2:=by
  intro y t;rcases zP.1 t with t|t
  .exact U y t
  .simp at t;omega
 obtain⟨A,ay,rfl,W,aC,-⟩:=C.T;have aG:(iD bs).length<=137438953472:=by rw[ox];omega
 have L:=q.X 0;have V:=q.X 1;have⟨aE,aF⟩:=RL q 0 1;simp at L V;have I:=gd T;clear T U h;obtain⟨i,r,H,aI⟩:∃i r,bs.length=8*i+r/\r<8:=⟨bs.length / 8,bs.length%8,by omega,by omega⟩;have e1:(bs.length:Int) / 8=(i:Int):=by omega
 have e2:(bs.length:Int)%8=(r:Int):=by omega
 have HL:=gd H;by_cases h8:r=0
 .subst h8
  have s:(iD bs).length=i:=by rw[ox];omega
  have f:=gd s;clear H s;go_enter func68,ntmps68
  go_wp2_with(at_builtin;refine ka rfl rfl nT rfl rfl (C.alloc _) (.int .u8 0) rfl ?c1 ?c2 ?c3 ?c4 ?_)
  case c1=>simp[go_sem]
  case c2=>rfl
  case c3=>simp;omega
  case c4=>simp;omega
  intro a z w2 N J;have u:a≠b:=by
   rintro rfl;rcases J.new a (by simp)with h|h
   .exact M h
   .have:=q.lt;simp at h;omega
  have K:=(q.alloc (.cells #[.int .u8 0] 5)).Z J.Z (by simpa using M)
  try simp only[zE]at N
  try rw[f.o]at N
  try simp only[zE]
  try rw[f.o]
  have E:=K.X 0;have X:=K.U 0;simp at E;clear L V aE aF W aC aG;have D:=K.S 0 (.slice (some ⟨a,0,none⟩) (i+1) z);have ad:=N.Q (p:=⟨b,0,none⟩) u (.slice (some ⟨a,0,none⟩) (i+1) z)
  have aA:gE (b::G) [b,a] w (w2.setCell b (.slice (some ⟨a,0,none⟩) (i+1) z)) :=
   (((gE.refl (b::G) w).alloc _).trans (J.cons b)).setCell (by simp) _
  go_wp2_with fail;generalize hw3:w2.setCell b (.slice (some ⟨a,0,none⟩) (i+1) z)=w3 at *;clear E X;have aD:=D.X 0;have E:=D.X 1;have X:=D.U 1;simp at aD E;have aJ:w3.cell? ⟨a,i,none⟩=some (.int .u8 0):=by
   obtain⟨_,_,_,_,o,_⟩:=ad.open_;rw[o i (by simp[f.o])];rw[zS (by simp[f.o])];simp[f.o]
  have aK:w3.frozen? ⟨a,i,none⟩=false:=by
   obtain⟨_,_,_,_,_,o⟩:=ad.open_;exact o i
  refine i9 21 (by kernel_rfl) (by kernel_rfl) ?_;simp only[take_succ_cons,take_zero,drop_succ_cons,drop_zero]
  repeat(go_big_quiet_step (fail))
  refine wpQuiet_nil ?_;intro _ O;obtain⟨nq,rfl⟩:=O;go_wp2_with fail
  go_end0
  have R:bits .or .u8 0 ((x:Int)*128)=((x*128:Nat):Int):=by
   have:=Ro (x:=0) (y:=x*128) (by decide) (by omega)
   simpa using this
  rw[R];refine⟨rfl,[b,a],⟨⟨.slice (some ⟨a,0,none⟩) (i+1) z,[a],?_,?_,rfl⟩,I.o⟩,?_⟩
  .have c:=((D.drewN nq).Q (p:=⟨a,i,none⟩) u.symm (.int .u8 ((x*128:Nat):Int))).S 1 (.int .i64 ((bs.length:Int)+1))
   simpa using c
  .have c:=((ad.drewN nq).S (i:=i) (by simp[f.o]) (.int .u8 ((x*128:Nat):Int))).Q (p:=⟨b,1,none⟩) u (.int .i64 ((bs.length:Int)+1))
   have e:(map b8 (iD bs)++[Value.int .u8 0]).set i (.int .u8 ((x*128:Nat):Int))=(iD (bs++[x])).map b8:=by
    rw[LL (by rw[HL.o];omega),zM,set_append_right _ _ (by simp[f.o])];simp[f.o,b8]
   rw[e]at c;exact c.R
  .exact((aA.drewN nq).setCell (p:=⟨a,i,none⟩) (by simp) _).setCell (p:=⟨b,1,none⟩) (by simp) _
 .have aH:(r:Int)≠0:=by omega
  have t1:((r:Int)==0)=false:=by rw[beq_eq_false_iff_ne];exact aH
  have s:(iD bs).length=i+1:=by rw[ox];omega
  have f:=gd s;obtain⟨a,rfl⟩:∃a,A=some ⟨a,0,none⟩:=by
   obtain⟨A',az,c,_,_,P,Q⟩:=C.open_;injection c with c _ _;subst c;obtain⟨b0,o0,o,_⟩:=P.ex (by simp[s]);obtain⟨g,h5,_⟩:=Q _ o;exact⟨g,by rw[o,h5]⟩
  obtain⟨ad,rfl⟩:=C.row rfl;have u:a≠b:=by simpa[eq_comm]using M
  have aB:j6 bs i<256:=D9 (λy t=>I.o y (by simp[t])) i;have aJ:w.cell? ⟨a,i,none⟩=some (.int .u8 (j6 bs i)):=by
   obtain⟨_,_,_,_,o,_⟩:=ad.open_;rw[o i (by simp[f.o])]
   have:i<(bs.length+7) / 8:=by omega
   simp[iD,b8,this]
  have aK:w.frozen? ⟨a,i,none⟩=false:=by
   obtain⟨_,_,_,_,_,o⟩:=ad.open_;exact o i
  rw[s]at q L W;have Y:=PF (b:=x) H aI hx;have S:iD (bs++[x])=(iD bs).set i (j6 bs i+x*2^(7-r)):=by
   have c:=MS (bs:=bs) (b:=x) (by omega);have P:bs.length / 8=i:=(by omega);have Q:bs.length%8=r:=(by omega);rw[c,P,Q]
  have⟨af,ax⟩:=gy S Y;clear H s S Y;go_enter func68,ntmps68;go_wp2_with fail;refine i9 21 (by kernel_rfl) (by kernel_rfl) ?_;simp only[take_succ_cons,take_zero,drop_succ_cons,drop_zero]
  repeat(go_big_quiet_step (fail))
  refine wpQuiet_nil ?_;intro _ O;obtain⟨nq,rfl⟩:=O;go_wp2_with fail
  go_end0
  have aL:2^(7-r)<=128:=Nat.pow_le_pow_right (n:=2) (j:=7) (by decide) (by omega);have Z:x*2^(7-r)<256:=by
   have:x=0\/x=1:=by omega
   rcases this with rfl|rfl<;>omega
  have R:bits .or .u8 ((j6 bs i:Nat):Int) ((x:Int)*2^(7-r)%256)=((j6 bs i+x*2^(7-r):Nat):Int):=by
   have e3:((x:Int)*2^(7-r)%256)=((x*2^(7-r):Nat):Int):=by
    rw[Int.natCast_mul,Int.natCast_pow];refine Int.emod_eq_of_lt ?_ ?_
    .exact Int.mul_nonneg (by omega) (Int.le_of_lt (ke _))
    .exact_mod_cast Z
   rw[e3,Ro aB Z,ax.o]
  rw[R];refine⟨rfl,[b,a],⟨⟨.slice (some ⟨a,0,none⟩) (i+1) ay,[a],?_,?_,rfl⟩,I.o⟩,?_⟩
  .have c:=((q.drewN nq).Q (p:=⟨a,i,none⟩) u.symm (.int .u8 ((j6 bs i+x*2^(7-r):Nat):Int))).S 1 (.int .i64 ((bs.length:Int)+1))
   simpa using c
  .have c:=((ad.drewN nq).S (i:=i) (by simp[f.o]) (.int .u8 ((j6 bs i+x*2^(7-r):Nat):Int))).Q (p:=⟨b,1,none⟩) u (.int .i64 ((bs.length:Int)+1))
   rw[f.o]at c;have e:(map b8 (iD bs)).set i (.int .u8 ((j6 bs i+x*2^(7-r):Nat):Int))=(iD (bs++[x])).map b8:=by
    rw[af.o,map_set];rfl
   rw[e]at c;exact c.R
  .exact(((gE.refl [b,a] w).drewN nq).setCell (p:=⟨a,i,none⟩) (by simp) _).setCell (p:=⟨b,1,none⟩) (by simp) _
theorem iG(w:World)(b:Nat)(F bs:List Nat)(v n:Nat)(h:hJ w b F bs)(y:n<=63)(c:v<2^n)(q:bs.length<549755813888):Calls prog 42 #[.pointer b,.int .u64 v,n] w λe w'=>e=.returned (.int .i64 0)/\∃F',hJ w' b F' (bs++gx v n)/\gE F F' w w':=by
 have D:v<18446744073709551616:=Nat.lt_of_lt_of_le c (Nat.le_trans (Nat.pow_le_pow_right (by decide) y) (by decide:2^63<=18446744073709551616));have J:decide ((n:Int)<0)=false:=by simp
 have K:decide ((64:Int)<n)=false:=by simp;omega
 have L:(((v:Int) / 2^n) != 0)=false:=by
  have:(v:Int) / 2^n=((v / 2^n:Nat):Int):=by simp
  rw[this,div_eq_of_lt c];rfl
 clear c;go_enter func42,ntmps42;go_wp2_with fail
 go_loopg [7] n (λk i wr=>∃(F' a:List Nat),i=.int .i64 ((k:Int)-1)/\k<=n/\hJ wr b F' a/\gh (bs++gx v n=a++gx v k)/\a.length+k<=bs.length+n/\gE F F' w wr)
 .exact⟨F,bs,rfl,zQ _,h,gd rfl,zQ _,gE.refl _ _⟩
 obtain⟨F',a,rfl,I,j,f,H,o⟩:=hrel;rcases gk with _|k
 .have M:decide ((0:Int)<=((0:Nat):Int)-1)=false:=by simp
  go_wp2;go_ret;refine⟨rfl,F',?_,o⟩;rw[f.o]
  simpa[gx]using j
 .have t:(((k+1:Nat):Int)-1)=(k:Int):=by omega
  rw[t];have⟨ad,ab⟩:=zX (v / 2^k%2);have C:bits BinOp.and IntKind.u64 ((v:Int) / 2^k) 1=(ad:Int):=by
   have e:(v:Int) / 2^k=((v / 2^k:Nat):Int):=(by simp);have E:v / 2^k<=v:=div_le_self _ _;rw[e,ab];exact JM (by omega)
  have z:ad<=1:=by omega
  have s:gh (bs++gx v n=(a++[ad])++gx v k):=by
   refine gd ?_;rw[f.o,ab,gx,zH];rfl
  clear ab;go_wp2_with fail;refine(xG _ b F' a ad j (by omega) (by omega)).mono ?_;rintro e N ⟨rfl,r,x,u⟩;go_wp2_with fail
  go_roundg k
  .exact⟨r,a++[ad],rfl,by omega,x,s,by simp;omega,o.trans u⟩
  .omega
theorem ET(w:World)(b:Nat)(F bs:List Nat)(n:Nat)(h:hJ w b F bs)(C:n<=4096)(t:bs.length<549755813888):Calls prog 224 #[.pointer b,n] w λe w'=>e=.returned (.int .i64 0)/\∃F',hJ w' b F' (bs++(replicate n 0++[1]))/\gE F F' w w':=by
 have D:decide ((n:Int)<0)=false:=by simp
 have E:decide ((4096:Int)<n)=false:=by simp;omega
 go_enter func224,ntmps224;go_wp2_with fail
 go_loopg [12] n (λk i wr=>∃(F' a:List Nat),i=.int .i64 ((n-k:Nat):Int)/\k<=n/\hJ wr b F' a/\gh (a=bs++replicate (n-k) 0)/\a.length+k<=bs.length+n/\gE F F' w wr)
 .exact⟨F,bs,by simp,zQ _,h,gd (by simp),zQ _,gE.refl _ _⟩
 obtain⟨F',a,rfl,z,r,j,x,s⟩:=hrel;rcases gk with _|k
 .have H:decide (((n-0:Nat):Int)<(n:Int))=false:=by simp
  go_wp2_with fail;refine(xG _ b F' a 1 r (by omega) (by omega)).mono ?_;rintro e u ⟨rfl,f,c,o⟩;go_wp2;go_ret;refine⟨rfl,f,?_,s.trans o⟩;rw[j.o]at c
  simpa using c
 .have⟨m,hm⟩:=zX (n-(k+1))
  rw[<-hm]at j⊢;have y:m<n:=by omega
  have ad:n-k=m+1:=by omega
  have q:=gd ad;clear hm ad;go_wp2_with fail;refine(xG _ b F' a 0 r (by omega) (by omega)).mono ?_;rintro e u ⟨rfl,f,c,o⟩;go_wp2_with fail
  go_roundg k
  .refine⟨f,a++[0],?_,by omega,c,?_,by simp;omega,s.trans o⟩
   .rw[q.o];go_num
   .refine gd ?_
    rw[j.o,q.o,replicate_succ',zH]
  .omega
theorem Bg(w:World)(b:Nat)(F bs:List Nat)(h:hJ w b F bs):Calls prog 133 #[.pointer b] w λe w'=>e=.returned bs.length/\w=w':=by
 obtain⟨v,G,a,f,rfl⟩:=h.ex;have c:=a.X 1;simp at c;clear a f h;go_enter func133,ntmps133;go_wp2;go_ret;exact⟨rfl,rfl⟩
theorem pj(l:List Nat):∀u∈l.map b8,u.oneCell'=true:=by
 intro u a;obtain⟨d,_,rfl⟩:=List.mem_map.1 a;rfl
theorem Nn(w:World)(b:Nat)(A:Option Addr)(c:Nat)(ds:List Nat)(q:w.cell? b=some (.slice A ds.length c))(a:gz (λu=>u) w A (ds.map b8))(r:ds.length<=137438953472):Calls prog 46 #[.pointer b] w λe w'=>∃v G,e=.returned v/\jj w' 5 v G (ds.map b8)/\gg [] w w'/\∀x∈G,w.heap.size<=x:=by
 have j:=gd a;clear a;go_enter func46,ntmps46
 go_wp2_with(at_builtin;refine ns rfl rfl nT rfl rfl (jj.nil _ _) (ds.map b8) ds.length rfl ?c1 ?c2 ?c3 ?c4 ?c5 ?_)
 case c1=>exact(zE _).symm
 case c2=>exact j.o
 case c3=>exact pj _
 case c4=>rw[zE,length_nil];omega
 case c5=>rw[zE,length_nil];omega
 intro s F' w' o f;go_wp2;go_ret;exact⟨s,F',rfl,by simpa using o,f.Z,λx hx=>by rcases f.new x hx with h|h;simp at h;exact h⟩
theorem xD(w:World)(b:Nat)(F bs:List Nat)(h:hJ w b F bs)(f:bs.length<549755813888):Calls prog 46 #[.pointer b] w λe w'=>∃v G,e=.returned v/\jj w' 5 v G ((iD bs).map b8)/\gg [] w w'/\∀x∈G,w.heap.size<=x:=by
 obtain⟨v,G,s,j,rfl⟩:=h.ex;obtain⟨A,q,rfl,u,y,-⟩:=j.T;obtain⟨t,ad,a,-,-,o,-⟩:=j.open_;injection a with a _ _;subst a;have r:(iD bs).length<=137438953472:=by rw[ox];omega
 have c:=s.X 0;simp at c;exact Nn w b A q _ c o r
structure gM (w:World) (b:Nat) (F:List Nat) (ds:List Nat) (at_:Nat):Prop where
 ex:∃v G,gn w b 135 #[v,at_,(0:Int)]/\jj w 5 v G (ds.map b8)/\F=b::G
 dig:∀d∈ds,d<256
 len:ds.length<1099511627776
 at_le:at_<=8*ds.length
def lW(ds:List Nat)(i:Nat):Nat:=ds.getD (i / 8) 0 / 2^(7-i%8)%2
def pJ(ds:List Nat):List Nat:=(range (8*ds.length)).map (lW ds)
theorem IX(ds:List Nat):(pJ ds).length=8*ds.length:=by simp[pJ]
theorem CM(h:i<8*ds.length):(pJ ds)[i]?=some (lW ds i):=by
 simp[pJ,h]
theorem gM.mem(h:gM w b F ds p):b∈F:=by
 obtain⟨_,_,_,_,rfl⟩:=h.ex;simp
theorem gM.lt(h:gM w b F ds p):∀x∈F,x<w.heap.size:=by
 obtain⟨_,_,c,e,rfl⟩:=h.ex;intro x a;rcases zJ.1 a with rfl|a
 .exact c.lt
 .exact e.lt x a
theorem gM.Z(h:gM w b F ds p)(a:gg G w w')(c:∀x∈F,x∉G):gM w' b F ds p:=by
 obtain⟨v,K,e,f,rfl⟩:=h.ex;exact⟨⟨v,K,e.Z a (c b (by simp)),f.Z a λx hx=>c x (by simp[hx]),rfl⟩,h.dig,h.len,h.at_le⟩
theorem gM.Y(h:gM w b F ds p)(a:gg [] w w'):gM w' b F ds p:=h.Z a (by simp)
theorem GI(w:World)(A:Option Addr)(c:Nat)(ds:List Nat)(s:gz b8 w A ds)(t:∀d∈ds,d<256)(I:ds.length<1099511627776)(E:ds.length<=c)(H:c<=9223372036854775807):Calls prog 57 #[.slice A ds.length c] w λe w'=>∃b F,e=.returned (.pointer (some ⟨b,0,none⟩))/\gM w' b F ds 0/\gg [] w w'/\∀x∈F,w.heap.size<=x:=by
 have q:gz (λu=>u) w A (ds.map b8):=⟨λh0=>by
  obtain⟨b,o,D,e2,e3⟩:=s.ex (by simpa using h0);refine⟨b,o,D,e2,λi a ha=>?_⟩;rw[zW]at ha
  cases e:ds[i]? with
  | none=>simp[e]at ha
  | some d=>simp[e]at ha;subst ha;exact e3 i d e⟩
 have⟨HC,HD⟩:=gy q t;clear s q t;go_enter func57,ntmps57
 go_wp2_with(at_builtin;refine ns rfl rfl nT rfl rfl (jj.nil _ _) (ds.map b8) ds.length rfl ?c1 ?c2 ?c3 ?c4 ?c5 ?_)
 case c1=>exact(zE _).symm
 case c2=>exact HC.o
 case c3=>exact pj _
 case c4=>rw[zE,length_nil];omega
 case c5=>rw[zE,length_nil];omega
 intro J F' w' r f;obtain⟨y,z,rfl,-⟩:=r.open_;go_wp2;go_ret;have C:jj w' 5 (.slice y ds.length z) F' (ds.map b8):=by simpa using r
 refine⟨_,w'.heap.size::F',rfl,⟨⟨_,F',gn.new _ _ _,C.alloc _,rfl⟩,HD.o,I,by simp⟩,f.Z.alloc _,λx j=>?_⟩
 have:=f.size
 rcases zJ.1 j with rfl|j
 .exact this
 .rcases f.new x j with h|h
  .simp at h
  .exact h
theorem AA(ds:List Nat)(i:Nat):lW ds i<2:=by unfold lW;omega
theorem Fj(h:i<ds.length):ds[i]?=some (ds.getD i 0):=by
 rw[zD,zF h];rfl
theorem look_ok(w : World)(b : Nat)(F ds : List Nat)(p i : Nat)(h : gM w b F ds p)(M : i < 8 * ds.length):Calls prog 87 #[.pointer b,i] w λe w'=>e=.returned (.int .u8 (lW ds i))/\w=w':=by
  obtain⟨v,G,t,u,rfl⟩:=h.ex;obtain⟨A,E,rfl,H,I,c⟩:=u.T;have D:=h.len;have z:=t.X 0;simp at z;obtain⟨g,o,rfl,J,f⟩:=c.ex (by omega);have⟨q,hq⟩:=zX (i / 8);have⟨r,hr⟩:=zX (i%8);have s:q<ds.length:=by omega
  have a:=f q _ (Fj s);have⟨y,hy⟩:=zX (ds.getD q 0);rw[<-hy]at a;have ad:y<256:=by
    rw[hy];exact h.dig _ (mem_of_getElem? (Fj s))
  have K:w.cell? ⟨g,o+q,none⟩=some (.int .u8 y):=a;have L:(i:Int) / 8=(q:Int):=by omega
  have e2:(i:Int)%8=(r:Int):=by omega
  have j:lW ds i=y / 2^(7-r)%2:=by unfold lW;rw[<-hq,<-hr,<-hy]
  have x:=gd j;have C:y / 2^(7-r)<256:=Nat.lt_of_le_of_lt (div_le_self _ _) ad;clear j hy hq hr a f c u t h;go_enter func87,ntmps87;go_wp2;go_ret;rw[x.o]
  first
    | exact⟨rfl,rfl⟩
    | (have e3 : (y : Int) / 2 ^ (7 - r) = ((y / 2 ^ (7 - r) : Nat) : Int) := by simp
       refine⟨?_,rfl⟩;rw[<-Kh C,<-e3];rfl)
theorem BF(w:World)(b:Nat)(F ds:List Nat)(p:Nat)(h:gM w b F ds p):Calls prog 63 #[.pointer b] w λe w'=>e=.returned (.int .i64 ((8*ds.length-p:Nat):Int))/\∃n,w'=w.drewN n:=by
 obtain⟨v,G,a,f,rfl⟩:=h.ex;obtain⟨A,r,rfl,t,u,j⟩:=f.T;have ad:=h.len;have s:=h.at_le;have o:=a.X 0;have q:=a.X 1;simp at o q;have c:((8*ds.length-p:Nat):Int)=8*(ds.length:Int)-p:=by omega
 rw[c];clear c j f a h;go_enter func63,ntmps63;go_wp2_with fail
 go_quiet (fail)
 go_wp2;go_ret;exact⟨rfl,_,rfl⟩
theorem iS(w:World)(b:Nat)(F ds:List Nat)(p:Nat)(h:gM w b F ds p):Calls prog 60 #[.pointer b] w λe w'=>e=.returned (.int .i64 0)/\w=w':=by
 obtain⟨v,G,a,f,rfl⟩:=h.ex;have c:=a.X 2;simp at c;clear f a h;go_enter func60,ntmps60;go_wp2;go_ret;exact⟨rfl,rfl⟩
def ng(ds:List Nat)(p:Nat):Nat->Nat
 | 0=>0
 | n+1=>2*ng ds p n+lW ds (p+n)
theorem FN(ds:List Nat)(p:Nat):∀n,ng ds p n<2^n
 | 0=>by simp[ng]
 | n+1=>by
  have:=FN ds p n
  have:=AA ds (p+n)
  rw[ng,Nat.pow_succ];omega
def ig(ds:List Nat)(p:Nat)(bs:List Nat):Prop:=∃rest,(pJ ds).drop p=bs++rest
theorem ig.len(h:ig ds p bs):bs.length<=8*ds.length-p:=by
 obtain⟨rest,h⟩:=h
 have:=congrArg length h
 rw[zO,IX,zC]at this;omega
theorem ig.le(h:ig ds p bs)(a:p<=8*ds.length):p+bs.length<=8*ds.length:=by have:=h.len;omega
theorem ig.left(h:ig ds p (us++bs)):ig ds p us:=by
 obtain⟨rest,h⟩:=h;exact⟨bs++rest,by rw[h,zH]⟩
theorem ig.right(h:ig ds p (us++bs)):ig ds (p+us.length) bs:=by
 obtain⟨rest,h⟩:=h;refine⟨rest,?_⟩;rw[<-drop_drop,h,zH,drop_left]
theorem ig.get(h:ig ds p bs){x:Nat}(c:bs[i]?=some x):lW ds (p+i)=x:=by
 have f:=h.len;obtain⟨rest,h⟩:=h;have e:i<bs.length:=(List.getElem?_eq_some_iff.1 c).1;have a:((pJ ds).drop p)[i]?=some x:=by rw[h,getElem?_append_left e,c]
 rw[getElem?_drop,CM (by omega)]at a
 simpa using a
theorem vV(v:Nat):∀(n i:Nat),i<n->(gx v n)[i]?=some (v / 2^(n-1-i)%2)
 | n+1,0,_=>by simp[gx]
 | n+1,i+1,h=>by
  rw[gx,getElem?_cons_succ,vV v n i (by omega)]
  have:n-1-i=n+1-1-(i+1):=by omega
  rw[this]
theorem CE{ds:List Nat}{p v n:Nat}(h:ig ds p (gx v n))(a:v<2^n):∀m,m<=n->ng ds p m=v / 2^(n-m)
 | 0,_=>by rw[ng,Nat.sub_zero,div_eq_of_lt a]
 | m+1,hm=>by
  rw[ng,CE h a m (by omega),h.get (vV v n m (by omega))];have c:n-1-m=n-(m+1):=by omega
  have e2:n-m=n-(m+1)+1:=by omega
  rw[c,e2,Nat.pow_succ,<-Nat.div_div_eq_div_mul];omega
theorem KH(h:ig ds p (gx v n))(a:v<2^n):ng ds p n=v:=by
 rw[CE h a n (zQ _),Nat.sub_self,Nat.pow_zero,Nat.div_one]
theorem GH(w:World)(b:Nat)(F ds:List Nat)(p n:Nat)(h:gM w b F ds p)(R:n<=63)(S:p+n<=8*ds.length):Calls prog 59 #[.pointer b,n] w λe w'=>e=.returned (.int .u64 (ng ds p n))/\gM w' b F ds (p+n)/\gg [b] w w':=by
 have K:=h.len;have T:decide ((n:Int)<0)=false:=by simp
 have U:decide ((64:Int)<n)=false:=by simp;omega
 have V:decide ((8*ds.length-p)<n)=false:=by simp;omega
 have N:w.cell? ⟨b,2,none⟩=some (.int .i64 0):=by
  obtain⟨v,G,c,f,rfl⟩:=h.ex
  simpa using c.X 2
 go_enter func59,ntmps59;go_wp2_with fail;refine(BF w b F ds p h).mono ?_;rintro e w' ⟨rfl,nq,rfl⟩;go_wp2_with fail
 go_loopg [5,28] n (λk v i wr=>k<=n/\i=.int .i64 ((n-k:Nat):Int)/\v=.int .u64 (ng ds p (n-k))/\gM wr b F ds (p+(n-k))/\gg [b] w wr)
 .exact⟨zQ _,by simp,by simp[ng],by simpa using h.Y ((zR _ _).drewN nq),(zR _ _).drewN nq⟩
 obtain⟨Q,rfl,rfl,a,o⟩:=hrel;rcases gk with _|k
 .have W:decide (((n-0:Nat):Int)<(n:Int))=false:=by simp
  go_wp2;go_ret;exact⟨by simp,by simpa using a,o⟩
 .have⟨m,hm⟩:=zX (n-(k+1))
  rw[<-hm]at a⊢;have P:m<n:=by omega
  have r:n-k=m+1:=by omega
  have u:=gd r;clear hm r;have t:=FN ds p m;have E:2^m<=2^62:=Nat.pow_le_pow_right (by decide) (by omega);have⟨v,ac⟩:=zX (ng ds p m);rw[<-ac]at t⊢;have z:=gd ac;have L:v<4611686018427387904:=by omega
  clear ac t E;have M:wr.cell? ⟨b,1,none⟩=some (.int .i64 ((p+m:Nat):Int)):=by
   obtain⟨v,G,c,f,rfl⟩:=a.ex
   simpa using c.X 1
  have O:wr.frozen? ⟨b,1,none⟩=false:=by
   obtain⟨v,G,c,f,rfl⟩:=a.ex;exact c.U 1
  have j:=AA ds (p+m);have⟨y,hy⟩:=zX (lW ds (p+m));have q:=look_ok wr b F ds (p+m) (p+m) a (by omega);rw[<-hy]at q j;have C:=gd hy;clear hy;have s:bits BinOp.or IntKind.u64 ((v:Int)*2) (y:Int)=((2*v+y:Nat):Int):=by
   have:=CR (v:=v) (b:=y) (by omega) j
   rw[<-this]
   congr 1
   omega
  have x:=gd s;clear s;have ad:((p+m:Nat):Int)=(p:Int)+m:=by omega
  go_wp2_with fail;refine q.mono ?_;rintro e X ⟨rfl,rfl⟩;go_wp2_with fail
  go_roundg k
  .rw[u.o]
   refine⟨by omega,by go_num,?_,?_,o.setCell (by simp) _⟩
   .rw[ng,<-z.o,<-C.o,<-x.o]
   .obtain⟨J,G,c,f,H⟩:=a.ex
    have D:b∉G:=f.ne_ c (by decide);have I:=c.S 1 (.int .i64 ((p+m:Nat)+1:Int));refine⟨⟨J,G,?_,f.Q (p:=⟨b,1,none⟩) D _,H⟩,a.dig,a.len,by omega⟩;have e2:((p+(m+1):Nat):Int)=((p+m:Nat):Int)+1:=(by omega);rw[e2]
    simpa using I
  .omega
theorem iU(w:World)(b:Nat)(F ds:List Nat)(p n v:Nat)(h:gM w b F ds p)(f:n<=63)(j:v<2^n)(a:ig ds p (gx v n)):Calls prog 59 #[.pointer b,n] w λe w'=>e=.returned (.int .u64 v)/\gM w' b F ds (p+n)/\gg [b] w w':=by
 have c:=a.le h.at_le;rw[gH]at c
 have:=GH w b F ds p n h f c
 rw[KH a j]at this;exact this
theorem Bb(h:gM w b F ds p):w.cell? ⟨b,1,none⟩=some (.int .i64 p)/\w.cell? ⟨b,2,none⟩=some (.int .i64 0)/\w.frozen? ⟨b,1,none⟩=false/\∃A a,w.cell? b=some (.slice A ds.length a):=by
 obtain⟨v,G,c,e,rfl⟩:=h.ex;obtain⟨A,a,rfl,_⟩:=e.T;refine⟨by simpa using c.X 1,by simpa using c.X 2,c.U 1,A,a,by simpa using c.X 0⟩
theorem gM.move(h:gM w b F ds p){q:Nat}(j:q<=8*ds.length):gM (w.setCell ⟨b,1,none⟩ (.int .i64 q)) b F ds q:=by
 obtain⟨v,G,a,c,rfl⟩:=h.ex;have e:b∉G:=c.ne_ a (by decide);have f:=a.S 1 (.int .i64 q);exact⟨⟨v,G,by simpa using f,c.Q (p:=⟨b,1,none⟩) e _,rfl⟩,h.dig,h.len,j⟩
theorem EI(w:World)(b:Nat)(F ds:List Nat)(p n most:Nat)(h:gM w b F ds p)(K:n<=most)(J:most<=4096)(o:∀i,i<n->lW ds (p+i)=0)(j:lW ds (p+n)=1)(L:p+n+1<=8*ds.length):Calls prog 239 #[.pointer b,most] w λe w'=>e=.returned n/\gM w' b F ds (p+n+1)/\gg [b] w w':=by
 have x:=h.len;obtain⟨D,E,H,A,y,C⟩:=Bb h;have⟨HZ,H1⟩:=gy o j;clear o j;go_enter func239,ntmps239;go_wp2_with fail
 go_quiet (fail)
 go_wp2_with fail;have c:=h.Y ((zR _ _).drewN nq)
 go_loopg [5,6] n (λk z i wr=>k<=n/\z=.int .i64 ((n-k:Nat):Int)/\i=.int .i64 ((p+(n-k):Nat):Int)/\wr=w.drewN nq)
 .exact⟨zQ _,by simp,by simp,rfl⟩
 obtain⟨I,rfl,rfl,rfl⟩:=hrel;rcases gk with _|k
 .have a:=look_ok (w.drewN nq) b F ds p (p+n) c (by omega)
  rw[H1.o]at a;have M:(((p+n:Nat):Int)==8*(ds.length:Int))=false:=by rw[beq_eq_false_iff_ne];omega
  have t:((p+n:Nat):Int)=(p:Int)+n:=by omega
  rw[Nat.sub_zero];go_wp2_with fail;refine a.mono ?_;rintro e u ⟨rfl,rfl⟩;go_wp2_with fail;go_ret;have f:=c.move (q:=p+n+1) (by omega);have e2:((p+n+1:Nat):Int)=(p:Int)+n+1:=by omega
  rw[e2]at f;exact⟨rfl,f,((zR _ _).drewN nq).setCell (by simp) _⟩
 .have⟨m,ac⟩:=zX (n-(k+1))
  rw[<-ac];have s:m<n:=by omega
  have ad:n-k=m+1:=by omega
  have r:=gd ad;clear ac ad;have a:=look_ok (w.drewN nq) b F ds p (p+m) c (by omega);rw[HZ.o m s]at a;have N:((m:Int)==(most:Int))=false:=by rw[beq_eq_false_iff_ne];omega
  have t:((p+m:Nat):Int)=(p:Int)+m:=by omega
  go_wp2_with fail;refine a.mono ?_;rintro e u ⟨rfl,rfl⟩;go_wp2_with fail
  go_roundg k
  .rw[r.o]
   exact⟨by omega,by go_num,by go_num,rfl⟩
  .omega
def tv(v n:Nat):Int:=if v<2^(n-1)then(v:Int)else(v:Int)-2^n
theorem Nc(s:1<=n)(t:n<=63)(o:v<2^n):(IntKind.i64.wrap (IntKind.u64.wrap ((v:Int)*2^(64-n)))).fdiv (2^(64-n))=tv v n:=by
 have h:=ke (64-n);have c:(2:Int)^n*2^(64-n)=18446744073709551616:=by
  rw[<-Int.pow_add]
  have:n+(64-n)=64:=by omega
  rw[this];rfl
 have f:(2:Int)^(n-1)*2^(64-n)=9223372036854775808:=by
  rw[<-Int.pow_add]
  have:n-1+(64-n)=63:=by omega
  rw[this];rfl
 have ad:(v:Int)<2^n:=by exact_mod_cast o
 have q:(0:Int)<=v*2^(64-n):=Int.mul_nonneg (by omega) (by omega);have r:(v:Int)*2^(64-n)<18446744073709551616:=by
  rw[<-c];exact Int.mul_lt_mul_of_pos_right ad h
 rw[IntWalk.u64_in _ (by omega)];have e:∀x:Int,(x*2^(64-n)).fdiv (2^(64-n))=x:=λx=>by
  rw[Int.fdiv_eq_ediv_of_nonneg _ (by omega),Int.mul_ediv_cancel _ (by omega)]
 unfold tv;by_cases hs:v<2^(n-1)
 .rw[if_pos hs]
  have a:(v:Int)<2^(n-1):=by exact_mod_cast hs
  have:(v:Int)*2^(64-n)<9223372036854775808:=by
   rw[<-f];exact Int.mul_lt_mul_of_pos_right a h
  rw[IntWalk.i64_in _ (by omega),e]
 .rw[if_neg hs]
  have a:(2:Int)^(n-1)<=v:=by
   have:2^(n-1)<=v:=by omega
   exact_mod_cast this
  have:(9223372036854775808:Int)<=v*2^(64-n):=by
   rw[<-f];exact Int.mul_le_mul_of_nonneg_right a (by omega)
  have j:IntKind.i64.wrap ((v:Int)*2^(64-n))=((v:Int)-2^n)*2^(64-n):=by
   rw[IntKind.wrap_i64,Int.sub_mul,c];omega
  rw[j,e]
def vi(x:Int):Value:=.int .i64 x
theorem uW(l:List Int):∀u∈l.map vi,u.oneCell'=true:=by
 intro u a;obtain⟨d,_,rfl⟩:=List.mem_map.1 a;rfl
theorem iO:jx prog 22 3 (.int .i64 0) 1 8:=.mk' underlying22 (by kernel_rfl)
theorem gz.at_{α:Type}{f:α->Value}{l:List α}(h:gz f w A l)(c:m<l.length):∃b o,A=some ⟨b,o,none⟩/\w.cell? ⟨b,o+m,none⟩=some (f l[m]):=by
 obtain⟨b,o,e,_,a⟩:=h.ex (by omega);exact⟨b,o,e,a m _ (zF c)⟩
theorem uE(x:Int)(w:World)(h:iy x):Calls prog 223 #[x] w λe w'=>e=.returned (.bool true)/\w=w':=by
 obtain⟨a,c⟩:=h;go_enter func223,ntmps223;go_wp2;go_ret;exact⟨rfl,rfl⟩
theorem xn(k:Nat)(w:World)(h:k<=25):Calls prog 197 #[k] w λe w'=>e=.returned (.bool true)/\w=w':=by
 have a:decide ((k:Int)<=(25:Int))=true:=by simp;omega
 go_enter func197,ntmps197;go_wp2;go_ret;exact⟨rfl,rfl⟩
theorem xy(x:Int)(w:World)(h:iy x):Calls prog 184 #[x] w λe w'=>e=.returned (.int .u64 (kM x))/\w=w':=by
 have c:=h;obtain⟨o,q⟩:=h;by_cases hx:0<=x
 .have j:decide ((0:Int)<=x)=true:=by simpa using hx
  go_enter func184,ntmps184
  go_wp2_with(go_at_call 223;refine gB (uE _ _ c) ?_)
  go_ret;refine⟨?_,rfl⟩
  have:((kM x:Nat):Int)=2*x:=by unfold kM;rw[if_pos hx];omega
  rw[this];rfl
 .have j:decide ((0:Int)<=x)=false:=by simpa using hx
  have a:((kM x:Nat):Int)=-(2*x)-1:=by unfold kM;rw[if_neg hx];omega
  have f:=gd a;clear a;go_enter func184,ntmps184
  go_wp2_with(go_at_call 223;refine gB (uE _ _ c) ?_)
  go_ret;refine⟨?_,rfl⟩;rw[f.o]
  first|rfl|(go_num)
theorem ur(u:Nat)(w:World)(h:u<2147483648):Calls prog 171 #[.int .u64 u] w λe w'=>e=.returned (.int .i64 (jr u))/\w=w':=by
 have j:decide ((2147483648:Int)<=(u:Int))=false:=by simp;omega
 by_cases hx:u%2=0
 .have f:((u:Int)%2==0)=true:=by rw[beq_iff_eq];omega
  have a:jr u=(u:Int) / 2:=by unfold jr;rw[if_pos hx];omega
  have c:=gd a;clear a hx;go_enter func171,ntmps171;go_wp2;go_ret;rw[c.o];exact⟨rfl,rfl⟩
 .have f:((u:Int)%2==0)=false:=by rw[beq_eq_false_iff_ne];omega
  have a:jr u=-((u:Int) / 2)-1:=by unfold jr;rw[if_neg hx];omega
  have c:=gd a;clear a hx;go_enter func171,ntmps171;go_wp2;go_ret;rw[c.o];exact⟨rfl,rfl⟩
theorem OC(k:Nat)(x:Int)(w:World)(j:k<=25)(h:iy x):Calls prog 248 #[k,x] w λe w'=>e=.returned (.int .i64 (qf k x))/\w=w':=by
 have r:=Bc h;have⟨u,ac⟩:=zX (kM x);have a:=xy x w h;rw[<-ac]at r a;have o:u / 2^k<=u:=div_le_self _ _;have⟨q,aa⟩:=zX (u / 2^k);have t:(u:Int) / 2^k=(q:Int):=by rw[aa];simp
 rw[<-aa]at o;have f:qf k x=if q<32 then q+1+k else 65:=by unfold qf;rw[<-ac,<-aa]
 have c:=gd f;clear f ac aa;by_cases hs:q<32
 .have s:decide ((q:Int)<32)=true:=by simp;omega
  go_enter func248,ntmps248
  go_wp2_with(first|(go_at_call 197;refine gB (xn _ _ j) ?_)|(go_at_call 223;refine gB (uE _ _ h) ?_)|(go_at_call 184;refine gB a ?_))
  go_ret;rw[c.o,if_pos hs];refine⟨?_,rfl⟩
  first|rfl|(go_num)
 .have s:decide ((q:Int)<32)=false:=by simp;omega
  go_enter func248,ntmps248
  go_wp2_with(first|(go_at_call 197;refine gB (xn _ _ j) ?_)|(go_at_call 223;refine gB (uE _ _ h) ?_)|(go_at_call 184;refine gB a ?_))
  go_ret;rw[c.o,if_neg hs];exact⟨rfl,rfl⟩
theorem Na(k:Nat)(l:List Int)(x:Int):kr k (l++[x])=kr k l+qf k x:=by simp[kr]
theorem jD{α:Type}(l:List α)(h:m<l.length):l.take (m+1)=l.take m++[l[m]]:=by
 rw[take_succ_eq_append_getElem h]
theorem Bw(k:Nat)(l:List Int)(A:Option Addr)(r:Nat)(w:World)(t:k<=25)(C:∀x∈l,iy x)(M:gz vi w A l)(N:l.length<=1099511627776):Calls prog 226 #[k,.slice A l.length r] w λe w'=>e=.returned (.int .i64 (kr k l))/\w=w':=by
 have I:=gd C;clear C;have⟨n,hn⟩:=zX l.length;rw[<-hn]at N⊢;have u:=gd hn;clear hn;go_enter func226,ntmps226;go_wp2_with fail
 go_loopg [5,10] n (λj s i wr=>j<=n/\i=.int .i64 ((n-j:Nat):Int)/\s=.int .i64 ((kr k (l.take (n-j)):Nat):Int)/\w=wr)
 .exact⟨zQ _,by simp,by simp[kr],rfl⟩
 obtain⟨P,rfl,rfl,rfl⟩:=hrel;rcases gk with _|j
 .have Q:decide (((n-0:Nat):Int)<(n:Int))=false:=by simp
  have e:l.take n=l:=by rw[u.o,zN]
  rw[Nat.sub_zero,e];go_wp2;go_ret;exact⟨rfl,rfl⟩
 .have⟨m,ai⟩:=zX (n-(j+1))
  rw[<-ai];have K:m<n:=by omega
  have z:n-j=m+1:=by omega
  have E:=gd z;clear ai z;have q:m<l.length:=by rw[<-u.o];exact K
  obtain⟨b,o,rfl,f⟩:=M.at_ q;have a:=Na k (l.take m) l[m];rw[<-jD l q]at a;have h:=GK k (l.take m) t;rw[zI]at h;have⟨x,hx⟩:=zX (l[m]);rw[<-hx]at f a;have ad:w.cell? ⟨b,o+m,none⟩=some (.int .i64 x):=f;have L:iy x:=by rw[hx];exact I.o _ (zG _)
  have⟨s,hs⟩:=zX (kr k (l.take m));rw[<-hs]at a h⊢;have J:=pN k x t;have H:=gd a;have O:s<=65*n:=by omega
  have y:=OC k x w t L;have⟨c,ac⟩:=zX (qf k x);rw[<-ac]at y J;have D:=gd ac;clear a f hx hs h ac q
  go_wp2_with(go_at_call 248;refine gB y ?_)
  go_roundg j
  .rw[E.o,H.o,<-D.o]
   exact⟨by omega,by go_num,by go_num,rfl⟩
  .omega
theorem Ba(l:List Int)(A:Option Addr)(a:Nat)(w:World)(C:∀x∈l,iy x)(z:gz vi w A l)(D:l.length<=1099511627776):Calls prog 173 #[.slice A l.length a] w λe w'=>e=.returned (.int .i64 (j8 l))/\w=w':=by
 have f:=λk (hk:k<=25)=>Bw k l A a w hk C z D;have u:=f 0 (by omega);have ad:=gd f;clear f C z;go_enter func173,ntmps173;go_wp2_with fail;refine gB u ?_;clear u;go_wp2_with fail
 go_loopg [3,4,5] 25 (λj b s i wr=>j<=25/\b=.int .i64 (oV l (25-j))/\s=.int .i64 (kr (oV l (25-j)) l)/\i=.int .i64 ((26-j:Nat):Int)/\w=wr)
 .exact⟨zQ _,rfl,rfl,rfl,rfl⟩
 obtain⟨J,rfl,rfl,rfl,rfl⟩:=hrel;rcases gk with _|j
 .have K:decide (((26-0:Nat):Int)<=(25:Int))=false:=by simp
  go_wp2;go_ret;exact⟨rfl,rfl⟩
 .have⟨m,ag⟩:=zX (25-(j+1))
  rw[<-ag];have I:m<25:=by omega
  have o:25-j=m+1:=by omega
  have q:26-(j+1)=m+1:=by omega
  have r:26-j=m+2:=by omega
  rw[q];have⟨HM,ae⟩:=gy o r;have y:oV l (m+1)=if kr (m+1) l<kr (oV l m) l then m+1 else oV l m:=rfl;have h:=gd y;have c:=ad.o (m+1) (by omega);have⟨s,hs⟩:=zX (kr (m+1) l);have⟨b,hb⟩:=zX (oV l m);rw[<-hs]at c;rw[<-hb];have⟨t,ht⟩:=zX (kr b l);rw[<-ht];have⟨HB,HT,ac⟩:=Q9 hb ht hs;clear y ag o q r hb ht hs;have H:((m+1:Nat):Int)=(m:Int)+1:=by omega
  by_cases hlt:s<t
  .have E:decide (s<t)=true:=by simpa using hlt
   go_wp2_with(go_at_call 226;refine gB c ?_)
   go_roundg j
   .rw[HM.o,ae.o,h.o,<-HB.o,<-ac.o,<-HT.o,if_pos hlt,<-ac.o]
    exact⟨by omega,by go_num,rfl,by go_num,rfl⟩
   .omega
  .have E:decide (s<t)=false:=by simpa using hlt
   go_wp2_with(go_at_call 226;refine gB c ?_)
   go_roundg j
   .rw[HM.o,ae.o,h.o,<-HB.o,<-ac.o,<-HT.o,if_neg hlt,<-HT.o]
    exact⟨by omega,rfl,rfl,by go_num,rfl⟩
   .omega
def oE:List (Int × Int):=[(0,1),(1,0),(1,1),(-1,1),(0,2),(2,0),(1,2),(-1,2),(2,1),(-2,1),(2,2),(-2,2),(0,3),(3,0),(1,3),(-1,3),(3,1),(-3,1),(2,3),(-2,3),(3,2),(-3,2),(0,4),(4,0)]
def pA(i:Nat):Int:=(oE.getD i (0,0)).1
def qs(i:Nat):Int:=(oE.getD i (0,0)).2
theorem PK(i:Nat):-4<=pA i/\pA i<=4/\0<=qs i/\qs i<=4:=by
 rcases zZ i 24 with h|h
 .have:∀i:Fin 24,-4<=pA i.1/\pA i.1<=4/\0<=qs i.1/\qs i.1<=4:=by decide
  exact this ⟨i,h⟩
 .have:oE.getD i (0,0)=(0,0):=by rw[zD,getElem?_eq_none (by simpa[oE]using h)];rfl
  unfold pA qs;rw[this]
  decide
def pd(c W:Nat):Int:=if 24<c then(c:Int)-24 else max (qs (c-1)*W+pA (c-1)) 1
def oy(d W:Nat):Nat->Nat->Nat
 | 0,_=>d+24
 | f+1,c=>if pd c W=d then c else oy d W f (c+1)
def nA(d W:Nat):Nat:=oy d W 24 1
theorem CU{d W:Nat}(a:1<=d):∀f c,c+f=25->1<=c->(1<=oy d W f c/\oy d W f c<=d+24)/\pd (oy d W f c) W=d
 | 0,c,h,h1=>by
  refine⟨by simp only[oy];omega,?_⟩;have e:oy d W 0 c=d+24:=rfl;rw[e];unfold pd;rw[if_pos (by omega)];omega
 | f+1,c,h,h1=>by
  unfold oy;split
  .rename_i hn
   exact⟨by omega,hn⟩
  .exact CU a f (c+1) (by omega) (by omega)
theorem AG{W:Nat}(a:1<=d):(1<=nA d W/\nA d W<=d+24)/\pd (nA d W) W=d:=CU a 24 1 rfl (by omega)
structure gZ where
 len:Nat
 dist:Nat
 lit:Int
def gZ.isLit(t:gZ):Bool:=decide (t.len=0)&&decide (t.dist=0)
def gZ.isCopy(t:gZ):Bool:=decide (3<=t.len)&&decide (t.len<=64)&&decide (1<=t.dist)&&decide (t.dist<=1024)&&decide (t.lit=0)
def gZ.ok(t:gZ):Prop:=t.isLit=true\/t.isCopy=true
theorem gZ.isLit_iff{t:gZ}:t.isLit=true ↔ t.len=0/\t.dist=0:=by simp[gZ.isLit]
theorem gZ.isCopy_iff{t:gZ}:t.isCopy=true ↔ 3<=t.len/\t.len<=64/\1<=t.dist/\t.dist<=1024/\t.lit=0:=by simp[gZ.isCopy,and_assoc]
def lz(t:gZ):List Go.Value:=[.int .i64 t.len,.int .i64 t.dist,.int .i64 t.lit]
def oN(t:gZ):Go.Value:=.agg #[t.len,t.dist,t.lit]
theorem CJ{l:List gZ}{t:gZ}(h:l[i]?=some t):(l.flatMap lz)[i*3]?=some (.int .i64 t.len)/\(l.flatMap lz)[i*3+1]?=some (.int .i64 t.dist)/\(l.flatMap lz)[i*3+2]?=some (.int .i64 t.lit):=by
 induction l generalizing i with
 | nil=>simp at h
 | cons s l ih=>
  rw[flatMap_cons];have e:(lz s).length=3:=rfl
  cases i with
  | zero=>
   simp at h;subst h;refine⟨rfl,rfl,rfl⟩
  | succ i=>
   obtain⟨a,b,c⟩:=ih (by simpa using h);refine⟨?_,?_,?_⟩
   .rw[zS (by omega),e,show(i+1)*3-3=i*3 by omega];exact a
   .rw[zS (by omega),e,show(i+1)*3+1-3=i*3+1 by omega];exact b
   .rw[zS (by omega),e,show(i+1)*3+2-3=i*3+2 by omega];exact c
structure iK (w:World):Prop where
 px:∀i,i<24->w.cell? ⟨0,i*2,none⟩=some (.int .i64 (pA i))
 py:∀i,i<24->w.cell? ⟨0,i*2+1,none⟩=some (.int .i64 (qs i))
 lt:0<w.heap.size
theorem iK.Z(h:iK w)(a:gg F w w')(hF:0∉F):iK w':=
 ⟨λi hi=>(World.cell?_of_block (w:=w) (a.block 0 h.lt hF)).trans (h.px i hi),λi hi=>(World.cell?_of_block (w:=w) (a.block 0 h.lt hF)).trans (h.py i hi),Nat.lt_of_lt_of_le h.lt a.size⟩
theorem iK.Y(h:iK w)(a:gg [] w w'):iK w':=h.Z a (by simp)
theorem FC(c W:Nat)(w:World)(h:iK w)(E:1<=c)(H:c<=1048)(j:1<=W)(o:W<=64):Calls prog 202 #[c,W] w λe w'=>e=.returned (.int .i64 (pd c W))/\∃n,w'=w.drewN n:=by
 have K:=Ra c 1 (by omega);have L:=Ra 1048 c (by omega);have M:=Ra W 1 (by omega);have N:=Ra 64 W (by omega);by_cases hb:24<c
 .have s:=jo 24 c (by omega)
  have e:pd c W=(c:Int)-24:=by unfold pd;rw[if_pos hb]
  rw[e];go_enter func202,ntmps202;go_wp2;go_ret;exact⟨rfl,0,rfl⟩
 .have s:=Ra 24 c (by omega)
  obtain⟨i,f⟩:∃i,c=i+1:=⟨c-1,by omega⟩;subst f;have a:i<24:=by omega
  obtain⟨I,J,q,r⟩:=PK i;have e:pd (i+1) W=max (qs i*W+pA i) 1:=by unfold pd;rw[if_neg hb];rfl
  have C:=h.px i a;have D:=h.py i a;rw[e];generalize pA i=x at *;generalize qs i=y at *;have⟨m,hm⟩:=zX (y*(W:Int));have u:0<=m:=by rw[hm];exact Int.mul_nonneg q (by omega)
  have ad:m<=256:=by rw[hm];exact Int.mul_le_mul (c:=4) (d:=64) r (by omega) (by omega) (by omega)
  rw[<-hm];have t:y*(W:Int)=m:=hm.symm;clear e hm hb;go_enter func202,ntmps202;go_wp2_with fail
  go_quiet (fail)
  go_wp2_with fail
  all_goals
   go_ret;exact⟨congrArg (λz=>Ending.returned (.int .i64 z)) (show _=max (m+x) 1 by omega),nq,rfl⟩
theorem Oa(d W:Nat)(w:World)(h:iK w)(E:1<=d)(H:d<=1024)(r:1<=W)(s:W<=64):Calls prog 172 #[d,W] w λe w'=>e=.returned (.int .i64 (nA d W))/\∃n,w'=w.drewN n:=by
 have J:=Ra d 1 (by omega);have K:=Ra 1024 d (by omega);have L:=Ra W 1 (by omega);have M:=Ra 64 W (by omega);have u:nA d W=oy d W 24 1:=rfl;have x:=λc (n:Nat) (a:1<=c) (b:c<=1048)=>FC c W (w.drewN n) (h.Y ((zR [] w).drewN n)) a b r s;have⟨HD,HN⟩:=gy u x;clear u x h;go_enter func172,ntmps172;go_wp2_with fail
 go_loopg [5] 24 (λj iv wr=>∃c n:Nat,iv=.int .i64 c/\c+j=25/\1<=c/\nA d W=oy d W j c/\wr=w.drewN n)
 .exact⟨1,0,rfl,rfl,zQ _,HD.o,rfl⟩
 obtain⟨c,n,rfl,I,y,o,rfl⟩:=hrel;rcases gk with _|j
 .have C:=mF c 24 (by omega)
  go_wp2;go_ret;rw[o];exact⟨congrArg (λz=>Ending.returned (.int .i64 z)) (show(d:Int)+24=((d+24:Nat):Int)by omega),n,rfl⟩
 .have C:=jB c 24 (by omega)
  have t:=HN.o c n y (by omega);have f:oy d W (j+1) c=if pd c W=d then c else oy d W j (c+1):=rfl;generalize pd c W=nr at *;by_cases hq:nr=(d:Int)
  .have D:(nr==(d:Int))=true:=by simpa using hq
   rw[if_pos hq]at f;have q:=gd f;clear hq f;go_wp2_with fail;refine t.mono ?_;rintro e w' ⟨rfl,k,rfl⟩;go_wp2_with fail;go_ret;rw[o,q.o];exact⟨rfl,n+k,by first|rfl|rw[World.drewN_drewN]⟩
  .have D:(nr==(d:Int))=false:=by simpa using hq
   rw[if_neg hq]at f;have⟨q,ad⟩:=gy f o;clear hq f o;go_wp2_with fail;refine t.mono ?_;rintro e w' ⟨rfl,k,rfl⟩;go_wp2_with fail
   go_roundg j
   .exact⟨c+1,n+k,by go_num,by omega,by omega,by rw[ad.o,q.o],by first|rfl|rw[World.drewN_drewN]⟩
   .omega
theorem xt(t:gZ)(w:World):Calls prog 170 #[oN t] w λe w'=>e=.returned (.bool t.isLit)/\gg [] w w':=by
 obtain⟨a,b,c⟩:=t;have e:gZ.isLit ⟨a,b,c⟩=((a:Int)==0&&(b:Int)==0):=by
  unfold gZ.isLit;rw[Bool.eq_iff_iff];simp
 rw[e];have f:gh (∀o,gg [] w (w.alloc o)):=gd λo=>(zR [] w).alloc o;show Calls _ _ #[.agg #[.int .i64 a,.int .i64 b,.int .i64 c]] _ _;by_cases ha:(a:Int)=0
 .have h:((a:Int)==0)=true:=by simpa using ha
  go_enter func170,ntmps170;go_wp2_with fail;go_ret;refine⟨?_,f.o _⟩;rw[ha];rfl
 .have h:((a:Int)==0)=false:=by simpa using ha
  go_enter func170,ntmps170;go_wp2_with fail;go_ret;refine⟨?_,f.o _⟩;rw[h];rfl
theorem Mw(t:gZ)(w:World)(h:t.isCopy=true):Calls prog 225 #[oN t] w λe w'=>e=.returned (.bool true)/\gg [] w w':=by
 rw[gZ.isCopy_iff]at h;obtain⟨a,b,c⟩:=t;obtain⟨q,r,s,u,f⟩:=h;simp only at q r s u f;subst f;have x:=jB 3 a (by omega);have y:=jB a 64 (by omega);have z:=jB 1 b (by omega);have C:=jB b 1024 (by omega);have j:gh (∀o,gg [] w (w.alloc o)):=gd λo=>(zR [] w).alloc o;show Calls _ _ #[.agg #[.int .i64 a,.int .i64 b,.int .i64 0]] _ _;go_enter func225,ntmps225;go_wp2_with fail;go_ret;exact⟨rfl,j.o _⟩
def nY(w:World)(A:Option Addr)(l:List gZ):Prop:=gz (λu=>u) w A (l.flatMap lz)
theorem nY.at_{l:List gZ}(h:nY w A l){t:gZ}(f:l[m]?=some t):∃g o,A=some ⟨g,o,none⟩/\w.cell? ⟨g,o+m*3,none⟩=some (.int .i64 t.len)/\w.cell? ⟨g,o+m*3+1,none⟩=some (.int .i64 t.dist)/\w.cell? ⟨g,o+m*3+2,none⟩=some (.int .i64 t.lit):=by
 obtain⟨a,b,c⟩:=CJ f;have j:=(List.getElem?_eq_some_iff.1 a).1;obtain⟨g,o,rfl,_,e⟩:=h.ex (by omega);exact⟨g,o,rfl,e _ _ a,e _ _ b,e _ _ c⟩
theorem nY.Z{l:List gZ}(h:nY w A l)(c:gg F w w')(a:∀ad,A=some ad->ad.block∉F):nY w' A l:=gz.Z h c a
theorem nY.Y{l:List gZ}(h:nY w A l)(a:gg [] w w'):nY w' A l:=gz.Y h a
theorem PA(l:List gZ)(A:Option Addr)(r:Nat)(w:World)(O:l.length<=1099511627776)(a:∀t∈l,t.ok)(N:nY w A l):Calls prog 169 #[.slice A l.length r] w λe w'=>e=.returned (.bool true)/\gg [] w w':=by
 have⟨n,hn⟩:=zX l.length;rw[<-hn]at O⊢;have⟨HN,HK⟩:=gy hn a;clear hn a;go_enter func169,ntmps169;go_wp2_with fail
 go_loopg [7] n (λj iv wr=>∃i:Nat,iv=.int .i64 i/\i+j=n/\gg [] w wr)
 .exact⟨0,rfl,by omega,zR _ _⟩
 obtain⟨i,rfl,P,f⟩:=hrel;rcases gk with _|j
 .obtain rfl:i=n:=by omega
  go_wp2;go_ret;exact⟨rfl,f⟩
 .have I:i<n:=by omega
  have q:i<l.length:=by rw[<-HN.o];exact I
  have c:=HK.o l[i] (zG q);have⟨t,ht⟩:=zX (l[i]);have s:l[i]?=some t:=by rw[ht];exact zF q
  rw[<-ht]at c;obtain⟨g,o,rfl,c1,c2,c3⟩:=(N.Y f).at_ s;have u:=λw=>xt t w;have z:=λw h=>Mw t w h;have C:oN t=.agg #[t.len,t.dist,t.lit]:=rfl;unfold gZ.ok at c;rw[C]at u z;generalize t.len=ta at *;generalize t.dist=tb at *;generalize t.lit=tc at *;clear s ht q C;have M:=gn.new wr 187 #[ta,tb,tc];have E:=(zR [] wr).alloc (.cells #[ta,tb,tc] 187);go_wp2_with fail;refine(u _).mono ?_;rintro e Q ⟨rfl,x⟩;have ad:=M.Z x (by simp);have J:=ad.X 0;have K:=ad.X 1;have L:=ad.X 2;simp only[size_toArray,zK,length_nil,getElem?_toArray,getElem?_cons_zero,getElem?_cons_succ]at J K L;have y:=f.tq (E.tq x)
  cases hlt:t.isLit with
  | true=>
   go_wp2_with fail
   go_roundg j
   .exact⟨i+1,by go_num,by omega,y⟩
   .omega
  | false=>
   rw[hlt]at c;have D:t.isCopy=true:=(by rcases c with h|h;cases h;exact h);go_wp2_with fail;refine(z _ D).mono ?_;rintro e R ⟨rfl,H⟩;go_wp2_with fail
   go_roundg j
   .exact⟨i+1,by go_num,by omega,y.tq H⟩
   .omega
theorem jX(a:1<=d)(c:d<=16):(2:Int)<=2^d/\(2:Int)^d<=65536:=by
 have e:(2:Int)^1<=2^d:=by
  have:=Nat.pow_le_pow_right (n:=2) (by decide) a
  exact_mod_cast this
 have f:(2:Int)^d<=2^16:=by
  have:=Nat.pow_le_pow_right (n:=2) (by decide) c
  exact_mod_cast this
 omega
theorem o7(v:Int)(d:Nat)(w:World)(f:1<=d)(h:d<=16):Calls prog 81 #[v,d] w λe w'=>e=.returned (.int .i64 (gU v d))/\w=w':=by
 have q:=Ra d 1 (by omega);have r:=Ra 16 d (by omega);obtain⟨j,o⟩:=jX f h;have a:=Gc v (i:=d) (by omega);have c:=gd a;clear a;go_enter func81,ntmps81;go_wp2;go_ret;refine⟨?_,rfl⟩
 first|exact congrArg (λz=>Ending.returned (.int .i64 z)) c.o
theorem oB(v:Int)(d:Nat)(w:World)(f:1<=d)(j:d<=16):Calls prog 79 #[v,d] w λe w'=>e=.returned (.int .i64 (ii v d))/\w=w':=by
 have C:=Ra d 1 (by omega);have D:=Ra 16 d (by omega);obtain⟨ad,t⟩:=jX f j;have r:=sF f;have x:=ke (d-1);have h:=o7 v d w f j;have o:=jK v d;have q:=jJ v d;have c:ii v d=if 2^(d-1)<=gU v d then gU v d-2^d else gU v d:=rfl;have⟨u,hu⟩:=zX (gU v d);rw[<-hu]at h o q c;have a:=gd c;have z:(2:Int)^((d:Int)-1).toNat=2^(d-1):=by congr 1;omega
 have y:(2:Int)^(d-1)<=32768:=by omega
 clear c hu r;by_cases hs:2^(d-1)<=u
 .have s:decide ((2:Int)^(d-1)<=u)=true:=by simpa using hs
  rw[if_pos hs]at a;go_enter func79,ntmps79
  go_wp2_with(go_at_call 81;refine gB h ?_)
  go_ret;rw[a.o];exact⟨rfl,rfl⟩
 .have s:decide ((2:Int)^(d-1)<=u)=false:=by simpa using hs
  rw[if_neg hs]at a;go_enter func79,ntmps79
  go_wp2_with(go_at_call 81;refine gB h ?_)
  go_ret;rw[a.o];exact⟨rfl,rfl⟩
def lL(x:Int):Prop:=-1152921504606846976<=x/\x<=1152921504606846976
theorem uK(a b:Int)(w:World)(j:lL a)(o:lL b):Calls prog 244 #[a,b] w λe w'=>e=.returned (.int .i64 (kS a b))/\w=w':=by
 obtain⟨r,s⟩:=j;obtain⟨t,u⟩:=o;by_cases h:a<b
 .have q:decide (a<b)=true:=zB h
  have c:kS a b=b-a:=by unfold kS;rw[if_pos h]
  have f:=gd c;clear c;go_enter func244,ntmps244;go_wp2;go_ret;rw[f.o];exact⟨rfl,rfl⟩
 .have q:decide (a<b)=false:=zA h
  have c:kS a b=a-b:=by unfold kS;rw[if_neg h]
  have f:=gd c;clear c;go_enter func244,ntmps244;go_wp2;go_ret;rw[f.o];exact⟨rfl,rfl⟩
theorem LG(t a b c:Int)(B:Nat)(o:Nat)(w:World)(f:lL t)(y:lL a)(z:lL b)(C:lL c)(D:w.cell? B=some (.int .i64 a))(E:w.cell? ⟨B,1,none⟩=some (.int .i64 b))(H:w.cell? ⟨B,2,none⟩=some (.int .i64 c)):Calls prog 237 #[t,.slice B 3 o] w λe w'=>e=.returned (.int .i64 (uz t a b c))/\w=w':=by
 have⟨b1,ac⟩:=zX (if kS b t<kS a t then b else a);have u:uz t a b c=if kS c t<kS b1 t then c else b1:=by rw[ac];rfl
 have x:lL b1:=by rw[ac];split<;>assumption
 have h:=uK a t w y f;have q:=uK b t w z f;have r:=uK c t w C f;have ad:=uK b1 t w x f;have⟨HD,HB⟩:=gy u ac;have⟨da,af⟩:=zX (kS a t);have⟨db,ag⟩:=zX (kS b t);have⟨dc,ah⟩:=zX (kS c t);have⟨d1,ae⟩:=zX (kS b1 t);rw[<-af]at h HB;rw[<-ag]at q HB;rw[<-ah]at r HD;rw[<-ae]at ad HD;clear u ac af ag ah ae x f y z C;go_enter func237,ntmps237;go_wp2_with fail
 go_loopg [5,13] 3 (λj bv iv wr=>w=wr/\((j=3/\iv=.int .i64 0/\bv=.int .i64 a)\/(j=2/\iv=.int .i64 1/\bv=.int .i64 a)\/(j=1/\iv=.int .i64 2/\bv=.int .i64 b1)\/(j=0/\iv=.int .i64 3/\bv=.int .i64 (uz t a b c))))
 .exact⟨rfl,.inl ⟨rfl,rfl,rfl⟩⟩
 obtain⟨rfl,hrel⟩:=hrel;rcases hrel with⟨rfl,rfl,rfl⟩|⟨rfl,rfl,rfl⟩|⟨rfl,rfl,rfl⟩|⟨rfl,rfl,rfl⟩
 .go_wp2_with(go_at_call 244;refine gB h ?_)
  go_roundg 2
  .exact⟨rfl,.inr (.inl ⟨rfl,rfl,rfl⟩)⟩
  .omega
 .by_cases hlt:db<da
  .have s:decide (db<da)=true:=zB hlt
   rw[if_pos hlt]at HB
   go_wp2_with(first|(go_at_call 244;((with_reducible refine q.mono ?_);rintro e w' ⟨rfl,rfl⟩))|(go_at_call 244;((with_reducible refine h.mono ?_);rintro e w' ⟨rfl,rfl⟩)))
   go_roundg 1
   .exact⟨rfl,.inr (.inr (.inl ⟨rfl,rfl,by rw[HB.o]⟩))⟩
   .omega
  .have s:decide (db<da)=false:=zA hlt
   rw[if_neg hlt]at HB
   go_wp2_with(first|(go_at_call 244;((with_reducible refine q.mono ?_);rintro e w' ⟨rfl,rfl⟩))|(go_at_call 244;((with_reducible refine h.mono ?_);rintro e w' ⟨rfl,rfl⟩)))
   go_roundg 1
   .exact⟨rfl,.inr (.inr (.inl ⟨rfl,rfl,by rw[HB.o]⟩))⟩
   .omega
 .by_cases hlt:dc<d1
  .have s:decide (dc<d1)=true:=zB hlt
   rw[if_pos hlt]at HD
   go_wp2_with(first|(go_at_call 244;((with_reducible refine r.mono ?_);rintro e w' ⟨rfl,rfl⟩))|(go_at_call 244;((with_reducible refine ad.mono ?_);rintro e w' ⟨rfl,rfl⟩)))
   go_roundg 0
   .exact⟨rfl,.inr (.inr (.inr ⟨rfl,rfl,by rw[HD.o]⟩))⟩
   .omega
  .have s:decide (dc<d1)=false:=zA hlt
   rw[if_neg hlt]at HD
   go_wp2_with(first|(go_at_call 244;((with_reducible refine r.mono ?_);rintro e w' ⟨rfl,rfl⟩))|(go_at_call 244;((with_reducible refine ad.mono ?_);rintro e w' ⟨rfl,rfl⟩)))
   go_roundg 0
   .exact⟨rfl,.inr (.inr (.inr ⟨rfl,rfl,by rw[HD.o]⟩))⟩
   .omega
 .go_wp2
  go_ret;exact⟨rfl,rfl⟩
theorem yU(l:List Int)(A:Option Addr)(f W H d:Nat)(w:World)(I:1<=W)(q:W<=64)(E:1<=H)(h:H<=64)(z:1<=d)(C:d<=16)(a:l.length=W*H)(s:ie d l)(D:gz vi w A l):Calls prog 190 #[.slice A l.length f,W,H,d] w λe w'=>e=.returned (.bool true)/\w=w':=by
 have S:=Ra W 1 (by omega);have T:=Ra 64 W (by omega);have U:=Ra H 1 (by omega);have V:=Ra 64 H (by omega);have X:=Ra d 1 (by omega);have Y:=Ra 16 d (by omega);obtain⟨M,N⟩:=jX z C;have⟨m,hm⟩:=zX l.length;rw[<-hm]at a⊢;have K:(W:Int)*(H:Int)=(m:Int):=by rw[a];simp
 have L:m<=4096:=by rw[a];exact zL q h
 have⟨HN,HS⟩:=gy hm s;clear hm a s;go_enter func190,ntmps190;go_wp2_with fail
 go_loopg [41] m (λj i wr=>j<=m/\i=.int .i64 ((m-j:Nat):Int)/\w=wr)
 .exact⟨zQ _,by simp,rfl⟩
 obtain⟨R,rfl,rfl⟩:=hrel;rcases gk with _|j
 .have Z:decide (((m-0:Nat):Int)<(m:Int))=false:=by simp
  go_wp2;go_ret;exact⟨rfl,rfl⟩
 .have⟨i,ac⟩:=zX (m-(j+1))
  rw[<-ac];have y:i<m:=by omega
  have ad:m-j=i+1:=by omega
  have u:=gd ad;clear ac ad;have r:i<l.length:=by rw[<-HN.o];exact y
  obtain⟨g,o,rfl,c⟩:=D.at_ r;have t:=HS.o l[i] (zG _);have⟨x,af⟩:=zX (l[i]);rw[<-af]at c t;have J:w.cell? ⟨g,o+i,none⟩=some (.int .i64 x):=c;obtain⟨O,P⟩:=t;have t9:decide (x<0)=false:=zA (by omega);have Q:decide ((2:Int)^d<=x)=false:=zA (by omega);clear c af r;go_wp2
  go_roundg j
  .rw[u.o]
   exact⟨by omega,by go_num,rfl⟩
  .omega
theorem Cs(ks:List Nat)(A:Option Addr)(f:Nat)(w:World)(a:∀k∈ks,k<10)(t:ks.length<=64)(s:gz i64 w A ks):Calls prog 191 #[.slice A ks.length f,ks.length] w λe w'=>e=.returned (.bool true)/\w=w':=by
 have⟨m,hm⟩:=zX ks.length;rw[<-hm]at t⊢;have⟨HN,HS⟩:=gy hm a;clear hm a;go_enter func191,ntmps191;go_wp2_with fail
 go_loopg [13] m (λj i wr=>j<=m/\i=.int .i64 ((m-j:Nat):Int)/\w=wr)
 .exact⟨zQ _,by simp,rfl⟩
 obtain⟨C,rfl,rfl⟩:=hrel;rcases gk with _|j
 .have D:decide (((m-0:Nat):Int)<(m:Int))=false:=by simp
  go_wp2;go_ret;exact⟨rfl,rfl⟩
 .have⟨i,ac⟩:=zX (m-(j+1))
  rw[<-ac];have r:i<m:=by omega
  have ad:m-j=i+1:=by omega
  have q:=gd ad;clear ac ad;have h:i<ks.length:=by rw[<-HN.o];exact r
  obtain⟨g,o,rfl,c⟩:=s.at_ h;have u:=HS.o ks[i] (zG _);have⟨x,af⟩:=zX (ks[i]);rw[<-af]at c u;have y:w.cell? ⟨g,o+i,none⟩=some (.int .i64 x):=c;have E:=Ra x 0 (by omega);have z:=mF 10 x (by omega);clear c af h;go_wp2
  go_roundg j
  .rw[q.o]
   exact⟨by omega,by go_num,rfl⟩
  .omega
theorem gz.vi_getD{o:Nat}(e:∀(i:Nat) (a:Int),l[i]?=some a->w.cell? ⟨b,o+i,none⟩=some (vi a))(c:m<l.length):w.cell? ⟨b,o+m,none⟩=some (.int .i64 (l.getD m 0)):=by
 have:=e m l[m] (zF c)
 rw[this,zD,zF c];rfl
theorem xJ(l:List Int)(A:Option Addr)(t W x y:Nat)(w:World)(R:1<=W)(S:W<=64)(hx:x<W)(hy:y<64)(H:y*W+x<=l.length)(E:gz vi w A l)(u:l.length<=1099511627776):Calls prog 192 #[.slice A l.length t,W,x,y] w λe w'=>e=.returned (.tuple #[.int .i64 (iC l W x y).w,.int .i64 (iC l W x y).n,.int .i64 (iC l W x y).nw,.int .i64 (iC l W x y).ne])/\∃n,w'=w.drewN n:=by
 have t1:=Ra W 1 (by omega);have t2:=Ra 64 W (by omega);have t3:=Ra x 0 (by omega);have t4:decide (W<=x)=false:=zA (by omega);have t5:=Ra y 0 (by omega);have t6:=mF 64 y (by omega);have⟨m,hm⟩:=zX l.length;have⟨yw,ao⟩:=zX (y*W);have⟨p,hp⟩:=zX (y*W+x);have Y:(y:Int)*(W:Int)=(yw:Int):=by rw[ao];simp
 have aJ:(yw:Int)+(x:Int)=(p:Int):=by rw[hp,ao];simp
 have C:=λ(h:0<l.length)=>E.ex h;have D:iC l W x y=if y=0 then(if x=0 then⟨0,0,0,0⟩else⟨l.getD (p-1) 0,l.getD (p-1) 0,l.getD (p-1) 0,l.getD (p-1) 0⟩)
   else⟨if 0<x then l.getD (p-1) 0 else l.getD (p-W) 0,l.getD (p-W) 0,if 0<x then l.getD (p-W-1) 0 else l.getD (p-W) 0,if x<W-1 then l.getD (p-W+1) 0 else l.getD (p-W) 0⟩:=by
  unfold iC;rw[<-hp]
 have r:y≠0->W<=y*W:=λh=>DH h;rw[<-hp]at H;rw[<-ao]at r hp;rw[<-hm]at H u⊢;have aL:decide (m<p)=false:=zA (by omega);have⟨HD,HM,HC,az⟩:=gu D hm C r;have I:=gd hp;clear D hm C ao hp E r;by_cases hy0:y=0
 .have T:((y:Int)==0)=true:=by rw[beq_iff_eq];omega
  rw[if_pos hy0]at HD;by_cases hx0:x=0
  .have z:((x:Int)==0)=true:=by rw[beq_iff_eq];omega
   rw[if_pos hx0]at HD;clear hy0 hx0;go_enter func192,ntmps192;go_wp2;refine bodyPost_ret (v:=.tuple #[(0:Int),(0:Int),(0:Int),(0:Int)]) (by simp[results,results192,go_sem]) rfl ⟨by rw[HD.o],0,rfl⟩
  .have z:((x:Int)==0)=false:=by rw[beq_eq_false_iff_ne];omega
   rw[if_neg hx0]at HD;have Z:1<=p:=(by have:=I.o;omega);have⟨p1,ab⟩:=zX (p-1);have N:(p:Int)-1=(p1:Int):=(by omega);rw[<-ab]at HD;have c:p1<m:=(by omega);obtain⟨b,o,rfl,_,a⟩:=HC.o (by rw[<-HM.o];omega);have Q:=gz.vi_getD a (m:=p1) (by rw[<-HM.o];exact c);have⟨v,ax⟩:=zX (l.getD p1 0);rw[<-ax]at Q HD;clear hy0 hx0 a ax ab;go_enter func192,ntmps192;go_wp2;refine bodyPost_ret (v:=.tuple #[v,v,v,v]) (by simp[results,results192,go_sem]) rfl ⟨by rw[HD.o],0,rfl⟩
 .have T:((y:Int)==0)=false:=by rw[beq_eq_false_iff_ne];omega
  rw[if_neg hy0]at HD;have hW:=az.o hy0;have⟨q,hq⟩:=zX (p-W);have aK:(p:Int)-(W:Int)=(q:Int):=by omega
  rw[<-hq]at HD;have J:q<m:=by omega
  obtain⟨b,o,rfl,_,a⟩:=HC.o (by rw[<-HM.o];omega);have K:=gz.vi_getD a (m:=q) (by rw[<-HM.o];exact J);have⟨vn,ad⟩:=zX (l.getD q 0);rw[<-ad]at K HD;have⟨q2,an⟩:=zX (q+1);have X:(q:Int)+1=(q2:Int):=by omega
  rw[<-an]at HD;have⟨W1,al⟩:=zX (W-1);have U:(W:Int)-1=(W1:Int):=by omega
  rw[<-al]at HD;by_cases hx0:0<x
  .have z:=jo 0 x (by omega)
   have M:decide (0<x)=true:=zB hx0;rw[if_pos hx0,if_pos hx0]at HD;have⟨p1,ab⟩:=zX (p-1);have N:(p:Int)-1=(p1:Int):=(by omega);have⟨q1,ah⟩:=zX (q-1);have V:(q:Int)-1=(q1:Int):=(by omega);rw[<-ab,<-ah]at HD;have c:p1<m:=(by omega);have O:q1<m:=(by omega);have L:=gz.vi_getD a (m:=p1) (by rw[<-HM.o];exact c);have P:=gz.vi_getD a (m:=q1) (by rw[<-HM.o];exact O);have⟨vw,ak⟩:=zX (l.getD p1 0);have⟨ay,ae⟩:=zX (l.getD q1 0);rw[<-ak]at L HD;rw[<-ae]at P HD;by_cases hx1:x<W1
   .have s:decide (x<W1)=true:=zB hx1
    rw[if_pos hx1]at HD;have f:q2<m:=(by omega);have j:=gz.vi_getD a (m:=q2) (by rw[<-HM.o];exact f);have⟨aw,aa⟩:=zX (l.getD q2 0);rw[<-aa]at j HD;clear hy0 hx0 a aa ad ak ae ab ah hq an al;go_enter func192,ntmps192;go_wp2
    go_quiet (fail)
    go_wp2;refine bodyPost_ret (v:=.tuple #[vw,vn,ay,aw]) (by simp[results,results192,go_sem]) rfl ⟨by rw[HD.o],_,rfl⟩
   .have s:decide (x<W1)=false:=zA hx1
    rw[if_neg hx1]at HD;clear hy0 hx0 a ad ak ae ab ah hq an al;go_enter func192,ntmps192;go_wp2
    go_quiet (fail)
    go_wp2;refine bodyPost_ret (v:=.tuple #[vw,vn,ay,vn]) (by simp[results,results192,go_sem]) rfl ⟨by rw[HD.o],_,rfl⟩
  .have z:=Ra 0 x (by omega)
   have M:decide (0<x)=false:=zA hx0;rw[if_neg hx0,if_neg hx0]at HD;by_cases hx1:x<W1
   .have s:decide (x<W1)=true:=zB hx1
    rw[if_pos hx1]at HD;have f:q2<m:=(by omega);have j:=gz.vi_getD a (m:=q2) (by rw[<-HM.o];exact f);have⟨aw,aa⟩:=zX (l.getD q2 0);rw[<-aa]at j HD;clear hy0 hx0 a aa ad hq an al;go_enter func192,ntmps192;go_wp2;refine bodyPost_ret (v:=.tuple #[vn,vn,vn,aw]) (by simp[results,results192,go_sem]) rfl ⟨by rw[HD.o],0,rfl⟩
   .have s:decide (x<W1)=false:=zA hx1
    rw[if_neg hx1]at HD;clear hy0 hx0 a ad hq an al;go_enter func192,ntmps192;go_wp2;refine bodyPost_ret (v:=.tuple #[vn,vn,vn,vn]) (by simp[results,results192,go_sem]) rfl ⟨by rw[HD.o],0,rfl⟩
theorem xU(kind:Nat)(g:mS)(d:Nat)(w:World)(R:kind<10)(t:1<=d)(u:d<=16)(x:tj d g):Calls prog 193 #[kind,g.w,g.n,g.nw,g.ne,d] w λe w'=>e=.returned (.int .i64 (jV kind g d))/\gg [] w w':=by
 have S:=Ra kind 0 (by omega);have T:=mF 10 kind (by omega);have U:=Ra d 1 (by omega);have V:=Ra 16 d (by omega);obtain⟨P,Q⟩:=jX t u;obtain⟨a,b,c,e⟩:=g;obtain⟨⟨f,h⟩,⟨q,r⟩,⟨c1,c2⟩,⟨s,e2⟩⟩:=x;simp only at f h q r c1 c2 s e2⊢;have H:decide (a<0)=false:=zA (by omega);have I:decide ((2:Int)^d<=a)=false:=zA (by omega);have J:decide (b<0)=false:=zA (by omega);have K:decide ((2:Int)^d<=b)=false:=zA (by omega);have L:decide (c<0)=false:=zA (by omega);have M:decide ((2:Int)^d<=c)=false:=zA (by omega);have N:decide (e<0)=false:=zA (by omega);have O:decide ((2:Int)^d<=e)=false:=zA (by omega);have y:∀w,(Instr.index 73 (.agg #[a,b,c,.int .i64 e]) (.int .i64 0)).run prog w=.ok (.int .i64 a) w:=λ_=>by kernel_rfl
 have C:∀w,(Instr.index 73 (.agg #[a,b,c,.int .i64 e]) (.int .i64 1)).run prog w=.ok (.int .i64 b) w:=λ_=>by kernel_rfl
 have D:∀w,(Instr.index 73 (.agg #[a,b,c,.int .i64 e]) (.int .i64 2)).run prog w=.ok (.int .i64 c) w:=λ_=>by kernel_rfl
 have E:∀w,(Instr.index 73 (.agg #[a,b,c,.int .i64 e]) (.int .i64 3)).run prog w=.ok (.int .i64 e) w:=λ_=>by kernel_rfl
 go_enter func193,ntmps193;go_wp2_with fail
 go_loopg [35] 4 (λj iv wr=>w=wr/\((j=4/\iv=.int .i64 0)\/(j=3/\iv=.int .i64 1)\/(j=2/\iv=.int .i64 2)\/(j=1/\iv=.int .i64 3)\/(j=0/\iv=.int .i64 4)))
 .exact⟨rfl,.inl ⟨rfl,rfl⟩⟩
 obtain⟨rfl,hrel⟩:=hrel;rcases hrel with⟨rfl,rfl⟩|⟨rfl,rfl⟩|⟨rfl,rfl⟩|⟨rfl,rfl⟩|⟨rfl,rfl⟩
 .go_wp2
  go_roundg 3
  .exact⟨rfl,.inr (.inl ⟨rfl,rfl⟩)⟩
  .omega
 .go_wp2
  go_roundg 2
  .exact⟨rfl,.inr (.inr (.inl ⟨rfl,rfl⟩))⟩
  .omega
 .go_wp2
  go_roundg 1
  .exact⟨rfl,.inr (.inr (.inr (.inl ⟨rfl,rfl⟩)))⟩
  .omega
 .go_wp2
  go_roundg 0
  .exact⟨rfl,.inr (.inr (.inr (.inr ⟨rfl,rfl⟩)))⟩
  .omega
 .clear y C D E H I J K L M N O
  obtain rfl|rfl|rfl|rfl|rfl|rfl|rfl|rfl|rfl|rfl:kind=0\/kind=1\/kind=2\/kind=3\/kind=4\/kind=5\/kind=6\/kind=7\/kind=8\/kind=9:=by omega
  .go_wp2
   go_ret;exact⟨rfl,zR _ _⟩
  .go_wp2
   go_ret;exact⟨rfl,zR _ _⟩
  .go_wp2
   go_ret;exact⟨rfl,zR _ _⟩
  .go_wp2
   go_ret;exact⟨rfl,zR _ _⟩
  .go_wp2
   go_ret;exact⟨rfl,zR _ _⟩
  .go_wp2
   go_ret;exact⟨rfl,zR _ _⟩
  .have o:=LG (a+b-c) a b c w.heap.size 3 (w.alloc (.cells #[a,b,c] 3)) (by unfold lL;omega) (by unfold lL;omega) (by unfold lL;omega) (by unfold lL;omega) (by simp[go_sem]) (by simp[go_sem]) (by simp[go_sem])
   go_wp2_with(go_at_call 237;refine gB o ?_)
   go_ret;exact⟨rfl,(zR _ _).alloc _⟩
  .go_wp2
   all_goals
    go_ret;exact⟨congrArg (λz=>Ending.returned (.int .i64 z)) (show _=max (min a b) (min (max a b) (a+b-c))by omega),zR _ _⟩
  .go_wp2
   all_goals
    go_ret;exact⟨congrArg (λz=>Ending.returned (.int .i64 z)) (show _=min (max (a+b-c) 0) (2^d-1)by omega),zR _ _⟩
  .go_wp2
   go_ret;exact⟨rfl,zR _ _⟩
theorem gv.zeros(w:World)(n:Nat)(h:n<=1048576):gv (w.alloc (.cells (replicate n (Value.int .i64 0)).toArray 3)) 3 (.slice (some ⟨w.heap.size,0,none⟩) n n) w.heap.size ((ia [] n).map vi):=by
 have:=gv.made w 3 (replicate n (Value.int .i64 0)) (by simp[maxLen];omega)
 rw[BD,map_replicate]
 simpa[vi]using this
theorem gv.fill{v:Value}(h:gv w 3 v g ((ia done n).map vi))(c:done.length<n)(x:Int):gv (w.setCell ⟨g,done.length,none⟩ (.int .i64 x)) 3 v g ((ia (done++[x]) n).map vi):=by
 have a:=h.S (i:=done.length) (by rw[zE,nM (by omega)];exact c) (vi x);rw[<-map_set,sX c]at a;exact a
theorem gv.fill_cell{v:Value}(h:gv w 3 v g ((ia done n).map vi))(q:done.length<n):w.cell? ⟨g,done.length,none⟩=some (.int .i64 0)/\w.frozen? ⟨g,done.length,none⟩=false:=by
 obtain⟨e,f,j,o,a,c⟩:=h.T;refine⟨a done.length 0 ?_,c _⟩;unfold ia;rw[zS (zQ _),Nat.sub_self,getElem?_replicate];rw[if_pos (by omega)]
theorem Hg(l:List Int)(A:Option Addr)(u W H y d kind:Nat)(w:World)(U:1<=W)(f:W<=64)(z:H<=64)(hy:y<H)(R:1<=d)(S:d<=16)(hk:kind<10)(C:l.length=W*H)(T:ie d l)(I:gz vi w A l):Calls prog 218 #[.slice A l.length u,W,y,d,kind] w λe w'=>∃v G,e=.returned v/\jj w' 3 v G ((lj l W y d kind).map vi)/\gg [] w w'/\∀x∈G,w.heap.size<=x:=by
 have aZ:=kg (P:=prog) iO rfl .i64 .i64 W (by omega) (by omega);have K:=λx (hx:x<W) w I=>xJ l A u W x y w U f hx (by omega) (by
  rw[C]
  have:(y+1)*W<=H*W:=mul_le_mul_right W hy
  rw[Nat.add_mul,Nat.one_mul]at this;rw[zY W H];omega) I (by rw[C];exact Nat.le_trans (zL f z) (by decide))
 have am:=λx w=>xU kind (iC l W x y) d w hk R S (qL T W x y);have t:∀x,x<W->y*W+x<l.length:=λx hx=>by
  rw[C]
  have:(y+1)*W<=H*W:=mul_le_mul_right W hy
  rw[Nat.add_mul,Nat.one_mul]at this;rw[zY W H];omega
 have aR:l.length<=4096:=by rw[C];exact zL f z
 have⟨m,hm⟩:=zX l.length;rw[<-hm]at K t aR⊢;have⟨yw,aq⟩:=zX (y*W);have aV:(y:Int)*(W:Int)=(yw:Int):=by rw[aq];simp
 rw[<-aq]at t;have⟨HN,HO,aI,HS⟩:=gu K am t T;have⟨HM,aL⟩:=gy hm aq;clear K am t T hm C aq;go_enter func218,ntmps218;go_wp2_with fail;have L:=gv.zeros w W (by omega);have⟨B,hB⟩:=zX w.heap.size;rw[<-hB]at L⊢;have J:=gd hB;have az:gg [] w (w.alloc (.cells (replicate W (Value.int .i64 0)).toArray 3)):=(zR [] w).alloc _;clear hB
 go_loopg [22] W (λj iv wr=>∃done:List Int,iv=.int .i64 done.length/\done.length+j=W/\gh (done=(range done.length).map (p9 l W d kind y))/\gv wr 3 (.slice B W W) B ((ia done W).map vi)/\gg [] w wr)
 .exact⟨[],rfl,by simp,gd (by simp),L,az⟩
 obtain⟨done,rfl,s,V,h,M⟩:=hrel;clear L az;have⟨m1,aj⟩:=zX done.length;rcases gk with _|j
 .rw[<-aj]at s⊢
  obtain rfl:m1=W:=by omega
  have a:=gd aj;clear aj s;go_wp2;go_ret;refine⟨_,[B],rfl,?_,M,λx hx=>by have:=J.o;simp at hx;omega⟩;have e:ia done m1=lj l m1 y d kind:=by
   rw[q7 a.o.symm,V.o,<-a.o];rfl
  rw[<-e];exact h.R
 .obtain⟨X,Z⟩:=h.fill_cell (by omega)
  have ag:=λx=>h.fill (by omega) x;have ai:∀x,x=p9 l W d kind y m1->done++[x]=(range (m1+1)).map (p9 l W d kind y):=λx hx=>by
   rw[hx,range_succ,zM,aj,<-V.o];rfl
  rw[<-aj]at s X Z ag⊢;have aE:m1<W:=by omega
  have t:=aI.o m1 aE;have D:=I.Y M;obtain⟨b,o,rfl,aY,aN⟩:=D.ex (by rw[<-HM.o];omega);have aX:b≠B:=by
   intro e;subst e;obtain⟨b',o',c,aW,_⟩:=I.ex (by rw[<-HM.o];omega);injection c with c;injection c with c _ _
   have:=J.o
   omega
  have⟨q,hq⟩:=zX (yw+m1);have a0:(yw:Int)+(m1:Int)=(q:Int):=by omega
  have O:=HN.o m1 aE wr D;have E:=HO.o m1;have r:p9 l W d kind y m1=gU (l.getD q 0-jV kind (iC l W m1 y) d) d:=by unfold p9;rw[hq,aL.o]
  have N:=sN (qL HS.o W m1 y) kind;have Q:=mZ HS.o q;have aU:q<m:=by omega
  obtain⟨aS,aT⟩:=jX R S;have⟨g,hg⟩:=zX (iC l W m1 y);rw[<-hg]at O E r N;have⟨gs,aD⟩:=zX (jV kind g d);rw[<-aD]at E r N;have⟨v,hv⟩:=zX (l.getD q 0);rw[<-hv]at r Q;have⟨aJ,ay,an,a⟩:=gu ai r s aj;have Y:∀w',gg [] wr w'->w'.cell? ⟨b,o+q,none⟩=some (.int .i64 v):=λw' h'=>by
   obtain⟨b',o',c,_,ar⟩:=(D.Y h').ex (by rw[<-HM.o];omega);injection c with c;injection c with e1 e2 _;subst e1;subst e2;rw[gz.vi_getD ar (by rw[<-HM.o];exact aU),<-hv]
  have aH:=gd Y;have a1 : -65536<=v-gs:=by omega
  have a2:v-gs<=65536:=by omega
  have aK:=gd Q;clear ai r ag Y hv aD hg aN hq s aj N D aS aT;go_wp2_with fail;refine O.mono ?_;rintro e w1 ⟨rfl,nq,rfl⟩;go_wp2_with fail;refine(E (wr.drewN nq)).mono ?_;rintro e w2 ⟨rfl,aM⟩;have ad:gg [] wr w2:=((zR [] wr).drewN nq).tq aM;have aP:=aH.o w2 ad;have aO:w2.cell? ⟨B,m1,none⟩=some (.int .i64 0):=by
   have:=(h.Z ad (by simp)).fill_cell (by have:=an.o;have:=a.o;omega)
   rw[a.o];exact this.1
  have aQ:w2.frozen? ⟨B,m1,none⟩=false:=by
   have:=(h.Z ad (by simp)).fill_cell (by have:=an.o;have:=a.o;omega)
   rw[a.o];exact this.2
  have aG:=o7 (v-gs) d w2 R S;have⟨rv,aF⟩:=zX (gU (v-gs) d);rw[<-aF]at aG ay;clear X Z aF O E;have Q:=aK.o;go_wp2_with fail;refine aG.mono ?_;rintro e w3 ⟨rfl,rfl⟩;go_wp2_with fail
  go_roundg j
  .have ah:=(h.Z ad (by simp)).fill (by have:=an.o;have:=a.o;omega) rv
   refine⟨done++[rv],?_,?_,gd ?_,?_,?_⟩
   .rw[zC,length_singleton,<-a.o];go_num
   .rw[zC,length_singleton,<-a.o];have:=an.o;omega
   .rw[zC,length_singleton,<-a.o]
    exact aJ.o rv ay.o.symm
   .rw[<-a.o]at ah
    exact ah
   .exact(M.tq ad).setCell (.inr (by have:=J.o;simp;omega)) _
  .omega
theorem No(l:List Int)(A:Option Addr)(z d:Nat)(w:World)(q:1<=d)(C:d<=16)(P:l.length<=65536)(O:gz vi w A l):Calls prog 217 #[.slice A l.length z,d] w λe w'=>e=.returned (.int .i64 (lB l d))/\w=w':=by
 have⟨n,hn⟩:=zX l.length;rw[<-hn]at P⊢;have D:=gd hn;clear hn;go_enter func217,ntmps217;go_wp2_with fail
 go_loopg [5,10] n (λj s i wr=>j<=n/\i=.int .i64 ((n-j:Nat):Int)/\s=.int .i64 (lB (l.take (n-j)) d)/\w=wr)
 .exact⟨zQ _,by simp,by simp[lB],rfl⟩
 obtain⟨U,rfl,rfl,rfl⟩:=hrel;rcases gk with _|j
 .have V:decide (((n-0:Nat):Int)<(n:Int))=false:=by simp
  have e:l.take n=l:=by rw[D.o,zN]
  rw[Nat.sub_zero,e];go_wp2;go_ret;exact⟨rfl,rfl⟩
 .have⟨m,al⟩:=zX (n-(j+1))
  rw[<-al];have N:m<n:=by omega
  have I:n-j=m+1:=by omega
  have K:=gd I;clear al I;have y:m<l.length:=by rw[<-D.o];exact N
  obtain⟨b,o,rfl,r⟩:=O.at_ y;have c:=Ka (l.take m) l[m] d;rw[<-jD l y]at c;have h:=L0 q C (l.take m);rw[zI]at h;have⟨x,hx⟩:=zX (l[m]);rw[<-hx]at r c;have ad:w.cell? ⟨b,o+m,none⟩=some (.int .i64 x):=r;have⟨s,hs⟩:=zX (lB (l.take m) d);rw[<-hs]at c h⊢;have T:0<=s:=h.1;have Q:s<=2147483648:=by omega
  have E:=oB x d w q C;have H:=om x q;have J:=Ds q C x;have t:rg d x=kS (ii x d) 0:=rfl;have⟨f,hf⟩:=zX (ii x d);rw[<-hf]at E t H;have M:(2:Int)^(d-1)<=2^15:=by
   have:=Nat.pow_le_pow_right (n:=2) (by decide) (show d-1<=15 by omega)
   exact_mod_cast this
  have u:=uK f 0 w (by unfold lL;omega) (by unfold lL;omega);rw[<-t]at u;have⟨a,ai⟩:=zX (rg d x);rw[<-ai]at u J c;obtain⟨R,S⟩:=J;have L:=gd c;clear c r hx hs h y H t hf ai M
  go_wp2_with(first|(go_at_call 79;refine gB E ?_)|(go_at_call 244;refine gB u ?_))
  go_roundg j
  .rw[K.o,L.o]
   exact⟨by omega,by go_num,rfl,rfl⟩
  .omega
def rY(l:List Int)(W d y:Nat):Int:=((oD l W y d 9:Nat):Int)
theorem JN(l:List Int)(W H d:Nat):((range H).map (rY l W d)).map vi=(jI l W H d).map i64:=by
 unfold jI;rw[map_map,map_map];rfl
theorem Lh(done:List Int)(n:Nat):(ia done n).set done.length 0=ia done n:=by
 unfold ia;rw[set_append_right _ _ (zQ _),Nat.sub_self]
 congr 1
 rcases eq_zero_or_pos (n-done.length)with h|h
 .rw[h];rfl
 .obtain⟨k,a⟩:∃k,n-done.length=k+1:=⟨n-done.length-1,by omega⟩
  rw[a];rfl
theorem NO(l:List Int)(A:Option Addr)(a W H d:Nat)(w:World)(J:1<=W)(K:W<=64)(hh0:1<=H)(I:H<=64)(h0:1<=d)(h:d<=16)(hl:l.length=W*H)(r:ie d l)(o:gz vi w A l):Calls prog 163 #[.slice A l.length a,W,H,d] w λe w'=>∃v G,e=.returned v/\jj w' 3 v G ((jI l W H d).map i64)/\gg [] w w'/\∀x∈G,w.heap.size<=x:=by
 have bd:=kg (P:=prog) iO rfl .i64 .i64 H (by omega) (by omega);have S:=yU l A a W H d w J K hh0 I h0 h hl r o;have X:=λy (hy:y<H) k (hk:k<10) w o=>Hg l A a W H y d k w J K I hy h0 h hk hl r o;have aY:=λy k A a w o=>No (lj l W y d k) A a d w h0 h (by rw[uB];omega) o;have⟨m,hm⟩:=zX l.length;rw[<-hm]at X S⊢;have⟨HR,aP⟩:=gy X aY;clear X aY hm hl r;go_enter func163,ntmps163
 go_wp2_with(go_at_call 190;refine gB S ?_)
 have U:=gv.zeros w H (by omega);have⟨B,hB⟩:=zX w.heap.size;rw[<-hB]at U⊢;have HB:=gd hB;have aQ:gg [] w (w.alloc (.cells (replicate H (Value.int .i64 0)).toArray 3)):=(zR [] w).alloc _;clear hB S
 go_loopg [24] H (λj iv wr=>∃done:List Int,iv=.int .i64 done.length/\done.length+j=H/\gh (done=(range done.length).map (rY l W d))/\gv wr 3 (.slice B H H) B ((ia done H).map vi)/\gg [] w wr)
 .exact⟨[],rfl,by simp,gd (by simp),U,aQ⟩
 obtain⟨done,rfl,E,Hd,N,R⟩:=hrel;clear U aQ;have⟨m1,aj⟩:=zX done.length;rcases gk with _|j
 .rw[<-aj]at E⊢
  obtain rfl:m1=H:=by omega
  have u:=gd aj;clear aj E;go_wp2;go_ret;refine⟨_,[B],rfl,?_,R,λx hx=>by have:=HB.o;simp at hx;omega⟩;have e:ia done m1=(range m1).map (rY l W d):=by
   rw[q7 u.o.symm,Hd.o,<-u.o]
  rw[<-JN,<-e];exact N.R
 .have ah:done++[rY l W d m1]=(range (m1+1)).map (rY l W d):=by
   rw[range_succ,zM,aj,<-Hd.o];rfl
  have ad:=Lh done H;have Y:=sX (done:=done) (n:=H) (by omega) (rY l W d m1);have C:=nM (done:=done) (n:=H) (by omega);rw[<-aj]at E ad Y⊢;have L:m1<H:=by omega
  have⟨a4,aI,aL,u⟩:=gu ah Y C aj;have a0:=gd E;have aT:=o.Y R;have aX:=HR.o m1 L 0 (by omega) wr aT;rw[<-ad]at N;clear ah Y ad C aj E aT;go_wp2_with fail;refine aX.mono ?_;rintro e w1 ⟨v1,G1,rfl,T,aR,bb⟩;have Z:=aP.o m1 0;have a9:=zy l W m1 d;have⟨r0,ak⟩:=zX (lj l W m1 d 0);rw[<-ak]at T Z;obtain⟨A1,c1,rfl,-,-,ax⟩:=T.T;have aC:=Z A1 c1 w1 ax;have a1:=gd ak;clear aX Z ak;go_wp2_with fail;refine aC.mono ?_;rintro e be ⟨rfl,rfl⟩;have au:gg [] w w1:=R.tq aR;have aB:=N.Z aR (by simp);clear T ax aC a9 N;go_wp2_with fail
  go_loopg [11,12] 9 (λq lv kv wx=>q<=9/\kv=.int .i64 ((10-q:Nat):Int)/\lv=.int .i64 (lB (lj l W m1 d (oD l W m1 d (9-q))) d)/\gv wx 3 (.slice B H H) B (((ia done H).set m1 ((oD l W m1 d (9-q):Nat):Int)).map vi)/\gg [] w wx)
  .exact⟨zQ _,rfl,by rw[a1.o];rfl,aB,au⟩
  obtain⟨hq,rfl,rfl,c,Q⟩:=hrel;clear aB au;rcases gk with _|q
  .have t2:decide (((10-0:Nat):Int)<(10:Int))=false:=by simp
   rw[Nat.sub_zero]at c;go_wp2
   go_roundg j
   .refine⟨done++[rY l W d m1],?_,?_,gd ?_,?_,Q⟩
    .rw[zC,length_singleton,<-u.o];go_num
    .rw[zC,length_singleton,<-u.o];have:=a0.o;omega
    .rw[zC,length_singleton,<-u.o]
     exact a4.o
    .rw[<-aI.o]
     exact c
   .omega
  .have⟨k,hk⟩:=zX (9-(q+1))
   rw[<-hk]at c⊢;have aU:10-(q+1)=k+1:=(by omega);have aV:9-q=k+1:=(by omega);have aW:10-q=k+2:=(by omega);have a8:k+1<10:=(by omega);rw[aU];have⟨aM,aN⟩:=gy aV aW;have z:oD l W m1 d (k+1)=if lB (lj l W m1 d (k+1)) d<lB (lj l W m1 d (oD l W m1 d k)) d then k+1 else oD l W m1 d k:=rfl;have M:=HR.o m1 L (k+1) a8 wr (o.Y Q);have O:=aP.o m1 (k+1);have aw:((k+1:Nat):Int)=(k:Int)+1:=(by omega);rw[aw]at M⊢;have⟨r1,al⟩:=zX (lj l W m1 d (k+1));rw[<-al]at M O z;have⟨b,hb⟩:=zX (oD l W m1 d k);rw[<-hb]at z c⊢;have⟨t,ht⟩:=zX (lB (lj l W m1 d b) d);rw[<-ht]at z⊢;have⟨s,r⟩:=zX (lB r1 d);rw[<-r]at O z;have⟨aO,HT,a3,a2⟩:=gu z ht r al;obtain⟨_,am,_⟩:=c.open_;have C:=aL.o;have aS:∀w',gg [] wr w'->w'.cell? ⟨B,m1,none⟩=some (.int .i64 b)/\w'.frozen? ⟨B,m1,none⟩=false:=λw' h'=>by
    obtain⟨a5,h2,h3,h4,h5,h6⟩:=(c.Z h' (by simp)).T;refine⟨h5 m1 (b:Int) ?_,h6 m1⟩;rw[getElem?_set_self (by rw[C];exact L)]
   have aZ:=gd aS;clear z hb ht r al hk aU aV aW C aS am;go_wp2_with fail;refine M.mono ?_;rintro e w2 ⟨v2,G2,rfl,af,D,bc⟩;obtain⟨A2,c2,rfl,-,-,ay⟩:=af.T;have aD:=O A2 c2 w2 ay;obtain⟨a6,a7⟩:=aZ.o w2 D;clear M O af ay;by_cases hlt:s<t
   .have t3:decide (s<t)=true:=zB hlt
    have f:=aO.o;rw[if_pos hlt]at f;have V:=gd f;clear f hlt;go_wp2_with fail;refine aD.mono ?_;rintro e ba ⟨rfl,rfl⟩;go_wp2_with fail
    go_roundg q
    .rw[aM.o,aN.o,V.o,<-a2.o,<-a3.o]
     have h:=(c.Z D (by simp)).S (i:=m1) (by rw[zE,length_set,aL.o];exact L) (vi ((k+1:Nat):Int));rw[<-map_set,set_set]at h;refine⟨by omega,by go_num,rfl,?_,(Q.tq D).setCell (.inr (by have:=HB.o;simp;omega)) _⟩;have e7:vi ((k+1:Nat):Int)=.int .i64 ((k:Int)+1):=(by unfold vi;go_num);rw[e7]at h;exact h
    .omega
   .have t3:decide (s<t)=false:=zA hlt
    have f:=aO.o;rw[if_neg hlt]at f;have V:=gd f;clear f hlt;go_wp2_with fail;refine aD.mono ?_;rintro e ba ⟨rfl,rfl⟩;go_wp2_with fail
    go_roundg q
    .rw[aM.o,aN.o,V.o,<-HT.o]
     exact⟨by omega,by go_num,rfl,c.Z D (by simp),Q.tq D⟩
    .omega
theorem gv.room(w:World)(n:Nat)(h:n<=1048576):gv (w.alloc (.cells (replicate n (Value.int .i64 0)).toArray 3)) 3 (.slice (some ⟨w.heap.size,0,none⟩) 0 n) w.heap.size []:=
 ⟨n,_,rfl,gn.new w _ _,zero_le _,by simp[maxLen];omega,by simp,by simp⟩
theorem vN{P:Program}{t e:TypeId}{z:Value}{a:Nat}(E:jx P t e z 1 a)(c:z.cells=#[z])(j f:IntKind)(n:Nat)(C:a*n<=281474976710656)(s:n<=9223372036854775807)(w:World):(Instr.makeSlice t (.int j 0) (.int f (n:Int))).run P w=.ok (.slice (some ⟨w.heap.size,0,none⟩) 0 n) (w.alloc (.cells (replicate n z).toArray e)):=by
 obtain⟨i,u,y,o,r⟩:=E.hi;subst r;have q:(i.bytes:Int)*(n:Int)<=281474976710656:=by
  have h:((i.bytes*n:Nat):Int)<=281474976710656:=by omega
  rwa [Int.natCast_mul]at h
 have x:=run_make (P:=P) w t e i z E.ht u y j f 0 n (by omega) (by omega) q (by omega);rw[x,o,c];simp only[Int.toNat_natCast,Nat.mul_one]
 have:madeCells #[z] n=(replicate n z).toArray:=by
  apply Array.toList_inj.1;rw[toList_madeCells_one]
 rw[this];rfl
theorem NQ(l:List Int)(A:Option Addr)(q W H d:Nat)(ks:List Nat)(O:Option Addr)(h:Nat)(w:World)(E:1<=W)(f:W<=64)(hh0:1<=H)(s:H<=64)(h0:1<=d)(h1:d<=16)(D:l.length=W*H)(hs:ie d l)(M:gz vi w A l)(c:ks.length=H)(t:∀k∈ks,k<10)(C:gz i64 w O ks):Calls prog 164 #[.slice A l.length q,W,H,d,.slice O ks.length h] w λe w'=>∃v G,e=.returned (.tuple #[v,(0:Int)])/\jj w' 3 v G ((nf l W H d ks).map vi)/\gg [] w w'/\∀x∈G,w.heap.size<=x:=by
 have aE:l.length<=4096:=by rw[D];exact zL f s
 have aF:=vN (P:=prog) iO rfl .i64 .i64 l.length (by omega) (by omega);have Y:=yU l A q W H d w E f hh0 s h0 h1 D hs M;have V:=Cs ks O h w t (by omega) C;rw[c]at V;have T:=λy (hy:y<H) k (N:k<10) w M=>Hg l A q W H y d k w E f s hy h0 h1 N D hs M;have⟨m,hm⟩:=zX l.length;rw[<-hm]at T Y aF aE⊢;rw[c];have⟨HR,aA,az⟩:=Q9 T t c;have X:=D;rw[<-hm]at X;have aB:=gd X;clear T hm D hs t c X;go_enter func164,ntmps164
 go_wp2_with(first|(go_at_call 190;refine gB Y ?_)|(go_at_call 191;refine gB V ?_))
 have ad:=(gv.room w m (by omega)).R;have⟨B,hB⟩:=zX w.heap.size;rw[<-hB]at ad⊢;have HB:=gd hB;have aq:gg [] w (w.alloc (.cells (replicate m (Value.int .i64 0)).toArray 3)):=(zR [] w).alloc _;clear hB Y V
 go_loopg [12,32] H (λj ov iv wr=>∃(a:List Int) (G:List Nat),j<=H/\iv=.int .i64 ((H-j:Nat):Int)/\jj wr 3 ov G (a.map vi)/\gh (a=(range (H-j)).flatMap (λy=>lj l W y d (ks.getD y 0)))/\gg [] w wr/\∀x∈G,w.heap.size<=x)
 .exact⟨[],[B],zQ _,by simp,ad,gd (by simp),aq,λx hx=>by have:=HB.o;simp at hx;omega⟩
 obtain⟨a,G,hj,rfl,K,I,z,hG⟩:=hrel;obtain⟨Ao,co,rfl,-,-,-⟩:=K.T;have Q:=gd hG;clear hG ad aq;rcases gk with _|j
 .have t4:decide (((H-0:Nat):Int)<(H:Int))=false:=by simp
  go_wp2
  go_ret2
  refine⟨_,G,rfl,?_,z,Q.o⟩;have e:=I.o;rw[Nat.sub_zero]at e;rw[e]at K;rw[e];exact K
 .have⟨i,au⟩:=zX (H-(j+1))
  rw[<-au]at I⊢;have av:i<H:=by omega
  have aw:H-j=i+1:=by omega
  have HI:=gd aw;clear au aw;have L:i<ks.length:=by rw[az.o];exact av
  obtain⟨g,o,rfl,R⟩:=(C.Y z).at_ L;have N:=aA.o _ (zG L);have ar:ks.getD i 0=ks[i]:=by rw[zD,zF L];rfl
  have J:(range (i+1)).flatMap (λy=>lj l W y d (ks.getD y 0))=a++lj l W i d ks[i]:=by
   rw[range_succ,flatMap_append,<-I.o,flatMap_cons,flatMap_nil,append_nil,ar]
  have⟨k,ax⟩:=zX (ks[i]);rw[<-ax]at R N J;have am:wr.cell? ⟨g,o+i,none⟩=some (.int .i64 k):=R;have hr:=HR.o i av k N wr (M.Y z);have Z:=uB l W i d k;have⟨r,ay⟩:=zX (lj l W i d k);rw[<-ay]at hr J Z;have⟨HS,aC⟩:=gy J Z;have aJ:a.length<=4096:=by
   have aI:=aB.o;rw[I.o,Cc _ W _ λy _=>uB _ _ _ _ _,length_range]
   have:=mul_le_mul_left W (show i<=H by omega)
   omega
  clear ax L ar J ay R Z;go_wp2_with fail;refine hr.mono ?_;rintro e w1 ⟨v1,G1,rfl,S,U,aH⟩;obtain⟨A1,c1,rfl,-,-,al⟩:=S.T;have ah:=K.Y U;have aD:gz (λu=>u) w1 A1 (r.map vi):=by
   obtain⟨A',c',h5,_,_,h6,_⟩:=S.open_;injection h5 with h5;subst h5;exact h6
  have aG:r.length<=64:=by rw[aC.o];exact f
  clear hr S al
  go_wp2_with(at_builtin;refine ns rfl rfl iO rfl rfl ah (r.map vi) r.length rfl ?c1 ?c2 ?c3 ?c4 ?c5 ?_)
  case c1=>exact(zE _).symm
  case c2=>exact aD
  case c3=>exact uW _
  case c4=>rw[zE,zE];omega
  case c5=>rw[zE,zE];omega
  intro v' F' w2 h2 h3;go_wp2_with fail
  go_roundg j
  .rw[HI.o]
   refine⟨a++r,F',by omega,by go_num,?_,gd HS.o.symm,(z.tq U).trans h3.Z λx hx=>.inr (Q.o x hx),λx hx=>?_⟩
   .rw[zM]
    exact h2
   .rcases h3.new x hx with h9|h9
    .exact Q.o x h9
    .have:=z.size
     have:=U.size
     omega
  .omega
structure mR where
 runs:List Nat
 dists:List Nat
 M:Nat
structure mR.Ok (s:mR):Prop where
 rl:s.runs.length=1025
 dl:s.dists.length=65
 r64:∀x∈s.runs,x<=64
 d1024:∀x∈s.dists,x<=1024
 l64:s.M<=64
def km:Nat->List Nat->Nat->Nat->List Nat
 | 0,D,_,_=>D
 | f+1,D,m,d=>km f (D.set (m+1) d) (m+1) d
theorem Em:∀f D m d,(km f D m d).length=D.length
 | 0,_,_,_=>rfl
 | f+1,D,m,d=>by rw[km,Em,length_set]
theorem uf{l:List Nat}(h:∀x∈l,x<=B)(c:v<=B):∀x∈l.set i v,x<=B:=λx hx=>by
 rcases mem_or_eq_of_mem_set hx with a|a
 .exact h x a
 .omega
theorem Fa{B:Nat}:∀f D m d,(∀x∈D,x<=B)->d<=B->∀x∈km f D m d,x<=B
 | 0,_,_,_,h,_=>h
 | f+1,D,m,d,h,hd=>Fa f _ _ d (uf h hd) hd
def kT(l:List Int)(at_:Nat)(rs:List Nat)(d:Nat):Nat:=if l.getD at_ 0=l.getD (at_-d) 0 then min (rs.getD d 0+1) 64 else 0
theorem FR(l:List Int)(at_:Nat)(rs:List Nat)(d:Nat):kT l at_ rs d<=64:=by
 unfold kT;split<;>omega
def nB(l:List Int)(at_:Nat)(s:mR)(d:Nat):mR:=
 ⟨s.runs.set d (kT l at_ s.runs d),km (kT l at_ s.runs d-s.M) s.dists s.M d,max s.M (kT l at_ s.runs d)⟩
theorem AI{at_:Nat}{s:mR}(h:s.Ok)(a:d<=1024):(nB l at_ s d).Ok:=by
 have:=FR l at_ s.runs d
 exact⟨by simp[nB,h.rl],by simp[nB,Em,h.dl],uf h.r64 this,Fa _ _ _ _ h.d1024 a,by have:=h.l64;simp only[nB];omega⟩
def qj(l:List Int)(at_:Nat):Nat->Nat->mR->mR
 | 0,_,s=>s
 | f+1,d,s=>qj l at_ f (d+1) (nB l at_ s d)
theorem BC{l:List Int}{at_:Nat}:∀f d s,s.Ok->d+f<=1025->(qj l at_ f d s).Ok
 | 0,_,_,h,_=>h
 | f+1,d,s,h,hd=>BC f (d+1) _ (AI h (by omega)) (by omega)
def tf(rs:List Nat):mR:=⟨rs,replicate 65 0,0⟩
def nC(l:List Int)(at_:Nat)(rs:List Nat):mR:=qj l at_ (min at_ 1024) 1 (tf rs)
def rm(rs:List Nat):Prop:=rs.length=1025/\∀x∈rs,x<=64
theorem z7(h:rm rs):(tf rs).Ok:=
 ⟨h.1,by simp[tf],h.2,λx hx=>by rw[eq_of_mem_replicate hx];exact zero_le _,zero_le _⟩
theorem AL{at_:Nat}(h:rm rs):(nC l at_ rs).Ok:=BC _ _ _ (z7 h) (by omega)
structure mR.In (s:mR) (B:Nat):Prop where
 rb:∀x∈s.runs,x<=B
 lb:s.M<=B
 db:∀n,s.dists.getD n 0≠0->n<=s.M
theorem rR(l:List Nat)(i v j:Nat):(l.set i v).getD j 0=if i=j/\i<l.length then v else l.getD j 0:=by
 rw[zD,zD,getElem?_set];by_cases h:i=j
 .subst h
  by_cases h2:i<l.length
  .simp[h2]
  .simp[h2]
 .simp[h]
theorem E9:∀f D m d n,(∀n,D.getD n 0≠0->n<=m)->(km f D m d).getD n 0≠0->n<=m+f
 | 0,_,_,_,n,h,hn=>h n hn
 | f+1,D,m,d,n,h,hn=>by
  have:=E9 f (D.set (m+1) d) (m+1) d n (λk hk=>by
   rw[rR]at hk;split at hk
   .omega
   .have:=h k hk;omega) hn
  omega
theorem Nx{at_:Nat}{s:mR}(h:s.In B)(a:kT l at_ s.runs d<=B):(nB l at_ s d).In B:=by
 refine⟨uf h.rb a,?_,λn hn=>?_⟩
 .have:=h.lb;simp only[nB];omega
 .have:=E9 _ _ _ _ n h.db hn
  simp only[nB];omega
theorem Rp{l:List Int}{at_ B:Nat}:∀f d s,s.In (B+1)->(∀k,d<=k->s.runs.getD k 0<=B)->(qj l at_ f d s).In (B+1)
 | 0,_,_,h,_=>h
 | f+1,d,s,h,hb=>by
  have c:=hb d (zQ _);have a:kT l at_ s.runs d<=B+1:=by
   unfold kT;split<;>omega
  refine Rp f (d+1) _ (Nx h a) λk hk=>?_;show(s.runs.set d _).getD k 0<=B;rw[rR,if_neg (by omega)];exact hb k (by omega)
theorem AJ{at_:Nat}(h:∀x∈rs,x<=B):(nC l at_ rs).In (B+1):=by
 have c:∀k,rs.getD k 0<=B:=λk=>by
  rcases zZ k rs.length with a|a
  .rw[zD,zF a];exact h _ (zG a)
  .rw[zD,getElem?_eq_none a];exact zero_le _
 refine Rp _ _ _ ⟨λx hx=>by have:=h x hx;omega,zero_le _,λn hn=>?_⟩ λk _=>c k;exfalso;apply hn;show(replicate 65 0).getD n 0=0;rw[zD,getElem?_replicate];split<;>rfl
structure l3 where
 costs:List Nat
 first:List gZ
 runs:List Nat
def n7(cp at_:Nat)(D:List Nat)(n:Nat)(s:List Nat × List gZ):List Nat × List gZ:=
 if n<3\/D.getD n 0=0 then s else if s.1.getD (at_+n) 0+cp<=s.1.getD at_ 0 then(s.1.set at_ (s.1.getD (at_+n) 0+cp),s.2.set at_ ⟨n,D.getD n 0,0⟩)else s
def nW(cp at_:Nat)(D:List Nat):Nat->Nat->List Nat × List gZ->List Nat × List gZ
 | 0,_,s=>s
 | f+1,n,s=>nW cp at_ D f (n+1) (n7 cp at_ D n s)
def nD(l:List Int)(lit at_:Nat)(s:l3):List Nat × List gZ:=(s.costs.set at_ (s.costs.getD (at_+1) 0+lit),s.first.set at_ ⟨0,0,l.getD at_ 0⟩)
def rx(l:List Int)(lit cp at_:Nat)(s:l3):l3:=
 ⟨(nW cp at_ (nC l at_ s.runs).dists 65 0 (nD l lit at_ s)).1,(nW cp at_ (nC l at_ s.runs).dists 65 0 (nD l lit at_ s)).2,(nC l at_ s.runs).runs⟩
def qW(l:List Int)(lit cp:Nat):Nat->l3->l3
 | 0,s=>s
 | k+1,s=>qW l lit cp k (rx l lit cp k s)
def tg(n:Nat):l3:=⟨replicate (n+1) 0,replicate n ⟨0,0,0⟩,replicate 1025 0⟩
def rU(l:List Int)(lit cp:Nat):l3:=qW l lit cp l.length (tg l.length)
def jA(F:List gZ)(i:Nat):gZ:=F.getD i ⟨0,0,0⟩
def lh(F:List gZ)(n:Nat):Nat->Nat->List gZ
 | 0,_=>[]
 | f+1,i=>if i<n then jA F i::lh F n f (i+max (jA F i).len 1)else[]
def l5(l:List Int)(lit cp:Nat):List gZ:=lh (rU l lit cp).first l.length l.length 0
structure rX (n B:Nat) (p:List Nat × List gZ):Prop where
 cl:p.1.length=n+1
 fl:p.2.length=n
 cb:∀x∈p.1,x<=B
 fo:∀t∈p.2,t.ok
structure l3.Ok (n lit k:Nat) (s:l3):Prop where
 pair:rX n ((n-k)*lit) (s.costs,s.first)
 rl:s.runs.length=1025
 rb:∀x∈s.runs,x<=64/\x<=n-k
theorem uF{l:List Nat}(h:∀x∈l,x<=B)(i:Nat):l.getD i 0<=B:=by
 rcases zZ i l.length with a|a
 .rw[zD,zF a];exact h _ (zG a)
 .rw[zD,getElem?_eq_none a];exact zero_le _
theorem Gt{at_:Nat}{D:List Nat}{p:List Nat × List gZ}(h:rX n B p)(j:m<=64)(c:∀x∈D,x<=1024):rX n B (n7 cp at_ D m p):=by
 unfold n7;split
 .exact h
 .rename_i h1
  split
  .rename_i h2
   have e:=uF h.cb at_;have f:=uF c m;refine⟨by simp[h.cl],by simp[h.fl],uf h.cb (by omega),λt ht=>?_⟩;rcases mem_or_eq_of_mem_set ht with a|rfl
   .exact h.fo t a
   .right
    rw[gZ.isCopy_iff];exact⟨by simp only;omega,by simp only;omega,by simp only;omega,by simp only;omega,rfl⟩
  .exact h
theorem Fq{n B cp at_:Nat}{D:List Nat}(a:∀x∈D,x<=1024):∀f m p,rX n B p->m+f<=65->rX n B (nW cp at_ D f m p)
 | 0,_,_,h,_=>h
 | f+1,m,p,h,hm=>Fq a f (m+1) _ (Gt h (by omega) a) (by omega)
theorem Gn{s:l3}(h:s.Ok n lit (k+1))(f:k<n):rX n ((n-k)*lit) (nD l lit k s):=by
 have e:(n-k)*lit=(n-(k+1))*lit+lit:=by rw[show n-k=n-(k+1)+1 by omega,Nat.add_mul,Nat.one_mul]
 have a:=uF h.pair.cb (k+1);rw[e];refine⟨by simp[nD,h.pair.cl],by simp[nD,h.pair.fl],uf (λx hx=>?_) (by simp only at a;omega),λt ht=>?_⟩
 .have:=h.pair.cb x hx;omega
 .rcases mem_or_eq_of_mem_set ht with c|rfl
  .exact h.pair.fo t c
  .left
   rfl
theorem AP{s:l3}(h:s.Ok n lit (k+1))(f:k<n):(rx l lit cp k s).Ok n lit k:=by
 have e:rm s.runs:=⟨h.rl,λx hx=>(h.rb x hx).1⟩;have a:=AL (l:=l) (at_:=k) e;have c:=AJ (l:=l) (at_:=k) (rs:=s.runs) (B:=n-(k+1)) (λx hx=>(h.rb x hx).2);refine⟨Fq a.d1024 65 0 _ (Gn h f) (by omega),a.rl,λx hx=>⟨a.r64 x hx,?_⟩⟩
 have:=c.rb x hx
 omega
theorem Af(n lit:Nat):(tg n).Ok n lit n:=
 ⟨⟨zV,zV,λx hx=>by rw[eq_of_mem_replicate hx];exact zero_le _,λt ht=>by rw[eq_of_mem_replicate ht];exact .inl rfl⟩,zV,λx hx=>by rw[eq_of_mem_replicate hx];omega⟩
theorem G7{l:List Int}{n lit cp:Nat}:∀k s,s.Ok n lit k->k<=n->(qW l lit cp k s).Ok n lit 0
 | 0,_,h,_=>h
 | k+1,s,h,hk=>G7 k _ (AP h (by omega)) (by omega)
theorem vY(l:List Int)(lit cp:Nat):(rU l lit cp).Ok l.length lit 0:=G7 _ _ (Af _ _) (zQ _)
theorem FW{F:List gZ}(h:∀t∈F,t.ok){n:Nat}(c:n<=F.length):∀f i,∀t∈lh F n f i,t.ok
 | 0,_,t,ht=>by simp[lh]at ht
 | f+1,i,t,ht=>by
  unfold lh at ht;split at ht
  .rename_i hi
   rcases zJ.1 ht with rfl|a
   .unfold jA
    rw[zD,zF (by omega)];exact h _ (zG _)
   .exact FW h c f _ t a
  .simp at ht
theorem EN{F:List gZ}{n:Nat}:∀f i,(lh F n f i).length<=f
 | 0,_=>by simp[lh]
 | f+1,i=>by
  unfold lh;split
  .have:=EN (F:=F) (n:=n) f (i+max (jA F i).len 1)
   simp only[zK];omega
  .exact zero_le _
theorem MA(l:List Int)(lit cp:Nat):∀t∈l5 l lit cp,t.ok:=
 FW (vY l lit cp).pair.fo (by rw[(vY l lit cp).pair.fl];exact zQ _) _ _
theorem zj(l:List Int)(lit cp:Nat):(l5 l lit cp).length<=l.length:=EN _ _
theorem JF(k:Nat)(l:List Int)(x:Int):jl k (l++[x])=jl k l++jp k x:=by simp[jl]
theorem xN(w:World)(b:Nat)(F bs:List Nat)(k:Nat)(l:List Int)(A:Option Addr)(O:Nat)(h:hJ w b F bs)(hk:k<=25)(hw:∀x∈l,iy x)(Z:gz vi w A l)(Y:ib A l F)(y:bs.length+65*l.length<274877906944):Calls prog 168 #[.pointer b,k,.slice A l.length O] w λe w'=>e=.returned (.int .i64 0)/\∃F',hJ w' b F' (bs++jl k l)/\gE F F' w w':=by
 have U:=gd hw;clear hw;have⟨n,hn⟩:=zX l.length;rw[<-hn]at y⊢;have⟨HN,HA⟩:=gy hn Y;clear hn Y;go_enter func168,ntmps168
 go_wp2_with(go_at_call 197;refine gB (xn _ _ hk) ?_)
 go_loopg [18] n (λj i wr=>j<=n/\i=.int .i64 ((n-j:Nat):Int)/\w=wr)
 .exact⟨zQ _,by simp,rfl⟩
 obtain⟨hj,rfl,rfl⟩:=hrel;rcases gk with _|j
 .have t4:decide (((n-0:Nat):Int)<(n:Int))=false:=by simp
  go_wp2_with fail
  go_loopg [28] n (λj i wr=>∃F' a,j<=n/\i=.int .i64 ((n-j:Nat):Int)/\hJ wr b F' a/\gh (a=bs++jl k (l.take (n-j)))/\a.length<=bs.length+65*(n-j)/\gE F F' w wr)
  .exact⟨F,bs,zQ _,by simp,h,gd (by simp[jl]),by omega,gE.refl _ _⟩
  obtain⟨F',a,aA,rfl,I,L,ay,D⟩:=hrel;rcases gk with _|j
  .go_wp2
   go_ret;refine⟨rfl,F',?_,D⟩;have e:l.take n=l:=(by rw[HN.o,zN]);rw[L.o,Nat.sub_zero,e]at I;exact I
  .have⟨m,af⟩:=zX (n-(j+1))
   rw[<-af]at L ay⊢;have N:m<n:=(by omega);have s:n-j=m+1:=(by omega);have z:=gd s;clear af s;have f:m<l.length:=(by rw[<-HN.o];exact N);obtain⟨g,o,rfl,c⟩:=(Z.N HA.o D.Z).at_ f;have H:=JF k (l.take m) l[m];rw[<-jD l f]at H;have⟨x,hx⟩:=zX (l[m]);rw[<-hx]at c H;have ac:wr.cell? ⟨g,o+m,none⟩=some (.int .i64 x):=c;have t:iy x:=(by rw[hx];exact U.o _ (zG _));have T:gh (bs++jl k (l.take (m+1))=a++jp k x):=by
    refine gd ?_;rw[H,L.o,zH]
   have W:=qy k x;have ap:=pN k x hk;have hu:=Bc t;have M:=xy x wr t;have⟨u,au⟩:=zX (kM x);rw[<-au]at hu M;have hq:u / 2^k<=u:=div_le_self _ _;have E:=div_add_mod u (2^k);have ad:=mod_lt u (Nat.two_pow_pos k);have⟨q,ak⟩:=zX (u / 2^k);have⟨r,am⟩:=zX (u%2^k);have e1:(u:Int) / 2^k=(q:Int):=(by rw[ak];simp);have X:jp k x=if q<32 then replicate q 0++1::gx r k else replicate 32 0++1::gx u 32:=(by unfold jp;rw[<-au,<-ak,<-am]);rw[<-ak]at hq E;rw[<-am]at E ad;have aB:(q:Int)*2^k=(u:Int)-r:=by
    have:((2^k*q+r:Nat):Int)=(u:Int):=by rw[E]
    rw[Int.natCast_add,Int.natCast_mul,Int.natCast_pow]at this;rw[Int.mul_comm];simp at this;omega
   have C:=gd X;have az:a.length+65<274877906944:=(by omega);have V:gh ((a++jp k x).length<=bs.length+65*(m+1)):=gd (by rw[zC,W];omega);have aC:r<=u:=(by rw[am];exact mod_le _ _);have ao:=gd ad;clear X E au ak am c hx H f W ap ad;by_cases hs:q<32
   .have t1:decide ((q:Int)<32)=true:=by simp;omega
    rw[if_pos hs]at C
    go_wp2_with(go_at_call 184;refine gB M ?_)
    refine(ET _ b F' a q I (by omega) (by omega)).mono ?_;rintro e w1 ⟨rfl,J,R,P⟩;go_wp2_with fail;rw[show(u:Int)-((u:Int)-r)=r by omega];refine(iG _ b J _ r k R (by omega) ao.o (by simp;omega)).mono ?_;rintro e w2 ⟨rfl,K,S,Q⟩;go_wp2_with fail
    go_roundg j
    .rw[z.o]
     refine⟨K,a++jp k x,by omega,by go_num,?_,gd T.o.symm,V.o,(D.trans P).trans Q⟩;rw[C.o]
     simpa using S
    .omega
   .have t1:decide ((q:Int)<32)=false:=by simp;omega
    rw[if_neg hs]at C
    go_wp2_with(go_at_call 184;refine gB M ?_)
    refine(ET _ b F' a 32 I (by omega) (by omega)).mono ?_;rintro e w1 ⟨rfl,J,R,P⟩;go_wp2_with fail;refine(iG _ b J _ u 32 R (by omega) (by omega) (by simp;omega)).mono ?_;rintro e w2 ⟨rfl,K,S,Q⟩;go_wp2_with fail
    go_roundg j
    .rw[z.o]
     refine⟨K,a++jp k x,by omega,by go_num,?_,gd T.o.symm,V.o,(D.trans P).trans Q⟩;rw[C.o]
     simpa using S
    .omega
 .have⟨m,af⟩:=zX (n-(j+1))
  rw[<-af];have N:m<n:=by omega
  have s:n-j=m+1:=by omega
  have z:=gd s;clear af s;have f:m<l.length:=by rw[<-HN.o];exact N
  obtain⟨g,o,rfl,c⟩:=Z.at_ f;have t:iy l[m]:=U.o _ (zG _);have⟨x,hx⟩:=zX (l[m]);rw[<-hx]at c t;have ac:w.cell? ⟨g,o+m,none⟩=some (.int .i64 x):=c;clear c hx f
  go_wp2_with(go_at_call 223;refine gB (uE _ _ t) ?_)
  go_roundg j
  .rw[z.o]
   exact⟨by omega,by go_num,rfl⟩
  .omega
end Go.Proofs.YtifdlkoepaepiaaGreatDoor
