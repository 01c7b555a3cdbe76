/- Lemmas. -/
import Derived.Test.YtnepiccbpokmiaaGreatDoorMg11
import Derived.Lib.BitFns
set_option linter.all false
namespace Go.Proofs.YtnepiccbpokmiaaGreatDoor
open List Nat Go.RowKit
variable {bound ctx v:Nat}
def oJ:List Nat->Nat->List Nat
 | [],_=>[]
 | d::ds,n=>if n=0 then d::ds else((n+d)%256)::oJ ds ((n+d) / 256)
def me(ds:List Nat)(n:Nat):List Nat:=(oJ ds.reverse n).reverse
theorem CX(n:Nat):me [] n=[]:=rfl
theorem IP(ds:List Nat):oJ ds 0=ds:=by cases ds<;>simp[oJ]
theorem B9(ds:List Nat):me ds 0=ds:=by simp[me,IP]
theorem B8(a:List Nat)(d n:Nat)(h:n≠0):me (a++[d]) n=me a ((n+d) / 256)++[(n+d)%256]:=by
 simp[me,oJ,h]
theorem GS(a:List Nat):∀n,(oJ a n).length=a.length:=by
 induction a with
 | nil=>intro n;rfl
 | cons d a ih=>intro n;unfold oJ;split<;>simp[ih]
theorem GU(a:List Nat)(n:Nat):(me a n).length=a.length:=by simp[me,GS]
theorem L4(e:List Nat):∀n,(∀d∈e,d<256)->∀d∈oJ e n,d<256:=by
 induction e with
 | nil=>intro n _ d a;simp[oJ]at a
 | cons x e ih=>
  intro n h d a;unfold oJ at a;split at a
  .exact h d a
  .rcases zJ.1 a with rfl|a
   .exact mod_lt _ (by decide)
   .exact ih _ (λd a=>h d (mem_cons_of_mem _ a)) d a
theorem Mp(a:List Nat)(n:Nat)(h:∀d∈a,d<256):∀d∈me a n,d<256:=by
 intro d e;exact L4 a.reverse n (by simpa using h) d (by simpa[me]using e)
structure ix where
 low:List Nat
 W:Nat
 M:List Nat
def oO(c:ix)(bound bit:Nat):List Nat:=if bit=0 then c.low else me c.low bound
def nO(c:ix)(bound bit:Nat):Nat:=if bit=0 then bound else c.W-bound
def jR(c:ix)(bound bit:Nat):ix:=
 if nO c bound bit<16777216 then⟨oO c bound bit++[0],nO c bound bit*256,c.M⟩else⟨oO c bound bit,nO c bound bit,c.M⟩
def lJ(o bit:Nat):Nat:=if bit=0 then o+(4096-o) / 32 else o-o / 32
def mT(c:ix)(ctx:Nat):Nat:=c.M.getD ctx 0
def lX(c:ix)(ctx bit:Nat):ix:=
 let c1:=jR c (c.W / 4096*mT c ctx) bit
 { c1 with M:=c.M.set ctx (lJ (mT c ctx) bit) }
def lj(c:ix)(v:Nat):Nat->ix
 | 0=>c
 | n+1=>lj (jR c (c.W / 2) (v / 2^n%2)) v n
def i2(c:ix)(ctx:Nat):Nat->ix
 | 0=>c
 | k+1=>lX (i2 c ctx k) (ctx+k) 1
def nt(c:ix)(ctx v:Nat):ix:=
 let d:=log2 (v+1)
 let c1:=i2 c ctx d
 let c2:=if d<32 then lX c1 (ctx+d) 0 else c1
 lj c2 (v+1-2^d) d
structure iY (c:ix):Prop where
 dig:∀d∈c.low,d<256
 len:4<=c.low.length
 lo:16777216<=c.W
 hi:c.W<4294967296
 M:∀o∈c.M,31<=o/\o<=4065
def pP(c:ix)(bound:Nat):Prop:=65536<=bound/\bound+65536<=c.W
theorem zk{c:ix}(h:iY c)(d:pP c bound)(a:Nat):65536<=nO c bound a/\nO c bound a<4294967296:=by
 obtain⟨e,f⟩:=d;have j:=h.lo;have i:=h.hi;unfold nO;split<;>omega
theorem uG(c:ix)(bound a:Nat):(oO c bound a).length=c.low.length:=by unfold oO;split<;>simp[GU]
theorem uF{c:ix}(h:iY c)(i:pP c bound)(a:Nat):iY (jR c bound a):=by
 have k:=h.len;have l:=zk h i a;have f:∀d∈oO c bound a,d<256:=by
  unfold oO;split
  .exact h.dig
  .exact Mp _ _ h.dig
 have j:=uG c bound a;unfold jR;generalize nO c bound a=W1 at *;generalize oO c bound a=l1 at *;split
 .exact⟨λd hd'=>by
   rcases zP.1 hd' with e|e
   .exact f d e
   .simp at e;omega,by simp;omega,by simp;omega,by simp;omega,h.M⟩
 .exact⟨f,by simp;omega,by simp;omega,by simp;omega,h.M⟩
theorem ur{c:ix}(bound a:Nat):c.low.length<=(jR c bound a).low.length/\(jR c bound a).low.length<=c.low.length+1:=by
 have:=uG c bound a
 unfold jR;split<;>simp<;>omega
theorem B3(c:ix)(bound a:Nat):(jR c bound a).M=c.M:=by
 unfold jR;split<;>rfl
theorem uA{c:ix}(h:iY c)(a:ctx<c.M.length):31<=mT c ctx/\mT c ctx<=4065:=by
 unfold mT;rw[zD,zF a];exact h.M _ (zG a)
theorem xQ{c:ix}(h:iY c)(e:ctx<c.M.length):pP c (c.W / 4096*mT c ctx):=by
 obtain⟨a,d⟩:=uA h e;have j:=h.lo;have k:4096<=c.W / 4096:=by omega
 have f:c.W / 4096*31<=c.W / 4096*mT c ctx:=mul_le_mul_left _ a;have i:c.W / 4096*mT c ctx<=c.W / 4096*4065:=mul_le_mul_left _ d;unfold pP;omega
theorem xR{c:ix}(h:iY c):pP c (c.W / 2):=by
 have a:=h.lo;unfold pP;omega
theorem CG{o:Nat}(a:Nat)(h:31<=o/\o<=4065):31<=lJ o a/\lJ o a<=4065:=by
 unfold lJ;split<;>omega
theorem Fh{c:ix}(h:iY c)(f:ctx<c.M.length)(a:Nat):iY (lX c ctx a):=by
 have d:=uF h (xQ h f) a;refine⟨d.dig,d.len,d.lo,d.hi,λo ho=>?_⟩;simp only[lX]at ho;rcases mem_or_eq_of_mem_set ho with e|e
 .exact h.M o e
 .subst e
  exact CG a (uA h f)
theorem Aw(c:ix)(ctx a:Nat):(lX c ctx a).M.length=c.M.length:=by simp[lX]
theorem uK(c:ix)(ctx a:Nat):c.low.length<=(lX c ctx a).low.length/\(lX c ctx a).low.length<=c.low.length+1:=ur _ _
theorem N4(v n:Nat):∀ {c:ix},iY c->iY (lj c v n):=by
 induction n with
 | zero=>exact λh=>h
 | succ n ih=>exact λh=>ih (uF h (xR h) _)
theorem Lu(v n:Nat):∀(c:ix),(lj c v n).M=c.M:=by
 induction n with
 | zero=>exact λ_=>rfl
 | succ n ih=>exact λc=>(ih _).trans (B3 _ _ _)
theorem EC(v n:Nat):∀(c:ix),c.low.length<=(lj c v n).low.length/\(lj c v n).low.length<=c.low.length+n:=by
 induction n with
 | zero=>exact λ_=>⟨zQ _,zQ _⟩
 | succ n ih=>
  intro c;have a:=ih (jR c (c.W / 2) (v / 2^n%2));have d:=ur (c:=c) (c.W / 2) (v / 2^n%2);exact⟨by unfold lj;omega,by unfold lj;omega⟩
theorem pw(c:ix)(ctx k:Nat):(i2 c ctx k).M.length=c.M.length:=by
 induction k with
 | zero=>rfl
 | succ k ih=>unfold i2;rw[Aw,ih]
theorem sU{c:ix}(h:iY c){k:Nat}(a:ctx+k<=c.M.length):iY (i2 c ctx k):=by
 induction k with
 | zero=>exact h
 | succ k ih=>exact Fh (ih (by omega)) (by rw[pw];omega) 1
theorem sK(c:ix)(ctx k:Nat):c.low.length<=(i2 c ctx k).low.length/\(i2 c ctx k).low.length<=c.low.length+k:=by
 induction k with
 | zero=>exact⟨zQ _,zQ _⟩
 | succ k ih=>
  have:=uK (i2 c ctx k) (ctx+k) 1
  exact⟨by unfold i2;omega,by unfold i2;omega⟩
theorem tt(e:v<4294967296):log2 (v+1)<=32:=by
 by_cases h:log2 (v+1)<=32
 .exact h
 .have a:2^33<=2^log2 (v+1):=Nat.pow_le_pow_right (by decide) (by omega)
  have d:=log2_self_le (n:=v+1) (by omega)
  have:(2:Nat)^33=8589934592:=by decide
  omega
theorem xg{c:ix}(h:iY c)(d:v<4294967296)(e:ctx+33<=c.M.length):iY (if log2 (v+1)<32 then lX (i2 c ctx (log2 (v+1))) (ctx+log2 (v+1)) 0 else i2 c ctx (log2 (v+1))):=by
 have f:=tt d;have a:iY (i2 c ctx (log2 (v+1))):=sU h (by omega);split
 .exact Fh a (by rw[pw];omega) 0
 .exact a
theorem NT{c:ix}(h:iY c)(d:v<4294967296)(a:ctx+33<=c.M.length):iY (nt c ctx v):=N4 _ _ (xg h d a)
theorem GB(c:ix)(ctx v:Nat):(nt c ctx v).M.length=c.M.length:=by
 unfold nt;simp only;rw[Lu];split
 .rw[Aw,pw]
 .rw[pw]
theorem MK(c:ix)(ctx:Nat)(d:v<4294967296):c.low.length<=(nt c ctx v).low.length/\(nt c ctx v).low.length<=c.low.length+65:=by
 have i:=tt d;unfold nt;simp only;have e:=sK c ctx (log2 (v+1));split
 .have f:=uK (i2 c ctx (log2 (v+1))) (ctx+log2 (v+1)) 0
  have a:=EC (v+1-2^log2 (v+1)) (log2 (v+1)) (lX (i2 c ctx (log2 (v+1))) (ctx+log2 (v+1)) 0);omega
 .have a:=EC (v+1-2^log2 (v+1)) (log2 (v+1)) (i2 c ctx (log2 (v+1)))
  omega
theorem Gg:∀(f x:Nat),0<x->x<2^f->Lib.bitLenAux f x=log2 x+1:=by
 intro f
 induction f with
 | zero=>intro x d a;simp at a;omega
 | succ f ih=>
  intro x d a;unfold Lib.bitLenAux;rw[if_neg (by omega)];by_cases hx:x<2
  .obtain rfl:x=1:=by omega
   cases f<;>rfl
  .rw[ih (x / 2) (by omega) (by rw[Nat.pow_succ]at a;omega),log2_def x,if_pos (by omega)]
   omega
theorem Hu(x:Nat)(a:0<x)(d:x<18446744073709551616):Lib.bitLen x=log2 x+1:=Gg 64 x a d
def pg(n:Nat):ix:=⟨[0,0,0,0],4294967295,replicate n 2048⟩
theorem KR(n:Nat):iY (pg n):=
 ⟨by simp[pg],by simp[pg],by simp[pg],by simp[pg],by simp[pg]⟩
def b8(d:Nat):Value:=.int .u8 d
def i64(d:Nat):Value:=.int .i64 d
structure iZ (T:TypeId) (w:World) (b g h:Nat) (c:ix):Prop where
 ex:∃vl vo,gn w b T #[vl,.int .u64 c.W,vo]/\gv w 5 vl g (c.low.map b8)/\gv w 3 vo h (c.M.map i64)
section
variable {T:TypeId} {w w':World} {b g h:Nat} {c:ix} {F:List Nat}
theorem iZ.Z(i:iZ T w b g h c)(a:gf F w w')(j:b∉F)(k:g∉F)(l:h∉F):iZ T w' b g h c:=by
 obtain⟨m,n,d,e,f⟩:=i.ex;exact⟨m,n,d.Z a j,e.Z a k,f.Z a l⟩
theorem iZ.Y(i:iZ T w b g h c)(a:gf [] w w'):iZ T w' b g h c:=i.Z a (by simp) (by simp) (by simp)
theorem iZ.lt(i:iZ T w b g h c):b<w.heap.size/\g<w.heap.size/\h<w.heap.size:=by
 obtain⟨f,j,a,d,e⟩:=i.ex;exact⟨a.lt,d.lt,e.lt⟩
end
end Go.Proofs.YtnepiccbpokmiaaGreatDoor
