/- Lemmas. -/
import Derived.Test.YtifdlkoepaepiaaGreatDoorMh08
import Derived.Lib.BitFns
set_option linter.all false
namespace Go.Proofs.YtifdlkoepaepiaaGreatDoor
open List Nat Go.RowKit
variable {data:List Nat}{bit bound ctx d j k v:Nat}
def oG:List Nat->Nat->List Nat
 | [],_=>[]
 | d::ds,n=>if n=0 then d::ds else((n+d)%256)::oG ds ((n+d) / 256)
def mM(ds:List Nat)(n:Nat):List Nat:=(oG ds.reverse n).reverse
theorem Mt(n:Nat):mM [] n=[]:=rfl
theorem K7(ds:List Nat):oG ds 0=ds:=by cases ds<;>simp[oG]
theorem Lo(ds:List Nat):mM ds 0=ds:=by simp[mM,K7]
theorem Ln(a:List Nat)(d n:Nat)(h:n≠0):mM (a++[d]) n=mM a ((n+d) / 256)++[(n+d)%256]:=by
 simp[mM,oG,h]
theorem JQ(a:List Nat):∀n,(oG a n).length=a.length:=by
 induction a with
 | nil=>intro n;rfl
 | cons d a ih=>intro n;unfold oG;split<;>simp[ih]
theorem JV(a:List Nat)(n:Nat):(mM a n).length=a.length:=by simp[mM,JQ]
theorem Nu(e:List Nat):∀n,(∀d∈e,d<256)->∀d∈oG e n,d<256:=by
 induction e with
 | nil=>intro n _ d a;simp[oG]at a
 | cons x e ih=>
  intro n h d a;unfold oG at a;split at a
  .exact h d a
  .rcases zJ.1 a with rfl|a
   .exact mod_lt _ (by decide)
   .exact ih _ (λd a=>h d (mem_cons_of_mem _ a)) d a
theorem NR(a:List Nat)(n:Nat)(h:∀d∈a,d<256):∀d∈mM a n,d<256:=by
 intro d e;exact Nu a.reverse n (by simpa using h) d (by simpa[mM]using e)
structure ij where
 low:List Nat
 W:Nat
 L:List Nat
def lY(c:ij)(bound bit:Nat):List Nat:=if bit=0 then c.low else mM c.low bound
def me(c:ij)(bound bit:Nat):Nat:=if bit=0 then bound else c.W-bound
def jF(c:ij)(bound bit:Nat):ij:=
 if me c bound bit<16777216 then⟨lY c bound bit++[0],me c bound bit*256,c.L⟩else⟨lY c bound bit,me c bound bit,c.L⟩
def pX(o bit:Nat):Nat:=if bit=0 then o+(4096-o) / 32 else o-o / 32
def ny(c:ij)(ctx:Nat):Nat:=c.L.getD ctx 0
def kq(c:ij)(ctx bit:Nat):ij:=
 let c1:=jF c (c.W / 4096*ny c ctx) bit
 { c1 with L:=c.L.set ctx (pX (ny c ctx) bit) }
def j9(c:ij)(v:Nat):Nat->ij
 | 0=>c
 | n+1=>j9 (jF c (c.W / 2) (v / 2^n%2)) v n
def iP(c:ij)(ctx:Nat):Nat->ij
 | 0=>c
 | k+1=>kq (iP c ctx k) (ctx+k) 1
def mc(c:ij)(ctx v:Nat):ij:=
 let d:=log2 (v+1)
 let c1:=iP c ctx d
 let c2:=if d<32 then kq c1 (ctx+d) 0 else c1
 j9 c2 (v+1-2^d) d
structure iw (c:ij):Prop where
 dig:∀d∈c.low,d<256
 len:4<=c.low.length
 lo:16777216<=c.W
 hi:c.W<4294967296
 L:∀o∈c.L,31<=o/\o<=4065
def mW(c:ij)(bound:Nat):Prop:=65536<=bound/\bound+65536<=c.W
theorem GQ{c:ij}(h:iw c)(a:mW c bound)(bit:Nat):65536<=me c bound bit/\me c bound bit<4294967296:=by
 obtain⟨e,f⟩:=a;have l:=h.lo;have i:=h.hi;unfold me;split<;>omega
theorem sT(c:ij)(bound bit:Nat):(lY c bound bit).length=c.low.length:=by unfold lY;split<;>simp[JV]
theorem rQ{c:ij}(h:iw c)(f:mW c bound)(bit:Nat):iw (jF c bound bit):=by
 have l:=h.len;have m:=GQ h f bit;have e:∀d∈lY c bound bit,d<256:=by
  unfold lY;split
  .exact h.dig
  .exact NR _ _ h.dig
 have i:=sT c bound bit;unfold jF;generalize me c bound bit=W1 at *;generalize lY c bound bit=l1 at *;split
 .exact⟨λd hd'=>by
   rcases zP.1 hd' with a|a
   .exact e d a
   .simp at a;omega,by simp;omega,by simp;omega,by simp;omega,h.L⟩
 .exact⟨e,by simp;omega,by simp;omega,by simp;omega,h.L⟩
theorem zz{c:ij}(bound bit:Nat):c.low.length<=(jF c bound bit).low.length/\(jF c bound bit).low.length<=c.low.length+1:=by
 have:=sT c bound bit
 unfold jF;split<;>simp<;>omega
theorem DC(c:ij)(bound bit:Nat):(jF c bound bit).L=c.L:=by
 unfold jF;split<;>rfl
theorem An{c:ij}(h:iw c)(a:ctx<c.L.length):31<=ny c ctx/\ny c ctx<=4065:=by
 unfold ny;rw[zD,zF a];exact h.L _ (zG a)
theorem uj{c:ij}(h:iw c)(f:ctx<c.L.length):mW c (c.W / 4096*ny c ctx):=by
 obtain⟨a,e⟩:=An h f;have l:=h.lo;have m:4096<=c.W / 4096:=by omega
 have i:c.W / 4096*31<=c.W / 4096*ny c ctx:=mul_le_mul_left _ a;have e2:c.W / 4096*ny c ctx<=c.W / 4096*4065:=mul_le_mul_left _ e;unfold mW;omega
theorem q5{c:ij}(h:iw c):mW c (c.W / 2):=by
 have a:=h.lo;unfold mW;omega
theorem D4{o:Nat}(bit:Nat)(h:31<=o/\o<=4065):31<=pX o bit/\pX o bit<=4065:=by
 unfold pX;split<;>omega
theorem Bv{c:ij}(h:iw c)(f:ctx<c.L.length)(bit:Nat):iw (kq c ctx bit):=by
 have a:=rQ h (uj h f) bit;refine⟨a.dig,a.len,a.lo,a.hi,λo ho=>?_⟩;simp only[kq]at ho;rcases mem_or_eq_of_mem_set ho with e|e
 .exact h.L o e
 .subst e
  exact D4 bit (An h f)
theorem Cp(c:ij)(ctx bit:Nat):(kq c ctx bit).L.length=c.L.length:=by simp[kq]
theorem AZ(c:ij)(ctx bit:Nat):c.low.length<=(kq c ctx bit).low.length/\(kq c ctx bit).low.length<=c.low.length+1:=zz _ _
theorem Ph(v n:Nat):∀ {c:ij},iw c->iw (j9 c v n):=by
 induction n with
 | zero=>exact λh=>h
 | succ n ih=>exact λh=>ih (rQ h (q5 h) _)
theorem M3(v n:Nat):∀(c:ij),(j9 c v n).L=c.L:=by
 induction n with
 | zero=>exact λ_=>rfl
 | succ n ih=>exact λc=>(ih _).trans (DC _ _ _)
theorem FM(v n:Nat):∀(c:ij),c.low.length<=(j9 c v n).low.length/\(j9 c v n).low.length<=c.low.length+n:=by
 induction n with
 | zero=>exact λ_=>⟨zQ _,zQ _⟩
 | succ n ih=>
  intro c;have a:=ih (jF c (c.W / 2) (v / 2^n%2));have e:=zz (c:=c) (c.W / 2) (v / 2^n%2);exact⟨by unfold j9;omega,by unfold j9;omega⟩
theorem nK(c:ij)(ctx k:Nat):(iP c ctx k).L.length=c.L.length:=by
 induction k with
 | zero=>rfl
 | succ k ih=>unfold iP;rw[Cp,ih]
theorem pK{c:ij}(h:iw c)(a:ctx+k<=c.L.length):iw (iP c ctx k):=by
 induction k with
 | zero=>exact h
 | succ k ih=>exact Bv (ih (by omega)) (by rw[nK];omega) 1
theorem Ri(c:ij)(ctx k:Nat):c.low.length<=(iP c ctx k).low.length/\(iP c ctx k).low.length<=c.low.length+k:=by
 induction k with
 | zero=>exact⟨zQ _,zQ _⟩
 | succ k ih=>
  have:=AZ (iP c ctx k) (ctx+k) 1
  exact⟨by unfold iP;omega,by unfold iP;omega⟩
theorem pS(f:v<4294967296):log2 (v+1)<=32:=by
 by_cases h:log2 (v+1)<=32
 .exact h
 .have a:2^33<=2^log2 (v+1):=Nat.pow_le_pow_right (by decide) (by omega)
  have e:=log2_self_le (n:=v+1) (by omega)
  have:(2:Nat)^33=8589934592:=by decide
  omega
theorem Db{c:ij}(h:iw c)(e:v<4294967296)(f:ctx+33<=c.L.length):iw (if log2 (v+1)<32 then kq (iP c ctx (log2 (v+1))) (ctx+log2 (v+1)) 0 else iP c ctx (log2 (v+1))):=by
 have i:=pS e;have a:iw (iP c ctx (log2 (v+1))):=pK h (by omega);split
 .exact Bv a (by rw[nK];omega) 0
 .exact a
theorem O7{c:ij}(h:iw c)(e:v<4294967296)(a:ctx+33<=c.L.length):iw (mc c ctx v):=Ph _ _ (Db h e a)
theorem Jy(c:ij)(ctx v:Nat):(mc c ctx v).L.length=c.L.length:=by
 unfold mc;simp only;rw[M3];split
 .rw[Cp,nK]
 .rw[nK]
theorem Oh(c:ij)(ctx:Nat)(e:v<4294967296):c.low.length<=(mc c ctx v).low.length/\(mc c ctx v).low.length<=c.low.length+65:=by
 have l:=pS e;unfold mc;simp only;have f:=Ri c ctx (log2 (v+1));split
 .have i:=AZ (iP c ctx (log2 (v+1))) (ctx+log2 (v+1)) 0
  have a:=FM (v+1-2^log2 (v+1)) (log2 (v+1)) (kq (iP c ctx (log2 (v+1))) (ctx+log2 (v+1)) 0);omega
 .have a:=FM (v+1-2^log2 (v+1)) (log2 (v+1)) (iP c ctx (log2 (v+1)))
  omega
theorem I6:∀(f x:Nat),0<x->x<2^f->Lib.bitLenAux f x=log2 x+1:=by
 intro f
 induction f with
 | zero=>intro x e a;simp at a;omega
 | succ f ih=>
  intro x e a;unfold Lib.bitLenAux;rw[if_neg (by omega)];by_cases hx:x<2
  .obtain rfl:x=1:=by omega
   cases f<;>rfl
  .rw[ih (x / 2) (by omega) (by rw[Nat.pow_succ]at a;omega),log2_def x,if_pos (by omega)]
   omega
theorem Ki(x:Nat)(a:0<x)(e:x<18446744073709551616):Lib.bitLen x=log2 x+1:=I6 64 x a e
def mj(n:Nat):ij:=⟨[0,0,0,0],4294967295,replicate n 2048⟩
theorem MN(n:Nat):iw (mj n):=
 ⟨by simp[mj],by simp[mj],by simp[mj],by simp[mj],by simp[mj]⟩
def b8(d:Nat):Value:=.int .u8 d
def i64(d:Nat):Value:=.int .i64 d
structure kI (T:TypeId) (w:World) (b g h:Nat) (c:ij):Prop where
 ex:∃vl vo,gn w b T #[vl,.int .u64 c.W,vo]/\gv w 5 vl g (c.low.map b8)/\gv w 3 vo h (c.L.map i64)
section
variable {T:TypeId} {w w':World} {b g h:Nat} {c:ij} {F:List Nat}
theorem kI.Z(i:kI T w b g h c)(a:gg F w w')(m:b∉F)(n:g∉F)(o:h∉F):kI T w' b g h c:=by
 obtain⟨p,q,e,f,l⟩:=i.ex;exact⟨p,q,e.Z a m,f.Z a n,l.Z a o⟩
theorem kI.Y(i:kI T w b g h c)(a:gg [] w w'):kI T w' b g h c:=i.Z a (by simp) (by simp) (by simp)
theorem kI.lt(i:kI T w b g h c):b<w.heap.size/\g<w.heap.size/\h<w.heap.size:=by
 obtain⟨l,m,a,e,f⟩:=i.ex;exact⟨a.lt,e.lt,f.lt⟩
end
structure i8 where
 data:List Nat
 pos:Nat
 V:Nat
 W:Nat
 L:List Nat
 err:Nat
def rA(D:i8)(bound:Nat):Nat:=if bound<=D.V then 1 else 0
def dV(D:i8)(bound:Nat):Nat:=if bound<=D.V then D.V-bound else D.V
def dW(D:i8)(bound:Nat):Nat:=if bound<=D.V then D.W-bound else bound
def jL(D:i8)(bound:Nat):Nat × i8:=
 if dW D bound<16777216 then
  (match D.data[D.pos]? with
   | none=>(0,{ D with err := 3 })
   | some x=>(rA D bound,{ D with V := dV D bound*256+x,W := dW D bound*256,pos := D.pos+1 }))
 else(rA D bound,{ D with V:=dV D bound,W:=dW D bound })
structure lX (D:i8):Prop where
 dig:∀d∈D.data,d<256
 lo:16777216<=D.W
 hi:D.W<4294967296
 val:D.V<D.W
 pos:D.pos<=D.data.length
 L:∀o∈D.L,31<=o/\o<=4065
def mY(D:i8)(ctx:Nat):Nat:=D.L.getD ctx 0
structure kz (T:TypeId) (w:World) (b g h:Nat) (D:i8):Prop where
 ex:∃vd vo,gn w b T #[vd,D.pos,.int .u64 D.V,.int .u64 D.W,vo,D.err]/\gv w 5 vd g (D.data.map b8)/\gv w 3 vo h (D.L.map i64)
section
variable {T:TypeId} {w w':World} {b g h:Nat} {D:i8} {F:List Nat}
theorem kz.Z(i:kz T w b g h D)(a:gg F w w')(m:b∉F)(n:g∉F)(o:h∉F):kz T w' b g h D:=by
 obtain⟨p,q,e,f,l⟩:=i.ex;exact⟨p,q,e.Z a m,f.Z a n,l.Z a o⟩
theorem kz.Y(i:kz T w b g h D)(a:gg [] w w'):kz T w' b g h D:=i.Z a (by simp) (by simp) (by simp)
theorem kz.lt(i:kz T w b g h D):b<w.heap.size/\g<w.heap.size/\h<w.heap.size:=by
 obtain⟨l,m,a,e,f⟩:=i.ex;exact⟨a.lt,e.lt,f.lt⟩
end
theorem Hm{D:i8}(h:lX D)(f:65536<=bound/\bound+65536<=D.W):65536<=dW D bound/\dW D bound<4294967296/\dV D bound<dW D bound:=by
 have a:=h.hi;have e:=h.val;unfold dW dV;split<;>omega
theorem ze(D:i8)(bound:Nat):(jL D bound).2.data=D.data/\(jL D bound).2.L=D.L:=by
 unfold jL;split
 .split<;>exact⟨rfl,rfl⟩
 .exact⟨rfl,rfl⟩
theorem Mf(D:i8)(bound:Nat):(jL D bound).1=0\/(jL D bound).1=1:=by
 unfold jL rA;split
 .split
  .exact .inl rfl
  .simp only;split<;>simp
 .simp only;split<;>simp
theorem E4{D:i8}(h:lX D)(f:65536<=bound/\bound+65536<=D.W):lX (jL D bound).2:=by
 obtain⟨l,m,n⟩:=Hm h f;unfold jL;split
 .rename_i hs
  split
  .exact⟨h.dig,h.lo,h.hi,h.val,h.pos,h.L⟩
  .rename_i x hx
   obtain⟨a,e⟩:=List.getElem?_eq_some_iff.1 hx;have i:x<256:=h.dig x (by rw[<-e];exact zG a);exact⟨h.dig,by simp;omega,by simp;omega,by simp;omega,by simp;omega,h.L⟩
 .exact⟨h.dig,by simp;omega,by simp;omega,by simp;omega,h.pos,h.L⟩
theorem zd{D:i8}(h:lX D)(a:ctx<D.L.length):31<=mY D ctx/\mY D ctx<=4065:=by
 unfold mY;rw[zD,zF a];exact h.L _ (zG a)
theorem DD{D:i8}(h:lX D)(f:ctx<D.L.length):65536<=D.W / 4096*mY D ctx/\D.W / 4096*mY D ctx+65536<=D.W:=by
 obtain⟨a,e⟩:=zd h f;have l:=h.lo;have m:4096<=D.W / 4096:=by omega
 have i:D.W / 4096*31<=D.W / 4096*mY D ctx:=mul_le_mul_left _ a;have e2:D.W / 4096*mY D ctx<=D.W / 4096*4065:=mul_le_mul_left _ e;omega
def mb(D:i8)(ctx:Nat):Nat × i8:=
 let r:=jL D (D.W / 4096*mY D ctx)
 if r.2.err=0 then(r.1,{ r.2 with L:=D.L.set ctx (pX (mY D ctx) r.1) })else r
theorem Gj{D:i8}(h:lX D)(f:ctx<D.L.length):lX (mb D ctx).2:=by
 have a:=E4 h (DD h f);unfold mb;simp only;split
 .refine⟨a.dig,a.lo,a.hi,a.val,a.pos,λo ho=>?_⟩
  rcases mem_or_eq_of_mem_set ho with e|e
  .exact h.L o e
  .subst e
   exact D4 _ (zd h f)
 .exact a
def iV(l:List Nat):Nat:=l.foldl (λa d=>a*256+d) 0
theorem sQ(l:List Nat)(d:Nat):iV (l++[d])=iV l*256+d:=by simp[iV]
theorem NI(l:List Nat):∀a,(∀d∈l,d<256)->l.foldl (λa d=>a*256+d) a<(a+1)*256^l.length:=by
 induction l with
 | nil=>intro a _;simp
 | cons d l ih=>
  intro a h;have f:=ih (a*256+d) λx hx=>h x (by simp[hx]);have i:=h d (by simp);have m:(a*256+d+1)*256^l.length<=((a+1)*256)*256^l.length:=mul_le_mul_right _ (by omega);have e:(a+1)*256^(d::l).length=((a+1)*256)*256^l.length:=by
   rw[zK,Nat.pow_succ,zY (256^l.length),Nat.mul_assoc]
  rw[e,foldl_cons];omega
theorem GO(l:List Nat)(h:∀d∈l,d<256):iV l<256^l.length:=by
 have:=NI l 0 h
 unfold iV
 simpa using this
def p8(ds:List Nat)(n:Nat):i8:=⟨ds,4,iV (ds.take 4),4294967295,replicate n 2048,0⟩
def oQ:List Nat->Nat
 | []=>0
 | d::ds=>d+256*oQ ds
theorem CK(l:List Nat):iV l.reverse=oQ l:=by
 induction l with
 | nil=>rfl
 | cons d l ih=>rw[reverse_cons,sQ,ih,oQ];omega
theorem My(a:List Nat):∀n,oQ a+n<256^a.length->oQ (oG a n)=oQ a+n:=by
 induction a with
 | nil=>intro n h;simp[oQ]at h;subst h;rfl
 | cons d a ih=>
  intro n h;unfold oG;split
  .rename_i h0;simp[h0]
  .rw[zK,Nat.pow_succ,oQ]at h
   have e:oQ a+(n+d) / 256<256^a.length:=(by omega);rw[oQ,oQ,ih _ e];omega
theorem Nm(a:List Nat)(n:Nat)(h:iV a+n<256^a.length):iV (mM a n)=iV a+n:=by
 have e:iV a=oQ a.reverse:=by rw[<-CK,reverse_reverse]
 rw[mM,CK,My _ _ (by rw[<-e];simpa using h),<-e]
def jb(c:ij):Prop:=iV c.low+c.W<=4294967295*256^(c.low.length-4)
theorem LH(n:Nat):jb (mj n):=by simp[jb,mj,iV]
theorem NF{c:ij}(h:iw c)(e:jb c):iV c.low+c.W<256^c.low.length:=by
 unfold jb at e;have f:=h.len;have a:256^c.low.length=4294967296*256^(c.low.length-4):=by
  have:(4294967296:Nat)=256^4:=by decide
  rw[this,<-Nat.pow_add]
  congr 1
  omega
 have i:0<256^(c.low.length-4):=Nat.pow_pos (by decide);rw[a];generalize 256^(c.low.length-4)=q at *;omega
theorem FY{c:ij}(h:iw c)(e:jb c)(a:mW c bound)(bit:Nat):iV (lY c bound bit)=if bit=0 then iV c.low else iV c.low+bound:=by
 have f:=NF h e;have i:=a.2;unfold lY;split
 .rfl
 .exact Nm _ _ (by omega)
theorem Ho{c:ij}(h:iw c)(e:jb c)(a:mW c bound)(bit:Nat):iV c.low<=iV (lY c bound bit)/\iV (lY c bound bit)+me c bound bit<=iV c.low+c.W:=by
 have f:=a.2;rw[FY h e a];unfold me;split<;>omega
theorem ul{c:ij}(h:iw c)(f:jb c)(i:mW c bound)(bit:Nat):jb (jF c bound bit):=by
 have l:=(Ho h f i bit).2;have a:=sT c bound bit;have m:=h.len;unfold jb at f⊢;unfold jF;generalize lY c bound bit=l1 at *;generalize me c bound bit=W1 at *;split
 .simp only
  rw[sQ,zC,length_singleton,a];have e:c.low.length+1-4=(c.low.length-4)+1:=by omega
  rw[e,Nat.pow_succ];omega
 .simp only;rw[a];omega
theorem FL{c:ij}(h:iw c)(e:jb c)(a:ctx<c.L.length)(bit:Nat):jb (kq c ctx bit):=ul h e (uj h a) bit
def pre(data:List Nat)(j:Nat):Nat:=iV (data.take j)
theorem FK{x:Nat}(h:data[j]?=some x):pre data (j+1)=pre data j*256+x:=by
 unfold pre;rw[take_add_one,h];exact sQ _ _
theorem Oz{F:List Nat}(h:j<=k):pre (F.take k) j=pre F j:=by
 unfold pre;rw[take_take,Nat.min_eq_left h]
structure jC (data:List Nat) (c:ij):Prop where
 len:c.low.length<=data.length
 lo:iV c.low<=pre data c.low.length
 hi:pre data c.low.length<iV c.low+c.W
theorem NM{c:ij}(h:iw c):jC c.low c:=
 ⟨zQ _,by simp[pre],by have:=h.lo;simp[pre];omega⟩
theorem Ep{c:ij}(h:iw c)(n:∀d∈data,d<256)(q:jb c)(p:mW c bound)(bit:Nat)(hF:jC data (jF c bound bit)):c.low.length<=data.length/\iV (lY c bound bit)<=pre data c.low.length/\pre data c.low.length<iV (lY c bound bit)+me c bound bit:=by
 have i:=sT c bound bit;obtain⟨f,a,e⟩:=hF;unfold jF at f a e;generalize lY c bound bit=l1 at *;generalize me c bound bit=W1 at *;by_cases hs:W1<16777216
 .rw[if_pos hs]at f a e
  simp only[zC,length_singleton,i]at f a e;obtain⟨x,l⟩:∃x,data[c.low.length]?=some x:=⟨_,zF (by omega)⟩;have o:x<256:=n x (by obtain⟨m,i⟩:=List.getElem?_eq_some_iff.1 l;rw[<-i];exact zG m);rw[FK l,sQ]at a e;exact⟨by omega,by omega,by omega⟩
 .rw[if_neg hs]at f a e
  simp only[i]at f a e;exact⟨f,a,e⟩
theorem Fh{c:ij}(h:iw c)(i:∀d∈data,d<256)(e:jb c)(a:mW c bound)(bit:Nat)(hF:jC data (jF c bound bit)):jC data c:=by
 obtain⟨f,l,m⟩:=Ep h i e a bit hF;have n:=Ho h e a bit;exact⟨f,by omega,by omega⟩
theorem Gm{c:ij}(h:iw c)(e:∀d∈data,d<256)(f:jb c)(a:ctx<c.L.length)(bit:Nat)(hF:jC data (kq c ctx bit)):jC data c:=
 Fh h e f (uj h a) bit ⟨hF.len,hF.lo,hF.hi⟩
structure lu (D:i8) (c:ij):Prop where
 err:D.err=0
 W:D.W=c.W
 L:D.L=c.L
 pos:D.pos=c.low.length
 V:pre D.data D.pos=D.V+iV c.low
theorem Ps(a:List Nat)(n:Nat):lu (p8 a n) (mj n):=
 ⟨rfl,rfl,rfl,rfl,by simp[p8,mj,pre,iV]⟩
theorem Px{D:i8}{c:ij}(i:lu D c)(h:iw c)(n:jb c)(m:mW c bound)(f:bit=0\/bit=1)(e:iV (lY c bound bit)<=pre D.data c.low.length)(a:pre D.data c.low.length<iV (lY c bound bit)+me c bound bit):rA D bound=bit/\dV D bound+iV (lY c bound bit)=pre D.data c.low.length/\dW D bound=me c bound bit:=by
 have l:=i.V;rw[i.pos]at l;rw[FY h n m]at e a⊢;unfold rA dV dW;unfold me at a⊢;rw[i.W];rcases f with rfl|rfl
 .simp only[if_true]at e a⊢
  rw[if_neg (by omega),if_neg (by omega),if_neg (by omega)];exact⟨rfl,by omega,rfl⟩
 .simp only[Nat.one_ne_zero,if_false]at e a⊢
  rw[if_pos (by omega),if_pos (by omega),if_pos (by omega)];exact⟨rfl,by omega,rfl⟩
theorem Ef{D:i8}{c:ij}{F:List Nat}(a:lu D c)(e:D.data=F.take k)(z:k<=F.length)(i:D.pos<=D.data.length)(y:∀d∈F,d<256)(h:iw c)(q:jb c)(p:mW c bound)(f:bit=0\/bit=1)(hF:jC F (jF c bound bit)):((jF c bound bit).low.length<=k->(jL D bound).1=bit/\lu (jL D bound).2 (jF c bound bit))/\(k<(jF c bound bit).low.length->(jL D bound).2.err=3):=by
 have m:D.data.length=k:=by rw[e,zI];omega
 obtain⟨A,n,o⟩:=Ep h y q p bit hF;have t:c.low.length<=k:=by rw[<-a.pos,<-m];exact i
 have s:pre D.data c.low.length=pre F c.low.length:=by rw[e];exact Oz t
 rw[<-s]at n o;obtain⟨u,e2,e3⟩:=Px a h q p f n o;have l:=sT c bound bit;unfold jL;rw[u,e3];unfold jF;by_cases hs:me c bound bit<16777216
 .rw[if_pos hs,if_pos hs]
  simp only[zC,length_singleton,l];refine⟨λhk=>?_,λhk=>?_⟩
  .obtain⟨x,r⟩:∃x,D.data[D.pos]?=some x:=⟨_,zF (by rw[m,a.pos];omega)⟩
   rw[r];refine⟨rfl,a.err,rfl,a.L,?_,?_⟩
   .simp[l,a.pos]
   .simp only
    rw[FK r,sQ,a.pos,<-e2];omega
  .rw[getElem?_eq_none (by rw[m,a.pos];omega)]
 .rw[if_neg hs,if_neg hs]
  simp only[l];refine⟨λ_=>⟨trivial,a.err,rfl,a.L,?_,?_⟩,λhk=>?_⟩
  .simp[l,a.pos]
  .simp only
   rw[a.pos,<-e2]
  .omega
theorem Mg{D:i8}{c:ij}(f:lu D c)(e:lX D)(h:iw c)(l:jb c)(i:mW c bound)(a:bit=0\/bit=1)(hF:jC D.data (jF c bound bit)):(jL D bound).1=bit/\lu (jL D bound).2 (jF c bound bit):=
 (Ef (k:=D.data.length) f (by simp) (zQ _) e.pos e.dig h l i a hF).1 hF.len
theorem Md{D:i8}{c:ij}(a:lu D c)(ctx:Nat):mY D ctx=ny c ctx:=by
 unfold mY ny;rw[a.L]
theorem Nz{D:i8}{c:ij}{F:List Nat}(l:lu D c)(n:D.data=F.take k)(o:k<=F.length)(i:D.pos<=D.data.length)(q:∀d∈F,d<256)(h:iw c)(r:jb c)(f:ctx<c.L.length)(e:bit=0\/bit=1)(hF:jC F (kq c ctx bit)):((kq c ctx bit).low.length<=k->(mb D ctx).1=bit/\lu (mb D ctx).2 (kq c ctx bit))/\(k<(kq c ctx bit).low.length->(mb D ctx).2.err=3):=by
 have p:=Ef l n o i q h r (uj h f) e ⟨hF.len,hF.lo,hF.hi⟩;unfold mb;simp only;rw[l.W,Md l ctx];refine⟨λhk=>?_,λhk=>?_⟩
 .obtain⟨m,a⟩:=p.1 hk
  rw[if_pos a.err,m];refine⟨rfl,a.err,a.W,?_,a.pos,a.V⟩;simp only[kq];rw[l.L]
 .have m:=p.2 hk
  rw[if_neg (by omega)];exact m
theorem E6{D:i8}{c:ij}(i:lu D c)(f:lX D)(h:iw c)(l:jb c)(e:ctx<c.L.length)(a:bit=0\/bit=1)(hF:jC D.data (kq c ctx bit)):(mb D ctx).1=bit/\lu (mb D ctx).2 (kq c ctx bit):=
 (Nz (k:=D.data.length) i (by simp) (zQ _) f.pos f.dig h l e a hF).1 hF.len
theorem Eg(D:i8)(ctx:Nat):(mb D ctx).2.data=D.data:=by
 unfold mb;simp only;split<;>exact(ze D _).1
theorem OB(v n:Nat):∀ {c:ij},iw c->jb c->jb (j9 c v n):=by
 induction n with
 | zero=>exact λ_ h=>h
 | succ n ih=>exact λh hf=>ih (rQ h (q5 h) _) (ul h hf (q5 h) _)
theorem Bl(a:∀d∈data,d<256)(v n:Nat):∀ {c:ij},iw c->jb c->jC data (j9 c v n)->jC data c:=by
 induction n with
 | zero=>exact λ_ _ h=>h
 | succ n ih=>exact λh hf hF=>Fh h a hf (q5 h) _ (ih (rQ h (q5 h) _) (ul h hf (q5 h) _) hF)
theorem uo{c:ij}(h:iw c)(a:jb c)(e:ctx+k<=c.L.length):jb (iP c ctx k):=by
 induction k with
 | zero=>exact a
 | succ k ih=>exact FL (pK h (by omega)) (ih (by omega)) (by rw[nK];omega) 1
theorem Fi(a:∀d∈data,d<256){c:ij}(h:iw c)(f:jb c)(l:ctx+k<=c.L.length)(j:Nat)(i:j<=k)(hF:jC data (iP c ctx k)):jC data (iP c ctx j):=by
  induction k with
  | zero => obtain rfl : j = 0 := by omega
            exact hF
  | succ k ih=>
    by_cases e:j=k+1
    · subst e;exact hF
    · exact ih (by omega) (by omega) (Gm (pK h (by omega)) a (uo h f (by omega)) (by rw[nK];omega) 1 hF)
def lJ(c:ij)(ctx d:Nat):ij:=if d<32 then kq (iP c ctx d) (ctx+d) 0 else iP c ctx d
theorem Br{c:ij}(h:iw c)(f:d<=32)(e:ctx+33<=c.L.length):iw (lJ c ctx d):=by
 have a:iw (iP c ctx d):=pK h (by omega);unfold lJ;split
 .exact Bv a (by rw[nK];omega) 0
 .exact a
theorem AS{c:ij}(h:iw c)(f:jb c)(l:d<=32)(i:ctx+33<=c.L.length):jb (lJ c ctx d):=by
 have e:iw (iP c ctx d):=pK h (by omega);have a:jb (iP c ctx d):=uo h f (by omega);unfold lJ;split
 .exact FL e a (by rw[nK];omega) 0
 .exact a
theorem Oi(c:ij)(ctx v:Nat):mc c ctx v=j9 (lJ c ctx (log2 (v+1))) (v+1-2^log2 (v+1)) (log2 (v+1)):=rfl
theorem Og{c:ij}(h:iw c)(f:jb c)(e:v<4294967296)(a:ctx+33<=c.L.length):jb (mc c ctx v):=
 OB _ _ (Br h (pS e) a) (AS h f (pS e) a)
theorem Gl(e:∀d∈data,d<256){c:ij}(h:iw c)(f:jb c)(a:d<=32)(i:ctx+33<=c.L.length)(hF:jC data (lJ c ctx d)):jC data (iP c ctx d):=by
 unfold lJ at hF;split at hF
 .exact Gm (pK h (by omega)) e (uo h f (by omega)) (by rw[nK];omega) 0 hF
 .exact hF
theorem OV(f:∀d∈data,d<256){c:ij}(h:iw c)(i:jb c)(a:v<4294967296)(e:ctx+33<=c.L.length)(hF:jC data (mc c ctx v)):jC data c:=by
 rw[Oi]at hF;have l:=Bl f _ _ (Br h (pS a) e) (AS h i (pS a) e) hF;exact Fi f h i (k:=log2 (v+1)) (by have:=pS a;omega) 0 (zero_le _) (Gl f h i (pS a) e l)
end Go.Proofs.YtifdlkoepaepiaaGreatDoor
