/- The range coder in plain Lean: what each function of the coder computes, on lists of digits and numbers. No program. -/
import Derived.Test.YtepjepkgcdfboaaGreatDoorMg01
import Derived.Lib.BitFns
set_option linter.unusedVariables false
set_option linter.unusedSimpArgs false
namespace Go.Proofs.YtepjepkgcdfboaaGreatDoor
open Go.RowKit
def b8v:List Nat->Nat->List Nat
 | [],_=>[]
 | d::ds,n=>if n=0 then d::ds else ((n+d)%256)::b8v ds ((n+d) / 256)
def b3e (ds:List Nat) (n:Nat):List Nat:=(b8v ds.reverse n).reverse
theorem e2v (n:Nat):b3e [] n=[]:=rfl
theorem d8i (ds:List Nat):b8v ds 0=ds:=by cases ds<;>simp [b8v]
theorem d8z (ds:List Nat):b3e ds 0=ds:=by simp [b3e,d8i]
theorem d8y (ds:List Nat) (d n:Nat) (h:n≠0):b3e (ds++[d]) n=b3e ds ((n+d) / 256)++[(n+d)%256]:=by
 simp [b3e,b8v,h]
theorem c9q (ds:List Nat):∀ n,(b8v ds n).length=ds.length:=by
 induction ds with
 | nil=>intro n;rfl
 | cons d ds ih=>intro n;unfold b8v;split<;>simp [ih]
theorem d0l (ds:List Nat) (n:Nat):(b3e ds n).length=ds.length:=by simp [b3e,c9q]
theorem e6y (ds:List Nat):∀ n,(∀ d∈ds,d<256)->∀ d∈b8v ds n,d<256:=by
 induction ds with
 | nil=>intro n _ d hd;simp [b8v] at hd
 | cons x ds ih =>
  intro n h d hd
  unfold b8v at hd
  split at hd
  ·exact h d hd
  ·rcases zJ.1 hd with rfl | hd
   ·exact Nat.mod_lt _ (by decide)
   ·exact ih _ (fun d hd=>h d (List.mem_cons_of_mem _ hd)) d hd
theorem e7v (ds:List Nat) (n:Nat) (h:∀ d∈ds,d<256):∀ d∈b3e ds n,d<256:=by
 intro d hd
 exact e6y ds.reverse n (by simpa using h) d (by simpa [b3e] using hd)
structure Cod where
 low:List Nat
 W:Nat
 odds:List Nat
def c7e (c:Cod) (bound bit:Nat):List Nat:=if bit=0 then c.low else b3e c.low bound
def c8y (c:Cod) (bound bit:Nat):Nat:=if bit=0 then bound else c.W-bound
def a4t (c:Cod) (bound bit:Nat):Cod :=
 if c8y c bound bit<16777216 then ⟨c7e c bound bit++[0],c8y c bound bit*256,c.odds⟩ else ⟨c7e c bound bit,c8y c bound bit,c.odds⟩
def b3g (o bit:Nat):Nat:=if bit=0 then o+(4096-o) / 32 else o-o / 32
def a8o (c:Cod) (ctx:Nat):Nat:=c.odds.getD ctx 0
def b9b (c:Cod) (ctx bit:Nat):Cod :=
 let c1:=a4t c (c.W / 4096*a8o c ctx) bit
 { c1 with odds:=c.odds.set ctx (b3g (a8o c ctx) bit) }
def b8j (c:Cod) (v:Nat):Nat->Cod
 | 0=>c
 | n+1=>b8j (a4t c (c.W / 2) (v / 2^n%2)) v n
def a2p (c:Cod) (ctx:Nat):Nat->Cod
 | 0=>c
 | k+1=>b9b (a2p c ctx k) (ctx+k) 1
def c8x (c:Cod) (ctx v:Nat):Cod :=
 let d:=Nat.log2 (v+1)
 let c1:=a2p c ctx d
 let c2:=if d<32 then b9b c1 (ctx+d) 0 else c1
 b8j c2 (v+1-2^d) d
structure a2d (c:Cod):Prop where
 dig:∀ d∈c.low,d<256
 len:4<=c.low.length
 lo:16777216<=c.W
 hi:c.W<4294967296
 odds:∀ o∈c.odds,31<=o/\o<=4065
def a5a (c:Cod) (bound:Nat):Prop:=65536<=bound/\bound+65536<=c.W
theorem e6j {c:Cod} (h:a2d c) {bound:Nat} (hb:a5a c bound) (bit:Nat):65536<=c8y c bound bit/\c8y c bound bit<4294967296:=by
 obtain ⟨h1,h2⟩:=hb
 have hl:=h.lo
 have hh:=h.hi
 unfold c8y
 split<;>omega
theorem b2w (c:Cod) (bound bit:Nat):(c7e c bound bit).length=c.low.length:=by unfold c7e;split<;>simp [d0l]
theorem b0g {c:Cod} (h:a2d c) {bound:Nat} (hb:a5a c bound) (bit:Nat):a2d (a4t c bound bit):=by
 have hn:=h.len
 have hw:=e6j h hb bit
 have hd:∀ d∈c7e c bound bit,d<256:=by
  unfold c7e
  split
  ·exact h.dig
  ·exact e7v _ _ h.dig
 have aa:=b2w c bound bit
 unfold a4t
 generalize c8y c bound bit=W1 at *
 generalize c7e c bound bit=l1 at *
 split
 ·exact ⟨fun d hd'=>by
   rcases zP.1 hd' with h' | h'
   ·exact hd d h'
   ·simp at h';omega,by simp;omega,by simp;omega,by simp;omega,h.odds⟩
 ·exact ⟨hd,by simp;omega,by simp;omega,by simp;omega,h.odds⟩
theorem c0j {c:Cod} (bound bit:Nat):c.low.length<=(a4t c bound bit).low.length/\(a4t c bound bit).low.length<=c.low.length+1:=by
 have:=b2w c bound bit
 unfold a4t
 split<;>simp<;>omega
theorem c4z (c:Cod) (bound bit:Nat):(a4t c bound bit).odds=c.odds:=by
 unfold a4t
 split<;>rfl
theorem c1w {c:Cod} (h:a2d c) {ctx:Nat} (hc:ctx<c.odds.length):31<=a8o c ctx/\a8o c ctx<=4065:=by
 unfold a8o
 rw [zD,zF hc]
 exact h.odds _ (zG hc)
theorem b1g {c:Cod} (h:a2d c) {ctx:Nat} (hc:ctx<c.odds.length):a5a c (c.W / 4096*a8o c ctx):=by
 obtain ⟨h1,h2⟩:=c1w h hc
 have hl:=h.lo
 have hq:4096<=c.W / 4096:=by omega
 have e1:c.W / 4096*31<=c.W / 4096*a8o c ctx:=Nat.mul_le_mul_left _ h1
 have e2:c.W / 4096*a8o c ctx<=c.W / 4096*4065:=Nat.mul_le_mul_left _ h2
 unfold a5a
 omega
theorem a6m {c:Cod} (h:a2d c):a5a c (c.W / 2):=by
 have hl:=h.lo
 unfold a5a
 omega
theorem c9e {o:Nat} (bit:Nat) (h:31<=o/\o<=4065):31<=b3g o bit/\b3g o bit<=4065:=by
 unfold b3g
 split<;>omega
theorem d4i {c:Cod} (h:a2d c) {ctx:Nat} (hc:ctx<c.odds.length) (bit:Nat):a2d (b9b c ctx bit):=by
 have h1:=b0g h (b1g h hc) bit
 refine ⟨h1.dig,h1.len,h1.lo,h1.hi,fun o ho => ?_⟩
 simp only [b9b] at ho
 rcases List.mem_or_eq_of_mem_set ho with h' | h'
 ·exact h.odds o h'
 ·subst h'
  exact c9e bit (c1w h hc)
theorem b5z (c:Cod) (ctx bit:Nat):(b9b c ctx bit).odds.length=c.odds.length:=by simp [b9b]
theorem c7x (c:Cod) (ctx bit:Nat):c.low.length<=(b9b c ctx bit).low.length/\(b9b c ctx bit).low.length<=c.low.length+1:=c0j _ _
theorem f2i (v n:Nat):∀ {c:Cod},a2d c->a2d (b8j c v n):=by
 induction n with
 | zero=>exact fun h=>h
 | succ n ih=>exact fun h=>ih (b0g h (a6m h) _)
theorem e5a (v n:Nat):∀ (c:Cod),(b8j c v n).odds=c.odds:=by
 induction n with
 | zero=>exact fun _=>rfl
 | succ n ih=>exact fun c=>(ih _).trans (c4z _ _ _)
theorem d7j (v n:Nat):∀ (c:Cod),c.low.length<=(b8j c v n).low.length/\(b8j c v n).low.length<=c.low.length+n:=by
 induction n with
 | zero=>exact fun _=>⟨zQ _,zQ _⟩
 | succ n ih =>
  intro c
  have h1:=ih (a4t c (c.W / 2) (v / 2^n%2))
  have h2:=c0j (c:=c) (c.W / 2) (v / 2^n%2)
  exact ⟨by unfold b8j;omega,by unfold b8j;omega⟩
theorem a0x (c:Cod) (ctx k:Nat):(a2p c ctx k).odds.length=c.odds.length:=by
 induction k with
 | zero=>rfl
 | succ k ih=>unfold a2p;rw [b5z,ih]
theorem a6g {c:Cod} (h:a2d c) {ctx k:Nat} (hk:ctx+k<=c.odds.length):a2d (a2p c ctx k):=by
 induction k with
 | zero=>exact h
 | succ k ih=>exact d4i (ih (by omega)) (by rw [a0x];omega) 1
theorem c1x (c:Cod) (ctx k:Nat):c.low.length<=(a2p c ctx k).low.length/\(a2p c ctx k).low.length<=c.low.length+k:=by
 induction k with
 | zero=>exact ⟨zQ _,zQ _⟩
 | succ k ih =>
  have:=c7x (a2p c ctx k) (ctx+k) 1
  exact ⟨by unfold a2p;omega,by unfold a2p;omega⟩
theorem a8z {v:Nat} (hv:v<4294967296):Nat.log2 (v+1)<=32:=by
 by_cases h:Nat.log2 (v+1)<=32
 ·exact h
 ·have h1:2^33<=2^Nat.log2 (v+1):=Nat.pow_le_pow_right (by decide) (by omega)
  have h2:=Nat.log2_self_le (n:=v+1) (by omega)
  have:(2:Nat)^33=8589934592:=by decide
  omega
theorem c1u {c:Cod} (h:a2d c) {ctx v:Nat} (hv:v<4294967296) (hc:ctx+33<=c.odds.length) :
  a2d (if Nat.log2 (v+1)<32 then b9b (a2p c ctx (Nat.log2 (v+1))) (ctx+Nat.log2 (v+1)) 0 else a2p c ctx (Nat.log2 (v+1))):=by
 have hd:=a8z hv
 have h1:a2d (a2p c ctx (Nat.log2 (v+1))):=a6g h (by omega)
 split
 ·exact d4i h1 (by rw [a0x];omega) 0
 ·exact h1
theorem f1y {c:Cod} (h:a2d c) {ctx v:Nat} (hv:v<4294967296) (hc:ctx+33<=c.odds.length):a2d (c8x c ctx v):=f2i _ _ (c1u h hv hc)
theorem c7n (c:Cod) (ctx v:Nat):(c8x c ctx v).odds.length=c.odds.length:=by
 unfold c8x
 simp only
 rw [e5a]
 split
 ·rw [b5z,a0x]
 ·rw [a0x]
theorem e8z (c:Cod) (ctx:Nat) {v:Nat} (hv:v<4294967296):c.low.length<=(c8x c ctx v).low.length/\(c8x c ctx v).low.length<=c.low.length+65:=by
 have hd:=a8z hv
 unfold c8x
 simp only
 have h1:=c1x c ctx (Nat.log2 (v+1))
 split
 ·have h2:=c7x (a2p c ctx (Nat.log2 (v+1))) (ctx+Nat.log2 (v+1)) 0
  have h3:=d7j (v+1-2^Nat.log2 (v+1)) (Nat.log2 (v+1)) (b9b (a2p c ctx (Nat.log2 (v+1))) (ctx+Nat.log2 (v+1)) 0)
  omega
 ·have h3:=d7j (v+1-2^Nat.log2 (v+1)) (Nat.log2 (v+1)) (a2p c ctx (Nat.log2 (v+1)))
  omega
theorem c3m:∀ (f x:Nat),0<x->x<2^f->Lib.bitLenAux f x=Nat.log2 x+1:=by
 intro f
 induction f with
 | zero=>intro x h0 h1;simp at h1;omega
 | succ f ih =>
  intro x h0 h1
  unfold Lib.bitLenAux
  rw [if_neg (by omega)]
  by_cases hx:x<2
  ·obtain rfl:x=1:=by omega
   cases f<;>rfl
  ·rw [ih (x / 2) (by omega) (by rw [Nat.pow_succ] at h1;omega),Nat.log2_def x,if_pos (by omega)]
   omega
theorem d2v (x:Nat) (h0:0<x) (h1:x<18446744073709551616):Lib.bitLen x=Nat.log2 x+1:=c3m 64 x h0 h1
def a6r (n:Nat):Cod:=⟨[0,0,0,0],4294967295,List.replicate n 2048⟩
theorem e4c (n:Nat):a2d (a6r n) :=
 ⟨by simp [a6r],by simp [a6r],by simp [a6r],by simp [a6r],by simp [a6r]⟩
def b8 (d:Nat):Value:=.int .u8 d
def i64 (d:Nat):Value:=.int .i64 d
structure a7p (T:TypeId) (w:World) (b g h:Nat) (c:Cod):Prop where
 ex:∃ vl vo,Blk w b T #[vl,.int .u64 c.W,vo]/\Row w 5 vl g (c.low.map b8)/\Row w 3 vo h (c.odds.map i64)
section
variable {T:TypeId} {w w':World} {b g h:Nat} {c:Cod} {F:List Nat}
theorem a7p.chg (i:a7p T w b g h c) (hc:Chg F w w') (hb:b∉F) (hg:g∉F) (hh:h∉F):a7p T w' b g h c:=by
 obtain ⟨vl,vo,h1,h2,h3⟩:=i.ex
 exact ⟨vl,vo,h1.chg hc hb,h2.chg hc hg,h3.chg hc hh⟩
theorem a7p.same (i:a7p T w b g h c) (hc:Chg [] w w'):a7p T w' b g h c:=i.chg hc (by simp) (by simp) (by simp)
theorem a7p.lt (i:a7p T w b g h c):b<w.heap.size/\g<w.heap.size/\h<w.heap.size:=by
 obtain ⟨vl,vo,h1,h2,h3⟩:=i.ex
 exact ⟨h1.lt,h2.lt,h3.lt⟩
end
structure Dec where
 data:List Nat
 pos:Nat
 V:Nat
 W:Nat
 odds:List Nat
 err:Nat
def f0q (D:Dec) (bound:Nat):Nat:=if bound<=D.V then 1 else 0
def dV (D:Dec) (bound:Nat):Nat:=if bound<=D.V then D.V-bound else D.V
def dW (D:Dec) (bound:Nat):Nat:=if bound<=D.V then D.W-bound else bound
def a4n (D:Dec) (bound:Nat):Nat × Dec :=
 if dW D bound<16777216 then
  (match D.data[D.pos]? with
   | none=>(0,{ D with err := 3 })
   | some x=>(f0q D bound,{ D with V := dV D bound*256+x,W := dW D bound*256,pos := D.pos+1 }))
 else (f0q D bound,{ D with V:=dV D bound,W:=dW D bound })
structure a9g (D:Dec):Prop where
 dig:∀ d∈D.data,d<256
 lo:16777216<=D.W
 hi:D.W<4294967296
 val:D.V<D.W
 pos:D.pos<=D.data.length
 odds:∀ o∈D.odds,31<=o/\o<=4065
def a5c (D:Dec) (ctx:Nat):Nat:=D.odds.getD ctx 0
structure a7f (T:TypeId) (w:World) (b g h:Nat) (D:Dec):Prop where
 ex:∃ vd vo,Blk w b T #[vd,.int .i64 D.pos,.int .u64 D.V,.int .u64 D.W,vo,.int .i64 D.err]/\Row w 5 vd g (D.data.map b8)/\Row w 3 vo h (D.odds.map i64)
section
variable {T:TypeId} {w w':World} {b g h:Nat} {D:Dec} {F:List Nat}
theorem a7f.chg (i:a7f T w b g h D) (hc:Chg F w w') (hb:b∉F) (hg:g∉F) (hh:h∉F):a7f T w' b g h D:=by
 obtain ⟨vl,vo,h1,h2,h3⟩:=i.ex
 exact ⟨vl,vo,h1.chg hc hb,h2.chg hc hg,h3.chg hc hh⟩
theorem a7f.same (i:a7f T w b g h D) (hc:Chg [] w w'):a7f T w' b g h D:=i.chg hc (by simp) (by simp) (by simp)
theorem a7f.lt (i:a7f T w b g h D):b<w.heap.size/\g<w.heap.size/\h<w.heap.size:=by
 obtain ⟨vl,vo,h1,h2,h3⟩:=i.ex
 exact ⟨h1.lt,h2.lt,h3.lt⟩
end
theorem f3o {D:Dec} (h:a9g D) {bound:Nat} (hb:65536<=bound/\bound+65536<=D.W):65536<=dW D bound/\dW D bound<4294967296/\dV D bound<dW D bound:=by
 have h1:=h.hi
 have h2:=h.val
 unfold dW dV
 split<;>omega
theorem b6t (D:Dec) (bound:Nat):(a4n D bound).2.data=D.data/\(a4n D bound).2.odds=D.odds:=by
 unfold a4n
 split
 ·split<;>exact ⟨rfl,rfl⟩
 ·exact ⟨rfl,rfl⟩
theorem e1z (D:Dec) (bound:Nat):(a4n D bound).1=0\/(a4n D bound).1=1:=by
 unfold a4n f0q
 split
 ·split
  ·exact .inl rfl
  ·simp only;split<;>simp
 ·simp only;split<;>simp
theorem e2a (D:Dec) (bound:Nat):(a4n D bound).2.err=D.err\/(a4n D bound).2.err=3/\(a4n D bound).1=0:=by
 unfold a4n
 split
 ·split
  ·exact .inr ⟨rfl,rfl⟩
  ·exact .inl rfl
 ·exact .inl rfl
theorem d5l {D:Dec} (h:a9g D) {bound:Nat} (hb:65536<=bound/\bound+65536<=D.W):a9g (a4n D bound).2:=by
 obtain ⟨h1,h2,h3⟩:=f3o h hb
 unfold a4n
 split
 ·rename_i hs
  split
  ·exact ⟨h.dig,h.lo,h.hi,h.val,h.pos,h.odds⟩
  ·rename_i x hx
   obtain ⟨ab,aa⟩:=List.getElem?_eq_some_iff.1 hx
   have ac:x<256:=h.dig x (by rw [<-aa];exact zG ab)
   exact ⟨h.dig,by simp;omega,by simp;omega,by simp;omega,by simp;omega,h.odds⟩
 ·exact ⟨h.dig,by simp;omega,by simp;omega,by simp;omega,h.pos,h.odds⟩
theorem b6s {D:Dec} (h:a9g D) {ctx:Nat} (hc:ctx<D.odds.length):31<=a5c D ctx/\a5c D ctx<=4065:=by
 unfold a5c
 rw [zD,zF hc]
 exact h.odds _ (zG hc)
theorem c5b {D:Dec} (h:a9g D) {ctx:Nat} (hc:ctx<D.odds.length):65536<=D.W / 4096*a5c D ctx/\D.W / 4096*a5c D ctx+65536<=D.W:=by
 obtain ⟨h1,h2⟩:=b6s h hc
 have hl:=h.lo
 have hq:4096<=D.W / 4096:=by omega
 have e1:D.W / 4096*31<=D.W / 4096*a5c D ctx:=Nat.mul_le_mul_left _ h1
 have e2:D.W / 4096*a5c D ctx<=D.W / 4096*4065:=Nat.mul_le_mul_left _ h2
 omega
def c8w (D:Dec) (ctx:Nat):Nat × Dec :=
 let r:=a4n D (D.W / 4096*a5c D ctx)
 if r.2.err=0 then (r.1,{ r.2 with odds:=D.odds.set ctx (b3g (a5c D ctx) r.1) }) else r
theorem e2d {D:Dec} (h:a9g D) {ctx:Nat} (hc:ctx<D.odds.length):a9g (c8w D ctx).2:=by
 have h1:=d5l h (c5b h hc)
 unfold c8w
 simp only
 split
 ·refine ⟨h1.dig,h1.lo,h1.hi,h1.val,h1.pos,fun o ho => ?_⟩
  rcases List.mem_or_eq_of_mem_set ho with h' | h'
  ·exact h.odds o h'
  ·subst h'
   exact c9e _ (b6s h hc)
 ·exact h1
def a8r (l:List Nat):Nat:=l.foldl (fun a d=>a*256+d) 0
theorem b0c (l:List Nat) (d:Nat):a8r (l++[d])=a8r l*256+d:=by simp [a8r]
theorem e7m (l:List Nat):∀ a,(∀ d∈l,d<256)->l.foldl (fun a d=>a*256+d) a<(a+1)*256^l.length:=by
 induction l with
 | nil=>intro a _;simp
 | cons d l ih =>
  intro a h
  have h1:=ih (a*256+d) fun x hx=>h x (by simp [hx])
  have h2:=h d (by simp)
  have h3:(a*256+d+1)*256^l.length<=((a+1)*256)*256^l.length:=Nat.mul_le_mul_right _ (by omega)
  have h4:(a+1)*256^(d::l).length=((a+1)*256)*256^l.length:=by
   rw [zK,Nat.pow_succ,zY (256^l.length),Nat.mul_assoc]
  rw [h4,List.foldl_cons]
  omega
theorem e6e (l:List Nat) (h:∀ d∈l,d<256):a8r l<256^l.length:=by
 have:=e7m l 0 h
 unfold a8r
 simpa using this
def b3m (ds:List Nat) (n:Nat):Dec:=⟨ds,4,a8r (ds.take 4),4294967295,List.replicate n 2048,0⟩
def leV:List Nat->Nat
 | []=>0
 | d::ds=>d+256*leV ds
theorem b8s (l:List Nat):a8r l.reverse=leV l:=by
 induction l with
 | nil=>rfl
 | cons d l ih=>rw [List.reverse_cons,b0c,ih,leV];omega
theorem e3g (ds:List Nat):∀ n,leV ds+n<256^ds.length->leV (b8v ds n)=leV ds+n:=by
 induction ds with
 | nil=>intro n h;simp [leV] at h;subst h;rfl
 | cons d ds ih =>
  intro n h
  unfold b8v
  split
  ·rename_i h0;simp [h0]
  ·rw [zK,Nat.pow_succ,leV] at h
   have hq:leV ds+(n+d) / 256<256^ds.length:=by omega
   rw [leV,leV,ih _ hq]
   omega
theorem e6d (ds:List Nat) (n:Nat) (h:a8r ds+n<256^ds.length):a8r (b3e ds n)=a8r ds+n:=by
 have e:a8r ds=leV ds.reverse:=by rw [<-b8s,List.reverse_reverse]
 rw [b3e,b8s,e3g _ _ (by rw [<-e];simpa using h),<-e]
def a2c (c:Cod):Prop:=a8r c.low+c.W<=4294967295*256^(c.low.length-4)
theorem d9u (n:Nat):a2c (a6r n):=by simp [a2c,a6r,a8r]
theorem e7j {c:Cod} (h:a2d c) (hf:a2c c):a8r c.low+c.W<256^c.low.length:=by
 unfold a2c at hf
 have h1:=h.len
 have h2:256^c.low.length=4294967296*256^(c.low.length-4):=by
  have:(4294967296:Nat)=256^4:=by decide
  rw [this,<-Nat.pow_add]
  congr 1
  omega
 have h3:0<256^(c.low.length-4):=Nat.pow_pos (by decide)
 rw [h2]
 generalize 256^(c.low.length-4)=q at *
 omega
theorem d7w {c:Cod} (h:a2d c) (hf:a2c c) {bound:Nat} (hb:a5a c bound) (bit:Nat):a8r (c7e c bound bit)=if bit=0 then a8r c.low else a8r c.low+bound:=by
 have h1:=e7j h hf
 have h2:=hb.2
 unfold c7e
 split
 ·rfl
 ·exact e6d _ _ (by omega)
theorem f4i {c:Cod} (h:a2d c) (hf:a2c c) {bound:Nat} (hb:a5a c bound) (bit:Nat):a8r c.low<=a8r (c7e c bound bit)/\a8r (c7e c bound bit)+c8y c bound bit<=a8r c.low+c.W:=by
 have h2:=hb.2
 rw [d7w h hf hb]
 unfold c8y
 split<;>omega
theorem b1j {c:Cod} (h:a2d c) (hf:a2c c) {bound:Nat} (hb:a5a c bound) (bit:Nat):a2c (a4t c bound bit):=by
 have h1:=(f4i h hf hb bit).2
 have h2:=b2w c bound bit
 have h3:=h.len
 unfold a2c at hf ⊢
 unfold a4t
 generalize c7e c bound bit=l1 at *
 generalize c8y c bound bit=W1 at *
 split
 ·simp only
  rw [b0c,zC,List.length_singleton,h2]
  have e:c.low.length+1-4=(c.low.length-4)+1:=by omega
  rw [e,Nat.pow_succ]
  omega
 ·simp only;rw [h2];omega
theorem d7i {c:Cod} (h:a2d c) (hf:a2c c) {ctx:Nat} (hc:ctx<c.odds.length) (bit:Nat):a2c (b9b c ctx bit):=b1j h hf (b1g h hc) bit
def pre (data:List Nat) (j:Nat):Nat:=a8r (data.take j)
theorem d7h {data:List Nat} {j x:Nat} (h:data[j]?=some x):pre data (j+1)=pre data j*256+x:=by
 unfold pre
 rw [List.take_add_one,h]
 exact b0c _ _
theorem e9p {F:List Nat} {k j:Nat} (h:j<=k):pre (F.take k) j=pre F j:=by
 unfold pre
 rw [List.take_take,Nat.min_eq_left h]
structure Fut (data:List Nat) (c:Cod):Prop where
 len:c.low.length<=data.length
 lo:a8r c.low<=pre data c.low.length
 hi:pre data c.low.length<a8r c.low+c.W
theorem e7q {c:Cod} (h:a2d c):Fut c.low c :=
 ⟨zQ _,by simp [pre],by have:=h.lo;simp [pre];omega⟩
theorem d0j {c:Cod} {data:List Nat} (h:a2d c) (hd:∀ d∈data,d<256) (hf:a2c c) {bound:Nat} (hb:a5a c bound) (bit:Nat) (hF:Fut data (a4t c bound bit)) :
  c.low.length<=data.length/\a8r (c7e c bound bit)<=pre data c.low.length/\pre data c.low.length<a8r (c7e c bound bit)+c8y c bound bit:=by
 have h2:=b2w c bound bit
 obtain ⟨h3,h4,h5⟩:=hF
 unfold a4t at h3 h4 h5
 generalize c7e c bound bit=l1 at *
 generalize c8y c bound bit=W1 at *
 by_cases hs:W1<16777216
 ·rw [if_pos hs] at h3 h4 h5
  simp only [zC,List.length_singleton,h2] at h3 h4 h5
  obtain ⟨x,hx⟩:∃ x,data[c.low.length]?=some x:=⟨_,zF (by omega)⟩
  have aa:x<256:=hd x (by obtain ⟨h1,h2⟩:=List.getElem?_eq_some_iff.1 hx;rw [<-h2];exact zG h1)
  rw [d7h hx,b0c] at h4 h5
  exact ⟨by omega,by omega,by omega⟩
 ·rw [if_neg hs] at h3 h4 h5
  simp only [h2] at h3 h4 h5
  exact ⟨h3,h4,h5⟩
theorem d5z {c:Cod} {data:List Nat} (h:a2d c) (hd:∀ d∈data,d<256) (hf:a2c c) {bound:Nat} (hb:a5a c bound) (bit:Nat) (hF:Fut data (a4t c bound bit)):Fut data c:=by
 obtain ⟨h1,h2,h3⟩:=d0j h hd hf hb bit hF
 have h4:=f4i h hf hb bit
 exact ⟨h1,by omega,by omega⟩
theorem e2q {c:Cod} {data:List Nat} (h:a2d c) (hd:∀ d∈data,d<256) (hf:a2c c) {ctx:Nat} (hc:ctx<c.odds.length) (bit:Nat) (hF:Fut data (b9b c ctx bit)):Fut data c :=
 d5z h hd hf (b1g h hc) bit ⟨hF.len,hF.lo,hF.hi⟩
structure Syn (D:Dec) (c:Cod):Prop where
 err:D.err=0
 W:D.W=c.W
 odds:D.odds=c.odds
 pos:D.pos=c.low.length
 V:pre D.data D.pos=D.V+a8r c.low
theorem f2w (ds:List Nat) (n:Nat):Syn (b3m ds n) (a6r n) :=
 ⟨rfl,rfl,rfl,rfl,by simp [b3m,a6r,pre,a8r]⟩
theorem f3n {D:Dec} {c:Cod} (hS:Syn D c) (h:a2d c) (hf:a2c c) {bound bit:Nat} (hb:a5a c bound) (hbit:bit=0\/bit=1)
  (hlo:a8r (c7e c bound bit)<=pre D.data c.low.length) (hhi:pre D.data c.low.length<a8r (c7e c bound bit)+c8y c bound bit) :
  f0q D bound=bit/\dV D bound+a8r (c7e c bound bit)=pre D.data c.low.length/\dW D bound=c8y c bound bit:=by
 have hV:=hS.V
 rw [hS.pos] at hV
 rw [d7w h hf hb] at hlo hhi ⊢
 unfold f0q dV dW
 unfold c8y at hhi ⊢
 rw [hS.W]
 rcases hbit with rfl | rfl
 ·simp only [if_true] at hlo hhi ⊢
  rw [if_neg (by omega),if_neg (by omega),if_neg (by omega)]
  exact ⟨rfl,by omega,rfl⟩
 ·simp only [Nat.one_ne_zero,if_false] at hlo hhi ⊢
  rw [if_pos (by omega),if_pos (by omega),if_pos (by omega)]
  exact ⟨rfl,by omega,rfl⟩
theorem d0a {D:Dec} {c:Cod} {F:List Nat} {k:Nat} (hS:Syn D c) (hDF:D.data=F.take k) (hkF:k<=F.length) (hpos:D.pos<=D.data.length) (hd:∀ d∈F,d<256) (h:a2d c) (hf:a2c c)
  {bound bit:Nat} (hb:a5a c bound) (hbit:bit=0\/bit=1) (hF:Fut F (a4t c bound bit)) :
  ((a4t c bound bit).low.length<=k->(a4n D bound).1=bit/\Syn (a4n D bound).2 (a4t c bound bit))/\(k<(a4t c bound bit).low.length->(a4n D bound).2.err=3):=by
 have aa:D.data.length=k:=by rw [hDF,zI];omega
 obtain ⟨h1,h2,h3⟩:=d0j h hd hf hb bit hF
 have ac:c.low.length<=k:=by rw [<-hS.pos,<-aa];exact hpos
 have ab:pre D.data c.low.length=pre F c.low.length:=by rw [hDF];exact e9p ac
 rw [<-ab] at h2 h3
 obtain ⟨e1,e2,e3⟩:=f3n hS h hf hb hbit h2 h3
 have hA:=b2w c bound bit
 unfold a4n
 rw [e1,e3]
 unfold a4t
 by_cases hs:c8y c bound bit<16777216
 ·rw [if_pos hs,if_pos hs]
  simp only [zC,List.length_singleton,hA]
  refine ⟨fun hk => ?_,fun hk => ?_⟩
  ·obtain ⟨x,hx⟩:∃ x,D.data[D.pos]?=some x:=⟨_,zF (by rw [aa,hS.pos];omega)⟩
   rw [hx]
   refine ⟨rfl,hS.err,rfl,hS.odds,?_,?_⟩
   ·simp [hA,hS.pos]
   ·simp only
    rw [d7h hx,b0c,hS.pos,<-e2]
    omega
  ·rw [List.getElem?_eq_none (by rw [aa,hS.pos];omega)]
 ·rw [if_neg hs,if_neg hs]
  simp only [hA]
  refine ⟨fun _=>⟨trivial,hS.err,rfl,hS.odds,?_,?_⟩,fun hk => ?_⟩
  ·simp [hA,hS.pos]
  ·simp only
   rw [hS.pos,<-e2]
  ·omega
theorem e2b {D:Dec} {c:Cod} (hS:Syn D c) (hok:a9g D) (h:a2d c) (hf:a2c c)
  {bound bit:Nat} (hb:a5a c bound) (hbit:bit=0\/bit=1) (hF:Fut D.data (a4t c bound bit)) :
  (a4n D bound).1=bit/\Syn (a4n D bound).2 (a4t c bound bit) :=
 (d0a (k:=D.data.length) hS (by simp) (zQ _) hok.pos hok.dig h hf hb hbit hF).1 hF.len
theorem e1x {D:Dec} {c:Cod} (hS:Syn D c) (ctx:Nat):a5c D ctx=a8o c ctx:=by
 unfold a5c a8o
 rw [hS.odds]
theorem e7d {D:Dec} {c:Cod} {F:List Nat} {k:Nat} (hS:Syn D c) (hDF:D.data=F.take k) (hkF:k<=F.length) (hpos:D.pos<=D.data.length) (hd:∀ d∈F,d<256) (h:a2d c) (hf:a2c c)
  {ctx bit:Nat} (hctx:ctx<c.odds.length) (hbit:bit=0\/bit=1) (hF:Fut F (b9b c ctx bit)) :
  ((b9b c ctx bit).low.length<=k->(c8w D ctx).1=bit/\Syn (c8w D ctx).2 (b9b c ctx bit))/\(k<(b9b c ctx bit).low.length->(c8w D ctx).2.err=3):=by
 have hc:=d0a hS hDF hkF hpos hd h hf (b1g h hctx) hbit ⟨hF.len,hF.lo,hF.hi⟩
 unfold c8w
 simp only
 rw [hS.W,e1x hS ctx]
 refine ⟨fun hk => ?_,fun hk => ?_⟩
 ·obtain ⟨h1,h2⟩:=hc.1 hk
  rw [if_pos h2.err,h1]
  refine ⟨rfl,h2.err,h2.W,?_,h2.pos,h2.V⟩
  simp only [b9b]
  rw [hS.odds]
 ·have h1:=hc.2 hk
  rw [if_neg (by omega)]
  exact h1
theorem d5n {D:Dec} {c:Cod} (hS:Syn D c) (hok:a9g D) (h:a2d c) (hf:a2c c) {ctx bit:Nat} (hctx:ctx<c.odds.length) (hbit:bit=0\/bit=1) (hF:Fut D.data (b9b c ctx bit)) :
  (c8w D ctx).1=bit/\Syn (c8w D ctx).2 (b9b c ctx bit) :=
 (e7d (k:=D.data.length) hS (by simp) (zQ _) hok.pos hok.dig h hf hctx hbit hF).1 hF.len
theorem d0b (D:Dec) (ctx:Nat):(c8w D ctx).2.data=D.data:=by
 unfold c8w
 simp only
 split<;>exact (b6t D _).1
theorem e9r (v n:Nat):∀ {c:Cod},a2d c->a2c c->a2c (b8j c v n):=by
 induction n with
 | zero=>exact fun _ h=>h
 | succ n ih=>exact fun h hf=>ih (b0g h (a6m h) _) (b1j h hf (a6m h) _)
theorem d3k {data:List Nat} (hd:∀ d∈data,d<256) (v n:Nat):∀ {c:Cod},a2d c->a2c c->Fut data (b8j c v n)->Fut data c:=by
 induction n with
 | zero=>exact fun _ _ h=>h
 | succ n ih=>exact fun h hf hF=>d5z h hd hf (a6m h) _ (ih (b0g h (a6m h) _) (b1j h hf (a6m h) _) hF)
theorem b1v {c:Cod} (h:a2d c) (hf:a2c c) {ctx k:Nat} (hk:ctx+k<=c.odds.length):a2c (a2p c ctx k):=by
 induction k with
 | zero=>exact hf
 | succ k ih=>exact d7i (a6g h (by omega)) (ih (by omega)) (by rw [a0x];omega) 1
theorem d6a {data:List Nat} (hd:∀ d∈data,d<256) {c:Cod} (h:a2d c) (hf:a2c c) {ctx k:Nat} (hk:ctx+k<=c.odds.length) (j:Nat) (hj:j<=k) (hF:Fut data (a2p c ctx k)):Fut data (a2p c ctx j):=by
  induction k with
  | zero => obtain rfl : j = 0 := by omega
            exact hF
  | succ k ih =>
    by_cases e:j=k+1
    · subst e;exact hF
    · exact ih (by omega) (by omega) (e2q (a6g h (by omega)) hd (b1v h hf (by omega)) (by rw [a0x];omega) 1 hF)
def c3u (c:Cod) (ctx d:Nat):Cod:=if d<32 then b9b (a2p c ctx d) (ctx+d) 0 else a2p c ctx d
theorem d3w {c:Cod} (h:a2d c) {ctx d:Nat} (hd:d<=32) (hc:ctx+33<=c.odds.length):a2d (c3u c ctx d):=by
 have h1:a2d (a2p c ctx d):=a6g h (by omega)
 unfold c3u
 split
 ·exact d4i h1 (by rw [a0x];omega) 0
 ·exact h1
theorem c7g {c:Cod} (h:a2d c) (hf:a2c c) {ctx d:Nat} (hd:d<=32) (hc:ctx+33<=c.odds.length):a2c (c3u c ctx d):=by
 have h1:a2d (a2p c ctx d):=a6g h (by omega)
 have h2:a2c (a2p c ctx d):=b1v h hf (by omega)
 unfold c3u
 split
 ·exact d7i h1 h2 (by rw [a0x];omega) 0
 ·exact h2
theorem e9a (c:Cod) (ctx v:Nat):c8x c ctx v=b8j (c3u c ctx (Nat.log2 (v+1))) (v+1-2^Nat.log2 (v+1)) (Nat.log2 (v+1)):=rfl
theorem e8y {c:Cod} (h:a2d c) (hf:a2c c) {ctx v:Nat} (hv:v<4294967296) (hc:ctx+33<=c.odds.length):a2c (c8x c ctx v) :=
 e9r _ _ (d3w h (a8z hv) hc) (c7g h hf (a8z hv) hc)
theorem e2p {data:List Nat} (hd:∀ d∈data,d<256) {c:Cod} (h:a2d c) (hf:a2c c) {ctx d:Nat} (hd32:d<=32) (hc:ctx+33<=c.odds.length) (hF:Fut data (c3u c ctx d)):Fut data (a2p c ctx d):=by
 unfold c3u at hF
 split at hF
 ·exact e2q (a6g h (by omega)) hd (b1v h hf (by omega)) (by rw [a0x];omega) 0 hF
 ·exact hF
theorem f1l {data:List Nat} (hd:∀ d∈data,d<256) {c:Cod} (h:a2d c) (hf:a2c c) {ctx v:Nat} (hv:v<4294967296) (hc:ctx+33<=c.odds.length) (hF:Fut data (c8x c ctx v)):Fut data c:=by
 rw [e9a] at hF
 have h1:=d3k hd _ _ (d3w h (a8z hv) hc) (c7g h hf (a8z hv) hc) hF
 exact d6a hd h hf (k:=Nat.log2 (v+1)) (by have:=a8z hv;omega) 0 (Nat.zero_le _) (e2p hd h hf (a8z hv) hc h1)
end Go.Proofs.YtepjepkgcdfboaaGreatDoor
