/- The range coder in plain Lean: what each function of the coder computes, on lists of digits and numbers. No program. -/
import Derived.Test.YtepjepkgcdfboaaGreatDoorMg01
import Derived.Lib.BitFns
set_option linter.unusedVariables false
set_option linter.unusedSimpArgs false
namespace Go.Proofs.YtepjepkgcdfboaaGreatDoor
open Go.RowKit
def carry:List Nat->Nat->List Nat
 | [],_=>[]
 | d::ds,n=>if n=0 then d::ds else ((n+d)%256)::carry ds ((n+d) / 256)
def growL (ds:List Nat) (n:Nat):List Nat:=(carry ds.reverse n).reverse
theorem growL_nil (n:Nat):growL [] n=[]:=rfl
theorem carry_zero (ds:List Nat):carry ds 0=ds:=by cases ds<;>simp [carry]
theorem growL_zero (ds:List Nat):growL ds 0=ds:=by simp [growL,carry_zero]
theorem growL_snoc (ds:List Nat) (d n:Nat) (h:n≠0):growL (ds++[d]) n=growL ds ((n+d) / 256)++[(n+d)%256]:=by
 simp [growL,carry,h]
theorem carry_length (ds:List Nat):∀ n,(carry ds n).length=ds.length:=by
 induction ds with
 | nil=>intro n;rfl
 | cons d ds ih=>intro n;unfold carry;split<;>simp [ih]
theorem growL_length (ds:List Nat) (n:Nat):(growL ds n).length=ds.length:=by simp [growL,carry_length]
theorem carry_lt (ds:List Nat):∀ n,(∀ d∈ds,d<256)->∀ d∈carry ds n,d<256:=by
 induction ds with
 | nil=>intro n _ d hd;simp [carry] at hd
 | cons x ds ih =>
  intro n h d hd
  unfold carry at hd
  split at hd
  ·exact h d hd
  ·rcases zJ.1 hd with rfl | hd
   ·exact Nat.mod_lt _ (by decide)
   ·exact ih _ (fun d hd=>h d (List.mem_cons_of_mem _ hd)) d hd
theorem growL_lt (ds:List Nat) (n:Nat) (h:∀ d∈ds,d<256):∀ d∈growL ds n,d<256:=by
 intro d hd
 exact carry_lt ds.reverse n (by simpa using h) d (by simpa [growL] using hd)
structure Cod where
 low:List Nat
 W:Nat
 odds:List Nat
def lowA (c:Cod) (bound bit:Nat):List Nat:=if bit=0 then c.low else growL c.low bound
def widA (c:Cod) (bound bit:Nat):Nat:=if bit=0 then bound else c.W-bound
def codeL (c:Cod) (bound bit:Nat):Cod :=
 if widA c bound bit<16777216 then ⟨lowA c bound bit++[0],widA c bound bit*256,c.odds⟩ else ⟨lowA c bound bit,widA c bound bit,c.odds⟩
def adaptN (o bit:Nat):Nat:=if bit=0 then o+(4096-o) / 32 else o-o / 32
def oddsAt (c:Cod) (ctx:Nat):Nat:=c.odds.getD ctx 0
def putL (c:Cod) (ctx bit:Nat):Cod :=
 let c1:=codeL c (c.W / 4096*oddsAt c ctx) bit
 { c1 with odds:=c.odds.set ctx (adaptN (oddsAt c ctx) bit) }
def rawL (c:Cod) (v:Nat):Nat->Cod
 | 0=>c
 | n+1=>rawL (codeL c (c.W / 2) (v / 2^n%2)) v n
def onesL (c:Cod) (ctx:Nat):Nat->Cod
 | 0=>c
 | k+1=>putL (onesL c ctx k) (ctx+k) 1
def numL (c:Cod) (ctx v:Nat):Cod :=
 let d:=Nat.log2 (v+1)
 let c1:=onesL c ctx d
 let c2:=if d<32 then putL c1 (ctx+d) 0 else c1
 rawL c2 (v+1-2^d) d
structure CodOk (c:Cod):Prop where
 dig:∀ d∈c.low,d<256
 len:4<=c.low.length
 lo:16777216<=c.W
 hi:c.W<4294967296
 odds:∀ o∈c.odds,31<=o/\o<=4065
def BoundOk (c:Cod) (bound:Nat):Prop:=65536<=bound/\bound+65536<=c.W
theorem widA_ok {c:Cod} (h:CodOk c) {bound:Nat} (hb:BoundOk c bound) (bit:Nat):65536<=widA c bound bit/\widA c bound bit<4294967296:=by
 obtain ⟨h1,h2⟩:=hb
 have hl:=h.lo
 have hh:=h.hi
 unfold widA
 split<;>omega
theorem lowA_len (c:Cod) (bound bit:Nat):(lowA c bound bit).length=c.low.length:=by unfold lowA;split<;>simp [growL_length]
theorem codeL_ok {c:Cod} (h:CodOk c) {bound:Nat} (hb:BoundOk c bound) (bit:Nat):CodOk (codeL c bound bit):=by
 have hn:=h.len
 have hw:=widA_ok h hb bit
 have hd:∀ d∈lowA c bound bit,d<256:=by
  unfold lowA
  split
  ·exact h.dig
  ·exact growL_lt _ _ h.dig
 have aa:=lowA_len c bound bit
 unfold codeL
 generalize widA c bound bit=W1 at *
 generalize lowA c bound bit=l1 at *
 split
 ·exact ⟨fun d hd'=>by
   rcases zP.1 hd' with h' | h'
   ·exact hd d h'
   ·simp at h';omega,by simp;omega,by simp;omega,by simp;omega,h.odds⟩
 ·exact ⟨hd,by simp;omega,by simp;omega,by simp;omega,h.odds⟩
theorem codeL_len {c:Cod} (bound bit:Nat):c.low.length<=(codeL c bound bit).low.length/\(codeL c bound bit).low.length<=c.low.length+1:=by
 have:=lowA_len c bound bit
 unfold codeL
 split<;>simp<;>omega
theorem codeL_odds (c:Cod) (bound bit:Nat):(codeL c bound bit).odds=c.odds:=by
 unfold codeL
 split<;>rfl
theorem oddsAt_ok {c:Cod} (h:CodOk c) {ctx:Nat} (hc:ctx<c.odds.length):31<=oddsAt c ctx/\oddsAt c ctx<=4065:=by
 unfold oddsAt
 rw [zD,zF hc]
 exact h.odds _ (zG hc)
theorem bound_put {c:Cod} (h:CodOk c) {ctx:Nat} (hc:ctx<c.odds.length):BoundOk c (c.W / 4096*oddsAt c ctx):=by
 obtain ⟨h1,h2⟩:=oddsAt_ok h hc
 have hl:=h.lo
 have hq:4096<=c.W / 4096:=by omega
 have e1:c.W / 4096*31<=c.W / 4096*oddsAt c ctx:=Nat.mul_le_mul_left _ h1
 have e2:c.W / 4096*oddsAt c ctx<=c.W / 4096*4065:=Nat.mul_le_mul_left _ h2
 unfold BoundOk
 omega
theorem bound_raw {c:Cod} (h:CodOk c):BoundOk c (c.W / 2):=by
 have hl:=h.lo
 unfold BoundOk
 omega
theorem adaptN_ok {o:Nat} (bit:Nat) (h:31<=o/\o<=4065):31<=adaptN o bit/\adaptN o bit<=4065:=by
 unfold adaptN
 split<;>omega
theorem putL_ok {c:Cod} (h:CodOk c) {ctx:Nat} (hc:ctx<c.odds.length) (bit:Nat):CodOk (putL c ctx bit):=by
 have h1:=codeL_ok h (bound_put h hc) bit
 refine ⟨h1.dig,h1.len,h1.lo,h1.hi,fun o ho => ?_⟩
 simp only [putL] at ho
 rcases List.mem_or_eq_of_mem_set ho with h' | h'
 ·exact h.odds o h'
 ·subst h'
  exact adaptN_ok bit (oddsAt_ok h hc)
theorem putL_odds_len (c:Cod) (ctx bit:Nat):(putL c ctx bit).odds.length=c.odds.length:=by simp [putL]
theorem putL_len (c:Cod) (ctx bit:Nat):c.low.length<=(putL c ctx bit).low.length/\(putL c ctx bit).low.length<=c.low.length+1:=codeL_len _ _
theorem rawL_ok (v n:Nat):∀ {c:Cod},CodOk c->CodOk (rawL c v n):=by
 induction n with
 | zero=>exact fun h=>h
 | succ n ih=>exact fun h=>ih (codeL_ok h (bound_raw h) _)
theorem rawL_odds (v n:Nat):∀ (c:Cod),(rawL c v n).odds=c.odds:=by
 induction n with
 | zero=>exact fun _=>rfl
 | succ n ih=>exact fun c=>(ih _).trans (codeL_odds _ _ _)
theorem rawL_len (v n:Nat):∀ (c:Cod),c.low.length<=(rawL c v n).low.length/\(rawL c v n).low.length<=c.low.length+n:=by
 induction n with
 | zero=>exact fun _=>⟨zQ _,zQ _⟩
 | succ n ih =>
  intro c
  have h1:=ih (codeL c (c.W / 2) (v / 2^n%2))
  have h2:=codeL_len (c:=c) (c.W / 2) (v / 2^n%2)
  exact ⟨by unfold rawL;omega,by unfold rawL;omega⟩
theorem onesL_odds_len (c:Cod) (ctx k:Nat):(onesL c ctx k).odds.length=c.odds.length:=by
 induction k with
 | zero=>rfl
 | succ k ih=>unfold onesL;rw [putL_odds_len,ih]
theorem onesL_ok {c:Cod} (h:CodOk c) {ctx k:Nat} (hk:ctx+k<=c.odds.length):CodOk (onesL c ctx k):=by
 induction k with
 | zero=>exact h
 | succ k ih=>exact putL_ok (ih (by omega)) (by rw [onesL_odds_len];omega) 1
theorem onesL_len (c:Cod) (ctx k:Nat):c.low.length<=(onesL c ctx k).low.length/\(onesL c ctx k).low.length<=c.low.length+k:=by
 induction k with
 | zero=>exact ⟨zQ _,zQ _⟩
 | succ k ih =>
  have:=putL_len (onesL c ctx k) (ctx+k) 1
  exact ⟨by unfold onesL;omega,by unfold onesL;omega⟩
theorem log2_le {v:Nat} (hv:v<4294967296):Nat.log2 (v+1)<=32:=by
 by_cases h:Nat.log2 (v+1)<=32
 ·exact h
 ·have h1:2^33<=2^Nat.log2 (v+1):=Nat.pow_le_pow_right (by decide) (by omega)
  have h2:=Nat.log2_self_le (n:=v+1) (by omega)
  have:(2:Nat)^33=8589934592:=by decide
  omega
theorem numL_mid_ok {c:Cod} (h:CodOk c) {ctx v:Nat} (hv:v<4294967296) (hc:ctx+33<=c.odds.length) :
  CodOk (if Nat.log2 (v+1)<32 then putL (onesL c ctx (Nat.log2 (v+1))) (ctx+Nat.log2 (v+1)) 0 else onesL c ctx (Nat.log2 (v+1))):=by
 have hd:=log2_le hv
 have h1:CodOk (onesL c ctx (Nat.log2 (v+1))):=onesL_ok h (by omega)
 split
 ·exact putL_ok h1 (by rw [onesL_odds_len];omega) 0
 ·exact h1
theorem numL_ok {c:Cod} (h:CodOk c) {ctx v:Nat} (hv:v<4294967296) (hc:ctx+33<=c.odds.length):CodOk (numL c ctx v):=rawL_ok _ _ (numL_mid_ok h hv hc)
theorem numL_odds_len (c:Cod) (ctx v:Nat):(numL c ctx v).odds.length=c.odds.length:=by
 unfold numL
 simp only
 rw [rawL_odds]
 split
 ·rw [putL_odds_len,onesL_odds_len]
 ·rw [onesL_odds_len]
theorem numL_len (c:Cod) (ctx:Nat) {v:Nat} (hv:v<4294967296):c.low.length<=(numL c ctx v).low.length/\(numL c ctx v).low.length<=c.low.length+65:=by
 have hd:=log2_le hv
 unfold numL
 simp only
 have h1:=onesL_len c ctx (Nat.log2 (v+1))
 split
 ·have h2:=putL_len (onesL c ctx (Nat.log2 (v+1))) (ctx+Nat.log2 (v+1)) 0
  have h3:=rawL_len (v+1-2^Nat.log2 (v+1)) (Nat.log2 (v+1)) (putL (onesL c ctx (Nat.log2 (v+1))) (ctx+Nat.log2 (v+1)) 0)
  omega
 ·have h3:=rawL_len (v+1-2^Nat.log2 (v+1)) (Nat.log2 (v+1)) (onesL c ctx (Nat.log2 (v+1)))
  omega
theorem bitLenAux_log2:∀ (f x:Nat),0<x->x<2^f->Lib.bitLenAux f x=Nat.log2 x+1:=by
 intro f
 induction f with
 | zero=>intro x h0 h1;simp at h1;omega
 | succ f ih =>
  intro x h0 h1
  unfold Lib.bitLenAux
  rw [if_neg (by omega)]
  by_cases hx:x<2
  ·obtain rfl:x=1:=by omega
   cases f<;>rfl
  ·rw [ih (x / 2) (by omega) (by rw [Nat.pow_succ] at h1;omega),Nat.log2_def x,if_pos (by omega)]
   omega
theorem bitLen_log2 (x:Nat) (h0:0<x) (h1:x<18446744073709551616):Lib.bitLen x=Nat.log2 x+1:=bitLenAux_log2 64 x h0 h1
def newCod (n:Nat):Cod:=⟨[0,0,0,0],4294967295,List.replicate n 2048⟩
theorem newCod_ok (n:Nat):CodOk (newCod n) :=
 ⟨by simp [newCod],by simp [newCod],by simp [newCod],by simp [newCod],by simp [newCod]⟩
def b8 (d:Nat):Value:=.int .u8 d
def i64 (d:Nat):Value:=.int .i64 d
structure IsCod (T:TypeId) (w:World) (b g h:Nat) (c:Cod):Prop where
 ex:∃ vl vo,Blk w b T #[vl,.int .u64 c.W,vo]/\Row w 5 vl g (c.low.map b8)/\Row w 3 vo h (c.odds.map i64)
section
variable {T:TypeId} {w w':World} {b g h:Nat} {c:Cod} {F:List Nat}
theorem IsCod.chg (i:IsCod T w b g h c) (hc:Chg F w w') (hb:b∉F) (hg:g∉F) (hh:h∉F):IsCod T w' b g h c:=by
 obtain ⟨vl,vo,h1,h2,h3⟩:=i.ex
 exact ⟨vl,vo,h1.chg hc hb,h2.chg hc hg,h3.chg hc hh⟩
theorem IsCod.same (i:IsCod T w b g h c) (hc:Chg [] w w'):IsCod T w' b g h c:=i.chg hc (by simp) (by simp) (by simp)
theorem IsCod.lt (i:IsCod T w b g h c):b<w.heap.size/\g<w.heap.size/\h<w.heap.size:=by
 obtain ⟨vl,vo,h1,h2,h3⟩:=i.ex
 exact ⟨h1.lt,h2.lt,h3.lt⟩
end
structure Dec where
 data:List Nat
 pos:Nat
 V:Nat
 W:Nat
 odds:List Nat
 err:Nat
def dbit (D:Dec) (bound:Nat):Nat:=if bound<=D.V then 1 else 0
def dV (D:Dec) (bound:Nat):Nat:=if bound<=D.V then D.V-bound else D.V
def dW (D:Dec) (bound:Nat):Nat:=if bound<=D.V then D.W-bound else bound
def dcode (D:Dec) (bound:Nat):Nat × Dec :=
 if dW D bound<16777216 then
  (match D.data[D.pos]? with
   | none=>(0,{ D with err := 3 })
   | some x=>(dbit D bound,{ D with V := dV D bound*256+x,W := dW D bound*256,pos := D.pos+1 }))
 else (dbit D bound,{ D with V:=dV D bound,W:=dW D bound })
structure DecOk (D:Dec):Prop where
 dig:∀ d∈D.data,d<256
 lo:16777216<=D.W
 hi:D.W<4294967296
 val:D.V<D.W
 pos:D.pos<=D.data.length
 odds:∀ o∈D.odds,31<=o/\o<=4065
def dOddsAt (D:Dec) (ctx:Nat):Nat:=D.odds.getD ctx 0
structure IsDec (T:TypeId) (w:World) (b g h:Nat) (D:Dec):Prop where
 ex:∃ vd vo,Blk w b T #[vd,.int .i64 D.pos,.int .u64 D.V,.int .u64 D.W,vo,.int .i64 D.err]/\Row w 5 vd g (D.data.map b8)/\Row w 3 vo h (D.odds.map i64)
section
variable {T:TypeId} {w w':World} {b g h:Nat} {D:Dec} {F:List Nat}
theorem IsDec.chg (i:IsDec T w b g h D) (hc:Chg F w w') (hb:b∉F) (hg:g∉F) (hh:h∉F):IsDec T w' b g h D:=by
 obtain ⟨vl,vo,h1,h2,h3⟩:=i.ex
 exact ⟨vl,vo,h1.chg hc hb,h2.chg hc hg,h3.chg hc hh⟩
theorem IsDec.same (i:IsDec T w b g h D) (hc:Chg [] w w'):IsDec T w' b g h D:=i.chg hc (by simp) (by simp) (by simp)
theorem IsDec.lt (i:IsDec T w b g h D):b<w.heap.size/\g<w.heap.size/\h<w.heap.size:=by
 obtain ⟨vl,vo,h1,h2,h3⟩:=i.ex
 exact ⟨h1.lt,h2.lt,h3.lt⟩
end
theorem dW_ok {D:Dec} (h:DecOk D) {bound:Nat} (hb:65536<=bound/\bound+65536<=D.W):65536<=dW D bound/\dW D bound<4294967296/\dV D bound<dW D bound:=by
 have h1:=h.hi
 have h2:=h.val
 unfold dW dV
 split<;>omega
theorem dcode_data (D:Dec) (bound:Nat):(dcode D bound).2.data=D.data/\(dcode D bound).2.odds=D.odds:=by
 unfold dcode
 split
 ·split<;>exact ⟨rfl,rfl⟩
 ·exact ⟨rfl,rfl⟩
theorem dcode_bit (D:Dec) (bound:Nat):(dcode D bound).1=0\/(dcode D bound).1=1:=by
 unfold dcode dbit
 split
 ·split
  ·exact .inl rfl
  ·simp only;split<;>simp
 ·simp only;split<;>simp
theorem dcode_err (D:Dec) (bound:Nat):(dcode D bound).2.err=D.err\/(dcode D bound).2.err=3/\(dcode D bound).1=0:=by
 unfold dcode
 split
 ·split
  ·exact .inr ⟨rfl,rfl⟩
  ·exact .inl rfl
 ·exact .inl rfl
theorem dcode_ok {D:Dec} (h:DecOk D) {bound:Nat} (hb:65536<=bound/\bound+65536<=D.W):DecOk (dcode D bound).2:=by
 obtain ⟨h1,h2,h3⟩:=dW_ok h hb
 unfold dcode
 split
 ·rename_i hs
  split
  ·exact ⟨h.dig,h.lo,h.hi,h.val,h.pos,h.odds⟩
  ·rename_i x hx
   obtain ⟨ab,aa⟩:=List.getElem?_eq_some_iff.1 hx
   have ac:x<256:=h.dig x (by rw [<-aa];exact zG ab)
   exact ⟨h.dig,by simp;omega,by simp;omega,by simp;omega,by simp;omega,h.odds⟩
 ·exact ⟨h.dig,by simp;omega,by simp;omega,by simp;omega,h.pos,h.odds⟩
theorem dOddsAt_ok {D:Dec} (h:DecOk D) {ctx:Nat} (hc:ctx<D.odds.length):31<=dOddsAt D ctx/\dOddsAt D ctx<=4065:=by
 unfold dOddsAt
 rw [zD,zF hc]
 exact h.odds _ (zG hc)
theorem dbound_put {D:Dec} (h:DecOk D) {ctx:Nat} (hc:ctx<D.odds.length):65536<=D.W / 4096*dOddsAt D ctx/\D.W / 4096*dOddsAt D ctx+65536<=D.W:=by
 obtain ⟨h1,h2⟩:=dOddsAt_ok h hc
 have hl:=h.lo
 have hq:4096<=D.W / 4096:=by omega
 have e1:D.W / 4096*31<=D.W / 4096*dOddsAt D ctx:=Nat.mul_le_mul_left _ h1
 have e2:D.W / 4096*dOddsAt D ctx<=D.W / 4096*4065:=Nat.mul_le_mul_left _ h2
 omega
def dget (D:Dec) (ctx:Nat):Nat × Dec :=
 let r:=dcode D (D.W / 4096*dOddsAt D ctx)
 if r.2.err=0 then (r.1,{ r.2 with odds:=D.odds.set ctx (adaptN (dOddsAt D ctx) r.1) }) else r
theorem dget_ok {D:Dec} (h:DecOk D) {ctx:Nat} (hc:ctx<D.odds.length):DecOk (dget D ctx).2:=by
 have h1:=dcode_ok h (dbound_put h hc)
 unfold dget
 simp only
 split
 ·refine ⟨h1.dig,h1.lo,h1.hi,h1.val,h1.pos,fun o ho => ?_⟩
  rcases List.mem_or_eq_of_mem_set ho with h' | h'
  ·exact h.odds o h'
  ·subst h'
   exact adaptN_ok _ (dOddsAt_ok h hc)
 ·exact h1
def valD (l:List Nat):Nat:=l.foldl (fun a d=>a*256+d) 0
theorem valD_snoc (l:List Nat) (d:Nat):valD (l++[d])=valD l*256+d:=by simp [valD]
theorem foldD_lt (l:List Nat):∀ a,(∀ d∈l,d<256)->l.foldl (fun a d=>a*256+d) a<(a+1)*256^l.length:=by
 induction l with
 | nil=>intro a _;simp
 | cons d l ih =>
  intro a h
  have h1:=ih (a*256+d) fun x hx=>h x (by simp [hx])
  have h2:=h d (by simp)
  have h3:(a*256+d+1)*256^l.length<=((a+1)*256)*256^l.length:=Nat.mul_le_mul_right _ (by omega)
  have h4:(a+1)*256^(d::l).length=((a+1)*256)*256^l.length:=by
   rw [zK,Nat.pow_succ,zY (256^l.length),Nat.mul_assoc]
  rw [h4,List.foldl_cons]
  omega
theorem valD_lt (l:List Nat) (h:∀ d∈l,d<256):valD l<256^l.length:=by
 have:=foldD_lt l 0 h
 unfold valD
 simpa using this
def newDec (ds:List Nat) (n:Nat):Dec:=⟨ds,4,valD (ds.take 4),4294967295,List.replicate n 2048,0⟩
def leV:List Nat->Nat
 | []=>0
 | d::ds=>d+256*leV ds
theorem valD_reverse (l:List Nat):valD l.reverse=leV l:=by
 induction l with
 | nil=>rfl
 | cons d l ih=>rw [List.reverse_cons,valD_snoc,ih,leV];omega
theorem leV_carry (ds:List Nat):∀ n,leV ds+n<256^ds.length->leV (carry ds n)=leV ds+n:=by
 induction ds with
 | nil=>intro n h;simp [leV] at h;subst h;rfl
 | cons d ds ih =>
  intro n h
  unfold carry
  split
  ·rename_i h0;simp [h0]
  ·rw [zK,Nat.pow_succ,leV] at h
   have hq:leV ds+(n+d) / 256<256^ds.length:=by omega
   rw [leV,leV,ih _ hq]
   omega
theorem valD_grow (ds:List Nat) (n:Nat) (h:valD ds+n<256^ds.length):valD (growL ds n)=valD ds+n:=by
 have e:valD ds=leV ds.reverse:=by rw [<-valD_reverse,List.reverse_reverse]
 rw [growL,valD_reverse,leV_carry _ _ (by rw [<-e];simpa using h),<-e]
def CodFit (c:Cod):Prop:=valD c.low+c.W<=4294967295*256^(c.low.length-4)
theorem newCod_fit (n:Nat):CodFit (newCod n):=by simp [CodFit,newCod,valD]
theorem fit_room {c:Cod} (h:CodOk c) (hf:CodFit c):valD c.low+c.W<256^c.low.length:=by
 unfold CodFit at hf
 have h1:=h.len
 have h2:256^c.low.length=4294967296*256^(c.low.length-4):=by
  have:(4294967296:Nat)=256^4:=by decide
  rw [this,<-Nat.pow_add]
  congr 1
  omega
 have h3:0<256^(c.low.length-4):=Nat.pow_pos (by decide)
 rw [h2]
 generalize 256^(c.low.length-4)=q at *
 omega
theorem val_lowA {c:Cod} (h:CodOk c) (hf:CodFit c) {bound:Nat} (hb:BoundOk c bound) (bit:Nat):valD (lowA c bound bit)=if bit=0 then valD c.low else valD c.low+bound:=by
 have h1:=fit_room h hf
 have h2:=hb.2
 unfold lowA
 split
 ·rfl
 ·exact valD_grow _ _ (by omega)
theorem sum_A {c:Cod} (h:CodOk c) (hf:CodFit c) {bound:Nat} (hb:BoundOk c bound) (bit:Nat):valD c.low<=valD (lowA c bound bit)/\valD (lowA c bound bit)+widA c bound bit<=valD c.low+c.W:=by
 have h2:=hb.2
 rw [val_lowA h hf hb]
 unfold widA
 split<;>omega
theorem codeL_fit {c:Cod} (h:CodOk c) (hf:CodFit c) {bound:Nat} (hb:BoundOk c bound) (bit:Nat):CodFit (codeL c bound bit):=by
 have h1:=(sum_A h hf hb bit).2
 have h2:=lowA_len c bound bit
 have h3:=h.len
 unfold CodFit at hf ⊢
 unfold codeL
 generalize lowA c bound bit=l1 at *
 generalize widA c bound bit=W1 at *
 split
 ·simp only
  rw [valD_snoc,zC,List.length_singleton,h2]
  have e:c.low.length+1-4=(c.low.length-4)+1:=by omega
  rw [e,Nat.pow_succ]
  omega
 ·simp only;rw [h2];omega
theorem putL_fit {c:Cod} (h:CodOk c) (hf:CodFit c) {ctx:Nat} (hc:ctx<c.odds.length) (bit:Nat):CodFit (putL c ctx bit):=codeL_fit h hf (bound_put h hc) bit
def pre (data:List Nat) (j:Nat):Nat:=valD (data.take j)
theorem pre_succ {data:List Nat} {j x:Nat} (h:data[j]?=some x):pre data (j+1)=pre data j*256+x:=by
 unfold pre
 rw [List.take_add_one,h]
 exact valD_snoc _ _
theorem pre_take {F:List Nat} {k j:Nat} (h:j<=k):pre (F.take k) j=pre F j:=by
 unfold pre
 rw [List.take_take,Nat.min_eq_left h]
structure Fut (data:List Nat) (c:Cod):Prop where
 len:c.low.length<=data.length
 lo:valD c.low<=pre data c.low.length
 hi:pre data c.low.length<valD c.low+c.W
theorem fut_self {c:Cod} (h:CodOk c):Fut c.low c :=
 ⟨zQ _,by simp [pre],by have:=h.lo;simp [pre];omega⟩
theorem fut_codeA {c:Cod} {data:List Nat} (h:CodOk c) (hd:∀ d∈data,d<256) (hf:CodFit c) {bound:Nat} (hb:BoundOk c bound) (bit:Nat) (hF:Fut data (codeL c bound bit)) :
  c.low.length<=data.length/\valD (lowA c bound bit)<=pre data c.low.length/\pre data c.low.length<valD (lowA c bound bit)+widA c bound bit:=by
 have h2:=lowA_len c bound bit
 obtain ⟨h3,h4,h5⟩:=hF
 unfold codeL at h3 h4 h5
 generalize lowA c bound bit=l1 at *
 generalize widA c bound bit=W1 at *
 by_cases hs:W1<16777216
 ·rw [if_pos hs] at h3 h4 h5
  simp only [zC,List.length_singleton,h2] at h3 h4 h5
  obtain ⟨x,hx⟩:∃ x,data[c.low.length]?=some x:=⟨_,zF (by omega)⟩
  have aa:x<256:=hd x (by obtain ⟨h1,h2⟩:=List.getElem?_eq_some_iff.1 hx;rw [<-h2];exact zG h1)
  rw [pre_succ hx,valD_snoc] at h4 h5
  exact ⟨by omega,by omega,by omega⟩
 ·rw [if_neg hs] at h3 h4 h5
  simp only [h2] at h3 h4 h5
  exact ⟨h3,h4,h5⟩
theorem fut_code {c:Cod} {data:List Nat} (h:CodOk c) (hd:∀ d∈data,d<256) (hf:CodFit c) {bound:Nat} (hb:BoundOk c bound) (bit:Nat) (hF:Fut data (codeL c bound bit)):Fut data c:=by
 obtain ⟨h1,h2,h3⟩:=fut_codeA h hd hf hb bit hF
 have h4:=sum_A h hf hb bit
 exact ⟨h1,by omega,by omega⟩
theorem fut_put {c:Cod} {data:List Nat} (h:CodOk c) (hd:∀ d∈data,d<256) (hf:CodFit c) {ctx:Nat} (hc:ctx<c.odds.length) (bit:Nat) (hF:Fut data (putL c ctx bit)):Fut data c :=
 fut_code h hd hf (bound_put h hc) bit ⟨hF.len,hF.lo,hF.hi⟩
structure Syn (D:Dec) (c:Cod):Prop where
 err:D.err=0
 W:D.W=c.W
 odds:D.odds=c.odds
 pos:D.pos=c.low.length
 V:pre D.data D.pos=D.V+valD c.low
theorem syn_new (ds:List Nat) (n:Nat):Syn (newDec ds n) (newCod n) :=
 ⟨rfl,rfl,rfl,rfl,by simp [newDec,newCod,pre,valD]⟩
theorem bit_of {D:Dec} {c:Cod} (hS:Syn D c) (h:CodOk c) (hf:CodFit c) {bound bit:Nat} (hb:BoundOk c bound) (hbit:bit=0\/bit=1)
  (hlo:valD (lowA c bound bit)<=pre D.data c.low.length) (hhi:pre D.data c.low.length<valD (lowA c bound bit)+widA c bound bit) :
  dbit D bound=bit/\dV D bound+valD (lowA c bound bit)=pre D.data c.low.length/\dW D bound=widA c bound bit:=by
 have hV:=hS.V
 rw [hS.pos] at hV
 rw [val_lowA h hf hb] at hlo hhi ⊢
 unfold dbit dV dW
 unfold widA at hhi ⊢
 rw [hS.W]
 rcases hbit with rfl | rfl
 ·simp only [if_true] at hlo hhi ⊢
  rw [if_neg (by omega),if_neg (by omega),if_neg (by omega)]
  exact ⟨rfl,by omega,rfl⟩
 ·simp only [Nat.one_ne_zero,if_false] at hlo hhi ⊢
  rw [if_pos (by omega),if_pos (by omega),if_pos (by omega)]
  exact ⟨rfl,by omega,rfl⟩
theorem dcode_cut {D:Dec} {c:Cod} {F:List Nat} {k:Nat} (hS:Syn D c) (hDF:D.data=F.take k) (hkF:k<=F.length) (hpos:D.pos<=D.data.length) (hd:∀ d∈F,d<256) (h:CodOk c) (hf:CodFit c)
  {bound bit:Nat} (hb:BoundOk c bound) (hbit:bit=0\/bit=1) (hF:Fut F (codeL c bound bit)) :
  ((codeL c bound bit).low.length<=k->(dcode D bound).1=bit/\Syn (dcode D bound).2 (codeL c bound bit))/\(k<(codeL c bound bit).low.length->(dcode D bound).2.err=3):=by
 have aa:D.data.length=k:=by rw [hDF,zI];omega
 obtain ⟨h1,h2,h3⟩:=fut_codeA h hd hf hb bit hF
 have ac:c.low.length<=k:=by rw [<-hS.pos,<-aa];exact hpos
 have ab:pre D.data c.low.length=pre F c.low.length:=by rw [hDF];exact pre_take ac
 rw [<-ab] at h2 h3
 obtain ⟨e1,e2,e3⟩:=bit_of hS h hf hb hbit h2 h3
 have hA:=lowA_len c bound bit
 unfold dcode
 rw [e1,e3]
 unfold codeL
 by_cases hs:widA c bound bit<16777216
 ·rw [if_pos hs,if_pos hs]
  simp only [zC,List.length_singleton,hA]
  refine ⟨fun hk => ?_,fun hk => ?_⟩
  ·obtain ⟨x,hx⟩:∃ x,D.data[D.pos]?=some x:=⟨_,zF (by rw [aa,hS.pos];omega)⟩
   rw [hx]
   refine ⟨rfl,hS.err,rfl,hS.odds,?_,?_⟩
   ·simp [hA,hS.pos]
   ·simp only
    rw [pre_succ hx,valD_snoc,hS.pos,<-e2]
    omega
  ·rw [List.getElem?_eq_none (by rw [aa,hS.pos];omega)]
 ·rw [if_neg hs,if_neg hs]
  simp only [hA]
  refine ⟨fun _=>⟨trivial,hS.err,rfl,hS.odds,?_,?_⟩,fun hk => ?_⟩
  ·simp [hA,hS.pos]
  ·simp only
   rw [hS.pos,<-e2]
  ·omega
theorem dcode_syn {D:Dec} {c:Cod} (hS:Syn D c) (hok:DecOk D) (h:CodOk c) (hf:CodFit c)
  {bound bit:Nat} (hb:BoundOk c bound) (hbit:bit=0\/bit=1) (hF:Fut D.data (codeL c bound bit)) :
  (dcode D bound).1=bit/\Syn (dcode D bound).2 (codeL c bound bit) :=
 (dcode_cut (k:=D.data.length) hS (by simp) (zQ _) hok.pos hok.dig h hf hb hbit hF).1 hF.len
theorem dOdds_syn {D:Dec} {c:Cod} (hS:Syn D c) (ctx:Nat):dOddsAt D ctx=oddsAt c ctx:=by
 unfold dOddsAt oddsAt
 rw [hS.odds]
theorem dget_cut {D:Dec} {c:Cod} {F:List Nat} {k:Nat} (hS:Syn D c) (hDF:D.data=F.take k) (hkF:k<=F.length) (hpos:D.pos<=D.data.length) (hd:∀ d∈F,d<256) (h:CodOk c) (hf:CodFit c)
  {ctx bit:Nat} (hctx:ctx<c.odds.length) (hbit:bit=0\/bit=1) (hF:Fut F (putL c ctx bit)) :
  ((putL c ctx bit).low.length<=k->(dget D ctx).1=bit/\Syn (dget D ctx).2 (putL c ctx bit))/\(k<(putL c ctx bit).low.length->(dget D ctx).2.err=3):=by
 have hc:=dcode_cut hS hDF hkF hpos hd h hf (bound_put h hctx) hbit ⟨hF.len,hF.lo,hF.hi⟩
 unfold dget
 simp only
 rw [hS.W,dOdds_syn hS ctx]
 refine ⟨fun hk => ?_,fun hk => ?_⟩
 ·obtain ⟨h1,h2⟩:=hc.1 hk
  rw [if_pos h2.err,h1]
  refine ⟨rfl,h2.err,h2.W,?_,h2.pos,h2.V⟩
  simp only [putL]
  rw [hS.odds]
 ·have h1:=hc.2 hk
  rw [if_neg (by omega)]
  exact h1
theorem dget_syn {D:Dec} {c:Cod} (hS:Syn D c) (hok:DecOk D) (h:CodOk c) (hf:CodFit c) {ctx bit:Nat} (hctx:ctx<c.odds.length) (hbit:bit=0\/bit=1) (hF:Fut D.data (putL c ctx bit)) :
  (dget D ctx).1=bit/\Syn (dget D ctx).2 (putL c ctx bit) :=
 (dget_cut (k:=D.data.length) hS (by simp) (zQ _) hok.pos hok.dig h hf hctx hbit hF).1 hF.len
theorem dget_data (D:Dec) (ctx:Nat):(dget D ctx).2.data=D.data:=by
 unfold dget
 simp only
 split<;>exact (dcode_data D _).1
theorem rawL_fit (v n:Nat):∀ {c:Cod},CodOk c->CodFit c->CodFit (rawL c v n):=by
 induction n with
 | zero=>exact fun _ h=>h
 | succ n ih=>exact fun h hf=>ih (codeL_ok h (bound_raw h) _) (codeL_fit h hf (bound_raw h) _)
theorem fut_raw {data:List Nat} (hd:∀ d∈data,d<256) (v n:Nat):∀ {c:Cod},CodOk c->CodFit c->Fut data (rawL c v n)->Fut data c:=by
 induction n with
 | zero=>exact fun _ _ h=>h
 | succ n ih=>exact fun h hf hF=>fut_code h hd hf (bound_raw h) _ (ih (codeL_ok h (bound_raw h) _) (codeL_fit h hf (bound_raw h) _) hF)
theorem onesL_fit {c:Cod} (h:CodOk c) (hf:CodFit c) {ctx k:Nat} (hk:ctx+k<=c.odds.length):CodFit (onesL c ctx k):=by
 induction k with
 | zero=>exact hf
 | succ k ih=>exact putL_fit (onesL_ok h (by omega)) (ih (by omega)) (by rw [onesL_odds_len];omega) 1
theorem fut_ones {data:List Nat} (hd:∀ d∈data,d<256) {c:Cod} (h:CodOk c) (hf:CodFit c) {ctx k:Nat} (hk:ctx+k<=c.odds.length) (j:Nat) (hj:j<=k) (hF:Fut data (onesL c ctx k)):Fut data (onesL c ctx j):=by
  induction k with
  | zero => obtain rfl : j = 0 := by omega
            exact hF
  | succ k ih =>
    by_cases e:j=k+1
    · subst e;exact hF
    · exact ih (by omega) (by omega) (fut_put (onesL_ok h (by omega)) hd (onesL_fit h hf (by omega)) (by rw [onesL_odds_len];omega) 1 hF)
def midL (c:Cod) (ctx d:Nat):Cod:=if d<32 then putL (onesL c ctx d) (ctx+d) 0 else onesL c ctx d
theorem midL_ok {c:Cod} (h:CodOk c) {ctx d:Nat} (hd:d<=32) (hc:ctx+33<=c.odds.length):CodOk (midL c ctx d):=by
 have h1:CodOk (onesL c ctx d):=onesL_ok h (by omega)
 unfold midL
 split
 ·exact putL_ok h1 (by rw [onesL_odds_len];omega) 0
 ·exact h1
theorem midL_fit {c:Cod} (h:CodOk c) (hf:CodFit c) {ctx d:Nat} (hd:d<=32) (hc:ctx+33<=c.odds.length):CodFit (midL c ctx d):=by
 have h1:CodOk (onesL c ctx d):=onesL_ok h (by omega)
 have h2:CodFit (onesL c ctx d):=onesL_fit h hf (by omega)
 unfold midL
 split
 ·exact putL_fit h1 h2 (by rw [onesL_odds_len];omega) 0
 ·exact h2
theorem numL_mid (c:Cod) (ctx v:Nat):numL c ctx v=rawL (midL c ctx (Nat.log2 (v+1))) (v+1-2^Nat.log2 (v+1)) (Nat.log2 (v+1)):=rfl
theorem numL_fit {c:Cod} (h:CodOk c) (hf:CodFit c) {ctx v:Nat} (hv:v<4294967296) (hc:ctx+33<=c.odds.length):CodFit (numL c ctx v) :=
 rawL_fit _ _ (midL_ok h (log2_le hv) hc) (midL_fit h hf (log2_le hv) hc)
theorem fut_mid {data:List Nat} (hd:∀ d∈data,d<256) {c:Cod} (h:CodOk c) (hf:CodFit c) {ctx d:Nat} (hd32:d<=32) (hc:ctx+33<=c.odds.length) (hF:Fut data (midL c ctx d)):Fut data (onesL c ctx d):=by
 unfold midL at hF
 split at hF
 ·exact fut_put (onesL_ok h (by omega)) hd (onesL_fit h hf (by omega)) (by rw [onesL_odds_len];omega) 0 hF
 ·exact hF
theorem fut_num {data:List Nat} (hd:∀ d∈data,d<256) {c:Cod} (h:CodOk c) (hf:CodFit c) {ctx v:Nat} (hv:v<4294967296) (hc:ctx+33<=c.odds.length) (hF:Fut data (numL c ctx v)):Fut data c:=by
 rw [numL_mid] at hF
 have h1:=fut_raw hd _ _ (midL_ok h (log2_le hv) hc) (midL_fit h hf (log2_le hv) hc) hF
 exact fut_ones hd h hf (k:=Nat.log2 (v+1)) (by have:=log2_le hv;omega) 0 (Nat.zero_le _) (fut_mid hd h hf (log2_le hv) hc h1)
end Go.Proofs.YtepjepkgcdfboaaGreatDoor
