/- Guesses of whole rows in plain Lean: rows, weights, the best kinds, what is left. No program. -/
import Derived.Test.YtijpbkakncglgaaGreatDoorMg01
import Derived.Test.YtijpbkakncglgaaGreatDoorMg12
set_option linter.unusedVariables false
set_option linter.unusedSimpArgs false
namespace Go.Proofs.YtijpbkakncglgaaGreatDoor
open Go.RowKit
def restAt (l:List Int) (W d kind y x:Nat):Int:=wrapI (l.getD (y*W+x) 0-guessI kind (nbr l W x y) d) d
def rowL (l:List Int) (W y d kind:Nat):List Int:=(List.range W).map (restAt l W d kind y)
theorem rowL_len (l:List Int) (W y d kind:Nat):(rowL l W y d kind).length=W:=by simp [rowL]
theorem rowL_ok (l:List Int) (W y d kind:Nat):SmpOk d (rowL l W y d kind):=by
 intro s hs
 obtain ⟨x,_,rfl⟩:=List.mem_map.1 hs
 exact ⟨wrapI_lo _ _,wrapI_hi _ _⟩
def absFold (d:Nat) (v:Int):Int:=distI (foldI v d) 0
theorem absFold_ok {d:Nat} (h:1≤d) (hd:d≤16) (v:Int):0≤absFold d v∧absFold d v≤32768:=by
 obtain ⟨h1,h2⟩:=foldI_range v h
 have h3:(2:Int)^(d-1)≤2^15:=by
  have:=Nat.pow_le_pow_right (n:=2) (by decide) (show d-1≤15 by omega)
  exact_mod_cast this
 unfold absFold distI
 split<;>omega
def weightI (l:List Int) (d:Nat):Int:=(l.map (absFold d)).sum
theorem weightI_snoc (l:List Int) (x:Int) (d:Nat):weightI (l++[x]) d=weightI l d+absFold d x:=by simp [weightI]
theorem weightI_ok {d:Nat} (h:1≤d) (hd:d≤16) (l:List Int):0≤weightI l d∧weightI l d≤32768*l.length:=by
 induction l with
 | nil=>simp [weightI]
 | cons x l ih =>
  have:=absFold_ok h hd x
  have e:weightI (x::l) d=absFold d x+weightI l d:=by simp [weightI]
  rw [e,List.length_cons]
  omega
def bestUp (l:List Int) (W y d:Nat):Nat→Nat
 | 0=>0
 | n+1=>if weightI (rowL l W y d (n+1)) d<weightI (rowL l W y d (bestUp l W y d n)) d then n+1 else bestUp l W y d n
theorem bestUp_le (l:List Int) (W y d:Nat):∀ n,bestUp l W y d n≤n
 | 0=>Nat.le_refl _
 | n+1=>by
  have:=bestUp_le l W y d n
  unfold bestUp
  split<;>omega
def bestKinds (l:List Int) (W H d:Nat):List Nat:=(List.range H).map (fun y=>bestUp l W y d 9)
theorem bestKinds_len (l:List Int) (W H d:Nat):(bestKinds l W H d).length=H:=by simp [bestKinds]
theorem bestKinds_ok (l:List Int) (W H d:Nat):∀ k∈bestKinds l W H d,k<10:=by
 intro k hk
 obtain ⟨y,_,rfl⟩:=List.mem_map.1 hk
 have:=bestUp_le l W y d 9
 omega
def foreL (l:List Int) (W H d:Nat) (ks:List Nat):List Int:=(List.range H).flatMap (fun y=>rowL l W y d (ks.getD y 0))
theorem flatMap_len_const {α β:Type} (f:α→List β) (n:Nat) (l:List α) (h:∀ a∈l,(f a).length=n):(l.flatMap f).length=n*l.length:=by
 induction l with
 | nil=>simp
 | cons a l ih =>
  rw [List.flatMap_cons,List.length_append,h a (by simp),ih fun b hb=>h b (by simp [hb]),List.length_cons,Nat.mul_add]
  omega
theorem foreL_len (l:List Int) (W H d:Nat) (ks:List Nat):(foreL l W H d ks).length=W*H:=by
 unfold foreL
 rw [flatMap_len_const _ W _ fun y _=>rowL_len _ _ _ _ _,List.length_range]
theorem foreL_ok (l:List Int) (W H d:Nat) (ks:List Nat):SmpOk d (foreL l W H d ks):=by
 intro s hs
 obtain ⟨y,_,hy⟩:=List.mem_flatMap.1 hs
 exact rowL_ok _ _ _ _ _ s hy
def fillL (done:List Int) (n:Nat):List Int:=done++List.replicate (n-done.length) 0
theorem fillL_len {done:List Int} {n:Nat} (h:done.length≤n):(fillL done n).length=n:=by simp [fillL];omega
theorem fillL_set {done:List Int} {n:Nat} (h:done.length<n) (v:Int):(fillL done n).set done.length v=fillL (done++[v]) n:=by
 unfold fillL
 obtain ⟨k,hk⟩:∃ k,n-done.length=k+1:=⟨n-done.length-1,by omega⟩
 have hk2:n-(done++[v]).length=k:=by simp;omega
 rw [hk,hk2,List.set_append_right _ _ (Nat.le_refl _),Nat.sub_self]
 simp [List.replicate_succ]
theorem fillL_full {done:List Int} {n:Nat} (h:done.length=n):fillL done n=done:=by simp [fillL,h]
theorem fillL_nil (n:Nat):fillL [] n=List.replicate n 0:=by simp [fillL]
def zr:Nat→List Nat→Nat
 | 0,_=>0
 | _+1,[]=>0
 | m+1,x::l=>if x=0 then zr m l+1 else 0
theorem zr_le (m:Nat):∀ l,zr m l≤m:=by
 induction m with
 | zero=>intro l;simp [zr]
 | succ m ih =>
  intro l
  cases l with
  | nil=>simp [zr]
  | cons x l =>
   unfold zr
   split
   ·have:=ih l;omega
   ·omega
theorem zr_len (m:Nat):∀ l,zr m l≤l.length:=by
 induction m with
 | zero=>intro l;simp [zr]
 | succ m ih =>
  intro l
  cases l with
  | nil=>simp [zr]
  | cons x l =>
   unfold zr
   split
   ·have:=ih l;simp;omega
   ·simp
theorem zr_zero (m:Nat):∀ (l:List Nat) (z:Nat),z<zr m l→l.getD z 0=0:=by
 induction m with
 | zero=>intro l z h;simp [zr] at h
 | succ m ih =>
  intro l z h
  cases l with
  | nil=>simp
  | cons x l =>
   unfold zr at h
   split at h
   ·rename_i hx
    cases z with
    | zero=>simpa using hx
    | succ z =>
     have:=ih l z (by omega)
     simpa using this
   ·omega
theorem zr_stop (m:Nat):∀ (l:List Nat),zr m l=m∨zr m l=l.length∨l.getD (zr m l) 0≠0:=by
 induction m with
 | zero=>intro l;left;simp [zr]
 | succ m ih =>
  intro l
  cases l with
  | nil=>right;left;simp [zr]
  | cons x l =>
   unfold zr
   split
   ·rcases ih l with h | h | h
    ·left;omega
    ·right;left;simp;omega
    ·right;right;simpa using h
   ·rename_i hx
    right;right;simpa using hx
def bodyBits:Nat→List Nat→List Nat
 | 0,_=>[]
 | _+1,[]=>[]
 | f+1,x::l =>
  if zr 66 (x::l)<3 then bitsOf x 5++bodyBits f l else bitsOf 31 5++(bitsOf (zr 66 (x::l)-3) 6++bodyBits f ((x::l).drop (zr 66 (x::l))))
def tableBits (lens:List Nat):List Nat:=bitsOf (lens.length-1) 10++bodyBits lens.length lens
theorem body_room:∀ (f g:Nat) (l:List Nat),l.length≤f→l.length≤g→bodyBits f l=bodyBits g l
 | 0,g,l,h,_=>by
  obtain rfl:l=[]:=List.eq_nil_of_length_eq_zero (by omega)
  cases g<;>rfl
 | f+1,0,l,_,h=>by
  obtain rfl:l=[]:=List.eq_nil_of_length_eq_zero (by omega)
  rfl
 | f+1,g+1,[],_,_=>rfl
 | f+1,g+1,x::l,h1,h2=>by
  simp only [List.length_cons] at h1 h2
  unfold bodyBits
  split
  ·rw [body_room f g l (by omega) (by omega)]
  ·rw [body_room f g _ (by rw [List.length_drop,List.length_cons];omega) (by rw [List.length_drop,List.length_cons];omega)]
theorem body_cons (f x:Nat) (l:List Nat):bodyBits (f+1) (x::l) =
  if zr 66 (x::l)<3 then bitsOf x 5++bodyBits f l else bitsOf 31 5++(bitsOf (zr 66 (x::l)-3) 6++bodyBits f ((x::l).drop (zr 66 (x::l)))):=rfl
def bodyFrom (lens:List Nat) (i:Nat):List Nat:=bodyBits lens.length (lens.drop i)
theorem bodyFrom_end (lens:List Nat):bodyFrom lens lens.length=[]:=by
 unfold bodyFrom
 rw [List.drop_length]
 cases lens.length<;>rfl
theorem bodyFrom_one {lens:List Nat} {i:Nat} (hi:i<lens.length) (hz:zr 66 (lens.drop i)<3):bodyFrom lens i=bitsOf (lenAt lens i) 5++bodyFrom lens (i+1):=by
 unfold bodyFrom
 have e:lens.drop i=lens[i]::lens.drop (i+1):=List.drop_eq_getElem_cons hi
 rw [e] at hz ⊢
 obtain ⟨f,hf⟩:∃ f,lens.length=f+1:=⟨lens.length-1,by omega⟩
 have hl:lenAt lens i=lens[i]:=by unfold lenAt;rw [List.getD_eq_getElem?_getD,List.getElem?_eq_getElem hi];rfl
 rw [hl]
 rw [hf,body_cons,if_pos hz,body_room f (f+1) _ (by rw [List.length_drop];omega) (by rw [List.length_drop];omega)]
theorem bodyFrom_many {lens:List Nat} {i:Nat} (hi:i<lens.length) (hz:¬ zr 66 (lens.drop i)<3) :
  bodyFrom lens i=bitsOf 31 5++(bitsOf (zr 66 (lens.drop i)-3) 6++bodyFrom lens (i+zr 66 (lens.drop i))):=by
 unfold bodyFrom
 have e:lens.drop i=lens[i]::lens.drop (i+1):=List.drop_eq_getElem_cons hi
 have e2:lens.drop (i+zr 66 (lens.drop i))=(lens.drop i).drop (zr 66 (lens.drop i)):=by rw [List.drop_drop]
 rw [e2]
 rw [e] at hz ⊢
 obtain ⟨f,hf⟩:∃ f,lens.length=f+1:=⟨lens.length-1,by omega⟩
 have hzl:=zr_len 66 (lens[i]::lens.drop (i+1))
 rw [hf,body_cons,if_neg hz,body_room f (f+1) _ (by rw [List.length_drop,List.length_cons,List.length_drop];omega) (by rw [List.length_drop,List.length_cons,List.length_drop];omega)]
theorem tableBits_eq (lens:List Nat):tableBits lens=bitsOf (lens.length-1) 10++bodyFrom lens 0:=rfl
theorem body_len:∀ (f:Nat) (l:List Nat),(bodyBits f l).length≤11*l.length
 | 0,l=>by simp [bodyBits]
 | f+1,[]=>by simp [bodyBits]
 | f+1,x::l=>by
  unfold bodyBits
  split
  ·have:=body_len f l
   rw [List.length_append,bitsOf_len,List.length_cons]
   omega
  ·have:=body_len f ((x::l).drop (zr 66 (x::l)))
   rw [List.length_append,List.length_append,bitsOf_len,bitsOf_len]
   rw [List.length_drop] at this
   have:=zr_len 66 (x::l)
   omega
theorem tableBits_len (lens:List Nat):(tableBits lens).length≤10+11*lens.length:=by
 unfold tableBits
 have:=body_len lens.length lens
 rw [List.length_append,bitsOf_len]
 omega
def symBits (lens:List Nat) (s:Nat):List Nat:=bitsOf (wordOf lens s) (lenAt lens s)
def symsBits (lens:List Nat) (l:List Nat):List Nat:=l.flatMap (symBits lens)
theorem symsBits_snoc (lens l:List Nat) (s:Nat):symsBits lens (l++[s])=symsBits lens l++symBits lens s:=by simp [symsBits]
structure OwnK (w:World) (e:TypeId) (k:Nat) (v:Value) (F:List Nat) (n:Nat) (xs:List Value):Prop where
 own:w.ownsRow 0 e k v n xs
 fp:F=v.ownBlock.toList
section
variable {w w':World} {e:TypeId} {k n:Nat} {v:Value} {F G:List Nat} {xs:List Value}
theorem OwnK.nil (w:World) (e:TypeId) (k:Nat):OwnK w e k (.slice none 0 0) [] 0 []:=⟨World.ownsRow_nil _ 0 _ _,rfl⟩
theorem OwnK.chg (h:OwnK w e k v F n xs) (hc:Chg G w w') (hd:∀ x∈F,x∉G):OwnK w' e k v F n xs :=
 ⟨own_chg h.own hc fun y hy=>hd y (by rw [h.fp,hy];simp),h.fp⟩
theorem OwnK.same (h:OwnK w e k v F n xs) (hc:Chg [] w w'):OwnK w' e k v F n xs:=h.chg hc (by simp)
theorem OwnK.lt (h:OwnK w e k v F n xs):∀ x∈F,x<w.heap.size:=fun x hx=>by
 rw [h.fp] at hx
 exact own_lt h.own x (by simpa using hx)
theorem OwnK.open_ (h:OwnK w e k v F n xs):∃ (A:Option Addr) (cap:Nat),v=.slice A n cap∧n≤cap∧cap≤9223372036854775807∧Cells (fun v=>v) w A xs ∧
  ∀ ad,A=some ad→∃ g,ad=⟨g,0,none⟩∧F=[g]∧∀ i,w.frozen? ⟨g,i,none⟩=false:=by
 obtain ⟨⟨hl,h2⟩,fp⟩:=h
 rcases h2 with ⟨rfl,rfl⟩ | ⟨g,cap,cur,rfl,_,hg,hn,hcm,hsz,htk⟩
 ·exact ⟨none,0,rfl,Nat.le_refl _,by decide,⟨fun h=>by rw [hl] at h;simp at h⟩,fun ad h=>by cases h⟩
 ·have hb:Blk w g e cur:=hg
  refine ⟨some ⟨g,0,none⟩,cap,rfl,hn,by simpa [maxLen] using hcm,⟨fun _=>⟨g,0,rfl,hb.lt,fun i a ha => ?_⟩⟩,fun ad h => ?_⟩
  ·rw [Nat.zero_add,hb.cell]
   have hi:i<xs.length:=(List.getElem?_eq_some_iff.1 ha).1
   rw [←htk,List.getElem?_take,if_pos (by omega)] at ha
   simpa using ha
  ·injection h with h
   exact ⟨g,h.symm,fp,hb.frozen⟩
theorem OwnK.shape (h:OwnK w e k v F n xs):∃ A cap,v=.slice A n cap:=by
 obtain ⟨A,cap,h1,_⟩:=h.open_
 exact ⟨A,cap,h1⟩
end
section
variable {P:Program}
theorem wpList_append_k1 {w:World} {ops:Array Oper} {rest:List Oper} {o:Oper} {a:Act} {Q:Exit→Act→World→Prop} (hgd:o.guard=none) {s x:Operand} {t:TypeId}
  (ho:o.op=.call { callee:=.builtin .append,args:=#[s,x],argTypes:=#[t,t] })
  {e:TypeId} {z:Value} {k bytes:Nat} (E:Elem P t e z k bytes) (hzs:z.cells.size=k) (hk:0<k)
  {v:Value} {F:List Nat} {n:Nat} {xs:List Value} (hs:a.eval s=v) (hown:OwnK w e k v F n xs) {ad:Addr} {c:Nat} (news:List Value) (hx:a.eval x=.slice (some ad) 1 c) (hl:news.length=k)
  (hnews:∀ j u,news[j]?=some u→w.cell? (ad.add j)=some u) (h1:∀ u∈news,u.oneCell'=true) (h63:n<9223372036854775807) (hbytes:(n+1)*bytes≤140737488355328)
  (h:∀ g cap w',OwnK w' e k (.slice (some ⟨g,0,none⟩) (n+1) cap) [g] (n+1) (xs++news)→Grow F [g] w w'→wpList P ops Q rest (a.put o.dst (.slice (some ⟨g,0,none⟩) (n+1) cap)) w'):wpList P ops Q (o::rest) a w:=by
 refine wpList_append_sl hgd ho E hzs hk hs hown.own hx (news:=news) (by omega) (by decide) hnews h1 (by omega) hbytes ?_
 intro g' cap w' h2 h3 h4
 rw [←hown.fp] at h3
 refine h g' cap w' ⟨h2,rfl⟩ ⟨h3,fun x hx => ?_⟩
 simp at hx
 subst hx
 rcases h4 with h4 | h4
 ·left;rw [hown.fp,←h4];simp
 ·exact .inr h4
end
def absI (x:Int):Int:=if x<0 then -x else x
def steep (u:Int):Int:=if u<3 then 1 else if u<7 then 2 else if u<21 then 3 else 4
def levelI (g:Int) (d:Nat):Int:=if g=0 then 0 else if g<0 then -steep (absI g*256 / 2^d) else steep (absI g*256 / 2^d)
theorem steep_ok (u:Int):1≤steep u∧steep u≤4:=by unfold steep;split<;>(try split)<;>(try split)<;>omega
theorem levelI_ok (g:Int) (d:Nat) : -4≤levelI g d∧levelI g d≤4:=by
 have:=steep_ok (absI g*256 / 2^d)
 unfold levelI
 split
 ·omega
 ·split<;>omega
def ctxI (g:Nbr) (d:Nat):Int:=81*levelI (g.ne-g.n) d+9*levelI (g.n-g.nw) d+levelI (g.nw-g.w) d
def ctxN (g:Nbr) (d:Nat):Nat:=(absI (ctxI g d)).toNat
def turnB (g:Nbr) (d:Nat):Bool:=decide (ctxI g d<0)
def classI (g:Nbr) (d:Nat):Int:=absI (levelI (g.ne-g.n) d)+absI (levelI (g.n-g.nw) d)+absI (levelI (g.nw-g.w) d)
theorem ctxN_lt (g:Nbr) (d:Nat):ctxN g d<365:=by
 have h1:=levelI_ok (g.ne-g.n) d
 have h2:=levelI_ok (g.n-g.nw) d
 have h3:=levelI_ok (g.nw-g.w) d
 unfold ctxN ctxI absI
 split<;>omega
theorem classI_ok (g:Nbr) (d:Nat):0≤classI g d∧classI g d≤12:=by
 have h1:=levelI_ok (g.ne-g.n) d
 have h2:=levelI_ok (g.n-g.nw) d
 have h3:=levelI_ok (g.nw-g.w) d
 unfold classI absI
 split<;>split<;>split<;>omega
structure Stat where
 n:Int
 a:Int
 b:Int
 c:Int
structure StatOk (s:Stat):Prop where
 n0:1≤s.n
 n1:s.n≤64
 a0:0≤s.a
 a1:s.a≤32768*s.n
 b0 : -s.n<s.b
 b1:s.b≤0
 c0 : -128≤s.c
 c1:s.c≤127
def startA (d:Nat):Int:=max 2 ((2^d+32) / 64)
def newStat (d:Nat):Stat:=⟨1,startA d,0,0⟩
theorem newStat_ok {d:Nat} (h:(2:Int)^d≤65536):StatOk (newStat d):=by
 have:=two_pow_pos' d
 refine ⟨?_,?_,?_,?_,?_,?_,?_,?_⟩<;>simp only [newStat,startA]<;>omega
def guessM (s:Stat) (p:Int) (t:Bool) (d:Nat):Int:=min (max (p+(if t then -s.c else s.c)) 0) (2^d-1)
theorem guessM_ok (s:Stat) (p:Int) (t:Bool) {d:Nat} (h:2≤(2:Int)^d):0≤guessM s p t d∧guessM s p t d<2^d:=by
 unfold guessM
 omega
def kFrom (s:Stat):Nat→Nat→Nat
 | 0,k=>k
 | f+1,k=>if s.n*2^k<s.a then kFrom s f (k+1) else k
def kOf (s:Stat):Nat:=kFrom s 16 0
theorem kFrom_le {s:Stat} (h:StatOk s):∀ f k,k≤15→kFrom s f k≤15
 | 0,k,hk=>hk
 | f+1,k,hk=>by
  unfold kFrom
  split
  ·rename_i hc
   have:k≠15:=by
    rintro rfl
    have:=h.a1
    have e:(2:Int)^15=32768:=rfl
    rw [e] at hc
    omega
   exact kFrom_le h f (k+1) (by omega)
  ·exact hk
theorem kOf_le {s:Stat} (h:StatOk s):kOf s≤15:=kFrom_le h 16 0 (by omega)
theorem kFrom_stop {s:Stat} {k:Nat} (h:¬ s.n*2^k<s.a) (f:Nat):kFrom s f k=k:=by
 cases f with
 | zero=>rfl
 | succ f=>rw [kFrom,if_neg h]
theorem kFrom_step {s:Stat} {k:Nat} (h:s.n*2^k<s.a) (f:Nat):kFrom s (f+1) k=kFrom s f (k+1):=by rw [kFrom,if_pos h]
theorem kFrom_lt {s:Stat} (hs:StatOk s) {k:Nat} (h:s.n*2^k<s.a):k<15:=by
 rcases Nat.lt_or_ge k 15 with h1 | h1
 ·exact h1
 ·exfalso
  have h2:(32768:Int)≤2^k:=by
   have:=Nat.pow_le_pow_right (n:=2) (by decide) h1
   have e:(2:Int)^15≤2^k:=by exact_mod_cast this
   exact e
  have h3:=hs.a1
  have h4:=hs.n0
  have h5:s.n*32768≤s.n*2^k:=Int.mul_le_mul_of_nonneg_left h2 (by omega)
  omega
def countS (s:Stat) (e:Int):Stat :=
 if s.n=64 then ⟨33,(s.a+absI e) / 2,(s.b+e) / 2,s.c⟩ else ⟨s.n+1,s.a+absI e,s.b+e,s.c⟩
def evenS (s:Stat):Stat :=
 if s.b≤-s.n then ⟨s.n,s.a,max (s.b+s.n) (1-s.n),max (s.c-1) (-128)⟩
 else if 0<s.b then ⟨s.n,s.a,min (s.b-s.n) 0,min (s.c+1) 127⟩ else s
def learnS (s:Stat) (e:Int):Stat:=evenS (countS s e)
theorem countS_ok {s:Stat} (h:StatOk s) {e:Int} (h0 : -32768≤e) (h1:e<32768) :
  1≤(countS s e).n∧(countS s e).n≤64∧0≤(countS s e).a∧(countS s e).a≤32768*(countS s e).n∧-65536≤(countS s e).b∧(countS s e).b≤65536∧(countS s e).c=s.c:=by
 obtain ⟨n0,n1,a0,a1,b0,b1,c0,c1⟩:=h
 have ha:0≤absI e∧absI e≤32768:=by unfold absI;split<;>omega
 unfold countS
 split
 ·refine ⟨?_,?_,?_,?_,?_,?_,rfl⟩<;>simp only<;>omega
 ·refine ⟨?_,?_,?_,?_,?_,?_,rfl⟩<;>simp only<;>omega
theorem learnS_ok {s:Stat} (h:StatOk s) {e:Int} (h0 : -32768≤e) (h1:e<32768):StatOk (learnS s e):=by
 obtain ⟨m0,m1,m2,m3,m4,m5,m6⟩:=countS_ok h h0 h1
 have c0:=h.c0
 have c1:=h.c1
 rw [←m6] at c0 c1
 unfold learnS
 generalize countS s e=t at *
 unfold evenS
 split
 ·constructor<;>simp only<;>omega
 ·split
  ·constructor<;>simp only<;>omega
  ·constructor<;>omega
def errOf (s g:Int) (t:Bool) (d:Nat):Int:=if t then foldI (-foldI (s-g) d) d else foldI (s-g) d
theorem errOf_range (s g:Int) (t:Bool) {d:Nat} (h:1≤d) : -2^(d-1)≤errOf s g t d∧errOf s g t d<2^(d-1):=by
 unfold errOf
 split
 ·exact foldI_range _ h
 ·exact foldI_range _ h
theorem errOf_back {s g:Int} (t:Bool) {d:Nat} (h0:0≤s) (h1:s<2^d):wrapI (g+(if t then -errOf s g t d else errOf s g t d)) d=s:=by
 unfold errOf
 cases t
 ·exact unfold_fold h0 h1
 ·exact unfold_turned h0 h1
def statAt (m:List Stat) (i:Nat):Stat:=m.getD i (newStat 1)
def ctxAt (l:List Int) (W d i:Nat):Nat:=ctxN (nbr l W (i%W) (i / W)) d
def turnAt (l:List Int) (W d i:Nat):Bool:=turnB (nbr l W (i%W) (i / W)) d
def predAt (m:List Stat) (l:List Int) (W d i:Nat):Int:=guessM (statAt m (ctxAt l W d i)) (guessI 7 (nbr l W (i%W) (i / W)) d) (turnAt l W d i) d
def errAt (m:List Stat) (l:List Int) (W d i:Nat):Int:=errOf (l.getD i 0) (predAt m l W d i) (turnAt l W d i) d
def bitsAtM (m:List Stat) (l:List Int) (W d i:Nat):List Nat:=rbits (kOf (statAt m (ctxAt l W d i))) (errAt m l W d i)
def nextM (m:List Stat) (l:List Int) (W d i:Nat):List Stat:=m.set (ctxAt l W d i) (learnS (statAt m (ctxAt l W d i)) (errAt m l W d i))
def newModel (d:Nat):List Stat:=List.replicate 365 (newStat d)
def modelTo (l:List Int) (W d:Nat):Nat→List Stat
 | 0=>newModel d
 | i+1=>nextM (modelTo l W d i) l W d i
def modelBits (l:List Int) (W d:Nat):Nat→List Nat
 | 0=>[]
 | i+1=>modelBits l W d i++bitsAtM (modelTo l W d i) l W d i
structure ModelOk (m:List Stat):Prop where
 len:m.length=365
 all:∀ s∈m,StatOk s
theorem statAt_mem {m:List Stat} (h:ModelOk m) {i:Nat} (hi:i<365):m[i]?=some (statAt m i)∧StatOk (statAt m i):=by
 have hl:i<m.length:=by rw [h.len];exact hi
 unfold statAt
 rw [List.getD_eq_getElem?_getD,List.getElem?_eq_getElem hl]
 exact ⟨rfl,h.all _ (List.getElem_mem hl)⟩
theorem newModel_ok {d:Nat} (h:(2:Int)^d≤65536):ModelOk (newModel d) :=
 ⟨List.length_replicate,fun s hs=>by rw [List.eq_of_mem_replicate hs];exact newStat_ok h⟩
theorem errRange16 {d:Nat} (h1:d≤16) {e:Int} (h : -2^(d-1)≤e∧e<2^(d-1)) : -32768≤e∧e<32768:=by
 have:(2:Int)^(d-1)≤2^15:=by
  have:=Nat.pow_le_pow_right (n:=2) (by decide) (show d-1≤15 by omega)
  exact_mod_cast this
 omega
theorem nextM_ok {m:List Stat} (h:ModelOk m) (l:List Int) (W:Nat) {d:Nat} (h0:1≤d) (h1:d≤16) (i:Nat):ModelOk (nextM m l W d i):=by
 refine ⟨by simp [nextM,h.len],fun s hs => ?_⟩
 rcases List.mem_or_eq_of_mem_set hs with hs | rfl
 ·exact h.all s hs
 ·obtain ⟨e0,e1⟩:=errRange16 h1 (errOf_range (l.getD i 0) (predAt m l W d i) (turnAt l W d i) h0)
  exact learnS_ok (statAt_mem h (ctxN_lt _ _)).2 e0 e1
theorem modelTo_ok (l:List Int) (W:Nat) {d:Nat} (h0:1≤d) (h1:d≤16) (hp:(2:Int)^d≤65536):∀ i,ModelOk (modelTo l W d i)
 | 0=>newModel_ok hp
 | i+1=>nextM_ok (modelTo_ok l W h0 h1 hp i) l W h0 h1 i
theorem modelBits_len (l:List Int) (W:Nat) {d:Nat} (h0:1≤d) (h1:d≤16) (hp:(2:Int)^d≤65536):∀ i,(modelBits l W d i).length≤65*i
 | 0=>by simp [modelBits]
 | i+1=>by
  have:=modelBits_len l W h0 h1 hp i
  have hk:=kOf_le (statAt_mem (modelTo_ok l W h0 h1 hp i) (ctxN_lt (nbr l W (i%W) (i / W)) d)).2
  have:=rcost_le (kOf (statAt (modelTo l W d i) (ctxAt l W d i))) (errAt (modelTo l W d i) l W d i) (by unfold ctxAt;omega)
  rw [modelBits,List.length_append,bitsAtM,rbits_len]
  omega
def fitsB (x:Int) (n:Nat):Bool:=decide (1≤n)&&decide (n≤31)&&decide (-2^(n-1)≤x)&&decide (x≤2^(n-1)-1)
def needFrom (x:Int):Nat→Nat→Nat
 | 0,w=>w
 | f+1,w=>if x≠0∧w<32∧fitsB x w=false then needFrom x f (w+1) else w
def widthL (l:List Int):Nat:=l.foldl (fun w x=>needFrom x 32 w) 0
theorem widthL_snoc (l:List Int) (x:Int):widthL (l++[x])=needFrom x 32 (widthL l):=by simp [widthL]
theorem pow_half_mono {m n:Nat} (h:m≤n):(2:Int)^m≤2^n:=by
 have:=Nat.pow_le_pow_right (n:=2) (by decide) h
 exact_mod_cast this
theorem fits_mono {x:Int} {m n:Nat} (h:fitsB x m=true) (hmn:m≤n) (hn:n≤31):fitsB x n=true:=by
 unfold fitsB at *
 simp only [Bool.and_eq_true,decide_eq_true_eq] at *
 obtain ⟨⟨⟨h1,h2⟩,h3⟩,h4⟩:=h
 have:=pow_half_mono (show m-1≤n-1 by omega)
 exact ⟨⟨⟨by omega,hn⟩,by omega⟩,by omega⟩
theorem fits_wide {x:Int} (h:wideP x):fitsB x 31=true:=by
 unfold wideP at h
 unfold fitsB
 simp only [Bool.and_eq_true,decide_eq_true_eq]
 exact ⟨⟨⟨by decide,by decide⟩,by have:(2:Int)^(31-1)=1073741824:=rfl;omega⟩,by have:(2:Int)^(31-1)=1073741824:=rfl;omega⟩
theorem need_ge (x:Int):∀ f w,w≤needFrom x f w
 | 0,w=>Nat.le_refl _
 | f+1,w=>by
  unfold needFrom
  split
  ·exact Nat.le_trans (by omega) (need_ge x f (w+1))
  ·exact Nat.le_refl _
theorem need_le {x:Int} (h:wideP x):∀ f w,w≤31→needFrom x f w≤31
 | 0,w,hw=>hw
 | f+1,w,hw=>by
  unfold needFrom
  split
  ·rename_i hc
   have:w≠31:=fun e=>by rw [e,fits_wide h] at hc;simp at hc
   exact need_le h f (w+1) (by omega)
  ·exact hw
theorem need_fits {x:Int} (h:wideP x):∀ f w,w≤31→32≤w+f→x=0∨fitsB x (needFrom x f w)=true
 | 0,w,hw,hf=>by omega
 | f+1,w,hw,hf=>by
  unfold needFrom
  split
  ·rename_i hc
   have:w≠31:=fun e=>by rw [e,fits_wide h] at hc;simp at hc
   exact need_fits h f (w+1) (by omega) (by omega)
  ·rename_i hc
   by_cases hx:x=0
   ·exact .inl hx
   ·right
    have:¬ (fitsB x w=false):=fun e=>hc ⟨hx,by omega,e⟩
    simpa using this
theorem need_step {x:Int} {w:Nat} (hx:x≠0) (hw:w<32) (hf:fitsB x w=false) (f:Nat):needFrom x (f+1) w=needFrom x f (w+1):=by
 rw [needFrom,if_pos ⟨hx,hw,hf⟩]
theorem need_stop {x:Int} {w f:Nat} (h:x=0∨fitsB x w=true):needFrom x f w=w:=by
 cases f with
 | zero=>rfl
 | succ f =>
  rw [needFrom,if_neg]
  rintro ⟨h1,h2,h3⟩
  rcases h with h | h
  ·exact h1 h
  ·rw [h] at h3;cases h3
theorem widthL_le {l:List Int} (h:∀ x∈l,wideP x):widthL l≤31:=by
 unfold widthL
 suffices H:∀ (l:List Int) (w:Nat),(∀ x∈l,wideP x)→w≤31→l.foldl (fun w x=>needFrom x 32 w) w≤31 from H l 0 h (by omega)
 intro l
 induction l with
 | nil=>intro w _ hw;exact hw
 | cons x l ih=>intro w hl hw;exact ih _ (fun y hy=>hl y (by simp [hy])) (need_le (hl x (by simp)) 32 w hw)
theorem widthL_fits {l:List Int} (h:∀ x∈l,wideP x):∀ x∈l,x=0∨fitsB x (widthL l)=true:=by
 unfold widthL
 suffices H:∀ (l:List Int) (w:Nat),(∀ x∈l,wideP x)→w≤31→(∀ x∈l,x=0∨fitsB x (l.foldl (fun w x=>needFrom x 32 w) w)=true)∧w≤l.foldl (fun w x=>needFrom x 32 w) w from (H l 0 h (by omega)).1
 intro l
 induction l with
 | nil=>intro w _ hw;exact ⟨by simp,Nat.le_refl _⟩
 | cons x l ih =>
  intro w hl hw
  have hl':∀ y∈l,wideP y:=fun y hy=>hl y (by simp [hy])
  have hwx:=need_le (hl x (by simp)) 32 w hw
  obtain ⟨h1,h2⟩:=ih (needFrom x 32 w) hl' hwx
  have hge:=need_ge x 32 w
  refine ⟨fun y hy => ?_,Nat.le_trans hge h2⟩
  rcases List.mem_cons.1 hy with rfl | hy
  ·rcases need_fits (hl y (by simp)) 32 w hw (by omega) with h3 | h3
   ·exact .inl h3
   ·right
    have hle:(List.foldl (fun w x=>needFrom x 32 w) (needFrom y 32 w) l)≤31:=by
     have:∀ (l:List Int) (w:Nat),(∀ x∈l,wideP x)→w≤31→l.foldl (fun w x=>needFrom x 32 w) w≤31:=by
      intro l
      induction l with
      | nil=>intro w _ hw;exact hw
      | cons x l ih=>intro w hl hw;exact ih _ (fun y hy=>hl y (by simp [hy])) (need_le (hl x (by simp)) 32 w hw)
     exact this l _ hl' hwx
    exact fits_mono h3 h2 hle
  ·exact h1 y hy
def modN (x:Int) (n:Nat):Nat:=(x%2^n).toNat
theorem modN_lt (x:Int) (n:Nat):modN x n<2^n:=by
 have h0:=Int.emod_nonneg x (show (2:Int)^n≠0 by have:=two_pow_pos' n;omega)
 have h1:=Int.emod_lt_of_pos x (two_pow_pos' n)
 unfold modN
 have:((x%2^n).toNat:Int)<((2^n:Nat):Int):=by
  rw [Int.toNat_of_nonneg h0]
  simpa using h1
 omega
theorem modN_cast (x:Int) (n:Nat):((modN x n:Nat):Int)=x%2^n:=by
 unfold modN
 exact Int.toNat_of_nonneg (Int.emod_nonneg x (by have:=two_pow_pos' n;omega))
def sizesL (o n warm:Nat):List Nat:=if n / 2^o*2^o=n∧warm≤n / 2^o then (n / 2^o-warm)::List.replicate (2^o-1) (n / 2^o) else []
theorem sizesL_zero {n warm:Nat} (h:warm≤n):sizesL 0 n warm=[n-warm]:=by
 unfold sizesL
 simp [h]
theorem sizesL_len {o n warm:Nat} (h:sizesL o n warm≠[]):(sizesL o n warm).length=2^o:=by
 unfold sizesL at *
 split
 ·have:=Nat.two_pow_pos o
  simp
  omega
 ·rename_i hc
  rw [if_neg hc] at h
  exact absurd rfl h
theorem sizesL_sum {o n warm:Nat} (h:sizesL o n warm≠[]):(sizesL o n warm).sum=n-warm:=by
 unfold sizesL at *
 split
 ·rename_i hc
  obtain ⟨h1,h2⟩:=hc
  have hp:=Nat.two_pow_pos o
  have e:(2^o-1)*(n / 2^o)+n / 2^o=n:=by
   rw [←Nat.succ_mul]
   have:Nat.succ (2^o-1)=2^o:=by omega
   rw [this,Nat.mul_comm]
   exact h1
  simp
  omega
 ·rename_i hc
  rw [if_neg hc] at h
  exact absurd rfl h
def splitL {α:Type}:List Nat→List α→List (List α)
 | [],_=>[]
 | s::ss,l=>l.take s::splitL ss (l.drop s)
theorem splitL_len {α:Type}:∀ (ss:List Nat) (l:List α),(splitL ss l).length=ss.length
 | [],_=>rfl
 | s::ss,l=>by rw [splitL,List.length_cons,splitL_len ss,List.length_cons]
theorem splitL_flat {α:Type}:∀ (ss:List Nat) (l:List α),ss.sum=l.length→(splitL ss l).flatten=l
 | [],l,h=>by
  have:l=[]:=List.eq_nil_of_length_eq_zero (by simpa using h.symm)
  subst this
  rfl
 | s::ss,l,h=>by
  rw [splitL,List.flatten_cons,splitL_flat ss,List.take_append_drop]
  rw [List.length_drop]
  simp at h
  omega
def startOf (ss:List Nat) (i:Nat):Nat:=(ss.take i).sum
theorem splitL_get {α:Type}:∀ (ss:List Nat) (l:List α) (i:Nat) (h:i<ss.length),(splitL ss l)[i]?=some ((l.drop (startOf ss i)).take ss[i])
 | s::ss,l,0,_=>by simp [splitL,startOf]
 | s::ss,l,i+1,h=>by
  rw [splitL,List.getElem?_cons_succ,splitL_get ss (l.drop s) i (by simpa using h)]
  simp [startOf,List.drop_drop]
theorem startOf_succ (ss:List Nat) (i:Nat) (h:i<ss.length):startOf ss (i+1)=startOf ss i+ss[i]:=by
 unfold startOf
 rw [List.take_succ_eq_append_getElem h,List.sum_append]
 simp only [List.sum_cons,List.sum_nil,Nat.add_zero]
theorem startOf_le (ss:List Nat) (i:Nat):startOf ss i≤ss.sum:=by
 unfold startOf
 have:ss.sum=(ss.take i).sum+(ss.drop i).sum:=by rw [←List.sum_append,List.take_append_drop]
 omega
theorem startOf_fit (ss:List Nat) (i:Nat) (h:i<ss.length):startOf ss i+ss[i]≤ss.sum:=by
 rw [←startOf_succ ss i h]
 exact startOf_le ss (i+1)
def rawCost (part:List Int):Nat:=5+widthL part*part.length
def partCost (k:Nat) (part:List Int):Nat:=5+if k=31 then rawCost part else rsum k part
def partBits (k:Nat) (part:List Int):List Nat :=
 bitsOf k 5++if k=31 then bitsOf (widthL part) 5++part.flatMap (fun x=>bitsOf (modN x (widthL part)) (widthL part)) else rbitsAll k part
theorem flat_bits_len (n:Nat) (f:Int→Nat) (l:List Int):(l.flatMap (fun x=>bitsOf (f x) n)).length=n*l.length:=by
 induction l with
 | nil=>simp
 | cons x l ih=>rw [List.flatMap_cons,List.length_append,bitsOf_len,ih,List.length_cons,Nat.mul_add];omega
theorem partBits_len (k:Nat) (part:List Int):(partBits k part).length=partCost k part:=by
 unfold partBits partCost rawCost
 split
 ·rw [List.length_append,List.length_append,bitsOf_len,bitsOf_len,flat_bits_len]
 ·rw [List.length_append,bitsOf_len,rbitsAll_len]
def costP (ks:List Nat) (ps:List (List Int)):Nat:=4+((ks.zip ps).map (fun p=>partCost p.1 p.2)).sum
def bitsP (o:Nat) (ks:List Nat) (ps:List (List Int)):List Nat:=bitsOf o 4++(ks.zip ps).flatMap (fun p=>partBits p.1 p.2)
theorem bitsP_len (o:Nat) (ks:List Nat) (ps:List (List Int)):(bitsP o ks ps).length=costP ks ps:=by
 unfold bitsP costP
 rw [List.length_append,bitsOf_len]
 congr 1
 generalize ks.zip ps=z
 induction z with
 | nil=>rfl
 | cons p z ih=>rw [List.flatMap_cons,List.length_append,partBits_len,ih,List.map_cons,List.sum_cons]
def chooseK (part:List Int):Nat:=if rawCost part<rsum (rbest part) part then 31 else rbest part
theorem chooseK_ok (part:List Int):chooseK part≤25∨chooseK part=31:=by
 have:=rbest_le part
 unfold chooseK
 split<;>omega
def planOf (o n warm:Nat) (l:List Int):List Nat:=(splitL (sizesL o n warm) l).map chooseK
structure Plan where
 order:Nat
 ks:List Nat
 cost:Nat
def planStep (n warm:Nat) (l:List Int) (s:Plan) (o:Nat):Plan :=
 if sizesL o n warm=[] then s
 else if s.cost=0∨costP (planOf o n warm l) (splitL (sizesL o n warm) l)<s.cost then ⟨o,planOf o n warm l,costP (planOf o n warm l) (splitL (sizesL o n warm) l)⟩ else s
def plans (n warm:Nat) (l:List Int) (m:Nat):Plan:=(List.range m).foldl (planStep n warm l) ⟨0,[],0⟩
def bestPlan (n warm most:Nat) (l:List Int):Plan:=plans n warm l (min most 8+1)
theorem plans_succ (n warm:Nat) (l:List Int) (m:Nat):plans n warm l (m+1)=planStep n warm l (plans n warm l m) m:=by
 simp [plans,List.range_succ]
def PlanOk (n warm:Nat) (l:List Int) (s:Plan):Prop:=sizesL s.order n warm≠[]∧s.ks=planOf s.order n warm l∧s.cost=costP s.ks (splitL (sizesL s.order n warm) l)
theorem costP_pos (ks:List Nat) (ps:List (List Int)):4≤costP ks ps:=by unfold costP;omega
theorem plans_ok {n warm:Nat} (h:warm≤n) (l:List Int):∀ m,PlanOk n warm l (plans n warm l (m+1))∧(plans n warm l (m+1)).order≤m
 | 0=>by
  have h0:=sizesL_zero h
  have hne:sizesL 0 n warm≠[]:=by rw [h0];simp
  have e0:plans n warm l 0=⟨0,[],0⟩:=rfl
  rw [plans_succ,e0,planStep,if_neg hne,if_pos (.inl rfl)]
  exact ⟨⟨hne,rfl,rfl⟩,Nat.le_refl _⟩
 | m+1=>by
  obtain ⟨h1,h2⟩:=plans_ok h l m
  rw [plans_succ,planStep]
  split
  ·exact ⟨h1,by omega⟩
  ·rename_i hne
   split
   ·exact ⟨⟨hne,rfl,rfl⟩,Nat.le_refl _⟩
   ·exact ⟨h1,by omega⟩
theorem bestPlan_ok {n warm most:Nat} (h:warm≤n) (l:List Int):PlanOk n warm l (bestPlan n warm most l)∧(bestPlan n warm most l).order≤8∧(bestPlan n warm most l).order≤most:=by
 obtain ⟨h1,h2⟩:=plans_ok h l (min most 8)
 exact ⟨h1,Nat.le_trans h2 (Nat.min_le_right _ _),Nat.le_trans h2 (Nat.min_le_left _ _)⟩
def pieces (s n:Nat):Nat→Nat→List (Nat × Nat)
 | 0,_=>[]
 | f+1,x=>if x<n then (x,min s (n-x))::pieces s n f (x+s) else []
theorem pieces_end {s n x:Nat} (f:Nat) (h:n≤x):pieces s n f x=[]:=by
 cases f
 ·rfl
 ·rw [pieces,if_neg (by omega)]
theorem pieces_step {s n x:Nat} (f:Nat) (h:x<n):pieces s n (f+1) x=(x,min s (n-x))::pieces s n f (x+s):=by
 rw [pieces,if_pos h]
theorem pieces_sum {s n:Nat} (hs:1≤s):∀ (f x:Nat),n≤x+f→((pieces s n f x).map (·.2)).sum=n-x
 | 0,x,h=>by simp [pieces];omega
 | f+1,x,h=>by
  by_cases hx:x<n
  ·rw [pieces_step f hx,List.map_cons,List.sum_cons,pieces_sum hs f (x+s) (by omega)]
   simp only
   omega
  ·rw [pieces_end _ (by omega)]
   simp
   omega
theorem pieces_ok {s n:Nat} (hs:1≤s):∀ (f x:Nat),∀ p∈pieces s n f x,1≤p.2∧p.2≤s∧p.1+p.2≤n
 | 0,x,p,hp=>by simp [pieces] at hp
 | f+1,x,p,hp=>by
  by_cases hx:x<n
  ·rw [pieces_step f hx] at hp
   rcases List.mem_cons.1 hp with rfl | hp
   ·simp only;omega
   ·exact pieces_ok hs f (x+s) p hp
  ·rw [pieces_end _ (by omega)] at hp
   simp at hp
theorem pieces_len (s n:Nat):∀ (f x:Nat),(pieces s n f x).length≤f
 | 0,x=>by simp [pieces]
 | f+1,x=>by
  by_cases hx:x<n
  ·rw [pieces_step f hx,List.length_cons]
   have:=pieces_len s n f (x+s)
   omega
  ·rw [pieces_end _ (by omega)]
   simp
structure Sq where
 x:Nat
 y:Nat
 w:Nat
 h:Nat
def gridRow (w s:Nat) (p:Nat × Nat):List Sq:=(pieces s w w 0).map fun q=>⟨q.1,p.1,q.2,p.2⟩
def gridL (w h s:Nat):List Sq:=(pieces s h h 0).flatMap (gridRow w s)
def area (l:List Sq):Nat:=(l.map fun q=>q.w*q.h).sum
theorem area_append (a b:List Sq):area (a++b)=area a+area b:=by simp [area]
theorem area_row {w s:Nat} (hs:1≤s) (p:Nat × Nat):area (gridRow w s p)=w*p.2:=by
 have h:=pieces_sum (n:=w) hs w 0 (by omega)
 have e:∀ l:List (Nat × Nat),(l.map fun q:Nat × Nat=>q.2*p.2).sum=(l.map (·.2)).sum*p.2:=by
  intro l
  induction l with
  | nil=>simp
  | cons a l ih=>simp only [List.map_cons,List.sum_cons,ih,Nat.add_mul]
 unfold area gridRow
 rw [List.map_map]
 show ((pieces s w w 0).map fun q=>q.2*p.2).sum=_
 rw [e,h]
 rfl
theorem area_grid {w h s:Nat} (hs:1≤s):area (gridL w h s)=w*h:=by
 have e:∀ l:List (Nat × Nat),area (l.flatMap (gridRow w s))=w*(l.map (·.2)).sum:=by
  intro l
  induction l with
  | nil=>simp [area]
  | cons a l ih=>rw [List.flatMap_cons,area_append,ih,area_row hs,List.map_cons,List.sum_cons,Nat.mul_add]
 unfold gridL
 rw [e,pieces_sum hs h 0 (by omega)]
 rfl
theorem grid_ok {w h s:Nat} (hs:1≤s):∀ q∈gridL w h s,1≤q.w∧q.w≤s∧1≤q.h∧q.h≤s:=by
 intro q hq
 obtain ⟨p,hp,hq⟩:=List.mem_flatMap.1 hq
 obtain ⟨r,hr,rfl⟩:=List.mem_map.1 hq
 have h1:=pieces_ok hs _ _ p hp
 have h2:=pieces_ok hs _ _ r hr
 exact ⟨h2.1,h2.2.1,h1.1,h1.2.1⟩
structure PicD where
 W:Nat
 H:Nat
 d:Nat
 P:List (List Int)
structure PicD.Ok (p:PicD):Prop where
 w0:1≤p.W
 w1:p.W≤64
 h0:1≤p.H
 h1:p.H≤64
 d0:1≤p.d
 d1:p.d≤16
 n0:1≤p.P.length
 n1:p.P.length≤4
 len:∀ l∈p.P,l.length=p.W*p.H
 smp:∀ l∈p.P,SmpOk p.d l
theorem PicD.Ok.area {p:PicD} (h:p.Ok):p.W*p.H≤4096:=Nat.mul_le_mul h.w1 h.h1
theorem PicD.Ok.pos {p:PicD} (h:p.Ok):0<p.W*p.H:=Nat.mul_pos h.w0 h.h0
structure AlikeD (p q:PicD):Prop where
 W:p.W=q.W
 H:p.H=q.H
 d:p.d=q.d
 n:p.P.length=q.P.length
def partF (l:List Int) (W x y w h:Nat):List Int:=(List.range h).flatMap fun j=>(List.range w).map fun i=>l.getD ((y+j)*W+(x+i)) 0
theorem flat_len {α:Type} {w:Nat}:∀ (h:Nat) (f:Nat→List α),(∀ j,(f j).length=w)→((List.range h).flatMap f).length=h*w
 | 0,f,_=>by simp
 | h+1,f,hf=>by rw [List.range_succ,List.flatMap_append,List.length_append,flat_len h f hf];simp [hf,Nat.succ_mul]
theorem flat_get {α:Type} {w:Nat}:∀ (h:Nat) (f:Nat→List α),(∀ j,(f j).length=w)→∀ j i,j<h→i<w→((List.range h).flatMap f)[j*w+i]?=(f j)[i]?
 | 0,f,_,j,i,hj,_=>by omega
 | h+1,f,hf,j,i,hj,hi=>by
  rw [List.range_succ,List.flatMap_append]
  have hl:=flat_len h f hf
  rcases Nat.lt_or_ge j h with h1 | h1
  ·have h2:j*w+i<h*w:=by
    have:=Nat.mul_le_mul_right w (show j+1≤h by omega)
    rw [Nat.succ_mul] at this
    omega
   rw [List.getElem?_append_left (by omega),flat_get h f hf j i h1 hi]
  ·obtain rfl:j=h:=by omega
   rw [List.getElem?_append_right (by omega),hl]
   simp
theorem partF_len (l:List Int) (W x y w h:Nat):(partF l W x y w h).length=h*w:=flat_len h _ (by simp)
theorem partF_get (l:List Int) (W x y:Nat) {w h j i:Nat} (hj:j<h) (hi:i<w):(partF l W x y w h)[j*w+i]?=some (l.getD ((y+j)*W+(x+i)) 0):=by
 unfold partF
 rw [flat_get h _ (by simp) j i hj hi]
 simp [hi]
theorem partF_succ (l:List Int) (W x y w h:Nat):partF l W x y w (h+1)=partF l W x y w h++(List.range w).map fun i=>l.getD ((y+h)*W+(x+i)) 0:=by
 unfold partF
 rw [List.range_succ,List.flatMap_append]
 simp
theorem getD_smp {d:Nat} {l:List Int} (h:SmpOk d l) (k:Nat):0≤l.getD k 0∧l.getD k 0<2^d:=by
 rw [List.getD_eq_getElem?_getD]
 cases hx:l[k]? with
 | none=>exact ⟨Int.le_refl 0,two_pow_pos' d⟩
 | some x=>exact h x (List.mem_of_getElem? hx)
theorem partF_smp {d:Nat} {l:List Int} (hs:SmpOk d l) (W x y w h:Nat):SmpOk d (partF l W x y w h):=by
 intro v hv
 obtain ⟨j,_,hv⟩:=List.mem_flatMap.1 hv
 obtain ⟨i,_,rfl⟩:=List.mem_map.1 hv
 exact getD_smp hs _
theorem row_slice {l:List Int} {W H x Y w:Nat} (hl:l.length=W*H) (hx:x+w≤W) (hY:Y<H):((l.drop (Y*W+x)).take w)=(List.range w).map fun i=>l.getD (Y*W+(x+i)) 0:=by
 have h2:Y*W+W≤W*H:=by
  have:=Nat.mul_le_mul_right W (show Y+1≤H by omega)
  rw [Nat.succ_mul,Nat.mul_comm H] at this
  exact this
 apply List.ext_getElem?
 intro i
 rcases Nat.lt_or_ge i w with hi | hi
 ·rw [List.getElem?_take,if_pos hi,List.getElem?_drop,List.getElem?_map,List.getElem?_range hi,Option.map_some,List.getD_eq_getElem?_getD,←Nat.add_assoc,List.getElem?_eq_getElem (show Y*W+x+i<l.length by omega)]
  rfl
 ·rw [List.getElem?_take,if_neg (by omega),List.getElem?_eq_none (by simp;omega)]
def diffW (now old:List Int) (d:Nat):List Int:=List.zipWith (fun a b=>wrapI (a-b) d) now old
def undiffW (old df:List Int) (d:Nat):List Int:=List.zipWith (fun a b=>wrapI (a+b) d) old df
theorem diffW_len {now old:List Int} (h:now.length=old.length) (d:Nat):(diffW now old d).length=now.length:=by unfold diffW;rw [List.length_zipWith];omega
theorem diffW_smp (now old:List Int) (d:Nat):SmpOk d (diffW now old d):=by
 intro v hv
 unfold diffW at hv
 rw [List.zipWith_eq_zipWith_take_min] at hv
 obtain ⟨i,hi,rfl⟩:=List.getElem_of_mem hv
 rw [List.getElem_zipWith]
 exact ⟨wrapI_lo _ _,wrapI_hi _ _⟩
theorem undiff_diff {d:Nat}:∀ {now old:List Int},now.length=old.length→SmpOk d now→undiffW old (diffW now old d) d=now
 | [],[],_,_=>rfl
 | a::now,b::old,h,hs=>by
  have h1:=undiff_diff (d:=d) (now:=now) (old:=old) (by simpa using h) (fun x hx=>hs x (by simp [hx]))
  have h2:wrapI (b+wrapI (a-b) d) d=a:=by
   obtain ⟨h0,h1⟩:=hs a (by simp)
   rw [wrapI_add_wrap]
   have:b+(a-b)=a:=by omega
   rw [this]
   exact wrapI_in h0 h1
  unfold undiffW diffW at h1 ⊢
  rw [List.zipWith_cons_cons,List.zipWith_cons_cons,h1,h2]
 | [],b::old,h,_=>by simp at h
 | a::now,[],h,_=>by simp at h
def inSq (W k:Nat) (s:Sq):Bool:=decide (s.x≤k%W)&&decide (k%W<s.x+s.w)&&decide (s.y≤k / W)&&decide (k / W<s.y+s.h)
def mixF (q l:List Int) (W:Nat) (bs:List Sq):List Int:=(List.range l.length).map fun k=>if bs.any (inSq W k) then q.getD k 0 else l.getD k 0
theorem mixF_len (q l:List Int) (W:Nat) (bs:List Sq):(mixF q l W bs).length=l.length:=by simp [mixF]
theorem mixF_get {q l:List Int} {W:Nat} {bs:List Sq} {k:Nat} (hk:k<l.length):(mixF q l W bs)[k]?=some (if bs.any (inSq W k) then q.getD k 0 else l.getD k 0):=by
 unfold mixF
 rw [List.getElem?_map,List.getElem?_range hk]
 rfl
theorem mixF_nil (q l:List Int) (W:Nat):mixF q l W []=l:=by
 apply List.ext_getElem?
 intro k
 rcases Nat.lt_or_ge k l.length with hk | hk
 ·rw [mixF_get hk,List.getElem?_eq_getElem hk]
  simp [hk]
 ·rw [List.getElem?_eq_none hk,List.getElem?_eq_none (by rw [mixF_len];exact hk)]
theorem mixF_flat (q l:List Int) (W:Nat) (bs:List Sq) (s:Sq) (h0:s.h=0):mixF q l W (bs++[s])=mixF q l W bs:=by
 unfold mixF
 congr 1
 funext k
 have e:(bs++[s]).any (inSq W k)=bs.any (inSq W k):=by
  rw [List.any_append]
  have h:inSq W k s=false:=by unfold inSq;rw [h0];simp<;>omega
  simp [h]
 rw [e]
theorem mixF_all {q l:List Int} {W:Nat} {bs:List Sq} (hq:q.length=l.length) (h:∀ k,k<l.length→bs.any (inSq W k)=true):mixF q l W bs=q:=by
 apply List.ext_getElem?
 intro k
 rcases Nat.lt_or_ge k l.length with hk | hk
 ·rw [mixF_get hk,if_pos (h k hk),List.getElem?_eq_getElem (by omega),List.getD_eq_getElem?_getD,List.getElem?_eq_getElem (by omega)]
  rfl
 ·rw [List.getElem?_eq_none (by rw [mixF_len];exact hk),List.getElem?_eq_none (by omega)]
theorem mixF_row {q l:List Int} {W H:Nat} {bs:List Sq} {s:Sq} (hq:q.length=l.length) (hl:l.length=W*H) (hx:s.x+s.w≤W) (hy:s.y+s.h<H) :
  let m:=mixF q l W (bs++[s])
  let at_:=(s.y+s.h)*W+s.x
  m.take at_++((List.range s.w).map fun i=>q.getD ((s.y+s.h)*W+(s.x+i)) 0)++m.drop (at_+s.w)=mixF q l W (bs++[⟨s.x,s.y,s.w,s.h+1⟩]):=by
 intro m at_
 obtain ⟨Y,hY⟩:∃ Y,Y=s.y+s.h:=⟨_,rfl⟩
 have hat:at_=Y*W+s.x:=by rw [hY]
 have h2:Y*W+W≤l.length:=by
  have:=Nat.mul_le_mul_right W (show Y+1≤H by omega)
  rw [Nat.succ_mul,Nat.mul_comm H,←hl] at this
  exact this
 have hm:m.length=l.length:=mixF_len _ _ _ _
 have ht:(m.take at_).length=at_:=by rw [List.length_take,hm];omega
 rw [←hY]
 have hin:∀ k,inSq W k ⟨s.x,s.y,s.w,s.h+1⟩=(inSq W k s||(decide (s.x≤k%W)&&decide (k%W<s.x+s.w)&&decide (k / W=Y))):=by
  intro k
  unfold inSq
  simp only
  rw [hY]
  by_cases h1:s.x≤k%W
  ·by_cases h3:k%W<s.x+s.w
   ·simp only [h1,h3,decide_true,Bool.true_and]
    by_cases h4:s.y≤k / W
    ·by_cases h5:k / W<s.y+s.h
     ·have h6:k / W<s.y+(s.h+1):=by omega
      simp [h4,h5,h6]
     ·by_cases h6:k / W=s.y+s.h
      ·simp [h6]<;>omega
      ·have h7:¬ k / W<s.y+(s.h+1):=by omega
       simp [h5,h6,h7]
    ·have h6:¬ k / W=s.y+s.h:=by omega
     simp [h4,h6]
   ·simp [h3]
  ·simp [h1]
 apply List.ext_getElem?
 intro k
 rcases Nat.lt_or_ge k l.length with hk | hk
 ·rw [mixF_get hk]
  have hW:0<W:=by
   rcases Nat.eq_zero_or_pos W with h | h
   ·rw [h] at hl;omega
   ·exact h
  have hdm:=Nat.div_add_mod k W
  have hml:=Nat.mod_lt k hW
  rw [List.any_append,List.any_cons,List.any_nil,Bool.or_false,hin k]
  rcases Nat.lt_or_ge k at_ with h1 | h1
  ·rw [List.append_assoc,List.getElem?_append_left (by omega),List.getElem?_take,if_pos h1,mixF_get hk,List.any_append,List.any_cons,List.any_nil,Bool.or_false]
   have hf:(decide (s.x≤k%W)&&decide (k%W<s.x+s.w)&&decide (k / W=Y))=false:=by
    rw [Bool.and_eq_false_iff]
    by_cases h6:k / W=Y
    ·left
     rw [Bool.and_eq_false_iff]
     left
     rw [decide_eq_false_iff_not]
     rw [h6,Nat.mul_comm] at hdm
     omega
    ·right;simp [h6]
   rw [hf,Bool.or_false]
  ·rcases Nat.lt_or_ge k (at_+s.w) with h3 | h3
   ·have hk2:k=Y*W+(s.x+(k-at_)):=by omega
    have hmod:k%W=s.x+(k-at_):=by
     rw [hk2,Nat.add_comm,Nat.add_mul_mod_self_right,Nat.mod_eq_of_lt (by omega)]
     omega
    have hdiv:k / W=Y:=by
     rw [hk2,Nat.add_comm,Nat.add_mul_div_right _ _ hW,Nat.div_eq_of_lt (by omega),Nat.zero_add]
    have ht2:(decide (s.x≤k%W)&&decide (k%W<s.x+s.w)&&decide (k / W=Y))=true:=by
     rw [hmod,hdiv]
     simp
     omega
    rw [ht2,Bool.or_true,Bool.or_true,if_pos rfl,List.append_assoc,List.getElem?_append_right (by omega),ht,List.getElem?_append_left (by simp;omega),List.getElem?_map,List.getElem?_range (by omega),Option.map_some,←hk2]
   ·rw [List.append_assoc,List.getElem?_append_right (by omega),ht,List.getElem?_append_right (by simp;omega),List.length_map,List.length_range,List.getElem?_drop]
    rw [show at_+s.w+(k-at_-s.w)=k by omega,mixF_get hk,List.any_append,List.any_cons,List.any_nil,Bool.or_false]
    have hf:(decide (s.x≤k%W)&&decide (k%W<s.x+s.w)&&decide (k / W=Y))=false:=by
     rw [Bool.and_eq_false_iff]
     by_cases h6:k / W=Y
     ·left
      rw [Bool.and_eq_false_iff]
      right
      rw [decide_eq_false_iff_not]
      rw [h6,Nat.mul_comm] at hdm
      omega
     ·right;simp [h6]
    rw [hf,Bool.or_false]
 ·rw [List.getElem?_eq_none (l:=mixF _ _ _ _) (by rw [mixF_len];exact hk),List.getElem?_eq_none]
  rw [List.length_append,List.length_append,ht,List.length_map,List.length_range,List.length_drop,hm]
  omega
theorem pieces_cover {s n:Nat} (hs:1≤s):∀ (f x k:Nat),n≤x+f→x≤k→k<n→∃ p∈pieces s n f x,p.1≤k∧k<p.1+p.2
 | 0,x,k,h,h1,h2=>by omega
 | f+1,x,k,h,h1,h2=>by
  have hx:x<n:=by omega
  rw [pieces_step f hx]
  by_cases hk:k<x+min s (n-x)
  ·exact ⟨_,List.mem_cons_self ..,h1,hk⟩
  ·obtain ⟨p,hp,h3⟩:=pieces_cover hs f (x+s) k (by omega) (by omega) h2
   exact ⟨p,List.mem_cons_of_mem _ hp,h3⟩
theorem grid_cover {W H s k:Nat} (hs:1≤s) (hk:k<W*H):(gridL W H s).any (inSq W k)=true:=by
 have hW:0<W:=by
  rcases Nat.eq_zero_or_pos W with h | h
  ·rw [h] at hk;omega
  ·exact h
 obtain ⟨p,hp,hp1,hp2⟩:=pieces_cover (s:=s) (n:=H) hs H 0 (k / W) (by omega) (Nat.zero_le _) (Nat.div_lt_of_lt_mul hk)
 obtain ⟨q,hq,hq1,hq2⟩:=pieces_cover (s:=s) (n:=W) hs W 0 (k%W) (by omega) (Nat.zero_le _) (Nat.mod_lt _ hW)
 rw [List.any_eq_true]
 refine ⟨⟨q.1,p.1,q.2,p.2⟩,List.mem_flatMap.2 ⟨p,hp,List.mem_map.2 ⟨q,hq,rfl⟩⟩,?_⟩
 unfold inSq
 simp [hp1,hp2,hq1,hq2]
theorem grid_in {W H s:Nat} (hs:1≤s):∀ q∈gridL W H s,q.x+q.w≤W∧q.y+q.h≤H:=by
 intro q hq
 obtain ⟨p,hp,hq⟩:=List.mem_flatMap.1 hq
 obtain ⟨r,hr,rfl⟩:=List.mem_map.1 hq
 have h1:=pieces_ok hs _ _ p hp
 have h2:=pieces_ok hs _ _ r hr
 exact ⟨h2.2.2,h1.2.2⟩
theorem nbr_fill {l:List Int} {W x y m:Nat} (hx:x<W) (hm:y*W+x=m) (hl:m≤l.length):nbr (fillL (l.take m) l.length) W x y=nbr l W x y:=by
 refine nbr_congr hx fun i hi => ?_
 rw [hm] at hi
 rw [List.getD_eq_getElem?_getD,List.getD_eq_getElem?_getD]
 unfold fillL
 rw [List.getElem?_append_left (by rw [List.length_take];omega),List.getElem?_take_of_lt hi]
theorem back_one {l:List Int} {d:Nat} (hs:SmpOk d l) (W kind y x:Nat):wrapI (restAt l W d kind y x+guessI kind (nbr l W x y) d) d=l.getD (y*W+x) 0:=by
 obtain ⟨h0,h1⟩:=getD_ok hs (y*W+x)
 unfold restAt
 generalize guessI kind (nbr l W x y) d=g
 rw [Int.add_comm,wrapI_add_wrap,show g+(l.getD (y*W+x) 0-g)=l.getD (y*W+x) 0 by omega]
 exact wrapI_in h0 h1
theorem fill_all (l:List Int):fillL (l.take l.length) l.length=l:=by
 rw [List.take_length]
 simp [fillL]
end Go.Proofs.YtijpbkakncglgaaGreatDoor
