/- Words of this seat's proofs on memory: a block that is known whole, a slice that lies at the head of a block of its own, and which blocks a call may turn. Plain lemmas, no program. -/
import Derived.WalkKit
import Derived.Deep.Draws
import Derived.Maps.AppendAt
import Derived.Test.YtepjepkgcdfboaaGreatDoorMg12
set_option linter.unusedVariables false
set_option linter.unusedSimpArgs false
namespace Go.Proofs.YtepjepkgcdfboaaGreatDoor
theorem zA {p:Prop} [inst:Decidable p] (h:¬p):decide p=false:=decide_eq_false h
theorem zB {p:Prop} [inst:Decidable p] (h:p):decide p=true:=decide_eq_true h
theorem zC {α:Type _} {as bs:List α}:(as++bs).length=as.length+bs.length:=List.length_append
theorem zD {α:Type _} {l:List α} {i:Nat} {a:α}:l.getD i a=l[i]?.getD a:=List.getD_eq_getElem?_getD
theorem zE {α:Type _} {β:Type _} {as:List α} (f:α -> β):(as.map f).length=as.length:=List.length_map f
theorem zF {α:Type _} {l:List α} {i:Nat} (h:i<l.length):l[i]? =some l[i]:=List.getElem?_eq_getElem h
theorem zG {α:Type _} {l:List α} {n:Nat} (h:n<l.length):l[n]∈l:=List.getElem_mem h
theorem zH {α:Type _} (a b c:List α):a++b++c=a++(b++c):=List.append_assoc a b c
theorem zI {α:Type _} {i:Nat} {l:List α}:(l.take i).length=min i l.length:=List.length_take
theorem zJ {α:Type _} {b:α} {l:List α} {a:α}:a∈b::l ↔ a=b\/a∈l:=List.mem_cons
theorem zK {α:Type _} {a:α} {as:List α}:(a::as).length=as.length+1:=List.length_cons
theorem zL {a b c d:Nat} (h:a<=b) (k:c<=d):a*c<=b*d:=Nat.mul_le_mul h k
theorem zM {α:Type _} {β:Type _} {f:α -> β} {a b:List α}:(a++b).map f=a.map f++b.map f:=List.map_append
theorem zN {α:Type _} {l:List α}:l.take l.length=l:=List.take_length
theorem zO {α:Type _} {i:Nat} {l:List α}:(l.drop i).length=l.length-i:=List.length_drop
theorem zP {α:Type _} {a:α} {s t:List α}:a∈s++t ↔ a∈s\/a∈t:=List.mem_append
theorem zQ (n:Nat):n<=n:=Nat.le_refl n
theorem zS {α:Type _} {l₁ l₂:List α} {i:Nat} (h:l₁.length<=i):(l₁++l₂)[i]? =l₂[i-l₁.length]?:=List.getElem?_append_right h
theorem zT {α:Type _} {i:Nat} {l:List α} (h:l.length<=i):l.take i=l:=List.take_of_length_le h
theorem zU {α:Type _} {a b:α}:a∈[b] ↔ a=b:=List.mem_singleton
theorem zV {α:Type _} {n:Nat} {a:α}:(List.replicate n a).length=n:=List.length_replicate
theorem zW {α:Type _} {β:Type _} {f:α -> β} {l:List α} {i:Nat}:(l.map f)[i]? =l[i]?.map f:=List.getElem?_map
theorem zY (a b:Nat):a*b=b*a:=Nat.mul_comm a b
theorem zZ (a b:Nat):a<b\/a≥b:=Nat.lt_or_ge a b
theorem zX {α:Sort _} (a:α):∃ x,x=a:=⟨a,rfl⟩
open Go.RowKit
theorem hid {p:Prop} (h:p):Hid p:=h
structure Chg (F:List Nat) (w w':World):Prop where
 os:w'.os=w.os
 tape:w'.tape=w.tape
 output:w'.output=w.output
 size:w.heap.size<=w'.heap.size
 block:∀ k,k<w.heap.size->k∉F->w'.heap[k]?=w.heap[k]?
section
variable {F F':List Nat} {a b c w w':World}
theorem Chg.refl (F:List Nat) (w:World):Chg F w w:=⟨rfl,rfl,rfl,zQ _,fun _ _ _=>rfl⟩
theorem zR (F:List Nat) (w:World):Chg F w w:=Chg.refl F w
theorem Chg.mono (h:Chg F a b) (hF:∀ k∈F,k<a.heap.size->k∈F'):Chg F' a b :=
 ⟨h.os,h.tape,h.output,h.size,fun k hk hn=>h.block k hk fun hm=>hn (hF k hm hk)⟩
theorem Chg.trans (h:Chg F a b) (k:Chg F' b c) (hF:∀ x∈F',x∈F\/a.heap.size<=x):Chg F a c :=
 ⟨k.os.trans h.os,k.tape.trans h.tape,k.output.trans h.output,Nat.le_trans h.size k.size,fun x hx hn =>
  (k.block x (Nat.lt_of_lt_of_le hx h.size) fun hm=>by rcases hF x hm with h1 | h1;exact hn h1;omega).trans (h.block x hx hn)⟩
theorem Chg.tq (h:Chg F a b) (k:Chg F b c):Chg F a c:=h.trans k fun _ h => .inl h
theorem Chg.drew (h:Chg F a w):Chg F a w.drew:=⟨h.os,h.tape,h.output,h.size,h.block⟩
theorem Chg.drewN (h:Chg F a w) (n:Nat):Chg F a (w.drewN n):=⟨h.os,h.tape,h.output,h.size,h.block⟩
theorem Chg.alloc (h:Chg F a w) (o:Obj):Chg F a (w.alloc o) :=
 h.tq ⟨rfl,rfl,rfl,by simp,fun k hk _=>Below.heap_alloc _ _ _ hk⟩
theorem Chg.setCell (h:Chg F a w) {p:Addr} (hp:p.block∈F\/a.heap.size<=p.block) (u:Value):Chg F a (w.setCell p u) :=
 h.trans (F':=[p.block]) ⟨rfl,rfl,rfl,by simp [World.setCell],fun k _ hn=>Below.heap_setCell _ _ _ _ (by simpa using hn)⟩ (by simpa using hp)
theorem Chg.of_grown {row:Option Nat} (hg:a.grownBy b row) (hr:∀ k,row=some k->k∈F\/a.heap.size<=k):Chg F a b :=
 ⟨hg.os,hg.tape,hg.output,hg.size,fun k hk hn=>hg.block k hk fun e=>by rcases hr k e.symm with h | h;exact hn h;omega⟩
theorem Chg.grown {row:Option Nat} (h:Chg F a w) (hg:w.grownBy w' row) (hr:∀ k,row=some k->k∈F\/a.heap.size<=k):Chg F a w' :=
 h.trans (F':=row.toList) (Chg.of_grown hg (by intro k hk;subst hk;exact .inl (by simp))) (by intro x hx;exact hr x (by simpa using hx))
theorem Chg.below (h:Chg F a b) (hF:∀ k∈F,a.heap.size<=k):Below a.heap.size a b :=
 ⟨h.os,h.tape,h.output,h.size,fun k hk=>h.block k hk fun hm=>by have:=hF k hm;omega⟩
theorem Chg.of_below (h:Below a.heap.size a b):Chg F a b:=⟨h.os,h.tape,h.output,h.size,fun k hk _=>h.block k hk⟩
theorem Chg.toBelow {B:Nat} (h:Chg F a b) (hB:B<=a.heap.size) (hF:∀ k∈F,B<=k):Below B a b :=
 ⟨h.os,h.tape,h.output,h.size,fun k hk=>h.block k (by omega) fun hm=>by have:=hF k hm;omega⟩
end
def Blk (w:World) (g:Nat) (t:TypeId) (cs:Array Value):Prop:=w.heap[g]?=some (.cells cs t (0,0))
section
variable {w w':World} {g:Nat} {t:TypeId} {cs:Array Value} {F:List Nat}
theorem Blk.lt (h:Blk w g t cs):g<w.heap.size:=by
 unfold Blk at h
 exact (Array.getElem?_eq_some_iff.1 h).1
theorem Blk.cell (h:Blk w g t cs) (i:Nat):w.cell? ⟨g,i,none⟩=cs[i]?:=cell_of_row w g i cs t (0,0) h
theorem Blk.frozen (h:Blk w g t cs) (i:Nat):w.frozen? ⟨g,i,none⟩=false:=by
 unfold Blk at h
 simp [World.frozen?,h]
theorem Blk.new (w:World) (t:TypeId) (cs:Array Value):Blk (w.alloc (.cells cs t)) w.heap.size t cs:=heap_alloc_new w _
theorem Blk.drew (h:Blk w g t cs):Blk w.drew g t cs:=h
theorem Blk.drewN (h:Blk w g t cs) (n:Nat):Blk (w.drewN n) g t cs:=h
theorem Blk.alloc (h:Blk w g t cs) (o:Obj):Blk (w.alloc o) g t cs:=(Below.heap_alloc w o g h.lt).trans h
theorem Blk.set_ (h:Blk w g t cs) (i:Nat) (u:Value):Blk (w.setCell ⟨g,i,none⟩ u) g t (cs.setIfInBounds i u):=by
 unfold Blk at h ⊢
 simp [World.setCell,Array.getElem?_modify,h]
theorem Blk.far (h:Blk w g t cs) {p:Addr} (hp:g≠p.block) (u:Value):Blk (w.setCell p u) g t cs:=(Below.heap_setCell w p u g hp).trans h
theorem Blk.chg (h:Blk w g t cs) (hc:Chg F w w') (hg:g∉F):Blk w' g t cs:=(hc.block g h.lt hg).trans h
theorem Blk.below {B:Nat} (h:Blk w g t cs) (hb:Below B w w') (hg:g<B):Blk w' g t cs:=(hb.block g hg).trans h
theorem Blk.grown {row:Option Nat} (h:Blk w g t cs) (hb:w.grownBy w' row) (hg:some g≠row):Blk w' g t cs:=(hb.block g h.lt hg).trans h
theorem Blk.ne_ {g':Nat} {t':TypeId} {cs':Array Value} (h:Blk w g t cs) (h':Blk w g' t' cs') (hne:t≠t'):g≠g':=by
 rintro rfl
 unfold Blk at h h'
 rw [h] at h'
 injection h' with h'
 injection h' with _ ht
 exact hne ht
end
structure Row (w:World) (e:TypeId) (v:Value) (g:Nat) (xs:List Value):Prop where
 ex:∃ cap cur,v=.slice (some ⟨g,0,none⟩) xs.length cap/\Blk w g e cur/\xs.length<=cap/\cap<=maxLen/\cur.size=cap/\cur.toList.take xs.length=xs
section
variable {w w':World} {e:TypeId} {v:Value} {g:Nat} {xs:List Value} {F:List Nat}
theorem Row.lt (h:Row w e v g xs):g<w.heap.size:=by obtain ⟨_,_,_,h,_⟩:=h.ex;exact h.lt
theorem Row.keep (h:Row w e v g xs) (hb:∀ t cs,Blk w g t cs->Blk w' g t cs):Row w' e v g xs:=by
 obtain ⟨ab,aa,h1,h2,h3⟩:=h.ex
 exact ⟨ab,aa,h1,hb _ _ h2,h3⟩
theorem Row.drew (h:Row w e v g xs):Row w.drew e v g xs:=h.keep fun _ _ h=>h.drew
theorem Row.drewN (h:Row w e v g xs) (n:Nat):Row (w.drewN n) e v g xs:=h.keep fun _ _ h=>h.drewN n
theorem Row.alloc (h:Row w e v g xs) (o:Obj):Row (w.alloc o) e v g xs:=h.keep fun _ _ h=>h.alloc o
theorem Row.far (h:Row w e v g xs) {p:Addr} (hp:g≠p.block) (u:Value):Row (w.setCell p u) e v g xs:=h.keep fun _ _ h=>h.far hp u
theorem Row.chg (h:Row w e v g xs) (hc:Chg F w w') (hg:g∉F):Row w' e v g xs:=h.keep fun _ _ h=>h.chg hc hg
theorem Row.grown {row:Option Nat} (h:Row w e v g xs) (hb:w.grownBy w' row) (hg:some g≠row):Row w' e v g xs:=h.keep fun _ _ h=>h.grown hb hg
theorem Row.own (h:Row w e v g xs) (base:Nat) (hb:base<=g):w.ownsRow base e 1 v xs.length xs:=by
 obtain ⟨ab,aa,h1,h2,h3,h4,h5,h6⟩:=h.ex
 exact ⟨by simp,.inr ⟨g,ab,aa,h1,hb,h2,h3,h4,by simp [h5],by simpa using h6⟩⟩
theorem Row.of_own {base n:Nat} (h:w.ownsRow base e 1 v n xs) {a:Addr} {m c:Nat} (hv:v=.slice (some a) m c):∃ g,Row w e v g xs/\v.ownBlock=some g:=by
 obtain ⟨h1,h2⟩:=h
 rcases h2 with ⟨rfl,_⟩ | ⟨g,ab,aa,rfl,_,h3,h4,h5,h6,h7⟩
 ·cases hv
 ·have hn:xs.length=n:=by simpa using h1
  subst hn
  exact ⟨g,⟨ab,aa,rfl,h3,h4,h5,by simpa using h6,by simpa using h7⟩,rfl⟩
theorem Row.own_block (h:Row w e v g xs):v.ownBlock=some g:=by
 obtain ⟨ab,aa,rfl,_⟩:=h.ex
 rfl
theorem Row.open_ (h:Row w e v g xs):∃ cap,v=.slice (some ⟨g,0,none⟩) xs.length cap/\xs.length<=cap/\cap<=maxLen/\(∀ i,i<xs.length->w.cell? ⟨g,i,none⟩=xs[i]?)/\∀ i,w.frozen? ⟨g,i,none⟩=false:=by
 obtain ⟨cap,aa,h1,h2,h3,h4,h5,h6⟩:=h.ex
 refine ⟨cap,h1,h3,h4,fun i hi => ?_,h2.frozen⟩
 rw [h2.cell i]
 have:(aa.toList.take xs.length)[i]?=xs[i]?:=by rw [h6]
 rw [List.getElem?_take,if_pos hi] at this
 simpa using this
theorem Row.oq {α:Type} {f:α->Value} {ds:List α} (h:Row w e v g (ds.map f)):∃ cap:Nat,v=.slice (some ⟨g,0,none⟩) ds.length cap/\ds.length<=cap/\cap<=9223372036854775807/\(∀ (i:Nat) (d:α),ds[i]?=some d->w.cell? ⟨g,i,none⟩=some (f d))/\∀ i,w.frozen? ⟨g,i,none⟩=false:=by
 obtain ⟨cap,h1,h2,h3,h4,h5⟩:=h.open_
 simp only [zE] at h1 h2 h4
 refine ⟨cap,h1,h2,by simpa [maxLen] using h3,fun i d hd => ?_,h5⟩
 have hi:i<ds.length:=(List.getElem?_eq_some_iff.1 hd).1
 rw [h4 i hi,zW,hd]
 rfl
theorem Row.set_ (h:Row w e v g xs) {i:Nat} (hi:i<xs.length) (u:Value):Row (w.setCell ⟨g,i,none⟩ u) e v g (xs.set i u):=by
 obtain ⟨aa,ab,h1,h2,h3,h4,h5,h6⟩:=h.ex
 refine ⟨aa,_,by simpa using h1,h2.set_ i u,by simpa using h3,h4,by simpa using h5,?_⟩
 rw [List.length_set,Array.toList_setIfInBounds,List.take_set,h6]
theorem Row.ne_ {t:TypeId} {cs:Array Value} {b:Nat} (h:Row w e v g xs) (hb:Blk w b t cs) (hne:e≠t):g≠b:=by
 obtain ⟨_,_,_,h2,_⟩:=h.ex
 exact h2.ne_ hb hne
theorem Row.ne_row {e':TypeId} {v':Value} {g':Nat} {xs':List Value} (h:Row w e v g xs) (hb:Row w e' v' g' xs') (hne:e≠e'):g≠g':=by
 obtain ⟨_,_,_,h2,_⟩:=hb.ex
 exact h.ne_ h2 hne
theorem Row.made (w:World) (e:TypeId) (xs:List Value) (hm:xs.length<=maxLen):Row (w.alloc (.cells xs.toArray e)) e (.slice (some ⟨w.heap.size,0,none⟩) xs.length xs.length) w.heap.size xs :=
 ⟨xs.length,xs.toArray,rfl,Blk.new w e _,zQ _,hm,by simp,by simp⟩
end
structure b6m (P:Program) (t e:TypeId) (z:Value) (size bytes:Nat):Prop where
 ht:P.underlying t=some (.slice e)
 hi:∃ i,P.info? e=some i/\i.zero=some z/\i.size=size/\i.bytes=bytes
theorem b6m.mk' {P:Program} {t e:TypeId} {z:Value} {size bytes:Nat} (ht:P.underlying t=some (.slice e)) (h:(P.info? e).map (fun i=>(i.zero,i.size,i.bytes))=some (some z,size,bytes)):b6m P t e z size bytes :=
 ⟨ht,info_parts h⟩
section
variable {P:Program}
theorem c8j {w:World} {t ty e:TypeId} {z:Value} {size bytes:Nat} (E:b6m P t e z size bytes) (hzs:z.cells.size=size) (hsz:0<size)
  {v:Value} {n:Nat} {xs:List Value} (hown:w.ownsRow 0 e size v n xs) {ad:Addr} {m c:Nat} {news:List Value} (hl:news.length=m*size) (hm:0<m)
  (hnews:∀ j u,news[j]?=some u->w.cell? (ad.add j)=some u) (h1:∀ u∈news,u.oneCell'=true) (h63:n+m<=9223372036854775807) (hbytes:(n+m)*bytes<=140737488355328) :
  ∃ g cap w',(Builtin.append_ #[t,t] ty #[v,.slice (some ad) m c]).run P w=.ok (.slice (some ⟨g,0,none⟩) (n+m) cap) w'/\w'.ownsRow 0 e size (.slice (some ⟨g,0,none⟩) (n+m) cap) (n+m) (xs++news) /\
   Chg v.ownBlock.toList w w'/\(some g=v.ownBlock\/w.heap.size<=g):=by
 obtain ⟨i,hi,hz,ab,ae⟩:=E.hi
 obtain ⟨v',w',hr,h2,h3,h4,h5⟩:=run_append_own_at (P:=P) w 0 t ty e i z size bytes E.ht hi hz ab ae hzs hsz v n xs hown ad m c news hl hnews h1 (by simpa [maxLen] using h63) hbytes (Nat.zero_le _)
 rcases h2.2 with ⟨rfl,hn⟩ | ⟨g,cap,ac,rfl,aa⟩
 ·omega
 ·refine ⟨g,cap,w',hr,⟨h2.1,.inr ⟨g,cap,ac,rfl,aa⟩⟩,Chg.of_grown h3 (by intro k hk;left;simp [hk]),?_⟩
  simp only [Value.ownBlock] at h5
  rcases h5 with h5 | h5
  ·exact .inl h5
  ·right
   injection h5 with h5
   omega
theorem b8t {w:World} {o:Oper} {a:Act} {K:Act->World->Prop} {Q:Exit->Act->World->Prop} {s x:Operand} {t:TypeId}
  (ho:o.op=.call { callee:=.builtin .append,args:=#[s,x],argTypes:=#[t,t] })
  {e:TypeId} {z:Value} {size bytes:Nat} (E:b6m P t e z size bytes) (hzs:z.cells.size=size) (hsz:0<size)
  {v:Value} {n:Nat} {xs:List Value} (hs:a.eval s=v) (hown:w.ownsRow 0 e size v n xs) {ad:Addr} {m c:Nat} {news:List Value} (hx:a.eval x=.slice (some ad) m c) (hl:news.length=m*size) (hm:0<m)
  (hnews:∀ j u,news[j]?=some u->w.cell? (ad.add j)=some u) (h1:∀ u∈news,u.oneCell'=true) (h63:n+m<=9223372036854775807) (hbytes:(n+m)*bytes<=140737488355328)
  (h:∀ g cap w',w'.ownsRow 0 e size (.slice (some ⟨g,0,none⟩) (n+m) cap) (n+m) (xs++news)->Chg v.ownBlock.toList w w'->(some g=v.ownBlock\/w.heap.size<=g)->K (a.put o.dst (.slice (some ⟨g,0,none⟩) (n+m) cap)) w'):o.wp P a w K Q:=by
 obtain ⟨g,cap,w',hr,h2,h3,h4⟩:=c8j (P:=P) (ty:=o.type) E hzs hsz hown (ad:=ad) (c:=c) hl hm hnews h1 h63 hbytes
 unfold Oper.wp execOp
 simp only [ho,resolve,invoke,builtin,Sem.run_bind,Sem.run_pure,Result.andThen_ok,List.map_toArray,List.map_cons,List.map_nil,hs,hx,hr]
 exact h g cap w' h2 h3 h4
theorem a3v {w:World} {ops:Array Oper} {rest:List Oper} {o:Oper} {a:Act} {Q:Exit->Act->World->Prop} (hgd:o.guard=none) {s x:Operand} {t:TypeId}
  (ho:o.op=.call { callee:=.builtin .append,args:=#[s,x],argTypes:=#[t,t] })
  {e:TypeId} {z:Value} {size bytes:Nat} (E:b6m P t e z size bytes) (hzs:z.cells.size=size) (hsz:0<size)
  {v:Value} {n:Nat} {xs:List Value} (hs:a.eval s=v) (hown:w.ownsRow 0 e size v n xs) {ad:Addr} {m c:Nat} {news:List Value} (hx:a.eval x=.slice (some ad) m c) (hl:news.length=m*size) (hm:0<m)
  (hnews:∀ j u,news[j]?=some u->w.cell? (ad.add j)=some u) (h1:∀ u∈news,u.oneCell'=true) (h63:n+m<=9223372036854775807) (hbytes:(n+m)*bytes<=140737488355328)
  (h:∀ g cap w',w'.ownsRow 0 e size (.slice (some ⟨g,0,none⟩) (n+m) cap) (n+m) (xs++news)->Chg v.ownBlock.toList w w'->(some g=v.ownBlock\/w.heap.size<=g)->wpList P ops Q rest (a.put o.dst (.slice (some ⟨g,0,none⟩) (n+m) cap)) w'):wpList P ops Q (o::rest) a w :=
 wpList_plain hgd fun _ hK=>b8t ho E hzs hsz hs hown hx hl hm hnews h1 h63 hbytes fun g cap w' h2 h3 h4=>hK _ _ (h g cap w' h2 h3 h4)
theorem b6k {w : World} {ops : Array Oper} {rest : List Oper} {o : Oper} {a : Act} {Q : Exit -> Act -> World -> Prop} (hgd : o.guard = none) {s x : Operand} {t : TypeId}
    (ho:o.op=.call { callee:=.builtin .append,args:=#[s,x],argTypes:=#[t,t] })
    {e:TypeId} {z:Value} {bytes:Nat} (E:b6m P t e z 1 bytes) (hzs:z.cells.size=1)
    {v:Value} {g:Nat} {xs:List Value} (hs:a.eval s=v) (hr:Row w e v g xs) {B c:Nat} (u:Value) (hx:a.eval x=.slice (some ⟨B,0,none⟩) 1 c)
    (hu:w.cell? ⟨B,0,none⟩=some u) (h1:u.oneCell'=true) (hbytes:(xs.length+1)*bytes<=140737488355328) (h63:xs.length<9223372036854775807)
    (h:∀ g' cap w',Row w' e (.slice (some ⟨g',0,none⟩) (xs.length+1) cap) g' (xs++[u])->Chg [g] w w'->(g'=g\/w.heap.size<=g')->wpList P ops Q rest (a.put o.dst (.slice (some ⟨g',0,none⟩) (xs.length+1) cap)) w'):wpList P ops Q (o::rest) a w:=by
  refine a3v hgd ho E hzs (by decide) hs (hr.own 0 (Nat.zero_le _)) hx (news:=[u]) (by simp) (by decide) ?_ (by simpa using h1) (by omega) hbytes ?_
  · intro j u' hj
    match j,hj with
    | 0,hj=>simp at hj;subst hj;simpa [Addr.add] using hu
  · intro g' cap w' h2 h3 h4
    obtain ⟨aa,h5,h6⟩:=Row.of_own h2 rfl
    rw [hr.own_block] at h3 h4
    simp only [Value.ownBlock] at h6
    injection h6 with h6
    subst h6
    exact h g' cap w' h5 h3 (by rcases h4 with h4 | h4; · left; injection h4
                                · exact .inr h4)
end
theorem a1p {P:Program} {t e:TypeId} {z:Value} {bytes:Nat} (E:b6m P t e z 1 bytes) (hzs:z.cells=#[z]) (kl kc:IntKind) (n:Nat) (hb:bytes*n<=281474976710656) (h63:n<=9223372036854775807) (w:World) :
  (Instr.makeSlice t (.int kl (n:Int)) (.int kc (n:Int))).run P w=.ok (.slice (some ⟨w.heap.size,0,none⟩) n n) (w.alloc (.cells (List.replicate n z).toArray e)):=by
 obtain ⟨i,hi,hz,aa,ab⟩:=E.hi
 subst ab
 have ac:(i.bytes:Int)*(n:Int)<=281474976710656:=by
  have h:((i.bytes*n:Nat):Int)<=281474976710656:=by omega
  rwa [Int.natCast_mul] at h
 have hr:=run_make (P:=P) w t e i z E.ht hi hz kl kc n n (by omega) (Int.le_refl _) ac (by omega)
 rw [hr,aa,hzs]
 simp only [Int.toNat_natCast,Nat.mul_one]
 have:madeCells #[z] n=(List.replicate n z).toArray:=by
  apply Array.toList_inj.1
  rw [toList_madeCells_one]
 rw [this]
section
variable {w w':World} {base:Nat} {e:TypeId} {size n:Nat} {v:Value} {xs:List Value} {F:List Nat}
theorem e4i (h:w.ownsRow base e size v n xs) (hc:Chg F w w') (hv:∀ k,v.ownBlock=some k->k∉F):w'.ownsRow base e size v n xs:=by
 refine ⟨h.1,?_⟩
 rcases h.2 with hn | ⟨g,ab,aa,rfl,hb,hg,rest⟩
 ·exact .inl hn
 ·exact .inr ⟨g,ab,aa,rfl,hb,(hc.block g (Array.getElem?_eq_some_iff.1 hg).1 (hv g rfl)).trans hg,rest⟩
theorem f3z (h:w.ownsRow base e size v n xs) {g:Nat} {t:TypeId} {cs:Array Value} (hg:Blk w g t cs) (hne:e≠t):v.ownBlock≠some g:=by
 rcases h.2 with ⟨rfl,_⟩ | ⟨g',ab,aa,rfl,_,hh,_⟩
 ·simp [Value.ownBlock]
 ·intro he
  simp only [Value.ownBlock] at he
  injection he with he
  subst he
  exact (show Blk w g' e aa from hh).ne_ hg hne rfl
theorem f0v (h:w.ownsRow base e size v n xs):∀ k,v.ownBlock=some k->k<w.heap.size:=fun k hk=>(h.lt k hk).2
end
structure a0d {α:Type} (f:α->Value) (w:World) (A:Option Addr) (l:List α):Prop where
 ex:0<l.length->∃ b o,A=some ⟨b,o,none⟩/\b<w.heap.size/\∀ (i:Nat) (a:α),l[i]?=some a->w.cell? ⟨b,o+i,none⟩=some (f a)
theorem a0d.chg {α:Type} {f:α->Value} {w w':World} {A:Option Addr} {l:List α} {F:List Nat} (h:a0d f w A l) (hc:Chg F w w') (hA:∀ ad,A=some ad->ad.block∉F):a0d f w' A l :=
 ⟨fun h0=>by
  obtain ⟨b0,o0,e0,hb0,hcells⟩:=h.ex h0
  exact ⟨b0,o0,e0,Nat.lt_of_lt_of_le hb0 hc.size,fun i a ha=>(World.cell?_of_block (w:=w) (hc.block b0 hb0 (hA _ e0))).trans (hcells i a ha)⟩⟩
theorem a0d.same {α:Type} {f:α->Value} {w w':World} {A:Option Addr} {l:List α} (h:a0d f w A l) (hc:Chg [] w w'):a0d f w' A l:=h.chg hc (by simp)
structure a0u (F F':List Nat) (w w':World):Prop where
 chg:Chg F w w'
 new:∀ x∈F',x∈F\/w.heap.size<=x
section
variable {F F' F'':List Nat} {a b c w w':World} {g:Nat}
theorem a0u.refl (F:List Nat) (w:World):a0u F F w w:=⟨zR _ _,fun _ h => .inl h⟩
theorem a0u.trans (h:a0u F F' a b) (k:a0u F' F'' b c):a0u F F'' a c :=
 ⟨h.chg.trans k.chg h.new,fun x hx=>by
  rcases k.new x hx with h1 | h1
  ·exact h.new x h1
  ·exact .inr (Nat.le_trans h.chg.size h1)⟩
theorem a0u.same (h:a0u F F' a b) (k:Chg [] b c):a0u F F' a c :=
 ⟨h.chg.trans k (by simp),h.new⟩
theorem a0u.pre (k:Chg [] a b) (h:a0u F F' b c):a0u F F' a c :=
  ⟨⟨h.chg.os.trans k.os,h.chg.tape.trans k.tape,h.chg.output.trans k.output,Nat.le_trans k.size h.chg.size,fun x hx hn=>(h.chg.block x (Nat.lt_of_lt_of_le hx k.size) hn).trans (k.block x hx (by simp))⟩,
   fun x hx=>by rcases h.new x hx with h1 | h1;exact .inl h1;exact .inr (Nat.le_trans k.size h1)⟩
theorem a0u.drewN (h:a0u F F' a b) (n:Nat):a0u F F' a (b.drewN n):=⟨h.chg.drewN n,h.new⟩
theorem a0u.drew (h:a0u F F' a b):a0u F F' a b.drew:=⟨h.chg.drew,h.new⟩
theorem a0u.alloc (h:a0u F F' a b) (o:Obj):a0u F F' a (b.alloc o):=⟨h.chg.alloc o,h.new⟩
theorem a0u.setCell (h:a0u F F' a b) {p:Addr} (hp:p.block∈F') (u:Value):a0u F F' a (b.setCell p u) :=
 ⟨h.chg.setCell (h.new _ hp) u,h.new⟩
theorem a0u.cons (h:a0u F F' a b) (x:Nat):a0u (x::F) (x::F') a b :=
 ⟨h.chg.mono fun k hk _=>by simp [hk],fun k hk=>by
  rcases zJ.1 hk with rfl | hk
  ·exact .inl (by simp)
  ·rcases h.new k hk with h1 | h1
   ·exact .inl (by simp [h1])
   ·exact .inr h1⟩
theorem a0u.mono (h:a0u F F' a b) {G:List Nat} (hF:∀ x∈F,x∈G):a0u G F' a b :=
 ⟨h.chg.mono fun k hk _=>hF k hk,fun k hk=>by
  rcases h.new k hk with h1 | h1
  ·exact .inl (hF k h1)
  ·exact .inr h1⟩
theorem a0u.out (h:a0u F F' w w') (hg:g<w.heap.size) (hn:g∉F):g∉F':=fun hm=>by
 rcases h.new g hm with h1 | h1
 ·exact hn h1
 ·omega
theorem a0u.size (h:a0u F F' w w'):w.heap.size<=w'.heap.size:=h.chg.size
theorem a0u.fresh (h:a0u F F' a b) (hF:∀ x∈F,w.heap.size<=x) (k:Chg [] w a):Chg [] w b :=
 k.trans h.chg fun x hx => .inr (hF x hx)
theorem a0u.freshF (h:a0u F F' a b) (hF:∀ x∈F,w.heap.size<=x) (k:Chg [] w a):∀ x∈F',w.heap.size<=x:=fun x hx=>by
 rcases h.new x hx with h1 | h1
 ·exact hF x h1
 ·exact Nat.le_trans k.size h1
end
structure Own (w:World) (e:TypeId) (v:Value) (F:List Nat) (xs:List Value):Prop where
 own:w.ownsRow 0 e 1 v xs.length xs
 fp:F=v.ownBlock.toList
section
variable {w w':World} {e:TypeId} {v:Value} {F G G':List Nat} {xs:List Value}
theorem Own.nil (w:World) (e:TypeId):Own w e (.slice none 0 0) [] []:=⟨World.ownsRow_nil _ 0 _ _,rfl⟩
theorem Own.chg (h:Own w e v F xs) (hc:Chg G w w') (hd:∀ x∈F,x∉G):Own w' e v F xs :=
 ⟨e4i h.own hc fun k hk=>hd k (by rw [h.fp,hk];simp),h.fp⟩
theorem Own.same (h:Own w e v F xs) (hc:Chg [] w w'):Own w' e v F xs:=h.chg hc (by simp)
theorem Own.lt (h:Own w e v F xs):∀ x∈F,x<w.heap.size:=fun x hx=>by
 rw [h.fp] at hx
 exact f0v h.own x (by simpa using hx)
theorem Own.ne_ (h:Own w e v F xs) {g:Nat} {t:TypeId} {cs:Array Value} (hg:Blk w g t cs) (hne:e≠t):g∉F:=fun hm=>by
 rw [h.fp] at hm
 exact f3z h.own hg hne (by simpa using hm)
theorem Row.toOwn {g:Nat} (h:Row w e v g xs):Own w e v [g] xs:=⟨h.own 0 (Nat.zero_le _),by rw [h.own_block];rfl⟩
theorem Own.cases (h:Own w e v F xs):(v=.slice none 0 0/\xs=[]/\F=[])\/∃ g,Row w e v g xs/\F=[g]:=by
 obtain ⟨h1,h2⟩:=h.own
 rcases h2 with ⟨rfl,h3⟩ | ⟨g,ab,aa,rfl,h2,h3,h4,h5,h6,h7⟩
 ·exact .inl ⟨rfl,List.eq_nil_of_length_eq_zero h3,by rw [h.fp];rfl⟩
 ·refine .inr ⟨g,⟨ab,aa,rfl,h3,h4,h5,by simpa using h6,by simpa using h7⟩,by rw [h.fp];rfl⟩
theorem Own.open_ (h:Own w e v F xs):∃ (A:Option Addr) (cap:Nat),v=.slice A xs.length cap/\xs.length<=cap/\cap<=9223372036854775807/\a0d (fun v=>v) w A xs /\
  ∀ ad,A=some ad->∃ g,ad=⟨g,0,none⟩/\F=[g]/\∀ i,w.frozen? ⟨g,i,none⟩=false:=by
 rcases h.cases with ⟨rfl,rfl,rfl⟩ | ⟨g,hr,rfl⟩
 ·exact ⟨none,0,rfl,zQ _,by decide,⟨fun h=>by simp at h⟩,fun ad h=>by cases h⟩
 ·have aa:=hr.lt
  obtain ⟨cap,rfl,h2,h3,h4,h5⟩:=hr.open_
  exact ⟨some ⟨g,0,none⟩,cap,rfl,h2,by simpa [maxLen] using h3,⟨fun _=>⟨g,0,rfl,aa,fun i a ha=>by
   rw [Nat.zero_add,h4 i (List.getElem?_eq_some_iff.1 ha).1,ha]⟩⟩,fun ad h=>by
    injection h with h
    exact ⟨g,h.symm,rfl,h5⟩⟩
end
section
variable {w w':World} {e:TypeId} {v:Value} {F G G':List Nat} {xs:List Value}
theorem Own.alloc (h:Own w e v F xs) (o:Obj):Own (w.alloc o) e v F xs:=h.same ((zR [] w).alloc o)
theorem Own.drewN (h:Own w e v F xs) (n:Nat):Own (w.drewN n) e v F xs:=h.same ((zR [] w).drewN n)
theorem Own.drew (h:Own w e v F xs):Own w.drew e v F xs:=h.same (zR [] w).drew
theorem Own.far (h:Own w e v F xs) {p:Addr} (hp:p.block∉F) (u:Value):Own (w.setCell p u) e v F xs :=
 h.chg ((zR [p.block] w).setCell (by simp) u) (by intro x hx hm;simp at hm;subst hm;exact hp hx)
theorem Own.row (h:Own w e v F xs) {g n c:Nat} (hv:v=.slice (some ⟨g,0,none⟩) n c):Row w e v g xs/\F=[g]:=by
 rcases h.cases with ⟨rfl,_⟩ | ⟨g',hr,rfl⟩
 ·cases hv
 ·have:=hr.own_block
  rw [hv] at this
  simp only [Value.ownBlock] at this
  injection this with this
  subst this
  exact ⟨hr,rfl⟩
theorem Own.oq {α:Type} {f:α->Value} {ds:List α} (h:Own w e v F (ds.map f)):∃ (A:Option Addr) (cap:Nat),v=.slice A ds.length cap/\ds.length<=cap/\cap<=9223372036854775807/\a0d f w A ds:=by
 obtain ⟨A,cap,h1,h2,h3,h4,_⟩:=h.open_
 simp only [zE] at h1 h2
 refine ⟨A,cap,h1,h2,h3,⟨fun h0 => ?_⟩⟩
 obtain ⟨b,o,e1,e2,e3⟩:=h4.ex (by simpa using h0)
 exact ⟨b,o,e1,e2,fun i a ha=>e3 i (f a) (by rw [zW,ha];rfl)⟩
end
theorem a0d.map {α β:Type} {f:β->Value} {k:α->β} {w:World} {A:Option Addr} {l:List α} (h:a0d f w A (l.map k)):a0d (fun x=>f (k x)) w A l :=
 ⟨fun h0=>by
  obtain ⟨b,o,e1,e2,e3⟩:=h.ex (by simpa using h0)
  exact ⟨b,o,e1,e2,fun i a ha=>e3 i (k a) (by rw [zW,ha];rfl)⟩⟩
theorem a0d.drewN {α:Type} {f:α->Value} {w:World} {A:Option Addr} {l:List α} (h:a0d f w A l) (n:Nat):a0d f (w.drewN n) A l:=h.chg ((zR [] w).drewN n) (by simp)
def Apt {α:Type} (A:Option Addr) (l:List α) (F:List Nat):Prop:=0<l.length->∀ ad,A=some ad->ad.block∉F
section
variable {α:Type} {f:α->Value} {w w':World} {A:Option Addr} {l:List α} {F F':List Nat}
theorem a0d.keep (h:a0d f w A l) (a:Apt A l F) (hc:Chg F w w'):a0d f w' A l :=
 ⟨fun h0=>by
  obtain ⟨b0,o0,e0,hb0,hcells⟩:=h.ex h0
  exact ⟨b0,o0,e0,Nat.lt_of_lt_of_le hb0 hc.size,fun i x hx=>(World.cell?_of_block (w:=w) (hc.block b0 hb0 (a h0 _ e0))).trans (hcells i x hx)⟩⟩
theorem Apt.grow (a:Apt A l F) (h:a0d f w A l) (g:a0u F F' w w'):Apt A l F':=fun h0 ad e=>by
 obtain ⟨b0,o0,e0,hb0,_⟩:=h.ex h0
 have ha:=a h0 ad e
 rw [e] at e0
 injection e0 with e0
 subst e0
 exact g.out hb0 ha
theorem Apt.fresh (h:a0d f w A l) (hF:∀ x∈F,w.heap.size<=x):Apt A l F:=fun h0 ad e hm=>by
 obtain ⟨b0,o0,e0,hb0,_⟩:=h.ex h0
 rw [e] at e0
 injection e0 with e0
 subst e0
 have:=hF _ hm
 simp at this
 omega
theorem Apt.nil (F:List Nat):Apt A ([]:List α) F:=fun h=>by simp at h
theorem Apt.of {β:Type} {l':List β} (a:Apt A l F) (h:l'.length<=l.length):Apt A l' F:=fun h0=>a (by omega)
theorem Apt.to {A':Option Addr} {β:Type} {l':List β} (a:Apt A l F) (h:l'.length<=l.length) (hb:∀ ad,A'=some ad->∃ ad0,A=some ad0/\ad.block=ad0.block):Apt A' l' F:=fun h0 ad e=>by
 obtain ⟨ad0,e0,h1⟩:=hb ad e
 rw [h1]
 exact a (by omega) ad0 e0
theorem Own.cells {e:TypeId} {n c:Nat} (h:Own w e (.slice A n c) F (l.map f)):a0d f w A l:=by
 obtain ⟨A',aa,h1,_,_,h2⟩:=h.oq
 injection h1 with h1
 subst h1
 exact h2
theorem Own.apt {β:Type} {l':List β} {e:TypeId} {n c:Nat} {xs:List Value} (h:Own w e (.slice A n c) F xs) (hd:∀ x∈F,x∉F'):Apt A l' F':=fun _ ad e=>by
 subst e
 have h1:=h.fp
 rcases h.cases with ⟨h2,_⟩ | ⟨g,hr,rfl⟩
 ·cases h2
 ·obtain ⟨cap,h3,_⟩:=hr.open_
  injection h3 with h3
  injection h3 with h3
  subst h3
  exact hd _ (by simp)
end
section
variable {P:Program}
theorem c3d {w:World} {ops:Array Oper} {rest:List Oper} {o:Oper} {a:Act} {Q:Exit->Act->World->Prop} (hgd:o.guard=none) {s x:Operand} {t:TypeId}
  (ho:o.op=.call { callee:=.builtin .append,args:=#[s,x],argTypes:=#[t,t] })
  {e:TypeId} {z:Value} {bytes:Nat} (E:b6m P t e z 1 bytes) (hzs:z.cells.size=1)
  {v:Value} {F:List Nat} {xs:List Value} (hs:a.eval s=v) (hown:Own w e v F xs) {ad:Addr} {c:Nat} (news:List Value) (hx:a.eval x=.slice (some ad) news.length c) (hm:0<news.length)
  (hnews:∀ j u,news[j]?=some u->w.cell? (ad.add j)=some u) (h1:∀ u∈news,u.oneCell'=true) (h63:xs.length+news.length<=9223372036854775807) (hbytes:(xs.length+news.length)*bytes<=140737488355328)
  (h:∀ g cap w',Row w' e (.slice (some ⟨g,0,none⟩) (xs.length+news.length) cap) g (xs++news)->a0u F [g] w w'->wpList P ops Q rest (a.put o.dst (.slice (some ⟨g,0,none⟩) (xs.length+news.length) cap)) w'):wpList P ops Q (o::rest) a w:=by
 refine a3v hgd ho E hzs (by decide) hs hown.own hx (news:=news) (by simp) hm hnews h1 h63 hbytes ?_
 intro g' cap w' h2 h3 h4
 obtain ⟨aa,h5,h6⟩:=Row.of_own h2 rfl
 simp only [Value.ownBlock] at h6
 injection h6 with h6
 subst h6
 rw [<-hown.fp] at h3
 refine h g' cap w' h5 ⟨h3,fun x hx => ?_⟩
 simp at hx
 subst hx
 rcases h4 with h4 | h4
 ·left;rw [hown.fp,<-h4];simp
 ·exact .inr h4
theorem a0f {w:World} {ops:Array Oper} {rest:List Oper} {o:Oper} {a:Act} {Q:Exit->Act->World->Prop} (hgd:o.guard=none) {s x:Operand} {t:TypeId}
  (ho:o.op=.call { callee:=.builtin .append,args:=#[s,x],argTypes:=#[t,t] })
  {e:TypeId} {z:Value} {bytes:Nat} (E:b6m P t e z 1 bytes) (hzs:z.cells.size=1)
  {v:Value} {F:List Nat} {xs:List Value} (hs:a.eval s=v) (hown:Own w e v F xs) {B c:Nat} (u:Value) (hx:a.eval x=.slice (some ⟨B,0,none⟩) 1 c)
  (hu:w.cell? ⟨B,0,none⟩=some u) (h1:u.oneCell'=true) (hbytes:(xs.length+1)*bytes<=140737488355328) (h63:xs.length<9223372036854775807)
  (h:∀ g cap w',Row w' e (.slice (some ⟨g,0,none⟩) (xs.length+1) cap) g (xs++[u])->a0u F [g] w w'->wpList P ops Q rest (a.put o.dst (.slice (some ⟨g,0,none⟩) (xs.length+1) cap)) w'):wpList P ops Q (o::rest) a w:=by
 refine c3d hgd ho E hzs hs hown [u] hx (by simp) ?_ (by simpa using h1) (by simp;omega) (by simpa using hbytes) h
 intro j u' hj
 match j,hj with
 | 0,hj=>simp at hj;subst hj;simpa [Addr.add] using hu
theorem a3x {w:World} {ops:Array Oper} {o:Oper} {a:Act} {K:Act->World->Prop} {Q:Exit->Act->World->Prop} {E0:Prop} (hgd:o.guard=none) {s x:Operand} {t:TypeId}
  (ho:o.op=.call { callee:=.builtin .append,args:=#[s,x],argTypes:=#[t,t] })
  {e:TypeId} {z:Value} {bytes:Nat} (E:b6m P t e z 1 bytes) (hzs:z.cells.size=1)
  {v:Value} {F:List Nat} {xs:List Value} (hs:a.eval s=v) (hown:Own w e v F xs) {B c:Nat} (u:Value) (hx:a.eval x=.slice (some ⟨B,0,none⟩) 1 c)
  (hu:w.cell? ⟨B,0,none⟩=some u) (h1:u.oneCell'=true) (hbytes:(xs.length+1)*bytes<=140737488355328) (h63:xs.length<9223372036854775807)
  (h:∀ g cap w',Row w' e (.slice (some ⟨g,0,none⟩) (xs.length+1) cap) g (xs++[u])->a0u F [g] w w'->K (a.put o.dst (.slice (some ⟨g,0,none⟩) (xs.length+1) cap)) w') :
  if Region.wanted o (yielded ops a.tmps)=true then Oper.wp P o a w K Q else E0:=by
 rw [if_pos (by simp [Region.wanted,hgd])]
 refine b8t ho E hzs (by decide) hs hown.own hx (news:=[u]) (by simp) (by decide) ?_ (by simpa using h1) (by omega) hbytes ?_
 ·intro j u' hj
  match j,hj with
  | 0,hj=>simp at hj;subst hj;simpa [Addr.add] using hu
 ·intro g' cap w' h2 h3 h4
  obtain ⟨aa,h5,h6⟩:=Row.of_own h2 rfl
  simp only [Value.ownBlock] at h6
  injection h6 with h6
  subst h6
  rw [<-hown.fp] at h3
  refine h g' cap w' h5 ⟨h3,fun x hx => ?_⟩
  simp at hx
  subst hx
  rcases h4 with h4 | h4
  ·left;rw [hown.fp,<-h4];simp
  ·exact .inr h4
end
def bt (bs:List Nat) (k:Nat):Nat:=bs.getD k 0
def a3k (bs:List Nat) (i:Nat):Nat :=
 bt bs (8*i)*128+bt bs (8*i+1)*64+bt bs (8*i+2)*32+bt bs (8*i+3)*16+bt bs (8*i+4)*8+bt bs (8*i+5)*4+bt bs (8*i+6)*2+bt bs (8*i+7)
def a1n (bs:List Nat):List Nat:=(List.range ((bs.length+7) / 8)).map (a3k bs)
theorem a4p (bs:List Nat):(a1n bs).length=(bs.length+7) / 8:=by simp [a1n]
theorem b1h {bs:List Nat} {k:Nat} (h:bs.length<=k):bt bs k=0:=by
 unfold bt
 rw [zD,List.getElem?_eq_none h]
 rfl
theorem e1m (bs:List Nat) (b k:Nat):bt (bs++[b]) k=if k<bs.length then bt bs k else if k=bs.length then b else 0:=by
 by_cases h:k<bs.length
 ·rw [if_pos h]
  unfold bt
  rw [zD,zD,List.getElem?_append_left h]
 ·rw [if_neg h]
  by_cases h2:k=bs.length
  ·rw [if_pos h2,h2]
   unfold bt
   rw [zD,zS (zQ _)]
   simp
  ·rw [if_neg h2]
   exact b1h (by simp;omega)
theorem c0e {bs:List Nat} {b i:Nat} (h:8*i+8<=bs.length):a3k (bs++[b]) i=a3k bs i:=by
 unfold a3k
 simp only [e1m]
 rw [if_pos (by omega),if_pos (by omega),if_pos (by omega),if_pos (by omega),if_pos (by omega),if_pos (by omega),if_pos (by omega),if_pos (by omega)]
theorem c0f {bs:List Nat} {b i r:Nat} (hl:bs.length=8*i+r) (hr:r<8):a3k (bs++[b]) i=a3k bs i+b*2^(7-r):=by
 have z:∀ j,r<=j->bt bs (8*i+j)=0:=fun j hj=>b1h (by omega)
 have s:∀ j,bt (bs++[b]) (8*i+j)=if j<r then bt bs (8*i+j) else if j=r then b else 0:=fun j=>by
  rw [e1m,hl]
  by_cases h1:j<r
  ·rw [if_pos h1,if_pos (by omega)]
  ·rw [if_neg h1,if_neg (by omega)]
   by_cases h2:j=r
   ·rw [if_pos h2,if_pos (by omega)]
   ·rw [if_neg h2,if_neg (by omega)]
 have s0:=s 0
 have z0:=z 0
 simp only [Nat.add_zero] at s0 z0
 unfold a3k
 rw [s0,s 1,s 2,s 3,s 4,s 5,s 6,s 7]
 have z1:=z 1
 have z2:=z 2
 have z3:=z 3
 have z4:=z 4
 have z5:=z 5
 have z6:=z 6
 have z7:=z 7
 clear s0 s z hl
 obtain rfl | rfl | rfl | rfl | rfl | rfl | rfl | rfl:r=0\/r=1\/r=2\/r=3\/r=4\/r=5\/r=6\/r=7:=by omega
 all_goals
  simp at *
  omega
theorem c4v {bs:List Nat} {i r:Nat} (hl:bs.length=8*i+r) (hr:r<8):a3k bs i%2^(8-r)=0:=by
 have z:∀ j,r<=j->bt bs (8*i+j)=0:=fun j hj=>b1h (by omega)
 have z0:=z 0
 simp only [Nat.add_zero] at z0
 have z1:=z 1
 have z2:=z 2
 have z3:=z 3
 have z4:=z 4
 have z5:=z 5
 have z6:=z 6
 have z7:=z 7
 unfold a3k
 clear z hl
 obtain rfl | rfl | rfl | rfl | rfl | rfl | rfl | rfl:r=0\/r=1\/r=2\/r=3\/r=4\/r=5\/r=6\/r=7:=by omega
 all_goals
  simp at *
  omega
theorem c9p {bs:List Nat} (h:∀ b∈bs,b<2) (i:Nat):a3k bs i<256:=by
 have s:∀ k,bt bs k<=1:=fun k=>by
  unfold bt
  rw [zD]
  cases e:bs[k]? with
  | none=>simp
  | some v=>have := h v (List.mem_of_getElem? e);simp;omega
 unfold a3k
 have:=s (8*i)
 have:=s (8*i+1)
 have:=s (8*i+2)
 have:=s (8*i+3)
 have:=s (8*i+4)
 have:=s (8*i+5)
 have:=s (8*i+6)
 have:=s (8*i+7)
 omega
theorem d9y {bs:List Nat} {b:Nat} (h:bs.length%8=0):a1n (bs++[b])=a1n bs++[b*128]:=by
 obtain ⟨i,hi⟩:∃ i,bs.length=8*i+0:=⟨bs.length / 8,by omega⟩
 unfold a1n
 have e1:((bs++[b]).length+7) / 8=i+1:=by simp;omega
 have e2:(bs.length+7) / 8=i:=by omega
 rw [e1,e2,List.range_succ,zM]
 congr 1
 ·refine List.map_congr_left fun k hk=>c0e ?_
  have:=List.mem_range.1 hk
  omega
 ·have h0:=c4v hi (by omega)
  have hz:a3k bs i=0:=by
   unfold a3k
   rw [b1h (by omega),b1h (by omega),b1h (by omega),b1h (by omega),b1h (by omega),b1h (by omega),b1h (by omega),b1h (by omega)]
  simp [c0f hi (by omega),hz]
theorem e4l {bs:List Nat} {b:Nat} (h:bs.length%8≠0) :
  a1n (bs++[b])=(a1n bs).set (bs.length / 8) (a3k bs (bs.length / 8)+b*2^(7-bs.length%8)):=by
 have hl:bs.length=8*(bs.length / 8)+bs.length%8:=by omega
 have e1:((bs++[b]).length+7) / 8=bs.length / 8+1:=by simp;omega
 have e2:(bs.length+7) / 8=bs.length / 8+1:=by omega
 have h1:=c0f (b:=b) hl (by omega)
 unfold a1n
 rw [e1,e2,List.range_succ,zM,zM,List.set_append_right _ _ (by simp)]
 congr 1
 ·refine List.map_congr_left fun k hk=>c0e ?_
  have:=List.mem_range.1 hk
  omega
 ·simp [h1]
theorem f3y {x y k:Nat} (h:x%2^k=0) (hy:y<2^k):x ||| y=x+y:=by
 obtain ⟨q,rfl⟩:=Nat.dvd_of_mod_eq_zero h
 exact (Nat.two_pow_add_eq_or_of_lt hy q).symm
theorem f3x {bs:List Nat} {i r b:Nat} (hl:bs.length=8*i+r) (hr:r<8) (hb:b<2):a3k bs i ||| (b*2^(7-r))=a3k bs i+b*2^(7-r):=by
 refine f3y (c4v hl hr) ?_
 have e:8-r=(7-r)+1:=by omega
 have hp:0<2^(7-r):=Nat.two_pow_pos _
 rw [e,Nat.pow_succ]
 generalize 2^(7-r)=p at *
 obtain rfl | rfl:b=0\/b=1:=by omega
 all_goals omega
def a0b (v:Nat):Nat->List Nat
 | 0=>[]
 | n+1=>(v / 2^n%2)::a0b v n
theorem a0a (v:Nat):∀ n,(a0b v n).length=n
 | 0=>rfl
 | n+1=>by rw [a0b,zK,a0a v n]
def a0k (v:Int) (d:Nat):Int:=v%2^d
def a1b (v:Int) (d:Nat):Int:=if 2^(d-1)<=a0k v d then a0k v d-2^d else a0k v d
theorem a0i (d:Nat):(0:Int)<2^d:=Int.pow_pos (by decide)
theorem a6w {d:Nat} (hd:1<=d):(2:Int)^d=2*2^(d-1):=by
 obtain ⟨e,rfl⟩:∃ e,d=e+1:=⟨d-1,by omega⟩
 rw [Nat.add_sub_cancel,Int.pow_succ];omega
theorem a1j (v:Int) (d:Nat):0<=a0k v d:=Int.emod_nonneg _ (by have:=a0i d;omega)
theorem a1i (v:Int) (d:Nat):a0k v d<2^d:=Int.emod_lt_of_pos _ (a0i d)
theorem b0u {v:Int} {d:Nat} (h0:0<=v) (h1:v<2^d):a0k v d=v:=Int.emod_eq_of_lt h0 h1
theorem a2s (v:Int) {d:Nat} (hd:1<=d) : -2^(d-1)<=a1b v d/\a1b v d<2^(d-1):=by
 have h0:=a1j v d
 have h1:=a1i v d
 have h2:=a6w hd
 unfold a1b
 generalize a0k v d=u at *
 generalize (2:Int)^(d-1)=p at *
 generalize (2:Int)^d=q at *
 split<;>omega
theorem b2s (v:Int) (d:Nat):a0k (a1b v d) d=a0k v d:=by
 unfold a1b
 split
 ·unfold a0k
  rw [<-Int.emod_add_mul_ediv (v%2^d-2^d) (2^d)]
  have:(v%2^d-2^d)%2^d=v%2^d:=by
   rw [Int.sub_emod,Int.emod_self,Int.emod_emod]
   simp
  rw [Int.emod_add_mul_ediv,this]
 ·unfold a0k
  rw [Int.emod_emod]
theorem d5v {v:Int} {d:Nat} (hd:1<=d) (h0 : -2^(d-1)<=v) (h1:v<2^(d-1)):a1b v d=v:=by
 have h2:=a6w hd
 by_cases hv:0<=v
 ·unfold a1b
  rw [b0u hv (by omega),if_neg (by omega)]
 ·have e:a0k v d=v+2^d:=by
   unfold a0k
   rw [<-Int.add_emod_right]
   exact Int.emod_eq_of_lt (by omega) (by omega)
  unfold a1b
  rw [e,if_pos (by omega)]
  omega
theorem a3b (a b:Int) (d:Nat):a0k (a+a0k b d) d=a0k (a+b) d:=by
 unfold a0k
 rw [Int.add_emod,Int.emod_emod,<-Int.add_emod]
theorem c3a {s g:Int} {d:Nat} (h0:0<=s) (h1:s<2^d):a0k (g+a1b (s-g) d) d=s:=by
 rw [<-a3b,b2s,a3b]
 have:g+(s-g)=s:=by omega
 rw [this]
 exact b0u h0 h1
theorem d4x {s g:Int} {d:Nat} (h0:0<=s) (h1:s<2^d):a0k (a0k (s-g) d+g) d=s:=by
 rw [Int.add_comm,a3b]
 have:g+(s-g)=s:=by omega
 rw [this]
 exact b0u h0 h1
theorem c4l (v:Int) (d:Nat):a0k (-a1b v d) d=a0k (-v) d:=by
 have h:=b2s v d
 unfold a0k at *
 rw [Int.neg_emod_eq_sub_emod,Int.neg_emod_eq_sub_emod (a:=v)]
 rw [Int.sub_emod,h,<-Int.sub_emod]
theorem c8r {s g:Int} {d:Nat} (h0:0<=s) (h1:s<2^d):a0k (g + -a1b (-a1b (s-g) d) d) d=s:=by
 rw [<-a3b,c4l,Int.neg_neg,b2s,a3b]
 have:g+(s-g)=s:=by omega
 rw [this]
 exact b0u h0 h1
def a8f (x:Int):Nat:=if 0<=x then (2*x).toNat else (-2*x-1).toNat
def a1l (u:Nat):Int:=if u%2=0 then (u / 2:Nat) else -((u / 2:Nat):Int)-1
theorem b6h (x:Int):a1l (a8f x)=x:=by
 unfold a8f a1l
 split<;>split<;>omega
theorem c8g (u:Nat):a8f (a1l u)=u:=by
 unfold a8f a1l
 split<;>split<;>omega
def a2e (x:Int):Prop:=-1073741824<=x/\x<1073741824
theorem c8f {x:Int} (h:a2e x):a8f x<2147483648:=by
 unfold a2e at h
 unfold a8f
 split<;>omega
def c4e (k:Nat) (x:Int):Nat:=if a8f x / 2^k<32 then a8f x / 2^k+1+k else 65
def a4d (k:Nat) (x:Int):List Nat :=
 if a8f x / 2^k<32 then List.replicate (a8f x / 2^k) 0++1::a0b (a8f x%2^k) k
 else List.replicate 32 0++1::a0b (a8f x) 32
theorem a5x (k:Nat) (x:Int):(a4d k x).length=c4e k x:=by
 unfold a4d c4e
 split
 ·simp [a0a];omega
 ·simp [a0a]
theorem a6j (k:Nat) (x:Int) (hk:k<=25):c4e k x<=65:=by unfold c4e;split<;>omega
def b9c (k:Nat) (l:List Int):Nat:=(l.map (c4e k)).sum
def a0r (k:Nat) (l:List Int):List Nat:=l.flatMap (a4d k)
theorem d1q (k:Nat) (l:List Int):(a0r k l).length=b9c k l:=by
 induction l with
 | nil=>rfl
 | cons x l ih=>simp only [a0r,b9c,List.flatMap_cons,zC,List.map_cons,List.sum_cons,a5x] at *; omega
theorem e5l (k:Nat) (l:List Int) (hk:k<=25):b9c k l<=65*l.length:=by
 induction l with
 | nil=>simp [b9c]
 | cons x l ih=>have := a6j k x hk;simp only [b9c,List.map_cons,List.sum_cons,zK] at *; omega
def a5o (l:List Int):Nat->Nat
 | 0=>0
 | n+1=>if b9c (n+1) l<b9c (a5o l n) l then n+1 else a5o l n
def a6u (l:List Int):Nat:=a5o l 25
theorem c0a (l:List Int):∀ n,a5o l n<=n
 | 0=>zQ _
 | n+1=>by
  have:=c0a l n
  unfold a5o
  split<;>omega
theorem a8p (l:List Int):a6u l<=25:=c0a l 25
def a1u (d:Nat) (l:List Int):Prop:=∀ s∈l,0<=s/\s<2^d
structure Nbr where
 w:Int
 n:Int
 nw:Int
 ne:Int
def nbr (l:List Int) (w x y:Nat):Nbr :=
  if y=0 then (if x=0 then ⟨0,0,0,0⟩ else ⟨l.getD (y*w+x-1) 0,l.getD (y*w+x-1) 0,l.getD (y*w+x-1) 0,l.getD (y*w+x-1) 0⟩)
  else ⟨if 0 < x then l.getD (y * w + x - 1) 0 else l.getD (y * w + x - w) 0, l.getD (y * w + x - w) 0,
        if 0<x then l.getD (y*w+x-w-1) 0 else l.getD (y*w+x-w) 0,if x<w-1 then l.getD (y*w+x-w+1) 0 else l.getD (y*w+x-w) 0⟩
theorem c5g {y w:Nat} (hy:y≠0):w<=y*w:=Nat.le_mul_of_pos_left w (by omega)
theorem e3z {l l':List Int} {w x y:Nat} (hx:x<w) (h:∀ i,i<y*w+x->l.getD i 0=l'.getD i 0):nbr l w x y=nbr l' w x y:=by
 unfold nbr
 by_cases hy:y=0
 ·rw [if_pos hy,if_pos hy]
  by_cases hx0:x=0
  ·rw [if_pos hx0,if_pos hx0]
  ·rw [if_neg hx0,if_neg hx0,h _ (by omega)]
 ·have hw:=c5g (w:=w) hy
  rw [if_neg hy,if_neg hy,h (y*w+x-w) (by omega)]
  congr 1
  ·by_cases hx0:0<x
   ·rw [if_pos hx0,if_pos hx0,h _ (by omega)]
   ·rw [if_neg hx0,if_neg hx0]
  ·by_cases hx0:0<x
   ·rw [if_pos hx0,if_pos hx0,h _ (by omega)]
   ·rw [if_neg hx0,if_neg hx0]
  ·by_cases hx0:x<w-1
   ·rw [if_pos hx0,if_pos hx0,h _ (by omega)]
   ·rw [if_neg hx0,if_neg hx0]
structure d7y (d:Nat) (g:Nbr):Prop where
 w:0<=g.w/\g.w<2^d
 n:0<=g.n/\g.n<2^d
 nw:0<=g.nw/\g.nw<2^d
 ne:0<=g.ne/\g.ne<2^d
theorem a5d {d:Nat} {l:List Int} (h:a1u d l) (i:Nat):0<=l.getD i 0/\l.getD i 0<2^d:=by
 have hp:=a0i d
 rw [zD]
 cases e:l[i]? with
 | none=>simp [hp]
 | some v=>exact h v (List.mem_of_getElem? e)
theorem b5s {d:Nat} {l:List Int} (h:a1u d l) (w x y:Nat):d7y d (nbr l w x y):=by
 have hp:=a0i d
 unfold nbr
 split
 ·split
  ·exact ⟨⟨Int.le_refl _,hp⟩,⟨Int.le_refl _,hp⟩,⟨Int.le_refl _,hp⟩,⟨Int.le_refl _,hp⟩⟩
  ·exact ⟨a5d h _,a5d h _,a5d h _,a5d h _⟩
 ·refine ⟨?_,a5d h _,?_,?_⟩
  all_goals
   simp only
   split
   all_goals exact a5d h _
def a8j (a b:Int):Int:=if a<b then b-a else a-b
def b5u (t a b c:Int):Int :=
 if a8j c t<a8j (if a8j b t<a8j a t then b else a) t then c else if a8j b t<a8j a t then b else a
def a3d (kind:Nat) (g:Nbr) (d:Nat):Int :=
 match kind with
 | 1=>g.w
 | 2=>g.n
 | 3=>g.nw
 | 4=>g.ne
 | 5=>(g.w+g.n) / 2
 | 6=>b5u (g.w+g.n-g.nw) g.w g.n g.nw
 | 7=>max (min g.w g.n) (min (max g.w g.n) (g.w+g.n-g.nw))
 | 8=>min (max (g.w+g.n-g.nw) 0) (2^d-1)
 | 9=>(g.w+g.n+g.nw+g.ne+2) / 4
 | _=>0
theorem a9p {d:Nat} {g:Nbr} (h:d7y d g) (kind:Nat):0<=a3d kind g d/\a3d kind g d<2^d:=by
  obtain ⟨⟨a1,a2⟩,⟨b1,b2⟩,⟨c1,c2⟩,⟨e1,e2⟩⟩:=h
  have hp:=a0i d
  unfold a3d b5u
  generalize (2:Int)^d=p at *
  split
  all_goals first
    | omega
    | (split
       · omega
       · split<;>omega)
theorem e1i (v:Int) {i:Nat} (hi:i<=62):bits .and .i64 v (2^i-1)=v%2^i:=by
 have ab:0<2^i:=Nat.two_pow_pos i
 have ac:2^i<=2^62:=Nat.pow_le_pow_right (by decide) hi
 have hc:((2:Int)^i-1)=((2^i-1:Nat):Int):=by rw [Int.natCast_sub ab];simp
 have aa:((2:Int)^i)∣2^64:=by
  obtain ⟨j,hj⟩:∃ j,64=i+j:=⟨64-i,by omega⟩
  rw [hj,Int.pow_add]
  exact Int.dvd_mul_right _ _
 have h0:0<=v%2^64:=Int.emod_nonneg _ (by decide)
 have e1:(BitVec.ofInt 64 v).toNat=(v%2^64).toNat:=by simp [BitVec.toNat_ofInt]
 have e2:(BitVec.ofInt 64 ((2^i-1:Nat):Int)).toNat=2^i-1:=by
  rw [BitVec.ofInt_natCast,BitVec.toNat_ofNat]
  exact Nat.mod_eq_of_lt (by omega)
 have e3:(BitVec.ofInt 64 v &&& BitVec.ofInt 64 ((2^i-1:Nat):Int)).toNat=(v%2^64).toNat%2^i:=by
  rw [BitVec.toNat_and,e1,e2,Nat.and_two_pow_sub_one_eq_mod]
 have e4:(((v%2^64).toNat%2^i:Nat):Int)=v%2^i:=by
  rw [Int.natCast_emod,Int.toNat_of_nonneg h0]
  simp only [Int.natCast_pow]
  exact Int.emod_emod_of_dvd v aa
 have e5:bits .and .i64 v ((2^i-1:Nat):Int)=IntKind.i64.wrap (((BitVec.ofInt 64 v &&& BitVec.ofInt 64 ((2^i-1:Nat):Int)).toNat:Nat):Int):=rfl
 rw [hc,e5,e3,e4]
 have h1:0<=v%2^i:=Int.emod_nonneg _ (by have:=a0i i;omega)
 have h2:v%2^i<2^i:=Int.emod_lt_of_pos _ (a0i i)
 have h3:(2:Int)^i<=2^62:=by exact_mod_cast ac
 exact IntWalk.i64_in _ (by omega)
theorem b9z {v:Int} {i:Nat} (h0:0<=v) (h1:v<18446744073709551616) (hi:i<=64):bits .and .u64 v (2^i-1)=v%2^i :=
 bits_mask .u64 64 (by decide) (fun n a b=>IntWalk.u64_in _ (by omega)) i hi v h0 (by omega)
theorem f0o {x y:Nat} (hx:x<256) (hy:y<256):bits .or .u8 (x:Int) (y:Int)=((x ||| y:Nat):Int) :=
 (bits_nat .u8 8 (by decide) wraps_u8 x y hx hy).2
theorem c0d {v b:Nat} (hv:v<9223372036854775808) (hb:b<2):bits .or .u64 ((2*v:Nat):Int) (b:Int)=((2*v+b:Nat):Int):=by
 rw [bits_join .u64 64 (by decide) (fun n a b=>IntWalk.u64_in _ (by omega)) 1 _ _ (by omega) (by omega) (by omega) (by omega) (by omega) (by omega)]
 omega
theorem d2t {v:Nat} (hv:v<256):bits .and .u8 (v:Int) 1=((v%2:Nat):Int):=by
 have:=bits_mask .u8 8 (by decide) wraps_u8 1 (by decide) (v:Int) (by omega) (by omega)
 simpa using this
theorem c9i {v:Nat} (hv:v<18446744073709551616):bits .and .u64 (v:Int) 1=((v%2:Nat):Int):=by
 have:=bits_mask .u64 64 (by decide) (fun n a b=>IntWalk.u64_in _ (by omega)) 1 (by decide) (v:Int) (by omega) (by omega)
 simpa using this
section
variable {P:Program}
theorem c2o {w:World} {t ty e:TypeId} {z:Value} {bytes:Nat} (E:b6m P t e z 1 bytes) {v:Value} {F:List Nat} {xs:List Value} (hown:Own w e v F xs) (c:Nat) :
  (Builtin.append_ #[t,t] ty #[v,.slice none 0 c]).run P w=.ok v w:=by
 obtain ⟨i,hi,hz,aa,ad⟩:=E.hi
 rcases hown.own.2 with ⟨rfl,hn⟩ | ⟨g,ae,ac,rfl,_,_,ab,_⟩
 ·simp [Builtin.append_,run_underlying E.ht,sizeOf,typeInfo,hi,Builtin.lenOf,Builtin.firstCells]
 ·simp [Builtin.append_,run_underlying E.ht,sizeOf,typeInfo,hi,Builtin.lenOf,Builtin.firstCells,ab,storeCells]
theorem d1t {w:World} {t ty e:TypeId} {z:Value} {bytes:Nat} (E:b6m P t e z 1 bytes) (hzs:z.cells.size=1)
  {v:Value} {F:List Nat} {xs:List Value} (hown:Own w e v F xs) {A:Option Addr} {c:Nat} (news:List Value) (hn:a0d (fun u=>u) w A news)
  (h1:∀ u∈news,u.oneCell'=true) (h63:xs.length+news.length<=9223372036854775807) (hbytes:(xs.length+news.length)*bytes<=140737488355328) :
  ∃ v' F' w',(Builtin.append_ #[t,t] ty #[v,.slice A news.length c]).run P w=.ok v' w'/\Own w' e v' F' (xs++news)/\a0u F F' w w':=by
 rcases A with _ | ad
 ·have h0:news=[]:=by
   rcases Nat.eq_zero_or_pos news.length with h0 | h0
   ·exact List.eq_nil_of_length_eq_zero h0
   ·obtain ⟨_,_,h,_⟩:=hn.ex h0
    cases h
  subst h0
  exact ⟨v,F,w,c2o E hown c,by simpa using hown,a0u.refl _ _⟩
 ·have aa:∀ j u,news[j]?=some u->w.cell? (ad.add j)=some u:=fun j u hj=>by
   obtain ⟨b,o,e,hb,hc⟩:=hn.ex (by have:=(List.getElem?_eq_some_iff.1 hj).1;omega)
   injection e with e
   subst e
   rw [<-hc j u hj]
   unfold Addr.add
   split
   ·rename_i h;subst h;rfl
   ·rfl
  obtain ⟨i,hi,hz,ab,ac⟩:=E.hi
  obtain ⟨v',w',hr,h2,h3,h4,h5⟩:=run_append_own_at (P:=P) w 0 t ty e i z 1 bytes E.ht hi hz ab ac hzs (by decide) v xs.length xs hown.own ad news.length c news (by simp) aa h1 (by simpa [maxLen] using h63) hbytes (Nat.zero_le _)
  refine ⟨v',v'.ownBlock.toList,w',hr,⟨by simpa using h2,rfl⟩,?_,fun x hx => ?_⟩
  ·rw [hown.fp]
   exact Chg.of_grown h3 (by intro k hk;left;simp [hk])
  ·rcases h5 with h5 | h5
   ·left;rw [hown.fp,<-h5];exact hx
   ·right;rw [h5] at hx;simp at hx;omega
theorem a1m {w:World} {ops:Array Oper} {rest:List Oper} {o:Oper} {a:Act} {Q:Exit->Act->World->Prop} (hgd:o.guard=none) {s x:Operand} {t:TypeId}
  (ho:o.op=.call { callee:=.builtin .append,args:=#[s,x],argTypes:=#[t,t] })
  {e:TypeId} {z:Value} {bytes:Nat} (E:b6m P t e z 1 bytes) (hzs:z.cells.size=1)
  {v:Value} {F:List Nat} {xs:List Value} (hs:a.eval s=v) (hown:Own w e v F xs) {A:Option Addr} {c:Nat} (news:List Value) (n:Nat) (hx:a.eval x=.slice A n c) (hnl:n=news.length) (hn:a0d (fun u=>u) w A news)
  (h1:∀ u∈news,u.oneCell'=true) (h63:xs.length+news.length<=9223372036854775807) (hbytes:(xs.length+news.length)*bytes<=140737488355328)
  (h:∀ v' F' w',Own w' e v' F' (xs++news)->a0u F F' w w'->wpList P ops Q rest (a.put o.dst v') w'):wpList P ops Q (o::rest) a w:=by
 subst hnl
 refine wpList_plain hgd fun K hK => ?_
 obtain ⟨v',F',w',aa,h2,h3⟩:=d1t (P:=P) (ty:=o.type) E hzs hown (c:=c) news hn h1 h63 hbytes
 unfold Oper.wp execOp
 simp only [ho,resolve,invoke,builtin,Sem.run_bind,Sem.run_pure,Result.andThen_ok,List.map_toArray,List.map_cons,List.map_nil,hs,hx,aa]
 exact hK _ _ (h v' F' w' h2 h3)
end
theorem c6u {P:Program} {t e:TypeId} (ht:P.underlying t=some (.slice e)):P.elem t=e:=by simp [Program.elem,ht]
theorem a9z {P:Program} {t e:TypeId} (ht:P.underlying t=some (.slice e)) (hs:∀ w,(sizeOf e).run P w=.ok 1 w) (A:Option Addr) (n c lo:Nat) (h:lo<=n) (hnc:n<=c) :
  ∃ A',(∀ w,(Instr.slice t (.slice A n c) (some (.int .i64 lo)) none none).run P w=.ok (.slice A' (n-lo) (c-lo)) w) /\
   (∀ ad,A'=some ad->∃ ad0,A=some ad0/\ad.block=ad0.block) /\
   ∀ (α:Type) (f:α->Value) (w:World) (l:List α),l.length=n->a0d f w A l->a0d f w A' (l.drop lo):=by
 have he:=c6u ht
 refine ⟨if c=lo then A else A.map (·.add (lo*1)),fun w => ?_,?_,?_⟩
 ·rw [run_slice_l (P:=P) (w:=w) t A n c (by rw [he];exact ht) .i64 (lo:Int) (by omega) (by omega),he,hs]
  simp [sliced]
 ·intro ad ab
  split at ab
  ·exact ⟨ad,ab,rfl⟩
  ·cases A with
   | none=>simp at ab
   | some ad0 =>
    simp at ab
    subst ab
    refine ⟨ad0,rfl,?_⟩
    unfold Addr.add
    split<;>rfl
 ·intro α f w l hl hc
  refine ⟨fun h0 => ?_⟩
  rw [zO] at h0
  obtain ⟨b,o,rfl,hb,aa⟩:=hc.ex (by omega)
  rw [if_neg (by omega)]
  refine ⟨b,o+lo,?_,hb,fun i a ha => ?_⟩
  ·simp only [Option.map_some,Addr.add,Nat.mul_one]
   split
   ·rename_i h;subst h;rfl
   ·rfl
  ·rw [List.getElem?_drop] at ha
   have:=aa (lo+i) a ha
   rwa [<-Nat.add_assoc] at this
theorem a0d.take {α:Type} {f:α->Value} {w:World} {A:Option Addr} {l:List α} (h:a0d f w A l) (n:Nat):a0d f w A (l.take n) :=
 ⟨fun h0=>by
  rw [zI] at h0
  obtain ⟨b,o,e,hb,hc⟩:=h.ex (by omega)
  refine ⟨b,o,e,hb,fun i a ha=>hc i a ?_⟩
  rw [List.getElem?_take] at ha
  split at ha
  ·exact ha
  ·cases ha⟩
def b3o (l:List Int) (W d kind y x:Nat):Int:=a0k (l.getD (y*W+x) 0-a3d kind (nbr l W x y) d) d
def c4f (l:List Int) (W y d kind:Nat):List Int:=(List.range W).map (b3o l W d kind y)
theorem b6a (l:List Int) (W y d kind:Nat):(c4f l W y d kind).length=W:=by simp [c4f]
theorem f2l (l:List Int) (W y d kind:Nat):a1u d (c4f l W y d kind):=by
 intro s hs
 obtain ⟨x,_,rfl⟩:=List.mem_map.1 hs
 exact ⟨a1j _ _,a1i _ _⟩
def b1f (d:Nat) (v:Int):Int:=a8j (a1b v d) 0
theorem c4n {d:Nat} (h:1<=d) (hd:d<=16) (v:Int):0<=b1f d v/\b1f d v<=32768:=by
 obtain ⟨h1,h2⟩:=a2s v h
 have h3:(2:Int)^(d-1)<=2^15:=by
  have:=Nat.pow_le_pow_right (n:=2) (by decide) (show d-1<=15 by omega)
  exact_mod_cast this
 unfold b1f a8j
 split<;>omega
def a3i (l:List Int) (d:Nat):Int:=(l.map (b1f d)).sum
theorem d2d (l:List Int) (x:Int) (d:Nat):a3i (l++[x]) d=a3i l d+b1f d x:=by simp [a3i]
theorem e0u {d:Nat} (h:1<=d) (hd:d<=16) (l:List Int):0<=a3i l d/\a3i l d<=32768*l.length:=by
 induction l with
 | nil=>simp [a3i]
 | cons x l ih =>
  have:=c4n h hd x
  have e:a3i (x::l) d=b1f d x+a3i l d:=by simp [a3i]
  rw [e,zK]
  omega
def b0w (l:List Int) (W y d:Nat):Nat->Nat
 | 0=>0
 | n+1=>if a3i (c4f l W y d (n+1)) d<a3i (c4f l W y d (b0w l W y d n)) d then n+1 else b0w l W y d n
theorem c0b (l:List Int) (W y d:Nat):∀ n,b0w l W y d n<=n
 | 0=>zQ _
 | n+1=>by
  have:=c0b l W y d n
  unfold b0w
  split<;>omega
def a0s (l:List Int) (W H d:Nat):List Nat:=(List.range H).map (fun y=>b0w l W y d 9)
theorem a4m (l:List Int) (W H d:Nat):(a0s l W H d).length=H:=by simp [a0s]
theorem a8l (l:List Int) (W H d:Nat):∀ k∈a0s l W H d,k<10:=by
 intro k hk
 obtain ⟨y,_,rfl⟩:=List.mem_map.1 hk
 have:=c0b l W y d 9
 omega
def b3y (l:List Int) (W H d:Nat) (ks:List Nat):List Int:=(List.range H).flatMap (fun y=>c4f l W y d (ks.getD y 0))
theorem a9n {α β:Type} (f:α->List β) (n:Nat) (l:List α) (h:∀ a∈l,(f a).length=n):(l.flatMap f).length=n*l.length:=by
 induction l with
 | nil=>simp
 | cons a l ih =>
  rw [List.flatMap_cons,zC,h a (by simp),ih fun b hb=>h b (by simp [hb]),zK,Nat.mul_add]
  omega
theorem c0v (l:List Int) (W H d:Nat) (ks:List Nat):(b3y l W H d ks).length=W*H:=by
 unfold b3y
 rw [a9n _ W _ fun y _=>b6a _ _ _ _ _,List.length_range]
theorem d5w (l:List Int) (W H d:Nat) (ks:List Nat):a1u d (b3y l W H d ks):=by
 intro s hs
 obtain ⟨y,_,hy⟩:=List.mem_flatMap.1 hs
 exact f2l _ _ _ _ _ s hy
def a1a (done:List Int) (n:Nat):List Int:=done++List.replicate (n-done.length) 0
theorem a4g {done:List Int} {n:Nat} (h:done.length<=n):(a1a done n).length=n:=by simp [a1a];omega
theorem b5g {done:List Int} {n:Nat} (h:done.length<n) (v:Int):(a1a done n).set done.length v=a1a (done++[v]) n:=by
 unfold a1a
 obtain ⟨k,hk⟩:∃ k,n-done.length=k+1:=⟨n-done.length-1,by omega⟩
 have aa:n-(done++[v]).length=k:=by simp;omega
 rw [hk,aa,List.set_append_right _ _ (zQ _),Nat.sub_self]
 simp [List.replicate_succ]
theorem a7l {done:List Int} {n:Nat} (h:done.length=n):a1a done n=done:=by simp [a1a,h]
theorem e2i (n:Nat):a1a [] n=List.replicate n 0:=by simp [a1a]
def zr:Nat->List Nat->Nat
 | 0,_=>0
 | _+1,[]=>0
 | m+1,x::l=>if x=0 then zr m l+1 else 0
theorem f4s (m:Nat):∀ l,zr m l<=m:=by
 induction m with
 | zero=>intro l;simp [zr]
 | succ m ih =>
  intro l
  cases l with
  | nil=>simp [zr]
  | cons x l =>
   unfold zr
   split
   ·have:=ih l;omega
   ·omega
theorem d2j (m:Nat):∀ l,zr m l<=l.length:=by
 induction m with
 | zero=>intro l;simp [zr]
 | succ m ih =>
  intro l
  cases l with
  | nil=>simp [zr]
  | cons x l =>
   unfold zr
   split
   ·have:=ih l;simp;omega
   ·simp
theorem e6n (m:Nat):∀ (l:List Nat) (z:Nat),z<zr m l->l.getD z 0=0:=by
 induction m with
 | zero=>intro l z h;simp [zr] at h
 | succ m ih =>
  intro l z h
  cases l with
  | nil=>simp
  | cons x l =>
   unfold zr at h
   split at h
   ·rename_i hx
    cases z with
    | zero=>simpa using hx
    | succ z =>
     have:=ih l z (by omega)
     simpa using this
   ·omega
theorem f3d (m:Nat):∀ (l:List Nat),zr m l=m\/zr m l=l.length\/l.getD (zr m l) 0≠0:=by
 induction m with
 | zero=>intro l;left;simp [zr]
 | succ m ih =>
  intro l
  cases l with
  | nil=>right;left;simp [zr]
  | cons x l =>
   unfold zr
   split
   ·rcases ih l with h | h | h
    ·left;omega
    ·right;left;simp;omega
    ·right;right;simpa using h
   ·rename_i hx
    right;right;simpa using hx
def a4b:Nat->List Nat->List Nat
 | 0,_=>[]
 | _+1,[]=>[]
 | f+1,x::l =>
  if zr 66 (x::l)<3 then a0b x 5++a4b f l else a0b 31 5++(a0b (zr 66 (x::l)-3) 6++a4b f ((x::l).drop (zr 66 (x::l))))
def a3u (lens:List Nat):List Nat:=a0b (lens.length-1) 10++a4b lens.length lens
theorem b4x:∀ (f g:Nat) (l:List Nat),l.length<=f->l.length<=g->a4b f l=a4b g l
 | 0,g,l,h,_=>by
  obtain rfl:l=[]:=List.eq_nil_of_length_eq_zero (by omega)
  cases g<;>rfl
 | f+1,0,l,_,h=>by
  obtain rfl:l=[]:=List.eq_nil_of_length_eq_zero (by omega)
  rfl
 | f+1,g+1,[],_,_=>rfl
 | f+1,g+1,x::l,h1,h2=>by
  simp only [zK] at h1 h2
  unfold a4b
  split
  ·rw [b4x f g l (by omega) (by omega)]
  ·rw [b4x f g _ (by rw [zO,zK];omega) (by rw [zO,zK];omega)]
theorem c9n (f x:Nat) (l:List Nat):a4b (f+1) (x::l) =
  if zr 66 (x::l)<3 then a0b x 5++a4b f l else a0b 31 5++(a0b (zr 66 (x::l)-3) 6++a4b f ((x::l).drop (zr 66 (x::l)))):=rfl
def a3m (lens:List Nat) (i:Nat):List Nat:=a4b lens.length (lens.drop i)
theorem b7x (lens:List Nat):a3m lens lens.length=[]:=by
 unfold a3m
 rw [List.drop_length]
 cases lens.length<;>rfl
theorem b7y {lens:List Nat} {i:Nat} (hi:i<lens.length) (hz:zr 66 (lens.drop i)<3):a3m lens i=a0b (a0g lens i) 5++a3m lens (i+1):=by
 unfold a3m
 have e:lens.drop i=lens[i]::lens.drop (i+1):=List.drop_eq_getElem_cons hi
 rw [e] at hz ⊢
 obtain ⟨f,hf⟩:∃ f,lens.length=f+1:=⟨lens.length-1,by omega⟩
 have hl:a0g lens i=lens[i]:=by unfold a0g;rw [zD,zF hi];rfl
 rw [hl]
 rw [hf,c9n,if_pos hz,b4x f (f+1) _ (by rw [zO];omega) (by rw [zO];omega)]
theorem b4w {lens:List Nat} {i:Nat} (hi:i<lens.length) (hz:¬ zr 66 (lens.drop i)<3) :
  a3m lens i=a0b 31 5++(a0b (zr 66 (lens.drop i)-3) 6++a3m lens (i+zr 66 (lens.drop i))):=by
 unfold a3m
 have e:lens.drop i=lens[i]::lens.drop (i+1):=List.drop_eq_getElem_cons hi
 have e2:lens.drop (i+zr 66 (lens.drop i))=(lens.drop i).drop (zr 66 (lens.drop i)):=by rw [List.drop_drop]
 rw [e2]
 rw [e] at hz ⊢
 obtain ⟨f,hf⟩:∃ f,lens.length=f+1:=⟨lens.length-1,by omega⟩
 have aa:=d2j 66 (lens[i]::lens.drop (i+1))
 rw [hf,c9n,if_neg hz,b4x f (f+1) _ (by rw [zO,zK,zO];omega) (by rw [zO,zK,zO];omega)]
theorem b8q (lens:List Nat):a3u lens=a0b (lens.length-1) 10++a3m lens 0:=rfl
theorem c6i:∀ (f:Nat) (l:List Nat),(a4b f l).length<=11*l.length
 | 0,l=>by simp [a4b]
 | f+1,[]=>by simp [a4b]
 | f+1,x::l=>by
  unfold a4b
  split
  ·have:=c6i f l
   rw [zC,a0a,zK]
   omega
  ·have:=c6i f ((x::l).drop (zr 66 (x::l)))
   rw [zC,zC,a0a,a0a]
   rw [zO] at this
   have:=d2j 66 (x::l)
   omega
theorem b0s (lens:List Nat):(a3u lens).length<=10+11*lens.length:=by
 unfold a3u
 have:=c6i lens.length lens
 rw [zC,a0a]
 omega
def b2f (lens:List Nat) (s:Nat):List Nat:=a0b (a5i lens s) (a0g lens s)
def a1z (lens:List Nat) (l:List Nat):List Nat:=l.flatMap (b2f lens)
theorem c8n (lens l:List Nat) (s:Nat):a1z lens (l++[s])=a1z lens l++b2f lens s:=by simp [a1z]
structure b7t (w:World) (e:TypeId) (k:Nat) (v:Value) (F:List Nat) (n:Nat) (xs:List Value):Prop where
 own:w.ownsRow 0 e k v n xs
 fp:F=v.ownBlock.toList
section
variable {w w':World} {e:TypeId} {k n:Nat} {v:Value} {F G:List Nat} {xs:List Value}
theorem b7t.nil (w:World) (e:TypeId) (k:Nat):b7t w e k (.slice none 0 0) [] 0 []:=⟨World.ownsRow_nil _ 0 _ _,rfl⟩
theorem b7t.chg (h:b7t w e k v F n xs) (hc:Chg G w w') (hd:∀ x∈F,x∉G):b7t w' e k v F n xs :=
 ⟨e4i h.own hc fun y hy=>hd y (by rw [h.fp,hy];simp),h.fp⟩
theorem b7t.same (h:b7t w e k v F n xs) (hc:Chg [] w w'):b7t w' e k v F n xs:=h.chg hc (by simp)
theorem b7t.lt (h:b7t w e k v F n xs):∀ x∈F,x<w.heap.size:=fun x hx=>by
 rw [h.fp] at hx
 exact f0v h.own x (by simpa using hx)
theorem b7t.open_ (h:b7t w e k v F n xs):∃ (A:Option Addr) (cap:Nat),v=.slice A n cap/\n<=cap/\cap<=9223372036854775807/\a0d (fun v=>v) w A xs /\
  ∀ ad,A=some ad->∃ g,ad=⟨g,0,none⟩/\F=[g]/\∀ i,w.frozen? ⟨g,i,none⟩=false:=by
 obtain ⟨⟨hl,h2⟩,fp⟩:=h
 rcases h2 with ⟨rfl,rfl⟩ | ⟨g,cap,cur,rfl,_,hg,hn,ab,ac,aa⟩
 ·exact ⟨none,0,rfl,zQ _,by decide,⟨fun h=>by rw [hl] at h;simp at h⟩,fun ad h=>by cases h⟩
 ·have hb:Blk w g e cur:=hg
  refine ⟨some ⟨g,0,none⟩,cap,rfl,hn,by simpa [maxLen] using ab,⟨fun _=>⟨g,0,rfl,hb.lt,fun i a ha => ?_⟩⟩,fun ad h => ?_⟩
  ·rw [Nat.zero_add,hb.cell]
   have hi:i<xs.length:=(List.getElem?_eq_some_iff.1 ha).1
   rw [<-aa,List.getElem?_take,if_pos (by omega)] at ha
   simpa using ha
  ·injection h with h
   exact ⟨g,h.symm,fp,hb.frozen⟩
theorem b7t.shape (h:b7t w e k v F n xs):∃ A cap,v=.slice A n cap:=by
 obtain ⟨A,cap,h1,_⟩:=h.open_
 exact ⟨A,cap,h1⟩
end
section
variable {P:Program}
theorem b0z {w:World} {ops:Array Oper} {rest:List Oper} {o:Oper} {a:Act} {Q:Exit->Act->World->Prop} (hgd:o.guard=none) {s x:Operand} {t:TypeId}
  (ho:o.op=.call { callee:=.builtin .append,args:=#[s,x],argTypes:=#[t,t] })
  {e:TypeId} {z:Value} {k bytes:Nat} (E:b6m P t e z k bytes) (hzs:z.cells.size=k) (hk:0<k)
  {v:Value} {F:List Nat} {n:Nat} {xs:List Value} (hs:a.eval s=v) (hown:b7t w e k v F n xs) {ad:Addr} {c:Nat} (news:List Value) (hx:a.eval x=.slice (some ad) 1 c) (hl:news.length=k)
  (hnews:∀ j u,news[j]?=some u->w.cell? (ad.add j)=some u) (h1:∀ u∈news,u.oneCell'=true) (h63:n<9223372036854775807) (hbytes:(n+1)*bytes<=140737488355328)
  (h:∀ g cap w',b7t w' e k (.slice (some ⟨g,0,none⟩) (n+1) cap) [g] (n+1) (xs++news)->a0u F [g] w w'->wpList P ops Q rest (a.put o.dst (.slice (some ⟨g,0,none⟩) (n+1) cap)) w'):wpList P ops Q (o::rest) a w:=by
 refine a3v hgd ho E hzs hk hs hown.own hx (news:=news) (by omega) (by decide) hnews h1 (by omega) hbytes ?_
 intro g' cap w' h2 h3 h4
 rw [<-hown.fp] at h3
 refine h g' cap w' ⟨h2,rfl⟩ ⟨h3,fun x hx => ?_⟩
 simp at hx
 subst hx
 rcases h4 with h4 | h4
 ·left;rw [hown.fp,<-h4];simp
 ·exact .inr h4
end
def b0e (x:Int):Int:=if x<0 then -x else x
def d1y (u:Int):Int:=if u<3 then 1 else if u<7 then 2 else if u<21 then 3 else 4
def a2o (g:Int) (d:Nat):Int:=if g=0 then 0 else if g<0 then -d1y (b0e g*256 / 2^d) else d1y (b0e g*256 / 2^d)
theorem e9y (u:Int):1<=d1y u/\d1y u<=4:=by unfold d1y;split<;>(try split)<;>(try split)<;>omega
theorem a3t (g:Int) (d:Nat) : -4<=a2o g d/\a2o g d<=4:=by
 have:=e9y (b0e g*256 / 2^d)
 unfold a2o
 split
 ·omega
 ·split<;>omega
def f1i (g:Nbr) (d:Nat):Int:=81*a2o (g.ne-g.n) d+9*a2o (g.n-g.nw) d+a2o (g.nw-g.w) d
def e6o (g:Nbr) (d:Nat):Nat:=(b0e (f1i g d)).toNat
def d4w (g:Nbr) (d:Nat):Bool:=decide (f1i g d<0)
def b3h (g:Nbr) (d:Nat):Int:=b0e (a2o (g.ne-g.n) d)+b0e (a2o (g.n-g.nw) d)+b0e (a2o (g.nw-g.w) d)
theorem c0o (g:Nbr) (d:Nat):e6o g d<365:=by
 have h1:=a3t (g.ne-g.n) d
 have h2:=a3t (g.n-g.nw) d
 have h3:=a3t (g.nw-g.w) d
 unfold e6o f1i b0e
 split<;>omega
theorem c9r (g:Nbr) (d:Nat):0<=b3h g d/\b3h g d<=12:=by
 have h1:=a3t (g.ne-g.n) d
 have h2:=a3t (g.n-g.nw) d
 have h3:=a3t (g.nw-g.w) d
 unfold b3h b0e
 split<;>split<;>split<;>omega
structure a5k where
 n:Int
 a:Int
 b:Int
 c:Int
structure b4r (s:a5k):Prop where
 n0:1<=s.n
 n1:s.n<=64
 a0:0<=s.a
 a1:s.a<=32768*s.n
 b0 : -s.n<s.b
 b1:s.b<=0
 c0 : -128<=s.c
 c1:s.c<=127
def d7q (d:Nat):Int:=max 2 ((2^d+32) / 64)
def a8b (d:Nat):a5k:=⟨1,d7q d,0,0⟩
theorem d9w {d:Nat} (h:(2:Int)^d<=65536):b4r (a8b d):=by
 have:=a0i d
 refine ⟨?_,?_,?_,?_,?_,?_,?_,?_⟩<;>simp only [a8b,d7q]<;>omega
def b3i (s:a5k) (p:Int) (t:Bool) (d:Nat):Int:=min (max (p+(if t then -s.c else s.c)) 0) (2^d-1)
theorem d0m (s:a5k) (p:Int) (t:Bool) {d:Nat} (h:2<=(2:Int)^d):0<=b3i s p t d/\b3i s p t d<2^d:=by
 unfold b3i
 omega
def b8y (s:a5k):Nat->Nat->Nat
 | 0,k=>k
 | f+1,k=>if s.n*2^k<s.a then b8y s f (k+1) else k
def kOf (s:a5k):Nat:=b8y s 16 0
theorem d6i {s:a5k} (h:b4r s):∀ f k,k<=15->b8y s f k<=15
 | 0,k,hk=>hk
 | f+1,k,hk=>by
  unfold b8y
  split
  ·rename_i hc
   have:k≠15:=by
    rintro rfl
    have:=h.a1
    have e:(2:Int)^15=32768:=rfl
    rw [e] at hc
    omega
   exact d6i h f (k+1) (by omega)
  ·exact hk
theorem d6j {s:a5k} (h:b4r s):kOf s<=15:=d6i h 16 0 (by omega)
theorem d9c {s:a5k} {k:Nat} (h:¬ s.n*2^k<s.a) (f:Nat):b8y s f k=k:=by
 cases f with
 | zero=>rfl
 | succ f=>rw [b8y,if_neg h]
theorem d9b {s:a5k} {k:Nat} (h:s.n*2^k<s.a) (f:Nat):b8y s (f+1) k=b8y s f (k+1):=by rw [b8y,if_pos h]
theorem e8e {s:a5k} (hs:b4r s) {k:Nat} (h:s.n*2^k<s.a):k<15:=by
 rcases zZ k 15 with h1 | h1
 ·exact h1
 ·exfalso
  have h2:(32768:Int)<=2^k:=by
   have:=Nat.pow_le_pow_right (n:=2) (by decide) h1
   have e:(2:Int)^15<=2^k:=by exact_mod_cast this
   exact e
  have h3:=hs.a1
  have h4:=hs.n0
  have h5:s.n*32768<=s.n*2^k:=Int.mul_le_mul_of_nonneg_left h2 (by omega)
  omega
def a7v (s:a5k) (e:Int):a5k :=
 if s.n=64 then ⟨33,(s.a+b0e e) / 2,(s.b+e) / 2,s.c⟩ else ⟨s.n+1,s.a+b0e e,s.b+e,s.c⟩
def b3d (s:a5k):a5k :=
 if s.b<=-s.n then ⟨s.n,s.a,max (s.b+s.n) (1-s.n),max (s.c-1) (-128)⟩
 else if 0<s.b then ⟨s.n,s.a,min (s.b-s.n) 0,min (s.c+1) 127⟩ else s
def b3j (s:a5k) (e:Int):a5k:=b3d (a7v s e)
theorem c9x {s:a5k} (h:b4r s) {e:Int} (h0 : -32768<=e) (h1:e<32768) :
  1<=(a7v s e).n/\(a7v s e).n<=64/\0<=(a7v s e).a/\(a7v s e).a<=32768*(a7v s e).n/\-65536<=(a7v s e).b/\(a7v s e).b<=65536/\(a7v s e).c=s.c:=by
 obtain ⟨n0,n1,a0,a1,b0,b1,c0,c1⟩:=h
 have ha:0<=b0e e/\b0e e<=32768:=by unfold b0e;split<;>omega
 unfold a7v
 split
 ·refine ⟨?_,?_,?_,?_,?_,?_,rfl⟩<;>simp only<;>omega
 ·refine ⟨?_,?_,?_,?_,?_,?_,rfl⟩<;>simp only<;>omega
theorem e3h {s:a5k} (h:b4r s) {e:Int} (h0 : -32768<=e) (h1:e<32768):b4r (b3j s e):=by
 obtain ⟨m0,m1,m2,m3,m4,m5,m6⟩:=c9x h h0 h1
 have c0:=h.c0
 have c1:=h.c1
 rw [<-m6] at c0 c1
 unfold b3j
 generalize a7v s e=t at *
 unfold b3d
 split
 ·constructor<;>simp only<;>omega
 ·split
  ·constructor<;>simp only<;>omega
  ·constructor<;>omega
def c3q (s g:Int) (t:Bool) (d:Nat):Int:=if t then a1b (-a1b (s-g) d) d else a1b (s-g) d
theorem b0j (s g:Int) (t:Bool) {d:Nat} (h:1<=d) : -2^(d-1)<=c3q s g t d/\c3q s g t d<2^(d-1):=by
 unfold c3q
 split
 ·exact a2s _ h
 ·exact a2s _ h
theorem d8p {s g:Int} (t:Bool) {d:Nat} (h0:0<=s) (h1:s<2^d):a0k (g+(if t then -c3q s g t d else c3q s g t d)) d=s:=by
 unfold c3q
 cases t
 ·exact c3a h0 h1
 ·exact c8r h0 h1
def a3e (m:List a5k) (i:Nat):a5k:=m.getD i (a8b 1)
def a6b (l:List Int) (W d i:Nat):Nat:=e6o (nbr l W (i%W) (i / W)) d
def a4k (l:List Int) (W d i:Nat):Bool:=d4w (nbr l W (i%W) (i / W)) d
def a5v (m:List a5k) (l:List Int) (W d i:Nat):Int:=b3i (a3e m (a6b l W d i)) (a3d 7 (nbr l W (i%W) (i / W)) d) (a4k l W d i) d
def c0r (m:List a5k) (l:List Int) (W d i:Nat):Int:=c3q (l.getD i 0) (a5v m l W d i) (a4k l W d i) d
def b3s (m:List a5k) (l:List Int) (W d i:Nat):List Nat:=a4d (kOf (a3e m (a6b l W d i))) (c0r m l W d i)
def d4a (m:List a5k) (l:List Int) (W d i:Nat):List a5k:=m.set (a6b l W d i) (b3j (a3e m (a6b l W d i)) (c0r m l W d i))
def b9l (d:Nat):List a5k:=List.replicate 365 (a8b d)
def a4r (l:List Int) (W d:Nat):Nat->List a5k
 | 0=>b9l d
 | i+1=>d4a (a4r l W d i) l W d i
def a1c (l:List Int) (W d:Nat):Nat->List Nat
 | 0=>[]
 | i+1=>a1c l W d i++b3s (a4r l W d i) l W d i
structure a8t (m:List a5k):Prop where
 len:m.length=365
 all:∀ s∈m,b4r s
theorem a6e {m:List a5k} (h:a8t m) {i:Nat} (hi:i<365):m[i]?=some (a3e m i)/\b4r (a3e m i):=by
 have hl:i<m.length:=by rw [h.len];exact hi
 unfold a3e
 rw [zD,zF hl]
 exact ⟨rfl,h.all _ (zG hl)⟩
theorem d3z {d:Nat} (h:(2:Int)^d<=65536):a8t (b9l d) :=
 ⟨zV,fun s hs=>by rw [List.eq_of_mem_replicate hs];exact d9w h⟩
theorem a7k {d:Nat} (h1:d<=16) {e:Int} (h : -2^(d-1)<=e/\e<2^(d-1)) : -32768<=e/\e<32768:=by
 have:(2:Int)^(d-1)<=2^15:=by
  have:=Nat.pow_le_pow_right (n:=2) (by decide) (show d-1<=15 by omega)
  exact_mod_cast this
 omega
theorem e8x {m:List a5k} (h:a8t m) (l:List Int) (W:Nat) {d:Nat} (h0:1<=d) (h1:d<=16) (i:Nat):a8t (d4a m l W d i):=by
 refine ⟨by simp [d4a,h.len],fun s hs => ?_⟩
 rcases List.mem_or_eq_of_mem_set hs with hs | rfl
 ·exact h.all s hs
 ·obtain ⟨e0,e1⟩:=a7k h1 (b0j (l.getD i 0) (a5v m l W d i) (a4k l W d i) h0)
  exact e3h (a6e h (c0o _ _)).2 e0 e1
theorem b2x (l:List Int) (W:Nat) {d:Nat} (h0:1<=d) (h1:d<=16) (hp:(2:Int)^d<=65536):∀ i,a8t (a4r l W d i)
 | 0=>d3z hp
 | i+1=>e8x (b2x l W h0 h1 hp i) l W h0 h1 i
theorem b0n (l:List Int) (W:Nat) {d:Nat} (h0:1<=d) (h1:d<=16) (hp:(2:Int)^d<=65536):∀ i,(a1c l W d i).length<=65*i
 | 0=>by simp [a1c]
 | i+1=>by
  have:=b0n l W h0 h1 hp i
  have hk:=d6j (a6e (b2x l W h0 h1 hp i) (c0o (nbr l W (i%W) (i / W)) d)).2
  have:=a6j (kOf (a3e (a4r l W d i) (a6b l W d i))) (c0r (a4r l W d i) l W d i) (by unfold a6b;omega)
  rw [a1c,zC,b3s,a5x]
  omega
def a7w (x:Int) (n:Nat):Bool:=decide (1<=n)&&decide (n<=31)&&decide (-2^(n-1)<=x)&&decide (x<=2^(n-1)-1)
def a1h (x:Int):Nat->Nat->Nat
 | 0,w=>w
 | f+1,w=>if x≠0/\w<32/\a7w x w=false then a1h x f (w+1) else w
def a4w (l:List Int):Nat:=l.foldl (fun w x=>a1h x 32 w) 0
theorem d4z (l:List Int) (x:Int):a4w (l++[x])=a1h x 32 (a4w l):=by simp [a4w]
theorem a5u {m n:Nat} (h:m<=n):(2:Int)^m<=2^n:=by
 have:=Nat.pow_le_pow_right (n:=2) (by decide) h
 exact_mod_cast this
theorem e2j {x:Int} {m n:Nat} (h:a7w x m=true) (hmn:m<=n) (hn:n<=31):a7w x n=true:=by
 unfold a7w at *
 simp only [Bool.and_eq_true,decide_eq_true_eq] at *
 obtain ⟨⟨⟨h1,h2⟩,h3⟩,h4⟩:=h
 have:=a5u (show m-1<=n-1 by omega)
 exact ⟨⟨⟨by omega,hn⟩,by omega⟩,by omega⟩
theorem b5i {x:Int} (h:a2e x):a7w x 31=true:=by
 unfold a2e at h
 unfold a7w
 simp only [Bool.and_eq_true,decide_eq_true_eq]
 exact ⟨⟨⟨by decide,by decide⟩,by have:(2:Int)^(31-1)=1073741824:=rfl;omega⟩,by have:(2:Int)^(31-1)=1073741824:=rfl;omega⟩
theorem e4a (x:Int):∀ f w,w<=a1h x f w
 | 0,w=>zQ _
 | f+1,w=>by
  unfold a1h
  split
  ·exact Nat.le_trans (by omega) (e4a x f (w+1))
  ·exact zQ _
theorem c1t {x:Int} (h:a2e x):∀ f w,w<=31->a1h x f w<=31
 | 0,w,hw=>hw
 | f+1,w,hw=>by
  unfold a1h
  split
  ·rename_i hc
   have:w≠31:=fun e=>by rw [e,b5i h] at hc;simp at hc
   exact c1t h f (w+1) (by omega)
  ·exact hw
theorem d1e {x:Int} (h:a2e x):∀ f w,w<=31->32<=w+f->x=0\/a7w x (a1h x f w)=true
 | 0,w,hw,hf=>by omega
 | f+1,w,hw,hf=>by
  unfold a1h
  split
  ·rename_i hc
   have:w≠31:=fun e=>by rw [e,b5i h] at hc;simp at hc
   exact d1e h f (w+1) (by omega) (by omega)
  ·rename_i hc
   by_cases hx:x=0
   ·exact .inl hx
   ·right
    have:¬ (a7w x w=false):=fun e=>hc ⟨hx,by omega,e⟩
    simpa using this
theorem e4b {x:Int} {w:Nat} (hx:x≠0) (hw:w<32) (hf:a7w x w=false) (f:Nat):a1h x (f+1) w=a1h x f (w+1):=by
 rw [a1h,if_pos ⟨hx,hw,hf⟩]
theorem d1f {x:Int} {w f:Nat} (h:x=0\/a7w x w=true):a1h x f w=w:=by
 cases f with
 | zero=>rfl
 | succ f =>
  rw [a1h,if_neg]
  rintro ⟨h1,h2,h3⟩
  rcases h with h | h
  ·exact h1 h
  ·rw [h] at h3;cases h3
theorem b2m {l:List Int} (h:∀ x∈l,a2e x):a4w l<=31:=by
 unfold a4w
 suffices H:∀ (l:List Int) (w:Nat),(∀ x∈l,a2e x)->w<=31->l.foldl (fun w x=>a1h x 32 w) w<=31 from H l 0 h (by omega)
 intro l
 induction l with
 | nil=>intro w _ hw;exact hw
 | cons x l ih=>intro w hl hw;exact ih _ (fun y hy=>hl y (by simp [hy])) (c1t (hl x (by simp)) 32 w hw)
theorem d4y {l:List Int} (h:∀ x∈l,a2e x):∀ x∈l,x=0\/a7w x (a4w l)=true:=by
 unfold a4w
 suffices H:∀ (l:List Int) (w:Nat),(∀ x∈l,a2e x)->w<=31->(∀ x∈l,x=0\/a7w x (l.foldl (fun w x=>a1h x 32 w) w)=true)/\w<=l.foldl (fun w x=>a1h x 32 w) w from (H l 0 h (by omega)).1
 intro l
 induction l with
 | nil=>intro w _ hw;exact ⟨by simp,zQ _⟩
 | cons x l ih =>
  intro w hl hw
  have ab:∀ y∈l,a2e y:=fun y hy=>hl y (by simp [hy])
  have aa:=c1t (hl x (by simp)) 32 w hw
  obtain ⟨h1,h2⟩:=ih (a1h x 32 w) ab aa
  have ac:=e4a x 32 w
  refine ⟨fun y hy => ?_,Nat.le_trans ac h2⟩
  rcases zJ.1 hy with rfl | hy
  ·rcases d1e (hl y (by simp)) 32 w hw (by omega) with h3 | h3
   ·exact .inl h3
   ·right
    have ad:(List.foldl (fun w x=>a1h x 32 w) (a1h y 32 w) l)<=31:=by
     have:∀ (l:List Int) (w:Nat),(∀ x∈l,a2e x)->w<=31->l.foldl (fun w x=>a1h x 32 w) w<=31:=by
      intro l
      induction l with
      | nil=>intro w _ hw;exact hw
      | cons x l ih=>intro w hl hw;exact ih _ (fun y hy=>hl y (by simp [hy])) (c1t (hl x (by simp)) 32 w hw)
     exact this l _ ab aa
    exact e2j h3 h2 ad
  ·exact h1 y hy
def c1s (x:Int) (n:Nat):Nat:=(x%2^n).toNat
theorem c7j (x:Int) (n:Nat):c1s x n<2^n:=by
 have h0:=Int.emod_nonneg x (show (2:Int)^n≠0 by have:=a0i n;omega)
 have h1:=Int.emod_lt_of_pos x (a0i n)
 unfold c1s
 have:((x%2^n).toNat:Int)<((2^n:Nat):Int):=by
  rw [Int.toNat_of_nonneg h0]
  simpa using h1
 omega
theorem d1c (x:Int) (n:Nat):((c1s x n:Nat):Int)=x%2^n:=by
 unfold c1s
 exact Int.toNat_of_nonneg (Int.emod_nonneg x (by have:=a0i n;omega))
def a1q (o n warm:Nat):List Nat:=if n / 2^o*2^o=n/\warm<=n / 2^o then (n / 2^o-warm)::List.replicate (2^o-1) (n / 2^o) else []
theorem d4q {n warm:Nat} (h:warm<=n):a1q 0 n warm=[n-warm]:=by
 unfold a1q
 simp [h]
theorem a7o {o n warm:Nat} (h:a1q o n warm≠[]):(a1q o n warm).length=2^o:=by
 unfold a1q at *
 split
 ·have:=Nat.two_pow_pos o
  simp
  omega
 ·rename_i hc
  rw [if_neg hc] at h
  exact absurd rfl h
theorem a9y {o n warm:Nat} (h:a1q o n warm≠[]):(a1q o n warm).sum=n-warm:=by
 unfold a1q at *
 split
 ·rename_i hc
  obtain ⟨h1,h2⟩:=hc
  have hp:=Nat.two_pow_pos o
  have e:(2^o-1)*(n / 2^o)+n / 2^o=n:=by
   rw [<-Nat.succ_mul]
   have:Nat.succ (2^o-1)=2^o:=by omega
   rw [this,zY]
   exact h1
  simp
  omega
 ·rename_i hc
  rw [if_neg hc] at h
  exact absurd rfl h
def a1k {α:Type}:List Nat->List α->List (List α)
 | [],_=>[]
 | s::ss,l=>l.take s::a1k ss (l.drop s)
theorem a5h {α:Type}:∀ (ss:List Nat) (l:List α),(a1k ss l).length=ss.length
 | [],_=>rfl
 | s::ss,l=>by rw [a1k,zK,a5h ss,zK]
theorem c2u {α:Type}:∀ (ss:List Nat) (l:List α),ss.sum=l.length->(a1k ss l).flatten=l
 | [],l,h=>by
  have:l=[]:=List.eq_nil_of_length_eq_zero (by simpa using h.symm)
  subst this
  rfl
 | s::ss,l,h=>by
  rw [a1k,List.flatten_cons,c2u ss,List.take_append_drop]
  rw [zO]
  simp at h
  omega
def a2m (ss:List Nat) (i:Nat):Nat:=(ss.take i).sum
theorem b0a {α:Type}:∀ (ss:List Nat) (l:List α) (i:Nat) (h:i<ss.length),(a1k ss l)[i]?=some ((l.drop (a2m ss i)).take ss[i])
 | s::ss,l,0,_=>by simp [a1k,a2m]
 | s::ss,l,i+1,h=>by
  rw [a1k,List.getElem?_cons_succ,b0a ss (l.drop s) i (by simpa using h)]
  simp [a2m,List.drop_drop]
theorem b2e (ss:List Nat) (i:Nat) (h:i<ss.length):a2m ss (i+1)=a2m ss i+ss[i]:=by
 unfold a2m
 rw [List.take_succ_eq_append_getElem h,List.sum_append]
 simp only [List.sum_cons,List.sum_nil,Nat.add_zero]
theorem e0o (ss:List Nat) (i:Nat):a2m ss i<=ss.sum:=by
 unfold a2m
 have:ss.sum=(ss.take i).sum+(ss.drop i).sum:=by rw [<-List.sum_append,List.take_append_drop]
 omega
theorem b0r (ss:List Nat) (i:Nat) (h:i<ss.length):a2m ss i+ss[i]<=ss.sum:=by
 rw [<-b2e ss i h]
 exact e0o ss (i+1)
def a8e (part:List Int):Nat:=5+a4w part*part.length
def a4z (k:Nat) (part:List Int):Nat:=5+if k=31 then a8e part else b9c k part
def a3r (k:Nat) (part:List Int):List Nat :=
 a0b k 5++if k=31 then a0b (a4w part) 5++part.flatMap (fun x=>a0b (c1s x (a4w part)) (a4w part)) else a0r k part
theorem c6w (n:Nat) (f:Int->Nat) (l:List Int):(l.flatMap (fun x=>a0b (f x) n)).length=n*l.length:=by
 induction l with
 | nil=>simp
 | cons x l ih=>rw [List.flatMap_cons,zC,a0a,ih,zK,Nat.mul_add];omega
theorem b8f (k:Nat) (part:List Int):(a3r k part).length=a4z k part:=by
 unfold a3r a4z a8e
 split
 ·rw [zC,zC,a0a,a0a,c6w]
 ·rw [zC,a0a,d1q]
def a9m (ks:List Nat) (ps:List (List Int)):Nat:=4+((ks.zip ps).map (fun p=>a4z p.1 p.2)).sum
def b3t (o:Nat) (ks:List Nat) (ps:List (List Int)):List Nat:=a0b o 4++(ks.zip ps).flatMap (fun p=>a3r p.1 p.2)
theorem e1j (o:Nat) (ks:List Nat) (ps:List (List Int)):(b3t o ks ps).length=a9m ks ps:=by
 unfold b3t a9m
 rw [zC,a0a]
 congr 1
 generalize ks.zip ps=z
 induction z with
 | nil=>rfl
 | cons p z ih=>rw [List.flatMap_cons,zC,b8f,ih,List.map_cons,List.sum_cons]
def a4a (part:List Int):Nat:=if a8e part<b9c (a6u part) part then 31 else a6u part
theorem c4w (part:List Int):a4a part<=25\/a4a part=31:=by
 have:=a8p part
 unfold a4a
 split<;>omega
def a6s (o n warm:Nat) (l:List Int):List Nat:=(a1k (a1q o n warm) l).map a4a
structure f3j where
 order:Nat
 ks:List Nat
 cost:Nat
def b3b (n warm:Nat) (l:List Int) (s:f3j) (o:Nat):f3j :=
 if a1q o n warm=[] then s
 else if s.cost=0\/a9m (a6s o n warm l) (a1k (a1q o n warm) l)<s.cost then ⟨o,a6s o n warm l,a9m (a6s o n warm l) (a1k (a1q o n warm) l)⟩ else s
def c2g (n warm:Nat) (l:List Int) (m:Nat):f3j:=(List.range m).foldl (b3b n warm l) ⟨0,[],0⟩
def a1f (n warm most:Nat) (l:List Int):f3j:=c2g n warm l (min most 8+1)
theorem b7f (n warm:Nat) (l:List Int) (m:Nat):c2g n warm l (m+1)=b3b n warm l (c2g n warm l m) m:=by
 simp [c2g,List.range_succ]
def f0m (n warm:Nat) (l:List Int) (s:f3j):Prop:=a1q s.order n warm≠[]/\s.ks=a6s s.order n warm l/\s.cost=a9m s.ks (a1k (a1q s.order n warm) l)
theorem e1t (ks:List Nat) (ps:List (List Int)):4<=a9m ks ps:=by unfold a9m;omega
theorem d7f {n warm:Nat} (h:warm<=n) (l:List Int):∀ m,f0m n warm l (c2g n warm l (m+1))/\(c2g n warm l (m+1)).order<=m
 | 0=>by
  have h0:=d4q h
  have hne:a1q 0 n warm≠[]:=by rw [h0];simp
  have e0:c2g n warm l 0=⟨0,[],0⟩:=rfl
  rw [b7f,e0,b3b,if_neg hne,if_pos (.inl rfl)]
  exact ⟨⟨hne,rfl,rfl⟩,zQ _⟩
 | m+1=>by
  obtain ⟨h1,h2⟩:=d7f h l m
  rw [b7f,b3b]
  split
  ·exact ⟨h1,by omega⟩
  ·rename_i hne
   split
   ·exact ⟨⟨hne,rfl,rfl⟩,zQ _⟩
   ·exact ⟨h1,by omega⟩
theorem a7u {n warm most:Nat} (h:warm<=n) (l:List Int):f0m n warm l (a1f n warm most l)/\(a1f n warm most l).order<=8/\(a1f n warm most l).order<=most:=by
 obtain ⟨h1,h2⟩:=d7f h l (min most 8)
 exact ⟨h1,Nat.le_trans h2 (Nat.min_le_right _ _),Nat.le_trans h2 (Nat.min_le_left _ _)⟩
def a5r (s n:Nat):Nat->Nat->List (Nat × Nat)
 | 0,_=>[]
 | f+1,x=>if x<n then (x,min s (n-x))::a5r s n f (x+s) else []
theorem b3a {s n x:Nat} (f:Nat) (h:n<=x):a5r s n f x=[]:=by
 cases f
 ·rfl
 ·rw [a5r,if_neg (by omega)]
theorem a8c {s n x:Nat} (f:Nat) (h:x<n):a5r s n (f+1) x=(x,min s (n-x))::a5r s n f (x+s):=by
 rw [a5r,if_pos h]
theorem f5m {s n:Nat} (hs:1<=s):∀ (f x:Nat),n<=x+f->((a5r s n f x).map (·.2)).sum=n-x
 | 0,x,h=>by simp [a5r];omega
 | f+1,x,h=>by
  by_cases hx:x<n
  ·rw [a8c f hx,List.map_cons,List.sum_cons,f5m hs f (x+s) (by omega)]
   simp only
   omega
  ·rw [b3a _ (by omega)]
   simp
   omega
theorem b1z {s n:Nat} (hs:1<=s):∀ (f x:Nat),∀ p∈a5r s n f x,1<=p.2/\p.2<=s/\p.1+p.2<=n
 | 0,x,p,hp=>by simp [a5r] at hp
 | f+1,x,p,hp=>by
  by_cases hx:x<n
  ·rw [a8c f hx] at hp
   rcases zJ.1 hp with rfl | hp
   ·simp only;omega
   ·exact b1z hs f (x+s) p hp
  ·rw [b3a _ (by omega)] at hp
   simp at hp
theorem b7e (s n:Nat):∀ (f x:Nat),(a5r s n f x).length<=f
 | 0,x=>by simp [a5r]
 | f+1,x=>by
  by_cases hx:x<n
  ·rw [a8c f hx,zK]
   have:=b7e s n f (x+s)
   omega
  ·rw [b3a _ (by omega)]
   simp
structure Sq where
 x:Nat
 y:Nat
 w:Nat
 h:Nat
def a8y (w s:Nat) (p:Nat × Nat):List Sq:=(a5r s w w 0).map fun q=>⟨q.1,p.1,q.2,p.2⟩
def b6z (w h s:Nat):List Sq:=(a5r s h h 0).flatMap (a8y w s)
def area (l:List Sq):Nat:=(l.map fun q=>q.w*q.h).sum
theorem f5q (a b:List Sq):area (a++b)=area a+area b:=by simp [area]
theorem f6h {w s:Nat} (hs:1<=s) (p:Nat × Nat):area (a8y w s p)=w*p.2:=by
 have h:=f5m (n:=w) hs w 0 (by omega)
 have e:∀ l:List (Nat × Nat),(l.map fun q:Nat × Nat=>q.2*p.2).sum=(l.map (·.2)).sum*p.2:=by
  intro l
  induction l with
  | nil=>simp
  | cons a l ih=>simp only [List.map_cons,List.sum_cons,ih,Nat.add_mul]
 unfold area a8y
 rw [List.map_map]
 show ((a5r s w w 0).map fun q=>q.2*p.2).sum=_
 rw [e,h]
 rfl
theorem f5w {w h s:Nat} (hs:1<=s):area (b6z w h s)=w*h:=by
 have e:∀ l:List (Nat × Nat),area (l.flatMap (a8y w s))=w*(l.map (·.2)).sum:=by
  intro l
  induction l with
  | nil=>simp [area]
  | cons a l ih=>rw [List.flatMap_cons,f5q,ih,f6h hs,List.map_cons,List.sum_cons,Nat.mul_add]
 unfold b6z
 rw [e,f5m hs h 0 (by omega)]
 rfl
theorem d3n {w h s:Nat} (hs:1<=s):∀ q∈b6z w h s,1<=q.w/\q.w<=s/\1<=q.h/\q.h<=s:=by
 intro q hq
 obtain ⟨p,hp,hq⟩:=List.mem_flatMap.1 hq
 obtain ⟨r,hr,rfl⟩:=List.mem_map.1 hq
 have h1:=b1z hs _ _ p hp
 have h2:=b1z hs _ _ r hr
 exact ⟨h2.1,h2.2.1,h1.1,h1.2.1⟩
structure a2a where
 W:Nat
 H:Nat
 d:Nat
 P:List (List Int)
structure a2a.Ok (p:a2a):Prop where
 w0:1<=p.W
 w1:p.W<=64
 h0:1<=p.H
 h1:p.H<=64
 d0:1<=p.d
 d1:p.d<=16
 n0:1<=p.P.length
 n1:p.P.length<=4
 len:∀ l∈p.P,l.length=p.W*p.H
 smp:∀ l∈p.P,a1u p.d l
theorem a2a.Ok.area {p:a2a} (h:p.Ok):p.W*p.H<=4096:=zL h.w1 h.h1
theorem a2a.Ok.pos {p:a2a} (h:p.Ok):0<p.W*p.H:=Nat.mul_pos h.w0 h.h0
structure c9a (p q:a2a):Prop where
 W:p.W=q.W
 H:p.H=q.H
 d:p.d=q.d
 n:p.P.length=q.P.length
def a9w (l:List Int) (W x y w h:Nat):List Int:=(List.range h).flatMap fun j=>(List.range w).map fun i=>l.getD ((y+j)*W+(x+i)) 0
theorem c6x {α:Type} {w:Nat}:∀ (h:Nat) (f:Nat->List α),(∀ j,(f j).length=w)->((List.range h).flatMap f).length=h*w
 | 0,f,_=>by simp
 | h+1,f,hf=>by rw [List.range_succ,List.flatMap_append,zC,c6x h f hf];simp [hf,Nat.succ_mul]
theorem d5t {α:Type} {w:Nat}:∀ (h:Nat) (f:Nat->List α),(∀ j,(f j).length=w)->∀ j i,j<h->i<w->((List.range h).flatMap f)[j*w+i]?=(f j)[i]?
 | 0,f,_,j,i,hj,_=>by omega
 | h+1,f,hf,j,i,hj,hi=>by
  rw [List.range_succ,List.flatMap_append]
  have hl:=c6x h f hf
  rcases zZ j h with h1 | h1
  ·have h2:j*w+i<h*w:=by
    have:=Nat.mul_le_mul_right w (show j+1<=h by omega)
    rw [Nat.succ_mul] at this
    omega
   rw [List.getElem?_append_left (by omega),d5t h f hf j i h1 hi]
  ·obtain rfl:j=h:=by omega
   rw [zS (by omega),hl]
   simp
theorem b1w (l:List Int) (W x y w h:Nat):(a9w l W x y w h).length=h*w:=c6x h _ (by simp)
theorem e4p (l:List Int) (W x y:Nat) {w h j i:Nat} (hj:j<h) (hi:i<w):(a9w l W x y w h)[j*w+i]?=some (l.getD ((y+j)*W+(x+i)) 0):=by
 unfold a9w
 rw [d5t h _ (by simp) j i hj hi]
 simp [hi]
theorem e0b (l:List Int) (W x y w h:Nat):a9w l W x y w (h+1)=a9w l W x y w h++(List.range w).map fun i=>l.getD ((y+h)*W+(x+i)) 0:=by
 unfold a9w
 rw [List.range_succ,List.flatMap_append]
 simp
theorem b0l {d:Nat} {l:List Int} (h:a1u d l) (k:Nat):0<=l.getD k 0/\l.getD k 0<2^d:=by
 rw [zD]
 cases hx:l[k]? with
 | none=>exact ⟨Int.le_refl 0,a0i d⟩
 | some x=>exact h x (List.mem_of_getElem? hx)
theorem d1k {d:Nat} {l:List Int} (hs:a1u d l) (W x y w h:Nat):a1u d (a9w l W x y w h):=by
 intro v hv
 obtain ⟨j,_,hv⟩:=List.mem_flatMap.1 hv
 obtain ⟨i,_,rfl⟩:=List.mem_map.1 hv
 exact b0l hs _
theorem e5j {l:List Int} {W H x Y w:Nat} (hl:l.length=W*H) (hx:x+w<=W) (hY:Y<H):((l.drop (Y*W+x)).take w)=(List.range w).map fun i=>l.getD (Y*W+(x+i)) 0:=by
 have h2:Y*W+W<=W*H:=by
  have:=Nat.mul_le_mul_right W (show Y+1<=H by omega)
  rw [Nat.succ_mul,zY H] at this
  exact this
 apply List.ext_getElem?
 intro i
 rcases zZ i w with hi | hi
 ·rw [List.getElem?_take,if_pos hi,List.getElem?_drop,zW,List.getElem?_range hi,Option.map_some,zD,<-Nat.add_assoc,zF (show Y*W+x+i<l.length by omega)]
  rfl
 ·rw [List.getElem?_take,if_neg (by omega),List.getElem?_eq_none (by simp;omega)]
def d9a (W k:Nat) (s:Sq):Bool:=decide (s.x<=k%W)&&decide (k%W<s.x+s.w)&&decide (s.y<=k / W)&&decide (k / W<s.y+s.h)
def b9a (q l:List Int) (W:Nat) (bs:List Sq):List Int:=(List.range l.length).map fun k=>if bs.any (d9a W k) then q.getD k 0 else l.getD k 0
theorem b5q (q l:List Int) (W:Nat) (bs:List Sq):(b9a q l W bs).length=l.length:=by simp [b9a]
theorem b5p {q l:List Int} {W:Nat} {bs:List Sq} {k:Nat} (hk:k<l.length):(b9a q l W bs)[k]?=some (if bs.any (d9a W k) then q.getD k 0 else l.getD k 0):=by
 unfold b9a
 rw [zW,List.getElem?_range hk]
 rfl
theorem e8s (q l:List Int) (W:Nat):b9a q l W []=l:=by
 apply List.ext_getElem?
 intro k
 rcases zZ k l.length with hk | hk
 ·rw [b5p hk,zF hk]
  simp [hk]
 ·rw [List.getElem?_eq_none hk,List.getElem?_eq_none (by rw [b5q];exact hk)]
theorem e3v (q l:List Int) (W:Nat) (bs:List Sq) (s:Sq) (h0:s.h=0):b9a q l W (bs++[s])=b9a q l W bs:=by
 unfold b9a
 congr 1
 funext k
 have e:(bs++[s]).any (d9a W k)=bs.any (d9a W k):=by
  rw [List.any_append]
  have h:d9a W k s=false:=by unfold d9a;rw [h0];simp<;>omega
  simp [h]
 rw [e]
theorem e8r {q l:List Int} {W:Nat} {bs:List Sq} (hq:q.length=l.length) (h:∀ k,k<l.length->bs.any (d9a W k)=true):b9a q l W bs=q:=by
 apply List.ext_getElem?
 intro k
 rcases zZ k l.length with hk | hk
 ·rw [b5p hk,if_pos (h k hk),zF (by omega),zD,zF (by omega)]
  rfl
 ·rw [List.getElem?_eq_none (by rw [b5q];exact hk),List.getElem?_eq_none (by omega)]
theorem e8t {q l:List Int} {W H:Nat} {bs:List Sq} {s:Sq} (hq:q.length=l.length) (hl:l.length=W*H) (hx:s.x+s.w<=W) (hy:s.y+s.h<H) :
  let m:=b9a q l W (bs++[s])
  let at_:=(s.y+s.h)*W+s.x
  m.take at_++((List.range s.w).map fun i=>q.getD ((s.y+s.h)*W+(s.x+i)) 0)++m.drop (at_+s.w)=b9a q l W (bs++[⟨s.x,s.y,s.w,s.h+1⟩]):=by
 intro m at_
 obtain ⟨Y,hY⟩:=zX (s.y+s.h)
 have ag:at_=Y*W+s.x:=by rw [hY]
 have h2:Y*W+W<=l.length:=by
  have:=Nat.mul_le_mul_right W (show Y+1<=H by omega)
  rw [Nat.succ_mul,zY H,<-hl] at this
  exact this
 have hm:m.length=l.length:=b5q _ _ _ _
 have ht:(m.take at_).length=at_:=by rw [zI,hm];omega
 rw [<-hY]
 have ae:∀ k,d9a W k ⟨s.x,s.y,s.w,s.h+1⟩=(d9a W k s||(decide (s.x<=k%W)&&decide (k%W<s.x+s.w)&&decide (k / W=Y))):=by
  intro k
  unfold d9a
  simp only
  rw [hY]
  by_cases h1:s.x<=k%W
  ·by_cases h3:k%W<s.x+s.w
   ·simp only [h1,h3,decide_true,Bool.true_and]
    by_cases h4:s.y<=k / W
    ·by_cases h5:k / W<s.y+s.h
     ·have h6:k / W<s.y+(s.h+1):=by omega
      simp [h4,h5,h6]
     ·by_cases h6:k / W=s.y+s.h
      ·simp [h6]<;>omega
      ·have h7:¬ k / W<s.y+(s.h+1):=by omega
       simp [h5,h6,h7]
    ·have h6:¬ k / W=s.y+s.h:=by omega
     simp [h4,h6]
   ·simp [h3]
  ·simp [h1]
 apply List.ext_getElem?
 intro k
 rcases zZ k l.length with hk | hk
 ·rw [b5p hk]
  have hW:0<W:=by
   rcases Nat.eq_zero_or_pos W with h | h
   ·rw [h] at hl;omega
   ·exact h
  have ad:=Nat.div_add_mod k W
  have ah:=Nat.mod_lt k hW
  rw [List.any_append,List.any_cons,List.any_nil,Bool.or_false,ae k]
  rcases zZ k at_ with h1 | h1
  ·rw [zH,List.getElem?_append_left (by omega),List.getElem?_take,if_pos h1,b5p hk,List.any_append,List.any_cons,List.any_nil,Bool.or_false]
   have hf:(decide (s.x<=k%W)&&decide (k%W<s.x+s.w)&&decide (k / W=Y))=false:=by
    rw [Bool.and_eq_false_iff]
    by_cases h6:k / W=Y
    ·left
     rw [Bool.and_eq_false_iff]
     left
     rw [decide_eq_false_iff_not]
     rw [h6,zY] at ad
     omega
    ·right;simp [h6]
   rw [hf,Bool.or_false]
  ·rcases zZ k (at_+s.w) with h3 | h3
   ·have aa:k=Y*W+(s.x+(k-at_)):=by omega
    have ab:k%W=s.x+(k-at_):=by
     rw [aa,Nat.add_comm,Nat.add_mul_mod_self_right,Nat.mod_eq_of_lt (by omega)]
     omega
    have ac:k / W=Y:=by
     rw [aa,Nat.add_comm,Nat.add_mul_div_right _ _ hW,Nat.div_eq_of_lt (by omega),Nat.zero_add]
    have af:(decide (s.x<=k%W)&&decide (k%W<s.x+s.w)&&decide (k / W=Y))=true:=by
     rw [ab,ac]
     simp
     omega
    rw [af,Bool.or_true,Bool.or_true,if_pos rfl,zH,zS (by omega),ht,List.getElem?_append_left (by simp;omega),zW,List.getElem?_range (by omega),Option.map_some,<-aa]
   ·rw [zH,zS (by omega),ht,zS (by simp;omega),zE,List.length_range,List.getElem?_drop]
    rw [show at_+s.w+(k-at_-s.w)=k by omega,b5p hk,List.any_append,List.any_cons,List.any_nil,Bool.or_false]
    have hf:(decide (s.x<=k%W)&&decide (k%W<s.x+s.w)&&decide (k / W=Y))=false:=by
     rw [Bool.and_eq_false_iff]
     by_cases h6:k / W=Y
     ·left
      rw [Bool.and_eq_false_iff]
      right
      rw [decide_eq_false_iff_not]
      rw [h6,zY] at ad
      omega
     ·right;simp [h6]
    rw [hf,Bool.or_false]
 ·rw [List.getElem?_eq_none (l:=b9a _ _ _ _) (by rw [b5q];exact hk),List.getElem?_eq_none]
  rw [zC,zC,ht,zE,List.length_range,zO,hm]
  omega
theorem b1y {s n:Nat} (hs:1<=s):∀ (f x k:Nat),n<=x+f->x<=k->k<n->∃ p∈a5r s n f x,p.1<=k/\k<p.1+p.2
 | 0,x,k,h,h1,h2=>by omega
 | f+1,x,k,h,h1,h2=>by
  have hx:x<n:=by omega
  rw [a8c f hx]
  by_cases hk:k<x+min s (n-x)
  ·exact ⟨_,List.mem_cons_self ..,h1,hk⟩
  ·obtain ⟨p,hp,h3⟩:=b1y hs f (x+s) k (by omega) (by omega) h2
   exact ⟨p,List.mem_cons_of_mem _ hp,h3⟩
theorem d8x {W H s k:Nat} (hs:1<=s) (hk:k<W*H):(b6z W H s).any (d9a W k)=true:=by
 have hW:0<W:=by
  rcases Nat.eq_zero_or_pos W with h | h
  ·rw [h] at hk;omega
  ·exact h
 obtain ⟨p,hp,ac,aa⟩:=b1y (s:=s) (n:=H) hs H 0 (k / W) (by omega) (Nat.zero_le _) (Nat.div_lt_of_lt_mul hk)
 obtain ⟨q,hq,ad,ab⟩:=b1y (s:=s) (n:=W) hs W 0 (k%W) (by omega) (Nat.zero_le _) (Nat.mod_lt _ hW)
 rw [List.any_eq_true]
 refine ⟨⟨q.1,p.1,q.2,p.2⟩,List.mem_flatMap.2 ⟨p,hp,List.mem_map.2 ⟨q,hq,rfl⟩⟩,?_⟩
 unfold d9a
 simp [ac,aa,ad,ab]
theorem e2t {W H s:Nat} (hs:1<=s):∀ q∈b6z W H s,q.x+q.w<=W/\q.y+q.h<=H:=by
 intro q hq
 obtain ⟨p,hp,hq⟩:=List.mem_flatMap.1 hq
 obtain ⟨r,hr,rfl⟩:=List.mem_map.1 hq
 have h1:=b1z hs _ _ p hp
 have h2:=b1z hs _ _ r hr
 exact ⟨h2.2.2,h1.2.2⟩
def b9k (n k:Nat):Bool:=decide (1<=n)&&decide (n<=4)&&(decide (k=0)||(decide (k=1\/k=2\/k=3)&&decide (3<=n))||(decide (k=4)&&decide (2<=n)))
def b9e (v:Int) (s:Nat):Int:=v / 2^s
def a8x (k d:Nat) (a b c e:Int):List Int :=
 if k=1 then [a0k (a-b) d,b,a0k (c-b) d,e]
 else if k=2 then
  [a0k (a0k (c+b9e (a1b (a0k (a-c) d) d) 1) d+b9e (a1b (a0k (b-a0k (c+b9e (a1b (a0k (a-c) d) d) 1) d) d) d) 1) d,a0k (a-c) d,a0k (b-a0k (c+b9e (a1b (a0k (a-c) d) d) 1) d) d,e]
 else if k=3 then [a0k (b+b9e (a1b (a0k (c-b) d) d+a1b (a0k (a-b) d) d) 2) d,a0k (c-b) d,a0k (a-b) d,e]
 else if k=4 then [a,a0k (b-a) d,a0k (c-b) d,a0k (e-c) d]
 else [a,b,c,e]
def a5j (k d:Nat) (a b c e:Int):List Int :=
 if k=1 then [a0k (a+b) d,b,a0k (c+b) d,e]
 else if k=2 then
  [a0k (b+a0k (a0k (a-b9e (a1b c d) 1) d-b9e (a1b b d) 1) d) d,a0k (c+a0k (a-b9e (a1b c d) 1) d) d,a0k (a0k (a-b9e (a1b c d) 1) d-b9e (a1b b d) 1) d,e]
 else if k=3 then [a0k (c+a0k (a-b9e (a1b b d+a1b c d) 2) d) d,a0k (a-b9e (a1b b d+a1b c d) 2) d,a0k (b+a0k (a-b9e (a1b b d+a1b c d) 2) d) d,e]
 else if k=4 then [a,a0k (b+a) d,a0k (c+a0k (b+a) d) d,a0k (e+a0k (c+a0k (b+a) d) d) d]
 else [a,b,c,e]
def at4 (f:Int->Int->Int->Int->List Int) (c:List Int):List Int:=f (c.getD 0 0) (c.getD 1 0) (c.getD 2 0) (c.getD 3 0)
theorem e2n (k d:Nat) (a b c e:Int):(a8x k d a b c e).length=4:=by unfold a8x;(repeat' split)<;>rfl
theorem e1g (k d:Nat) (a b c e:Int):(a5j k d a b c e).length=4:=by unfold a5j;(repeat' split)<;>rfl
def In4 (d:Nat) (v:Int):Prop:=0<=v/\v<2^d
theorem In4.wrap (v:Int) (d:Nat):In4 d (a0k v d):=⟨a1j _ _,a1i _ _⟩
theorem e7o {k d:Nat} {a b c e:Int} (ha:In4 d a) (hb:In4 d b) (hc:In4 d c) (he:In4 d e):∀ v∈a8x k d a b c e,In4 d v:=by
 unfold a8x
 intro v hv
 repeat' split at hv
 all_goals
  simp only [zJ,List.not_mem_nil,or_false] at hv
  rcases hv with rfl | rfl | rfl | rfl<;>first | assumption | exact In4.wrap _ _
theorem e6t {k d:Nat} {a b c e:Int} (ha:In4 d a) (hb:In4 d b) (hc:In4 d c) (he:In4 d e):∀ v∈a5j k d a b c e,In4 d v:=by
 unfold a5j
 intro v hv
 repeat' split at hv
 all_goals
  simp only [zJ,List.not_mem_nil,or_false] at hv
  rcases hv with rfl | rfl | rfl | rfl<;>first | assumption | exact In4.wrap _ _
theorem a5y {s t:Int} {d:Nat} (h:In4 d s) (g:Int) (hg:t=s-g):a0k (a0k t d+g) d=s:=by
 subst hg
 exact d4x h.1 h.2
theorem b7r {s t:Int} {d:Nat} (h:In4 d s) (g:Int) (hg:t=s+g):a0k (a0k t d-g) d=s:=by
 subst hg
 rw [Int.sub_eq_add_neg,Int.add_comm,a3b,show -g+(s+g)=s by omega]
 exact b0u h.1 h.2
theorem d8d {n k d:Nat} (hm:b9k n k=true) {a b c e:Int} (ha:In4 d a) (hb:In4 d b) (hc:In4 d c) (he:In4 d e) {x y z t:Int}
  (hx:x=(a8x k d a b c e).getD 0 0) (hy:1<n->y=(a8x k d a b c e).getD 1 0) (hz:2<n->z=(a8x k d a b c e).getD 2 0) (ht:3<n->t=(a8x k d a b c e).getD 3 0) :
  ∀ j,j<n->(a5j k d x y z t).getD j 0=[a,b,c,e].getD j 0:=by
 unfold b9k at hm
 simp only [Bool.and_eq_true,Bool.or_eq_true,decide_eq_true_eq] at hm
 obtain ⟨⟨n0,n4⟩,hk⟩:=hm
 have aa:k<=4:=by omega
 intro j hj
 match k,aa with
 | 0,_ =>
  simp only [a8x,a5j] at *
  match j with
  | 0=>simpa using hx
  | 1=>simpa using hy hj
  | 2=>simpa using hz hj
  | 3=>simpa using ht hj
  | j+4=>omega
 | 1,_ =>
  have n3:3<=n:=by omega
  have hy:=hy (by omega)
  have hz:=hz (by omega)
  simp [a8x] at hx hy hz ht
  subst hx hy hz
  match j with
  | 0=>simpa [a5j] using a5y ha y rfl
  | 1=>simp [a5j]
  | 2=>simpa [a5j] using a5y hc y rfl
  | 3=>simpa [a5j] using ht hj
  | j+4=>omega
 | 2,_ =>
  have n3:3<=n:=by omega
  have hy:=hy (by omega)
  have hz:=hz (by omega)
  simp [a8x] at hx hy hz ht
  have e1:a0k (x-b9e (a1b z d) 1) d=a0k (c+b9e (a1b y d) 1) d:=by
   rw [hx,hz,hy]
   exact b7r (In4.wrap _ _) _ rfl
  have e2:a0k (a0k (x-b9e (a1b z d) 1) d-b9e (a1b y d) 1) d=c:=by
   rw [e1]
   exact b7r hc _ rfl
  match j with
  | 0 =>
   have h1:a0k (y+c) d=a:=by rw [hy];exact a5y ha c rfl
   simpa [a5j,e2] using h1
  | 1 =>
   have h1:a0k (z+a0k (c+b9e (a1b y d) 1) d) d=b:=by rw [hz,hy];exact a5y hb _ rfl
   simpa [a5j,e1] using h1
  | 2=>simpa [a5j] using e2
  | 3=>simpa [a5j] using ht hj
  | j+4=>omega
 | 3,_ =>
  have n3:3<=n:=by omega
  have hy:=hy (by omega)
  have hz:=hz (by omega)
  simp [a8x] at hx hy hz ht
  have e1:a0k (x-b9e (a1b y d+a1b z d) 2) d=b:=by
   rw [hx,hy,hz]
   exact b7r hb _ rfl
  match j with
  | 0 =>
   have h1:a0k (z+b) d=a:=by rw [hz];exact a5y ha b rfl
   simpa [a5j,e1] using h1
  | 1=>simpa [a5j] using e1
  | 2 =>
   have h1:a0k (y+b) d=c:=by rw [hy];exact a5y hc b rfl
   simpa [a5j,e1] using h1
  | 3=>simpa [a5j] using ht hj
  | j+4=>omega
 | 4,_ =>
  simp [a8x] at hx hy hz ht
  subst hx
  have h1:1<n->a0k (y+x) d=b:=fun h=>by rw [hy h];exact a5y hb x rfl
  have h2:2<n->a0k (z+b) d=c:=fun h=>by rw [hz h];exact a5y hc b rfl
  have h3:3<n->a0k (t+c) d=e:=fun h=>by rw [ht h];exact a5y he c rfl
  match j with
  | 0=>simp [a5j]
  | 1=>simpa [a5j] using h1 hj
  | 2=>simpa [a5j,h1 (by omega)] using h2 hj
  | 3=>simpa [a5j,h1 (by omega),h2 (by omega)] using h3 hj
  | j+4=>omega
def pt4 (P:List (List Int)) (i:Nat):List Int:=(List.range 4).map fun k=>(P.getD k []).getD i 0
theorem e4v (P:List (List Int)) (i:Nat):pt4 P i=[(P.getD 0 []).getD i 0,(P.getD 1 []).getD i 0,(P.getD 2 []).getD i 0,(P.getD 3 []).getD i 0]:=rfl
def b6f (f:Int->Int->Int->Int->List Int) (P:List (List Int)) (N:Nat):List (List Int):=(List.range P.length).map fun k=>(List.range N).map fun i=>(at4 f (pt4 P i)).getD k 0
theorem a3y (f:Int->Int->Int->Int->List Int) (P:List (List Int)) (N:Nat):(b6f f P N).length=P.length:=by simp [b6f]
theorem e0s {f:Int->Int->Int->Int->List Int} {P:List (List Int)} {N k:Nat} (hk:k<P.length):(b6f f P N).getD k []=(List.range N).map fun i=>(at4 f (pt4 P i)).getD k 0:=by
 unfold b6f
 rw [zD,zW,List.getElem?_range hk]
 rfl
theorem b6g {f:Int->Int->Int->Int->List Int} {P:List (List Int)} {N k i:Nat} (hk:k<P.length) (hi:i<N):((b6f f P N).getD k []).getD i 0=(at4 f (pt4 P i)).getD k 0:=by
 rw [e0s hk,zD,zW,List.getElem?_range hi]
 rfl
def f0f (f:Int->Int->Int->Int->List Int) (p:a2a):a2a:=⟨p.W,p.H,p.d,b6f f p.P (p.W*p.H)⟩
def a3p (k:Nat) (p:a2a):a2a:=f0f (a8x k p.d) p
def c9h (k:Nat) (p:a2a):a2a:=f0f (a5j k p.d) p
theorem a6a {p:a2a} (h:p.Ok) (i k:Nat):In4 p.d ((p.P.getD k []).getD i 0):=by
 rcases zZ k p.P.length with hk | hk
 ·have hm:p.P.getD k []∈p.P:=by
   rw [zD,zF hk]
   exact zG hk
  exact b0l (h.smp _ hm) i
 ·rw [zD (l:=p.P),List.getElem?_eq_none hk]
  exact ⟨Int.le_refl 0,a0i _⟩
theorem d7v {p:a2a} (h:p.Ok) {f:Int->Int->Int->Int->List Int} (hf:∀ a b c e,In4 p.d a->In4 p.d b->In4 p.d c->In4 p.d e->∀ v∈f a b c e,In4 p.d v):(f0f f p).Ok where
 w0:=h.w0
 w1:=h.w1
 h0:=h.h0
 h1:=h.h1
 d0:=h.d0
 d1:=h.d1
 n0:=by show 1<=(b6f _ _ _).length;rw [a3y];exact h.n0
 n1:=by show (b6f _ _ _).length<=4;rw [a3y];exact h.n1
 len:=fun l hl=>by
  obtain ⟨k,_,rfl⟩:=List.mem_map.1 hl
  simp [f0f]
 smp:=fun l hl v hv=>by
  obtain ⟨k,_,rfl⟩:=List.mem_map.1 hl
  obtain ⟨i,_,rfl⟩:=List.mem_map.1 hv
  show In4 p.d _
  rw [zD]
  cases hx:(at4 f (pt4 p.P i))[k]? with
  | none=>exact ⟨Int.le_refl 0,a0i _⟩
  | some x=>exact hf _ _ _ _ (a6a h i 0) (a6a h i 1) (a6a h i 2) (a6a h i 3) x (List.mem_of_getElem? hx)
theorem b2t {p:a2a} (h:p.Ok) (k:Nat):(a3p k p).Ok:=d7v h fun _ _ _ _ a b c e=>e7o a b c e
theorem d5g {p:a2a} (h:p.Ok) (k:Nat):(c9h k p).Ok:=d7v h fun _ _ _ _ a b c e=>e6t a b c e
theorem f2f {p q:a2a} (hW:p.W=q.W) (hH:p.H=q.H) (hd:p.d=q.d) (hn:p.P.length=q.P.length) (hp:p.Ok) (hq:q.Ok) (h:∀ k i,k<p.P.length->i<p.W*p.H->(p.P.getD k []).getD i 0=(q.P.getD k []).getD i 0):p=q:=by
 have e:p.P=q.P:=by
  apply List.ext_getElem hn
  intro k aa ab
  have g1:p.P.getD k []=p.P[k]:=by rw [zD,zF aa];rfl
  have g2:q.P.getD k []=q.P[k]:=by rw [zD,zF ab];rfl
  have l1:=hp.len _ (zG aa)
  have l2:=hq.len _ (zG ab)
  apply List.ext_getElem (by rw [l1,l2,hW,hH])
  intro i ac ad
  have:=h k i aa (by rw [<-l1];exact ac)
  rw [g1,g2,zD,zD,zF ac,zF ad] at this
  exact this
 cases p
 cases q
 simp_all
theorem e1h {p:a2a} (h:p.Ok) {k:Nat} (hm:b9k p.P.length k=true):c9h k (a3p k p)=p:=by
 have hl:(a3p k p).P.length=p.P.length:=a3y _ _ _
 have aa:(c9h k (a3p k p)).P.length=p.P.length:=(a3y _ _ _).trans hl
 refine f2f rfl rfl rfl aa (d5g (b2t h k) k) h ?_
 intro j i hj hi
 rw [aa] at hj
 have hi:i<p.W*p.H:=hi
 have e1:∀ t,t<p.P.length->((a3p k p).P.getD t []).getD i 0=(a8x k p.d ((p.P.getD 0 []).getD i 0) ((p.P.getD 1 []).getD i 0) ((p.P.getD 2 []).getD i 0) ((p.P.getD 3 []).getD i 0)).getD t 0:=fun t ht=>b6g ht hi
 show ((b6f (a5j k p.d) (a3p k p).P (p.W*p.H)).getD j []).getD i 0=_
 rw [b6g (by rw [hl];exact hj) hi]
 have h1:=d8d (n:=p.P.length) (k:=k) (d:=p.d) hm (a6a h i 0) (a6a h i 1) (a6a h i 2) (a6a h i 3) (e1 0 h.n0) (e1 1) (e1 2) (e1 3) j hj
 refine h1.trans ?_
 have ab:j<4:=by have:=h.n1;omega
 match j,ab with
 | 0,_=>rfl
 | 1,_=>rfl
 | 2,_=>rfl
 | 3,_=>rfl
def e7z (l:List Int) (W d:Nat) (n:Nat):Nat:=((List.range n).map fun i=>(a1b (l.getD i 0-if i%W=0 then 0 else l.getD (i-1) 0) d).natAbs).sum
theorem d0n (l:List Int) (W d n:Nat):e7z l W d (n+1)=e7z l W d n+(a1b (l.getD n 0-if n%W=0 then 0 else l.getD (n-1) 0) d).natAbs:=by
 unfold e7z
 rw [List.range_succ,zM,List.sum_append]
 simp
theorem d3o (l:List Int) (W:Nat) {d:Nat} (h0:1<=d) (h1:d<=16):∀ n,e7z l W d n<=32768*n
 | 0=>by simp [e7z]
 | n+1=>by
  have h2:=d3o l W h0 h1 n
  obtain ⟨r0,r1⟩:=a2s (l.getD n 0-if n%W=0 then 0 else l.getD (n-1) 0) h0
  have h3:(2:Int)^(d-1)<=2^15:=by
   have:=Nat.pow_le_pow_right (n:=2) (by decide) (show d-1<=15 by omega)
   exact_mod_cast this
  rw [d0n]
  omega
def e8a (p:a2a) (k:Nat):Nat:=((List.range k).map fun j=>e7z (p.P.getD j []) p.W p.d (p.W*p.H)).sum
theorem d0o (p:a2a) (k:Nat):e8a p (k+1)=e8a p k+e7z (p.P.getD k []) p.W p.d (p.W*p.H):=by
 unfold e8a
 rw [List.range_succ,zM,List.sum_append]
 simp
theorem d3p {p:a2a} (h:p.Ok):∀ k,e8a p k<=134217728*k
 | 0=>by simp [e8a]
 | k+1=>by
  have h1:=d3p h k
  have h2:=d3o (p.P.getD k []) p.W h.d0 h.d1 (p.W*p.H)
  have h3:=h.area
  rw [d0o]
  omega
def b8w (p:a2a):Nat:=e8a p p.P.length
def a7t (p:a2a):Nat->Nat
 | 0=>0
 | n+1=>if b9k p.P.length (n+1)=true/\b8w (a3p (n+1) p)<b8w (a3p (a7t p n) p) then n+1 else a7t p n
theorem b9g (p:a2a):∀ n,a7t p n<=n
 | 0=>zQ _
 | n+1=>by
  have:=b9g p n
  unfold a7t
  split<;>omega
theorem b4v {p:a2a} (h:p.Ok):∀ n,b9k p.P.length (a7t p n)=true
 | 0=>by
  have h0:=h.n0
  have h1:=h.n1
  simp [a7t,b9k,h0,h1]
 | n+1=>by
  unfold a7t
  split
  ·rename_i hh;exact hh.1
  ·exact b4v h n
def b1u (P Q:List (List Int)) (n k:Nat):List (List Int):=(List.range P.length).map fun j=>(Q.getD j []).take (if j<k then n+1 else n)++(P.getD j []).drop (if j<k then n+1 else n)
theorem a4j (P Q:List (List Int)) (n k:Nat):(b1u P Q n k).length=P.length:=by simp [b1u]
theorem a6q {P Q:List (List Int)} {j:Nat} (n k:Nat) (hj:j<P.length):(b1u P Q n k)[j]?=some ((Q.getD j []).take (if j<k then n+1 else n)++(P.getD j []).drop (if j<k then n+1 else n)):=by
 unfold b1u
 rw [zW,List.getElem?_range hj]
 rfl
theorem d9s {P Q:List (List Int)} {j:Nat} (n k:Nat) (hj:j<P.length):(b1u P Q n k).getD j []=(Q.getD j []).take (if j<k then n+1 else n)++(P.getD j []).drop (if j<k then n+1 else n):=by
 rw [zD,a6q n k hj]
 rfl
theorem c1p (P Q:List (List Int)):b1u P Q 0 0=P:=by
 apply List.ext_getElem?
 intro j
 rcases zZ j P.length with hj | hj
 ·rw [a6q 0 0 hj,zF hj,zD (l:=P),zF hj]
  simp
 ·rw [List.getElem?_eq_none (by rw [a4j];exact hj),List.getElem?_eq_none hj]
theorem e3u {P Q:List (List Int)} {N:Nat} (hn:Q.length=P.length) (hp:∀ j,j<P.length->(P.getD j []).length=N) (hq:∀ j,j<P.length->(Q.getD j []).length=N):b1u P Q N 0=Q:=by
 apply List.ext_getElem?
 intro j
 rcases zZ j P.length with hj | hj
 ·rw [a6q N 0 hj,if_neg (by omega),zT (by rw [hq j hj];exact zQ _),List.drop_eq_nil_of_le (by rw [hp j hj];exact zQ _),List.append_nil,zD,zF (by omega)]
  rfl
 ·rw [List.getElem?_eq_none (by rw [a4j];exact hj),List.getElem?_eq_none (by omega)]
theorem d1b (P Q:List (List Int)) (n:Nat):b1u P Q n P.length=b1u P Q (n+1) 0:=by
 apply List.ext_getElem?
 intro j
 rcases zZ j P.length with hj | hj
 ·rw [a6q _ _ hj,a6q _ _ hj,if_pos hj,if_neg (by omega)]
 ·rw [List.getElem?_eq_none (by rw [a4j];exact hj),List.getElem?_eq_none (by rw [a4j];exact hj)]
theorem c8o {q p:List Int} {n:Nat} (hq:n<q.length) (hp:n<p.length):(q.take n++p.drop n).set n (q.getD n 0)=q.take (n+1)++p.drop (n+1):=by
 have hl:(q.take n).length=n:=by rw [zI];omega
 rw [List.set_append_right _ _ (by omega),hl,Nat.sub_self,List.drop_eq_getElem_cons hp,List.set_cons_zero,List.take_succ_eq_append_getElem hq,zH,zD,zF hq]
 rfl
theorem c5l {P Q:List (List Int)} {n k:Nat} (hk:k<P.length) (hp:n<(P.getD k []).length) (hq:n<(Q.getD k []).length) :
  (b1u P Q n k).set k (((b1u P Q n k).getD k []).set n ((Q.getD k []).getD n 0))=b1u P Q n (k+1):=by
 apply List.ext_getElem?
 intro j
 rcases zZ j P.length with hj | hj
 ·by_cases e:k=j
  ·subst e
   rw [List.getElem?_set_self (by rw [a4j];exact hk),a6q _ _ hk,d9s _ _ hk,if_neg (by omega),if_pos (by omega),c8o hq hp]
  ·rw [List.getElem?_set_ne e,a6q _ _ hj,a6q _ _ hj]
   congr 3
   ·by_cases h:j<k
    ·rw [if_pos h,if_pos (by omega)]
    ·rw [if_neg h,if_neg (by omega)]
   ·by_cases h:j<k
    ·rw [if_pos h,if_pos (by omega)]
    ·rw [if_neg h,if_neg (by omega)]
 ·rw [List.getElem?_eq_none (by rw [List.length_set,a4j];exact hj),List.getElem?_eq_none (by rw [a4j];exact hj)]
def b8z (p q:a2a) (n k:Nat):a2a:=⟨p.W,p.H,p.d,b1u p.P q.P n k⟩
theorem a0n {P:List (List Int)} {j:Nat} (hj:j<P.length):P.getD j []∈P:=by
 rw [zD,zF hj]
 exact zG hj
theorem e3t {p q:a2a} (h:p.Ok) (hq:q.Ok) (ha:c9a p q) (n k:Nat):(b8z p q n k).Ok where
 w0:=h.w0
 w1:=h.w1
 h0:=h.h0
 h1:=h.h1
 d0:=h.d0
 d1:=h.d1
 n0:=by show 1<=(b1u _ _ _ _).length;rw [a4j];exact h.n0
 n1:=by show (b1u _ _ _ _).length<=4;rw [a4j];exact h.n1
 len:=fun l hl=>by
  obtain ⟨j,hj,rfl⟩:=List.mem_map.1 hl
  have hj:=List.mem_range.1 hj
  have e1:=h.len _ (a0n hj)
  have e2:=hq.len _ (a0n (P:=q.P) (j:=j) (by rw [<-ha.n];exact hj))
  rw [<-ha.W,<-ha.H] at e2
  show _=p.W*p.H
  rw [zC,zI,zO,e1,e2]
  omega
 smp:=fun l hl v hv=>by
  obtain ⟨j,hj,rfl⟩:=List.mem_map.1 hl
  have hj:=List.mem_range.1 hj
  show 0<=v/\v<2^p.d
  rcases zP.1 hv with h1 | h1
  ·have:=hq.smp _ (a0n (P:=q.P) (j:=j) (by rw [<-ha.n];exact hj)) v (List.mem_of_mem_take h1)
   rw [<-ha.d] at this
   exact this
  ·exact h.smp _ (a0n hj) v (List.mem_of_mem_drop h1)
end Go.Proofs.YtepjepkgcdfboaaGreatDoor
