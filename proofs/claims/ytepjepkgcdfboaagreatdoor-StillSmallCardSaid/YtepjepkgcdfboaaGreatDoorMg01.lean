/- Words of this seat's proofs on memory: a block that is known whole, a slice that lies at the head of a block of its own, and which blocks a call may turn. Plain lemmas, no program. -/
import Derived.WalkKit
import Derived.Deep.Draws
import Derived.Maps.AppendAt
import Derived.Test.YtepjepkgcdfboaaGreatDoorMg12
set_option linter.unusedVariables false
set_option linter.unusedSimpArgs false
namespace Go.Proofs.YtepjepkgcdfboaaGreatDoor
theorem zA {p:Prop} [inst:Decidable p] (h:¬p):decide p=false:=decide_eq_false h
theorem zB {p:Prop} [inst:Decidable p] (h:p):decide p=true:=decide_eq_true h
theorem zC {α:Type _} {as bs:List α}:(as++bs).length=as.length+bs.length:=List.length_append
theorem zD {α:Type _} {l:List α} {i:Nat} {a:α}:l.getD i a=l[i]?.getD a:=List.getD_eq_getElem?_getD
theorem zE {α:Type _} {β:Type _} {as:List α} (f:α -> β):(as.map f).length=as.length:=List.length_map f
theorem zF {α:Type _} {l:List α} {i:Nat} (h:i<l.length):l[i]? =some l[i]:=List.getElem?_eq_getElem h
theorem zG {α:Type _} {l:List α} {n:Nat} (h:n<l.length):l[n]∈l:=List.getElem_mem h
theorem zH {α:Type _} (a b c:List α):a++b++c=a++(b++c):=List.append_assoc a b c
theorem zI {α:Type _} {i:Nat} {l:List α}:(l.take i).length=min i l.length:=List.length_take
theorem zJ {α:Type _} {b:α} {l:List α} {a:α}:a∈b::l ↔ a=b\/a∈l:=List.mem_cons
theorem zK {α:Type _} {a:α} {as:List α}:(a::as).length=as.length+1:=List.length_cons
theorem zL {a b c d:Nat} (h:a<=b) (k:c<=d):a*c<=b*d:=Nat.mul_le_mul h k
theorem zM {α:Type _} {β:Type _} {f:α -> β} {a b:List α}:(a++b).map f=a.map f++b.map f:=List.map_append
theorem zN {α:Type _} {l:List α}:l.take l.length=l:=List.take_length
theorem zO {α:Type _} {i:Nat} {l:List α}:(l.drop i).length=l.length-i:=List.length_drop
theorem zP {α:Type _} {a:α} {s t:List α}:a∈s++t ↔ a∈s\/a∈t:=List.mem_append
theorem zQ (n:Nat):n<=n:=Nat.le_refl n
theorem zS {α:Type _} {l₁ l₂:List α} {i:Nat} (h:l₁.length<=i):(l₁++l₂)[i]? =l₂[i-l₁.length]?:=List.getElem?_append_right h
theorem zT {α:Type _} {i:Nat} {l:List α} (h:l.length<=i):l.take i=l:=List.take_of_length_le h
theorem zU {α:Type _} {a b:α}:a∈[b] ↔ a=b:=List.mem_singleton
theorem zV {α:Type _} {n:Nat} {a:α}:(List.replicate n a).length=n:=List.length_replicate
theorem zW {α:Type _} {β:Type _} {f:α -> β} {l:List α} {i:Nat}:(l.map f)[i]? =l[i]?.map f:=List.getElem?_map
theorem zY (a b:Nat):a*b=b*a:=Nat.mul_comm a b
theorem zZ (a b:Nat):a<b\/a≥b:=Nat.lt_or_ge a b
theorem zX {α:Sort _} (a:α):∃ x,x=a:=⟨a,rfl⟩
open Go.RowKit
theorem hid {p:Prop} (h:p):Hid p:=h
structure Chg (F:List Nat) (w w':World):Prop where
 os:w'.os=w.os
 tape:w'.tape=w.tape
 output:w'.output=w.output
 size:w.heap.size<=w'.heap.size
 block:∀ k,k<w.heap.size->k∉F->w'.heap[k]?=w.heap[k]?
section
variable {F F':List Nat} {a b c w w':World}
theorem Chg.refl (F:List Nat) (w:World):Chg F w w:=⟨rfl,rfl,rfl,zQ _,fun _ _ _=>rfl⟩
theorem zR (F:List Nat) (w:World):Chg F w w:=Chg.refl F w
theorem Chg.mono (h:Chg F a b) (hF:∀ k∈F,k<a.heap.size->k∈F'):Chg F' a b :=
 ⟨h.os,h.tape,h.output,h.size,fun k hk hn=>h.block k hk fun hm=>hn (hF k hm hk)⟩
theorem Chg.trans (h:Chg F a b) (k:Chg F' b c) (hF:∀ x∈F',x∈F\/a.heap.size<=x):Chg F a c :=
 ⟨k.os.trans h.os,k.tape.trans h.tape,k.output.trans h.output,Nat.le_trans h.size k.size,fun x hx hn =>
  (k.block x (Nat.lt_of_lt_of_le hx h.size) fun hm=>by rcases hF x hm with h1 | h1;exact hn h1;omega).trans (h.block x hx hn)⟩
theorem Chg.trans_same (h:Chg F a b) (k:Chg F b c):Chg F a c:=h.trans k fun _ h => .inl h
theorem Chg.drew (h:Chg F a w):Chg F a w.drew:=⟨h.os,h.tape,h.output,h.size,h.block⟩
theorem Chg.drewN (h:Chg F a w) (n:Nat):Chg F a (w.drewN n):=⟨h.os,h.tape,h.output,h.size,h.block⟩
theorem Chg.alloc (h:Chg F a w) (o:Obj):Chg F a (w.alloc o) :=
 h.trans_same ⟨rfl,rfl,rfl,by simp,fun k hk _=>Below.heap_alloc _ _ _ hk⟩
theorem Chg.setCell (h:Chg F a w) {p:Addr} (hp:p.block∈F\/a.heap.size<=p.block) (u:Value):Chg F a (w.setCell p u) :=
 h.trans (F':=[p.block]) ⟨rfl,rfl,rfl,by simp [World.setCell],fun k _ hn=>Below.heap_setCell _ _ _ _ (by simpa using hn)⟩ (by simpa using hp)
theorem Chg.of_grown {row:Option Nat} (hg:a.grownBy b row) (hr:∀ k,row=some k->k∈F\/a.heap.size<=k):Chg F a b :=
 ⟨hg.os,hg.tape,hg.output,hg.size,fun k hk hn=>hg.block k hk fun e=>by rcases hr k e.symm with h | h;exact hn h;omega⟩
theorem Chg.grown {row:Option Nat} (h:Chg F a w) (hg:w.grownBy w' row) (hr:∀ k,row=some k->k∈F\/a.heap.size<=k):Chg F a w' :=
 h.trans (F':=row.toList) (Chg.of_grown hg (by intro k hk;subst hk;exact .inl (by simp))) (by intro x hx;exact hr x (by simpa using hx))
theorem Chg.below (h:Chg F a b) (hF:∀ k∈F,a.heap.size<=k):Below a.heap.size a b :=
 ⟨h.os,h.tape,h.output,h.size,fun k hk=>h.block k hk fun hm=>by have:=hF k hm;omega⟩
theorem Chg.of_below (h:Below a.heap.size a b):Chg F a b:=⟨h.os,h.tape,h.output,h.size,fun k hk _=>h.block k hk⟩
theorem Chg.toBelow {B:Nat} (h:Chg F a b) (hB:B<=a.heap.size) (hF:∀ k∈F,B<=k):Below B a b :=
 ⟨h.os,h.tape,h.output,h.size,fun k hk=>h.block k (by omega) fun hm=>by have:=hF k hm;omega⟩
end
def Blk (w:World) (g:Nat) (t:TypeId) (cs:Array Value):Prop:=w.heap[g]?=some (.cells cs t (0,0))
section
variable {w w':World} {g:Nat} {t:TypeId} {cs:Array Value} {F:List Nat}
theorem Blk.lt (h:Blk w g t cs):g<w.heap.size:=by
 unfold Blk at h
 exact (Array.getElem?_eq_some_iff.1 h).1
theorem Blk.cell (h:Blk w g t cs) (i:Nat):w.cell? ⟨g,i,none⟩=cs[i]?:=cell_of_row w g i cs t (0,0) h
theorem Blk.frozen (h:Blk w g t cs) (i:Nat):w.frozen? ⟨g,i,none⟩=false:=by
 unfold Blk at h
 simp [World.frozen?,h]
theorem Blk.new (w:World) (t:TypeId) (cs:Array Value):Blk (w.alloc (.cells cs t)) w.heap.size t cs:=heap_alloc_new w _
theorem Blk.drew (h:Blk w g t cs):Blk w.drew g t cs:=h
theorem Blk.drewN (h:Blk w g t cs) (n:Nat):Blk (w.drewN n) g t cs:=h
theorem Blk.alloc (h:Blk w g t cs) (o:Obj):Blk (w.alloc o) g t cs:=(Below.heap_alloc w o g h.lt).trans h
theorem Blk.set_ (h:Blk w g t cs) (i:Nat) (u:Value):Blk (w.setCell ⟨g,i,none⟩ u) g t (cs.setIfInBounds i u):=by
 unfold Blk at h ⊢
 simp [World.setCell,Array.getElem?_modify,h]
theorem Blk.far (h:Blk w g t cs) {p:Addr} (hp:g≠p.block) (u:Value):Blk (w.setCell p u) g t cs:=(Below.heap_setCell w p u g hp).trans h
theorem Blk.chg (h:Blk w g t cs) (hc:Chg F w w') (hg:g∉F):Blk w' g t cs:=(hc.block g h.lt hg).trans h
theorem Blk.below {B:Nat} (h:Blk w g t cs) (hb:Below B w w') (hg:g<B):Blk w' g t cs:=(hb.block g hg).trans h
theorem Blk.grown {row:Option Nat} (h:Blk w g t cs) (hb:w.grownBy w' row) (hg:some g≠row):Blk w' g t cs:=(hb.block g h.lt hg).trans h
theorem Blk.ne_ {g':Nat} {t':TypeId} {cs':Array Value} (h:Blk w g t cs) (h':Blk w g' t' cs') (hne:t≠t'):g≠g':=by
 rintro rfl
 unfold Blk at h h'
 rw [h] at h'
 injection h' with h'
 injection h' with _ ht
 exact hne ht
end
structure Row (w:World) (e:TypeId) (v:Value) (g:Nat) (xs:List Value):Prop where
 ex:∃ cap cur,v=.slice (some ⟨g,0,none⟩) xs.length cap/\Blk w g e cur/\xs.length<=cap/\cap<=maxLen/\cur.size=cap/\cur.toList.take xs.length=xs
section
variable {w w':World} {e:TypeId} {v:Value} {g:Nat} {xs:List Value} {F:List Nat}
theorem Row.lt (h:Row w e v g xs):g<w.heap.size:=by obtain ⟨_,_,_,h,_⟩:=h.ex;exact h.lt
theorem Row.keep (h:Row w e v g xs) (hb:∀ t cs,Blk w g t cs->Blk w' g t cs):Row w' e v g xs:=by
 obtain ⟨aa,ab,h1,h2,h3⟩:=h.ex
 exact ⟨aa,ab,h1,hb _ _ h2,h3⟩
theorem Row.drew (h:Row w e v g xs):Row w.drew e v g xs:=h.keep fun _ _ h=>h.drew
theorem Row.drewN (h:Row w e v g xs) (n:Nat):Row (w.drewN n) e v g xs:=h.keep fun _ _ h=>h.drewN n
theorem Row.alloc (h:Row w e v g xs) (o:Obj):Row (w.alloc o) e v g xs:=h.keep fun _ _ h=>h.alloc o
theorem Row.far (h:Row w e v g xs) {p:Addr} (hp:g≠p.block) (u:Value):Row (w.setCell p u) e v g xs:=h.keep fun _ _ h=>h.far hp u
theorem Row.chg (h:Row w e v g xs) (hc:Chg F w w') (hg:g∉F):Row w' e v g xs:=h.keep fun _ _ h=>h.chg hc hg
theorem Row.grown {row:Option Nat} (h:Row w e v g xs) (hb:w.grownBy w' row) (hg:some g≠row):Row w' e v g xs:=h.keep fun _ _ h=>h.grown hb hg
theorem Row.own (h:Row w e v g xs) (base:Nat) (hb:base<=g):w.ownsRow base e 1 v xs.length xs:=by
 obtain ⟨aa,ab,h1,h2,h3,h4,h5,h6⟩:=h.ex
 exact ⟨by simp,.inr ⟨g,aa,ab,h1,hb,h2,h3,h4,by simp [h5],by simpa using h6⟩⟩
theorem Row.of_own {base n:Nat} (h:w.ownsRow base e 1 v n xs) {a:Addr} {m c:Nat} (hv:v=.slice (some a) m c):∃ g,Row w e v g xs/\v.ownBlock=some g:=by
 obtain ⟨h1,h2⟩:=h
 rcases h2 with ⟨rfl,_⟩ | ⟨g,aa,ab,rfl,_,h3,h4,h5,h6,h7⟩
 ·cases hv
 ·have hn:xs.length=n:=by simpa using h1
  subst hn
  exact ⟨g,⟨aa,ab,rfl,h3,h4,h5,by simpa using h6,by simpa using h7⟩,rfl⟩
theorem Row.own_block (h:Row w e v g xs):v.ownBlock=some g:=by
 obtain ⟨aa,ab,rfl,_⟩:=h.ex
 rfl
theorem Row.open_ (h:Row w e v g xs):∃ cap,v=.slice (some ⟨g,0,none⟩) xs.length cap/\xs.length<=cap/\cap<=maxLen/\(∀ i,i<xs.length->w.cell? ⟨g,i,none⟩=xs[i]?)/\∀ i,w.frozen? ⟨g,i,none⟩=false:=by
 obtain ⟨cap,aa,h1,h2,h3,h4,h5,h6⟩:=h.ex
 refine ⟨cap,h1,h3,h4,fun i hi => ?_,h2.frozen⟩
 rw [h2.cell i]
 have:(aa.toList.take xs.length)[i]?=xs[i]?:=by rw [h6]
 rw [List.getElem?_take,if_pos hi] at this
 simpa using this
theorem Row.open_map {α:Type} {f:α->Value} {ds:List α} (h:Row w e v g (ds.map f)):∃ cap:Nat,v=.slice (some ⟨g,0,none⟩) ds.length cap/\ds.length<=cap/\cap<=9223372036854775807/\(∀ (i:Nat) (d:α),ds[i]?=some d->w.cell? ⟨g,i,none⟩=some (f d))/\∀ i,w.frozen? ⟨g,i,none⟩=false:=by
 obtain ⟨cap,h1,h2,h3,h4,h5⟩:=h.open_
 simp only [zE] at h1 h2 h4
 refine ⟨cap,h1,h2,by simpa [maxLen] using h3,fun i d hd => ?_,h5⟩
 have hi:i<ds.length:=(List.getElem?_eq_some_iff.1 hd).1
 rw [h4 i hi,zW,hd]
 rfl
theorem Row.set_ (h:Row w e v g xs) {i:Nat} (hi:i<xs.length) (u:Value):Row (w.setCell ⟨g,i,none⟩ u) e v g (xs.set i u):=by
 obtain ⟨aa,ab,h1,h2,h3,h4,h5,h6⟩:=h.ex
 refine ⟨aa,_,by simpa using h1,h2.set_ i u,by simpa using h3,h4,by simpa using h5,?_⟩
 rw [List.length_set,Array.toList_setIfInBounds,List.take_set,h6]
theorem Row.ne_ {t:TypeId} {cs:Array Value} {b:Nat} (h:Row w e v g xs) (hb:Blk w b t cs) (hne:e≠t):g≠b:=by
 obtain ⟨_,_,_,h2,_⟩:=h.ex
 exact h2.ne_ hb hne
theorem Row.ne_row {e':TypeId} {v':Value} {g':Nat} {xs':List Value} (h:Row w e v g xs) (hb:Row w e' v' g' xs') (hne:e≠e'):g≠g':=by
 obtain ⟨_,_,_,h2,_⟩:=hb.ex
 exact h.ne_ h2 hne
theorem Row.made (w:World) (e:TypeId) (xs:List Value) (hm:xs.length<=maxLen):Row (w.alloc (.cells xs.toArray e)) e (.slice (some ⟨w.heap.size,0,none⟩) xs.length xs.length) w.heap.size xs :=
 ⟨xs.length,xs.toArray,rfl,Blk.new w e _,zQ _,hm,by simp,by simp⟩
end
structure Elem (P:Program) (t e:TypeId) (z:Value) (size bytes:Nat):Prop where
 ht:P.underlying t=some (.slice e)
 hi:∃ i,P.info? e=some i/\i.zero=some z/\i.size=size/\i.bytes=bytes
theorem Elem.mk' {P:Program} {t e:TypeId} {z:Value} {size bytes:Nat} (ht:P.underlying t=some (.slice e)) (h:(P.info? e).map (fun i=>(i.zero,i.size,i.bytes))=some (some z,size,bytes)):Elem P t e z size bytes :=
 ⟨ht,info_parts h⟩
section
variable {P:Program}
theorem run_append_sl {w:World} {t ty e:TypeId} {z:Value} {size bytes:Nat} (E:Elem P t e z size bytes) (hzs:z.cells.size=size) (hsz:0<size)
  {v:Value} {n:Nat} {xs:List Value} (hown:w.ownsRow 0 e size v n xs) {ad:Addr} {m c:Nat} {news:List Value} (hl:news.length=m*size) (hm:0<m)
  (hnews:∀ j u,news[j]?=some u->w.cell? (ad.add j)=some u) (h1:∀ u∈news,u.oneCell'=true) (h63:n+m<=9223372036854775807) (hbytes:(n+m)*bytes<=140737488355328) :
  ∃ g cap w',(Builtin.append_ #[t,t] ty #[v,.slice (some ad) m c]).run P w=.ok (.slice (some ⟨g,0,none⟩) (n+m) cap) w'/\w'.ownsRow 0 e size (.slice (some ⟨g,0,none⟩) (n+m) cap) (n+m) (xs++news) /\
   Chg v.ownBlock.toList w w'/\(some g=v.ownBlock\/w.heap.size<=g):=by
 obtain ⟨i,hi,hz,aa,ac⟩:=E.hi
 obtain ⟨v',w',hr,h2,h3,h4,h5⟩:=run_append_own_at (P:=P) w 0 t ty e i z size bytes E.ht hi hz aa ac hzs hsz v n xs hown ad m c news hl hnews h1 (by simpa [maxLen] using h63) hbytes (Nat.zero_le _)
 rcases h2.2 with ⟨rfl,hn⟩ | ⟨g,cap,ae,rfl,ab⟩
 ·omega
 ·refine ⟨g,cap,w',hr,⟨h2.1,.inr ⟨g,cap,ae,rfl,ab⟩⟩,Chg.of_grown h3 (by intro k hk;left;simp [hk]),?_⟩
  simp only [Value.ownBlock] at h5
  rcases h5 with h5 | h5
  ·exact .inl h5
  ·right
   injection h5 with h5
   omega
theorem wp_append_sl {w:World} {o:Oper} {a:Act} {K:Act->World->Prop} {Q:Exit->Act->World->Prop} {s x:Operand} {t:TypeId}
  (ho:o.op=.call { callee:=.builtin .append,args:=#[s,x],argTypes:=#[t,t] })
  {e:TypeId} {z:Value} {size bytes:Nat} (E:Elem P t e z size bytes) (hzs:z.cells.size=size) (hsz:0<size)
  {v:Value} {n:Nat} {xs:List Value} (hs:a.eval s=v) (hown:w.ownsRow 0 e size v n xs) {ad:Addr} {m c:Nat} {news:List Value} (hx:a.eval x=.slice (some ad) m c) (hl:news.length=m*size) (hm:0<m)
  (hnews:∀ j u,news[j]?=some u->w.cell? (ad.add j)=some u) (h1:∀ u∈news,u.oneCell'=true) (h63:n+m<=9223372036854775807) (hbytes:(n+m)*bytes<=140737488355328)
  (h:∀ g cap w',w'.ownsRow 0 e size (.slice (some ⟨g,0,none⟩) (n+m) cap) (n+m) (xs++news)->Chg v.ownBlock.toList w w'->(some g=v.ownBlock\/w.heap.size<=g)->K (a.put o.dst (.slice (some ⟨g,0,none⟩) (n+m) cap)) w'):o.wp P a w K Q:=by
 obtain ⟨g,cap,w',hr,h2,h3,h4⟩:=run_append_sl (P:=P) (ty:=o.type) E hzs hsz hown (ad:=ad) (c:=c) hl hm hnews h1 h63 hbytes
 unfold Oper.wp execOp
 simp only [ho,resolve,invoke,builtin,Sem.run_bind,Sem.run_pure,Result.andThen_ok,List.map_toArray,List.map_cons,List.map_nil,hs,hx,hr]
 exact h g cap w' h2 h3 h4
theorem wpList_append_sl {w:World} {ops:Array Oper} {rest:List Oper} {o:Oper} {a:Act} {Q:Exit->Act->World->Prop} (hgd:o.guard=none) {s x:Operand} {t:TypeId}
  (ho:o.op=.call { callee:=.builtin .append,args:=#[s,x],argTypes:=#[t,t] })
  {e:TypeId} {z:Value} {size bytes:Nat} (E:Elem P t e z size bytes) (hzs:z.cells.size=size) (hsz:0<size)
  {v:Value} {n:Nat} {xs:List Value} (hs:a.eval s=v) (hown:w.ownsRow 0 e size v n xs) {ad:Addr} {m c:Nat} {news:List Value} (hx:a.eval x=.slice (some ad) m c) (hl:news.length=m*size) (hm:0<m)
  (hnews:∀ j u,news[j]?=some u->w.cell? (ad.add j)=some u) (h1:∀ u∈news,u.oneCell'=true) (h63:n+m<=9223372036854775807) (hbytes:(n+m)*bytes<=140737488355328)
  (h:∀ g cap w',w'.ownsRow 0 e size (.slice (some ⟨g,0,none⟩) (n+m) cap) (n+m) (xs++news)->Chg v.ownBlock.toList w w'->(some g=v.ownBlock\/w.heap.size<=g)->wpList P ops Q rest (a.put o.dst (.slice (some ⟨g,0,none⟩) (n+m) cap)) w'):wpList P ops Q (o::rest) a w :=
 wpList_plain hgd fun _ hK=>wp_append_sl ho E hzs hsz hs hown hx hl hm hnews h1 h63 hbytes fun g cap w' h2 h3 h4=>hK _ _ (h g cap w' h2 h3 h4)
theorem wpList_append_row1 {w : World} {ops : Array Oper} {rest : List Oper} {o : Oper} {a : Act} {Q : Exit -> Act -> World -> Prop} (hgd : o.guard = none) {s x : Operand} {t : TypeId}
    (ho:o.op=.call { callee:=.builtin .append,args:=#[s,x],argTypes:=#[t,t] })
    {e:TypeId} {z:Value} {bytes:Nat} (E:Elem P t e z 1 bytes) (hzs:z.cells.size=1)
    {v:Value} {g:Nat} {xs:List Value} (hs:a.eval s=v) (hr:Row w e v g xs) {B c:Nat} (u:Value) (hx:a.eval x=.slice (some ⟨B,0,none⟩) 1 c)
    (hu:w.cell? ⟨B,0,none⟩=some u) (h1:u.oneCell'=true) (hbytes:(xs.length+1)*bytes<=140737488355328) (h63:xs.length<9223372036854775807)
    (h:∀ g' cap w',Row w' e (.slice (some ⟨g',0,none⟩) (xs.length+1) cap) g' (xs++[u])->Chg [g] w w'->(g'=g\/w.heap.size<=g')->wpList P ops Q rest (a.put o.dst (.slice (some ⟨g',0,none⟩) (xs.length+1) cap)) w'):wpList P ops Q (o::rest) a w:=by
  refine wpList_append_sl hgd ho E hzs (by decide) hs (hr.own 0 (Nat.zero_le _)) hx (news:=[u]) (by simp) (by decide) ?_ (by simpa using h1) (by omega) hbytes ?_
  · intro j u' hj
    match j,hj with
    | 0,hj=>simp at hj;subst hj;simpa [Addr.add] using hu
  · intro g' cap w' h2 h3 h4
    obtain ⟨aa,h5,h6⟩:=Row.of_own h2 rfl
    rw [hr.own_block] at h3 h4
    simp only [Value.ownBlock] at h6
    injection h6 with h6
    subst h6
    exact h g' cap w' h5 h3 (by rcases h4 with h4 | h4; · left; injection h4
                                · exact .inr h4)
end
theorem run_make1 {P:Program} {t e:TypeId} {z:Value} {bytes:Nat} (E:Elem P t e z 1 bytes) (hzs:z.cells=#[z]) (kl kc:IntKind) (n:Nat) (hb:bytes*n<=281474976710656) (h63:n<=9223372036854775807) (w:World) :
  (Instr.makeSlice t (.int kl (n:Int)) (.int kc (n:Int))).run P w=.ok (.slice (some ⟨w.heap.size,0,none⟩) n n) (w.alloc (.cells (List.replicate n z).toArray e)):=by
 obtain ⟨i,hi,hz,aa,ab⟩:=E.hi
 subst ab
 have ac:(i.bytes:Int)*(n:Int)<=281474976710656:=by
  have h:((i.bytes*n:Nat):Int)<=281474976710656:=by omega
  rwa [Int.natCast_mul] at h
 have hr:=run_make (P:=P) w t e i z E.ht hi hz kl kc n n (by omega) (Int.le_refl _) ac (by omega)
 rw [hr,aa,hzs]
 simp only [Int.toNat_natCast,Nat.mul_one]
 have:madeCells #[z] n=(List.replicate n z).toArray:=by
  apply Array.toList_inj.1
  rw [toList_madeCells_one]
 rw [this]
section
variable {w w':World} {base:Nat} {e:TypeId} {size n:Nat} {v:Value} {xs:List Value} {F:List Nat}
theorem own_chg (h:w.ownsRow base e size v n xs) (hc:Chg F w w') (hv:∀ k,v.ownBlock=some k->k∉F):w'.ownsRow base e size v n xs:=by
 refine ⟨h.1,?_⟩
 rcases h.2 with hn | ⟨g,aa,ab,rfl,hb,hg,rest⟩
 ·exact .inl hn
 ·exact .inr ⟨g,aa,ab,rfl,hb,(hc.block g (Array.getElem?_eq_some_iff.1 hg).1 (hv g rfl)).trans hg,rest⟩
theorem own_ne (h:w.ownsRow base e size v n xs) {g:Nat} {t:TypeId} {cs:Array Value} (hg:Blk w g t cs) (hne:e≠t):v.ownBlock≠some g:=by
 rcases h.2 with ⟨rfl,_⟩ | ⟨g',ab,aa,rfl,_,hh,_⟩
 ·simp [Value.ownBlock]
 ·intro he
  simp only [Value.ownBlock] at he
  injection he with he
  subst he
  exact (show Blk w g' e aa from hh).ne_ hg hne rfl
theorem own_lt (h:w.ownsRow base e size v n xs):∀ k,v.ownBlock=some k->k<w.heap.size:=fun k hk=>(h.lt k hk).2
end
structure Cells {α:Type} (f:α->Value) (w:World) (A:Option Addr) (l:List α):Prop where
 ex:0<l.length->∃ b o,A=some ⟨b,o,none⟩/\b<w.heap.size/\∀ (i:Nat) (a:α),l[i]?=some a->w.cell? ⟨b,o+i,none⟩=some (f a)
theorem Cells.chg {α:Type} {f:α->Value} {w w':World} {A:Option Addr} {l:List α} {F:List Nat} (h:Cells f w A l) (hc:Chg F w w') (hA:∀ ad,A=some ad->ad.block∉F):Cells f w' A l :=
 ⟨fun h0=>by
  obtain ⟨b0,o0,e0,hb0,hcells⟩:=h.ex h0
  exact ⟨b0,o0,e0,Nat.lt_of_lt_of_le hb0 hc.size,fun i a ha=>(World.cell?_of_block (w:=w) (hc.block b0 hb0 (hA _ e0))).trans (hcells i a ha)⟩⟩
theorem Cells.same {α:Type} {f:α->Value} {w w':World} {A:Option Addr} {l:List α} (h:Cells f w A l) (hc:Chg [] w w'):Cells f w' A l:=h.chg hc (by simp)
structure Grow (F F':List Nat) (w w':World):Prop where
 chg:Chg F w w'
 new:∀ x∈F',x∈F\/w.heap.size<=x
section
variable {F F' F'':List Nat} {a b c w w':World} {g:Nat}
theorem Grow.refl (F:List Nat) (w:World):Grow F F w w:=⟨zR _ _,fun _ h => .inl h⟩
theorem Grow.trans (h:Grow F F' a b) (k:Grow F' F'' b c):Grow F F'' a c :=
 ⟨h.chg.trans k.chg h.new,fun x hx=>by
  rcases k.new x hx with h1 | h1
  ·exact h.new x h1
  ·exact .inr (Nat.le_trans h.chg.size h1)⟩
theorem Grow.same (h:Grow F F' a b) (k:Chg [] b c):Grow F F' a c :=
 ⟨h.chg.trans k (by simp),h.new⟩
theorem Grow.pre (k:Chg [] a b) (h:Grow F F' b c):Grow F F' a c :=
  ⟨⟨h.chg.os.trans k.os,h.chg.tape.trans k.tape,h.chg.output.trans k.output,Nat.le_trans k.size h.chg.size,fun x hx hn=>(h.chg.block x (Nat.lt_of_lt_of_le hx k.size) hn).trans (k.block x hx (by simp))⟩,
   fun x hx=>by rcases h.new x hx with h1 | h1;exact .inl h1;exact .inr (Nat.le_trans k.size h1)⟩
theorem Grow.drewN (h:Grow F F' a b) (n:Nat):Grow F F' a (b.drewN n):=⟨h.chg.drewN n,h.new⟩
theorem Grow.drew (h:Grow F F' a b):Grow F F' a b.drew:=⟨h.chg.drew,h.new⟩
theorem Grow.alloc (h:Grow F F' a b) (o:Obj):Grow F F' a (b.alloc o):=⟨h.chg.alloc o,h.new⟩
theorem Grow.setCell (h:Grow F F' a b) {p:Addr} (hp:p.block∈F') (u:Value):Grow F F' a (b.setCell p u) :=
 ⟨h.chg.setCell (h.new _ hp) u,h.new⟩
theorem Grow.cons (h:Grow F F' a b) (x:Nat):Grow (x::F) (x::F') a b :=
 ⟨h.chg.mono fun k hk _=>by simp [hk],fun k hk=>by
  rcases zJ.1 hk with rfl | hk
  ·exact .inl (by simp)
  ·rcases h.new k hk with h1 | h1
   ·exact .inl (by simp [h1])
   ·exact .inr h1⟩
theorem Grow.mono (h:Grow F F' a b) {G:List Nat} (hF:∀ x∈F,x∈G):Grow G F' a b :=
 ⟨h.chg.mono fun k hk _=>hF k hk,fun k hk=>by
  rcases h.new k hk with h1 | h1
  ·exact .inl (hF k h1)
  ·exact .inr h1⟩
theorem Grow.out (h:Grow F F' w w') (hg:g<w.heap.size) (hn:g∉F):g∉F':=fun hm=>by
 rcases h.new g hm with h1 | h1
 ·exact hn h1
 ·omega
theorem Grow.size (h:Grow F F' w w'):w.heap.size<=w'.heap.size:=h.chg.size
theorem Grow.fresh (h:Grow F F' a b) (hF:∀ x∈F,w.heap.size<=x) (k:Chg [] w a):Chg [] w b :=
 k.trans h.chg fun x hx => .inr (hF x hx)
end
structure Own (w:World) (e:TypeId) (v:Value) (F:List Nat) (xs:List Value):Prop where
 own:w.ownsRow 0 e 1 v xs.length xs
 fp:F=v.ownBlock.toList
section
variable {w w':World} {e:TypeId} {v:Value} {F G G':List Nat} {xs:List Value}
theorem Own.nil (w:World) (e:TypeId):Own w e (.slice none 0 0) [] []:=⟨World.ownsRow_nil _ 0 _ _,rfl⟩
theorem Own.chg (h:Own w e v F xs) (hc:Chg G w w') (hd:∀ x∈F,x∉G):Own w' e v F xs :=
 ⟨own_chg h.own hc fun k hk=>hd k (by rw [h.fp,hk];simp),h.fp⟩
theorem Own.same (h:Own w e v F xs) (hc:Chg [] w w'):Own w' e v F xs:=h.chg hc (by simp)
theorem Own.lt (h:Own w e v F xs):∀ x∈F,x<w.heap.size:=fun x hx=>by
 rw [h.fp] at hx
 exact own_lt h.own x (by simpa using hx)
theorem Own.ne_ (h:Own w e v F xs) {g:Nat} {t:TypeId} {cs:Array Value} (hg:Blk w g t cs) (hne:e≠t):g∉F:=fun hm=>by
 rw [h.fp] at hm
 exact own_ne h.own hg hne (by simpa using hm)
theorem Row.toOwn {g:Nat} (h:Row w e v g xs):Own w e v [g] xs:=⟨h.own 0 (Nat.zero_le _),by rw [h.own_block];rfl⟩
theorem Own.cases (h:Own w e v F xs):(v=.slice none 0 0/\xs=[]/\F=[])\/∃ g,Row w e v g xs/\F=[g]:=by
 obtain ⟨h1,h2⟩:=h.own
 rcases h2 with ⟨rfl,h3⟩ | ⟨g,aa,ab,rfl,h2,h3,h4,h5,h6,h7⟩
 ·exact .inl ⟨rfl,List.eq_nil_of_length_eq_zero h3,by rw [h.fp];rfl⟩
 ·refine .inr ⟨g,⟨aa,ab,rfl,h3,h4,h5,by simpa using h6,by simpa using h7⟩,by rw [h.fp];rfl⟩
theorem Own.open_ (h:Own w e v F xs):∃ (A:Option Addr) (cap:Nat),v=.slice A xs.length cap/\xs.length<=cap/\cap<=9223372036854775807/\Cells (fun v=>v) w A xs /\
  ∀ ad,A=some ad->∃ g,ad=⟨g,0,none⟩/\F=[g]/\∀ i,w.frozen? ⟨g,i,none⟩=false:=by
 rcases h.cases with ⟨rfl,rfl,rfl⟩ | ⟨g,hr,rfl⟩
 ·exact ⟨none,0,rfl,zQ _,by decide,⟨fun h=>by simp at h⟩,fun ad h=>by cases h⟩
 ·have aa:=hr.lt
  obtain ⟨cap,rfl,h2,h3,h4,h5⟩:=hr.open_
  exact ⟨some ⟨g,0,none⟩,cap,rfl,h2,by simpa [maxLen] using h3,⟨fun _=>⟨g,0,rfl,aa,fun i a ha=>by
   rw [Nat.zero_add,h4 i (List.getElem?_eq_some_iff.1 ha).1,ha]⟩⟩,fun ad h=>by
    injection h with h
    exact ⟨g,h.symm,rfl,h5⟩⟩
end
section
variable {w w':World} {e:TypeId} {v:Value} {F G G':List Nat} {xs:List Value}
theorem Own.alloc (h:Own w e v F xs) (o:Obj):Own (w.alloc o) e v F xs:=h.same ((zR [] w).alloc o)
theorem Own.drewN (h:Own w e v F xs) (n:Nat):Own (w.drewN n) e v F xs:=h.same ((zR [] w).drewN n)
theorem Own.drew (h:Own w e v F xs):Own w.drew e v F xs:=h.same (zR [] w).drew
theorem Own.far (h:Own w e v F xs) {p:Addr} (hp:p.block∉F) (u:Value):Own (w.setCell p u) e v F xs :=
 h.chg ((zR [p.block] w).setCell (by simp) u) (by intro x hx hm;simp at hm;subst hm;exact hp hx)
theorem Own.row (h:Own w e v F xs) {g n c:Nat} (hv:v=.slice (some ⟨g,0,none⟩) n c):Row w e v g xs/\F=[g]:=by
 rcases h.cases with ⟨rfl,_⟩ | ⟨g',hr,rfl⟩
 ·cases hv
 ·have:=hr.own_block
  rw [hv] at this
  simp only [Value.ownBlock] at this
  injection this with this
  subst this
  exact ⟨hr,rfl⟩
theorem Own.open_map {α:Type} {f:α->Value} {ds:List α} (h:Own w e v F (ds.map f)):∃ (A:Option Addr) (cap:Nat),v=.slice A ds.length cap/\ds.length<=cap/\cap<=9223372036854775807/\Cells f w A ds:=by
 obtain ⟨A,cap,h1,h2,h3,h4,_⟩:=h.open_
 simp only [zE] at h1 h2
 refine ⟨A,cap,h1,h2,h3,⟨fun h0 => ?_⟩⟩
 obtain ⟨b,o,e1,e2,e3⟩:=h4.ex (by simpa using h0)
 exact ⟨b,o,e1,e2,fun i a ha=>e3 i (f a) (by rw [zW,ha];rfl)⟩
end
theorem Cells.map {α β:Type} {f:β->Value} {k:α->β} {w:World} {A:Option Addr} {l:List α} (h:Cells f w A (l.map k)):Cells (fun x=>f (k x)) w A l :=
 ⟨fun h0=>by
  obtain ⟨b,o,e1,e2,e3⟩:=h.ex (by simpa using h0)
  exact ⟨b,o,e1,e2,fun i a ha=>e3 i (k a) (by rw [zW,ha];rfl)⟩⟩
theorem Cells.drewN {α:Type} {f:α->Value} {w:World} {A:Option Addr} {l:List α} (h:Cells f w A l) (n:Nat):Cells f (w.drewN n) A l:=h.chg ((zR [] w).drewN n) (by simp)
def Apt {α:Type} (A:Option Addr) (l:List α) (F:List Nat):Prop:=0<l.length->∀ ad,A=some ad->ad.block∉F
section
variable {α:Type} {f:α->Value} {w w':World} {A:Option Addr} {l:List α} {F F':List Nat}
theorem Cells.keep (h:Cells f w A l) (a:Apt A l F) (hc:Chg F w w'):Cells f w' A l :=
 ⟨fun h0=>by
  obtain ⟨b0,o0,e0,hb0,hcells⟩:=h.ex h0
  exact ⟨b0,o0,e0,Nat.lt_of_lt_of_le hb0 hc.size,fun i x hx=>(World.cell?_of_block (w:=w) (hc.block b0 hb0 (a h0 _ e0))).trans (hcells i x hx)⟩⟩
theorem Apt.grow (a:Apt A l F) (h:Cells f w A l) (g:Grow F F' w w'):Apt A l F':=fun h0 ad e=>by
 obtain ⟨b0,o0,e0,hb0,_⟩:=h.ex h0
 have ha:=a h0 ad e
 rw [e] at e0
 injection e0 with e0
 subst e0
 exact g.out hb0 ha
theorem Apt.fresh (h:Cells f w A l) (hF:∀ x∈F,w.heap.size<=x):Apt A l F:=fun h0 ad e hm=>by
 obtain ⟨b0,o0,e0,hb0,_⟩:=h.ex h0
 rw [e] at e0
 injection e0 with e0
 subst e0
 have:=hF _ hm
 simp at this
 omega
theorem Apt.nil (F:List Nat):Apt A ([]:List α) F:=fun h=>by simp at h
theorem Apt.of {β:Type} {l':List β} (a:Apt A l F) (h:l'.length<=l.length):Apt A l' F:=fun h0=>a (by omega)
theorem Apt.to {A':Option Addr} {β:Type} {l':List β} (a:Apt A l F) (h:l'.length<=l.length) (hb:∀ ad,A'=some ad->∃ ad0,A=some ad0/\ad.block=ad0.block):Apt A' l' F:=fun h0 ad e=>by
 obtain ⟨ad0,e0,h1⟩:=hb ad e
 rw [h1]
 exact a (by omega) ad0 e0
theorem Own.cells {e:TypeId} {n c:Nat} (h:Own w e (.slice A n c) F (l.map f)):Cells f w A l:=by
 obtain ⟨A',aa,h1,_,_,h2⟩:=h.open_map
 injection h1 with h1
 subst h1
 exact h2
theorem Own.apt {β:Type} {l':List β} {e:TypeId} {n c:Nat} {xs:List Value} (h:Own w e (.slice A n c) F xs) (hd:∀ x∈F,x∉F'):Apt A l' F':=fun _ ad e=>by
 subst e
 have h1:=h.fp
 rcases h.cases with ⟨h2,_⟩ | ⟨g,hr,rfl⟩
 ·cases h2
 ·obtain ⟨cap,h3,_⟩:=hr.open_
  injection h3 with h3
  injection h3 with h3
  subst h3
  exact hd _ (by simp)
end
section
variable {P:Program}
theorem wpList_append_o {w:World} {ops:Array Oper} {rest:List Oper} {o:Oper} {a:Act} {Q:Exit->Act->World->Prop} (hgd:o.guard=none) {s x:Operand} {t:TypeId}
  (ho:o.op=.call { callee:=.builtin .append,args:=#[s,x],argTypes:=#[t,t] })
  {e:TypeId} {z:Value} {bytes:Nat} (E:Elem P t e z 1 bytes) (hzs:z.cells.size=1)
  {v:Value} {F:List Nat} {xs:List Value} (hs:a.eval s=v) (hown:Own w e v F xs) {ad:Addr} {c:Nat} (news:List Value) (hx:a.eval x=.slice (some ad) news.length c) (hm:0<news.length)
  (hnews:∀ j u,news[j]?=some u->w.cell? (ad.add j)=some u) (h1:∀ u∈news,u.oneCell'=true) (h63:xs.length+news.length<=9223372036854775807) (hbytes:(xs.length+news.length)*bytes<=140737488355328)
  (h:∀ g cap w',Row w' e (.slice (some ⟨g,0,none⟩) (xs.length+news.length) cap) g (xs++news)->Grow F [g] w w'->wpList P ops Q rest (a.put o.dst (.slice (some ⟨g,0,none⟩) (xs.length+news.length) cap)) w'):wpList P ops Q (o::rest) a w:=by
 refine wpList_append_sl hgd ho E hzs (by decide) hs hown.own hx (news:=news) (by simp) hm hnews h1 h63 hbytes ?_
 intro g' cap w' h2 h3 h4
 obtain ⟨aa,h5,h6⟩:=Row.of_own h2 rfl
 simp only [Value.ownBlock] at h6
 injection h6 with h6
 subst h6
 rw [<-hown.fp] at h3
 refine h g' cap w' h5 ⟨h3,fun x hx => ?_⟩
 simp at hx
 subst hx
 rcases h4 with h4 | h4
 ·left;rw [hown.fp,<-h4];simp
 ·exact .inr h4
theorem wpList_append_o1 {w:World} {ops:Array Oper} {rest:List Oper} {o:Oper} {a:Act} {Q:Exit->Act->World->Prop} (hgd:o.guard=none) {s x:Operand} {t:TypeId}
  (ho:o.op=.call { callee:=.builtin .append,args:=#[s,x],argTypes:=#[t,t] })
  {e:TypeId} {z:Value} {bytes:Nat} (E:Elem P t e z 1 bytes) (hzs:z.cells.size=1)
  {v:Value} {F:List Nat} {xs:List Value} (hs:a.eval s=v) (hown:Own w e v F xs) {B c:Nat} (u:Value) (hx:a.eval x=.slice (some ⟨B,0,none⟩) 1 c)
  (hu:w.cell? ⟨B,0,none⟩=some u) (h1:u.oneCell'=true) (hbytes:(xs.length+1)*bytes<=140737488355328) (h63:xs.length<9223372036854775807)
  (h:∀ g cap w',Row w' e (.slice (some ⟨g,0,none⟩) (xs.length+1) cap) g (xs++[u])->Grow F [g] w w'->wpList P ops Q rest (a.put o.dst (.slice (some ⟨g,0,none⟩) (xs.length+1) cap)) w'):wpList P ops Q (o::rest) a w:=by
 refine wpList_append_o hgd ho E hzs hs hown [u] hx (by simp) ?_ (by simpa using h1) (by simp;omega) (by simpa using hbytes) h
 intro j u' hj
 match j,hj with
 | 0,hj=>simp at hj;subst hj;simpa [Addr.add] using hu
theorem step_append_o1 {w:World} {ops:Array Oper} {o:Oper} {a:Act} {K:Act->World->Prop} {Q:Exit->Act->World->Prop} {E0:Prop} (hgd:o.guard=none) {s x:Operand} {t:TypeId}
  (ho:o.op=.call { callee:=.builtin .append,args:=#[s,x],argTypes:=#[t,t] })
  {e:TypeId} {z:Value} {bytes:Nat} (E:Elem P t e z 1 bytes) (hzs:z.cells.size=1)
  {v:Value} {F:List Nat} {xs:List Value} (hs:a.eval s=v) (hown:Own w e v F xs) {B c:Nat} (u:Value) (hx:a.eval x=.slice (some ⟨B,0,none⟩) 1 c)
  (hu:w.cell? ⟨B,0,none⟩=some u) (h1:u.oneCell'=true) (hbytes:(xs.length+1)*bytes<=140737488355328) (h63:xs.length<9223372036854775807)
  (h:∀ g cap w',Row w' e (.slice (some ⟨g,0,none⟩) (xs.length+1) cap) g (xs++[u])->Grow F [g] w w'->K (a.put o.dst (.slice (some ⟨g,0,none⟩) (xs.length+1) cap)) w') :
  if Region.wanted o (yielded ops a.tmps)=true then Oper.wp P o a w K Q else E0:=by
 rw [if_pos (by simp [Region.wanted,hgd])]
 refine wp_append_sl ho E hzs (by decide) hs hown.own hx (news:=[u]) (by simp) (by decide) ?_ (by simpa using h1) (by omega) hbytes ?_
 ·intro j u' hj
  match j,hj with
  | 0,hj=>simp at hj;subst hj;simpa [Addr.add] using hu
 ·intro g' cap w' h2 h3 h4
  obtain ⟨aa,h5,h6⟩:=Row.of_own h2 rfl
  simp only [Value.ownBlock] at h6
  injection h6 with h6
  subst h6
  rw [<-hown.fp] at h3
  refine h g' cap w' h5 ⟨h3,fun x hx => ?_⟩
  simp at hx
  subst hx
  rcases h4 with h4 | h4
  ·left;rw [hown.fp,<-h4];simp
  ·exact .inr h4
end
def bt (bs:List Nat) (k:Nat):Nat:=bs.getD k 0
def byteAt (bs:List Nat) (i:Nat):Nat :=
 bt bs (8*i)*128+bt bs (8*i+1)*64+bt bs (8*i+2)*32+bt bs (8*i+3)*16+bt bs (8*i+4)*8+bt bs (8*i+5)*4+bt bs (8*i+6)*2+bt bs (8*i+7)
def packed (bs:List Nat):List Nat:=(List.range ((bs.length+7) / 8)).map (byteAt bs)
theorem packed_len (bs:List Nat):(packed bs).length=(bs.length+7) / 8:=by simp [packed]
theorem bt_out {bs:List Nat} {k:Nat} (h:bs.length<=k):bt bs k=0:=by
 unfold bt
 rw [zD,List.getElem?_eq_none h]
 rfl
theorem bt_snoc (bs:List Nat) (b k:Nat):bt (bs++[b]) k=if k<bs.length then bt bs k else if k=bs.length then b else 0:=by
 by_cases h:k<bs.length
 ·rw [if_pos h]
  unfold bt
  rw [zD,zD,List.getElem?_append_left h]
 ·rw [if_neg h]
  by_cases h2:k=bs.length
  ·rw [if_pos h2,h2]
   unfold bt
   rw [zD,zS (zQ _)]
   simp
  ·rw [if_neg h2]
   exact bt_out (by simp;omega)
theorem byteAt_full {bs:List Nat} {b i:Nat} (h:8*i+8<=bs.length):byteAt (bs++[b]) i=byteAt bs i:=by
 unfold byteAt
 simp only [bt_snoc]
 rw [if_pos (by omega),if_pos (by omega),if_pos (by omega),if_pos (by omega),if_pos (by omega),if_pos (by omega),if_pos (by omega),if_pos (by omega)]
theorem byteAt_last {bs:List Nat} {b i r:Nat} (hl:bs.length=8*i+r) (hr:r<8):byteAt (bs++[b]) i=byteAt bs i+b*2^(7-r):=by
 have z:∀ j,r<=j->bt bs (8*i+j)=0:=fun j hj=>bt_out (by omega)
 have s:∀ j,bt (bs++[b]) (8*i+j)=if j<r then bt bs (8*i+j) else if j=r then b else 0:=fun j=>by
  rw [bt_snoc,hl]
  by_cases h1:j<r
  ·rw [if_pos h1,if_pos (by omega)]
  ·rw [if_neg h1,if_neg (by omega)]
   by_cases h2:j=r
   ·rw [if_pos h2,if_pos (by omega)]
   ·rw [if_neg h2,if_neg (by omega)]
 have s0:=s 0
 have z0:=z 0
 simp only [Nat.add_zero] at s0 z0
 unfold byteAt
 rw [s0,s 1,s 2,s 3,s 4,s 5,s 6,s 7]
 have z1:=z 1
 have z2:=z 2
 have z3:=z 3
 have z4:=z 4
 have z5:=z 5
 have z6:=z 6
 have z7:=z 7
 clear s0 s z hl
 obtain rfl | rfl | rfl | rfl | rfl | rfl | rfl | rfl:r=0\/r=1\/r=2\/r=3\/r=4\/r=5\/r=6\/r=7:=by omega
 all_goals
  simp at *
  omega
theorem byteAt_low {bs:List Nat} {i r:Nat} (hl:bs.length=8*i+r) (hr:r<8):byteAt bs i%2^(8-r)=0:=by
 have z:∀ j,r<=j->bt bs (8*i+j)=0:=fun j hj=>bt_out (by omega)
 have z0:=z 0
 simp only [Nat.add_zero] at z0
 have z1:=z 1
 have z2:=z 2
 have z3:=z 3
 have z4:=z 4
 have z5:=z 5
 have z6:=z 6
 have z7:=z 7
 unfold byteAt
 clear z hl
 obtain rfl | rfl | rfl | rfl | rfl | rfl | rfl | rfl:r=0\/r=1\/r=2\/r=3\/r=4\/r=5\/r=6\/r=7:=by omega
 all_goals
  simp at *
  omega
theorem byteAt_lt {bs:List Nat} (h:∀ b∈bs,b<2) (i:Nat):byteAt bs i<256:=by
 have s:∀ k,bt bs k<=1:=fun k=>by
  unfold bt
  rw [zD]
  cases e:bs[k]? with
  | none=>simp
  | some v=>have := h v (List.mem_of_getElem? e);simp;omega
 unfold byteAt
 have:=s (8*i)
 have:=s (8*i+1)
 have:=s (8*i+2)
 have:=s (8*i+3)
 have:=s (8*i+4)
 have:=s (8*i+5)
 have:=s (8*i+6)
 have:=s (8*i+7)
 omega
theorem packed_new {bs:List Nat} {b:Nat} (h:bs.length%8=0):packed (bs++[b])=packed bs++[b*128]:=by
 obtain ⟨i,hi⟩:∃ i,bs.length=8*i+0:=⟨bs.length / 8,by omega⟩
 unfold packed
 have e1:((bs++[b]).length+7) / 8=i+1:=by simp;omega
 have e2:(bs.length+7) / 8=i:=by omega
 rw [e1,e2,List.range_succ,zM]
 congr 1
 ·refine List.map_congr_left fun k hk=>byteAt_full ?_
  have:=List.mem_range.1 hk
  omega
 ·have h0:=byteAt_low hi (by omega)
  have hz:byteAt bs i=0:=by
   unfold byteAt
   rw [bt_out (by omega),bt_out (by omega),bt_out (by omega),bt_out (by omega),bt_out (by omega),bt_out (by omega),bt_out (by omega),bt_out (by omega)]
  simp [byteAt_last hi (by omega),hz]
theorem packed_in {bs:List Nat} {b:Nat} (h:bs.length%8≠0) :
  packed (bs++[b])=(packed bs).set (bs.length / 8) (byteAt bs (bs.length / 8)+b*2^(7-bs.length%8)):=by
 have hl:bs.length=8*(bs.length / 8)+bs.length%8:=by omega
 have e1:((bs++[b]).length+7) / 8=bs.length / 8+1:=by simp;omega
 have e2:(bs.length+7) / 8=bs.length / 8+1:=by omega
 have h1:=byteAt_last (b:=b) hl (by omega)
 unfold packed
 rw [e1,e2,List.range_succ,zM,zM,List.set_append_right _ _ (by simp)]
 congr 1
 ·refine List.map_congr_left fun k hk=>byteAt_full ?_
  have:=List.mem_range.1 hk
  omega
 ·simp [h1]
theorem or_low {x y k:Nat} (h:x%2^k=0) (hy:y<2^k):x ||| y=x+y:=by
 obtain ⟨q,rfl⟩:=Nat.dvd_of_mod_eq_zero h
 exact (Nat.two_pow_add_eq_or_of_lt hy q).symm
theorem or_bit {bs:List Nat} {i r b:Nat} (hl:bs.length=8*i+r) (hr:r<8) (hb:b<2):byteAt bs i ||| (b*2^(7-r))=byteAt bs i+b*2^(7-r):=by
 refine or_low (byteAt_low hl hr) ?_
 have e:8-r=(7-r)+1:=by omega
 have hp:0<2^(7-r):=Nat.two_pow_pos _
 rw [e,Nat.pow_succ]
 generalize 2^(7-r)=p at *
 obtain rfl | rfl:b=0\/b=1:=by omega
 all_goals omega
def bitsOf (v:Nat):Nat->List Nat
 | 0=>[]
 | n+1=>(v / 2^n%2)::bitsOf v n
theorem bitsOf_len (v:Nat):∀ n,(bitsOf v n).length=n
 | 0=>rfl
 | n+1=>by rw [bitsOf,zK,bitsOf_len v n]
def wrapI (v:Int) (d:Nat):Int:=v%2^d
def foldI (v:Int) (d:Nat):Int:=if 2^(d-1)<=wrapI v d then wrapI v d-2^d else wrapI v d
theorem two_pow_pos' (d:Nat):(0:Int)<2^d:=Int.pow_pos (by decide)
theorem two_pow_half {d:Nat} (hd:1<=d):(2:Int)^d=2*2^(d-1):=by
 obtain ⟨e,rfl⟩:∃ e,d=e+1:=⟨d-1,by omega⟩
 rw [Nat.add_sub_cancel,Int.pow_succ];omega
theorem wrapI_lo (v:Int) (d:Nat):0<=wrapI v d:=Int.emod_nonneg _ (by have:=two_pow_pos' d;omega)
theorem wrapI_hi (v:Int) (d:Nat):wrapI v d<2^d:=Int.emod_lt_of_pos _ (two_pow_pos' d)
theorem wrapI_in {v:Int} {d:Nat} (h0:0<=v) (h1:v<2^d):wrapI v d=v:=Int.emod_eq_of_lt h0 h1
theorem foldI_range (v:Int) {d:Nat} (hd:1<=d) : -2^(d-1)<=foldI v d/\foldI v d<2^(d-1):=by
 have h0:=wrapI_lo v d
 have h1:=wrapI_hi v d
 have h2:=two_pow_half hd
 unfold foldI
 generalize wrapI v d=u at *
 generalize (2:Int)^(d-1)=p at *
 generalize (2:Int)^d=q at *
 split<;>omega
theorem foldI_wrap (v:Int) (d:Nat):wrapI (foldI v d) d=wrapI v d:=by
 unfold foldI
 split
 ·unfold wrapI
  rw [<-Int.emod_add_mul_ediv (v%2^d-2^d) (2^d)]
  have:(v%2^d-2^d)%2^d=v%2^d:=by
   rw [Int.sub_emod,Int.emod_self,Int.emod_emod]
   simp
  rw [Int.emod_add_mul_ediv,this]
 ·unfold wrapI
  rw [Int.emod_emod]
theorem foldI_in {v:Int} {d:Nat} (hd:1<=d) (h0 : -2^(d-1)<=v) (h1:v<2^(d-1)):foldI v d=v:=by
 have h2:=two_pow_half hd
 by_cases hv:0<=v
 ·unfold foldI
  rw [wrapI_in hv (by omega),if_neg (by omega)]
 ·have e:wrapI v d=v+2^d:=by
   unfold wrapI
   rw [<-Int.add_emod_right]
   exact Int.emod_eq_of_lt (by omega) (by omega)
  unfold foldI
  rw [e,if_pos (by omega)]
  omega
theorem wrapI_add_wrap (a b:Int) (d:Nat):wrapI (a+wrapI b d) d=wrapI (a+b) d:=by
 unfold wrapI
 rw [Int.add_emod,Int.emod_emod,<-Int.add_emod]
theorem unfold_fold {s g:Int} {d:Nat} (h0:0<=s) (h1:s<2^d):wrapI (g+foldI (s-g) d) d=s:=by
 rw [<-wrapI_add_wrap,foldI_wrap,wrapI_add_wrap]
 have:g+(s-g)=s:=by omega
 rw [this]
 exact wrapI_in h0 h1
theorem unfold_wrap {s g:Int} {d:Nat} (h0:0<=s) (h1:s<2^d):wrapI (wrapI (s-g) d+g) d=s:=by
 rw [Int.add_comm,wrapI_add_wrap]
 have:g+(s-g)=s:=by omega
 rw [this]
 exact wrapI_in h0 h1
theorem wrapI_neg_fold (v:Int) (d:Nat):wrapI (-foldI v d) d=wrapI (-v) d:=by
 have h:=foldI_wrap v d
 unfold wrapI at *
 rw [Int.neg_emod_eq_sub_emod,Int.neg_emod_eq_sub_emod (a:=v)]
 rw [Int.sub_emod,h,<-Int.sub_emod]
theorem unfold_turned {s g:Int} {d:Nat} (h0:0<=s) (h1:s<2^d):wrapI (g + -foldI (-foldI (s-g) d) d) d=s:=by
 rw [<-wrapI_add_wrap,wrapI_neg_fold,Int.neg_neg,foldI_wrap,wrapI_add_wrap]
 have:g+(s-g)=s:=by omega
 rw [this]
 exact wrapI_in h0 h1
def rfold (x:Int):Nat:=if 0<=x then (2*x).toNat else (-2*x-1).toNat
def unfoldI (u:Nat):Int:=if u%2=0 then (u / 2:Nat) else -((u / 2:Nat):Int)-1
theorem unfoldI_rfold (x:Int):unfoldI (rfold x)=x:=by
 unfold rfold unfoldI
 split<;>split<;>omega
theorem rfold_unfoldI (u:Nat):rfold (unfoldI u)=u:=by
 unfold rfold unfoldI
 split<;>split<;>omega
def wideP (x:Int):Prop:=-1073741824<=x/\x<1073741824
theorem rfold_lt {x:Int} (h:wideP x):rfold x<2147483648:=by
 unfold wideP at h
 unfold rfold
 split<;>omega
def rcost (k:Nat) (x:Int):Nat:=if rfold x / 2^k<32 then rfold x / 2^k+1+k else 65
def rbits (k:Nat) (x:Int):List Nat :=
 if rfold x / 2^k<32 then List.replicate (rfold x / 2^k) 0++1::bitsOf (rfold x%2^k) k
 else List.replicate 32 0++1::bitsOf (rfold x) 32
theorem rbits_len (k:Nat) (x:Int):(rbits k x).length=rcost k x:=by
 unfold rbits rcost
 split
 ·simp [bitsOf_len];omega
 ·simp [bitsOf_len]
theorem rcost_le (k:Nat) (x:Int) (hk:k<=25):rcost k x<=65:=by unfold rcost;split<;>omega
def rsum (k:Nat) (l:List Int):Nat:=(l.map (rcost k)).sum
def rbitsAll (k:Nat) (l:List Int):List Nat:=l.flatMap (rbits k)
theorem rbitsAll_len (k:Nat) (l:List Int):(rbitsAll k l).length=rsum k l:=by
 induction l with
 | nil=>rfl
 | cons x l ih=>simp only [rbitsAll,rsum,List.flatMap_cons,zC,List.map_cons,List.sum_cons,rbits_len] at *; omega
theorem rsum_le (k:Nat) (l:List Int) (hk:k<=25):rsum k l<=65*l.length:=by
 induction l with
 | nil=>simp [rsum]
 | cons x l ih=>have := rcost_le k x hk;simp only [rsum,List.map_cons,List.sum_cons,zK] at *; omega
def bestUpTo (l:List Int):Nat->Nat
 | 0=>0
 | n+1=>if rsum (n+1) l<rsum (bestUpTo l n) l then n+1 else bestUpTo l n
def rbest (l:List Int):Nat:=bestUpTo l 25
theorem bestUpTo_le (l:List Int):∀ n,bestUpTo l n<=n
 | 0=>zQ _
 | n+1=>by
  have:=bestUpTo_le l n
  unfold bestUpTo
  split<;>omega
theorem rbest_le (l:List Int):rbest l<=25:=bestUpTo_le l 25
def SmpOk (d:Nat) (l:List Int):Prop:=∀ s∈l,0<=s/\s<2^d
structure Nbr where
 w:Int
 n:Int
 nw:Int
 ne:Int
def nbr (l:List Int) (w x y:Nat):Nbr :=
  if y=0 then (if x=0 then ⟨0,0,0,0⟩ else ⟨l.getD (y*w+x-1) 0,l.getD (y*w+x-1) 0,l.getD (y*w+x-1) 0,l.getD (y*w+x-1) 0⟩)
  else ⟨if 0 < x then l.getD (y * w + x - 1) 0 else l.getD (y * w + x - w) 0, l.getD (y * w + x - w) 0,
        if 0<x then l.getD (y*w+x-w-1) 0 else l.getD (y*w+x-w) 0,if x<w-1 then l.getD (y*w+x-w+1) 0 else l.getD (y*w+x-w) 0⟩
theorem le_mul_pos {y w:Nat} (hy:y≠0):w<=y*w:=Nat.le_mul_of_pos_left w (by omega)
theorem nbr_congr {l l':List Int} {w x y:Nat} (hx:x<w) (h:∀ i,i<y*w+x->l.getD i 0=l'.getD i 0):nbr l w x y=nbr l' w x y:=by
 unfold nbr
 by_cases hy:y=0
 ·rw [if_pos hy,if_pos hy]
  by_cases hx0:x=0
  ·rw [if_pos hx0,if_pos hx0]
  ·rw [if_neg hx0,if_neg hx0,h _ (by omega)]
 ·have hw:=le_mul_pos (w:=w) hy
  rw [if_neg hy,if_neg hy,h (y*w+x-w) (by omega)]
  congr 1
  ·by_cases hx0:0<x
   ·rw [if_pos hx0,if_pos hx0,h _ (by omega)]
   ·rw [if_neg hx0,if_neg hx0]
  ·by_cases hx0:0<x
   ·rw [if_pos hx0,if_pos hx0,h _ (by omega)]
   ·rw [if_neg hx0,if_neg hx0]
  ·by_cases hx0:x<w-1
   ·rw [if_pos hx0,if_pos hx0,h _ (by omega)]
   ·rw [if_neg hx0,if_neg hx0]
structure NbrOk (d:Nat) (g:Nbr):Prop where
 w:0<=g.w/\g.w<2^d
 n:0<=g.n/\g.n<2^d
 nw:0<=g.nw/\g.nw<2^d
 ne:0<=g.ne/\g.ne<2^d
theorem getD_ok {d:Nat} {l:List Int} (h:SmpOk d l) (i:Nat):0<=l.getD i 0/\l.getD i 0<2^d:=by
 have hp:=two_pow_pos' d
 rw [zD]
 cases e:l[i]? with
 | none=>simp [hp]
 | some v=>exact h v (List.mem_of_getElem? e)
theorem nbr_ok {d:Nat} {l:List Int} (h:SmpOk d l) (w x y:Nat):NbrOk d (nbr l w x y):=by
 have hp:=two_pow_pos' d
 unfold nbr
 split
 ·split
  ·exact ⟨⟨Int.le_refl _,hp⟩,⟨Int.le_refl _,hp⟩,⟨Int.le_refl _,hp⟩,⟨Int.le_refl _,hp⟩⟩
  ·exact ⟨getD_ok h _,getD_ok h _,getD_ok h _,getD_ok h _⟩
 ·refine ⟨?_,getD_ok h _,?_,?_⟩
  all_goals
   simp only
   split
   all_goals exact getD_ok h _
def distI (a b:Int):Int:=if a<b then b-a else a-b
def nearest3 (t a b c:Int):Int :=
 if distI c t<distI (if distI b t<distI a t then b else a) t then c else if distI b t<distI a t then b else a
def guessI (kind:Nat) (g:Nbr) (d:Nat):Int :=
 match kind with
 | 1=>g.w
 | 2=>g.n
 | 3=>g.nw
 | 4=>g.ne
 | 5=>(g.w+g.n) / 2
 | 6=>nearest3 (g.w+g.n-g.nw) g.w g.n g.nw
 | 7=>max (min g.w g.n) (min (max g.w g.n) (g.w+g.n-g.nw))
 | 8=>min (max (g.w+g.n-g.nw) 0) (2^d-1)
 | 9=>(g.w+g.n+g.nw+g.ne+2) / 4
 | _=>0
theorem guessI_ok {d:Nat} {g:Nbr} (h:NbrOk d g) (kind:Nat):0<=guessI kind g d/\guessI kind g d<2^d:=by
  obtain ⟨⟨a1,a2⟩,⟨b1,b2⟩,⟨c1,c2⟩,⟨e1,e2⟩⟩:=h
  have hp:=two_pow_pos' d
  unfold guessI nearest3
  generalize (2:Int)^d=p at *
  split
  all_goals first
    | omega
    | (split
       · omega
       · split<;>omega)
theorem band_mask (v:Int) {i:Nat} (hi:i<=62):bits .and .i64 v (2^i-1)=v%2^i:=by
 have ab:0<2^i:=Nat.two_pow_pos i
 have ac:2^i<=2^62:=Nat.pow_le_pow_right (by decide) hi
 have hc:((2:Int)^i-1)=((2^i-1:Nat):Int):=by rw [Int.natCast_sub ab];simp
 have aa:((2:Int)^i)∣2^64:=by
  obtain ⟨j,hj⟩:∃ j,64=i+j:=⟨64-i,by omega⟩
  rw [hj,Int.pow_add]
  exact Int.dvd_mul_right _ _
 have h0:0<=v%2^64:=Int.emod_nonneg _ (by decide)
 have e1:(BitVec.ofInt 64 v).toNat=(v%2^64).toNat:=by simp [BitVec.toNat_ofInt]
 have e2:(BitVec.ofInt 64 ((2^i-1:Nat):Int)).toNat=2^i-1:=by
  rw [BitVec.ofInt_natCast,BitVec.toNat_ofNat]
  exact Nat.mod_eq_of_lt (by omega)
 have e3:(BitVec.ofInt 64 v &&& BitVec.ofInt 64 ((2^i-1:Nat):Int)).toNat=(v%2^64).toNat%2^i:=by
  rw [BitVec.toNat_and,e1,e2,Nat.and_two_pow_sub_one_eq_mod]
 have e4:(((v%2^64).toNat%2^i:Nat):Int)=v%2^i:=by
  rw [Int.natCast_emod,Int.toNat_of_nonneg h0]
  simp only [Int.natCast_pow]
  exact Int.emod_emod_of_dvd v aa
 have e5:bits .and .i64 v ((2^i-1:Nat):Int)=IntKind.i64.wrap (((BitVec.ofInt 64 v &&& BitVec.ofInt 64 ((2^i-1:Nat):Int)).toNat:Nat):Int):=rfl
 rw [hc,e5,e3,e4]
 have h1:0<=v%2^i:=Int.emod_nonneg _ (by have:=two_pow_pos' i;omega)
 have h2:v%2^i<2^i:=Int.emod_lt_of_pos _ (two_pow_pos' i)
 have h3:(2:Int)^i<=2^62:=by exact_mod_cast ac
 exact IntWalk.i64_in _ (by omega)
theorem band_mask_u {v:Int} {i:Nat} (h0:0<=v) (h1:v<18446744073709551616) (hi:i<=64):bits .and .u64 v (2^i-1)=v%2^i :=
 bits_mask .u64 64 (by decide) (fun n a b=>IntWalk.u64_in _ (by omega)) i hi v h0 (by omega)
theorem bor_u8 {x y:Nat} (hx:x<256) (hy:y<256):bits .or .u8 (x:Int) (y:Int)=((x ||| y:Nat):Int) :=
 (bits_nat .u8 8 (by decide) wraps_u8 x y hx hy).2
theorem bor_u64_bit {v b:Nat} (hv:v<9223372036854775808) (hb:b<2):bits .or .u64 ((2*v:Nat):Int) (b:Int)=((2*v+b:Nat):Int):=by
 rw [bits_join .u64 64 (by decide) (fun n a b=>IntWalk.u64_in _ (by omega)) 1 _ _ (by omega) (by omega) (by omega) (by omega) (by omega) (by omega)]
 omega
theorem band_u8_one {v:Nat} (hv:v<256):bits .and .u8 (v:Int) 1=((v%2:Nat):Int):=by
 have:=bits_mask .u8 8 (by decide) wraps_u8 1 (by decide) (v:Int) (by omega) (by omega)
 simpa using this
theorem band_u64_one {v:Nat} (hv:v<18446744073709551616):bits .and .u64 (v:Int) 1=((v%2:Nat):Int):=by
 have:=bits_mask .u64 64 (by decide) (fun n a b=>IntWalk.u64_in _ (by omega)) 1 (by decide) (v:Int) (by omega) (by omega)
 simpa using this
section
variable {P:Program}
theorem run_append_none {w:World} {t ty e:TypeId} {z:Value} {bytes:Nat} (E:Elem P t e z 1 bytes) {v:Value} {F:List Nat} {xs:List Value} (hown:Own w e v F xs) (c:Nat) :
  (Builtin.append_ #[t,t] ty #[v,.slice none 0 c]).run P w=.ok v w:=by
 obtain ⟨i,hi,hz,aa,ac⟩:=E.hi
 rcases hown.own.2 with ⟨rfl,hn⟩ | ⟨g,ad,ae,rfl,_,_,ab,_⟩
 ·simp [Builtin.append_,run_underlying E.ht,sizeOf,typeInfo,hi,Builtin.lenOf,Builtin.firstCells]
 ·simp [Builtin.append_,run_underlying E.ht,sizeOf,typeInfo,hi,Builtin.lenOf,Builtin.firstCells,ab,storeCells]
theorem run_append_s {w:World} {t ty e:TypeId} {z:Value} {bytes:Nat} (E:Elem P t e z 1 bytes) (hzs:z.cells.size=1)
  {v:Value} {F:List Nat} {xs:List Value} (hown:Own w e v F xs) {A:Option Addr} {c:Nat} (news:List Value) (hn:Cells (fun u=>u) w A news)
  (h1:∀ u∈news,u.oneCell'=true) (h63:xs.length+news.length<=9223372036854775807) (hbytes:(xs.length+news.length)*bytes<=140737488355328) :
  ∃ v' F' w',(Builtin.append_ #[t,t] ty #[v,.slice A news.length c]).run P w=.ok v' w'/\Own w' e v' F' (xs++news)/\Grow F F' w w':=by
 rcases A with _ | ad
 ·have h0:news=[]:=by
   rcases Nat.eq_zero_or_pos news.length with h0 | h0
   ·exact List.eq_nil_of_length_eq_zero h0
   ·obtain ⟨_,_,h,_⟩:=hn.ex h0
    cases h
  subst h0
  exact ⟨v,F,w,run_append_none E hown c,by simpa using hown,Grow.refl _ _⟩
 ·have aa:∀ j u,news[j]?=some u->w.cell? (ad.add j)=some u:=fun j u hj=>by
   obtain ⟨b,o,e,hb,hc⟩:=hn.ex (by have:=(List.getElem?_eq_some_iff.1 hj).1;omega)
   injection e with e
   subst e
   rw [<-hc j u hj]
   unfold Addr.add
   split
   ·rename_i h;subst h;rfl
   ·rfl
  obtain ⟨i,hi,hz,ab,ac⟩:=E.hi
  obtain ⟨v',w',hr,h2,h3,h4,h5⟩:=run_append_own_at (P:=P) w 0 t ty e i z 1 bytes E.ht hi hz ab ac hzs (by decide) v xs.length xs hown.own ad news.length c news (by simp) aa h1 (by simpa [maxLen] using h63) hbytes (Nat.zero_le _)
  refine ⟨v',v'.ownBlock.toList,w',hr,⟨by simpa using h2,rfl⟩,?_,fun x hx => ?_⟩
  ·rw [hown.fp]
   exact Chg.of_grown h3 (by intro k hk;left;simp [hk])
  ·rcases h5 with h5 | h5
   ·left;rw [hown.fp,<-h5];exact hx
   ·right;rw [h5] at hx;simp at hx;omega
theorem wpList_append_s {w:World} {ops:Array Oper} {rest:List Oper} {o:Oper} {a:Act} {Q:Exit->Act->World->Prop} (hgd:o.guard=none) {s x:Operand} {t:TypeId}
  (ho:o.op=.call { callee:=.builtin .append,args:=#[s,x],argTypes:=#[t,t] })
  {e:TypeId} {z:Value} {bytes:Nat} (E:Elem P t e z 1 bytes) (hzs:z.cells.size=1)
  {v:Value} {F:List Nat} {xs:List Value} (hs:a.eval s=v) (hown:Own w e v F xs) {A:Option Addr} {c:Nat} (news:List Value) (n:Nat) (hx:a.eval x=.slice A n c) (hnl:n=news.length) (hn:Cells (fun u=>u) w A news)
  (h1:∀ u∈news,u.oneCell'=true) (h63:xs.length+news.length<=9223372036854775807) (hbytes:(xs.length+news.length)*bytes<=140737488355328)
  (h:∀ v' F' w',Own w' e v' F' (xs++news)->Grow F F' w w'->wpList P ops Q rest (a.put o.dst v') w'):wpList P ops Q (o::rest) a w:=by
 subst hnl
 refine wpList_plain hgd fun K hK => ?_
 obtain ⟨v',F',w',aa,h2,h3⟩:=run_append_s (P:=P) (ty:=o.type) E hzs hown (c:=c) news hn h1 h63 hbytes
 unfold Oper.wp execOp
 simp only [ho,resolve,invoke,builtin,Sem.run_bind,Sem.run_pure,Result.andThen_ok,List.map_toArray,List.map_cons,List.map_nil,hs,hx,aa]
 exact hK _ _ (h v' F' w' h2 h3)
end
theorem elem_of {P:Program} {t e:TypeId} (ht:P.underlying t=some (.slice e)):P.elem t=e:=by simp [Program.elem,ht]
theorem slice_from {P:Program} {t e:TypeId} (ht:P.underlying t=some (.slice e)) (hs:∀ w,(sizeOf e).run P w=.ok 1 w) (A:Option Addr) (n c lo:Nat) (h:lo<=n) (hnc:n<=c) :
  ∃ A',(∀ w,(Instr.slice t (.slice A n c) (some (.int .i64 lo)) none none).run P w=.ok (.slice A' (n-lo) (c-lo)) w) /\
   (∀ ad,A'=some ad->∃ ad0,A=some ad0/\ad.block=ad0.block) /\
   ∀ (α:Type) (f:α->Value) (w:World) (l:List α),l.length=n->Cells f w A l->Cells f w A' (l.drop lo):=by
 have he:=elem_of ht
 refine ⟨if c=lo then A else A.map (·.add (lo*1)),fun w => ?_,?_,?_⟩
 ·rw [run_slice_l (P:=P) (w:=w) t A n c (by rw [he];exact ht) .i64 (lo:Int) (by omega) (by omega),he,hs]
  simp [sliced]
 ·intro ad aa
  split at aa
  ·exact ⟨ad,aa,rfl⟩
  ·cases A with
   | none=>simp at aa
   | some ad0 =>
    simp at aa
    subst aa
    refine ⟨ad0,rfl,?_⟩
    unfold Addr.add
    split<;>rfl
 ·intro α f w l hl hc
  refine ⟨fun h0 => ?_⟩
  rw [zO] at h0
  obtain ⟨b,o,rfl,hb,ab⟩:=hc.ex (by omega)
  rw [if_neg (by omega)]
  refine ⟨b,o+lo,?_,hb,fun i a ha => ?_⟩
  ·simp only [Option.map_some,Addr.add,Nat.mul_one]
   split
   ·rename_i h;subst h;rfl
   ·rfl
  ·rw [List.getElem?_drop] at ha
   have:=ab (lo+i) a ha
   rwa [<-Nat.add_assoc] at this
theorem Cells.take {α:Type} {f:α->Value} {w:World} {A:Option Addr} {l:List α} (h:Cells f w A l) (n:Nat):Cells f w A (l.take n) :=
 ⟨fun h0=>by
  rw [zI] at h0
  obtain ⟨b,o,e,hb,hc⟩:=h.ex (by omega)
  refine ⟨b,o,e,hb,fun i a ha=>hc i a ?_⟩
  rw [List.getElem?_take] at ha
  split at ha
  ·exact ha
  ·cases ha⟩
def restAt (l:List Int) (W d kind y x:Nat):Int:=wrapI (l.getD (y*W+x) 0-guessI kind (nbr l W x y) d) d
def rowL (l:List Int) (W y d kind:Nat):List Int:=(List.range W).map (restAt l W d kind y)
theorem rowL_len (l:List Int) (W y d kind:Nat):(rowL l W y d kind).length=W:=by simp [rowL]
theorem rowL_ok (l:List Int) (W y d kind:Nat):SmpOk d (rowL l W y d kind):=by
 intro s hs
 obtain ⟨x,_,rfl⟩:=List.mem_map.1 hs
 exact ⟨wrapI_lo _ _,wrapI_hi _ _⟩
def absFold (d:Nat) (v:Int):Int:=distI (foldI v d) 0
theorem absFold_ok {d:Nat} (h:1<=d) (hd:d<=16) (v:Int):0<=absFold d v/\absFold d v<=32768:=by
 obtain ⟨h1,h2⟩:=foldI_range v h
 have h3:(2:Int)^(d-1)<=2^15:=by
  have:=Nat.pow_le_pow_right (n:=2) (by decide) (show d-1<=15 by omega)
  exact_mod_cast this
 unfold absFold distI
 split<;>omega
def weightI (l:List Int) (d:Nat):Int:=(l.map (absFold d)).sum
theorem weightI_snoc (l:List Int) (x:Int) (d:Nat):weightI (l++[x]) d=weightI l d+absFold d x:=by simp [weightI]
theorem weightI_ok {d:Nat} (h:1<=d) (hd:d<=16) (l:List Int):0<=weightI l d/\weightI l d<=32768*l.length:=by
 induction l with
 | nil=>simp [weightI]
 | cons x l ih =>
  have:=absFold_ok h hd x
  have e:weightI (x::l) d=absFold d x+weightI l d:=by simp [weightI]
  rw [e,zK]
  omega
def bestUp (l:List Int) (W y d:Nat):Nat->Nat
 | 0=>0
 | n+1=>if weightI (rowL l W y d (n+1)) d<weightI (rowL l W y d (bestUp l W y d n)) d then n+1 else bestUp l W y d n
theorem bestUp_le (l:List Int) (W y d:Nat):∀ n,bestUp l W y d n<=n
 | 0=>zQ _
 | n+1=>by
  have:=bestUp_le l W y d n
  unfold bestUp
  split<;>omega
def bestKinds (l:List Int) (W H d:Nat):List Nat:=(List.range H).map (fun y=>bestUp l W y d 9)
theorem bestKinds_len (l:List Int) (W H d:Nat):(bestKinds l W H d).length=H:=by simp [bestKinds]
theorem bestKinds_ok (l:List Int) (W H d:Nat):∀ k∈bestKinds l W H d,k<10:=by
 intro k hk
 obtain ⟨y,_,rfl⟩:=List.mem_map.1 hk
 have:=bestUp_le l W y d 9
 omega
def foreL (l:List Int) (W H d:Nat) (ks:List Nat):List Int:=(List.range H).flatMap (fun y=>rowL l W y d (ks.getD y 0))
theorem flatMap_len_const {α β:Type} (f:α->List β) (n:Nat) (l:List α) (h:∀ a∈l,(f a).length=n):(l.flatMap f).length=n*l.length:=by
 induction l with
 | nil=>simp
 | cons a l ih =>
  rw [List.flatMap_cons,zC,h a (by simp),ih fun b hb=>h b (by simp [hb]),zK,Nat.mul_add]
  omega
theorem foreL_len (l:List Int) (W H d:Nat) (ks:List Nat):(foreL l W H d ks).length=W*H:=by
 unfold foreL
 rw [flatMap_len_const _ W _ fun y _=>rowL_len _ _ _ _ _,List.length_range]
theorem foreL_ok (l:List Int) (W H d:Nat) (ks:List Nat):SmpOk d (foreL l W H d ks):=by
 intro s hs
 obtain ⟨y,_,hy⟩:=List.mem_flatMap.1 hs
 exact rowL_ok _ _ _ _ _ s hy
def fillL (done:List Int) (n:Nat):List Int:=done++List.replicate (n-done.length) 0
theorem fillL_len {done:List Int} {n:Nat} (h:done.length<=n):(fillL done n).length=n:=by simp [fillL];omega
theorem fillL_set {done:List Int} {n:Nat} (h:done.length<n) (v:Int):(fillL done n).set done.length v=fillL (done++[v]) n:=by
 unfold fillL
 obtain ⟨k,hk⟩:∃ k,n-done.length=k+1:=⟨n-done.length-1,by omega⟩
 have aa:n-(done++[v]).length=k:=by simp;omega
 rw [hk,aa,List.set_append_right _ _ (zQ _),Nat.sub_self]
 simp [List.replicate_succ]
theorem fillL_full {done:List Int} {n:Nat} (h:done.length=n):fillL done n=done:=by simp [fillL,h]
theorem fillL_nil (n:Nat):fillL [] n=List.replicate n 0:=by simp [fillL]
def zr:Nat->List Nat->Nat
 | 0,_=>0
 | _+1,[]=>0
 | m+1,x::l=>if x=0 then zr m l+1 else 0
theorem zr_le (m:Nat):∀ l,zr m l<=m:=by
 induction m with
 | zero=>intro l;simp [zr]
 | succ m ih =>
  intro l
  cases l with
  | nil=>simp [zr]
  | cons x l =>
   unfold zr
   split
   ·have:=ih l;omega
   ·omega
theorem zr_len (m:Nat):∀ l,zr m l<=l.length:=by
 induction m with
 | zero=>intro l;simp [zr]
 | succ m ih =>
  intro l
  cases l with
  | nil=>simp [zr]
  | cons x l =>
   unfold zr
   split
   ·have:=ih l;simp;omega
   ·simp
theorem zr_zero (m:Nat):∀ (l:List Nat) (z:Nat),z<zr m l->l.getD z 0=0:=by
 induction m with
 | zero=>intro l z h;simp [zr] at h
 | succ m ih =>
  intro l z h
  cases l with
  | nil=>simp
  | cons x l =>
   unfold zr at h
   split at h
   ·rename_i hx
    cases z with
    | zero=>simpa using hx
    | succ z =>
     have:=ih l z (by omega)
     simpa using this
   ·omega
theorem zr_stop (m:Nat):∀ (l:List Nat),zr m l=m\/zr m l=l.length\/l.getD (zr m l) 0≠0:=by
 induction m with
 | zero=>intro l;left;simp [zr]
 | succ m ih =>
  intro l
  cases l with
  | nil=>right;left;simp [zr]
  | cons x l =>
   unfold zr
   split
   ·rcases ih l with h | h | h
    ·left;omega
    ·right;left;simp;omega
    ·right;right;simpa using h
   ·rename_i hx
    right;right;simpa using hx
def bodyBits:Nat->List Nat->List Nat
 | 0,_=>[]
 | _+1,[]=>[]
 | f+1,x::l =>
  if zr 66 (x::l)<3 then bitsOf x 5++bodyBits f l else bitsOf 31 5++(bitsOf (zr 66 (x::l)-3) 6++bodyBits f ((x::l).drop (zr 66 (x::l))))
def tableBits (lens:List Nat):List Nat:=bitsOf (lens.length-1) 10++bodyBits lens.length lens
theorem body_room:∀ (f g:Nat) (l:List Nat),l.length<=f->l.length<=g->bodyBits f l=bodyBits g l
 | 0,g,l,h,_=>by
  obtain rfl:l=[]:=List.eq_nil_of_length_eq_zero (by omega)
  cases g<;>rfl
 | f+1,0,l,_,h=>by
  obtain rfl:l=[]:=List.eq_nil_of_length_eq_zero (by omega)
  rfl
 | f+1,g+1,[],_,_=>rfl
 | f+1,g+1,x::l,h1,h2=>by
  simp only [zK] at h1 h2
  unfold bodyBits
  split
  ·rw [body_room f g l (by omega) (by omega)]
  ·rw [body_room f g _ (by rw [zO,zK];omega) (by rw [zO,zK];omega)]
theorem body_cons (f x:Nat) (l:List Nat):bodyBits (f+1) (x::l) =
  if zr 66 (x::l)<3 then bitsOf x 5++bodyBits f l else bitsOf 31 5++(bitsOf (zr 66 (x::l)-3) 6++bodyBits f ((x::l).drop (zr 66 (x::l)))):=rfl
def bodyFrom (lens:List Nat) (i:Nat):List Nat:=bodyBits lens.length (lens.drop i)
theorem bodyFrom_end (lens:List Nat):bodyFrom lens lens.length=[]:=by
 unfold bodyFrom
 rw [List.drop_length]
 cases lens.length<;>rfl
theorem bodyFrom_one {lens:List Nat} {i:Nat} (hi:i<lens.length) (hz:zr 66 (lens.drop i)<3):bodyFrom lens i=bitsOf (lenAt lens i) 5++bodyFrom lens (i+1):=by
 unfold bodyFrom
 have e:lens.drop i=lens[i]::lens.drop (i+1):=List.drop_eq_getElem_cons hi
 rw [e] at hz ⊢
 obtain ⟨f,hf⟩:∃ f,lens.length=f+1:=⟨lens.length-1,by omega⟩
 have hl:lenAt lens i=lens[i]:=by unfold lenAt;rw [zD,zF hi];rfl
 rw [hl]
 rw [hf,body_cons,if_pos hz,body_room f (f+1) _ (by rw [zO];omega) (by rw [zO];omega)]
theorem bodyFrom_many {lens:List Nat} {i:Nat} (hi:i<lens.length) (hz:¬ zr 66 (lens.drop i)<3) :
  bodyFrom lens i=bitsOf 31 5++(bitsOf (zr 66 (lens.drop i)-3) 6++bodyFrom lens (i+zr 66 (lens.drop i))):=by
 unfold bodyFrom
 have e:lens.drop i=lens[i]::lens.drop (i+1):=List.drop_eq_getElem_cons hi
 have e2:lens.drop (i+zr 66 (lens.drop i))=(lens.drop i).drop (zr 66 (lens.drop i)):=by rw [List.drop_drop]
 rw [e2]
 rw [e] at hz ⊢
 obtain ⟨f,hf⟩:∃ f,lens.length=f+1:=⟨lens.length-1,by omega⟩
 have aa:=zr_len 66 (lens[i]::lens.drop (i+1))
 rw [hf,body_cons,if_neg hz,body_room f (f+1) _ (by rw [zO,zK,zO];omega) (by rw [zO,zK,zO];omega)]
theorem tableBits_eq (lens:List Nat):tableBits lens=bitsOf (lens.length-1) 10++bodyFrom lens 0:=rfl
theorem body_len:∀ (f:Nat) (l:List Nat),(bodyBits f l).length<=11*l.length
 | 0,l=>by simp [bodyBits]
 | f+1,[]=>by simp [bodyBits]
 | f+1,x::l=>by
  unfold bodyBits
  split
  ·have:=body_len f l
   rw [zC,bitsOf_len,zK]
   omega
  ·have:=body_len f ((x::l).drop (zr 66 (x::l)))
   rw [zC,zC,bitsOf_len,bitsOf_len]
   rw [zO] at this
   have:=zr_len 66 (x::l)
   omega
theorem tableBits_len (lens:List Nat):(tableBits lens).length<=10+11*lens.length:=by
 unfold tableBits
 have:=body_len lens.length lens
 rw [zC,bitsOf_len]
 omega
def symBits (lens:List Nat) (s:Nat):List Nat:=bitsOf (wordOf lens s) (lenAt lens s)
def symsBits (lens:List Nat) (l:List Nat):List Nat:=l.flatMap (symBits lens)
theorem symsBits_snoc (lens l:List Nat) (s:Nat):symsBits lens (l++[s])=symsBits lens l++symBits lens s:=by simp [symsBits]
structure OwnK (w:World) (e:TypeId) (k:Nat) (v:Value) (F:List Nat) (n:Nat) (xs:List Value):Prop where
 own:w.ownsRow 0 e k v n xs
 fp:F=v.ownBlock.toList
section
variable {w w':World} {e:TypeId} {k n:Nat} {v:Value} {F G:List Nat} {xs:List Value}
theorem OwnK.nil (w:World) (e:TypeId) (k:Nat):OwnK w e k (.slice none 0 0) [] 0 []:=⟨World.ownsRow_nil _ 0 _ _,rfl⟩
theorem OwnK.chg (h:OwnK w e k v F n xs) (hc:Chg G w w') (hd:∀ x∈F,x∉G):OwnK w' e k v F n xs :=
 ⟨own_chg h.own hc fun y hy=>hd y (by rw [h.fp,hy];simp),h.fp⟩
theorem OwnK.same (h:OwnK w e k v F n xs) (hc:Chg [] w w'):OwnK w' e k v F n xs:=h.chg hc (by simp)
theorem OwnK.lt (h:OwnK w e k v F n xs):∀ x∈F,x<w.heap.size:=fun x hx=>by
 rw [h.fp] at hx
 exact own_lt h.own x (by simpa using hx)
theorem OwnK.open_ (h:OwnK w e k v F n xs):∃ (A:Option Addr) (cap:Nat),v=.slice A n cap/\n<=cap/\cap<=9223372036854775807/\Cells (fun v=>v) w A xs /\
  ∀ ad,A=some ad->∃ g,ad=⟨g,0,none⟩/\F=[g]/\∀ i,w.frozen? ⟨g,i,none⟩=false:=by
 obtain ⟨⟨hl,h2⟩,fp⟩:=h
 rcases h2 with ⟨rfl,rfl⟩ | ⟨g,cap,cur,rfl,_,hg,hn,ab,ac,aa⟩
 ·exact ⟨none,0,rfl,zQ _,by decide,⟨fun h=>by rw [hl] at h;simp at h⟩,fun ad h=>by cases h⟩
 ·have hb:Blk w g e cur:=hg
  refine ⟨some ⟨g,0,none⟩,cap,rfl,hn,by simpa [maxLen] using ab,⟨fun _=>⟨g,0,rfl,hb.lt,fun i a ha => ?_⟩⟩,fun ad h => ?_⟩
  ·rw [Nat.zero_add,hb.cell]
   have hi:i<xs.length:=(List.getElem?_eq_some_iff.1 ha).1
   rw [<-aa,List.getElem?_take,if_pos (by omega)] at ha
   simpa using ha
  ·injection h with h
   exact ⟨g,h.symm,fp,hb.frozen⟩
theorem OwnK.shape (h:OwnK w e k v F n xs):∃ A cap,v=.slice A n cap:=by
 obtain ⟨A,cap,h1,_⟩:=h.open_
 exact ⟨A,cap,h1⟩
end
section
variable {P:Program}
theorem wpList_append_k1 {w:World} {ops:Array Oper} {rest:List Oper} {o:Oper} {a:Act} {Q:Exit->Act->World->Prop} (hgd:o.guard=none) {s x:Operand} {t:TypeId}
  (ho:o.op=.call { callee:=.builtin .append,args:=#[s,x],argTypes:=#[t,t] })
  {e:TypeId} {z:Value} {k bytes:Nat} (E:Elem P t e z k bytes) (hzs:z.cells.size=k) (hk:0<k)
  {v:Value} {F:List Nat} {n:Nat} {xs:List Value} (hs:a.eval s=v) (hown:OwnK w e k v F n xs) {ad:Addr} {c:Nat} (news:List Value) (hx:a.eval x=.slice (some ad) 1 c) (hl:news.length=k)
  (hnews:∀ j u,news[j]?=some u->w.cell? (ad.add j)=some u) (h1:∀ u∈news,u.oneCell'=true) (h63:n<9223372036854775807) (hbytes:(n+1)*bytes<=140737488355328)
  (h:∀ g cap w',OwnK w' e k (.slice (some ⟨g,0,none⟩) (n+1) cap) [g] (n+1) (xs++news)->Grow F [g] w w'->wpList P ops Q rest (a.put o.dst (.slice (some ⟨g,0,none⟩) (n+1) cap)) w'):wpList P ops Q (o::rest) a w:=by
 refine wpList_append_sl hgd ho E hzs hk hs hown.own hx (news:=news) (by omega) (by decide) hnews h1 (by omega) hbytes ?_
 intro g' cap w' h2 h3 h4
 rw [<-hown.fp] at h3
 refine h g' cap w' ⟨h2,rfl⟩ ⟨h3,fun x hx => ?_⟩
 simp at hx
 subst hx
 rcases h4 with h4 | h4
 ·left;rw [hown.fp,<-h4];simp
 ·exact .inr h4
end
def absI (x:Int):Int:=if x<0 then -x else x
def steep (u:Int):Int:=if u<3 then 1 else if u<7 then 2 else if u<21 then 3 else 4
def levelI (g:Int) (d:Nat):Int:=if g=0 then 0 else if g<0 then -steep (absI g*256 / 2^d) else steep (absI g*256 / 2^d)
theorem steep_ok (u:Int):1<=steep u/\steep u<=4:=by unfold steep;split<;>(try split)<;>(try split)<;>omega
theorem levelI_ok (g:Int) (d:Nat) : -4<=levelI g d/\levelI g d<=4:=by
 have:=steep_ok (absI g*256 / 2^d)
 unfold levelI
 split
 ·omega
 ·split<;>omega
def ctxI (g:Nbr) (d:Nat):Int:=81*levelI (g.ne-g.n) d+9*levelI (g.n-g.nw) d+levelI (g.nw-g.w) d
def ctxN (g:Nbr) (d:Nat):Nat:=(absI (ctxI g d)).toNat
def turnB (g:Nbr) (d:Nat):Bool:=decide (ctxI g d<0)
def classI (g:Nbr) (d:Nat):Int:=absI (levelI (g.ne-g.n) d)+absI (levelI (g.n-g.nw) d)+absI (levelI (g.nw-g.w) d)
theorem ctxN_lt (g:Nbr) (d:Nat):ctxN g d<365:=by
 have h1:=levelI_ok (g.ne-g.n) d
 have h2:=levelI_ok (g.n-g.nw) d
 have h3:=levelI_ok (g.nw-g.w) d
 unfold ctxN ctxI absI
 split<;>omega
theorem classI_ok (g:Nbr) (d:Nat):0<=classI g d/\classI g d<=12:=by
 have h1:=levelI_ok (g.ne-g.n) d
 have h2:=levelI_ok (g.n-g.nw) d
 have h3:=levelI_ok (g.nw-g.w) d
 unfold classI absI
 split<;>split<;>split<;>omega
structure Stat where
 n:Int
 a:Int
 b:Int
 c:Int
structure StatOk (s:Stat):Prop where
 n0:1<=s.n
 n1:s.n<=64
 a0:0<=s.a
 a1:s.a<=32768*s.n
 b0 : -s.n<s.b
 b1:s.b<=0
 c0 : -128<=s.c
 c1:s.c<=127
def startA (d:Nat):Int:=max 2 ((2^d+32) / 64)
def newStat (d:Nat):Stat:=⟨1,startA d,0,0⟩
theorem newStat_ok {d:Nat} (h:(2:Int)^d<=65536):StatOk (newStat d):=by
 have:=two_pow_pos' d
 refine ⟨?_,?_,?_,?_,?_,?_,?_,?_⟩<;>simp only [newStat,startA]<;>omega
def guessM (s:Stat) (p:Int) (t:Bool) (d:Nat):Int:=min (max (p+(if t then -s.c else s.c)) 0) (2^d-1)
theorem guessM_ok (s:Stat) (p:Int) (t:Bool) {d:Nat} (h:2<=(2:Int)^d):0<=guessM s p t d/\guessM s p t d<2^d:=by
 unfold guessM
 omega
def kFrom (s:Stat):Nat->Nat->Nat
 | 0,k=>k
 | f+1,k=>if s.n*2^k<s.a then kFrom s f (k+1) else k
def kOf (s:Stat):Nat:=kFrom s 16 0
theorem kFrom_le {s:Stat} (h:StatOk s):∀ f k,k<=15->kFrom s f k<=15
 | 0,k,hk=>hk
 | f+1,k,hk=>by
  unfold kFrom
  split
  ·rename_i hc
   have:k≠15:=by
    rintro rfl
    have:=h.a1
    have e:(2:Int)^15=32768:=rfl
    rw [e] at hc
    omega
   exact kFrom_le h f (k+1) (by omega)
  ·exact hk
theorem kOf_le {s:Stat} (h:StatOk s):kOf s<=15:=kFrom_le h 16 0 (by omega)
theorem kFrom_stop {s:Stat} {k:Nat} (h:¬ s.n*2^k<s.a) (f:Nat):kFrom s f k=k:=by
 cases f with
 | zero=>rfl
 | succ f=>rw [kFrom,if_neg h]
theorem kFrom_step {s:Stat} {k:Nat} (h:s.n*2^k<s.a) (f:Nat):kFrom s (f+1) k=kFrom s f (k+1):=by rw [kFrom,if_pos h]
theorem kFrom_lt {s:Stat} (hs:StatOk s) {k:Nat} (h:s.n*2^k<s.a):k<15:=by
 rcases zZ k 15 with h1 | h1
 ·exact h1
 ·exfalso
  have h2:(32768:Int)<=2^k:=by
   have:=Nat.pow_le_pow_right (n:=2) (by decide) h1
   have e:(2:Int)^15<=2^k:=by exact_mod_cast this
   exact e
  have h3:=hs.a1
  have h4:=hs.n0
  have h5:s.n*32768<=s.n*2^k:=Int.mul_le_mul_of_nonneg_left h2 (by omega)
  omega
def countS (s:Stat) (e:Int):Stat :=
 if s.n=64 then ⟨33,(s.a+absI e) / 2,(s.b+e) / 2,s.c⟩ else ⟨s.n+1,s.a+absI e,s.b+e,s.c⟩
def evenS (s:Stat):Stat :=
 if s.b<=-s.n then ⟨s.n,s.a,max (s.b+s.n) (1-s.n),max (s.c-1) (-128)⟩
 else if 0<s.b then ⟨s.n,s.a,min (s.b-s.n) 0,min (s.c+1) 127⟩ else s
def learnS (s:Stat) (e:Int):Stat:=evenS (countS s e)
theorem countS_ok {s:Stat} (h:StatOk s) {e:Int} (h0 : -32768<=e) (h1:e<32768) :
  1<=(countS s e).n/\(countS s e).n<=64/\0<=(countS s e).a/\(countS s e).a<=32768*(countS s e).n/\-65536<=(countS s e).b/\(countS s e).b<=65536/\(countS s e).c=s.c:=by
 obtain ⟨n0,n1,a0,a1,b0,b1,c0,c1⟩:=h
 have ha:0<=absI e/\absI e<=32768:=by unfold absI;split<;>omega
 unfold countS
 split
 ·refine ⟨?_,?_,?_,?_,?_,?_,rfl⟩<;>simp only<;>omega
 ·refine ⟨?_,?_,?_,?_,?_,?_,rfl⟩<;>simp only<;>omega
theorem learnS_ok {s:Stat} (h:StatOk s) {e:Int} (h0 : -32768<=e) (h1:e<32768):StatOk (learnS s e):=by
 obtain ⟨m0,m1,m2,m3,m4,m5,m6⟩:=countS_ok h h0 h1
 have c0:=h.c0
 have c1:=h.c1
 rw [<-m6] at c0 c1
 unfold learnS
 generalize countS s e=t at *
 unfold evenS
 split
 ·constructor<;>simp only<;>omega
 ·split
  ·constructor<;>simp only<;>omega
  ·constructor<;>omega
def errOf (s g:Int) (t:Bool) (d:Nat):Int:=if t then foldI (-foldI (s-g) d) d else foldI (s-g) d
theorem errOf_range (s g:Int) (t:Bool) {d:Nat} (h:1<=d) : -2^(d-1)<=errOf s g t d/\errOf s g t d<2^(d-1):=by
 unfold errOf
 split
 ·exact foldI_range _ h
 ·exact foldI_range _ h
theorem errOf_back {s g:Int} (t:Bool) {d:Nat} (h0:0<=s) (h1:s<2^d):wrapI (g+(if t then -errOf s g t d else errOf s g t d)) d=s:=by
 unfold errOf
 cases t
 ·exact unfold_fold h0 h1
 ·exact unfold_turned h0 h1
def statAt (m:List Stat) (i:Nat):Stat:=m.getD i (newStat 1)
def ctxAt (l:List Int) (W d i:Nat):Nat:=ctxN (nbr l W (i%W) (i / W)) d
def turnAt (l:List Int) (W d i:Nat):Bool:=turnB (nbr l W (i%W) (i / W)) d
def predAt (m:List Stat) (l:List Int) (W d i:Nat):Int:=guessM (statAt m (ctxAt l W d i)) (guessI 7 (nbr l W (i%W) (i / W)) d) (turnAt l W d i) d
def errAt (m:List Stat) (l:List Int) (W d i:Nat):Int:=errOf (l.getD i 0) (predAt m l W d i) (turnAt l W d i) d
def bitsAtM (m:List Stat) (l:List Int) (W d i:Nat):List Nat:=rbits (kOf (statAt m (ctxAt l W d i))) (errAt m l W d i)
def nextM (m:List Stat) (l:List Int) (W d i:Nat):List Stat:=m.set (ctxAt l W d i) (learnS (statAt m (ctxAt l W d i)) (errAt m l W d i))
def newModel (d:Nat):List Stat:=List.replicate 365 (newStat d)
def modelTo (l:List Int) (W d:Nat):Nat->List Stat
 | 0=>newModel d
 | i+1=>nextM (modelTo l W d i) l W d i
def modelBits (l:List Int) (W d:Nat):Nat->List Nat
 | 0=>[]
 | i+1=>modelBits l W d i++bitsAtM (modelTo l W d i) l W d i
structure ModelOk (m:List Stat):Prop where
 len:m.length=365
 all:∀ s∈m,StatOk s
theorem statAt_mem {m:List Stat} (h:ModelOk m) {i:Nat} (hi:i<365):m[i]?=some (statAt m i)/\StatOk (statAt m i):=by
 have hl:i<m.length:=by rw [h.len];exact hi
 unfold statAt
 rw [zD,zF hl]
 exact ⟨rfl,h.all _ (zG hl)⟩
theorem newModel_ok {d:Nat} (h:(2:Int)^d<=65536):ModelOk (newModel d) :=
 ⟨zV,fun s hs=>by rw [List.eq_of_mem_replicate hs];exact newStat_ok h⟩
theorem errRange16 {d:Nat} (h1:d<=16) {e:Int} (h : -2^(d-1)<=e/\e<2^(d-1)) : -32768<=e/\e<32768:=by
 have:(2:Int)^(d-1)<=2^15:=by
  have:=Nat.pow_le_pow_right (n:=2) (by decide) (show d-1<=15 by omega)
  exact_mod_cast this
 omega
theorem nextM_ok {m:List Stat} (h:ModelOk m) (l:List Int) (W:Nat) {d:Nat} (h0:1<=d) (h1:d<=16) (i:Nat):ModelOk (nextM m l W d i):=by
 refine ⟨by simp [nextM,h.len],fun s hs => ?_⟩
 rcases List.mem_or_eq_of_mem_set hs with hs | rfl
 ·exact h.all s hs
 ·obtain ⟨e0,e1⟩:=errRange16 h1 (errOf_range (l.getD i 0) (predAt m l W d i) (turnAt l W d i) h0)
  exact learnS_ok (statAt_mem h (ctxN_lt _ _)).2 e0 e1
theorem modelTo_ok (l:List Int) (W:Nat) {d:Nat} (h0:1<=d) (h1:d<=16) (hp:(2:Int)^d<=65536):∀ i,ModelOk (modelTo l W d i)
 | 0=>newModel_ok hp
 | i+1=>nextM_ok (modelTo_ok l W h0 h1 hp i) l W h0 h1 i
theorem modelBits_len (l:List Int) (W:Nat) {d:Nat} (h0:1<=d) (h1:d<=16) (hp:(2:Int)^d<=65536):∀ i,(modelBits l W d i).length<=65*i
 | 0=>by simp [modelBits]
 | i+1=>by
  have:=modelBits_len l W h0 h1 hp i
  have hk:=kOf_le (statAt_mem (modelTo_ok l W h0 h1 hp i) (ctxN_lt (nbr l W (i%W) (i / W)) d)).2
  have:=rcost_le (kOf (statAt (modelTo l W d i) (ctxAt l W d i))) (errAt (modelTo l W d i) l W d i) (by unfold ctxAt;omega)
  rw [modelBits,zC,bitsAtM,rbits_len]
  omega
def fitsB (x:Int) (n:Nat):Bool:=decide (1<=n)&&decide (n<=31)&&decide (-2^(n-1)<=x)&&decide (x<=2^(n-1)-1)
def needFrom (x:Int):Nat->Nat->Nat
 | 0,w=>w
 | f+1,w=>if x≠0/\w<32/\fitsB x w=false then needFrom x f (w+1) else w
def widthL (l:List Int):Nat:=l.foldl (fun w x=>needFrom x 32 w) 0
theorem widthL_snoc (l:List Int) (x:Int):widthL (l++[x])=needFrom x 32 (widthL l):=by simp [widthL]
theorem pow_half_mono {m n:Nat} (h:m<=n):(2:Int)^m<=2^n:=by
 have:=Nat.pow_le_pow_right (n:=2) (by decide) h
 exact_mod_cast this
theorem fits_mono {x:Int} {m n:Nat} (h:fitsB x m=true) (hmn:m<=n) (hn:n<=31):fitsB x n=true:=by
 unfold fitsB at *
 simp only [Bool.and_eq_true,decide_eq_true_eq] at *
 obtain ⟨⟨⟨h1,h2⟩,h3⟩,h4⟩:=h
 have:=pow_half_mono (show m-1<=n-1 by omega)
 exact ⟨⟨⟨by omega,hn⟩,by omega⟩,by omega⟩
theorem fits_wide {x:Int} (h:wideP x):fitsB x 31=true:=by
 unfold wideP at h
 unfold fitsB
 simp only [Bool.and_eq_true,decide_eq_true_eq]
 exact ⟨⟨⟨by decide,by decide⟩,by have:(2:Int)^(31-1)=1073741824:=rfl;omega⟩,by have:(2:Int)^(31-1)=1073741824:=rfl;omega⟩
theorem need_ge (x:Int):∀ f w,w<=needFrom x f w
 | 0,w=>zQ _
 | f+1,w=>by
  unfold needFrom
  split
  ·exact Nat.le_trans (by omega) (need_ge x f (w+1))
  ·exact zQ _
theorem need_le {x:Int} (h:wideP x):∀ f w,w<=31->needFrom x f w<=31
 | 0,w,hw=>hw
 | f+1,w,hw=>by
  unfold needFrom
  split
  ·rename_i hc
   have:w≠31:=fun e=>by rw [e,fits_wide h] at hc;simp at hc
   exact need_le h f (w+1) (by omega)
  ·exact hw
theorem need_fits {x:Int} (h:wideP x):∀ f w,w<=31->32<=w+f->x=0\/fitsB x (needFrom x f w)=true
 | 0,w,hw,hf=>by omega
 | f+1,w,hw,hf=>by
  unfold needFrom
  split
  ·rename_i hc
   have:w≠31:=fun e=>by rw [e,fits_wide h] at hc;simp at hc
   exact need_fits h f (w+1) (by omega) (by omega)
  ·rename_i hc
   by_cases hx:x=0
   ·exact .inl hx
   ·right
    have:¬ (fitsB x w=false):=fun e=>hc ⟨hx,by omega,e⟩
    simpa using this
theorem need_step {x:Int} {w:Nat} (hx:x≠0) (hw:w<32) (hf:fitsB x w=false) (f:Nat):needFrom x (f+1) w=needFrom x f (w+1):=by
 rw [needFrom,if_pos ⟨hx,hw,hf⟩]
theorem need_stop {x:Int} {w f:Nat} (h:x=0\/fitsB x w=true):needFrom x f w=w:=by
 cases f with
 | zero=>rfl
 | succ f =>
  rw [needFrom,if_neg]
  rintro ⟨h1,h2,h3⟩
  rcases h with h | h
  ·exact h1 h
  ·rw [h] at h3;cases h3
theorem widthL_le {l:List Int} (h:∀ x∈l,wideP x):widthL l<=31:=by
 unfold widthL
 suffices H:∀ (l:List Int) (w:Nat),(∀ x∈l,wideP x)->w<=31->l.foldl (fun w x=>needFrom x 32 w) w<=31 from H l 0 h (by omega)
 intro l
 induction l with
 | nil=>intro w _ hw;exact hw
 | cons x l ih=>intro w hl hw;exact ih _ (fun y hy=>hl y (by simp [hy])) (need_le (hl x (by simp)) 32 w hw)
theorem widthL_fits {l:List Int} (h:∀ x∈l,wideP x):∀ x∈l,x=0\/fitsB x (widthL l)=true:=by
 unfold widthL
 suffices H:∀ (l:List Int) (w:Nat),(∀ x∈l,wideP x)->w<=31->(∀ x∈l,x=0\/fitsB x (l.foldl (fun w x=>needFrom x 32 w) w)=true)/\w<=l.foldl (fun w x=>needFrom x 32 w) w from (H l 0 h (by omega)).1
 intro l
 induction l with
 | nil=>intro w _ hw;exact ⟨by simp,zQ _⟩
 | cons x l ih =>
  intro w hl hw
  have aa:∀ y∈l,wideP y:=fun y hy=>hl y (by simp [hy])
  have ab:=need_le (hl x (by simp)) 32 w hw
  obtain ⟨h1,h2⟩:=ih (needFrom x 32 w) aa ab
  have ad:=need_ge x 32 w
  refine ⟨fun y hy => ?_,Nat.le_trans ad h2⟩
  rcases zJ.1 hy with rfl | hy
  ·rcases need_fits (hl y (by simp)) 32 w hw (by omega) with h3 | h3
   ·exact .inl h3
   ·right
    have ac:(List.foldl (fun w x=>needFrom x 32 w) (needFrom y 32 w) l)<=31:=by
     have:∀ (l:List Int) (w:Nat),(∀ x∈l,wideP x)->w<=31->l.foldl (fun w x=>needFrom x 32 w) w<=31:=by
      intro l
      induction l with
      | nil=>intro w _ hw;exact hw
      | cons x l ih=>intro w hl hw;exact ih _ (fun y hy=>hl y (by simp [hy])) (need_le (hl x (by simp)) 32 w hw)
     exact this l _ aa ab
    exact fits_mono h3 h2 ac
  ·exact h1 y hy
def modN (x:Int) (n:Nat):Nat:=(x%2^n).toNat
theorem modN_lt (x:Int) (n:Nat):modN x n<2^n:=by
 have h0:=Int.emod_nonneg x (show (2:Int)^n≠0 by have:=two_pow_pos' n;omega)
 have h1:=Int.emod_lt_of_pos x (two_pow_pos' n)
 unfold modN
 have:((x%2^n).toNat:Int)<((2^n:Nat):Int):=by
  rw [Int.toNat_of_nonneg h0]
  simpa using h1
 omega
theorem modN_cast (x:Int) (n:Nat):((modN x n:Nat):Int)=x%2^n:=by
 unfold modN
 exact Int.toNat_of_nonneg (Int.emod_nonneg x (by have:=two_pow_pos' n;omega))
def sizesL (o n warm:Nat):List Nat:=if n / 2^o*2^o=n/\warm<=n / 2^o then (n / 2^o-warm)::List.replicate (2^o-1) (n / 2^o) else []
theorem sizesL_zero {n warm:Nat} (h:warm<=n):sizesL 0 n warm=[n-warm]:=by
 unfold sizesL
 simp [h]
theorem sizesL_len {o n warm:Nat} (h:sizesL o n warm≠[]):(sizesL o n warm).length=2^o:=by
 unfold sizesL at *
 split
 ·have:=Nat.two_pow_pos o
  simp
  omega
 ·rename_i hc
  rw [if_neg hc] at h
  exact absurd rfl h
theorem sizesL_sum {o n warm:Nat} (h:sizesL o n warm≠[]):(sizesL o n warm).sum=n-warm:=by
 unfold sizesL at *
 split
 ·rename_i hc
  obtain ⟨h1,h2⟩:=hc
  have hp:=Nat.two_pow_pos o
  have e:(2^o-1)*(n / 2^o)+n / 2^o=n:=by
   rw [<-Nat.succ_mul]
   have:Nat.succ (2^o-1)=2^o:=by omega
   rw [this,zY]
   exact h1
  simp
  omega
 ·rename_i hc
  rw [if_neg hc] at h
  exact absurd rfl h
def splitL {α:Type}:List Nat->List α->List (List α)
 | [],_=>[]
 | s::ss,l=>l.take s::splitL ss (l.drop s)
theorem splitL_len {α:Type}:∀ (ss:List Nat) (l:List α),(splitL ss l).length=ss.length
 | [],_=>rfl
 | s::ss,l=>by rw [splitL,zK,splitL_len ss,zK]
theorem splitL_flat {α:Type}:∀ (ss:List Nat) (l:List α),ss.sum=l.length->(splitL ss l).flatten=l
 | [],l,h=>by
  have:l=[]:=List.eq_nil_of_length_eq_zero (by simpa using h.symm)
  subst this
  rfl
 | s::ss,l,h=>by
  rw [splitL,List.flatten_cons,splitL_flat ss,List.take_append_drop]
  rw [zO]
  simp at h
  omega
def startOf (ss:List Nat) (i:Nat):Nat:=(ss.take i).sum
theorem splitL_get {α:Type}:∀ (ss:List Nat) (l:List α) (i:Nat) (h:i<ss.length),(splitL ss l)[i]?=some ((l.drop (startOf ss i)).take ss[i])
 | s::ss,l,0,_=>by simp [splitL,startOf]
 | s::ss,l,i+1,h=>by
  rw [splitL,List.getElem?_cons_succ,splitL_get ss (l.drop s) i (by simpa using h)]
  simp [startOf,List.drop_drop]
theorem startOf_succ (ss:List Nat) (i:Nat) (h:i<ss.length):startOf ss (i+1)=startOf ss i+ss[i]:=by
 unfold startOf
 rw [List.take_succ_eq_append_getElem h,List.sum_append]
 simp only [List.sum_cons,List.sum_nil,Nat.add_zero]
theorem startOf_le (ss:List Nat) (i:Nat):startOf ss i<=ss.sum:=by
 unfold startOf
 have:ss.sum=(ss.take i).sum+(ss.drop i).sum:=by rw [<-List.sum_append,List.take_append_drop]
 omega
theorem startOf_fit (ss:List Nat) (i:Nat) (h:i<ss.length):startOf ss i+ss[i]<=ss.sum:=by
 rw [<-startOf_succ ss i h]
 exact startOf_le ss (i+1)
def rawCost (part:List Int):Nat:=5+widthL part*part.length
def partCost (k:Nat) (part:List Int):Nat:=5+if k=31 then rawCost part else rsum k part
def partBits (k:Nat) (part:List Int):List Nat :=
 bitsOf k 5++if k=31 then bitsOf (widthL part) 5++part.flatMap (fun x=>bitsOf (modN x (widthL part)) (widthL part)) else rbitsAll k part
theorem flat_bits_len (n:Nat) (f:Int->Nat) (l:List Int):(l.flatMap (fun x=>bitsOf (f x) n)).length=n*l.length:=by
 induction l with
 | nil=>simp
 | cons x l ih=>rw [List.flatMap_cons,zC,bitsOf_len,ih,zK,Nat.mul_add];omega
theorem partBits_len (k:Nat) (part:List Int):(partBits k part).length=partCost k part:=by
 unfold partBits partCost rawCost
 split
 ·rw [zC,zC,bitsOf_len,bitsOf_len,flat_bits_len]
 ·rw [zC,bitsOf_len,rbitsAll_len]
def costP (ks:List Nat) (ps:List (List Int)):Nat:=4+((ks.zip ps).map (fun p=>partCost p.1 p.2)).sum
def bitsP (o:Nat) (ks:List Nat) (ps:List (List Int)):List Nat:=bitsOf o 4++(ks.zip ps).flatMap (fun p=>partBits p.1 p.2)
theorem bitsP_len (o:Nat) (ks:List Nat) (ps:List (List Int)):(bitsP o ks ps).length=costP ks ps:=by
 unfold bitsP costP
 rw [zC,bitsOf_len]
 congr 1
 generalize ks.zip ps=z
 induction z with
 | nil=>rfl
 | cons p z ih=>rw [List.flatMap_cons,zC,partBits_len,ih,List.map_cons,List.sum_cons]
def chooseK (part:List Int):Nat:=if rawCost part<rsum (rbest part) part then 31 else rbest part
theorem chooseK_ok (part:List Int):chooseK part<=25\/chooseK part=31:=by
 have:=rbest_le part
 unfold chooseK
 split<;>omega
def planOf (o n warm:Nat) (l:List Int):List Nat:=(splitL (sizesL o n warm) l).map chooseK
structure Plan where
 order:Nat
 ks:List Nat
 cost:Nat
def planStep (n warm:Nat) (l:List Int) (s:Plan) (o:Nat):Plan :=
 if sizesL o n warm=[] then s
 else if s.cost=0\/costP (planOf o n warm l) (splitL (sizesL o n warm) l)<s.cost then ⟨o,planOf o n warm l,costP (planOf o n warm l) (splitL (sizesL o n warm) l)⟩ else s
def plans (n warm:Nat) (l:List Int) (m:Nat):Plan:=(List.range m).foldl (planStep n warm l) ⟨0,[],0⟩
def bestPlan (n warm most:Nat) (l:List Int):Plan:=plans n warm l (min most 8+1)
theorem plans_succ (n warm:Nat) (l:List Int) (m:Nat):plans n warm l (m+1)=planStep n warm l (plans n warm l m) m:=by
 simp [plans,List.range_succ]
def PlanOk (n warm:Nat) (l:List Int) (s:Plan):Prop:=sizesL s.order n warm≠[]/\s.ks=planOf s.order n warm l/\s.cost=costP s.ks (splitL (sizesL s.order n warm) l)
theorem costP_pos (ks:List Nat) (ps:List (List Int)):4<=costP ks ps:=by unfold costP;omega
theorem plans_ok {n warm:Nat} (h:warm<=n) (l:List Int):∀ m,PlanOk n warm l (plans n warm l (m+1))/\(plans n warm l (m+1)).order<=m
 | 0=>by
  have h0:=sizesL_zero h
  have hne:sizesL 0 n warm≠[]:=by rw [h0];simp
  have e0:plans n warm l 0=⟨0,[],0⟩:=rfl
  rw [plans_succ,e0,planStep,if_neg hne,if_pos (.inl rfl)]
  exact ⟨⟨hne,rfl,rfl⟩,zQ _⟩
 | m+1=>by
  obtain ⟨h1,h2⟩:=plans_ok h l m
  rw [plans_succ,planStep]
  split
  ·exact ⟨h1,by omega⟩
  ·rename_i hne
   split
   ·exact ⟨⟨hne,rfl,rfl⟩,zQ _⟩
   ·exact ⟨h1,by omega⟩
theorem bestPlan_ok {n warm most:Nat} (h:warm<=n) (l:List Int):PlanOk n warm l (bestPlan n warm most l)/\(bestPlan n warm most l).order<=8/\(bestPlan n warm most l).order<=most:=by
 obtain ⟨h1,h2⟩:=plans_ok h l (min most 8)
 exact ⟨h1,Nat.le_trans h2 (Nat.min_le_right _ _),Nat.le_trans h2 (Nat.min_le_left _ _)⟩
def pieces (s n:Nat):Nat->Nat->List (Nat × Nat)
 | 0,_=>[]
 | f+1,x=>if x<n then (x,min s (n-x))::pieces s n f (x+s) else []
theorem pieces_end {s n x:Nat} (f:Nat) (h:n<=x):pieces s n f x=[]:=by
 cases f
 ·rfl
 ·rw [pieces,if_neg (by omega)]
theorem pieces_step {s n x:Nat} (f:Nat) (h:x<n):pieces s n (f+1) x=(x,min s (n-x))::pieces s n f (x+s):=by
 rw [pieces,if_pos h]
theorem pieces_sum {s n:Nat} (hs:1<=s):∀ (f x:Nat),n<=x+f->((pieces s n f x).map (·.2)).sum=n-x
 | 0,x,h=>by simp [pieces];omega
 | f+1,x,h=>by
  by_cases hx:x<n
  ·rw [pieces_step f hx,List.map_cons,List.sum_cons,pieces_sum hs f (x+s) (by omega)]
   simp only
   omega
  ·rw [pieces_end _ (by omega)]
   simp
   omega
theorem pieces_ok {s n:Nat} (hs:1<=s):∀ (f x:Nat),∀ p∈pieces s n f x,1<=p.2/\p.2<=s/\p.1+p.2<=n
 | 0,x,p,hp=>by simp [pieces] at hp
 | f+1,x,p,hp=>by
  by_cases hx:x<n
  ·rw [pieces_step f hx] at hp
   rcases zJ.1 hp with rfl | hp
   ·simp only;omega
   ·exact pieces_ok hs f (x+s) p hp
  ·rw [pieces_end _ (by omega)] at hp
   simp at hp
theorem pieces_len (s n:Nat):∀ (f x:Nat),(pieces s n f x).length<=f
 | 0,x=>by simp [pieces]
 | f+1,x=>by
  by_cases hx:x<n
  ·rw [pieces_step f hx,zK]
   have:=pieces_len s n f (x+s)
   omega
  ·rw [pieces_end _ (by omega)]
   simp
structure Sq where
 x:Nat
 y:Nat
 w:Nat
 h:Nat
def gridRow (w s:Nat) (p:Nat × Nat):List Sq:=(pieces s w w 0).map fun q=>⟨q.1,p.1,q.2,p.2⟩
def gridL (w h s:Nat):List Sq:=(pieces s h h 0).flatMap (gridRow w s)
def area (l:List Sq):Nat:=(l.map fun q=>q.w*q.h).sum
theorem area_append (a b:List Sq):area (a++b)=area a+area b:=by simp [area]
theorem area_row {w s:Nat} (hs:1<=s) (p:Nat × Nat):area (gridRow w s p)=w*p.2:=by
 have h:=pieces_sum (n:=w) hs w 0 (by omega)
 have e:∀ l:List (Nat × Nat),(l.map fun q:Nat × Nat=>q.2*p.2).sum=(l.map (·.2)).sum*p.2:=by
  intro l
  induction l with
  | nil=>simp
  | cons a l ih=>simp only [List.map_cons,List.sum_cons,ih,Nat.add_mul]
 unfold area gridRow
 rw [List.map_map]
 show ((pieces s w w 0).map fun q=>q.2*p.2).sum=_
 rw [e,h]
 rfl
theorem area_grid {w h s:Nat} (hs:1<=s):area (gridL w h s)=w*h:=by
 have e:∀ l:List (Nat × Nat),area (l.flatMap (gridRow w s))=w*(l.map (·.2)).sum:=by
  intro l
  induction l with
  | nil=>simp [area]
  | cons a l ih=>rw [List.flatMap_cons,area_append,ih,area_row hs,List.map_cons,List.sum_cons,Nat.mul_add]
 unfold gridL
 rw [e,pieces_sum hs h 0 (by omega)]
 rfl
theorem grid_ok {w h s:Nat} (hs:1<=s):∀ q∈gridL w h s,1<=q.w/\q.w<=s/\1<=q.h/\q.h<=s:=by
 intro q hq
 obtain ⟨p,hp,hq⟩:=List.mem_flatMap.1 hq
 obtain ⟨r,hr,rfl⟩:=List.mem_map.1 hq
 have h1:=pieces_ok hs _ _ p hp
 have h2:=pieces_ok hs _ _ r hr
 exact ⟨h2.1,h2.2.1,h1.1,h1.2.1⟩
structure PicD where
 W:Nat
 H:Nat
 d:Nat
 P:List (List Int)
structure PicD.Ok (p:PicD):Prop where
 w0:1<=p.W
 w1:p.W<=64
 h0:1<=p.H
 h1:p.H<=64
 d0:1<=p.d
 d1:p.d<=16
 n0:1<=p.P.length
 n1:p.P.length<=4
 len:∀ l∈p.P,l.length=p.W*p.H
 smp:∀ l∈p.P,SmpOk p.d l
theorem PicD.Ok.area {p:PicD} (h:p.Ok):p.W*p.H<=4096:=zL h.w1 h.h1
theorem PicD.Ok.pos {p:PicD} (h:p.Ok):0<p.W*p.H:=Nat.mul_pos h.w0 h.h0
structure AlikeD (p q:PicD):Prop where
 W:p.W=q.W
 H:p.H=q.H
 d:p.d=q.d
 n:p.P.length=q.P.length
def partF (l:List Int) (W x y w h:Nat):List Int:=(List.range h).flatMap fun j=>(List.range w).map fun i=>l.getD ((y+j)*W+(x+i)) 0
theorem flat_len {α:Type} {w:Nat}:∀ (h:Nat) (f:Nat->List α),(∀ j,(f j).length=w)->((List.range h).flatMap f).length=h*w
 | 0,f,_=>by simp
 | h+1,f,hf=>by rw [List.range_succ,List.flatMap_append,zC,flat_len h f hf];simp [hf,Nat.succ_mul]
theorem flat_get {α:Type} {w:Nat}:∀ (h:Nat) (f:Nat->List α),(∀ j,(f j).length=w)->∀ j i,j<h->i<w->((List.range h).flatMap f)[j*w+i]?=(f j)[i]?
 | 0,f,_,j,i,hj,_=>by omega
 | h+1,f,hf,j,i,hj,hi=>by
  rw [List.range_succ,List.flatMap_append]
  have hl:=flat_len h f hf
  rcases zZ j h with h1 | h1
  ·have h2:j*w+i<h*w:=by
    have:=Nat.mul_le_mul_right w (show j+1<=h by omega)
    rw [Nat.succ_mul] at this
    omega
   rw [List.getElem?_append_left (by omega),flat_get h f hf j i h1 hi]
  ·obtain rfl:j=h:=by omega
   rw [zS (by omega),hl]
   simp
theorem partF_len (l:List Int) (W x y w h:Nat):(partF l W x y w h).length=h*w:=flat_len h _ (by simp)
theorem partF_get (l:List Int) (W x y:Nat) {w h j i:Nat} (hj:j<h) (hi:i<w):(partF l W x y w h)[j*w+i]?=some (l.getD ((y+j)*W+(x+i)) 0):=by
 unfold partF
 rw [flat_get h _ (by simp) j i hj hi]
 simp [hi]
theorem partF_succ (l:List Int) (W x y w h:Nat):partF l W x y w (h+1)=partF l W x y w h++(List.range w).map fun i=>l.getD ((y+h)*W+(x+i)) 0:=by
 unfold partF
 rw [List.range_succ,List.flatMap_append]
 simp
theorem getD_smp {d:Nat} {l:List Int} (h:SmpOk d l) (k:Nat):0<=l.getD k 0/\l.getD k 0<2^d:=by
 rw [zD]
 cases hx:l[k]? with
 | none=>exact ⟨Int.le_refl 0,two_pow_pos' d⟩
 | some x=>exact h x (List.mem_of_getElem? hx)
theorem partF_smp {d:Nat} {l:List Int} (hs:SmpOk d l) (W x y w h:Nat):SmpOk d (partF l W x y w h):=by
 intro v hv
 obtain ⟨j,_,hv⟩:=List.mem_flatMap.1 hv
 obtain ⟨i,_,rfl⟩:=List.mem_map.1 hv
 exact getD_smp hs _
theorem row_slice {l:List Int} {W H x Y w:Nat} (hl:l.length=W*H) (hx:x+w<=W) (hY:Y<H):((l.drop (Y*W+x)).take w)=(List.range w).map fun i=>l.getD (Y*W+(x+i)) 0:=by
 have h2:Y*W+W<=W*H:=by
  have:=Nat.mul_le_mul_right W (show Y+1<=H by omega)
  rw [Nat.succ_mul,zY H] at this
  exact this
 apply List.ext_getElem?
 intro i
 rcases zZ i w with hi | hi
 ·rw [List.getElem?_take,if_pos hi,List.getElem?_drop,zW,List.getElem?_range hi,Option.map_some,zD,<-Nat.add_assoc,zF (show Y*W+x+i<l.length by omega)]
  rfl
 ·rw [List.getElem?_take,if_neg (by omega),List.getElem?_eq_none (by simp;omega)]
def inSq (W k:Nat) (s:Sq):Bool:=decide (s.x<=k%W)&&decide (k%W<s.x+s.w)&&decide (s.y<=k / W)&&decide (k / W<s.y+s.h)
def mixF (q l:List Int) (W:Nat) (bs:List Sq):List Int:=(List.range l.length).map fun k=>if bs.any (inSq W k) then q.getD k 0 else l.getD k 0
theorem mixF_len (q l:List Int) (W:Nat) (bs:List Sq):(mixF q l W bs).length=l.length:=by simp [mixF]
theorem mixF_get {q l:List Int} {W:Nat} {bs:List Sq} {k:Nat} (hk:k<l.length):(mixF q l W bs)[k]?=some (if bs.any (inSq W k) then q.getD k 0 else l.getD k 0):=by
 unfold mixF
 rw [zW,List.getElem?_range hk]
 rfl
theorem mixF_nil (q l:List Int) (W:Nat):mixF q l W []=l:=by
 apply List.ext_getElem?
 intro k
 rcases zZ k l.length with hk | hk
 ·rw [mixF_get hk,zF hk]
  simp [hk]
 ·rw [List.getElem?_eq_none hk,List.getElem?_eq_none (by rw [mixF_len];exact hk)]
theorem mixF_flat (q l:List Int) (W:Nat) (bs:List Sq) (s:Sq) (h0:s.h=0):mixF q l W (bs++[s])=mixF q l W bs:=by
 unfold mixF
 congr 1
 funext k
 have e:(bs++[s]).any (inSq W k)=bs.any (inSq W k):=by
  rw [List.any_append]
  have h:inSq W k s=false:=by unfold inSq;rw [h0];simp<;>omega
  simp [h]
 rw [e]
theorem mixF_all {q l:List Int} {W:Nat} {bs:List Sq} (hq:q.length=l.length) (h:∀ k,k<l.length->bs.any (inSq W k)=true):mixF q l W bs=q:=by
 apply List.ext_getElem?
 intro k
 rcases zZ k l.length with hk | hk
 ·rw [mixF_get hk,if_pos (h k hk),zF (by omega),zD,zF (by omega)]
  rfl
 ·rw [List.getElem?_eq_none (by rw [mixF_len];exact hk),List.getElem?_eq_none (by omega)]
theorem mixF_row {q l:List Int} {W H:Nat} {bs:List Sq} {s:Sq} (hq:q.length=l.length) (hl:l.length=W*H) (hx:s.x+s.w<=W) (hy:s.y+s.h<H) :
  let m:=mixF q l W (bs++[s])
  let at_:=(s.y+s.h)*W+s.x
  m.take at_++((List.range s.w).map fun i=>q.getD ((s.y+s.h)*W+(s.x+i)) 0)++m.drop (at_+s.w)=mixF q l W (bs++[⟨s.x,s.y,s.w,s.h+1⟩]):=by
 intro m at_
 obtain ⟨Y,hY⟩:=zX (s.y+s.h)
 have ah:at_=Y*W+s.x:=by rw [hY]
 have h2:Y*W+W<=l.length:=by
  have:=Nat.mul_le_mul_right W (show Y+1<=H by omega)
  rw [Nat.succ_mul,zY H,<-hl] at this
  exact this
 have hm:m.length=l.length:=mixF_len _ _ _ _
 have ht:(m.take at_).length=at_:=by rw [zI,hm];omega
 rw [<-hY]
 have ae:∀ k,inSq W k ⟨s.x,s.y,s.w,s.h+1⟩=(inSq W k s||(decide (s.x<=k%W)&&decide (k%W<s.x+s.w)&&decide (k / W=Y))):=by
  intro k
  unfold inSq
  simp only
  rw [hY]
  by_cases h1:s.x<=k%W
  ·by_cases h3:k%W<s.x+s.w
   ·simp only [h1,h3,decide_true,Bool.true_and]
    by_cases h4:s.y<=k / W
    ·by_cases h5:k / W<s.y+s.h
     ·have h6:k / W<s.y+(s.h+1):=by omega
      simp [h4,h5,h6]
     ·by_cases h6:k / W=s.y+s.h
      ·simp [h6]<;>omega
      ·have h7:¬ k / W<s.y+(s.h+1):=by omega
       simp [h5,h6,h7]
    ·have h6:¬ k / W=s.y+s.h:=by omega
     simp [h4,h6]
   ·simp [h3]
  ·simp [h1]
 apply List.ext_getElem?
 intro k
 rcases zZ k l.length with hk | hk
 ·rw [mixF_get hk]
  have hW:0<W:=by
   rcases Nat.eq_zero_or_pos W with h | h
   ·rw [h] at hl;omega
   ·exact h
  have ad:=Nat.div_add_mod k W
  have ag:=Nat.mod_lt k hW
  rw [List.any_append,List.any_cons,List.any_nil,Bool.or_false,ae k]
  rcases zZ k at_ with h1 | h1
  ·rw [zH,List.getElem?_append_left (by omega),List.getElem?_take,if_pos h1,mixF_get hk,List.any_append,List.any_cons,List.any_nil,Bool.or_false]
   have hf:(decide (s.x<=k%W)&&decide (k%W<s.x+s.w)&&decide (k / W=Y))=false:=by
    rw [Bool.and_eq_false_iff]
    by_cases h6:k / W=Y
    ·left
     rw [Bool.and_eq_false_iff]
     left
     rw [decide_eq_false_iff_not]
     rw [h6,zY] at ad
     omega
    ·right;simp [h6]
   rw [hf,Bool.or_false]
  ·rcases zZ k (at_+s.w) with h3 | h3
   ·have ac:k=Y*W+(s.x+(k-at_)):=by omega
    have aa:k%W=s.x+(k-at_):=by
     rw [ac,Nat.add_comm,Nat.add_mul_mod_self_right,Nat.mod_eq_of_lt (by omega)]
     omega
    have ab:k / W=Y:=by
     rw [ac,Nat.add_comm,Nat.add_mul_div_right _ _ hW,Nat.div_eq_of_lt (by omega),Nat.zero_add]
    have af:(decide (s.x<=k%W)&&decide (k%W<s.x+s.w)&&decide (k / W=Y))=true:=by
     rw [aa,ab]
     simp
     omega
    rw [af,Bool.or_true,Bool.or_true,if_pos rfl,zH,zS (by omega),ht,List.getElem?_append_left (by simp;omega),zW,List.getElem?_range (by omega),Option.map_some,<-ac]
   ·rw [zH,zS (by omega),ht,zS (by simp;omega),zE,List.length_range,List.getElem?_drop]
    rw [show at_+s.w+(k-at_-s.w)=k by omega,mixF_get hk,List.any_append,List.any_cons,List.any_nil,Bool.or_false]
    have hf:(decide (s.x<=k%W)&&decide (k%W<s.x+s.w)&&decide (k / W=Y))=false:=by
     rw [Bool.and_eq_false_iff]
     by_cases h6:k / W=Y
     ·left
      rw [Bool.and_eq_false_iff]
      right
      rw [decide_eq_false_iff_not]
      rw [h6,zY] at ad
      omega
     ·right;simp [h6]
    rw [hf,Bool.or_false]
 ·rw [List.getElem?_eq_none (l:=mixF _ _ _ _) (by rw [mixF_len];exact hk),List.getElem?_eq_none]
  rw [zC,zC,ht,zE,List.length_range,zO,hm]
  omega
theorem pieces_cover {s n:Nat} (hs:1<=s):∀ (f x k:Nat),n<=x+f->x<=k->k<n->∃ p∈pieces s n f x,p.1<=k/\k<p.1+p.2
 | 0,x,k,h,h1,h2=>by omega
 | f+1,x,k,h,h1,h2=>by
  have hx:x<n:=by omega
  rw [pieces_step f hx]
  by_cases hk:k<x+min s (n-x)
  ·exact ⟨_,List.mem_cons_self ..,h1,hk⟩
  ·obtain ⟨p,hp,h3⟩:=pieces_cover hs f (x+s) k (by omega) (by omega) h2
   exact ⟨p,List.mem_cons_of_mem _ hp,h3⟩
theorem grid_cover {W H s k:Nat} (hs:1<=s) (hk:k<W*H):(gridL W H s).any (inSq W k)=true:=by
 have hW:0<W:=by
  rcases Nat.eq_zero_or_pos W with h | h
  ·rw [h] at hk;omega
  ·exact h
 obtain ⟨p,hp,ab,ac⟩:=pieces_cover (s:=s) (n:=H) hs H 0 (k / W) (by omega) (Nat.zero_le _) (Nat.div_lt_of_lt_mul hk)
 obtain ⟨q,hq,aa,ad⟩:=pieces_cover (s:=s) (n:=W) hs W 0 (k%W) (by omega) (Nat.zero_le _) (Nat.mod_lt _ hW)
 rw [List.any_eq_true]
 refine ⟨⟨q.1,p.1,q.2,p.2⟩,List.mem_flatMap.2 ⟨p,hp,List.mem_map.2 ⟨q,hq,rfl⟩⟩,?_⟩
 unfold inSq
 simp [ab,ac,aa,ad]
theorem grid_in {W H s:Nat} (hs:1<=s):∀ q∈gridL W H s,q.x+q.w<=W/\q.y+q.h<=H:=by
 intro q hq
 obtain ⟨p,hp,hq⟩:=List.mem_flatMap.1 hq
 obtain ⟨r,hr,rfl⟩:=List.mem_map.1 hq
 have h1:=pieces_ok hs _ _ p hp
 have h2:=pieces_ok hs _ _ r hr
 exact ⟨h2.2.2,h1.2.2⟩
def mayH (n k:Nat):Bool:=decide (1<=n)&&decide (n<=4)&&(decide (k=0)||(decide (k=1\/k=2\/k=3)&&decide (3<=n))||(decide (k=4)&&decide (2<=n)))
def shrI (v:Int) (s:Nat):Int:=v / 2^s
def foreP (k d:Nat) (a b c e:Int):List Int :=
 if k=1 then [wrapI (a-b) d,b,wrapI (c-b) d,e]
 else if k=2 then
  [wrapI (wrapI (c+shrI (foldI (wrapI (a-c) d) d) 1) d+shrI (foldI (wrapI (b-wrapI (c+shrI (foldI (wrapI (a-c) d) d) 1) d) d) d) 1) d,wrapI (a-c) d,wrapI (b-wrapI (c+shrI (foldI (wrapI (a-c) d) d) 1) d) d,e]
 else if k=3 then [wrapI (b+shrI (foldI (wrapI (c-b) d) d+foldI (wrapI (a-b) d) d) 2) d,wrapI (c-b) d,wrapI (a-b) d,e]
 else if k=4 then [a,wrapI (b-a) d,wrapI (c-b) d,wrapI (e-c) d]
 else [a,b,c,e]
def backP (k d:Nat) (a b c e:Int):List Int :=
 if k=1 then [wrapI (a+b) d,b,wrapI (c+b) d,e]
 else if k=2 then
  [wrapI (b+wrapI (wrapI (a-shrI (foldI c d) 1) d-shrI (foldI b d) 1) d) d,wrapI (c+wrapI (a-shrI (foldI c d) 1) d) d,wrapI (wrapI (a-shrI (foldI c d) 1) d-shrI (foldI b d) 1) d,e]
 else if k=3 then [wrapI (c+wrapI (a-shrI (foldI b d+foldI c d) 2) d) d,wrapI (a-shrI (foldI b d+foldI c d) 2) d,wrapI (b+wrapI (a-shrI (foldI b d+foldI c d) 2) d) d,e]
 else if k=4 then [a,wrapI (b+a) d,wrapI (c+wrapI (b+a) d) d,wrapI (e+wrapI (c+wrapI (b+a) d) d) d]
 else [a,b,c,e]
def at4 (f:Int->Int->Int->Int->List Int) (c:List Int):List Int:=f (c.getD 0 0) (c.getD 1 0) (c.getD 2 0) (c.getD 3 0)
theorem foreP_len (k d:Nat) (a b c e:Int):(foreP k d a b c e).length=4:=by unfold foreP;(repeat' split)<;>rfl
theorem backP_len (k d:Nat) (a b c e:Int):(backP k d a b c e).length=4:=by unfold backP;(repeat' split)<;>rfl
def In4 (d:Nat) (v:Int):Prop:=0<=v/\v<2^d
theorem In4.wrap (v:Int) (d:Nat):In4 d (wrapI v d):=⟨wrapI_lo _ _,wrapI_hi _ _⟩
theorem foreP_in {k d:Nat} {a b c e:Int} (ha:In4 d a) (hb:In4 d b) (hc:In4 d c) (he:In4 d e):∀ v∈foreP k d a b c e,In4 d v:=by
 unfold foreP
 intro v hv
 repeat' split at hv
 all_goals
  simp only [zJ,List.not_mem_nil,or_false] at hv
  rcases hv with rfl | rfl | rfl | rfl<;>first | assumption | exact In4.wrap _ _
theorem backP_in {k d:Nat} {a b c e:Int} (ha:In4 d a) (hb:In4 d b) (hc:In4 d c) (he:In4 d e):∀ v∈backP k d a b c e,In4 d v:=by
 unfold backP
 intro v hv
 repeat' split at hv
 all_goals
  simp only [zJ,List.not_mem_nil,or_false] at hv
  rcases hv with rfl | rfl | rfl | rfl<;>first | assumption | exact In4.wrap _ _
theorem wrap_undo {s t:Int} {d:Nat} (h:In4 d s) (g:Int) (hg:t=s-g):wrapI (wrapI t d+g) d=s:=by
 subst hg
 exact unfold_wrap h.1 h.2
theorem wrap_undo' {s t:Int} {d:Nat} (h:In4 d s) (g:Int) (hg:t=s+g):wrapI (wrapI t d-g) d=s:=by
 subst hg
 rw [Int.sub_eq_add_neg,Int.add_comm,wrapI_add_wrap,show -g+(s+g)=s by omega]
 exact wrapI_in h.1 h.2
theorem back_foreP {n k d:Nat} (hm:mayH n k=true) {a b c e:Int} (ha:In4 d a) (hb:In4 d b) (hc:In4 d c) (he:In4 d e) {x y z t:Int}
  (hx:x=(foreP k d a b c e).getD 0 0) (hy:1<n->y=(foreP k d a b c e).getD 1 0) (hz:2<n->z=(foreP k d a b c e).getD 2 0) (ht:3<n->t=(foreP k d a b c e).getD 3 0) :
  ∀ j,j<n->(backP k d x y z t).getD j 0=[a,b,c,e].getD j 0:=by
 unfold mayH at hm
 simp only [Bool.and_eq_true,Bool.or_eq_true,decide_eq_true_eq] at hm
 obtain ⟨⟨n0,n4⟩,hk⟩:=hm
 have aa:k<=4:=by omega
 intro j hj
 match k,aa with
 | 0,_ =>
  simp only [foreP,backP] at *
  match j with
  | 0=>simpa using hx
  | 1=>simpa using hy hj
  | 2=>simpa using hz hj
  | 3=>simpa using ht hj
  | j+4=>omega
 | 1,_ =>
  have n3:3<=n:=by omega
  have hy:=hy (by omega)
  have hz:=hz (by omega)
  simp [foreP] at hx hy hz ht
  subst hx hy hz
  match j with
  | 0=>simpa [backP] using wrap_undo ha y rfl
  | 1=>simp [backP]
  | 2=>simpa [backP] using wrap_undo hc y rfl
  | 3=>simpa [backP] using ht hj
  | j+4=>omega
 | 2,_ =>
  have n3:3<=n:=by omega
  have hy:=hy (by omega)
  have hz:=hz (by omega)
  simp [foreP] at hx hy hz ht
  have e1:wrapI (x-shrI (foldI z d) 1) d=wrapI (c+shrI (foldI y d) 1) d:=by
   rw [hx,hz,hy]
   exact wrap_undo' (In4.wrap _ _) _ rfl
  have e2:wrapI (wrapI (x-shrI (foldI z d) 1) d-shrI (foldI y d) 1) d=c:=by
   rw [e1]
   exact wrap_undo' hc _ rfl
  match j with
  | 0 =>
   have h1:wrapI (y+c) d=a:=by rw [hy];exact wrap_undo ha c rfl
   simpa [backP,e2] using h1
  | 1 =>
   have h1:wrapI (z+wrapI (c+shrI (foldI y d) 1) d) d=b:=by rw [hz,hy];exact wrap_undo hb _ rfl
   simpa [backP,e1] using h1
  | 2=>simpa [backP] using e2
  | 3=>simpa [backP] using ht hj
  | j+4=>omega
 | 3,_ =>
  have n3:3<=n:=by omega
  have hy:=hy (by omega)
  have hz:=hz (by omega)
  simp [foreP] at hx hy hz ht
  have e1:wrapI (x-shrI (foldI y d+foldI z d) 2) d=b:=by
   rw [hx,hy,hz]
   exact wrap_undo' hb _ rfl
  match j with
  | 0 =>
   have h1:wrapI (z+b) d=a:=by rw [hz];exact wrap_undo ha b rfl
   simpa [backP,e1] using h1
  | 1=>simpa [backP] using e1
  | 2 =>
   have h1:wrapI (y+b) d=c:=by rw [hy];exact wrap_undo hc b rfl
   simpa [backP,e1] using h1
  | 3=>simpa [backP] using ht hj
  | j+4=>omega
 | 4,_ =>
  simp [foreP] at hx hy hz ht
  subst hx
  have h1:1<n->wrapI (y+x) d=b:=fun h=>by rw [hy h];exact wrap_undo hb x rfl
  have h2:2<n->wrapI (z+b) d=c:=fun h=>by rw [hz h];exact wrap_undo hc b rfl
  have h3:3<n->wrapI (t+c) d=e:=fun h=>by rw [ht h];exact wrap_undo he c rfl
  match j with
  | 0=>simp [backP]
  | 1=>simpa [backP] using h1 hj
  | 2=>simpa [backP,h1 (by omega)] using h2 hj
  | 3=>simpa [backP,h1 (by omega),h2 (by omega)] using h3 hj
  | j+4=>omega
def pt4 (P:List (List Int)) (i:Nat):List Int:=(List.range 4).map fun k=>(P.getD k []).getD i 0
theorem pt4_eq (P:List (List Int)) (i:Nat):pt4 P i=[(P.getD 0 []).getD i 0,(P.getD 1 []).getD i 0,(P.getD 2 []).getD i 0,(P.getD 3 []).getD i 0]:=rfl
def turnPl (f:Int->Int->Int->Int->List Int) (P:List (List Int)) (N:Nat):List (List Int):=(List.range P.length).map fun k=>(List.range N).map fun i=>(at4 f (pt4 P i)).getD k 0
theorem turnPl_len (f:Int->Int->Int->Int->List Int) (P:List (List Int)) (N:Nat):(turnPl f P N).length=P.length:=by simp [turnPl]
theorem turnPl_get {f:Int->Int->Int->Int->List Int} {P:List (List Int)} {N k:Nat} (hk:k<P.length):(turnPl f P N).getD k []=(List.range N).map fun i=>(at4 f (pt4 P i)).getD k 0:=by
 unfold turnPl
 rw [zD,zW,List.getElem?_range hk]
 rfl
theorem turnPl_at {f:Int->Int->Int->Int->List Int} {P:List (List Int)} {N k i:Nat} (hk:k<P.length) (hi:i<N):((turnPl f P N).getD k []).getD i 0=(at4 f (pt4 P i)).getD k 0:=by
 rw [turnPl_get hk,zD,zW,List.getElem?_range hi]
 rfl
def turnD (f:Int->Int->Int->Int->List Int) (p:PicD):PicD:=⟨p.W,p.H,p.d,turnPl f p.P (p.W*p.H)⟩
def foreH (k:Nat) (p:PicD):PicD:=turnD (foreP k p.d) p
def backH (k:Nat) (p:PicD):PicD:=turnD (backP k p.d) p
theorem pt4_in {p:PicD} (h:p.Ok) (i k:Nat):In4 p.d ((p.P.getD k []).getD i 0):=by
 rcases zZ k p.P.length with hk | hk
 ·have hm:p.P.getD k []∈p.P:=by
   rw [zD,zF hk]
   exact zG hk
  exact getD_smp (h.smp _ hm) i
 ·rw [zD (l:=p.P),List.getElem?_eq_none hk]
  exact ⟨Int.le_refl 0,two_pow_pos' _⟩
theorem turnD_ok {p:PicD} (h:p.Ok) {f:Int->Int->Int->Int->List Int} (hf:∀ a b c e,In4 p.d a->In4 p.d b->In4 p.d c->In4 p.d e->∀ v∈f a b c e,In4 p.d v):(turnD f p).Ok where
 w0:=h.w0
 w1:=h.w1
 h0:=h.h0
 h1:=h.h1
 d0:=h.d0
 d1:=h.d1
 n0:=by show 1<=(turnPl _ _ _).length;rw [turnPl_len];exact h.n0
 n1:=by show (turnPl _ _ _).length<=4;rw [turnPl_len];exact h.n1
 len:=fun l hl=>by
  obtain ⟨k,_,rfl⟩:=List.mem_map.1 hl
  simp [turnD]
 smp:=fun l hl v hv=>by
  obtain ⟨k,_,rfl⟩:=List.mem_map.1 hl
  obtain ⟨i,_,rfl⟩:=List.mem_map.1 hv
  show In4 p.d _
  rw [zD]
  cases hx:(at4 f (pt4 p.P i))[k]? with
  | none=>exact ⟨Int.le_refl 0,two_pow_pos' _⟩
  | some x=>exact hf _ _ _ _ (pt4_in h i 0) (pt4_in h i 1) (pt4_in h i 2) (pt4_in h i 3) x (List.mem_of_getElem? hx)
theorem foreH_ok {p:PicD} (h:p.Ok) (k:Nat):(foreH k p).Ok:=turnD_ok h fun _ _ _ _ a b c e=>foreP_in a b c e
theorem backH_ok {p:PicD} (h:p.Ok) (k:Nat):(backH k p).Ok:=turnD_ok h fun _ _ _ _ a b c e=>backP_in a b c e
theorem pic_ext {p q:PicD} (hW:p.W=q.W) (hH:p.H=q.H) (hd:p.d=q.d) (hn:p.P.length=q.P.length) (hp:p.Ok) (hq:q.Ok) (h:∀ k i,k<p.P.length->i<p.W*p.H->(p.P.getD k []).getD i 0=(q.P.getD k []).getD i 0):p=q:=by
 have e:p.P=q.P:=by
  apply List.ext_getElem hn
  intro k aa ac
  have g1:p.P.getD k []=p.P[k]:=by rw [zD,zF aa];rfl
  have g2:q.P.getD k []=q.P[k]:=by rw [zD,zF ac];rfl
  have l1:=hp.len _ (zG aa)
  have l2:=hq.len _ (zG ac)
  apply List.ext_getElem (by rw [l1,l2,hW,hH])
  intro i ab ad
  have:=h k i aa (by rw [<-l1];exact ab)
  rw [g1,g2,zD,zD,zF ab,zF ad] at this
  exact this
 cases p
 cases q
 simp_all
theorem back_fore {p:PicD} (h:p.Ok) {k:Nat} (hm:mayH p.P.length k=true):backH k (foreH k p)=p:=by
 have hl:(foreH k p).P.length=p.P.length:=turnPl_len _ _ _
 have aa:(backH k (foreH k p)).P.length=p.P.length:=(turnPl_len _ _ _).trans hl
 refine pic_ext rfl rfl rfl aa (backH_ok (foreH_ok h k) k) h ?_
 intro j i hj hi
 rw [aa] at hj
 have hi:i<p.W*p.H:=hi
 have e1:∀ t,t<p.P.length->((foreH k p).P.getD t []).getD i 0=(foreP k p.d ((p.P.getD 0 []).getD i 0) ((p.P.getD 1 []).getD i 0) ((p.P.getD 2 []).getD i 0) ((p.P.getD 3 []).getD i 0)).getD t 0:=fun t ht=>turnPl_at ht hi
 show ((turnPl (backP k p.d) (foreH k p).P (p.W*p.H)).getD j []).getD i 0=_
 rw [turnPl_at (by rw [hl];exact hj) hi]
 have h1:=back_foreP (n:=p.P.length) (k:=k) (d:=p.d) hm (pt4_in h i 0) (pt4_in h i 1) (pt4_in h i 2) (pt4_in h i 3) (e1 0 h.n0) (e1 1) (e1 2) (e1 3) j hj
 refine h1.trans ?_
 have ab:j<4:=by have:=h.n1;omega
 match j,ab with
 | 0,_=>rfl
 | 1,_=>rfl
 | 2,_=>rfl
 | 3,_=>rfl
def hcPl (l:List Int) (W d:Nat) (n:Nat):Nat:=((List.range n).map fun i=>(foldI (l.getD i 0-if i%W=0 then 0 else l.getD (i-1) 0) d).natAbs).sum
theorem hcPl_succ (l:List Int) (W d n:Nat):hcPl l W d (n+1)=hcPl l W d n+(foldI (l.getD n 0-if n%W=0 then 0 else l.getD (n-1) 0) d).natAbs:=by
 unfold hcPl
 rw [List.range_succ,zM,List.sum_append]
 simp
theorem hcPl_le (l:List Int) (W:Nat) {d:Nat} (h0:1<=d) (h1:d<=16):∀ n,hcPl l W d n<=32768*n
 | 0=>by simp [hcPl]
 | n+1=>by
  have h2:=hcPl_le l W h0 h1 n
  obtain ⟨r0,r1⟩:=foldI_range (l.getD n 0-if n%W=0 then 0 else l.getD (n-1) 0) h0
  have h3:(2:Int)^(d-1)<=2^15:=by
   have:=Nat.pow_le_pow_right (n:=2) (by decide) (show d-1<=15 by omega)
   exact_mod_cast this
  rw [hcPl_succ]
  omega
def hcTo (p:PicD) (k:Nat):Nat:=((List.range k).map fun j=>hcPl (p.P.getD j []) p.W p.d (p.W*p.H)).sum
theorem hcTo_succ (p:PicD) (k:Nat):hcTo p (k+1)=hcTo p k+hcPl (p.P.getD k []) p.W p.d (p.W*p.H):=by
 unfold hcTo
 rw [List.range_succ,zM,List.sum_append]
 simp
theorem hcTo_le {p:PicD} (h:p.Ok):∀ k,hcTo p k<=134217728*k
 | 0=>by simp [hcTo]
 | k+1=>by
  have h1:=hcTo_le h k
  have h2:=hcPl_le (p.P.getD k []) p.W h.d0 h.d1 (p.W*p.H)
  have h3:=h.area
  rw [hcTo_succ]
  omega
def costH (p:PicD):Nat:=hcTo p p.P.length
def bestH (p:PicD):Nat->Nat
 | 0=>0
 | n+1=>if mayH p.P.length (n+1)=true/\costH (foreH (n+1) p)<costH (foreH (bestH p n) p) then n+1 else bestH p n
theorem bestH_le (p:PicD):∀ n,bestH p n<=n
 | 0=>zQ _
 | n+1=>by
  have:=bestH_le p n
  unfold bestH
  split<;>omega
theorem bestH_may {p:PicD} (h:p.Ok):∀ n,mayH p.P.length (bestH p n)=true
 | 0=>by
  have h0:=h.n0
  have h1:=h.n1
  simp [bestH,mayH,h0,h1]
 | n+1=>by
  unfold bestH
  split
  ·rename_i hh;exact hh.1
  ·exact bestH_may h n
def midPl (P Q:List (List Int)) (n k:Nat):List (List Int):=(List.range P.length).map fun j=>(Q.getD j []).take (if j<k then n+1 else n)++(P.getD j []).drop (if j<k then n+1 else n)
theorem midPl_len (P Q:List (List Int)) (n k:Nat):(midPl P Q n k).length=P.length:=by simp [midPl]
theorem midPl_get {P Q:List (List Int)} {j:Nat} (n k:Nat) (hj:j<P.length):(midPl P Q n k)[j]?=some ((Q.getD j []).take (if j<k then n+1 else n)++(P.getD j []).drop (if j<k then n+1 else n)):=by
 unfold midPl
 rw [zW,List.getElem?_range hj]
 rfl
theorem midPl_getD {P Q:List (List Int)} {j:Nat} (n k:Nat) (hj:j<P.length):(midPl P Q n k).getD j []=(Q.getD j []).take (if j<k then n+1 else n)++(P.getD j []).drop (if j<k then n+1 else n):=by
 rw [zD,midPl_get n k hj]
 rfl
theorem midPl_start (P Q:List (List Int)):midPl P Q 0 0=P:=by
 apply List.ext_getElem?
 intro j
 rcases zZ j P.length with hj | hj
 ·rw [midPl_get 0 0 hj,zF hj,zD (l:=P),zF hj]
  simp
 ·rw [List.getElem?_eq_none (by rw [midPl_len];exact hj),List.getElem?_eq_none hj]
theorem midPl_end {P Q:List (List Int)} {N:Nat} (hn:Q.length=P.length) (hp:∀ j,j<P.length->(P.getD j []).length=N) (hq:∀ j,j<P.length->(Q.getD j []).length=N):midPl P Q N 0=Q:=by
 apply List.ext_getElem?
 intro j
 rcases zZ j P.length with hj | hj
 ·rw [midPl_get N 0 hj,if_neg (by omega),zT (by rw [hq j hj];exact zQ _),List.drop_eq_nil_of_le (by rw [hp j hj];exact zQ _),List.append_nil,zD,zF (by omega)]
  rfl
 ·rw [List.getElem?_eq_none (by rw [midPl_len];exact hj),List.getElem?_eq_none (by omega)]
theorem midPl_row (P Q:List (List Int)) (n:Nat):midPl P Q n P.length=midPl P Q (n+1) 0:=by
 apply List.ext_getElem?
 intro j
 rcases zZ j P.length with hj | hj
 ·rw [midPl_get _ _ hj,midPl_get _ _ hj,if_pos hj,if_neg (by omega)]
 ·rw [List.getElem?_eq_none (by rw [midPl_len];exact hj),List.getElem?_eq_none (by rw [midPl_len];exact hj)]
theorem take_set_drop {q p:List Int} {n:Nat} (hq:n<q.length) (hp:n<p.length):(q.take n++p.drop n).set n (q.getD n 0)=q.take (n+1)++p.drop (n+1):=by
 have hl:(q.take n).length=n:=by rw [zI];omega
 rw [List.set_append_right _ _ (by omega),hl,Nat.sub_self,List.drop_eq_getElem_cons hp,List.set_cons_zero,List.take_succ_eq_append_getElem hq,zH,zD,zF hq]
 rfl
theorem midPl_step {P Q:List (List Int)} {n k:Nat} (hk:k<P.length) (hp:n<(P.getD k []).length) (hq:n<(Q.getD k []).length) :
  (midPl P Q n k).set k (((midPl P Q n k).getD k []).set n ((Q.getD k []).getD n 0))=midPl P Q n (k+1):=by
 apply List.ext_getElem?
 intro j
 rcases zZ j P.length with hj | hj
 ·by_cases e:k=j
  ·subst e
   rw [List.getElem?_set_self (by rw [midPl_len];exact hk),midPl_get _ _ hk,midPl_getD _ _ hk,if_neg (by omega),if_pos (by omega),take_set_drop hq hp]
  ·rw [List.getElem?_set_ne e,midPl_get _ _ hj,midPl_get _ _ hj]
   congr 3
   ·by_cases h:j<k
    ·rw [if_pos h,if_pos (by omega)]
    ·rw [if_neg h,if_neg (by omega)]
   ·by_cases h:j<k
    ·rw [if_pos h,if_pos (by omega)]
    ·rw [if_neg h,if_neg (by omega)]
 ·rw [List.getElem?_eq_none (by rw [List.length_set,midPl_len];exact hj),List.getElem?_eq_none (by rw [midPl_len];exact hj)]
def midD (p q:PicD) (n k:Nat):PicD:=⟨p.W,p.H,p.d,midPl p.P q.P n k⟩
theorem getD_mem_or {P:List (List Int)} {j:Nat} (hj:j<P.length):P.getD j []∈P:=by
 rw [zD,zF hj]
 exact zG hj
theorem midD_ok {p q:PicD} (h:p.Ok) (hq:q.Ok) (ha:AlikeD p q) (n k:Nat):(midD p q n k).Ok where
 w0:=h.w0
 w1:=h.w1
 h0:=h.h0
 h1:=h.h1
 d0:=h.d0
 d1:=h.d1
 n0:=by show 1<=(midPl _ _ _ _).length;rw [midPl_len];exact h.n0
 n1:=by show (midPl _ _ _ _).length<=4;rw [midPl_len];exact h.n1
 len:=fun l hl=>by
  obtain ⟨j,hj,rfl⟩:=List.mem_map.1 hl
  have hj:=List.mem_range.1 hj
  have e1:=h.len _ (getD_mem_or hj)
  have e2:=hq.len _ (getD_mem_or (P:=q.P) (j:=j) (by rw [<-ha.n];exact hj))
  rw [<-ha.W,<-ha.H] at e2
  show _=p.W*p.H
  rw [zC,zI,zO,e1,e2]
  omega
 smp:=fun l hl v hv=>by
  obtain ⟨j,hj,rfl⟩:=List.mem_map.1 hl
  have hj:=List.mem_range.1 hj
  show 0<=v/\v<2^p.d
  rcases zP.1 hv with h1 | h1
  ·have:=hq.smp _ (getD_mem_or (P:=q.P) (j:=j) (by rw [<-ha.n];exact hj)) v (List.mem_of_mem_take h1)
   rw [<-ha.d] at this
   exact this
  ·exact h.smp _ (getD_mem_or hj) v (List.mem_of_mem_drop h1)
end Go.Proofs.YtepjepkgcdfboaaGreatDoor
