/- Maps in memory, told by what stands at each key. No program of its own. -/
import Derived.Maps.OwnSet
import Derived.Test.YtepjepkgcdfboaaGreatDoorMg29
import Derived.Test.YtepjepkgcdfboaaGreatDoorMg43
import Derived.Test.YtepjepkgcdfboaaGreatDoorMg28
import Derived.DeepKeys4
import Derived.Laws.CopyOwn
set_option linter.unusedVariables false
set_option linter.unusedSimpArgs false
set_option maxHeartbeats 1000000
set_option maxRecDepth 100000
namespace Go.Proofs.YtepjepkgcdfboaaGreatDoor
open Go.RowKit Go.Maps
structure e6r (P:Program) (k:TypeId) {α:Type} (kv:α->Value) (ok:α->Prop):Prop where
 key:∀ a,ok a->∃ l,keyOf P k (kv a)=some l
 inj:∀ a b,ok a->ok b->kv a=kv b->a=b
def a4f (P:Program) (k e:TypeId) {α:Type} (kv:α->Value) (ok:α->Prop) (w:World) (b n:Nat) (f:α->Option Lit):Prop :=
 ∃ D:DataW Unit,w.ownsMap P k (plainElem P e) b n D/\IsMap D/\∀ a l,ok a->keyOf P k (kv a)=some l->has D l=(f a).isSome/\∀ z,D.atKey l z=match f a with
  | some x => .lit x
  | none=>z
section
variable {P:Program} {k e t:TypeId} {α:Type} {kv:α->Value} {ok:α->Prop} {w w':World} {b n:Nat} {f:α->Option Lit}
theorem a4f.made (w:World) (P:Program) (k e:TypeId) (kv:α->Value) (ok:α->Prop):a4f P k e kv ok (w.alloc (.map #[] 0)) w.heap.size 0 (fun _=>none) :=
 ⟨.map [],World.ownsMap_made _ _ _ _,isMap_empty,fun v l _ _=>⟨rfl,fun z=>rfl⟩⟩
theorem a4f.lt (h:a4f P k e kv ok w b n f):b<w.heap.size:=by obtain ⟨D,h1,_⟩:=h;exact h1.lt
theorem a4f.chg {F:List Nat} (h:a4f P k e kv ok w b n f) (hc:Chg F w w') (hb:b∉F):a4f P k e kv ok w' b n f:=by
 obtain ⟨D,h1,h2⟩:=h
 have ab:=h1.lt
 obtain ⟨es,aa,hh,r⟩:=h1
 exact ⟨D,⟨es,aa,(hc.block b ab hb).trans hh,r⟩,h2⟩
theorem a4f.same (h:a4f P k e kv ok w b n f) (hc:Chg [] w w'):a4f P k e kv ok w' b n f:=h.chg hc (by simp)
theorem a4f.ne_ {g:Nat} {ty:TypeId} {cs:Array Value} (h:a4f P k e kv ok w b n f) (hg:Blk w g ty cs):g≠b:=by
 obtain ⟨D,⟨es,aa,hh,_⟩,_⟩:=h
 rintro rfl
 unfold Blk at hg
 rw [hh] at hg
 cases hg
theorem a4f.store [DecidableEq α] (h:a4f P k e kv ok w b n f) (KF:e6r P k kv ok) (K:Keyed P k) (ht:P.underlying t=some (.map k e)) (hn:n<maxLen) {a:α} (ha:ok a) {val:Value} {x:Lit} (hv:plainElem (H:=Unit) P e val=some (.lit x,[])) :
  ∃ w',(Instr.mapUpdate t (.map (some b)) (kv a) val).run P w=.ok () w'/\a4f P k e kv ok w' b (n+1) (fun c=>if c=a then some x else f c)/\Chg [b] w w':=by
 obtain ⟨D,h1,h2,h3⟩:=h
 obtain ⟨kl,aa⟩:=KF.key a ha
 obtain ⟨w',hr,ho,hg⟩:=h1.update K ht hn aa hv
 refine ⟨w',hr,⟨_,ho,h2.put _ _,fun c l hc hl => ?_⟩,Chg.of_grown hg (by intro j hj;cases hj;exact .inl (by simp))⟩
 by_cases hvk:c=a
 ·subst hvk
  rw [aa] at hl
  injection hl with hl
  subst hl
  simp only [if_true]
  exact ⟨has_put_same h2 (K.key aa) _,fun z=>atKey_put_same h2 (K.key aa) _ z⟩
 ·simp only [if_neg hvk]
  have ab:l≠kl:=fun e=>hvk (KF.inj c a hc ha (K.inj hl (e ▸ aa)))
  obtain ⟨a1,a2⟩:=h3 c l hc hl
  exact ⟨(has_put_other ab _).trans a1,fun z=>(atKey_put_other ab _ z).trans (a2 z)⟩
theorem a4f.look_bool (h:a4f P k e kv ok w b n f) (KF:e6r P k kv ok) (K:Keyed P k) (ht:P.underlying t=some (.map k e)) (he:P.underlying e=some .bool) (hz:(zeroValue e).run P w=.ok (.bool false) w) {a:α} (ha:ok a) {x:Bool}
  (hx:f a=some (.bool x)\/f a=none/\x=false):(Instr.lookup t (.map (some b)) (kv a) false).run P w=.ok (.bool x) w:=by
 obtain ⟨D,h1,h2,h3⟩:=h
 obtain ⟨kl,aa⟩:=KF.key a ha
 obtain ⟨v,ps,hr,hR⟩:=h1.lookup K ht hz (plainElem_bool he false) aa
 obtain ⟨a1,a2⟩:=h3 a kl ha aa
 have e1:D.atKey kl (.lit (.bool false))=.lit (.bool x):=by
  rw [a2]
  rcases hx with hx | ⟨hx,rfl⟩<;>rw [hx]
 rw [e1] at hR
 unfold plainElem at hR
 rw [he] at hR
 cases v<;>simp at hR
 obtain ⟨rfl,-⟩:=hR
 exact hr
theorem a4f.look_int (h:a4f P k e kv ok w b n f) (KF:e6r P k kv ok) (K:Keyed P k) (ht:P.underlying t=some (.map k e)) (he:P.underlying e=some (.int .i64)) (hz:(zeroValue e).run P w=.ok (.int .i64 0) w) {a:α} (ha:ok a) {x:Int}
  (hx:f a=some (.int .i64 x)):(Instr.lookup t (.map (some b)) (kv a) true).run P w=.ok (.tuple #[.int .i64 x,.bool true]) w:=by
 obtain ⟨D,h1,h2,h3⟩:=h
 obtain ⟨kl,aa⟩:=KF.key a ha
 obtain ⟨v,ps,hr,hR⟩:=h1.look_ok K ht hz (plainElem_int he (by decide)) aa
 obtain ⟨a1,a2⟩:=h3 a kl ha aa
 rw [a2,hx] at hR
 rw [a1,hx] at hr
 obtain ⟨y,rfl,hc,_⟩:=plainElem_int_inv he hR
 simp at hc
 rw [<-hc.1] at hr
 exact hr
end
open Go.RowKit Go.Maps
theorem f5d {a:Int} (h:c9b a):(Lit.int .i64 a).wf=true:=by
 obtain ⟨h0,h1⟩:=h
 exact WalkArith.wf_i64 (by omega)
theorem f1g {a b c e:Int} (ha:c9b a) (hb:c9b b) (hc:c9b c) (he:c9b e):∃ l,keyOf Tryz.prog 99 (.agg #[.int .i64 a,.int .i64 b,.int .i64 c,.int .i64 e])=some l:=by
 have hk:Tryz.prog.keyType 99=true:=by kernel_rfl
 have ab:Tryz.prog.cellsOf 99=4:=by kernel_rfl
 have ac:Tryz.prog.cellsOf 3=1:=by kernel_rfl
 obtain ⟨m,hm⟩:∃ m,Tryz.prog.types.size=m+1:=⟨Tryz.prog.types.size-1,by
  have:decide (0<Tryz.prog.types.size)=true:=by kernel_rfl
  have:=of_decide_eq_true this
  omega⟩
 refine ⟨.string (keyBytes [.int .i64 a,.int .i64 b,.int .i64 c,.int .i64 e]),?_⟩
 unfold keyOf
 rw [Tryz.underlying99]
 have hf:Value.formed Tryz.prog 99 (.agg #[.int .i64 a,.int .i64 b,.int .i64 c,.int .i64 e])=true:=by
  simp [Value.formed,Tryz.underlying99,ab]
 have aa:∀ x:Int,c9b x->Tryz.prog.keyLits (m+1) 3 [.int .i64 x]=some [.int .i64 x]:=fun x hx=>by
  simp [Program.keyLits,Tryz.underlying3,f5d hx]
 have hl:Tryz.prog.keyLits (m+1+1) 99 [.int .i64 a,.int .i64 b,.int .i64 c,.int .i64 e]=some [.int .i64 a,.int .i64 b,.int .i64 c,.int .i64 e]:=by
  unfold Program.keyLits
  rw [Tryz.underlying99]
  simp [ab,ac,List.range_succ,aa a ha,aa b hb,aa c hc,aa e he]
 simp only [hk,hf,Bool.and_self,if_true,hm]
 show Option.map _ (Tryz.prog.keyLits (m+1+1) _ [.int .i64 a,.int .i64 b,.int .i64 c,.int .i64 e])=_
 rw [hl]
 rfl
def f3g (c:List Int):List Int:=[c.getD 0 0,c.getD 1 0,c.getD 2 0,c.getD 3 0]
theorem f2b {p:a2a} (h:p.Ok) (i:Nat):f3g (ptC p i)=pt4 p.P i:=by
 have e:∀ k,(ptC p i).getD k 0=(p.P.getD k []).getD i 0:=fun k=>by
  rcases zZ k p.P.length with hk | hk
  ·exact e4w p i hk
  ·rw [zD (l:=ptC p i),List.getElem?_eq_none (by rw [a8d];exact hk),zD (l:=p.P),List.getElem?_eq_none hk]
   rfl
 rw [e4v]
 unfold f3g
 rw [e,e,e,e]
def c9u (c:List Int):Value:=a5q (f3g c)
theorem c0l (c:List Int):c9u c=.agg #[.int .i64 (c.getD 0 0),.int .i64 (c.getD 1 0),.int .i64 (c.getD 2 0),.int .i64 (c.getD 3 0)]:=rfl
def b8u (n d:Nat) (c:List Int):Prop:=c.length=n/\a1u d c
theorem b9p {d:Nat} (h1:d<=16) {l:List Int} (h:a1u d l) (k:Nat):c9b (l.getD k 0):=by
 obtain ⟨h0,h2⟩:=b0l h k
 have h3:(2:Int)^d<=2^16:=by
  have:=Nat.pow_le_pow_right (n:=2) (by decide) h1
  exact_mod_cast this
 constructor<;>omega
theorem b9h {n d:Nat} (hn:n<=4) (hd:d<=16):e6r Tryz.prog 99 c9u (b8u n d) where
 key:=fun c hc=>by
  rw [c0l]
  exact f1g (b9p hd hc.2 0) (b9p hd hc.2 1) (b9p hd hc.2 2) (b9p hd hc.2 3)
 inj:=fun a b ha hb h=>by
  rw [c0l,c0l] at h
  simp only [Value.agg.injEq,Array.mk.injEq,List.cons.injEq,Value.int.injEq,true_and,and_true] at h
  obtain ⟨e0,e1,e2,e3⟩:=h
  apply List.ext_getElem (by rw [ha.1,hb.1])
  intro k h1 h2
  have hk4:k<4:=by have:=ha.1;omega
  have g1:a.getD k 0=a[k]:=by rw [zD,zF h1];rfl
  have g2:b.getD k 0=b[k]:=by rw [zD,zF h2];rfl
  rw [<-g1,<-g2]
  rcases (by omega:k=0\/k=1\/k=2\/k=3) with rfl | rfl | rfl | rfl<;>assumption
theorem b5a:Keyed Tryz.prog 99:=Keyed.of_law (deep_law_laid e3e (m:=3) (by decide) (of_decide_eq_true (by kernel_rfl)) (by kernel_rfl) (by rw [Tryz.underlying99]))
theorem e6m (w:World):(zeroValue 4).run Tryz.prog w=.ok (.bool false) w:=by kernel_rfl
theorem f0k (w:World):(zeroValue 3).run Tryz.prog w=.ok (.int .i64 0) w:=by kernel_rfl
def d1i (n d k:Nat) (g o cap:Nat):Value:=.agg #[.int .i64 d,.int .i64 n,.slice (some ⟨g,o,none⟩) k cap]
structure b1a (w:World) (n d:Nat) (C:List (List Int)) (g o:Nat) (B:Nat->Option Addr) (c:Nat->Nat) (G:List Nat):Prop where
 ok:e1e n d C
 gG:g∈G
 lt:∀ x∈G,x<w.heap.size
 cell:∀ i,i<C.length->w.cell? ⟨g,o+i,none⟩=some (.slice (B i) n (c i))
 cells:∀ i,i<C.length->a0d vi w (B i) (C.getD i [])
 blk:∀ i,i<C.length->∀ ad,B i=some ad->ad.block∈G
 cap:∀ i,i<C.length->n<=c i/\c i<=9223372036854775807
section
variable {w w':World} {n d:Nat} {C:List (List Int)} {g o:Nat} {B:Nat->Option Addr} {c:Nat->Nat} {G F:List Nat}
theorem b1a.chg (h:b1a w n d C g o B c G) (hc:Chg F w w') (hd:∀ x∈G,x∉F):b1a w' n d C g o B c G :=
 { h with
  lt:=fun x hx=>Nat.lt_of_lt_of_le (h.lt x hx) hc.size
  cell:=fun i hi=>(World.cell?_of_block (w:=w) (hc.block g (h.lt g h.gG) (hd g h.gG))).trans (h.cell i hi)
  cells:=fun i hi=>(h.cells i hi).chg hc fun ad e=>hd _ (h.blk i hi ad e) }
theorem b1a.same (h:b1a w n d C g o B c G) (hc:Chg [] w w'):b1a w' n d C g o B c G:=h.chg hc (by simp)
theorem b1a.len (h:b1a w n d C g o B c G) {i:Nat} (hi:i<C.length):(C.getD i []).length=n:=h.ok.len _ (a0n hi)
theorem b1a.at_ (h:b1a w n d C g o B c G) {i:Nat} (hi:i<C.length):∃ b q,B i=some ⟨b,q,none⟩/\b∈G/\∀ k,k<n->w.cell? ⟨b,q+k,none⟩=some (.int .i64 ((C.getD i []).getD k 0)):=by
 have hl:=h.len hi
 obtain ⟨b,q,e,hb,hc⟩:=(h.cells i hi).ex (by rw [hl];exact h.ok.n0)
 refine ⟨b,q,e,h.blk i hi _ e,fun k hk => ?_⟩
 refine hc k _ ?_
 rw [zD (l:=C.getD i []),zF (by rw [hl];exact hk)]
 rfl
end
structure b3f (w:World) (n d:Nat) (C:List (List Int)) (gP cap:Nat) (xs:List Value) (gs:List Nat):Prop where
 ok:e1e n d C
 row:Row w 22 (.slice (some ⟨gP,0,none⟩) C.length cap) gP xs
 pl:a2k w xs C gs
theorem b3f.at_ {w:World} {n d:Nat} {C:List (List Int)} {gP cap:Nat} {xs:List Value} {gs:List Nat} (h:b3f w n d C gP cap xs gs):b1a w n d C gP 0 (fun i=>f0z xs[i]?) (fun i=>f1a xs[i]?) (gP::gs):=by
 have hr:∀ i,i<C.length->∃ g c,xs[i]?=some (.slice (some ⟨g,0,none⟩) n c)/\gs[i]?=some g/\Row w 3 (.slice (some ⟨g,0,none⟩) n c) g ((C.getD i []).map vi):=fun i hi=>by
  have hP:C[i]?=some (C.getD i []):=by rw [zD,zF hi];rfl
  obtain ⟨u,g,h1,h2,h3⟩:=h.pl.row i _ hP
  obtain ⟨c,rfl,af,_⟩:=h3.oq
  have hl:(C.getD i []).length=n:=h.ok.len _ (List.mem_of_getElem? hP)
  rw [hl] at h1 h3
  exact ⟨g,c,h1,h2,h3⟩
 refine ⟨h.ok,by simp,fun x hx => ?_,fun i hi => ?_,fun i hi => ?_,fun i hi ad e => ?_,fun i hi => ?_⟩
 ·rcases zJ.1 hx with rfl | hx
  ·exact h.row.lt
  ·exact h.pl.lt x hx
 ·obtain ⟨g,c,h1,h2,h3⟩:=hr i hi
  obtain ⟨_,_,_,_,aa,_⟩:=h.row.open_
  rw [Nat.zero_add,aa i (by rw [h.pl.lx];exact hi),h1]
  rfl
 ·obtain ⟨g,c,h1,h2,h3⟩:=hr i hi
  rw [h1]
  have ae:=h3.lt
  obtain ⟨c',e,_,_,aa,_⟩:=h3.oq
  exact ⟨fun _=>⟨g,0,rfl,ae,fun k a ha=>by rw [Nat.zero_add];exact aa k a ha⟩⟩
 ·obtain ⟨g,c,h1,h2,h3⟩:=hr i hi
  rw [h1] at e
  injection e with e
  subst e
  exact List.mem_cons_of_mem _ (List.mem_of_getElem? h2)
 ·obtain ⟨g,c,h1,h2,h3⟩:=hr i hi
  rw [h1]
  have hl:=h.ok.len _ (a0n hi)
  obtain ⟨c',e,ab,ac,_⟩:=h3.oq
  injection e with _ e1 e2
  subst e2
  rw [hl] at ab
  exact ⟨ab,ac⟩
open Go.RowKit Go.Maps
theorem d7g {w:World} {p:a2a} {g o:Nat} {B:Nat->Option Addr} {c:Nat->Nat} {G:List Nat} (cap:Nat) (h:a4l w p g o B c G) (i:Nat) (hi:i<p.W*p.H) :
  Calls Tryz.prog 56 #[a6y p g o cap,.int .i64 i] w fun e w'=>e=.returned (c9u (ptC p i))/\Chg [] w w':=by
 have af:=h.ok
 have ap:c9u (ptC p i)=a5q (pt4 p.P i):=by unfold c9u;rw [f2b af]
 rw [ap]
 obtain ⟨a,b,c',e',am⟩:=b5n (show (pt4 p.P i).length=4 from rfl)
 rw [am]
 obtain ⟨n,hn⟩:=zX (p.P.length)
 obtain ⟨N,hN⟩:=zX (p.W*p.H)
 have aJ:n<=4:=by rw [hn];exact af.n1
 have aL:N<=4096:=by rw [hN];exact af.area
 have aq:∀ wz:World,(∀ b∈G,wz.heap[b]?=w.heap[b]?)->∀ j,j<n->∃ b q,wz.cell? ⟨g,o+j,none⟩=some (.slice (some ⟨b,q,none⟩) N (c j))/\wz.cell? ⟨b,q+i,none⟩=some (.int .i64 ((p.P.getD j []).getD i 0)):=by
  intro wz hc j hj
  rw [hn] at hj
  obtain ⟨b,q,e,hb,aB⟩:=h.at_ hj
  have av:=h.cell j hj
  rw [e,<-hN] at av
  exact ⟨b,q,(World.cell?_of_block (w:=w) (hc g h.gG)).trans av,(World.cell?_of_block (w:=w) (hc b hb)).trans (aB i hi)⟩
 have aw:=h.lt
 rw [<-hN] at hi
 unfold a6y
 rw [<-hn]
 obtain ⟨w1,ac⟩:=zX (((w.alloc (.cells #[.int .i64 p.W,.int .i64 p.H,.int .i64 p.d,.slice (some ⟨g,o,none⟩) n cap] 27)).alloc (.cells #[.int .i64 0,.int .i64 0,.int .i64 0,.int .i64 0] 99)).alloc (.cells #[.int .i64 0,.int .i64 0,.int .i64 0,.int .i64 0] 99))
 obtain ⟨X2,aa⟩:=zX (w.heap.size)
 obtain ⟨X4,ad⟩:=zX (X2+1)
 obtain ⟨X5,ai⟩:=zX (X4+1)
 have al:Box w1 X2 (.int .i64 p.W) (.int .i64 p.H) (.int .i64 p.d) (.slice (some ⟨g,o,none⟩) n cap):=⟨by rw [ac,aa];exact ((Blk.new w _ _).alloc _).alloc _⟩
 have au:Blk w1 X4 99 #[.int .i64 0,.int .i64 0,.int .i64 0,.int .i64 0]:=by rw [ac,ad,aa];exact (Blk.new2 w _ _ _).alloc _
 have ar:Blk w1 X5 99 ((e0z p.P i 0).map vi).toArray:=by rw [ac,ai,ad,aa];exact Blk.new3 w _ _ _ _
 have ax:Chg [] w w1:=by rw [ac];exact (((zR [] w).alloc _).alloc _).alloc _
 have ay:=hid am
 have HN:Hid (n=p.P.length):=hid hn
 have HX:Hid (X2=w.heap.size/\X4=X2+1/\X5=X4+1):=hid ⟨aa,ad,ai⟩
 have aD:=hid aa
 have aI:=hid ad
 have az:=hid ai
 have aE:=hid ac
 have aC:=hid al
 have aF:=hid au
 have aH:=hid ar
 have ak:=hid ax
 have aA:=hid aq
 have aj:=hid aw
 obtain ⟨a0,a1,a2,a3⟩:=al.cells
 clear ac al au ar ax aa ad ai af h hn hN aq aw ap am
 go_enter Tryz.func56,Tryz.ntmps56
 go_wp2_with fail
 rw [<-aE.out,<-aD.out,<-aI.out,<-az.out]
 go_loopg [6,7,11] n (fun j v6 v7 v11 wr=>∃ k:Nat,v11=.int .i64 k/\k+j=n/\Hid (Blk wr X5 99 ((e0z p.P i k).map vi).toArray)/\Hid (Chg [X5] w1 wr))
 case atStart=>exact ⟨0,rfl,by omega,aH,hid (zR _ _)⟩
 case round =>
  obtain ⟨k,rfl,aK,ag,ae⟩:=hrel
  rcases gk with _ | j
  ·obtain rfl:k=n:=by omega
   have t2:decide ((k:Int)<(k:Int))=false:=by simp
   have ab:=ag.out
   rw [HN.out,c2h,ay.out] at ab
   have k0:=ab.cell 0
   have k1:=ab.cell 1
   have k2:=ab.cell 2
   have k3:=ab.cell 3
   simp [vi] at k0 k1 k2 k3
   have hz:=aF.out.chg ae.out (by simp;have:=HX.out;omega)
   have z0:=hz.cell 0
   have z1:=hz.cell 1
   have z2:=hz.cell 2
   have z3:=hz.cell 3
   have f0:=hz.frozen 0
   have f1:=hz.frozen 1
   have f2:=hz.frozen 2
   have f3:=hz.frozen 3
   simp at z0 z1 z2 z3
   have HZ:=hid hz
   clear hz ab
   go_wp2_with fail
   refine a9x HZ.out ?_
   intro X hX hY
   have x0:=hX.cell 0
   have x1:=hX.cell 1
   have x2:=hX.cell 2
   have x3:=hX.cell 3
   simp at x0 x1 x2 x3
   refine bodyPost_ret (v:=a5q [a,b,c',e']) (by simp [results,Tryz.results56,go_sem,x0,x1,x2,x3,a5q,vi]) rfl ?_
   exact ⟨rfl,(ak.out.trans ae.out (fun x hx => .inr (by simp at hx;have:=HX.out;omega))).trans hY (fun x hx => .inr (by simp at hx;have:=HX.out;omega))⟩
  ·have hk:k<n:=by omega
   have t2:decide ((k:Int)<(n:Int))=true:=zB (by omega)
   obtain ⟨b',q',e1,e2⟩:=aA.out wr (fun b hb=>(ae.out.block b (by have:=aj.out b hb;have:=ak.out.size;omega) (by simp;have:=aj.out b hb;have:=HX.out;omega)).trans (ak.out.block b (aj.out b hb) (by simp))) k hk
   obtain ⟨a0,a1,a2,a3⟩:=(aC.out.chg ae.out (by simp;have:=HX.out;omega)).cells
   have hf:=ag.out.frozen k
   have aM:=ag.out.vi_cell (k:=k) (by rw [c7r];omega)
   have ah:=ag.out.set_vi k ((p.P.getD k []).getD i 0)
   rw [c7s p.P i (by omega)] at ah
   have an:Chg [X5] w1 (wr.setCell ⟨X5,k,none⟩ (.int .i64 ((p.P.getD k []).getD i 0))):=ae.out.setCell (.inl (by simp)) _
   obtain ⟨v,hv⟩:=zX ((p.P.getD k []).getD i 0)
   rw [<-hv] at e2 ah an
   have aG:=hid ah
   have ao:=hid an
   clear ah an hv
   go_wp2_with fail
   go_roundg j
   case measure=>omega
   case rel=>exact ⟨k+1,by go_num,by omega,aG,ao⟩
theorem c9v:Tryz.prog.underlying 99=some (.array 4 3):=Tryz.underlying99
theorem f1e (X:Nat) (w:World):(Instr.sliceAt 99 (.pointer (some ⟨X,0,none⟩)) none none none).run Tryz.prog w=.ok (.slice (some ⟨X,0,none⟩) 4 4) w:=by
 simp [Instr.sliceAt,Instr.sureAddr,run_underlying c9v,Instr.sliceBounds,a8q w,Addr.add,Result.andThen]
theorem f3m (X h:Nat) (hh:h<=4) (w:World):(Instr.sliceAt 99 (.pointer (some ⟨X,0,none⟩)) none (some (.int .i64 h)) none).run Tryz.prog w=.ok (.slice (some ⟨X,0,none⟩) h 4) w:=by
 have hb:(Instr.sliceBound (.int .i64 h) 4 .sliceAlen).run Tryz.prog w=.ok h w:=by
  have h1:(h:Int)<=4:=by omega
  simp [Instr.sliceBound,asIntOf,go_sem,Result.andThen,h1]
 simp [Instr.sliceAt,Instr.sureAddr,run_underlying c9v,Instr.sliceBounds,a8q w,Addr.add,Result.andThen,hb]
theorem d7c (n:Nat) (w:World) (h0:1<=n) (h1:n<=256):Calls Tryz.prog 24 #[.int .i64 n] w fun e w'=>e=.returned (.int .i64 (a7i n))/\w=w':=by
 have t1:decide ((n:Int)<1)=false:=zA (by omega)
 have t2:decide ((256:Int)<(n:Int))=false:=zA (by omega)
 unfold a7i
 by_cases c1:n<=2
 ·have t3:decide ((n:Int)<=2)=true:=zB (by omega)
  rw [if_pos c1]
  go_enter Tryz.func24,Tryz.ntmps24
  go_wp2_with fail
  go_ret
  exact ⟨rfl,rfl⟩
 ·have t3:decide ((n:Int)<=2)=false:=zA (by omega)
  rw [if_neg c1]
  by_cases c2:n<=4
  ·have t4:decide ((n:Int)<=4)=true:=zB (by omega)
   rw [if_pos c2]
   go_enter Tryz.func24,Tryz.ntmps24
   go_wp2_with fail
   go_ret
   exact ⟨rfl,rfl⟩
  ·have t4:decide ((n:Int)<=4)=false:=zA (by omega)
   rw [if_neg c2]
   by_cases c3:n<=16
   ·have t5:decide ((n:Int)<=16)=true:=zB (by omega)
    rw [if_pos c3]
    go_enter Tryz.func24,Tryz.ntmps24
    go_wp2_with fail
    go_ret
    exact ⟨rfl,rfl⟩
   ·have t5:decide ((n:Int)<=16)=false:=zA (by omega)
    rw [if_neg c3]
    go_enter Tryz.func24,Tryz.ntmps24
    go_wp2_with fail
    go_ret
    exact ⟨rfl,rfl⟩
theorem e8f (w:World) (A:Option Addr) (cap:Nat) (c:List Int) (hc:a0d vi w A c) (h0:1<=c.length) (h4:c.length<=4) :
  Calls Tryz.prog 63 #[.slice A c.length cap] w fun e w'=>e=.returned (c9u c)/\Chg [] w w':=by
 obtain ⟨b0,o0,rfl,az,aa⟩:=hc.ex h0
 obtain ⟨w1,ac⟩:=zX ((w.alloc (.cells #[.int .i64 0,.int .i64 0,.int .i64 0,.int .i64 0] 99)).alloc (.cells #[.int .i64 0,.int .i64 0,.int .i64 0,.int .i64 0] 99))
 obtain ⟨X2,ad⟩:=zX (w.heap.size)
 obtain ⟨X3,af⟩:=zX (X2+1)
 have aq:Blk w1 X2 99 #[.int .i64 0,.int .i64 0,.int .i64 0,.int .i64 0]:=by rw [ac,ad];exact (Blk.new w _ _).alloc _
 have an:Blk w1 X3 99 #[.int .i64 0,.int .i64 0,.int .i64 0,.int .i64 0]:=by rw [ac,af,ad];exact Blk.new2 w _ _ _
 have ah:Chg [] w w1:=by rw [ac];exact ((zR [] w).alloc _).alloc _
 have ag:splice [Value.int .i64 0,.int .i64 0,.int .i64 0,.int .i64 0] 0 (c.map vi)=(f3g c).map vi:=by
  match c,h0,h4 with
  | [a],_,_=>rfl
  | [a,b],_,_=>rfl
  | [a,b,c],_,_=>rfl
  | [a,b,c,d],_,_=>rfl
 obtain ⟨n,hn⟩:=zX (c.length)
 have am:c9u c=a5q (f3g c):=rfl
 rw [am]
 have aB:=f1e X3
 obtain ⟨a,b,c',e',ao⟩:=b5n (show (f3g c).length=4 from rfl)
 rw [ao] at ag ⊢
 rw [<-hn] at h0 h4 ⊢
 have aA:=hid ac
 have ai:=hid ad
 have al:=hid af
 have aw:=hid aq
 have ay:=hid an
 have ax:=hid ah
 have ar:=hid ag
 have au:Hid (w1.heap.size=X3+1):=hid (by rw [ac,a3f,a3f,af,ad])
 have ak:Hid (∀ (j:Nat) (x:Int),c[j]?=some x->w1.cell? ⟨b0,o0+j,none⟩=some (vi x)):=hid (fun j x hx=>(World.cell?_of_block (w:=w) (ah.block b0 az (by simp))).trans (aa j x hx))
 have HN:=hid hn
 clear ac ad af aq an ah ag hn ao am aa hc
 go_enter Tryz.func63,Tryz.ntmps63
 go_upto_region 2 with (fail)
 rw [<-aA.out,<-ai.out,<-al.out]
 go_wp2_with (refine wpList_copy_splice rfl (.tmp 4) (.tmp 5) 22 22 rfl 3 Tryz.underlying22 (by kernel_rfl) (some ⟨X3,0,none⟩) (some ⟨b0,o0,none⟩) 4 4 n cap rfl rfl X3 0 [.int .i64 0,.int .i64 0,.int .i64 0,.int .i64 0] 99 ay.out (c.map vi) ?c1 ?c2 ?c3 ?c4 X3 w1 (Below.refl _ _) (zQ _) ?_)
 case c1=>rw [zE,<-HN.out];exact (Nat.min_eq_left h4).symm
 case c2=>exact fun _=>ak.out
 case c3=>rw [zE,<-HN.out];simp;omega
 case c4=>intro v hv;obtain ⟨x,_,rfl⟩ := List.mem_map.1 hv;rfl
 intro w4 ap ab
 have ae:Blk w4 X3 99 #[.int .i64 a,.int .i64 b,.int .i64 c',.int .i64 e']:=by
  have:=ap.out
  rw [ar.out] at this
  exact this
 have k0:=ae.cell 0
 have k1:=ae.cell 1
 have k2:=ae.cell 2
 have k3:=ae.cell 3
 have aj:Chg [X3] w1 w4:=⟨ab.os,ab.tape,ab.output,ab.size,fun k hk hn=>ab.block k (by have:=au.out;simp at hn;omega)⟩
 have hz:=aw.out.chg aj (by simp;have:=al.out;omega)
 have z0:=hz.cell 0
 have z1:=hz.cell 1
 have z2:=hz.cell 2
 have z3:=hz.cell 3
 have f0:=hz.frozen 0
 have f1:=hz.frozen 1
 have f2:=hz.frozen 2
 have f3:=hz.frozen 3
 simp at k0 k1 k2 k3 z0 z1 z2 z3
 have HZ:=hid hz
 have av:=hid aj
 clear hz aj ae ap ab
 go_wp2_with fail
 refine a9x HZ.out ?_
 intro X hX hY
 have x0:=hX.cell 0
 have x1:=hX.cell 1
 have x2:=hX.cell 2
 have x3:=hX.cell 3
 simp at x0 x1 x2 x3
 refine bodyPost_ret (v:=a5q [a,b,c',e']) (by simp [results,Tryz.results63,go_sem,x0,x1,x2,x3,a5q,vi]) rfl ?_
 exact ⟨rfl,(ax.out.trans av.out (fun x hx => .inr (by simp at hx;have:=al.out;have:=ai.out;omega))).trans hY (fun x hx => .inr (by simp at hx;have:=ai.out;omega))⟩
open Go.RowKit Go.Maps
structure c4m (w:World) (x:Nat) (a b v:Value):Prop where
 blk:Blk w x 45 #[a,b,v]
theorem c4m.cells {w:World} {x:Nat} {a b v:Value} (h:c4m w x a b v):w.cell? ⟨x,0,none⟩=some a/\w.cell? ⟨x,1,none⟩=some b/\w.cell? ⟨x,2,none⟩=some v:=⟨h.blk.cell 0,h.blk.cell 1,h.blk.cell 2⟩
theorem c4m.chg {w w':World} {x:Nat} {a b v:Value} {F:List Nat} (h:c4m w x a b v) (hc:Chg F w w') (hx:x∉F):c4m w' x a b v:=⟨h.blk.chg hc hx⟩
theorem c4m.same {w w':World} {x:Nat} {a b v:Value} (h:c4m w x a b v) (hc:Chg [] w w'):c4m w' x a b v:=⟨h.blk.chg hc (by simp)⟩
def e5o (S:List (List Int)) (c:List Int):Option Lit:=if c∈S then some (.bool true) else none
def b4q (n d:Nat) (w:World) (M k:Nat) (S:List (List Int)):Prop:=a4f Tryz.prog 99 4 c9u (b8u n d) w M k (e5o S)
theorem c5t (n d:Nat) (w:World):b4q n d (w.alloc (.map #[] 0)) w.heap.size 0 []:=a4f.made w _ _ _ _ _
theorem d1v {n d:Nat} {w:World} {M k:Nat} {S:List (List Int)} (h:b4q n d w M k S) (hn:n<=4) (hd:d<=16) {c:List Int} (hc:b8u n d c) :
  (Instr.lookup 98 (.map (some M)) (c9u c) false).run Tryz.prog w=.ok (.bool (decide (c∈S))) w:=by
 refine a4f.look_bool h (b9h hn hd) b5a Tryz.underlying98 Tryz.underlying4 (e6m w) hc ?_
 unfold e5o
 by_cases hm:c∈S
 ·exact .inl (by rw [if_pos hm,zB hm])
 ·exact .inr ⟨by rw [if_neg hm],zA hm⟩
theorem c5u {n d:Nat} {w:World} {M k:Nat} {S:List (List Int)} (h:b4q n d w M k S) (hn:n<=4) (hd:d<=16) (hk:k<1000) {c:List Int} (hc:b8u n d c) :
  ∃ w',(Instr.mapUpdate 98 (.map (some M)) (c9u c) (.bool true)).run Tryz.prog w=.ok () w'/\b4q n d w' M (k+1) (S++[c])/\Chg [M] w w':=by
 obtain ⟨w',h1,h2,h3⟩:=a4f.store h (b9h hn hd) b5a Tryz.underlying98 (by unfold maxLen;omega) hc (plainElem_bool Tryz.underlying4 true)
 refine ⟨w',h1,?_,h3⟩
 have e:(fun x=>if x=c then some (Lit.bool true) else e5o S x)=e5o (S++[c]):=by
  funext x
  unfold e5o
  by_cases h1:x=c<;>by_cases h2:x∈S<;>simp [h1,h2]
 unfold b4q
 rw [<-e]
 exact h2
theorem d7s {C:List (List Int)} {k:Nat} (hk:k<C.length):C.take (k+1)=C.take k++[C.getD k []]:=by
 rw [List.take_succ_eq_append_getElem hk,zD,zF hk]
 rfl
theorem d9x {C:List (List Int)} (hn:C.Nodup) {k:Nat} (hk:k<C.length):C.getD k []∉C.take k:=by
 intro hm
 obtain ⟨j,hj,e⟩:=List.getElem_of_mem hm
 rw [zI] at hj
 have h1:C.getD k []=C[k]:=by rw [zD,zF hk];rfl
 rw [List.getElem_take,h1] at e
 have:=(List.getElem_inj hn).1 e
 omega
theorem d1j {w:World} {n d:Nat} {C:List (List Int)} {g o:Nat} {B:Nat->Option Addr} {c:Nat->Nat} {G:List Nat} (h:b1a w n d C g o B c G) {k:Nat} (hk:k<C.length) :
  ∃ b q,w.cell? ⟨g,o+k,none⟩=some (.slice (some ⟨b,q,none⟩) n (c k))/\(∀ i,i<n->∃ v,w.cell? ⟨b,q+i,none⟩=some (.int .i64 v)/\0<=v/\v<2^d)/\∀ w2,Chg [] w w2->Calls Tryz.prog 63 #[.slice (some ⟨b,q,none⟩) n (c k)] w2 fun e w'=>e=.returned (c9u (C.getD k []))/\Chg [] w2 w':=by
 obtain ⟨b,q,e,hb,ad⟩:=h.at_ hk
 have ab:=h.cell k hk
 rw [e] at ab
 have ac:=h.ok.smp _ (a0n hk)
 refine ⟨b,q,ab,fun i hi=>⟨_,ad i hi,b0l ac i⟩,fun w2 hc2 => ?_⟩
 have aa:=(h.same hc2).cells k hk
 rw [e] at aa
 have hl:=h.len hk
 have:=e8f w2 (some ⟨b,q,none⟩) (c k) (C.getD k []) aa (by rw [hl];exact h.ok.n0) (by rw [hl];exact h.ok.n1)
 rw [hl] at this
 exact this
theorem c7q {w:World} {n d:Nat} {C:List (List Int)} {g o:Nat} {B:Nat->Option Addr} {c:Nat->Nat} {G:List Nat} (cap:Nat) (h:b1a w n d C g o B c G) :
  Calls Tryz.prog 62 #[d1i n d C.length g o cap] w fun e w'=>e=.returned (.bool true)/\Chg [] w w':=by
 have ab:=h.ok
 obtain ⟨aY,aZ⟩:=a9c ab.d0 ab.d1
 have aC:=ab.n1
 have aE:=ab.d1
 have aR:=ab.c1
 have aa:∀ k,k<C.length->b8u n d (C.getD k []):=fun k hk=>⟨ab.len _ (a0n hk),ab.smp _ (a0n hk)⟩
 obtain ⟨m,hm⟩:=zX (C.length)
 have t1:decide ((d:Int)<1)=false:=zA (by have:=ab.d0;omega)
 have t2:decide ((16:Int)<(d:Int))=false:=zA (by have:=ab.d1;omega)
 have t3:decide ((n:Int)<1)=false:=zA (by have:=ab.n0;omega)
 have t4:decide ((4:Int)<(n:Int))=false:=zA (by have:=ab.n1;omega)
 have t5:decide ((m:Int)<1)=false:=zA (by have:=ab.c0;omega)
 have t6:decide ((256:Int)<(m:Int))=false:=zA (by have:=ab.c1;omega)
 have t7:((n:Int) != (n:Int))=false:=by simp
 unfold d1i
 have aF:=ab.nd
 rw [<-hm] at aa aR ⊢
 obtain ⟨w1,af⟩:=zX (w.alloc (.cells #[.int .i64 d,.int .i64 n,.slice (some ⟨g,o,none⟩) m cap] 45))
 obtain ⟨X1,ae⟩:=zX (w.heap.size)
 obtain ⟨M,hM⟩:=zX (X1+1)
 obtain ⟨w2,ad⟩:=zX (w1.alloc (.map #[] 0))
 have aD:w1.heap.size=M:=by rw [af,a3f,hM,ae]
 have aA:c4m w2 X1 (.int .i64 d) (.int .i64 n) (.slice (some ⟨g,o,none⟩) m cap):=⟨by rw [ad,af,ae];exact (Blk.new w _ _).alloc _⟩
 have aw:b4q n d w2 M 0 []:=by rw [ad,<-aD];exact c5t n d w1
 have aH:Chg [] w w2:=by rw [ad,af];exact ((zR [] w).alloc _).alloc _
 have aL:=h.lt
 have am:Hid (m=C.length):=hid hm
 have HX:Hid (X1=w.heap.size/\M=X1+1):=hid ⟨ae,hM⟩
 have aW:=hid ae
 have HM:=hid hM
 have aP:=hid af
 have aN:=hid ad
 have aO:=hid aA
 have aT:=hid aw
 have aq:=hid aH
 have ap:=hid aa
 have aU:=hid aF
 have ax:=hid h
 have a3:=@run_makeMap Tryz.prog
 clear af ad aA aw aH aa aF ae hM hm ab h aD aL
 go_enter Tryz.func62,Tryz.ntmps62
 go_wp2_with fail
 rw [<-aP.out,<-aN.out,<-aW.out,<-HM.out]
 go_loopg [5,7,40,49,50,51] m (fun j v5 v7 v40 v49 v50 v51 wr=>∃ k:Nat,v40=.int .i64 k/\k+j=m/\Hid (b4q n d wr M k (C.take k))/\Hid (Chg [M] w2 wr))
 case atStart=>exact ⟨0,rfl,by omega,hid (by simpa using aT.out),hid (zR _ _)⟩
 case round =>
  obtain ⟨k,rfl,a5,HS,ag⟩:=hrel
  have ak:∀ wz,Chg [] wr wz->Chg [M] w2 wz:=fun wz hz=>ag.out.tq (hz.mono (by simp))
  have ac:∀ wz,Chg [M] w2 wz->b1a wz n d C g o B c G:=fun wz hz=>(ax.out.same aq.out).chg hz (fun x hx hm=>by
   have:=ax.out.lt x hx
   have:=HX.out
   simp at hm
   omega)
  rcases gk with _ | j
  ·obtain rfl:k=m:=by omega
   have t8:decide ((k:Int)<(k:Int))=false:=by simp
   have hE:=aq.out.trans ag.out (fun x hx => .inr (by simp at hx;have:=HX.out;omega))
   clear ak ac
   go_wp2_with fail
   go_ret
   exact ⟨rfl,hE⟩
  ·have hk:k<m:=by omega
   have t8:decide ((k:Int)<(m:Int))=true:=zB (by omega)
   have an:=d1j (ac wr ag.out) (show k<C.length by rw [<-am.out];exact hk)
   obtain ⟨b,q,e1,e2,e3⟩:=an
   obtain ⟨cc,az⟩:=zX (C.getD k [])
   have aa:=ap.out k hk
   have ai:=d9x aU.out (show k<C.length by rw [<-am.out];exact hk)
   have aj:=d7s (show k<C.length by rw [<-am.out];exact hk)
   rw [<-az] at e3 aa ai aj
   have aG:=hid aa
   have aX:=hid ai
   have aI:=hid aj
   obtain ⟨a0,a1,a2⟩:=(aO.out.chg ag.out (by simp;have:=HX.out;omega)).cells
   have aJ:=hid e2
   have au:=hid e3
   have aV:=hid ak
   clear e2 e3 ak ac aa ai aj az
   obtain ⟨wo,aK⟩:=zX (wr)
   subst aK
   go_wp2_with fail
   go_loopg [7,51] n (fun j2 v7 v51 wr=>∃ i:Nat,v51=.int .i64 i/\i+j2=n/\wo=wr)
   case atStart=>exact ⟨0,rfl,by omega,rfl⟩
   case round =>
    obtain ⟨i,rfl,a4,rfl⟩:=hrel
    rcases gk with _ | j2
    ·obtain rfl:i=n:=by omega
     have t9:decide ((i:Int)<(i:Int))=false:=by simp
     go_wp2_with fail
     refine (au.out _ (zR _ _)).mono ?_
     rintro e wA ⟨rfl,ah⟩
     have aM:=d1v (HS.out.chg ah (by simp)) aC aE aG.out
     have av:decide (cc∈C.take k)=false:=zA aX.out
     rw [av] at aM
     have aB:=au.out wA ah
     have ar:=hid ah
     clear ah av
     go_wp2_with fail
     refine aB.mono ?_
     rintro e wB ⟨rfl,al⟩
     obtain ⟨wC,a7,ao,ay⟩:=c5u (HS.out.chg (ar.out.tq al) (by simp)) aC aE (by omega) aG.out
     rw [<-aI.out] at ao
     have aS:=hid ao
     have aQ:=hid ((aV.out wB (ar.out.tq al)).tq ay)
     clear aB al ay ao
     go_wp2_with fail
     go_roundg j
     case measure=>omega
     case rel=>exact ⟨k+1,by go_num,by omega,aS,aQ⟩
    ·have hi:i<n:=by omega
     have t9:decide ((i:Int)<(n:Int))=true:=zB (by omega)
     obtain ⟨v,e5,v0,v1⟩:=aJ.out i hi
     have a6:decide (v<0)=false:=zA (by omega)
     have a8:decide ((2:Int)^d<=v)=false:=zA (by omega)
     go_wp2_with fail
     go_roundg j2
     case measure=>omega
     case rel=>exact ⟨i+1,by go_num,by omega,rfl⟩
open Go.RowKit Go.Maps
theorem c7a (x:Int) (w:World):Calls Tryz.prog 133 #[.int .i64 x] w fun e w'=>e=.returned (.bool false)/\w=w':=by
 have t:(x != x)=false:=by simp
 go_enter Tryz.func133,Tryz.ntmps133
 go_wp2_with fail
 go_ret
 exact ⟨rfl,rfl⟩
def f3f (x y:Int):Int:=if x<y then -1 else if y<x then 1 else 0
theorem d8j (x y:Int) (w:World):Calls Tryz.prog 95 #[.int .i64 x,.int .i64 y] w fun e w'=>e=.returned (.int .i64 (f3f x y))/\w=w':=by
 unfold f3f
 by_cases h1:x<y
 ·have t1:decide (x<y)=true:=zB h1
  rw [if_pos h1]
  clear h1
  go_enter Tryz.func95,Tryz.ntmps95
  go_wp2_with (go_at_call 133;refine (c7a _ _).mono ?_;rintro e w' ⟨rfl,rfl⟩)
  go_ret
  exact ⟨rfl,rfl⟩
 ·have t1:decide (x<y)=false:=zA h1
  rw [if_neg h1]
  by_cases h2:y<x
  ·have t2:decide (y<x)=true:=zB h2
   rw [if_pos h2]
   clear h1 h2
   go_enter Tryz.func95,Tryz.ntmps95
   go_wp2_with (go_at_call 133;refine (c7a _ _).mono ?_;rintro e w' ⟨rfl,rfl⟩)
   go_ret
   exact ⟨rfl,rfl⟩
  ·have t2:decide (y<x)=false:=zA h2
   rw [if_neg h2]
   clear h1 h2
   go_enter Tryz.func95,Tryz.ntmps95
   go_wp2_with (go_at_call 133;refine (c7a _ _).mono ?_;rintro e w' ⟨rfl,rfl⟩)
   go_ret
   exact ⟨rfl,rfl⟩
theorem e1p {a b:List Int} {i:Nat} (ha:i<a.length) (hb:i<b.length):a8i (a.drop i) (b.drop i)=if f3f (a.getD i 0) (b.getD i 0)=0 then a8i (a.drop (i+1)) (b.drop (i+1)) else f3f (a.getD i 0) (b.getD i 0):=by
 have e1:a.getD i 0=a[i]:=by rw [zD,zF ha];rfl
 have e2:b.getD i 0=b[i]:=by rw [zD,zF hb];rfl
 rw [List.drop_eq_getElem_cons ha,List.drop_eq_getElem_cons hb,e1,e2]
 unfold f3f
 rw [a8i]
 by_cases h1:a[i]<b[i]
 ·rw [if_pos h1,if_pos h1,if_neg (by omega)]
 ·rw [if_neg h1,if_neg h1]
  by_cases h2:b[i]<a[i]
  ·rw [if_pos h2,if_pos h2,if_neg (by omega)]
  ·rw [if_neg h2,if_neg h2,if_pos rfl]
theorem d8k (w:World) (A B:Option Addr) (ca cb:Nat) (a b:List Int) (ha:a0d vi w A a) (hb:a0d vi w B b) (hl:a.length=b.length) (hn:a.length<=4) :
  Calls Tryz.prog 60 #[.slice A a.length ca,.slice B b.length cb] w fun e w'=>e=.returned (.int .i64 (a8i a b))/\w=w':=by
 obtain ⟨n,ae⟩:=zX (a.length)
 rw [<-hl,<-ae]
 rw [<-ae] at hn
 have ah:∀ i,i<n->∃ ba oa bb ob,A=some ⟨ba,oa,none⟩/\B=some ⟨bb,ob,none⟩/\w.cell? ⟨ba,oa+i,none⟩=some (.int .i64 (a.getD i 0))/\w.cell? ⟨bb,ob+i,none⟩=some (.int .i64 (b.getD i 0)):=fun i hi=>by
  obtain ⟨ba,oa,e1,_,f1⟩:=ha.ex (by omega)
  obtain ⟨bb,ob,e2,_,f2⟩:=hb.ex (by omega)
  refine ⟨ba,oa,bb,ob,e1,e2,f1 i _ ?_,f2 i _ ?_⟩
  ·rw [zD,zF (by omega)];rfl
  ·rw [zD,zF (by omega)];rfl
 have ag:∀ i,i<n->_:=fun i hi=>e1p (a:=a) (b:=b) (i:=i) (by omega) (by omega)
 have aa:a8i (a.drop n) (b.drop n)=0:=by rw [List.drop_eq_nil_of_le (by omega),List.drop_eq_nil_of_le (by omega)];rfl
 have aj:=hid ah
 have ai:=hid ag
 have ac:=hid aa
 have t0:decide ((n:Int)<(n:Int))=false:=by simp
 have H0:Hid (a8i a b=a8i (a.drop 0) (b.drop 0)):=hid rfl
 clear ha hb hl ae ah ag aa
 go_enter Tryz.func60,Tryz.ntmps60
 go_wp2_with fail
 go_loopg [5,6,7,8,11] n (fun j v5 v6 v7 v8 v11 wr=>∃ i:Nat,v11=.int .i64 i/\i+j=n/\Hid (a8i a b=a8i (a.drop i) (b.drop i))/\w=wr)
 case atStart=>exact ⟨0,rfl,by omega,H0,rfl⟩
 case round =>
  obtain ⟨i,rfl,ak,HI,rfl⟩:=hrel
  rcases gk with _ | j
  ·obtain rfl:i=n:=by omega
   have t2:decide ((i:Int)<(i:Int))=false:=by simp
   go_wp2_with fail
   go_ret
   exact ⟨by rw [HI.out,ac.out];rfl,rfl⟩
  ·have hi:i<n:=by omega
   have t2:decide ((i:Int)<(n:Int))=true:=zB (by omega)
   have t3:decide ((n:Int)<=(i:Int))=false:=zA (by omega)
   obtain ⟨ba,oa,bb,ob,rfl,rfl,e1,e2⟩:=aj.out i hi
   have hd:=ai.out i hi
   obtain ⟨x,hx⟩:=zX (a.getD i 0)
   obtain ⟨y,hy⟩:=zX (b.getD i 0)
   rw [<-hx] at e1 hd
   rw [<-hy] at e2 hd
   have af:=d8j x y w
   obtain ⟨z,hz⟩:=zX (f3f x y)
   rw [<-hz] at af hd
   have HD:=hid hd
   clear hd hx hy hz
   go_wp2_with fail
   refine af.mono ?_
   rintro e w' ⟨rfl,rfl⟩
   by_cases hz0:z=0
   ·have t4:(z != 0)=false:=by rw [hz0];rfl
    have ab:a8i a b=a8i (a.drop (i+1)) (b.drop (i+1)):=by rw [HI.out,HD.out,if_pos hz0]
    have ad:=hid ab
    clear ab hz0
    go_wp2_with fail
    go_roundg j
    case measure=>omega
    case rel=>exact ⟨i+1,by go_num,by omega,ad,rfl⟩
   ·have t4:(z != 0)=true:=by simpa using hz0
    have ab:a8i a b=z:=by rw [HI.out,HD.out,if_neg hz0]
    have ad:=hid ab
    clear ab hz0
    go_wp2_with fail
    go_ret
    exact ⟨by rw [ad.out];rfl,rfl⟩
end Go.Proofs.YtepjepkgcdfboaaGreatDoor
