/- Lemmas. -/
import Derived.Test.YtnepiccbpokmiaaGreatDoorMg10
import Derived.Test.YtnepiccbpokmiaaGreatDoorMg16
set_option linter.all false
namespace Go.Proofs.YtnepiccbpokmiaaGreatDoor
open Tryz List Nat Go.RowKit
variable {i:Nat}
theorem o7:jA prog 166 169 (.agg #[(0:Int),.slice none 0 0]) 2 32:=.mk' underlying166 (by kernel_rfl)
theorem ic.made0(w:World)(e:TypeId)(k:Nat):ic (w.alloc (.cells #[] e)) e k (.slice (some ⟨w.heap.size,0,none⟩) 0 0) [w.heap.size] 0 []:=
 ⟨⟨by simp,.inr ⟨w.heap.size,0,#[],rfl,zero_le _,heap_alloc_new w _,zQ _,by simp[maxLen],by simp,by simp⟩⟩,rfl⟩
structure js (w:World) (F:List Nat) (e:El) (s:Value):Prop where
 ex:∃b o cap,s=.slice (some ⟨b,o,none⟩) e.syms.length cap/\b<w.heap.size/\b∉F/\∀i x,e.syms[i]?=some x->w.cell? ⟨b,o+i,none⟩=some (.int .i64 ((x:Nat):Int))
section
variable {w w':World} {F F':List Nat} {e:El} {s:Value}
theorem js.grow(h:js w F e s)(g:gB F F' w w'):js w' F' e s:=by
 obtain⟨b,o,c,rfl,a,hF,d⟩:=h.ex;exact⟨b,o,c,rfl,Nat.lt_of_lt_of_le a g.size,g.o a hF,λi x hx=>(World.cell?_of_block (w:=w) (g.Z.block b a hF)).trans (d i x hx)⟩
theorem js.Y(h:js w F e s)(c:gf [] w w'):js w' F e s:=by
 obtain⟨b,o,d,rfl,a,hF,f⟩:=h.ex;exact⟨b,o,d,rfl,Nat.lt_of_lt_of_le a c.size,hF,λi x hx=>(World.cell?_of_block (w:=w) (c.block b a (by simp))).trans (f i x hx)⟩
theorem js.o(h:js w F e s):js w [] e s:=by
 obtain⟨b,o,a,rfl,c,hF,d⟩:=h.ex;exact⟨b,o,a,rfl,c,by simp,d⟩
theorem js.fresh(h:js w [] e s)(hF:∀x∈F,w.heap.size<=x):js w F e s:=by
 obtain⟨b,o,a,rfl,c,_,d⟩:=h.ex;exact⟨b,o,a,rfl,c,λhm=>by have:=hF b hm;omega,d⟩
theorem js.later(h:js w [] e s)(c:gf [] w w')(hF:∀x∈F,w.heap.size<=x):js w' F e s:=by
 obtain⟨b,o,d,rfl,a,_,f⟩:=h.ex;exact⟨b,o,d,rfl,Nat.lt_of_lt_of_le a c.size,λhm=>by have:=hF b hm;omega,λi x hx=>(World.cell?_of_block (w:=w) (c.block b a (by simp))).trans (f i x hx)⟩
end
def l7(p:El × Value):List Value:=[.int .i64 p.1.wt,p.2]
theorem tC(ps:List (El × Value)):(ps.flatMap l7).length=ps.length*2:=by
 induction ps with
 | nil=>rfl
 | cons p ps ih=>rw[flatMap_cons,zC,ih,zK];show 2+_=_;omega
theorem Og(ps:List (El × Value)):∀i,(ps.flatMap l7).take (i*2)=(ps.take i).flatMap l7:=by
 induction ps with
 | nil=>intro i;simp
 | cons p ps ih=>
  intro i
  cases i with
  | zero=>simp
  | succ i=>
   rw[take_succ_cons,flatMap_cons,flatMap_cons,<-ih i,succ_mul];rfl
theorem Of(ps:List (El × Value)):∀i,(ps.flatMap l7).drop (i*2)=(ps.drop i).flatMap l7:=by
 induction ps with
 | nil=>intro i;simp
 | cons p ps ih=>
  intro i
  cases i with
  | zero=>simp
  | succ i=>
   rw[drop_succ_cons,flatMap_cons,<-ih i,succ_mul];rfl
theorem ON{ps:List (El × Value)}:∀ {i:Nat} {p:El × Value},ps[i]?=some p->(ps.flatMap l7)[i*2]?=some (.int .i64 p.1.wt)/\(ps.flatMap l7)[i*2+1]?=some p.2:=by
 induction ps with
 | nil=>intro i p h;simp at h
 | cons q ps ih=>
  intro i p h
  cases i with
  | zero=>
   simp at h;subst h;exact⟨rfl,rfl⟩
  | succ i=>
   have:=ih (i:=i) (p:=p) (by simpa using h)
   rw[flatMap_cons,succ_mul];exact this
theorem FP(ps:List (El × Value))(h:∀p∈ps,p.2.oneCell'=true):∀u∈ps.flatMap l7,u.oneCell'=true:=λu a=>by
 obtain⟨p,b,a⟩:=List.mem_flatMap.1 a;rcases zJ.1 a with rfl|a
 .rfl
 rcases zJ.1 a with rfl|a
 .exact h p b
 .cases a
theorem js.one{w:World}{F:List Nat}{e:El}{s:Value}(h:js w F e s):s.oneCell'=true:=by
 obtain⟨b,o,a,rfl,_⟩:=h.ex;rfl
structure mv (Q:Value->Prop) (w:World) (A:Option Addr) (l:List El):Prop where
 ex:∃ps:List (El × Value),ps.map Prod.fst=l/\gu (λv=>v) w A (ps.flatMap l7)/\∀p∈ps,js w [] p.1 p.2/\Q p.2
structure lh (Q:Value->Prop) (w:World) (v:Value) (F:List Nat) (l:List El):Prop where
 ex:∃ps:List (El × Value),ps.map Prod.fst=l/\ic w 169 2 v F l.length (ps.flatMap l7)/\∀p∈ps,js w F p.1 p.2/\Q p.2
section
variable {Q Q':Value->Prop} {w w':World} {A:Option Addr} {v:Value} {F F':List Nat} {l:List El}
theorem mv.Y(h:mv Q w A l)(c:gf [] w w'):mv Q w' A l:=by
 obtain⟨ps,b,d,a⟩:=h.ex;exact⟨ps,b,d.Y c,λp hp=>⟨(a p hp).1.Y c,(a p hp).2⟩⟩
theorem mv.imp(h:mv Q w A l)(d:∀e s,js w [] e s->Q s->Q' s):mv Q' w A l:=by
 obtain⟨ps,b,c,a⟩:=h.ex;exact⟨ps,b,c,λp hp=>⟨(a p hp).1,d _ _ (a p hp).1 (a p hp).2⟩⟩
theorem lh.nil(w:World):lh Q w (.slice none 0 0) [] []:=⟨[],rfl,ic.nil _ _ _,λp hp=>by cases hp⟩
theorem lh.Y(h:lh Q w v F l)(c:gf [] w w'):lh Q w' v F l:=by
 obtain⟨ps,b,d,a⟩:=h.ex;exact⟨ps,b,d.Y c,λp hp=>⟨(a p hp).1.Y c,(a p hp).2⟩⟩
theorem lh.open_(h:lh Q w v F l):∃(A:Option Addr) (cap:Nat),v=.slice A l.length cap/\l.length<=cap/\cap<=9223372036854775807/\mv Q w A l/\∀ad,A=some ad->ad.block∈F:=by
 obtain⟨ps,b,c,a⟩:=h.ex;obtain⟨A,cap,e,d,f,j,k⟩:=c.open_;refine⟨A,cap,e,d,f,⟨ps,b,j,λp hp=>⟨(a p hp).1.o,(a p hp).2⟩⟩,λad had=>?_⟩;obtain⟨g,rfl,hF,_⟩:=k ad had;rw[hF];simp
theorem mv.at_(h:mv Q w A l)(hi:i<l.length):∃b o s,A=some ⟨b,o,none⟩/\b<w.heap.size/\w.cell? ⟨b,o+i*2,none⟩=some (.int .i64 (l[i].wt:Int))/\w.cell? ⟨b,o+i*2+1,none⟩=some s/\js w [] l[i] s/\Q s:=by
 obtain⟨ps,a,j,k⟩:=h.ex;have q:ps.length=l.length:=by rw[<-a,zE]
 have p:ps[i]?=some (ps[i]'(by omega)):=zF (by omega);have d:(ps[i]'(by omega)).1=l[i]:=by
  have:l[i]=(ps.map Prod.fst)[i]'(by simp;omega):=by congr 1;exact a.symm
  rw[this];simp
 obtain⟨f,g⟩:=ON p;obtain⟨b,o,e,m,c⟩:=j.ex (by rw[tC];omega);refine⟨b,o,(ps[i]'(by omega)).2,e,m,?_,c _ _ g,?_⟩
 .rw[c _ _ f,d]
 .have:=k _ (zG (l:=ps) (n:=i) (by omega))
  rwa [d]at this
theorem mv.at2(h:mv Q w A l)(c:gf [] w w')(hi:i<l.length):∃b o s,A=some ⟨b,o,none⟩/\b<w.heap.size/\w'.cell? ⟨b,o+i*2,none⟩=some (.int .i64 (l[i].wt:Int))/\w'.cell? ⟨b,o+i*2+1,none⟩=some s/\(∀F,(∀x∈F,w.heap.size<=x)->js w' F l[i] s)/\Q s:=by
 obtain⟨b,o,s,f,a,g,j,k,m⟩:=h.at_ hi;have d:=c.block b a (by simp);exact⟨b,o,s,f,a,(World.cell?_of_block (w:=w) d).trans g,(World.cell?_of_block (w:=w) d).trans j,λF hF=>k.later c hF,m⟩
theorem zi{ps:List (El × Value)}{e:El}{s:Value}{d:Nat}{f:Value}(g:ps.map Prod.fst=l)(b:∀p∈ps,js w F p.1 p.2/\Q p.2)(m:js w F e s)(k:Q s)(c:gB F F' w w')(j:ic w' 169 2 f F' d (ps.flatMap l7++[.int .i64 e.wt,s]))(h:d=l.length+1):lh Q w' f F' (l++[e]):=by
 refine⟨ps++[(e,s)],by rw[zM,g];rfl,?_,λp a=>?_⟩
 .rw[zC,length_singleton,<-h,flatMap_append]
  exact j
 .rcases zP.1 a with a|a
  .exact⟨(b p a).1.grow c,(b p a).2⟩
  .rw[zU.1 a]
   exact⟨m.grow c,k⟩
end
end Go.Proofs.YtnepiccbpokmiaaGreatDoor
