/- Lemmas. -/
import Derived.Test.YtnepiccbpokmiaaGreatDoorMg11
import Derived.Laws.CopyOwn
set_option linter.all false
namespace Go.Proofs.YtnepiccbpokmiaaGreatDoor
open List Nat Go.RowKit
variable {g s w x:Nat}{e:TypeId}
def nE(q:Sq):List Go.Value:=[.int .i64 q.x,.int .i64 q.y,.int .i64 q.w,.int .i64 q.h]
theorem zx(l:List Sq):(l.flatMap nE).length=l.length*4:=by
 induction l with
 | nil=>rfl
 | cons a l ih=>rw[flatMap_cons,zC,ih,zK];simp[nE];omega
theorem CW{y h f:Nat}(a:y<h):(j5 s h (f+1) y).flatMap (ml w s)=ml w s (y,min s (h-y))++(j5 s h f (y+s)).flatMap (ml w s):=by
 rw[qj f a,flatMap_cons]
def nT(w s f x:Nat)(p:Nat × Nat):List Sq:=(j5 s w f x).map λq=>⟨q.1,p.1,q.2,p.2⟩
theorem tT(f:Nat)(p:Nat × Nat)(h:x<w):nT w s (f+1) x p=⟨x,p.1,min s (w-x),p.2⟩::nT w s f (x+s) p:=by
 unfold nT;rw[qj f h];rfl
theorem BK(f:Nat)(p:Nat × Nat)(h:w<=x):nT w s f x p=[]:=by
 unfold nT;rw[qm f h];rfl
theorem yu(w h s:Nat):(gZ w h s).length<=h*w:=by
 have e:∀l:List (Nat × Nat),(l.flatMap (ml w s)).length<=l.length*w:=by
  intro l
  induction l with
  | nil=>simp
  | cons a l ih=>
   rw[flatMap_cons,zC,zK,succ_mul]
   have:(ml w s a).length<=w:=by unfold ml;rw[zE];exact xD s w w 0
   omega
 exact Nat.le_trans (e _) (mul_le_mul_right w (xD s h h 0))
section
variable {P:Program}
theorem Nd{t:TypeId}(b:P.underlying t=some (.slice e))(f:∀w,(sizeOf e).run P w=.ok 1 w)(g n c lo:Nat)(h:lo<n)(d:n<=c)(w:World):(Instr.slice t (.slice g n c) (some (.int .i64 lo)) none none).run P w=.ok (.slice (some ⟨g,lo,none⟩) (n-lo) (c-lo)) w:=by
 have a:=uS b;rw[run_slice_l (P:=P) (w:=w) t (some ⟨g,0,none⟩) n c (by rw[a];exact b) .i64 (lo:Int) (by omega) (by omega),a,f];simp[sliced];rw[if_neg (by omega)];unfold Addr.add;split
 .rename_i h0;subst h0;rfl
 .simp
theorem gf.setRow_{w:World}(a:Array Value):gf [g] w (w.setRow g a):=
 ⟨rfl,rfl,rfl,by simp[World.setRow],λk hk hn=>setRow_other w g k a (by simpa using hn)⟩
theorem IC{α:Type}(a ys news:List α)(off:Nat)(h:off+news.length<=a.length):((a++ys).take off++(news++(a++ys).drop (off+news.length))).take a.length=splice a off news:=by
 have f:=length_splice a off news h;have b:(a++ys).take off=a.take off:=take_append_of_le_length (by omega);have c:(a++ys).drop (off+news.length)=a.drop (off+news.length)++ys:=drop_append_of_le_length h;have d:a.take off++(news++(a.drop (off+news.length)++ys))=splice a off news++ys:=by simp[splice]
 rw[b,c,d,take_append_of_le_length (by omega),zT (by omega)]
theorem Gb{w:World}{ops:Array Oper}{rest:List Oper}{o:Oper}{a:Act}{Q:Exit->Act->World->Prop}(q:o.guard=none)(d s:Operand)(m D:TypeId)(R:o.op=.call { callee:=.builtin .copy,args:=#[d,s],argTypes:=#[m,D] })(U:P.underlying m=some (.slice e))(y:(P.info? e).map (·.size)=some 1){v:Value}{f:List Value}(S:gv w e v g f)(b c k:Nat){A:Option Addr}(n l:Nat)(N:a.eval d=.slice (some ⟨g,b,none⟩) c k)(T:a.eval s=.slice A n l)(news:List Value)(C:news.length=n)(z:0<n)(t:n<=c)(M:gu (λu=>u) w A news)(B:b+n<=f.length)(L:∀u∈news,u.oneCell'=true)(h:∀w',gv w' e v g (splice f b news)->gf [g] w w'->wpList P ops Q rest (a.put o.dst (goInt news.length)) w'):wpList P ops Q (o::rest) a w:=by
 obtain⟨F,i,rfl,p,J,G,X,I⟩:=S.ex;obtain⟨K,V,rfl,W,E⟩:=M.ex (by omega);refine wpList_copy_own q d s m D R e U y g b c k ⟨K,V,none⟩ n l N T i e p news (by rw[C];exact(Nat.min_eq_left t).symm) ?_ (by rw[C];omega) L ?_
 .intro j u O
  have:=E j u O
  unfold Addr.add;split
  .rename_i z;subst z;exact this
  .exact this
 .refine h _ ?_ (gf.setRow_ _)
  have ad:gn (w.setRow g (i.toList.take b++(news++i.toList.drop (b+news.length))).toArray) g e (i.toList.take b++(news++i.toList.drop (b+news.length))).toArray:=by
   unfold gn at p⊢;unfold World.setRow;rw[Array.getElem?_modify,if_pos rfl,p];rfl
  have r:(splice f b news).length=f.length:=length_splice f b news (by omega);refine⟨F,_,by rw[r],ad,by rw[r];exact J,G,?_,?_⟩
  .simp
   omega
  .rw[r]
   have H:i.toList=f++i.toList.drop f.length:=by
    have:=take_append_drop f.length i.toList
    rw[I]at this;exact this.symm
   show((i.toList.take b++(news++i.toList.drop (b+news.length))).toArray).toList.take f.length=_;rw[toList_toArray,H];exact IC f _ news b (by omega)
end
end Go.Proofs.YtnepiccbpokmiaaGreatDoor
