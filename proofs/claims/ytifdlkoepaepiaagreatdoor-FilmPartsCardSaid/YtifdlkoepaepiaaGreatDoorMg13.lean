/- Lemmas. -/
import Derived.Test.YtifdlkoepaepiaaGreatDoorMg09
import Derived.Laws.CopyOwn
set_option linter.all false
namespace Go.Proofs.YtifdlkoepaepiaaGreatDoor
open List Nat Go.RowKit
variable {g s w x:Nat}{e:TypeId}
theorem FO{α:Type}(a b:α)(m z k:Nat)(h:k<=z):splice (replicate m a++replicate z b) m (replicate k a)=replicate (m+k) a++replicate (z-k) b:=by
 unfold splice;rw[take_append_of_le_length (by simp),zT (by simp),zV,drop_append,zV,drop_of_length_le (by simp),show m+k-m=k by omega,drop_replicate,nil_append,<-zH,replicate_append_replicate]
theorem M5{α:Type}(a b:α)(z:Nat)(h:1<=z):splice (replicate z b) 0 [a]=replicate 1 a++replicate (z-1) b:=by
 have:=FO a b 0 z 1 h
 simpa using this
def oC (q:Sq):List Go.Value:=[.int .i64 q.x,.int .i64 q.y,.int .i64 q.w,.int .i64 q.h]
theorem PM(l:List Sq):(l.flatMap oC).length=l.length*4:=by
 induction l with
 | nil=>rfl
 | cons a l ih=>rw[flatMap_cons,zC,ih,zK];simp[oC];omega
theorem Ms{y h f:Nat}(a:y<h):(kR s h (f+1) y).flatMap (nQ w s)=nQ w s (y,min s (h-y))++(kR s h f (y+s)).flatMap (nQ w s):=by
 rw[sK f a,flatMap_cons]
def rh (w s f x:Nat) (p:Nat × Nat):List Sq:=(kR s w f x).map λq=>⟨q.1,p.1,q.2,p.2⟩
theorem CF(f:Nat)(p:Nat × Nat)(h:x<w):rh w s (f+1) x p=⟨x,p.1,min s (w-x),p.2⟩::rh w s f (x+s) p:=by
 unfold rh;rw[sK f h];rfl
theorem KI(f:Nat)(p:Nat × Nat)(h:w<=x):rh w s f x p=[]:=by
 unfold rh;rw[uu f h];rfl
theorem Bx(w h s:Nat):(iM w h s).length<=h*w:=by
 have e:∀l:List (Nat × Nat),(l.flatMap (nQ w s)).length<=l.length*w:=by
  intro l
  induction l with
  | nil=>simp
  | cons a l ih =>
   rw[flatMap_cons,zC,zK,succ_mul]
   have:(nQ w s a).length<=w:=by unfold nQ;rw[zE];exact zk s w w 0
   omega
 exact Nat.le_trans (e _) (mul_le_mul_right w (zk s h h 0))
section
variable {P:Program}
theorem BK{t:TypeId}(d:P.underlying t=some (.slice e))(i:∀w,(sizeOf e).run P w=.ok 1 w)(g n c a:Nat)(h:a<n)(f:n<=c)(w:World):(Instr.slice t (.slice g n c) (some (.int .i64 a)) none none).run P w=.ok (.slice (some ⟨g,a,none⟩) (n-a) (c-a)) w:=by
 have b:=th d;rw[run_slice_l (P:=P) (w:=w) t (some ⟨g,0,none⟩) n c (by rw[b];exact d) .i64 (a:Int) (by omega) (by omega),b,i];simp[sliced];rw[if_neg (by omega)];unfold Addr.add;split
 .rename_i h0;subst h0;rfl
 .simp
theorem gg.setRow_{w:World}(a:Array Value):gg [g] w (w.setRow g a):=
 ⟨rfl,rfl,rfl,by simp[World.setRow],λk hk hn=>setRow_other w g k a (by simpa using hn)⟩
theorem KN{α:Type}(a ys news:List α)(off:Nat)(h:off+news.length<=a.length):((a++ys).take off++(news++(a++ys).drop (off+news.length))).take a.length=splice a off news:=by
 have c:=length_splice a off news h;have b:(a++ys).take off=a.take off:=take_append_of_le_length (by omega);have e2:(a++ys).drop (off+news.length)=a.drop (off+news.length)++ys:=drop_append_of_le_length h;have e3:a.take off++(news++(a.drop (off+news.length)++ys))=splice a off news++ys:=by simp[splice]
 rw[b,e2,e3,take_append_of_le_length (by omega),zT (by omega)]
theorem Az{w:World}{ops:Array Oper}{rest:List Oper}{o:Oper}{a:Act}{Q:Exit->Act->World->Prop}(q:o.guard=none)(d s:Operand)(m D:TypeId)(R:o.op=.call { callee:=.builtin .copy,args:=#[d,s],argTypes:=#[m,D] })(U:P.underlying m=some (.slice e))(y:(P.info? e).map (·.size)=some 1){v:Value}{f:List Value}(S:gv w e v g f)(b c k:Nat){A:Option Addr}(n l:Nat)(N:a.eval d=.slice (some ⟨g,b,none⟩) c k)(T:a.eval s=.slice A n l)(news:List Value)(C:news.length=n)(z:0<n)(t:n<=c)(M:gz (λu=>u) w A news)(B:b+n<=f.length)(L:∀u∈news,u.oneCell'=true)(h:∀w',gv w' e v g (splice f b news)->gg [g] w w'->wpList P ops Q rest (a.put o.dst (goInt news.length)) w'):wpList P ops Q (o::rest) a w:=by
 obtain⟨F,i,rfl,p,J,G,X,I⟩:=S.ex;obtain⟨K,V,rfl,W,E⟩:=M.ex (by omega);refine wpList_copy_own q d s m D R e U y g b c k ⟨K,V,none⟩ n l N T i e p news (by rw[C];exact(Nat.min_eq_left t).symm) ?_ (by rw[C];omega) L ?_
 .intro j u O
  have:=E j u O
  unfold Addr.add;split
  .rename_i z;subst z;exact this
  .exact this
 .refine h _ ?_ (gg.setRow_ _)
  have ad:gn (w.setRow g (i.toList.take b++(news++i.toList.drop (b+news.length))).toArray) g e (i.toList.take b++(news++i.toList.drop (b+news.length))).toArray:=by
   unfold gn at p⊢;unfold World.setRow;rw[Array.getElem?_modify,if_pos rfl,p];rfl
  have r:(splice f b news).length=f.length:=length_splice f b news (by omega);refine⟨F,_,by rw[r],ad,by rw[r];exact J,G,?_,?_⟩
  .simp
   omega
  .rw[r]
   have H:i.toList=f++i.toList.drop f.length:=by
    have:=take_append_drop f.length i.toList
    rw[I]at this;exact this.symm
   show((i.toList.take b++(news++i.toList.drop (b+news.length))).toArray).toList.take f.length=_;rw[toList_toArray,H];exact KN f _ news b (by omega)
end
end Go.Proofs.YtifdlkoepaepiaaGreatDoor
