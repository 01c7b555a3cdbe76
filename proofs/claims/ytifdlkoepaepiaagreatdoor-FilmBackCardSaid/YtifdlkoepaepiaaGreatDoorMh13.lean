/- Lemmas. -/
import Derived.Test.YtifdlkoepaepiaaGreatDoorMh08
import Derived.Laws.CopyOwn
import Derived.Lib.AppendZeros
set_option linter.all false
namespace Go.Proofs.YtifdlkoepaepiaaGreatDoor
open List Nat Go.RowKit
variable {a:Act}{ops:Array Oper}{Q:Exit->Act->World->Prop}{F:List Nat}{rest:List Oper}{xs:List Value}{bytes g s x:Nat}{o:Oper}{e t tn:TypeId}{v z:Value}{w:World}
theorem FO{α:Type}(a b:α)(m z k:Nat)(h:k<=z):splice (replicate m a++replicate z b) m (replicate k a)=replicate (m+k) a++replicate (z-k) b:=by
 unfold splice;rw[take_append_of_le_length (by simp),zT (by simp),zV,drop_append,zV,drop_of_length_le (by simp),show m+k-m=k by omega,drop_replicate,nil_append,<-zH,replicate_append_replicate]
theorem M5{α:Type}(a b:α)(z:Nat)(h:1<=z):splice (replicate z b) 0 [a]=replicate 1 a++replicate (z-1) b:=by
 have:=FO a b 0 z 1 h
 simpa using this
def oC(q:Sq):List Go.Value:=[.int .i64 q.x,.int .i64 q.y,.int .i64 q.w,.int .i64 q.h]
theorem PM(l:List Sq):(l.flatMap oC).length=l.length*4:=by
 induction l with
 | nil=>rfl
 | cons a l ih=>rw[flatMap_cons,zC,ih,zK];simp[oC];omega
theorem Ms{w y h f:Nat}(b:y<h):(kR s h (f+1) y).flatMap (nQ w s)=nQ w s (y,min s (h-y))++(kR s h f (y+s)).flatMap (nQ w s):=by
 rw[sK f b,flatMap_cons]
def rh(w s f x:Nat)(p:Nat × Nat):List Sq:=(kR s w f x).map λq=>⟨q.1,p.1,q.2,p.2⟩
theorem CF{w:Nat}(f:Nat)(p:Nat × Nat)(h:x<w):rh w s (f+1) x p=⟨x,p.1,min s (w-x),p.2⟩::rh w s f (x+s) p:=by
 unfold rh;rw[sK f h];rfl
theorem KI{w:Nat}(f:Nat)(p:Nat × Nat)(h:w<=x):rh w s f x p=[]:=by
 unfold rh;rw[uu f h];rfl
theorem Bx(w h s:Nat):(iM w h s).length<=h*w:=by
 have e:∀l:List (Nat × Nat),(l.flatMap (nQ w s)).length<=l.length*w:=by
  intro l
  induction l with
  | nil=>simp
  | cons a l ih=>
   rw[flatMap_cons,zC,zK,succ_mul]
   have:(nQ w s a).length<=w:=by unfold nQ;rw[zE];exact zk s w w 0
   omega
 exact Nat.le_trans (e _) (mul_le_mul_right w (zk s h h 0))
section
variable {P:Program}
theorem JL(z:Value)(m:Nat)(b:z.cells=#[z]):Builtin.zeroCells z.cells m=(replicate m z).toArray:=by
 apply Array.ext
 .simp[size_zeroCells,b]
 .intro j c d
  simp[Builtin.zeroCells,b,mod_one]
theorem IV{ty:TypeId}{O k:IntKind}(E:jx P t e z 1 bytes)(l:z.cells=#[z])(X:z.oneCell'=true)(h:P.underlying tn=some (.int O))(d:jj w e v F xs)(m:Nat)(hm:0<m)(Y:xs.length+m<=1099511627776)(b:(xs.length+m)*bytes<=140737488355328):∃v' F' w',(Builtin.append_ #[t,tn] ty #[v,.int k m]).run P w=.ok v' w'/\jj w' e v' F' (xs++replicate m z)/\gE F F' w w':=by
 obtain⟨i,y,B,G,T⟩:=E.hi;subst T;have A:=E.ht;have r:=JL z m l;have N:IntKind.i64.wrap (m:Int)=m:=by rw[IntKind.wrap_i64];omega
 have I:¬((m:Int)<0):=by omega
 have aw:m*i.bytes<=(xs.length+m)*i.bytes:=mul_le_mul_right _ (by omega);have H:¬(281474976710656<(m:Int)*(i.bytes:Int)):=by
  rw[<-Int.natCast_mul];omega
 have K:m≠0:=by omega
 have c:∀(old:Nat),old<xs.length+m ->
   jj (w.drew.alloc (.cells (xs.toArray++(replicate m z).toArray++Builtin.zeroCells z.cells (grownCap w (xs.length+m) old e-(xs.length+m))) e)) e (.slice (some ⟨w.heap.size,0,none⟩) (xs.length+m) (grownCap w (xs.length+m) old e)) [w.heap.size] (xs++replicate m z):=by
  intro old ho;have V:=grownCap_ge w (xs.length+m) old e;have q:grownCap w (xs.length+m) old e<=maxLen:=grownCap_le_maxLen w (xs.length+m) old e (by simp only[maxLen];omega);have n:(xs++replicate m z).length=xs.length+m:=by simp
  refine⟨⟨by simp,.inr ⟨w.heap.size,_,_,by rw[n],zero_le _,heap_alloc_new w.drew _,by rw[n];exact V,q,?_,?_⟩⟩,rfl⟩
  .simp only[Array.size_append,size_toArray,size_zeroCells,l,zV,size_toArray,zK,length_nil]
   simp;omega
  .simp only[Array.toList_append,zH,n,Nat.mul_one]
   rw[<-zH,<-n];exact take_left
 have D:∀(C:Array Value) (F:List Nat),gE F [w.heap.size] w (w.drew.alloc (.cells C e)):=λC F=>
  ⟨((zR F w).drew).alloc _,λx hx=>by simp at hx;right;omega⟩
 rcases d.cases with⟨rfl,rfl,rfl⟩|⟨g,hr,rfl⟩
 .have J:=Lib.run_append_nil_zeros (P:=P) w t tn ty e i z k O A h y B m hm (by omega) (by omega) (by simp at b;omega)
  have Z:=c 0 (by simp;omega);rw[r]at J;refine⟨_,_,_,J,?_,D _ _⟩
  simpa using Z
 .obtain⟨ad,p,rfl,M,ax,q,av,W⟩:=hr.ex
  by_cases hroom:xs.length+m<=ad
  .have L:=run_storeCells_at P g xs.length e (replicate m z) 0 p w M (by simp;omega) (λu hu=>by rw[eq_of_mem_replicate hu];exact X)
   simp only[Nat.add_zero]at L;refine⟨.slice g (xs.length+m) ad,[g],w.setRow g (p.toList.take xs.length++replicate m z++p.toList.drop (xs.length+(replicate m z).length)).toArray,?_,?_,?_⟩
   .simp[Builtin.append_,run_underlying A,run_underlying h,sizeOf,typeInfo,zeroValue,y,B,G,asInt,asIntOf,N,I,K,H,hroom,Addr.add_lit,r]
    have:=L
    simp at this;rw[this];rfl
   .refine gv.R ⟨⟨ad,_,by simp,setRow_heap w g p _ e _ M,by simp;omega,q,?_,?_⟩⟩
    .simp
     omega
    .rw[W,zH,<-zH,take_left' (by simp)]
   .exact⟨⟨rfl,rfl,rfl,by simp[World.setRow],λx _ hx=>setRow_other w g x _ (λe=>hx (by simp[e]))⟩,λx hx=>.inl hx⟩
  .have S:¬(9223372036854775807<((xs.length:Int)+(m:Int))):=by omega
   have ap:=growslice_fits (need:=xs.length+m) (old:=ad) (by omega) b;have R:¬(281474976710656<Builtin.nextslicecap (xs.length+m) ad*i.bytes):=(by omega);have f:∀j u,xs[j]?=some u->w.drew.cell? ((⟨g,0,none⟩:Addr).add j)=some u:=λj u hj=>d.own.cells (g:=g) rfl j u hj;have U:=run_firstCells_some (P:=P) w.drew 1 xs.length ⟨g,0,none⟩ xs.length ad xs (by simp) f;refine⟨_,[w.heap.size],_,?_,c ad (by omega),D _ _⟩;simp[Builtin.append_,run_underlying A,run_underlying h,sizeOf,typeInfo,zeroValue,y,B,G,asInt,asIntOf,N,I,K,H,hroom,S,R,Question.forced,U,newRow,grownCap,r]
theorem IR(j:o.guard=none){s x:Operand}(y:o.op=.call { callee:=.builtin .append,args:=#[s,x],argTypes:=#[t,tn] }){D k:IntKind}(E:jx P t e z 1 bytes)(n:z.cells=#[z])(p:z.oneCell'=true)(l:P.underlying tn=some (.int D))(B:a.eval s=v)(d:jj w e v F xs)(m:Nat)(C:a.eval x=.int k m)(u:0<m)(i:xs.length+m<=1099511627776)(b:(xs.length+m)*bytes<=140737488355328)(h:∀f F' c,jj c e f F' (xs++replicate m z)->gE F F' w c->wpList P ops Q rest (a.put o.dst f) c):wpList P ops Q (o::rest) a w:=by
 obtain⟨f,F',c,A,q,r⟩:=IV (P:=P) (ty:=o.type) (k:=k) E n p l d m u i b;exact Lib.wpList_append_run w j s x t tn y _ _ B C f c A (h f F' c q r)
end
section
variable {P:Program}
theorem BK(f:P.underlying t=some (.slice e))(j:∀w,(sizeOf e).run P w=.ok 1 w)(g n c b:Nat)(h:b<n)(i:n<=c)(w:World):(Instr.slice t (.slice g n c) (some (.int .i64 b)) none none).run P w=.ok (.slice (some ⟨g,b,none⟩) (n-b) (c-b)) w:=by
 have d:=th f;rw[run_slice_l (P:=P) (w:=w) t (some ⟨g,0,none⟩) n c (by rw[d];exact f) .i64 (b:Int) (by omega) (by omega),d,j];simp[sliced];rw[if_neg (by omega)];unfold Addr.add;split
 .rename_i h0;subst h0;rfl
 .simp
theorem gg.setRow_(b:Array Value):gg [g] w (w.setRow g b):=
 ⟨rfl,rfl,rfl,by simp[World.setRow],λk hk hn=>setRow_other w g k b (by simpa using hn)⟩
theorem KN{α:Type}(xs ys news:List α)(off:Nat)(h:off+news.length<=xs.length):((xs++ys).take off++(news++(xs++ys).drop (off+news.length))).take xs.length=splice xs off news:=by
 have c:=length_splice xs off news h;have b:(xs++ys).take off=xs.take off:=take_append_of_le_length (by omega);have e2:(xs++ys).drop (off+news.length)=xs.drop (off+news.length)++ys:=drop_append_of_le_length h;have e3:xs.take off++(news++(xs.drop (off+news.length)++ys))=splice xs off news++ys:=by simp[splice]
 rw[b,e2,e3,take_append_of_le_length (by omega),zT (by omega)]
theorem Az(p:o.guard=none)(d s:Operand)(l E:TypeId)(T:o.op=.call { callee:=.builtin .copy,args:=#[d,s],argTypes:=#[l,E] })(W:P.underlying l=some (.slice e))(y:(P.info? e).map (·.size)=some 1)(U:gv w e v g xs)(b c i:Nat){A:Option Addr}(n k:Nat)(R:a.eval d=.slice (some ⟨g,b,none⟩) c i)(V:a.eval s=.slice A n k)(news:List Value)(D:news.length=n)(B:0<n)(r:n<=c)(O:gz (λu=>u) w A news)(C:b+n<=xs.length)(N:∀u∈news,u.oneCell'=true)(h:∀w',gv w' e v g (splice xs b news)->gg [g] w w'->wpList P ops Q rest (a.put o.dst (goInt news.length)) w'):wpList P ops Q (o::rest) a w:=by
 obtain⟨H,f,rfl,m,L,I,Z,K⟩:=U.ex;obtain⟨M,X,rfl,Y,G⟩:=O.ex (by omega);refine wpList_copy_own p d s l E T e W y g b c i ⟨M,X,none⟩ n k R V f e m news (by rw[D];exact(Nat.min_eq_left r).symm) ?_ (by rw[D];omega) N ?_
 .intro j u S
  have:=G j u S
  unfold Addr.add;split
  .rename_i B;subst B;exact this
  .exact this
 .refine h _ ?_ (gg.setRow_ _)
  have ad:gn (w.setRow g (f.toList.take b++(news++f.toList.drop (b+news.length))).toArray) g e (f.toList.take b++(news++f.toList.drop (b+news.length))).toArray:=by
   unfold gn at m⊢;unfold World.setRow;rw[Array.getElem?_modify,if_pos rfl,m];rfl
  have q:(splice xs b news).length=xs.length:=length_splice xs b news (by omega);refine⟨H,_,by rw[q],ad,by rw[q];exact L,I,?_,?_⟩
  .simp
   omega
  .rw[q]
   have J:f.toList=xs++f.toList.drop xs.length:=by
    have:=take_append_drop xs.length f.toList
    rw[K]at this;exact this.symm
   show((f.toList.take b++(news++f.toList.drop (b+news.length))).toArray).toList.take xs.length=_;rw[toList_toArray,J];exact KN xs _ news b (by omega)
end
end Go.Proofs.YtifdlkoepaepiaaGreatDoor
