/- slices.Repeat, plain Lean: a row that is filled by copies of its own head; and squares as cells. -/
import Derived.Test.YtepjepkgcdfboaaGreatDoorMg01
import Derived.Laws.CopyOwn
set_option linter.unusedVariables false
set_option linter.unusedSimpArgs false
namespace Go.Proofs.YtepjepkgcdfboaaGreatDoor
open Go.RowKit
theorem d7l {α:Type} (a b:α) (m z k:Nat) (h:k<=z):splice (List.replicate m a++List.replicate z b) m (List.replicate k a)=List.replicate (m+k) a++List.replicate (z-k) b:=by
 unfold splice
 rw [List.take_append_of_le_length (by simp),zT (by simp),zV,List.drop_append,zV,List.drop_of_length_le (by simp),show m+k-m=k by omega,List.drop_replicate,List.nil_append,<-zH,List.replicate_append_replicate]
theorem e5d {α:Type} (a b:α) (z:Nat) (h:1<=z):splice (List.replicate z b) 0 [a]=List.replicate 1 a++List.replicate (z-1) b:=by
 have:=d7l a b 0 z 1 h
 simpa using this
def a8g (q:Sq):List Go.Value:=[.int .i64 q.x,.int .i64 q.y,.int .i64 q.w,.int .i64 q.h]
theorem f4h (l:List Sq):(l.flatMap a8g).length=l.length*4:=by
 induction l with
 | nil=>rfl
 | cons a l ih=>rw [List.flatMap_cons,zC,ih,zK];simp [a8g];omega
theorem e2u {w s y h f:Nat} (hy:y<h):(a5r s h (f+1) y).flatMap (a8y w s)=a8y w s (y,min s (h-y))++(a5r s h f (y+s)).flatMap (a8y w s):=by
 rw [a8c f hy,List.flatMap_cons]
def b2b (w s f x:Nat) (p:Nat × Nat):List Sq:=(a5r s w f x).map fun q=>⟨q.1,p.1,q.2,p.2⟩
theorem b8l {w s x:Nat} (f:Nat) (p:Nat × Nat) (h:x<w):b2b w s (f+1) x p=⟨x,p.1,min s (w-x),p.2⟩::b2b w s f (x+s) p:=by
 unfold b2b
 rw [a8c f h]
 rfl
theorem d4l {w s x:Nat} (f:Nat) (p:Nat × Nat) (h:w<=x):b2b w s f x p=[]:=by
 unfold b2b
 rw [b3a f h]
 rfl
theorem d6d (w h s:Nat):(b6z w h s).length<=h*w:=by
 have e:∀ l:List (Nat × Nat),(l.flatMap (a8y w s)).length<=l.length*w:=by
  intro l
  induction l with
  | nil=>simp
  | cons a l ih =>
   rw [List.flatMap_cons,zC,zK,Nat.succ_mul]
   have:(a8y w s a).length<=w:=by unfold a8y;rw [zE];exact b7e s w w 0
   omega
 exact Nat.le_trans (e _) (Nat.mul_le_mul_right w (b7e s h h 0))
section
variable {P:Program}
theorem e9w {t e:TypeId} (ht:P.underlying t=some (.slice e)) (hs:∀ w,(sizeOf e).run P w=.ok 1 w) (g n c lo:Nat) (h:lo<n) (hnc:n<=c) (w:World) :
  (Instr.slice t (.slice (some ⟨g,0,none⟩) n c) (some (.int .i64 lo)) none none).run P w=.ok (.slice (some ⟨g,lo,none⟩) (n-lo) (c-lo)) w:=by
 have he:=c6u ht
 rw [run_slice_l (P:=P) (w:=w) t (some ⟨g,0,none⟩) n c (by rw [he];exact ht) .i64 (lo:Int) (by omega) (by omega),he,hs]
 simp [sliced]
 rw [if_neg (by omega)]
 unfold Addr.add
 split
 ·rename_i h0;subst h0;rfl
 ·simp
theorem Chg.setRow_ {w:World} {g:Nat} (cs:Array Value):Chg [g] w (w.setRow g cs) :=
 ⟨rfl,rfl,rfl,by simp [World.setRow],fun k hk hn=>setRow_other w g k cs (by simpa using hn)⟩
theorem d4s {α:Type} (xs ys news:List α) (off:Nat) (h:off+news.length<=xs.length):((xs++ys).take off++(news++(xs++ys).drop (off+news.length))).take xs.length=splice xs off news:=by
 have hl:=length_splice xs off news h
 have e1:(xs++ys).take off=xs.take off:=List.take_append_of_le_length (by omega)
 have e2:(xs++ys).drop (off+news.length)=xs.drop (off+news.length)++ys:=List.drop_append_of_le_length h
 have e3:xs.take off++(news++(xs.drop (off+news.length)++ys))=splice xs off news++ys:=by simp [splice]
 rw [e1,e2,e3,List.take_append_of_le_length (by omega),zT (by omega)]
theorem c3e {w:World} {ops:Array Oper} {rest:List Oper} {o:Oper} {a:Act} {Q:Exit->Act->World->Prop} (hgd:o.guard=none) (d s:Operand) (dT sT:TypeId)
  (ho:o.op=.call { callee:=.builtin .copy,args:=#[d,s],argTypes:=#[dT,sT] }) {e:TypeId} (hu:P.underlying dT=some (.slice e)) (hsz:(P.info? e).map (·.size)=some 1)
  {v:Value} {g:Nat} {xs:List Value} (hr:Row w e v g xs) (off dLen dCap:Nat) {A:Option Addr} (n sCap:Nat) (hd:a.eval d=.slice (some ⟨g,off,none⟩) dLen dCap) (hs:a.eval s=.slice A n sCap)
  (news:List Value) (hn:news.length=n) (h0:0<n) (hnd:n<=dLen) (hc:a0d (fun u=>u) w A news) (hfit:off+n<=xs.length) (h1:∀ u∈news,u.oneCell'=true)
  (h:∀ w',Row w' e v g (splice xs off news)->Chg [g] w w'->wpList P ops Q rest (a.put o.dst (goInt news.length)) w'):wpList P ops Q (o::rest) a w:=by
 obtain ⟨af,aa,rfl,hb,ag,ad,ai,ae⟩:=hr.ex
 obtain ⟨b0,o0,rfl,aj,ab⟩:=hc.ex (by omega)
 refine wpList_copy_own hgd d s dT sT ho e hu hsz g off dLen dCap ⟨b0,o0,none⟩ n sCap hd hs aa e hb news (by rw [hn];exact (Nat.min_eq_left hnd).symm) ?_ (by rw [hn];omega) h1 ?_
 ·intro j u hj
  have:=ab j u hj
  unfold Addr.add
  split
  ·rename_i h0;subst h0;exact this
  ·exact this
 ·refine h _ ?_ (Chg.setRow_ _)
  have ac:Blk (w.setRow g (aa.toList.take off++(news++aa.toList.drop (off+news.length))).toArray) g e (aa.toList.take off++(news++aa.toList.drop (off+news.length))).toArray:=by
   unfold Blk at hb ⊢
   unfold World.setRow
   rw [Array.getElem?_modify,if_pos rfl,hb]
   rfl
  have hl:(splice xs off news).length=xs.length:=length_splice xs off news (by omega)
  refine ⟨af,_,by rw [hl],ac,by rw [hl];exact ag,ad,?_,?_⟩
  ·simp
   omega
  ·rw [hl]
   have ah:aa.toList=xs++aa.toList.drop xs.length:=by
    have:=List.take_append_drop xs.length aa.toList
    rw [ae] at this
    exact this.symm
   show ((aa.toList.take off++(news++aa.toList.drop (off+news.length))).toArray).toList.take xs.length=_
   rw [List.toList_toArray,ah]
   exact d4s xs _ news off (by omega)
end
end Go.Proofs.YtepjepkgcdfboaaGreatDoor
