/- Parts of a row of residuals in plain Lean: widths, sizes, costs, bits, the best parts. No program. -/
import Derived.Test.YtklocammllljiaaGreatDoorMg01
set_option linter.unusedVariables false
set_option linter.unusedSimpArgs false
namespace Go.Proofs.YtklocammllljiaaGreatDoor
open Go.RowKit
def fitsB (x:Int) (n:Nat):Bool:=decide (1<=n)&&decide (n<=31)&&decide (-2^(n-1)<=x)&&decide (x<=2^(n-1)-1)
def needFrom (x:Int):Nat->Nat->Nat
 | 0,w=>w
 | f+1,w=>if x≠0/\w<32/\fitsB x w=false then needFrom x f (w+1) else w
def widthL (l:List Int):Nat:=l.foldl (fun w x=>needFrom x 32 w) 0
theorem widthL_snoc (l:List Int) (x:Int):widthL (l++[x])=needFrom x 32 (widthL l):=by simp [widthL]
theorem pow_half_mono {m n:Nat} (h:m<=n):(2:Int)^m<=2^n:=by
 have:=Nat.pow_le_pow_right (n:=2) (by decide) h
 exact_mod_cast this
theorem fits_mono {x:Int} {m n:Nat} (h:fitsB x m=true) (hmn:m<=n) (hn:n<=31):fitsB x n=true:=by
 unfold fitsB at *
 simp only [Bool.and_eq_true,decide_eq_true_eq] at *
 obtain ⟨⟨⟨h1,h2⟩,h3⟩,h4⟩:=h
 have:=pow_half_mono (show m-1<=n-1 by omega)
 exact ⟨⟨⟨by omega,hn⟩,by omega⟩,by omega⟩
theorem fits_wide {x:Int} (h:wideP x):fitsB x 31=true:=by
 unfold wideP at h
 unfold fitsB
 simp only [Bool.and_eq_true,decide_eq_true_eq]
 exact ⟨⟨⟨by decide,by decide⟩,by have:(2:Int)^(31-1)=1073741824:=rfl;omega⟩,by have:(2:Int)^(31-1)=1073741824:=rfl;omega⟩
theorem need_ge (x:Int):∀ f w,w<=needFrom x f w
 | 0,w=>zQ _
 | f+1,w=>by
  unfold needFrom
  split
  ·exact Nat.le_trans (by omega) (need_ge x f (w+1))
  ·exact zQ _
theorem need_le {x:Int} (h:wideP x):∀ f w,w<=31->needFrom x f w<=31
 | 0,w,hw=>hw
 | f+1,w,hw=>by
  unfold needFrom
  split
  ·rename_i hc
   have:w≠31:=fun e=>by rw [e,fits_wide h] at hc;simp at hc
   exact need_le h f (w+1) (by omega)
  ·exact hw
theorem need_fits {x:Int} (h:wideP x):∀ f w,w<=31->32<=w+f->x=0\/fitsB x (needFrom x f w)=true
 | 0,w,hw,hf=>by omega
 | f+1,w,hw,hf=>by
  unfold needFrom
  split
  ·rename_i hc
   have:w≠31:=fun e=>by rw [e,fits_wide h] at hc;simp at hc
   exact need_fits h f (w+1) (by omega) (by omega)
  ·rename_i hc
   by_cases hx:x=0
   ·exact .inl hx
   ·right
    have:¬ (fitsB x w=false):=fun e=>hc ⟨hx,by omega,e⟩
    simpa using this
theorem need_step {x:Int} {w:Nat} (hx:x≠0) (hw:w<32) (hf:fitsB x w=false) (f:Nat):needFrom x (f+1) w=needFrom x f (w+1):=by
 rw [needFrom,if_pos ⟨hx,hw,hf⟩]
theorem need_stop {x:Int} {w f:Nat} (h:x=0\/fitsB x w=true):needFrom x f w=w:=by
 cases f with
 | zero=>rfl
 | succ f =>
  rw [needFrom,if_neg]
  rintro ⟨h1,h2,h3⟩
  rcases h with h | h
  ·exact h1 h
  ·rw [h] at h3;cases h3
theorem widthL_le {l:List Int} (h:∀ x∈l,wideP x):widthL l<=31:=by
 unfold widthL
 suffices H:∀ (l:List Int) (w:Nat),(∀ x∈l,wideP x)->w<=31->l.foldl (fun w x=>needFrom x 32 w) w<=31 from H l 0 h (by omega)
 intro l
 induction l with
 | nil=>intro w _ hw;exact hw
 | cons x l ih=>intro w hl hw;exact ih _ (fun y hy=>hl y (by simp [hy])) (need_le (hl x (by simp)) 32 w hw)
theorem widthL_fits {l:List Int} (h:∀ x∈l,wideP x):∀ x∈l,x=0\/fitsB x (widthL l)=true:=by
 unfold widthL
 suffices H:∀ (l:List Int) (w:Nat),(∀ x∈l,wideP x)->w<=31->(∀ x∈l,x=0\/fitsB x (l.foldl (fun w x=>needFrom x 32 w) w)=true)/\w<=l.foldl (fun w x=>needFrom x 32 w) w from (H l 0 h (by omega)).1
 intro l
 induction l with
 | nil=>intro w _ hw;exact ⟨by simp,zQ _⟩
 | cons x l ih =>
  intro w hl hw
  have aa:∀ y∈l,wideP y:=fun y hy=>hl y (by simp [hy])
  have ab:=need_le (hl x (by simp)) 32 w hw
  obtain ⟨h1,h2⟩:=ih (needFrom x 32 w) aa ab
  have ad:=need_ge x 32 w
  refine ⟨fun y hy => ?_,Nat.le_trans ad h2⟩
  rcases zJ.1 hy with rfl | hy
  ·rcases need_fits (hl y (by simp)) 32 w hw (by omega) with h3 | h3
   ·exact .inl h3
   ·right
    have ac:(List.foldl (fun w x=>needFrom x 32 w) (needFrom y 32 w) l)<=31:=by
     have:∀ (l:List Int) (w:Nat),(∀ x∈l,wideP x)->w<=31->l.foldl (fun w x=>needFrom x 32 w) w<=31:=by
      intro l
      induction l with
      | nil=>intro w _ hw;exact hw
      | cons x l ih=>intro w hl hw;exact ih _ (fun y hy=>hl y (by simp [hy])) (need_le (hl x (by simp)) 32 w hw)
     exact this l _ aa ab
    exact fits_mono h3 h2 ac
  ·exact h1 y hy
def modN (x:Int) (n:Nat):Nat:=(x%2^n).toNat
theorem modN_lt (x:Int) (n:Nat):modN x n<2^n:=by
 have h0:=Int.emod_nonneg x (show (2:Int)^n≠0 by have:=two_pow_pos' n;omega)
 have h1:=Int.emod_lt_of_pos x (two_pow_pos' n)
 unfold modN
 have:((x%2^n).toNat:Int)<((2^n:Nat):Int):=by
  rw [Int.toNat_of_nonneg h0]
  simpa using h1
 omega
theorem modN_cast (x:Int) (n:Nat):((modN x n:Nat):Int)=x%2^n:=by
 unfold modN
 exact Int.toNat_of_nonneg (Int.emod_nonneg x (by have:=two_pow_pos' n;omega))
def sizesL (o n warm:Nat):List Nat:=if n / 2^o*2^o=n/\warm<=n / 2^o then (n / 2^o-warm)::List.replicate (2^o-1) (n / 2^o) else []
theorem sizesL_zero {n warm:Nat} (h:warm<=n):sizesL 0 n warm=[n-warm]:=by
 unfold sizesL
 simp [h]
theorem sizesL_len {o n warm:Nat} (h:sizesL o n warm≠[]):(sizesL o n warm).length=2^o:=by
 unfold sizesL at *
 split
 ·have:=Nat.two_pow_pos o
  simp
  omega
 ·rename_i hc
  rw [if_neg hc] at h
  exact absurd rfl h
theorem sizesL_sum {o n warm:Nat} (h:sizesL o n warm≠[]):(sizesL o n warm).sum=n-warm:=by
 unfold sizesL at *
 split
 ·rename_i hc
  obtain ⟨h1,h2⟩:=hc
  have hp:=Nat.two_pow_pos o
  have e:(2^o-1)*(n / 2^o)+n / 2^o=n:=by
   rw [<-Nat.succ_mul]
   have:Nat.succ (2^o-1)=2^o:=by omega
   rw [this,zY]
   exact h1
  simp
  omega
 ·rename_i hc
  rw [if_neg hc] at h
  exact absurd rfl h
def splitL {α:Type}:List Nat->List α->List (List α)
 | [],_=>[]
 | s::ss,l=>l.take s::splitL ss (l.drop s)
theorem splitL_len {α:Type}:∀ (ss:List Nat) (l:List α),(splitL ss l).length=ss.length
 | [],_=>rfl
 | s::ss,l=>by rw [splitL,zK,splitL_len ss,zK]
theorem splitL_flat {α:Type}:∀ (ss:List Nat) (l:List α),ss.sum=l.length->(splitL ss l).flatten=l
 | [],l,h=>by
  have:l=[]:=List.eq_nil_of_length_eq_zero (by simpa using h.symm)
  subst this
  rfl
 | s::ss,l,h=>by
  rw [splitL,List.flatten_cons,splitL_flat ss,List.take_append_drop]
  rw [zO]
  simp at h
  omega
def startOf (ss:List Nat) (i:Nat):Nat:=(ss.take i).sum
theorem splitL_get {α:Type}:∀ (ss:List Nat) (l:List α) (i:Nat) (h:i<ss.length),(splitL ss l)[i]?=some ((l.drop (startOf ss i)).take ss[i])
 | s::ss,l,0,_=>by simp [splitL,startOf]
 | s::ss,l,i+1,h=>by
  rw [splitL,List.getElem?_cons_succ,splitL_get ss (l.drop s) i (by simpa using h)]
  simp [startOf,List.drop_drop]
theorem startOf_succ (ss:List Nat) (i:Nat) (h:i<ss.length):startOf ss (i+1)=startOf ss i+ss[i]:=by
 unfold startOf
 rw [List.take_succ_eq_append_getElem h,List.sum_append]
 simp only [List.sum_cons,List.sum_nil,Nat.add_zero]
theorem startOf_le (ss:List Nat) (i:Nat):startOf ss i<=ss.sum:=by
 unfold startOf
 have:ss.sum=(ss.take i).sum+(ss.drop i).sum:=by rw [<-List.sum_append,List.take_append_drop]
 omega
theorem startOf_fit (ss:List Nat) (i:Nat) (h:i<ss.length):startOf ss i+ss[i]<=ss.sum:=by
 rw [<-startOf_succ ss i h]
 exact startOf_le ss (i+1)
def rawCost (part:List Int):Nat:=5+widthL part*part.length
def partCost (k:Nat) (part:List Int):Nat:=5+if k=31 then rawCost part else rsum k part
def partBits (k:Nat) (part:List Int):List Nat :=
 bitsOf k 5++if k=31 then bitsOf (widthL part) 5++part.flatMap (fun x=>bitsOf (modN x (widthL part)) (widthL part)) else rbitsAll k part
theorem flat_bits_len (n:Nat) (f:Int->Nat) (l:List Int):(l.flatMap (fun x=>bitsOf (f x) n)).length=n*l.length:=by
 induction l with
 | nil=>simp
 | cons x l ih=>rw [List.flatMap_cons,zC,bitsOf_len,ih,zK,Nat.mul_add];omega
theorem partBits_len (k:Nat) (part:List Int):(partBits k part).length=partCost k part:=by
 unfold partBits partCost rawCost
 split
 ·rw [zC,zC,bitsOf_len,bitsOf_len,flat_bits_len]
 ·rw [zC,bitsOf_len,rbitsAll_len]
def costP (ks:List Nat) (ps:List (List Int)):Nat:=4+((ks.zip ps).map (fun p=>partCost p.1 p.2)).sum
def bitsP (o:Nat) (ks:List Nat) (ps:List (List Int)):List Nat:=bitsOf o 4++(ks.zip ps).flatMap (fun p=>partBits p.1 p.2)
theorem bitsP_len (o:Nat) (ks:List Nat) (ps:List (List Int)):(bitsP o ks ps).length=costP ks ps:=by
 unfold bitsP costP
 rw [zC,bitsOf_len]
 congr 1
 generalize ks.zip ps=z
 induction z with
 | nil=>rfl
 | cons p z ih=>rw [List.flatMap_cons,zC,partBits_len,ih,List.map_cons,List.sum_cons]
def chooseK (part:List Int):Nat:=if rawCost part<rsum (rbest part) part then 31 else rbest part
theorem chooseK_ok (part:List Int):chooseK part<=25\/chooseK part=31:=by
 have:=rbest_le part
 unfold chooseK
 split<;>omega
def planOf (o n warm:Nat) (l:List Int):List Nat:=(splitL (sizesL o n warm) l).map chooseK
structure Plan where
 order:Nat
 ks:List Nat
 cost:Nat
def planStep (n warm:Nat) (l:List Int) (s:Plan) (o:Nat):Plan :=
 if sizesL o n warm=[] then s
 else if s.cost=0\/costP (planOf o n warm l) (splitL (sizesL o n warm) l)<s.cost then ⟨o,planOf o n warm l,costP (planOf o n warm l) (splitL (sizesL o n warm) l)⟩ else s
def plans (n warm:Nat) (l:List Int) (m:Nat):Plan:=(List.range m).foldl (planStep n warm l) ⟨0,[],0⟩
def bestPlan (n warm most:Nat) (l:List Int):Plan:=plans n warm l (min most 8+1)
theorem plans_succ (n warm:Nat) (l:List Int) (m:Nat):plans n warm l (m+1)=planStep n warm l (plans n warm l m) m:=by
 simp [plans,List.range_succ]
def PlanOk (n warm:Nat) (l:List Int) (s:Plan):Prop:=sizesL s.order n warm≠[]/\s.ks=planOf s.order n warm l/\s.cost=costP s.ks (splitL (sizesL s.order n warm) l)
theorem costP_pos (ks:List Nat) (ps:List (List Int)):4<=costP ks ps:=by unfold costP;omega
theorem plans_ok {n warm:Nat} (h:warm<=n) (l:List Int):∀ m,PlanOk n warm l (plans n warm l (m+1))/\(plans n warm l (m+1)).order<=m
 | 0=>by
  have h0:=sizesL_zero h
  have hne:sizesL 0 n warm≠[]:=by rw [h0];simp
  have e0:plans n warm l 0=⟨0,[],0⟩:=rfl
  rw [plans_succ,e0,planStep,if_neg hne,if_pos (.inl rfl)]
  exact ⟨⟨hne,rfl,rfl⟩,zQ _⟩
 | m+1=>by
  obtain ⟨h1,h2⟩:=plans_ok h l m
  rw [plans_succ,planStep]
  split
  ·exact ⟨h1,by omega⟩
  ·rename_i hne
   split
   ·exact ⟨⟨hne,rfl,rfl⟩,zQ _⟩
   ·exact ⟨h1,by omega⟩
theorem bestPlan_ok {n warm most:Nat} (h:warm<=n) (l:List Int):PlanOk n warm l (bestPlan n warm most l)/\(bestPlan n warm most l).order<=8/\(bestPlan n warm most l).order<=most:=by
 obtain ⟨h1,h2⟩:=plans_ok h l (min most 8)
 exact ⟨h1,Nat.le_trans h2 (Nat.min_le_right _ _),Nat.le_trans h2 (Nat.min_le_left _ _)⟩
def pieces (s n:Nat):Nat->Nat->List (Nat × Nat)
 | 0,_=>[]
 | f+1,x=>if x<n then (x,min s (n-x))::pieces s n f (x+s) else []
theorem pieces_end {s n x:Nat} (f:Nat) (h:n<=x):pieces s n f x=[]:=by
 cases f
 ·rfl
 ·rw [pieces,if_neg (by omega)]
theorem pieces_step {s n x:Nat} (f:Nat) (h:x<n):pieces s n (f+1) x=(x,min s (n-x))::pieces s n f (x+s):=by
 rw [pieces,if_pos h]
theorem pieces_sum {s n:Nat} (hs:1<=s):∀ (f x:Nat),n<=x+f->((pieces s n f x).map (·.2)).sum=n-x
 | 0,x,h=>by simp [pieces];omega
 | f+1,x,h=>by
  by_cases hx:x<n
  ·rw [pieces_step f hx,List.map_cons,List.sum_cons,pieces_sum hs f (x+s) (by omega)]
   simp only
   omega
  ·rw [pieces_end _ (by omega)]
   simp
   omega
theorem pieces_ok {s n:Nat} (hs:1<=s):∀ (f x:Nat),∀ p∈pieces s n f x,1<=p.2/\p.2<=s/\p.1+p.2<=n
 | 0,x,p,hp=>by simp [pieces] at hp
 | f+1,x,p,hp=>by
  by_cases hx:x<n
  ·rw [pieces_step f hx] at hp
   rcases zJ.1 hp with rfl | hp
   ·simp only;omega
   ·exact pieces_ok hs f (x+s) p hp
  ·rw [pieces_end _ (by omega)] at hp
   simp at hp
theorem pieces_len (s n:Nat):∀ (f x:Nat),(pieces s n f x).length<=f
 | 0,x=>by simp [pieces]
 | f+1,x=>by
  by_cases hx:x<n
  ·rw [pieces_step f hx,zK]
   have:=pieces_len s n f (x+s)
   omega
  ·rw [pieces_end _ (by omega)]
   simp
structure Sq where
 x:Nat
 y:Nat
 w:Nat
 h:Nat
def gridRow (w s:Nat) (p:Nat × Nat):List Sq:=(pieces s w w 0).map fun q=>⟨q.1,p.1,q.2,p.2⟩
def gridL (w h s:Nat):List Sq:=(pieces s h h 0).flatMap (gridRow w s)
def area (l:List Sq):Nat:=(l.map fun q=>q.w*q.h).sum
theorem area_append (a b:List Sq):area (a++b)=area a+area b:=by simp [area]
theorem area_row {w s:Nat} (hs:1<=s) (p:Nat × Nat):area (gridRow w s p)=w*p.2:=by
 have h:=pieces_sum (n:=w) hs w 0 (by omega)
 have e:∀ l:List (Nat × Nat),(l.map fun q:Nat × Nat=>q.2*p.2).sum=(l.map (·.2)).sum*p.2:=by
  intro l
  induction l with
  | nil=>simp
  | cons a l ih=>simp only [List.map_cons,List.sum_cons,ih,Nat.add_mul]
 unfold area gridRow
 rw [List.map_map]
 show ((pieces s w w 0).map fun q=>q.2*p.2).sum=_
 rw [e,h]
 rfl
theorem area_grid {w h s:Nat} (hs:1<=s):area (gridL w h s)=w*h:=by
 have e:∀ l:List (Nat × Nat),area (l.flatMap (gridRow w s))=w*(l.map (·.2)).sum:=by
  intro l
  induction l with
  | nil=>simp [area]
  | cons a l ih=>rw [List.flatMap_cons,area_append,ih,area_row hs,List.map_cons,List.sum_cons,Nat.mul_add]
 unfold gridL
 rw [e,pieces_sum hs h 0 (by omega)]
 rfl
theorem grid_ok {w h s:Nat} (hs:1<=s):∀ q∈gridL w h s,1<=q.w/\q.w<=s/\1<=q.h/\q.h<=s:=by
 intro q hq
 obtain ⟨p,hp,hq⟩:=List.mem_flatMap.1 hq
 obtain ⟨r,hr,rfl⟩:=List.mem_map.1 hq
 have h1:=pieces_ok hs _ _ p hp
 have h2:=pieces_ok hs _ _ r hr
 exact ⟨h2.1,h2.2.1,h1.1,h1.2.1⟩
structure PicD where
 W:Nat
 H:Nat
 d:Nat
 P:List (List Int)
structure PicD.Ok (p:PicD):Prop where
 w0:1<=p.W
 w1:p.W<=64
 h0:1<=p.H
 h1:p.H<=64
 d0:1<=p.d
 d1:p.d<=16
 n0:1<=p.P.length
 n1:p.P.length<=4
 len:∀ l∈p.P,l.length=p.W*p.H
 smp:∀ l∈p.P,SmpOk p.d l
theorem PicD.Ok.area {p:PicD} (h:p.Ok):p.W*p.H<=4096:=zL h.w1 h.h1
theorem PicD.Ok.pos {p:PicD} (h:p.Ok):0<p.W*p.H:=Nat.mul_pos h.w0 h.h0
structure AlikeD (p q:PicD):Prop where
 W:p.W=q.W
 H:p.H=q.H
 d:p.d=q.d
 n:p.P.length=q.P.length
def partF (l:List Int) (W x y w h:Nat):List Int:=(List.range h).flatMap fun j=>(List.range w).map fun i=>l.getD ((y+j)*W+(x+i)) 0
theorem flat_len {α:Type} {w:Nat}:∀ (h:Nat) (f:Nat->List α),(∀ j,(f j).length=w)->((List.range h).flatMap f).length=h*w
 | 0,f,_=>by simp
 | h+1,f,hf=>by rw [List.range_succ,List.flatMap_append,zC,flat_len h f hf];simp [hf,Nat.succ_mul]
theorem flat_get {α:Type} {w:Nat}:∀ (h:Nat) (f:Nat->List α),(∀ j,(f j).length=w)->∀ j i,j<h->i<w->((List.range h).flatMap f)[j*w+i]?=(f j)[i]?
 | 0,f,_,j,i,hj,_=>by omega
 | h+1,f,hf,j,i,hj,hi=>by
  rw [List.range_succ,List.flatMap_append]
  have hl:=flat_len h f hf
  rcases zZ j h with h1 | h1
  ·have h2:j*w+i<h*w:=by
    have:=Nat.mul_le_mul_right w (show j+1<=h by omega)
    rw [Nat.succ_mul] at this
    omega
   rw [List.getElem?_append_left (by omega),flat_get h f hf j i h1 hi]
  ·obtain rfl:j=h:=by omega
   rw [zS (by omega),hl]
   simp
theorem partF_len (l:List Int) (W x y w h:Nat):(partF l W x y w h).length=h*w:=flat_len h _ (by simp)
theorem partF_get (l:List Int) (W x y:Nat) {w h j i:Nat} (hj:j<h) (hi:i<w):(partF l W x y w h)[j*w+i]?=some (l.getD ((y+j)*W+(x+i)) 0):=by
 unfold partF
 rw [flat_get h _ (by simp) j i hj hi]
 simp [hi]
theorem partF_succ (l:List Int) (W x y w h:Nat):partF l W x y w (h+1)=partF l W x y w h++(List.range w).map fun i=>l.getD ((y+h)*W+(x+i)) 0:=by
 unfold partF
 rw [List.range_succ,List.flatMap_append]
 simp
theorem getD_smp {d:Nat} {l:List Int} (h:SmpOk d l) (k:Nat):0<=l.getD k 0/\l.getD k 0<2^d:=by
 rw [zD]
 cases hx:l[k]? with
 | none=>exact ⟨Int.le_refl 0,two_pow_pos' d⟩
 | some x=>exact h x (List.mem_of_getElem? hx)
theorem partF_smp {d:Nat} {l:List Int} (hs:SmpOk d l) (W x y w h:Nat):SmpOk d (partF l W x y w h):=by
 intro v hv
 obtain ⟨j,_,hv⟩:=List.mem_flatMap.1 hv
 obtain ⟨i,_,rfl⟩:=List.mem_map.1 hv
 exact getD_smp hs _
theorem row_slice {l:List Int} {W H x Y w:Nat} (hl:l.length=W*H) (hx:x+w<=W) (hY:Y<H):((l.drop (Y*W+x)).take w)=(List.range w).map fun i=>l.getD (Y*W+(x+i)) 0:=by
 have h2:Y*W+W<=W*H:=by
  have:=Nat.mul_le_mul_right W (show Y+1<=H by omega)
  rw [Nat.succ_mul,zY H] at this
  exact this
 apply List.ext_getElem?
 intro i
 rcases zZ i w with hi | hi
 ·rw [List.getElem?_take,if_pos hi,List.getElem?_drop,zW,List.getElem?_range hi,Option.map_some,zD,<-Nat.add_assoc,zF (show Y*W+x+i<l.length by omega)]
  rfl
 ·rw [List.getElem?_take,if_neg (by omega),List.getElem?_eq_none (by simp;omega)]
def diffW (now old:List Int) (d:Nat):List Int:=List.zipWith (fun a b=>wrapI (a-b) d) now old
def undiffW (old df:List Int) (d:Nat):List Int:=List.zipWith (fun a b=>wrapI (a+b) d) old df
theorem diffW_len {now old:List Int} (h:now.length=old.length) (d:Nat):(diffW now old d).length=now.length:=by unfold diffW;rw [List.length_zipWith];omega
theorem diffW_smp (now old:List Int) (d:Nat):SmpOk d (diffW now old d):=by
 intro v hv
 unfold diffW at hv
 rw [List.zipWith_eq_zipWith_take_min] at hv
 obtain ⟨i,hi,rfl⟩:=List.getElem_of_mem hv
 rw [List.getElem_zipWith]
 exact ⟨wrapI_lo _ _,wrapI_hi _ _⟩
theorem undiff_diff {d:Nat}:∀ {now old:List Int},now.length=old.length->SmpOk d now->undiffW old (diffW now old d) d=now
 | [],[],_,_=>rfl
 | a::now,b::old,h,hs=>by
  have h1:=undiff_diff (d:=d) (now:=now) (old:=old) (by simpa using h) (fun x hx=>hs x (by simp [hx]))
  have h2:wrapI (b+wrapI (a-b) d) d=a:=by
   obtain ⟨h0,h1⟩:=hs a (by simp)
   rw [wrapI_add_wrap]
   have:b+(a-b)=a:=by omega
   rw [this]
   exact wrapI_in h0 h1
  unfold undiffW diffW at h1 ⊢
  rw [List.zipWith_cons_cons,List.zipWith_cons_cons,h1,h2]
 | [],b::old,h,_=>by simp at h
 | a::now,[],h,_=>by simp at h
def inSq (W k:Nat) (s:Sq):Bool:=decide (s.x<=k%W)&&decide (k%W<s.x+s.w)&&decide (s.y<=k / W)&&decide (k / W<s.y+s.h)
def mixF (q l:List Int) (W:Nat) (bs:List Sq):List Int:=(List.range l.length).map fun k=>if bs.any (inSq W k) then q.getD k 0 else l.getD k 0
theorem mixF_len (q l:List Int) (W:Nat) (bs:List Sq):(mixF q l W bs).length=l.length:=by simp [mixF]
theorem mixF_get {q l:List Int} {W:Nat} {bs:List Sq} {k:Nat} (hk:k<l.length):(mixF q l W bs)[k]?=some (if bs.any (inSq W k) then q.getD k 0 else l.getD k 0):=by
 unfold mixF
 rw [zW,List.getElem?_range hk]
 rfl
theorem mixF_nil (q l:List Int) (W:Nat):mixF q l W []=l:=by
 apply List.ext_getElem?
 intro k
 rcases zZ k l.length with hk | hk
 ·rw [mixF_get hk,zF hk]
  simp [hk]
 ·rw [List.getElem?_eq_none hk,List.getElem?_eq_none (by rw [mixF_len];exact hk)]
theorem mixF_flat (q l:List Int) (W:Nat) (bs:List Sq) (s:Sq) (h0:s.h=0):mixF q l W (bs++[s])=mixF q l W bs:=by
 unfold mixF
 congr 1
 funext k
 have e:(bs++[s]).any (inSq W k)=bs.any (inSq W k):=by
  rw [List.any_append]
  have h:inSq W k s=false:=by unfold inSq;rw [h0];simp<;>omega
  simp [h]
 rw [e]
theorem mixF_all {q l:List Int} {W:Nat} {bs:List Sq} (hq:q.length=l.length) (h:∀ k,k<l.length->bs.any (inSq W k)=true):mixF q l W bs=q:=by
 apply List.ext_getElem?
 intro k
 rcases zZ k l.length with hk | hk
 ·rw [mixF_get hk,if_pos (h k hk),zF (by omega),zD,zF (by omega)]
  rfl
 ·rw [List.getElem?_eq_none (by rw [mixF_len];exact hk),List.getElem?_eq_none (by omega)]
theorem mixF_row {q l:List Int} {W H:Nat} {bs:List Sq} {s:Sq} (hq:q.length=l.length) (hl:l.length=W*H) (hx:s.x+s.w<=W) (hy:s.y+s.h<H) :
  let m:=mixF q l W (bs++[s])
  let at_:=(s.y+s.h)*W+s.x
  m.take at_++((List.range s.w).map fun i=>q.getD ((s.y+s.h)*W+(s.x+i)) 0)++m.drop (at_+s.w)=mixF q l W (bs++[⟨s.x,s.y,s.w,s.h+1⟩]):=by
 intro m at_
 obtain ⟨Y,hY⟩:=zX (s.y+s.h)
 have ag:at_=Y*W+s.x:=by rw [hY]
 have h2:Y*W+W<=l.length:=by
  have:=Nat.mul_le_mul_right W (show Y+1<=H by omega)
  rw [Nat.succ_mul,zY H,<-hl] at this
  exact this
 have hm:m.length=l.length:=mixF_len _ _ _ _
 have ht:(m.take at_).length=at_:=by rw [zI,hm];omega
 rw [<-hY]
 have ae:∀ k,inSq W k ⟨s.x,s.y,s.w,s.h+1⟩=(inSq W k s||(decide (s.x<=k%W)&&decide (k%W<s.x+s.w)&&decide (k / W=Y))):=by
  intro k
  unfold inSq
  simp only
  rw [hY]
  by_cases h1:s.x<=k%W
  ·by_cases h3:k%W<s.x+s.w
   ·simp only [h1,h3,decide_true,Bool.true_and]
    by_cases h4:s.y<=k / W
    ·by_cases h5:k / W<s.y+s.h
     ·have h6:k / W<s.y+(s.h+1):=by omega
      simp [h4,h5,h6]
     ·by_cases h6:k / W=s.y+s.h
      ·simp [h6]<;>omega
      ·have h7:¬ k / W<s.y+(s.h+1):=by omega
       simp [h5,h6,h7]
    ·have h6:¬ k / W=s.y+s.h:=by omega
     simp [h4,h6]
   ·simp [h3]
  ·simp [h1]
 apply List.ext_getElem?
 intro k
 rcases zZ k l.length with hk | hk
 ·rw [mixF_get hk]
  have hW:0<W:=by
   rcases Nat.eq_zero_or_pos W with h | h
   ·rw [h] at hl;omega
   ·exact h
  have ad:=Nat.div_add_mod k W
  have ah:=Nat.mod_lt k hW
  rw [List.any_append,List.any_cons,List.any_nil,Bool.or_false,ae k]
  rcases zZ k at_ with h1 | h1
  ·rw [zH,List.getElem?_append_left (by omega),List.getElem?_take,if_pos h1,mixF_get hk,List.any_append,List.any_cons,List.any_nil,Bool.or_false]
   have hf:(decide (s.x<=k%W)&&decide (k%W<s.x+s.w)&&decide (k / W=Y))=false:=by
    rw [Bool.and_eq_false_iff]
    by_cases h6:k / W=Y
    ·left
     rw [Bool.and_eq_false_iff]
     left
     rw [decide_eq_false_iff_not]
     rw [h6,zY] at ad
     omega
    ·right;simp [h6]
   rw [hf,Bool.or_false]
  ·rcases zZ k (at_+s.w) with h3 | h3
   ·have aa:k=Y*W+(s.x+(k-at_)):=by omega
    have ab:k%W=s.x+(k-at_):=by
     rw [aa,Nat.add_comm,Nat.add_mul_mod_self_right,Nat.mod_eq_of_lt (by omega)]
     omega
    have ac:k / W=Y:=by
     rw [aa,Nat.add_comm,Nat.add_mul_div_right _ _ hW,Nat.div_eq_of_lt (by omega),Nat.zero_add]
    have af:(decide (s.x<=k%W)&&decide (k%W<s.x+s.w)&&decide (k / W=Y))=true:=by
     rw [ab,ac]
     simp
     omega
    rw [af,Bool.or_true,Bool.or_true,if_pos rfl,zH,zS (by omega),ht,List.getElem?_append_left (by simp;omega),zW,List.getElem?_range (by omega),Option.map_some,<-aa]
   ·rw [zH,zS (by omega),ht,zS (by simp;omega),zE,List.length_range,List.getElem?_drop]
    rw [show at_+s.w+(k-at_-s.w)=k by omega,mixF_get hk,List.any_append,List.any_cons,List.any_nil,Bool.or_false]
    have hf:(decide (s.x<=k%W)&&decide (k%W<s.x+s.w)&&decide (k / W=Y))=false:=by
     rw [Bool.and_eq_false_iff]
     by_cases h6:k / W=Y
     ·left
      rw [Bool.and_eq_false_iff]
      right
      rw [decide_eq_false_iff_not]
      rw [h6,zY] at ad
      omega
     ·right;simp [h6]
    rw [hf,Bool.or_false]
 ·rw [List.getElem?_eq_none (l:=mixF _ _ _ _) (by rw [mixF_len];exact hk),List.getElem?_eq_none]
  rw [zC,zC,ht,zE,List.length_range,zO,hm]
  omega
theorem pieces_cover {s n:Nat} (hs:1<=s):∀ (f x k:Nat),n<=x+f->x<=k->k<n->∃ p∈pieces s n f x,p.1<=k/\k<p.1+p.2
 | 0,x,k,h,h1,h2=>by omega
 | f+1,x,k,h,h1,h2=>by
  have hx:x<n:=by omega
  rw [pieces_step f hx]
  by_cases hk:k<x+min s (n-x)
  ·exact ⟨_,List.mem_cons_self ..,h1,hk⟩
  ·obtain ⟨p,hp,h3⟩:=pieces_cover hs f (x+s) k (by omega) (by omega) h2
   exact ⟨p,List.mem_cons_of_mem _ hp,h3⟩
theorem grid_cover {W H s k:Nat} (hs:1<=s) (hk:k<W*H):(gridL W H s).any (inSq W k)=true:=by
 have hW:0<W:=by
  rcases Nat.eq_zero_or_pos W with h | h
  ·rw [h] at hk;omega
  ·exact h
 obtain ⟨p,hp,ab,ac⟩:=pieces_cover (s:=s) (n:=H) hs H 0 (k / W) (by omega) (Nat.zero_le _) (Nat.div_lt_of_lt_mul hk)
 obtain ⟨q,hq,ad,aa⟩:=pieces_cover (s:=s) (n:=W) hs W 0 (k%W) (by omega) (Nat.zero_le _) (Nat.mod_lt _ hW)
 rw [List.any_eq_true]
 refine ⟨⟨q.1,p.1,q.2,p.2⟩,List.mem_flatMap.2 ⟨p,hp,List.mem_map.2 ⟨q,hq,rfl⟩⟩,?_⟩
 unfold inSq
 simp [ab,ac,ad,aa]
theorem grid_in {W H s:Nat} (hs:1<=s):∀ q∈gridL W H s,q.x+q.w<=W/\q.y+q.h<=H:=by
 intro q hq
 obtain ⟨p,hp,hq⟩:=List.mem_flatMap.1 hq
 obtain ⟨r,hr,rfl⟩:=List.mem_map.1 hq
 have h1:=pieces_ok hs _ _ p hp
 have h2:=pieces_ok hs _ _ r hr
 exact ⟨h2.2.2,h1.2.2⟩
theorem slice_mid {P:Program} {t e:TypeId} (ht:P.underlying t=some (.slice e)) (hs:∀ w,(sizeOf e).run P w=.ok 1 w) (A:Option Addr) (n c lo m hi:Nat) (hhi:hi=lo+m) (h:hi<=n) (hnc:n<=c) :
  ∃ A',(∀ w,(Instr.slice t (.slice A n c) (some (.int .i64 lo)) (some (.int .i64 hi)) none).run P w=.ok (.slice A' m (c-lo)) w) /\
   (∀ ad,A'=some ad->∃ ad0,A=some ad0/\ad.block=ad0.block) /\
   ∀ (α:Type) (f:α->Value) (w:World) (l:List α),l.length=n->Cells f w A l->Cells f w A' ((l.drop lo).take m):=by
 have he:=elem_of ht
 subst hhi
 refine ⟨if c=lo then A else A.map (·.add (lo*1)),fun w => ?_,?_,?_⟩
 ·rw [run_slice_lh (P:=P) (w:=w) t A n c (by rw [he];exact ht) .i64 .i64 (lo:Int) ((lo+m:Nat):Int) (by omega) (by omega) (by omega),he,hs]
  simp [sliced]
  omega
 ·intro ad aa
  split at aa
  ·exact ⟨ad,aa,rfl⟩
  ·cases A with
   | none=>simp at aa
   | some ad0 =>
    simp at aa
    subst aa
    refine ⟨ad0,rfl,?_⟩
    unfold Addr.add
    split<;>rfl
 ·intro α f w l hl hc
  refine ⟨fun h0 => ?_⟩
  rw [zI,zO] at h0
  obtain ⟨b,o,rfl,hb,ab⟩:=hc.ex (by omega)
  rw [if_neg (by omega)]
  refine ⟨b,o+lo,?_,hb,fun i a ha => ?_⟩
  ·simp only [Option.map_some,Addr.add,Nat.mul_one]
   split
   ·rename_i h;subst h;rfl
   ·rfl
  ·rw [List.getElem?_take] at ha
   split at ha
   ·rw [List.getElem?_drop] at ha
    have:=ab (lo+i) a ha
    rwa [<-Nat.add_assoc] at this
   ·cases ha
theorem nbr_fill {l:List Int} {W x y m:Nat} (hx:x<W) (hm:y*W+x=m) (hl:m<=l.length):nbr (fillL (l.take m) l.length) W x y=nbr l W x y:=by
 refine nbr_congr hx fun i hi => ?_
 rw [hm] at hi
 rw [zD,zD]
 unfold fillL
 rw [List.getElem?_append_left (by rw [zI];omega),List.getElem?_take_of_lt hi]
theorem back_one {l:List Int} {d:Nat} (hs:SmpOk d l) (W kind y x:Nat):wrapI (restAt l W d kind y x+guessI kind (nbr l W x y) d) d=l.getD (y*W+x) 0:=by
 obtain ⟨h0,h1⟩:=getD_ok hs (y*W+x)
 unfold restAt
 generalize guessI kind (nbr l W x y) d=g
 rw [Int.add_comm,wrapI_add_wrap,show g+(l.getD (y*W+x) 0-g)=l.getD (y*W+x) 0 by omega]
 exact wrapI_in h0 h1
theorem fill_all (l:List Int):fillL (l.take l.length) l.length=l:=by
 rw [zN]
 simp [fillL]
theorem flatten_get {α:Type} {W x:Nat} (hx:x<W):∀ (L:List (List α)) (y:Nat),(∀ a∈L,a.length=W)->y<L.length->L.flatten[y*W+x]?=(L[y]?).bind (·[x]?)
 | [],y,_,h=>by simp at h
 | a::L,0,h,_=>by
  have ha:=h a (by simp)
  rw [List.flatten_cons,Nat.zero_mul,Nat.zero_add,List.getElem?_append_left (by omega)]
  simp
 | a::L,y+1,h,hy=>by
  have ha:=h a (by simp)
  rw [List.flatten_cons,zS (by rw [ha,Nat.succ_mul];omega),ha,show (y+1)*W+x-W=y*W+x by rw [Nat.succ_mul];omega,flatten_get hx L y (fun b hb=>h b (by simp [hb])) (by simpa using hy)]
  simp
theorem foreL_at (l:List Int) {W H:Nat} (d:Nat) (ks:List Nat) {x y:Nat} (hy:y<H) (hx:x<W):(foreL l W H d ks).getD (y*W+x) 0=restAt l W d (ks.getD y 0) y x:=by
 have h:=flatten_get hx ((List.range H).map fun y=>rowL l W y d (ks.getD y 0)) y (fun a ha=>by
  obtain ⟨z,_,rfl⟩:=List.mem_map.1 ha
  exact rowL_len _ _ _ _ _) (by simpa using hy)
 unfold foreL
 rw [zD,List.flatMap_def,h,zW,List.getElem?_range hy]
 simp [rowL,hx]
theorem fore_back (l:List Int) (W H d:Nat) (ks:List Nat):((foreL l W H d ks).map fun v=>foldI v d).map (fun v=>wrapI v d)=foreL l W H d ks:=by
 rw [List.map_map]
 refine (List.map_congr_left fun v hv => ?_).trans (List.map_id _)
 obtain ⟨h0,h1⟩:=foreL_ok l W H d ks v hv
 show wrapI (foldI v d) d=v
 rw [foldI_wrap,wrapI_in h0 h1]
def symsTo (lens:List Nat) (k n:Nat):List Nat:=((rankL lens).take k).filter fun s=>lenAt lens s==n
def firstTo (lens:List Nat) (k n:Nat):Nat:=match symsTo lens k n with | []=>0 | s::_=>wordOf lens s
def longTo (lens:List Nat) (k:Nat):Nat:=match k with | 0=>0 | k+1=>lenAt lens ((rankL lens).getD k 0)
theorem symsTo_succ {lens:List Nat} {k:Nat} (h:k<(rankL lens).length) (n:Nat):symsTo lens (k+1) n=symsTo lens k n++(if lenAt lens ((rankL lens).getD k 0)=n then [(rankL lens).getD k 0] else []):=by
 unfold symsTo
 rw [<-List.take_append_getElem h,List.filter_append,List.filter_cons,List.filter_nil,zD,zF h]
 congr 1
 simp only [Option.getD_some,beq_iff_eq]
theorem symsTo_other {lens:List Nat} {k n:Nat} (h:k<(rankL lens).length) (hn:lenAt lens ((rankL lens).getD k 0)≠n):symsTo lens (k+1) n=symsTo lens k n:=by
 rw [symsTo_succ h,if_neg hn,List.append_nil]
theorem symsTo_same {lens:List Nat} {k n:Nat} (h:k<(rankL lens).length) (hn:lenAt lens ((rankL lens).getD k 0)=n):symsTo lens (k+1) n=symsTo lens k n++[(rankL lens).getD k 0]:=by
 rw [symsTo_succ h,if_pos hn]
theorem firstTo_other {lens:List Nat} {k n:Nat} (h:k<(rankL lens).length) (hn:lenAt lens ((rankL lens).getD k 0)≠n):firstTo lens (k+1) n=firstTo lens k n:=by
 unfold firstTo
 rw [symsTo_other h hn]
theorem firstTo_new {lens:List Nat} {k n:Nat} (h:k<(rankL lens).length) (hn:lenAt lens ((rankL lens).getD k 0)=n) (he:symsTo lens k n=[]):firstTo lens (k+1) n=wordOf lens ((rankL lens).getD k 0):=by
 unfold firstTo
 rw [symsTo_same h hn,he]
 rfl
theorem firstTo_old {lens:List Nat} {k n:Nat} (h:k<(rankL lens).length) (hn:lenAt lens ((rankL lens).getD k 0)=n) (he:symsTo lens k n≠[]):firstTo lens (k+1) n=firstTo lens k n:=by
 unfold firstTo
 rw [symsTo_same h hn]
 cases hq:symsTo lens k n with
 | nil=>exact absurd hq he
 | cons a l=>rfl
theorem symsTo_len (lens:List Nat) (k n:Nat):(symsTo lens k n).length<=lens.length:=by
 unfold symsTo
 have h1:=List.length_filter_le (fun s=>lenAt lens s==n) ((rankL lens).take k)
 have h2:=rank_len lens 24
 unfold rankL at *
 rw [zI] at h1
 omega
def fullK (lens:List Nat):Nat:=(rankL lens).length
theorem rankTo_split (lens:List Nat) (n:Nat):∀ d,∃ X,rankTo lens (n+d)=rankTo lens n++X/\∀ s∈X,n<lenAt lens s
 | 0=>⟨[],by simp,by simp⟩
 | d+1=>by
  obtain ⟨X,h1,h2⟩:=rankTo_split lens n d
  refine ⟨X++blockTo lens (n+d+1) lens.length,by rw [show n+(d+1)=n+d+1 by omega,rankTo_succ,h1,zH],fun s hs => ?_⟩
  rcases zP.1 hs with h | h
  ·exact h2 s h
  ·have:=(mem_block.1 h).2;omega
theorem rank_split (lens:List Nat) {n:Nat} (h0:0<n) (hn:n<=24):∃ X,rankL lens=rankTo lens (n-1)++(blockTo lens n lens.length++X)/\∀ s∈X,n<lenAt lens s:=by
 obtain ⟨X,h1,h2⟩:=rankTo_split lens n (24-n)
 refine ⟨X,?_,h2⟩
 have e:rankTo lens n=rankTo lens (n-1)++blockTo lens n lens.length:=by
  have:=rankTo_succ lens (n-1)
  rwa [show n-1+1=n by omega] at this
 rw [show n+(24-n)=24 by omega,e,zH] at h1
 exact h1
theorem syms_full (lens:List Nat) {n:Nat} (h0:0<n) (hn:n<=24):symsTo lens (fullK lens) n=blockTo lens n lens.length:=by
 obtain ⟨X,h1,h2⟩:=rank_split lens h0 hn
 unfold symsTo fullK
 rw [zN,h1,List.filter_append,List.filter_append]
 have e1:(rankTo lens (n-1)).filter (fun s=>lenAt lens s==n)=[]:=by
  rw [List.filter_eq_nil_iff]
  intro s hs h
  have h3:=mem_rankTo.1 hs
  have h4:lenAt lens s=n:=by simpa using h
  omega
 have e2:X.filter (fun s=>lenAt lens s==n)=[]:=by
  rw [List.filter_eq_nil_iff]
  intro s hs h
  have h3:=h2 s hs
  have h4:lenAt lens s=n:=by simpa using h
  omega
 have e3:(blockTo lens n lens.length).filter (fun s=>lenAt lens s==n)=blockTo lens n lens.length:=by
  rw [List.filter_eq_self]
  intro s hs
  simpa using (mem_block.1 hs).2
 rw [e1,e2,e3]
 simp
theorem rank_at (lens:List Nat) {n i:Nat} (h0:0<n) (hn:n<=24) (hi:i<(blockTo lens n lens.length).length) :
  (rankTo lens (n-1)).length+i<(rankL lens).length/\(rankL lens).getD ((rankTo lens (n-1)).length+i) 0=(blockTo lens n lens.length).getD i 0:=by
 obtain ⟨X,h1,h2⟩:=rank_split lens h0 hn
 rw [h1]
 refine ⟨by simp;omega,?_⟩
 rw [zD,zS (by omega),show (rankTo lens (n-1)).length+i-(rankTo lens (n-1)).length=i by omega,List.getElem?_append_left hi,<-zD]
theorem block_at {lens:List Nat} {n i:Nat} (hi:i<(blockTo lens n lens.length).length):lenAt lens ((blockTo lens n lens.length).getD i 0)=n:=by
 have hm:(blockTo lens n lens.length).getD i 0∈blockTo lens n lens.length:=by
  rw [zD,zF hi];exact zG hi
 exact (mem_block.1 hm).2
theorem room_block (lens:List Nat) {n:Nat} (h0:0<n) (hn:n<=24):∀ i,i<=(blockTo lens n lens.length).length ->
  roomTo lens ((rankTo lens (n-1)).length+i)=roomTo lens (rankTo lens (n-1)).length+i*2^(24-n)
 | 0,_=>by simp
 | i+1,hi=>by
  obtain ⟨h1,h2⟩:=rank_at lens h0 hn (i:=i) (by omega)
  have h3:=roomTo_succ lens h1
  rw [h2,block_at (by omega),room_block lens h0 hn i (by omega)] at h3
  rw [show (rankTo lens (n-1)).length+(i+1)=(rankTo lens (n-1)).length+i+1 by omega,h3,Nat.add_mul,Nat.one_mul,Nat.add_assoc]
theorem first_full (lens:List Nat) {n:Nat} (h0:0<n) (hn:n<=24) (hb:0<(blockTo lens n lens.length).length) :
  firstTo lens (fullK lens) n=roomTo lens (rankTo lens (n-1)).length / 2^(24-n):=by
 obtain ⟨h1,h2⟩:=rank_at lens h0 hn hb
 have h3:=wordOf_rank h1
 rw [h2] at h3
 unfold firstTo
 rw [syms_full lens h0 hn]
 unfold wordAt at h3
 rw [h2,block_at hb] at h3
 cases hq:blockTo lens n lens.length with
 | nil=>rw [hq] at hb;simp at hb
 | cons a l =>
  rw [hq] at h3
  simpa using h3
theorem read_pass {lens:List Nat} (hle:∀ x∈lens,x<=24) {s n:Nat} (hs:0<lenAt lens s) (h0:0<n) (hn:n<lenAt lens s) :
  wordOf lens s / 2^(lenAt lens s-n)<firstTo lens (fullK lens) n\/firstTo lens (fullK lens) n+(symsTo lens (fullK lens) n).length<=wordOf lens s / 2^(lenAt lens s-n):=by
 obtain ⟨j,hj,rfl⟩:=rank_of hle hs
 obtain ⟨hp,hL,-⟩:=rank_lenAt hj
 have aa:n<=24:=by omega
 rw [syms_full lens h0 aa]
 rcases Nat.eq_zero_or_pos (blockTo lens n lens.length).length with hb | hb
 ·right
  have he:=List.eq_nil_of_length_eq_zero hb
  have:firstTo lens (fullK lens) n=0:=by unfold firstTo;rw [syms_full lens h0 aa,he]
  rw [this,hb];exact Nat.zero_le _
 ·right
  rw [wordOf_rank hj,first_full lens h0 aa hb]
  unfold wordAt
  generalize hLL:lenAt lens ((rankL lens).getD j 0)=L at *
  rw [Nat.div_div_eq_div_mul,<-Nat.pow_add,show 24-L+(L-n)=24-n by omega]
  have ab:(rankTo lens (n-1)).length+(blockTo lens n lens.length).length<=j:=by
   rcases zZ j ((rankTo lens (n-1)).length+(blockTo lens n lens.length).length) with h | h
   ·exfalso
    have h1:=rank_at lens h0 aa (i:=(blockTo lens n lens.length).length-1) (by omega)
    have h2:=rank_le (lens:=lens) (j:=j) (k:=(rankTo lens (n-1)).length+((blockTo lens n lens.length).length-1)) (by omega) h1.1
    rw [h1.2,block_at (by omega),hLL] at h2
    omega
   ·exact h
  have h3:=room_mono lens ab
  rw [room_block lens h0 aa _ (zQ _)] at h3
  have h4:=Nat.div_le_div_right (c:=2^(24-n)) h3
  rwa [Nat.add_mul_div_right _ _ (Nat.two_pow_pos _)] at h4
theorem read_hit {lens:List Nat} (hle:∀ x∈lens,x<=24) {s:Nat} (hs:0<lenAt lens s) :
  firstTo lens (fullK lens) (lenAt lens s)<=wordOf lens s/\wordOf lens s-firstTo lens (fullK lens) (lenAt lens s)<(symsTo lens (fullK lens) (lenAt lens s)).length /\
   (symsTo lens (fullK lens) (lenAt lens s)).getD (wordOf lens s-firstTo lens (fullK lens) (lenAt lens s)) 0=s:=by
 obtain ⟨j,hj,ab⟩:=rank_of hle hs
 obtain ⟨hp,hL,hN⟩:=rank_lenAt hj
 rw [ab] at hp hL hN
 generalize hLL:lenAt lens s=L at *
 have hm:s∈blockTo lens L lens.length:=mem_block.2 ⟨hN,hLL⟩
 obtain ⟨i,hi,he⟩:=List.getElem_of_mem hm
 have aa:(blockTo lens L lens.length).getD i 0=s:=by rw [zD,zF hi];exact he
 obtain ⟨h1,h2⟩:=rank_at lens hp hL hi
 have h3:=wordOf_rank h1
 rw [h2,aa] at h3
 unfold wordAt at h3
 rw [h2,aa,hLL,room_block lens hp hL _ (by omega),Nat.add_mul_div_right _ _ (Nat.two_pow_pos _)] at h3
 rw [syms_full lens hp hL,first_full lens hp hL (by omega),h3]
 refine ⟨by omega,by omega,?_⟩
 rw [show roomTo lens (rankTo lens (L-1)).length / 2^(24-L)+i-roomTo lens (rankTo lens (L-1)).length / 2^(24-L)=i by omega]
 exact aa
theorem long_full {lens:List Nat} (hle:∀ x∈lens,x<=24) {s:Nat} (hs:0<lenAt lens s):lenAt lens s<=longTo lens (fullK lens)/\longTo lens (fullK lens)<=24:=by
 obtain ⟨j,hj,rfl⟩:=rank_of hle hs
 unfold fullK
 obtain ⟨k,hk⟩:∃ k,(rankL lens).length=k+1:=⟨(rankL lens).length-1,by omega⟩
 rw [hk]
 exact ⟨rank_le (by omega) (by omega),(rank_lenAt (by omega)).2.1⟩
def crcStep (s:Nat):Nat:=if s%2=1 then (s / 2) ^^^ 3988292384 else s / 2
def crcSteps:Nat->Nat->Nat
 | 0,s=>s
 | n+1,s=>crcSteps n (crcStep s)
def crcByte (s c:Nat):Nat:=crcSteps 8 (s ^^^ c)
def crcGo (s:Nat) (ds:List Nat):Nat:=ds.foldl crcByte s
def crcN (ds:List Nat):Nat:=crcGo 4294967295 ds ^^^ 4294967295
theorem crcStep_lt {s:Nat} (h:s<4294967296):crcStep s<4294967296:=by
 unfold crcStep
 split
 ·exact Nat.xor_lt_two_pow (n:=32) (by omega) (by decide)
 ·omega
theorem crcSteps_lt:∀ (n:Nat) {s:Nat},s<4294967296->crcSteps n s<4294967296
 | 0,s,h=>h
 | n+1,s,h=>crcSteps_lt n (crcStep_lt h)
theorem crcByte_lt {s c:Nat} (h:s<4294967296) (hc:c<256):crcByte s c<4294967296 :=
 crcSteps_lt 8 (Nat.xor_lt_two_pow (n:=32) h (by omega))
theorem crcGo_lt:∀ (ds:List Nat) {s:Nat},s<4294967296->(∀ d∈ds,d<256)->crcGo s ds<4294967296
 | [],s,h,_=>h
 | d::ds,s,h,hd=>crcGo_lt ds (crcByte_lt h (hd d (by simp))) (fun x hx=>hd x (by simp [hx]))
theorem crcN_lt {ds:List Nat} (hd:∀ d∈ds,d<256):crcN ds<4294967296:=Nat.xor_lt_two_pow (n:=32) (crcGo_lt ds (by decide) hd) (by decide)
theorem xor_inj {a b c:Nat} (h:a ^^^ c=b ^^^ c):a=b:=by
 have h1:(a ^^^ c) ^^^ c=(b ^^^ c) ^^^ c:=by rw [h]
 simpa [Nat.xor_assoc] using h1
theorem top_bit {x:Nat} (h:x<2147483648):2147483648<=x ^^^ 3988292384:=by
 rcases zZ (x ^^^ 3988292384) 2147483648 with h1 | h1
 ·exfalso
  have h2:(x ^^^ 3988292384) ^^^ x<2^31:=Nat.xor_lt_two_pow (by omega) (by omega)
  rw [Nat.xor_comm x,Nat.xor_assoc,Nat.xor_self,Nat.xor_zero] at h2
  omega
 ·exact h1
theorem crcStep_inj {s t:Nat} (hs:s<4294967296) (ht:t<4294967296) (h:crcStep s=crcStep t):s=t:=by
 unfold crcStep at h
 have a1:=top_bit (x:=s / 2) (by omega)
 have a2:=top_bit (x:=t / 2) (by omega)
 by_cases h1:s%2=1<;>by_cases h2:t%2=1
 ·rw [if_pos h1,if_pos h2] at h
  have:=xor_inj h
  omega
 ·rw [if_pos h1,if_neg h2] at h
  omega
 ·rw [if_neg h1,if_pos h2] at h
  omega
 ·rw [if_neg h1,if_neg h2] at h
  omega
theorem crcSteps_inj:∀ (n:Nat) {s t:Nat},s<4294967296->t<4294967296->crcSteps n s=crcSteps n t->s=t
 | 0,s,t,_,_,h=>h
 | n+1,s,t,hs,ht,h=>crcStep_inj hs ht (crcSteps_inj n (crcStep_lt hs) (crcStep_lt ht) h)
theorem crcGo_append (s:Nat) (a b:List Nat):crcGo s (a++b)=crcGo (crcGo s a) b:=List.foldl_append
theorem crcStep_xor (a b:Nat):crcStep (a ^^^ b)=crcStep a ^^^ crcStep b:=by
 have hm:(a ^^^ b)%2=(a%2+b%2)%2:=by
  have e:∀ x:Nat,x%2=(x.testBit 0).toNat:=fun x=>by rw [Nat.testBit_zero];rcases Nat.mod_two_eq_zero_or_one x with h | h<;>simp [h]
  rw [e,e a,e b,Nat.testBit_xor]
  cases a.testBit 0<;>cases b.testBit 0<;>rfl
 have hd:(a ^^^ b) / 2=a / 2 ^^^ b / 2:=Nat.xor_div_two
 unfold crcStep
 rw [hd]
 by_cases h1:a%2=1<;>by_cases h2:b%2=1
 ·rw [if_neg (by omega),if_pos h1,if_pos h2,Nat.xor_assoc,Nat.xor_comm 3988292384,Nat.xor_assoc,Nat.xor_self,Nat.xor_zero]
 ·rw [if_pos (by omega),if_pos h1,if_neg h2,Nat.xor_assoc,Nat.xor_assoc,Nat.xor_comm 3988292384]
 ·rw [if_pos (by omega),if_neg h1,if_pos h2,Nat.xor_assoc]
 ·rw [if_neg (by omega),if_neg h1,if_neg h2]
theorem crcSteps_xor:∀ (n a b:Nat),crcSteps n (a ^^^ b)=crcSteps n a ^^^ crcSteps n b
 | 0,a,b=>rfl
 | n+1,a,b=>by
  unfold crcSteps
  rw [crcStep_xor,crcSteps_xor n]
theorem crcSteps_add:∀ (m n s:Nat),crcSteps (m+n) s=crcSteps n (crcSteps m s)
 | 0,n,s=>by rw [Nat.zero_add];rfl
 | m+1,n,s=>by
  rw [show m+1+n=(m+n)+1 by omega]
  show crcSteps (m+n) (crcStep s)=crcSteps n (crcSteps m (crcStep s))
  exact crcSteps_add m n _
theorem crcStep_double (c:Nat):crcStep (2*c)=c:=by
 unfold crcStep
 rw [if_neg (by omega)]
 omega
theorem crcSteps_shift:∀ (n c:Nat),crcSteps n (2^n*c)=c
 | 0,c=>by simp [crcSteps]
 | n+1,c=>by
  unfold crcSteps
  rw [Nat.pow_succ,show 2^n*2*c=2*(2^n*c) by rw [zY (2^n) 2,Nat.mul_assoc],crcStep_double,crcSteps_shift n]
theorem crcByte_later (s c:Nat) (n:Nat):crcSteps 8 (crcSteps n s ^^^ c)=crcSteps (n+8) (s ^^^ 2^n*c):=by
 rw [crcSteps_add,crcSteps_xor n,crcSteps_shift]
theorem crcGo_four (s a b c d:Nat):crcGo s [a,b,c,d]=crcSteps 32 (s ^^^ a ^^^ 256*b ^^^ 65536*c ^^^ 16777216*d):=by
 show crcSteps 8 (crcSteps 8 (crcSteps 8 (crcSteps 8 (s ^^^ a) ^^^ b) ^^^ c) ^^^ d)=_
 rw [crcByte_later (s ^^^ a) b 8,crcByte_later _ c 16,crcByte_later _ d 24]
theorem xor_high {x y k:Nat} (hx:x<2^k):x ^^^ 2^k*y=x+2^k*y:=by
 have h1:x ||| 2^k*y=x+2^k*y:=by
  rw [Nat.or_comm,<-Nat.two_pow_add_eq_or_of_lt hx]
  omega
 rw [<-h1]
 apply Nat.eq_of_testBit_eq
 intro i
 rw [Nat.testBit_xor,Nat.testBit_or,Nat.testBit_two_pow_mul]
 rcases zZ i k with h | h
 ·simp [h,Nat.not_le.2 h]
 ·rw [Nat.testBit_lt_two_pow (Nat.lt_of_lt_of_le hx (Nat.pow_le_pow_right (by decide) h))]
  simp
theorem crc_last {m:List Nat} {a b c d a' b' c' d':Nat} (hm:∀ x∈m,x<256) (ha:a<256) (hb:b<256) (hc:c<256) (hd:d<256) (ha':a'<256) (hb':b'<256) (hc':c'<256) (hd':d'<256)
  (h:crcN (m++[a,b,c,d])=crcN (m++[a',b',c',d'])):a=a'/\b=b'/\c=c'/\d=d':=by
 unfold crcN at h
 have h1:=xor_inj h
 rw [crcGo_append,crcGo_append,crcGo_four,crcGo_four] at h1
 have hs:=crcGo_lt m (s:=4294967295) (by decide) hm
 generalize crcGo 4294967295 m=s at *
 have e:∀ a b c d:Nat,a<256->b<256->c<256->d<256->s ^^^ a ^^^ 256*b ^^^ 65536*c ^^^ 16777216*d=s ^^^ (a+256*b+65536*c+16777216*d):=by
  intro a b c d ha hb hc hd
  have e1:=xor_high (x:=a) (y:=b) (k:=8) (by omega)
  have e2:=xor_high (x:=a+256*b) (y:=c) (k:=16) (by omega)
  have e3:=xor_high (x:=a+256*b+65536*c) (y:=d) (k:=24) (by omega)
  rw [<-e3,<-e2,<-e1]
  simp only [Nat.xor_assoc]
 rw [e a b c d ha hb hc hd,e a' b' c' d' ha' hb' hc' hd'] at h1
 have l1:s ^^^ (a+256*b+65536*c+16777216*d)<4294967296:=Nat.xor_lt_two_pow (n:=32) hs (by omega)
 have l2:s ^^^ (a'+256*b'+65536*c'+16777216*d')<4294967296:=Nat.xor_lt_two_pow (n:=32) hs (by omega)
 have h2:=crcSteps_inj 32 l1 l2 h1
 rw [Nat.xor_comm,Nat.xor_comm s] at h2
 have h3:=xor_inj h2
 omega
def big4 (n:Nat):List Nat:=[n / 16777216%256,n / 65536%256,n / 256%256,n%256]
theorem big4_inj {a b:Nat} (ha:a<4294967296) (hb:b<4294967296) (h:big4 a=big4 b):a=b:=by
 unfold big4 at h
 simp only [List.cons.injEq,and_true] at h
 omega
theorem big4_lt (n:Nat):∀ d∈big4 n,d<256:=by
 intro d hd
 unfold big4 at hd
 simp only [zJ,List.not_mem_nil,or_false] at hd
 omega
theorem pieces_size {s n:Nat}:∀ (f x:Nat),∀ p∈pieces s n f x,p.2=min s (n-p.1)
 | 0,x,p,hp=>by simp [pieces] at hp
 | f+1,x,p,hp=>by
  by_cases hx:x<n
  ·rw [pieces_step f hx] at hp
   rcases zJ.1 hp with rfl | hp
   ·rfl
   ·exact pieces_size f (x+s) p hp
  ·rw [pieces_end _ (by omega)] at hp
   simp at hp
theorem grid_wh {W H s:Nat}:∀ q∈gridL W H s,q.w=min s (W-q.x)/\q.h=min s (H-q.y):=by
 intro q hq
 obtain ⟨p,hp,hq⟩:=List.mem_flatMap.1 hq
 obtain ⟨r,hr,rfl⟩:=List.mem_map.1 hq
 exact ⟨pieces_size _ _ r hr,pieces_size _ _ p hp⟩
theorem grid_same {W H s:Nat} {a b:Sq} (ha:a∈gridL W H s) (hb:b∈gridL W H s) (hx:a.x=b.x) (hy:a.y=b.y):a=b:=by
 obtain ⟨a1,a2⟩:=grid_wh a ha
 obtain ⟨b1,b2⟩:=grid_wh b hb
 obtain ⟨ax,ay,aw,ah⟩:=a
 obtain ⟨bx,aa,bw,bh⟩:=b
 simp only at hx hy a1 a2 b1 b2
 subst hx
 subst hy
 rw [a1,a2,b1,b2]
end Go.Proofs.YtklocammllljiaaGreatDoor
