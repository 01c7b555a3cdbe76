/- Lemmas. -/
import Derived.Test.YtnepiccbpokmiaaGreatDoorMg04
import Derived.Sort.LotA
set_option linter.all false
namespace Go.Proofs.YtnepiccbpokmiaaGreatDoor
open List Nat Go.Sort
variable {freq lens:List Nat}
def lZ(T:List El)(k:Nat):Nat:=(T.getD k (T.headD default)).wt
def kR(T:List El)(x y:Nat):Bool:=decide (lZ T x<lZ T y\/(lZ T x=lZ T y/\x<y))
def nU(T:List El):List Nat:=(range T.length).mergeSort λx y=>!kR T y x
def jn(T:List El):List El:=(nU T).map λk=>T.getD k (T.headD default)
theorem Ek(T:List El):SWO (kR T):=by
 refine⟨λx=>?_,λx y z=>?_,λx y z=>?_⟩
 .unfold kR;simp
 .unfold kR
  simp only[decide_eq_true_eq];omega
 .unfold kR
  simp only[decide_eq_false_iff_not];omega
theorem Jc(T:List El)(x y:Nat)(c:kR T x y=false)(d:kR T y x=false):x=y:=by
 unfold kR at c d;simp only[decide_eq_false_iff_not]at c d;omega
theorem qP(T:List El):(nU T).Perm (range T.length):=mergeSort_perm _ _
theorem Gq(T:List El):(nU T).Pairwise λx y=>lZ T x<=lZ T y:=by
 have h:=pairwise_mergeSort (le:=λx y=>!kR T y x) (by
  intro a b c;unfold kR;simp only[Bool.not_eq_true',decide_eq_false_iff_not];omega) (by
  intro a b;unfold kR;simp only[Bool.or_eq_true,Bool.not_eq_true',decide_eq_false_iff_not];omega) (range T.length)
 refine h.imp fun {a b} hab=>?_;unfold kR at hab;simp only[Bool.not_eq_true',decide_eq_false_iff_not]at hab;omega
theorem tP{α:Type}(l:List α)(d:α):(range l.length).map (λk=>l.getD k d)=l:=by
 apply ext_getElem
 .simp
 .intro i e c
  simp[getD_eq_getElem?_getD,c]
def pn{α:Type}(f:α->El)(E:List α)(d:α):List α:=(nU (E.map f)).map λk=>E.getD k d
theorem Cz{α:Type}(f:α->El)(E:List α)(d:α):(pn f E d).Perm E:=by
 have h:=(qP (E.map f)).map λk=>E.getD k d;rw[length_map,tP]at h;exact h
theorem pJ(T:List El):(jn T).Perm T:=by
 have h:=(qP T).map λk=>T.getD k (T.headD default);rw[tP]at h;exact h
theorem Dw{α:Type}(f:α->El)(E:List α)(d:α):(pn f E d).map f=jn (E.map f):=by
 unfold pn jn;rw[map_map];apply map_congr_left;intro k g;have c:k<(E.map f).length:=List.mem_range.1 ((qP (E.map f)).mem_iff.1 g);have e:k<E.length:=by simpa using c
 simp[getD_eq_getElem?_getD,e]
theorem vU(T:List El):(jn T).Pairwise λa b=>a.wt<=b.wt:=by
 unfold jn;rw[pairwise_map];exact Gq T
def lQ(C:List El):Nat->List El
 | 0=>jn C
 | j+1=>jn (jn C++gT (lQ C j))
theorem xK(C:List El):∀j,Rows C (j+1) (lQ C j)
 | 0=>.one (pJ C) (vU C)
 | j+1=>.next (xK C j) ((pJ _).trans ((pJ C).append_right _)) (vU _)
def kn(freq:List Nat):List Nat:=
 match iC freq freq.length with
 | [.coin s _]=>(replicate freq.length 0).set s 1
 | C=>i9 freq.length ((lQ C 11).take (2*C.length-2))
theorem Ck{s f:Nat}(h:iC freq freq.length=[.coin s f]):kn freq=(replicate freq.length 0).set s 1:=by
 unfold kn;rw[h]
theorem Bz(h:2<=(iC freq freq.length).length):kn freq=i9 freq.length ((lQ (iC freq freq.length) 11).take (2*(iC freq freq.length).length-2)):=by
 unfold kn;split
 .rename_i hc
  rw[hc]at h;simp at h
 .rfl
def kr(w:Nat)(l:List El):List El:=l.filter λe=>decide (e.wt=w)
theorem xp(w:Nat)(a b:List El):kr w (a++b)=kr w a++kr w b:=filter_append ..
theorem nA(w:Nat)(x:El)(l:List El):kr w (x::l)=if x.wt=w then x::kr w l else kr w l:=by
 unfold kr;rw[filter_cons];by_cases h:x.wt=w<;>simp[h]
theorem yj{w:Nat}{l:List El}(h:∀e∈l,e.wt≠w):kr w l=[]:=by
 unfold kr;rw[filter_eq_nil_iff];intro e c
 simpa using h e c
abbrev l9(l:List El):Prop:=l.Pairwise λa b=>a.wt<=b.wt
theorem xJ:∀ {a b:List El},l9 a->l9 b->(∀w,kr w a=kr w b)->a=b
 | [],[],_,_,_=>rfl
 | [],y::b,_,_,h=>by
  have:=h y.wt
  rw[nA,if_pos rfl]at this;cases this
 | x::a,[],_,_,h=>by
  have:=h x.wt
  rw[nA,if_pos rfl]at this;cases this
 | x::a,y::b,ha,hb,h=>by
  obtain⟨f,g⟩:=List.pairwise_cons.1 ha;obtain⟨j,m⟩:=List.pairwise_cons.1 hb;have o:x.wt=y.wt:=by
   rcases Nat.lt_trichotomy x.wt y.wt with d|d|d
   .have:=h x.wt
    rw[nA,if_pos rfl,yj (l:=y::b) (by intro e c;rcases List.mem_cons.1 c with rfl|c;omega;have:=j e c;omega)]at this;cases this
   .exact d
   .have:=h y.wt
    rw[nA y.wt y,if_pos rfl,yj (l:=x::a) (by intro e c;rcases List.mem_cons.1 c with rfl|c;omega;have:=f e c;omega)]at this;cases this
  have n:x=y:=by
   have:=h x.wt
   rw[nA,if_pos rfl,nA,if_pos o.symm]at this;injection this
  subst n;rw[xJ g m λw=>?_]
  have:=h w
  rw[nA,nA]at this;split at this
  .injection this
  .exact this
theorem JQ(T:List El):(nU T).Pairwise λx y=>kR T x y=true:=by
 have h:=pairwise_mergeSort (le:=λx y=>!kR T y x) (by
  intro a b c;unfold kR;simp only[Bool.not_eq_true',decide_eq_false_iff_not];omega) (by
  intro a b;unfold kR;simp only[Bool.or_eq_true,Bool.not_eq_true',decide_eq_false_iff_not];omega) (range T.length)
 have e:(nU T).Nodup:=(qP T).nodup_iff.2 nodup_range;refine(h.and e).imp fun {a b} hab=>?_;obtain⟨d,f⟩:=hab;unfold kR at d⊢;simp only[Bool.not_eq_true',decide_eq_false_iff_not]at d;simp only[decide_eq_true_eq];omega
theorem uO(T:List El)(w:Nat):kr w (jn T)=kr w T:=by
 have e:∀k∈nU T,k<T.length:=λk e=>List.mem_range.1 ((qP T).mem_iff.1 e);have c:(nU T).filter (λk=>decide (lZ T k=w))=(range T.length).filter (λk=>decide (lZ T k=w)):=by
  refine List.Perm.eq_of_pairwise (le:=(· < ·)) (λa b _ _ c d=>by omega) ?_ ?_ ((qP T).filter _)
  .have d:=(JQ T).filter (λk=>decide (lZ T k=w))
   refine d.imp_of_mem fun {a b} ha hb hab=>?_;have j:=of_decide_eq_true (List.mem_filter.1 ha).2;have l:=of_decide_eq_true (List.mem_filter.1 hb).2;unfold kR at hab;simp only[decide_eq_true_eq]at hab;omega
  .exact List.pairwise_lt_range.filter _
 have f:kr w (jn T)=((nU T).filter (λk=>decide (lZ T k=w))).map λk=>T.getD k (T.headD default):=by
  unfold kr jn;rw[List.filter_map];rfl
 have g:kr w T=((range T.length).filter (λk=>decide (lZ T k=w))).map λk=>T.getD k (T.headD default):=by
  have h:kr w T=kr w ((range T.length).map λk=>T.getD k (T.headD default)):=by rw[tP]
  rw[h];unfold kr;rw[List.filter_map];rfl
 rw[f,g,c]
def iQ:List El->List El->List El
 | [],b=>b
 | x::a,[]=>x::a
 | x::a,y::b=>if x.wt<=y.wt then x::iQ a (y::b)else y::iQ (x::a) b
termination_by a b=>a.length+b.length
theorem ue(a:List El):iQ a []=a:=by cases a<;>simp[iQ]
theorem ua:∀a b:List El,(iQ a b).Perm (a++b)
 | [],b=>by simp[iQ]
 | x::a,[]=>by simp[iQ]
 | x::a,y::b=>by
  unfold iQ;split
  .exact(ua a (y::b)).cons x
  .exact((ua (x::a) b).cons y).trans (List.perm_middle (a:=y) (l₁:=x::a) (l₂:=b)).symm
termination_by a b=>a.length+b.length
theorem vI:∀ {a b:List El},l9 a->l9 b->l9 (iQ a b)
 | [],b,_,hb=>by simpa[iQ]using hb
 | x::a,[],ha,_=>by simpa[iQ]using ha
 | x::a,y::b,ha,hb=>by
  obtain⟨d,g⟩:=List.pairwise_cons.1 ha;obtain⟨f,j⟩:=List.pairwise_cons.1 hb;unfold iQ;split
  .rename_i h
   refine List.pairwise_cons.2 ⟨λe he=>?_,vI g hb⟩;rcases List.mem_append.1 ((ua a (y::b)).mem_iff.1 he)with c|c
   .exact d e c
   .rcases List.mem_cons.1 c with rfl|c
    .exact h
    .have:=f e c;omega
  .rename_i h
   refine List.pairwise_cons.2 ⟨λe he=>?_,vI ha j⟩;rcases List.mem_append.1 ((ua (x::a) b).mem_iff.1 he)with c|c
   .rcases List.mem_cons.1 c with rfl|c
    .omega
    .have:=d e c;omega
   .exact f e c
termination_by a b=>a.length+b.length
theorem x7(w:Nat):∀ {a b:List El},l9 a->l9 b->kr w (iQ a b)=kr w a++kr w b
 | [],b,_,_=>by simp[iQ,kr]
 | x::a,[],_,_=>by simp[iQ,kr]
 | x::a,y::b,ha,hb=>by
  obtain⟨c,d⟩:=List.pairwise_cons.1 ha;obtain⟨j,f⟩:=List.pairwise_cons.1 hb;unfold iQ;split
  .rw[nA,x7 w d hb,nA w x a]
   split<;>rfl
  .rename_i h
   rw[nA,x7 w ha f,nA w y b];split
   .rename_i hy
    have e:kr w (x::a)=[]:=yj λe g=>by
     rcases List.mem_cons.1 g with rfl|g
     .omega
     .have:=c e g;omega
    rw[e];rfl
   .rfl
termination_by a b=>a.length+b.length
theorem pD(T:List El):l9 (jn T):=vU T
theorem BC{a b:List El}(c:l9 a)(d:l9 b):iQ a b=jn (a++b):=
 xJ (vI c d) (pD _) λw=>by rw[x7 w c d,uO,xp]
def pq(l:List El)(x:El):List El:=iQ l [x]
theorem K2{l:List El}(h:l9 l)(x:El):pq l x=jn (l++[x]):=BC h (List.pairwise_singleton ..)
theorem JR(a b:List El):jn (jn a++b)=jn (a++b):=
 xJ (pD _) (pD _) λw=>by rw[uO,uO,xp,xp,uO]
theorem NX{a b:List El}{x:El}(c:∀e∈a,e.wt<=x.wt)(d:∀e∈b,x.wt<e.wt):pq (a++b) x=a++x::b:=by
 induction a with
 | nil=>
  cases b with
  | nil=>simp[pq,iQ]
  | cons y b=>
   have:=d y (by simp)
   unfold pq;rw[nil_append,iQ,if_neg (by omega),ue];rfl
 | cons e a ih=>
  unfold pq at ih⊢;rw[cons_append,iQ,if_pos (c e (by simp)),ih λf hf=>c f (by simp[hf])];rfl
theorem Ix(C:List El)(j:Nat)(h:l9 (gT (lQ C j))):lQ C (j+1)=iQ (lQ C 0) (gT (lQ C j)):=by
 show jn (jn C++gT (lQ C j))=iQ (jn C) _;rw[BC (pD C) h]
theorem AX:∀ {l:List El},l9 l->l9 (gT l)
 | [],_=>List.Pairwise.nil
 | [_],_=>by simp[gT]
 | a::b::l,h=>by
  obtain⟨g,j⟩:=List.pairwise_cons.1 h;obtain⟨m,n⟩:=List.pairwise_cons.1 j;refine List.pairwise_cons.2 ⟨λe c=>?_,AX n⟩;have o:∀ {l:List El},∀e∈gT l,∃x∈l,∃y∈l,e=.pack x y:=fun {l}=>by
   induction l using gT.induct with
   | case1 a b l ih=>
    intro e c;rcases List.mem_cons.1 c with rfl|c
    .exact⟨a,by simp,b,by simp,rfl⟩
    .obtain⟨x,d,y,f,rfl⟩:=ih e c
     exact⟨x,by simp[d],y,by simp[f],rfl⟩
   | case2 l hl=>
    intro e c;unfold gT at c;split at c
    .rename_i a b l'
     exact absurd rfl (hl a b l')
    .simp at c
  obtain⟨x,d,y,f,rfl⟩:=o e c
  have:=g x (by simp[d])
  have:=m y f
  show a.wt+b.wt<=x.wt+y.wt;omega
theorem Hh(C:List El):∀j,l9 (lQ C j)
 | 0=>pD _
 | _+1=>pD _
theorem JO(C:List El)(j:Nat):lQ C (j+1)=iQ (lQ C 0) (gT (lQ C j)):=Ix C j (AX (Hh C j))
def El.syms:El->List Nat
 | .coin s _=>[s]
 | .pack a b=>a.syms++b.syms
theorem El.count_syms(s:Nat):∀e:El,e.syms.count s=e.occ s
 | .coin t w=>by
  by_cases h:t=s<;>simp[El.syms,El.occ,h,List.count_cons]
 | .pack a b=>by rw[El.syms,count_append,a.count_syms s,b.count_syms s];rfl
def kI:List Nat->List Nat->List Nat
 | [],l=>l
 | s::r,l=>kI r (l.set s (l.getD s 0+1))
theorem Bh:∀(a b l:List Nat),kI (a++b) l=kI b (kI a l)
 | [],_,_=>rfl
 | s::a,b,l=>Bh a b _
theorem J4(a:List Nat)(s:Nat)(l:List Nat):kI (a++[s]) l=(kI a l).set s ((kI a l).getD s 0+1):=Bh a [s] l
theorem yk:∀(a l:List Nat),(kI a l).length=l.length
 | [],_=>rfl
 | s::a,l=>by rw[kI,yk a,length_set]
theorem xO:∀(a l:List Nat) {s:Nat},s<l.length->(kI a l).getD s 0=l.getD s 0+a.count s
 | [],l,s,_=>by simp[kI]
 | t::a,l,s,h=>by
  rw[kI,xO a _ (by simpa using h),List.count_cons,getD_eq_getElem?_getD,getElem?_set];by_cases e:t=s
  .subst e
   simp[h,getD_eq_getElem?_getD];omega
  .simp[e,getD_eq_getElem?_getD]
theorem Jb(n:Nat)(S:List El)(t:El):kI t.syms (i9 n S)=i9 n (S++[t]):=by
 apply ext_getElem
 .rw[yk,nf,nf]
 .intro i g e
  have hi:i<n:=by rwa [nf]at e
  have d:=xO t.syms (i9 n S) (s:=i) (by rwa [nf]);rw[sj S hi,El.count_syms]at d;have c:=sj (S++[t]) hi;rw[sl]at c;have f:it i [t]=t.occ i:=by simp[it]
  rw[f,<-d]at c;rw[getD_eq_getElem?_getD,getD_eq_getElem?_getD,getElem?_eq_getElem g,getElem?_eq_getElem e]at c;exact c.symm
theorem Jn{M:Nat}:∀l:List El,(∀e∈l,e.syms.length<=M)->∀e∈gT l,e.syms.length<=M+M:=by
 intro l
 induction l using gT.induct with
 | case1 a b l il=>
  intro h e c;rw[gT]at c;rcases List.mem_cons.1 c with rfl|c
  .have:=h a (by simp)
   have:=h b (by simp)
   rw[El.syms,length_append];omega
  .exact il (λe h1=>h e (by simp[h1])) e c
 | case2 l hl=>
  intro _ e c
  cases l with
  | nil=>simp[gT]at c
  | cons a l=>
   cases l with
   | nil=>simp[gT]at c
   | cons b l=>exact absurd rfl (hl a b l)
theorem Rows.slen{C:List El}(f:∀e∈C,e.syms.length<=1){j:Nat}{R:List El}(h:Rows C j R):∀e∈R,e.syms.length<=2^j:=by
 induction h with
 | one hp hs=>
  intro e d
  have:=f e (hp.mem_iff.1 d)
  omega
 | next h hp hs ih=>
  rename_i j R R'
  intro e d;have g:2^(j+1)=2^j+2^j:=by rw[Nat.pow_succ];omega
  have l:=Nat.two_pow_pos j;rcases List.mem_append.1 (hp.mem_iff.1 d)with c|c
  .have:=f e c;omega
  .rw[g];exact Jn R ih e c
theorem GT{i:Nat}:∀e∈iC freq i,e.syms.length<=1:=λe he=>by
 obtain⟨s,_,_,rfl⟩:=qh he;exact Nat.le_refl 1
theorem El.syms_pos:∀e:El,0<e.syms.length
 | .coin _ _=>Nat.one_pos
 | .pack a b=>by rw[El.syms,length_append];have := a.syms_pos;omega
def qJ(lens:List Nat):Nat:=lens.countP λn=>decide (n=1)
theorem Jk(l:List Nat)(x:Nat):qJ (l++[x])=qJ l+if x=1 then 1 else 0:=by
 unfold qJ;rw[countP_append,countP_cons];by_cases h:x=1<;>simp[h]
theorem KU(h:∀n∈lens,n<=1):qJ lens=kp lens:=by
 unfold qJ kp;refine List.countP_congr λn hn=>?_
 have:=h n hn
 simp only[decide_eq_true_eq];omega
theorem Mm(h:lL lens)(e:kp lens≠0):(kp lens=1/\qJ lens=1)\/(1<kp lens/\kH lens=2^24):=by
 rcases h.full with⟨c,d⟩|⟨c,d⟩
 .exact .inl ⟨c,by rw[KU d,c]⟩
 .exact .inr ⟨by omega,d⟩
theorem CV(h:lL lens):kp lens≠0:=by
 intro d;rcases h.full with⟨f,_⟩|⟨_,c⟩
 .omega
 .have e:∀n∈lens,n=0:=λn hn=>by
   have:=List.countP_eq_zero.1 d n hn
   simpa using this
  have:kH lens=0:=rr lens _ λn hn=>if_pos (e n hn)
  rw[this]at c;exact absurd c (by decide)
theorem K3{l:List El}(o:l9 l){x:El}{i:Nat}(hi:i<=l.length)(d:∀j (h:j<l.length),i<=j->x.wt<l[j].wt)(f:∀h:0<i,(l[i-1]'(by omega)).wt<=x.wt):pq l x=l.take i++x::l.drop i:=by
 have e:l=l.take i++l.drop i:=(take_append_drop i l).symm;have g:∀e∈l.take i,e.wt<=x.wt:=λe he=>by
  obtain⟨j,n,rfl⟩:=List.mem_take_iff_getElem.1 he;have p:j<i:=by omega
  have c:j<l.length:=by omega
  refine Nat.le_trans ?_ (f (by omega));rcases Nat.lt_or_ge j (i-1)with q|q
  .exact List.pairwise_iff_getElem.1 o j (i-1) c (by omega) q
  .have:j=i-1:=by omega
   subst this;exact Nat.le_refl _
 have m:∀e∈l.drop i,x.wt<e.wt:=λe he=>by
  obtain⟨j,n,rfl⟩:=List.mem_drop_iff_getElem.1 he;exact d _ _ (by omega)
 have:=NX g m
 rwa [<-e]at this
theorem Kf(C:List El)(x:El):pq (jn C) x=jn (C++[x]):=by rw[K2 (pD C),JR]
theorem LD:jn []=[]:=by
 have:=(pJ ([]:List El)).length_eq
 exact eq_nil_of_length_eq_zero (by simpa using this)
theorem sO(C:List El):(jn C).length=C.length:=(pJ C).length_eq
section
variable {a b:List El} {i k:Nat}
theorem Jg(hi:i<a.length)(h:∀c:k<b.length,a[i].wt<=b[k].wt):iQ (a.drop i) (b.drop k)=a[i]::iQ (a.drop (i+1)) (b.drop k):=by
 rw[drop_eq_getElem_cons hi];rcases Nat.lt_or_ge k b.length with c|c
 .rw[drop_eq_getElem_cons c]
  conv=>lhs;unfold iQ
  rw[if_pos (h c)]
 .rw[drop_eq_nil_of_le c,ue,ue]
theorem Id(c:k<b.length)(h:∀hi:i<a.length,b[k].wt<a[i].wt):iQ (a.drop i) (b.drop k)=b[k]::iQ (a.drop i) (b.drop (k+1)):=by
 rw[drop_eq_getElem_cons c];rcases Nat.lt_or_ge i a.length with hi|hi
 .rw[drop_eq_getElem_cons hi]
  conv=>lhs;unfold iQ
  rw[if_neg (by have:=h hi;omega)]
 .rw[drop_eq_nil_of_le hi]
  simp[iQ]
theorem Jf(hi:a.length<=i)(c:b.length<=k):iQ (a.drop i) (b.drop k)=[]:=by
 rw[drop_eq_nil_of_le hi,drop_eq_nil_of_le c,ue]
theorem Ie(c:List El)(h:c++iQ (a.drop i) (b.drop k)=iQ a b)(hi:a.length<=i)(d:b.length<=k):c=iQ a b:=by
 rw[Jf hi d,append_nil]at h;exact h
end
theorem II(lens:List Nat):i7 lens 1=replicate lens.length 0:=by
 show(replicate lens.length 0).set _ (jQ lens 0)=_;rw[BU];apply ext_getElem?;intro i;rw[getElem?_set];split
 .rename_i h
  subst h;split
  .rename_i h
   rw[getElem?_eq_getElem h,getElem_replicate]
  .rename_i h
   rw[getElem?_eq_none (by omega)]
 .rfl
theorem JY{i:Nat}(h:i+1<(gO lens).length):(i7 lens (i+1)).getD ((gO lens).getD i 0) 0=jQ lens i:=xM (by omega) (i+1) (by omega) (by omega)
theorem JZ(d:lL lens){i:Nat}(h:i+1<(gO lens).length):(jQ lens i+1)*2^(gI lens ((gO lens).getD (i+1) 0)-gI lens ((gO lens).getD i 0))=jQ lens (i+1)/\jQ lens (i+1)<16777216/\jQ lens i<16777216 /\ gI lens ((gO lens).getD i 0)<=gI lens ((gO lens).getD (i+1) 0)/\gI lens ((gO lens).getD (i+1) 0)<=24:=by
 have e:=uD d h;have f:=uD d (show i<(gO lens).length by omega);have c:=(oV h).2.1;have g:=(oV (show i<(gO lens).length by omega)).2.1;have p:∀n,n<=24->(2:Nat)^n<=16777216:=λn hn=>Nat.le_trans (Nat.pow_le_pow_right (n:=2) (by decide) hn) (by decide);exact⟨(BT h).symm,Nat.lt_of_lt_of_le e (p _ c),Nat.lt_of_lt_of_le f (p _ g),uV (by omega) h,c⟩
theorem M7(d:lL lens):1<=(gO lens).length:=by
 have f:0<kp lens:=Nat.pos_of_ne_zero (CV d);obtain⟨a,g,c⟩:=List.countP_pos_iff.1 f;obtain⟨s,h,rfl⟩:=getElem_of_mem g;have c:0<lens[s]:=by simpa using c
 have e:gI lens s=lens[s]:=by unfold gI;rw[getD_eq_getElem?_getD,getElem?_eq_getElem h];rfl
 obtain⟨j,l,_⟩:=Fm d.le (s:=s) (by rw[e];exact c);omega
end Go.Proofs.YtnepiccbpokmiaaGreatDoor
