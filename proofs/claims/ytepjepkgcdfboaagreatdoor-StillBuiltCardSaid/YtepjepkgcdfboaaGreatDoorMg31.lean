/- Plain: taking the guesses back. -/
import Derived.Test.YtepjepkgcdfboaaGreatDoorMg01
set_option linter.unusedVariables false
set_option linter.unusedSimpArgs false
namespace Go.Proofs.YtepjepkgcdfboaaGreatDoor
open Go.RowKit
theorem c7k {l:List Int} {W x y m:Nat} (hx:x<W) (hm:y*W+x=m) (hl:m<=l.length):nbr (a1a (l.take m) l.length) W x y=nbr l W x y:=by
 refine e3z hx fun i hi => ?_
 rw [hm] at hi
 rw [zD,zD]
 unfold a1a
 rw [List.getElem?_append_left (by rw [zI];omega),List.getElem?_take_of_lt hi]
theorem e6u {l:List Int} {d:Nat} (hs:a1u d l) (W kind y x:Nat):a0k (b3o l W d kind y x+a3d kind (nbr l W x y) d) d=l.getD (y*W+x) 0:=by
 obtain ⟨h0,h1⟩:=a5d hs (y*W+x)
 unfold b3o
 generalize a3d kind (nbr l W x y) d=g
 rw [Int.add_comm,a3b,show g+(l.getD (y*W+x) 0-g)=l.getD (y*W+x) 0 by omega]
 exact b0u h0 h1
theorem b5h (l:List Int):a1a (l.take l.length) l.length=l:=by
 rw [zN]
 simp [a1a]
theorem c0s {α:Type} {W x:Nat} (hx:x<W):∀ (L:List (List α)) (y:Nat),(∀ a∈L,a.length=W)->y<L.length->L.flatten[y*W+x]?=(L[y]?).bind (·[x]?)
 | [],y,_,h=>by simp at h
 | a::L,0,h,_=>by
  have ha:=h a (by simp)
  rw [List.flatten_cons,Nat.zero_mul,Nat.zero_add,List.getElem?_append_left (by omega)]
  simp
 | a::L,y+1,h,hy=>by
  have ha:=h a (by simp)
  rw [List.flatten_cons,zS (by rw [ha,Nat.succ_mul];omega),ha,show (y+1)*W+x-W=y*W+x by rw [Nat.succ_mul];omega,c0s hx L y (fun b hb=>h b (by simp [hb])) (by simpa using hy)]
  simp
theorem e7n (l:List Int) {W H:Nat} (d:Nat) (ks:List Nat) {x y:Nat} (hy:y<H) (hx:x<W):(b3y l W H d ks).getD (y*W+x) 0=b3o l W d (ks.getD y 0) y x:=by
 have h:=c0s hx ((List.range H).map fun y=>c4f l W y d (ks.getD y 0)) y (fun a ha=>by
  obtain ⟨z,_,rfl⟩:=List.mem_map.1 ha
  exact b6a _ _ _ _ _) (by simpa using hy)
 unfold b3y
 rw [zD,List.flatMap_def,h,zW,List.getElem?_range hy]
 simp [c4f,hx]
theorem e2o (l:List Int) (W H d:Nat) (ks:List Nat):((b3y l W H d ks).map fun v=>a1b v d).map (fun v=>a0k v d)=b3y l W H d ks:=by
 rw [List.map_map]
 refine (List.map_congr_left fun v hv => ?_).trans (List.map_id _)
 obtain ⟨h0,h1⟩:=d5w l W H d ks v hv
 show a0k (a1b v d) d=v
 rw [b2s,b0u h0 h1]
def a2j (lens:List Nat) (k n:Nat):List Nat:=((a0q lens).take k).filter fun s=>a0g lens s==n
def a2f (lens:List Nat) (k n:Nat):Nat:=match a2j lens k n with | []=>0 | s::_=>a5i lens s
def b8d (lens:List Nat) (k:Nat):Nat:=match k with | 0=>0 | k+1=>a0g lens ((a0q lens).getD k 0)
theorem b4n {lens:List Nat} {k:Nat} (h:k<(a0q lens).length) (n:Nat):a2j lens (k+1) n=a2j lens k n++(if a0g lens ((a0q lens).getD k 0)=n then [(a0q lens).getD k 0] else []):=by
 unfold a2j
 rw [<-List.take_append_getElem h,List.filter_append,List.filter_cons,List.filter_nil,zD,zF h]
 congr 1
 simp only [Option.getD_some,beq_iff_eq]
theorem b8o {lens:List Nat} {k n:Nat} (h:k<(a0q lens).length) (hn:a0g lens ((a0q lens).getD k 0)≠n):a2j lens (k+1) n=a2j lens k n:=by
 rw [b4n h,if_neg hn,List.append_nil]
theorem b4m {lens:List Nat} {k n:Nat} (h:k<(a0q lens).length) (hn:a0g lens ((a0q lens).getD k 0)=n):a2j lens (k+1) n=a2j lens k n++[(a0q lens).getD k 0]:=by
 rw [b4n h,if_pos hn]
theorem c6v {lens:List Nat} {k n:Nat} (h:k<(a0q lens).length) (hn:a0g lens ((a0q lens).getD k 0)≠n):a2f lens (k+1) n=a2f lens k n:=by
 unfold a2f
 rw [b8o h hn]
theorem d3f {lens:List Nat} {k n:Nat} (h:k<(a0q lens).length) (hn:a0g lens ((a0q lens).getD k 0)=n) (he:a2j lens k n=[]):a2f lens (k+1) n=a5i lens ((a0q lens).getD k 0):=by
 unfold a2f
 rw [b4m h hn,he]
 rfl
theorem d3g {lens:List Nat} {k n:Nat} (h:k<(a0q lens).length) (hn:a0g lens ((a0q lens).getD k 0)=n) (he:a2j lens k n≠[]):a2f lens (k+1) n=a2f lens k n:=by
 unfold a2f
 rw [b4m h hn]
 cases hq:a2j lens k n with
 | nil=>exact absurd hq he
 | cons a l=>rfl
theorem c5w (lens:List Nat) (k n:Nat):(a2j lens k n).length<=lens.length:=by
 unfold a2j
 have h1:=List.length_filter_le (fun s=>a0g lens s==n) ((a0q lens).take k)
 have h2:=b9n lens 24
 unfold a0q at *
 rw [zI] at h1
 omega
def b1s (lens:List Nat):Nat:=(a0q lens).length
theorem b8i (lens:List Nat) (n:Nat):∀ d,∃ X,a1s lens (n+d)=a1s lens n++X/\∀ s∈X,n<a0g lens s
 | 0=>⟨[],by simp,by simp⟩
 | d+1=>by
  obtain ⟨X,h1,h2⟩:=b8i lens n d
  refine ⟨X++a0w lens (n+d+1) lens.length,by rw [show n+(d+1)=n+d+1 by omega,a6d,h1,zH],fun s hs => ?_⟩
  rcases zP.1 hs with h | h
  ·exact h2 s h
  ·have:=(a4v.1 h).2;omega
theorem c5r (lens:List Nat) {n:Nat} (h0:0<n) (hn:n<=24):∃ X,a0q lens=a1s lens (n-1)++(a0w lens n lens.length++X)/\∀ s∈X,n<a0g lens s:=by
 obtain ⟨X,h1,h2⟩:=b8i lens n (24-n)
 refine ⟨X,?_,h2⟩
 have e:a1s lens n=a1s lens (n-1)++a0w lens n lens.length:=by
  have:=a6d lens (n-1)
  rwa [show n-1+1=n by omega] at this
 rw [show n+(24-n)=24 by omega,e,zH] at h1
 exact h1
theorem b6e (lens:List Nat) {n:Nat} (h0:0<n) (hn:n<=24):a2j lens (b1s lens) n=a0w lens n lens.length:=by
 obtain ⟨X,h1,h2⟩:=c5r lens h0 hn
 unfold a2j b1s
 rw [zN,h1,List.filter_append,List.filter_append]
 have e1:(a1s lens (n-1)).filter (fun s=>a0g lens s==n)=[]:=by
  rw [List.filter_eq_nil_iff]
  intro s hs h
  have h3:=a7n.1 hs
  have h4:a0g lens s=n:=by simpa using h
  omega
 have e2:X.filter (fun s=>a0g lens s==n)=[]:=by
  rw [List.filter_eq_nil_iff]
  intro s hs h
  have h3:=h2 s hs
  have h4:a0g lens s=n:=by simpa using h
  omega
 have e3:(a0w lens n lens.length).filter (fun s=>a0g lens s==n)=a0w lens n lens.length:=by
  rw [List.filter_eq_self]
  intro s hs
  simpa using (a4v.1 hs).2
 rw [e1,e2,e3]
 simp
theorem c7y (lens:List Nat) {n i:Nat} (h0:0<n) (hn:n<=24) (hi:i<(a0w lens n lens.length).length) :
  (a1s lens (n-1)).length+i<(a0q lens).length/\(a0q lens).getD ((a1s lens (n-1)).length+i) 0=(a0w lens n lens.length).getD i 0:=by
 obtain ⟨X,h1,h2⟩:=c5r lens h0 hn
 rw [h1]
 refine ⟨by simp;omega,?_⟩
 rw [zD,zS (by omega),show (a1s lens (n-1)).length+i-(a1s lens (n-1)).length=i by omega,List.getElem?_append_left hi,<-zD]
theorem c6h {lens:List Nat} {n i:Nat} (hi:i<(a0w lens n lens.length).length):a0g lens ((a0w lens n lens.length).getD i 0)=n:=by
 have hm:(a0w lens n lens.length).getD i 0∈a0w lens n lens.length:=by
  rw [zD,zF hi];exact zG hi
 exact (a4v.1 hm).2
theorem b7i (lens:List Nat) {n:Nat} (h0:0<n) (hn:n<=24):∀ i,i<=(a0w lens n lens.length).length ->
  a6v lens ((a1s lens (n-1)).length+i)=a6v lens (a1s lens (n-1)).length+i*2^(24-n)
 | 0,_=>by simp
 | i+1,hi=>by
  obtain ⟨h1,h2⟩:=c7y lens h0 hn (i:=i) (by omega)
  have h3:=b0p lens h1
  rw [h2,c6h (by omega),b7i lens h0 hn i (by omega)] at h3
  rw [show (a1s lens (n-1)).length+(i+1)=(a1s lens (n-1)).length+i+1 by omega,h3,Nat.add_mul,Nat.one_mul,Nat.add_assoc]
theorem c5d (lens:List Nat) {n:Nat} (h0:0<n) (hn:n<=24) (hb:0<(a0w lens n lens.length).length) :
  a2f lens (b1s lens) n=a6v lens (a1s lens (n-1)).length / 2^(24-n):=by
 obtain ⟨h1,h2⟩:=c7y lens h0 hn hb
 have h3:=b0t h1
 rw [h2] at h3
 unfold a2f
 rw [b6e lens h0 hn]
 unfold a4x at h3
 rw [h2,c6h hb] at h3
 cases hq:a0w lens n lens.length with
 | nil=>rw [hq] at hb;simp at hb
 | cons a l =>
  rw [hq] at h3
  simpa using h3
theorem e5c {lens:List Nat} (hle:∀ x∈lens,x<=24) {s n:Nat} (hs:0<a0g lens s) (h0:0<n) (hn:n<a0g lens s) :
  a5i lens s / 2^(a0g lens s-n)<a2f lens (b1s lens) n\/a2f lens (b1s lens) n+(a2j lens (b1s lens) n).length<=a5i lens s / 2^(a0g lens s-n):=by
 obtain ⟨j,hj,rfl⟩:=c7z hle hs
 obtain ⟨hp,hL,-⟩:=a4q hj
 have aa:n<=24:=by omega
 rw [b6e lens h0 aa]
 rcases Nat.eq_zero_or_pos (a0w lens n lens.length).length with hb | hb
 ·right
  have he:=List.eq_nil_of_length_eq_zero hb
  have:a2f lens (b1s lens) n=0:=by unfold a2f;rw [b6e lens h0 aa,he]
  rw [this,hb];exact Nat.zero_le _
 ·right
  rw [b0t hj,c5d lens h0 aa hb]
  unfold a4x
  generalize hLL:a0g lens ((a0q lens).getD j 0)=L at *
  rw [Nat.div_div_eq_div_mul,<-Nat.pow_add,show 24-L+(L-n)=24-n by omega]
  have ab:(a1s lens (n-1)).length+(a0w lens n lens.length).length<=j:=by
   rcases zZ j ((a1s lens (n-1)).length+(a0w lens n lens.length).length) with h | h
   ·exfalso
    have h1:=c7y lens h0 aa (i:=(a0w lens n lens.length).length-1) (by omega)
    have h2:=c2m (lens:=lens) (j:=j) (k:=(a1s lens (n-1)).length+((a0w lens n lens.length).length-1)) (by omega) h1.1
    rw [h1.2,c6h (by omega),hLL] at h2
    omega
   ·exact h
  have h3:=d1s lens ab
  rw [b7i lens h0 aa _ (zQ _)] at h3
  have h4:=Nat.div_le_div_right (c:=2^(24-n)) h3
  rwa [Nat.add_mul_div_right _ _ (Nat.two_pow_pos _)] at h4
theorem e9t {lens:List Nat} (hle:∀ x∈lens,x<=24) {s:Nat} (hs:0<a0g lens s) :
  a2f lens (b1s lens) (a0g lens s)<=a5i lens s/\a5i lens s-a2f lens (b1s lens) (a0g lens s)<(a2j lens (b1s lens) (a0g lens s)).length /\
   (a2j lens (b1s lens) (a0g lens s)).getD (a5i lens s-a2f lens (b1s lens) (a0g lens s)) 0=s:=by
 obtain ⟨j,hj,ab⟩:=c7z hle hs
 obtain ⟨hp,hL,hN⟩:=a4q hj
 rw [ab] at hp hL hN
 generalize hLL:a0g lens s=L at *
 have hm:s∈a0w lens L lens.length:=a4v.2 ⟨hN,hLL⟩
 obtain ⟨i,hi,he⟩:=List.getElem_of_mem hm
 have aa:(a0w lens L lens.length).getD i 0=s:=by rw [zD,zF hi];exact he
 obtain ⟨h1,h2⟩:=c7y lens hp hL hi
 have h3:=b0t h1
 rw [h2,aa] at h3
 unfold a4x at h3
 rw [h2,aa,hLL,b7i lens hp hL _ (by omega),Nat.add_mul_div_right _ _ (Nat.two_pow_pos _)] at h3
 rw [b6e lens hp hL,c5d lens hp hL (by omega),h3]
 refine ⟨by omega,by omega,?_⟩
 rw [show a6v lens (a1s lens (L-1)).length / 2^(24-L)+i-a6v lens (a1s lens (L-1)).length / 2^(24-L)=i by omega]
 exact aa
theorem e3k {lens:List Nat} (hle:∀ x∈lens,x<=24) {s:Nat} (hs:0<a0g lens s):a0g lens s<=b8d lens (b1s lens)/\b8d lens (b1s lens)<=24:=by
 obtain ⟨j,hj,rfl⟩:=c7z hle hs
 unfold b1s
 obtain ⟨k,hk⟩:∃ k,(a0q lens).length=k+1:=⟨(a0q lens).length-1,by omega⟩
 rw [hk]
 exact ⟨c2m (by omega) (by omega),(a4q (by omega)).2.1⟩
def a3g (s:Nat):Nat:=if s%2=1 then (s / 2) ^^^ 3988292384 else s / 2
def a1g:Nat->Nat->Nat
 | 0,s=>s
 | n+1,s=>a1g n (a3g s)
def e1u (s c:Nat):Nat:=a1g 8 (s ^^^ c)
def b8x (s:Nat) (ds:List Nat):Nat:=ds.foldl e1u s
def c3g (ds:List Nat):Nat:=b8x 4294967295 ds ^^^ 4294967295
theorem b6r {s:Nat} (h:s<4294967296):a3g s<4294967296:=by
 unfold a3g
 split
 ·exact Nat.xor_lt_two_pow (n:=32) (by omega) (by decide)
 ·omega
theorem c0n:∀ (n:Nat) {s:Nat},s<4294967296->a1g n s<4294967296
 | 0,s,h=>h
 | n+1,s,h=>c0n n (b6r h)
theorem d8n {s c:Nat} (h:s<4294967296) (hc:c<256):e1u s c<4294967296 :=
 c0n 8 (Nat.xor_lt_two_pow (n:=32) h (by omega))
theorem d5k:∀ (ds:List Nat) {s:Nat},s<4294967296->(∀ d∈ds,d<256)->b8x s ds<4294967296
 | [],s,h,_=>h
 | d::ds,s,h,hd=>d5k ds (d8n h (hd d (by simp))) (fun x hx=>hd x (by simp [hx]))
theorem c6p {ds:List Nat} (hd:∀ d∈ds,d<256):c3g ds<4294967296:=Nat.xor_lt_two_pow (n:=32) (d5k ds (by decide) hd) (by decide)
theorem c9y (s:Nat) (a b:List Nat):b8x s (a++b)=b8x (b8x s a) b:=List.foldl_append
theorem a8m:∀ (m n s:Nat),a1g (m+n) s=a1g n (a1g m s)
 | 0,n,s=>by rw [Nat.zero_add];rfl
 | m+1,n,s=>by
  rw [show m+1+n=(m+n)+1 by omega]
  show a1g (m+n) (a3g s)=a1g n (a1g m (a3g s))
  exact a8m m n _
def d8f (n:Nat):List Nat:=[n / 16777216%256,n / 65536%256,n / 256%256,n%256]
theorem d2u (n:Nat):∀ d∈d8f n,d<256:=by
 intro d hd
 unfold d8f at hd
 simp only [zJ,List.not_mem_nil,or_false] at hd
 omega
theorem c2s {P:Program} {t e:TypeId} (ht:P.underlying t=some (.slice e)) (hs:∀ w,(sizeOf e).run P w=.ok 1 w) (A:Option Addr) (n c lo m hi:Nat) (hhi:hi=lo+m) (h:hi<=n) (hnc:n<=c) :
  ∃ A',(∀ w,(Instr.slice t (.slice A n c) (some (.int .i64 lo)) (some (.int .i64 hi)) none).run P w=.ok (.slice A' m (c-lo)) w) /\
   (∀ ad,A'=some ad->∃ ad0,A=some ad0/\ad.block=ad0.block) /\
   ∀ (α:Type) (f:α->Value) (w:World) (l:List α),l.length=n->a0d f w A l->a0d f w A' ((l.drop lo).take m):=by
 have he:=c6u ht
 subst hhi
 refine ⟨if c=lo then A else A.map (·.add (lo*1)),fun w => ?_,?_,?_⟩
 ·rw [run_slice_lh (P:=P) (w:=w) t A n c (by rw [he];exact ht) .i64 .i64 (lo:Int) ((lo+m:Nat):Int) (by omega) (by omega) (by omega),he,hs]
  simp [sliced]
  omega
 ·intro ad ab
  split at ab
  ·exact ⟨ad,ab,rfl⟩
  ·cases A with
   | none=>simp at ab
   | some ad0 =>
    simp at ab
    subst ab
    refine ⟨ad0,rfl,?_⟩
    unfold Addr.add
    split<;>rfl
 ·intro α f w l hl hc
  refine ⟨fun h0 => ?_⟩
  rw [zI,zO] at h0
  obtain ⟨b,o,rfl,hb,aa⟩:=hc.ex (by omega)
  rw [if_neg (by omega)]
  refine ⟨b,o+lo,?_,hb,fun i a ha => ?_⟩
  ·simp only [Option.map_some,Addr.add,Nat.mul_one]
   split
   ·rename_i h;subst h;rfl
   ·rfl
  ·rw [List.getElem?_take] at ha
   split at ha
   ·rw [List.getElem?_drop] at ha
    have:=aa (lo+i) a ha
    rwa [<-Nat.add_assoc] at this
   ·cases ha
end Go.Proofs.YtepjepkgcdfboaaGreatDoor
