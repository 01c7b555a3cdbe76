/- Plain: taking the guesses back. -/
import Derived.Test.YtepjepkgcdfboaaGreatDoorMg01
set_option linter.unusedVariables false
set_option linter.unusedSimpArgs false
namespace Go.Proofs.YtepjepkgcdfboaaGreatDoor
open Go.RowKit
theorem nbr_fill {l:List Int} {W x y m:Nat} (hx:x<W) (hm:y*W+x=m) (hl:m<=l.length):nbr (fillL (l.take m) l.length) W x y=nbr l W x y:=by
 refine nbr_congr hx fun i hi => ?_
 rw [hm] at hi
 rw [zD,zD]
 unfold fillL
 rw [List.getElem?_append_left (by rw [zI];omega),List.getElem?_take_of_lt hi]
theorem back_one {l:List Int} {d:Nat} (hs:SmpOk d l) (W kind y x:Nat):wrapI (restAt l W d kind y x+guessI kind (nbr l W x y) d) d=l.getD (y*W+x) 0:=by
 obtain ⟨h0,h1⟩:=getD_ok hs (y*W+x)
 unfold restAt
 generalize guessI kind (nbr l W x y) d=g
 rw [Int.add_comm,wrapI_add_wrap,show g+(l.getD (y*W+x) 0-g)=l.getD (y*W+x) 0 by omega]
 exact wrapI_in h0 h1
theorem fill_all (l:List Int):fillL (l.take l.length) l.length=l:=by
 rw [zN]
 simp [fillL]
theorem flatten_get {α:Type} {W x:Nat} (hx:x<W):∀ (L:List (List α)) (y:Nat),(∀ a∈L,a.length=W)->y<L.length->L.flatten[y*W+x]?=(L[y]?).bind (·[x]?)
 | [],y,_,h=>by simp at h
 | a::L,0,h,_=>by
  have ha:=h a (by simp)
  rw [List.flatten_cons,Nat.zero_mul,Nat.zero_add,List.getElem?_append_left (by omega)]
  simp
 | a::L,y+1,h,hy=>by
  have ha:=h a (by simp)
  rw [List.flatten_cons,zS (by rw [ha,Nat.succ_mul];omega),ha,show (y+1)*W+x-W=y*W+x by rw [Nat.succ_mul];omega,flatten_get hx L y (fun b hb=>h b (by simp [hb])) (by simpa using hy)]
  simp
theorem foreL_at (l:List Int) {W H:Nat} (d:Nat) (ks:List Nat) {x y:Nat} (hy:y<H) (hx:x<W):(foreL l W H d ks).getD (y*W+x) 0=restAt l W d (ks.getD y 0) y x:=by
 have h:=flatten_get hx ((List.range H).map fun y=>rowL l W y d (ks.getD y 0)) y (fun a ha=>by
  obtain ⟨z,_,rfl⟩:=List.mem_map.1 ha
  exact rowL_len _ _ _ _ _) (by simpa using hy)
 unfold foreL
 rw [zD,List.flatMap_def,h,zW,List.getElem?_range hy]
 simp [rowL,hx]
theorem fore_back (l:List Int) (W H d:Nat) (ks:List Nat):((foreL l W H d ks).map fun v=>foldI v d).map (fun v=>wrapI v d)=foreL l W H d ks:=by
 rw [List.map_map]
 refine (List.map_congr_left fun v hv => ?_).trans (List.map_id _)
 obtain ⟨h0,h1⟩:=foreL_ok l W H d ks v hv
 show wrapI (foldI v d) d=v
 rw [foldI_wrap,wrapI_in h0 h1]
def symsTo (lens:List Nat) (k n:Nat):List Nat:=((rankL lens).take k).filter fun s=>lenAt lens s==n
def firstTo (lens:List Nat) (k n:Nat):Nat:=match symsTo lens k n with | []=>0 | s::_=>wordOf lens s
def longTo (lens:List Nat) (k:Nat):Nat:=match k with | 0=>0 | k+1=>lenAt lens ((rankL lens).getD k 0)
theorem symsTo_succ {lens:List Nat} {k:Nat} (h:k<(rankL lens).length) (n:Nat):symsTo lens (k+1) n=symsTo lens k n++(if lenAt lens ((rankL lens).getD k 0)=n then [(rankL lens).getD k 0] else []):=by
 unfold symsTo
 rw [<-List.take_append_getElem h,List.filter_append,List.filter_cons,List.filter_nil,zD,zF h]
 congr 1
 simp only [Option.getD_some,beq_iff_eq]
theorem symsTo_other {lens:List Nat} {k n:Nat} (h:k<(rankL lens).length) (hn:lenAt lens ((rankL lens).getD k 0)≠n):symsTo lens (k+1) n=symsTo lens k n:=by
 rw [symsTo_succ h,if_neg hn,List.append_nil]
theorem symsTo_same {lens:List Nat} {k n:Nat} (h:k<(rankL lens).length) (hn:lenAt lens ((rankL lens).getD k 0)=n):symsTo lens (k+1) n=symsTo lens k n++[(rankL lens).getD k 0]:=by
 rw [symsTo_succ h,if_pos hn]
theorem firstTo_other {lens:List Nat} {k n:Nat} (h:k<(rankL lens).length) (hn:lenAt lens ((rankL lens).getD k 0)≠n):firstTo lens (k+1) n=firstTo lens k n:=by
 unfold firstTo
 rw [symsTo_other h hn]
theorem firstTo_new {lens:List Nat} {k n:Nat} (h:k<(rankL lens).length) (hn:lenAt lens ((rankL lens).getD k 0)=n) (he:symsTo lens k n=[]):firstTo lens (k+1) n=wordOf lens ((rankL lens).getD k 0):=by
 unfold firstTo
 rw [symsTo_same h hn,he]
 rfl
theorem firstTo_old {lens:List Nat} {k n:Nat} (h:k<(rankL lens).length) (hn:lenAt lens ((rankL lens).getD k 0)=n) (he:symsTo lens k n≠[]):firstTo lens (k+1) n=firstTo lens k n:=by
 unfold firstTo
 rw [symsTo_same h hn]
 cases hq:symsTo lens k n with
 | nil=>exact absurd hq he
 | cons a l=>rfl
theorem symsTo_len (lens:List Nat) (k n:Nat):(symsTo lens k n).length<=lens.length:=by
 unfold symsTo
 have h1:=List.length_filter_le (fun s=>lenAt lens s==n) ((rankL lens).take k)
 have h2:=rank_len lens 24
 unfold rankL at *
 rw [zI] at h1
 omega
def fullK (lens:List Nat):Nat:=(rankL lens).length
theorem rankTo_split (lens:List Nat) (n:Nat):∀ d,∃ X,rankTo lens (n+d)=rankTo lens n++X/\∀ s∈X,n<lenAt lens s
 | 0=>⟨[],by simp,by simp⟩
 | d+1=>by
  obtain ⟨X,h1,h2⟩:=rankTo_split lens n d
  refine ⟨X++blockTo lens (n+d+1) lens.length,by rw [show n+(d+1)=n+d+1 by omega,rankTo_succ,h1,zH],fun s hs => ?_⟩
  rcases zP.1 hs with h | h
  ·exact h2 s h
  ·have:=(mem_block.1 h).2;omega
theorem rank_split (lens:List Nat) {n:Nat} (h0:0<n) (hn:n<=24):∃ X,rankL lens=rankTo lens (n-1)++(blockTo lens n lens.length++X)/\∀ s∈X,n<lenAt lens s:=by
 obtain ⟨X,h1,h2⟩:=rankTo_split lens n (24-n)
 refine ⟨X,?_,h2⟩
 have e:rankTo lens n=rankTo lens (n-1)++blockTo lens n lens.length:=by
  have:=rankTo_succ lens (n-1)
  rwa [show n-1+1=n by omega] at this
 rw [show n+(24-n)=24 by omega,e,zH] at h1
 exact h1
theorem syms_full (lens:List Nat) {n:Nat} (h0:0<n) (hn:n<=24):symsTo lens (fullK lens) n=blockTo lens n lens.length:=by
 obtain ⟨X,h1,h2⟩:=rank_split lens h0 hn
 unfold symsTo fullK
 rw [zN,h1,List.filter_append,List.filter_append]
 have e1:(rankTo lens (n-1)).filter (fun s=>lenAt lens s==n)=[]:=by
  rw [List.filter_eq_nil_iff]
  intro s hs h
  have h3:=mem_rankTo.1 hs
  have h4:lenAt lens s=n:=by simpa using h
  omega
 have e2:X.filter (fun s=>lenAt lens s==n)=[]:=by
  rw [List.filter_eq_nil_iff]
  intro s hs h
  have h3:=h2 s hs
  have h4:lenAt lens s=n:=by simpa using h
  omega
 have e3:(blockTo lens n lens.length).filter (fun s=>lenAt lens s==n)=blockTo lens n lens.length:=by
  rw [List.filter_eq_self]
  intro s hs
  simpa using (mem_block.1 hs).2
 rw [e1,e2,e3]
 simp
theorem rank_at (lens:List Nat) {n i:Nat} (h0:0<n) (hn:n<=24) (hi:i<(blockTo lens n lens.length).length) :
  (rankTo lens (n-1)).length+i<(rankL lens).length/\(rankL lens).getD ((rankTo lens (n-1)).length+i) 0=(blockTo lens n lens.length).getD i 0:=by
 obtain ⟨X,h1,h2⟩:=rank_split lens h0 hn
 rw [h1]
 refine ⟨by simp;omega,?_⟩
 rw [zD,zS (by omega),show (rankTo lens (n-1)).length+i-(rankTo lens (n-1)).length=i by omega,List.getElem?_append_left hi,<-zD]
theorem block_at {lens:List Nat} {n i:Nat} (hi:i<(blockTo lens n lens.length).length):lenAt lens ((blockTo lens n lens.length).getD i 0)=n:=by
 have hm:(blockTo lens n lens.length).getD i 0∈blockTo lens n lens.length:=by
  rw [zD,zF hi];exact zG hi
 exact (mem_block.1 hm).2
theorem room_block (lens:List Nat) {n:Nat} (h0:0<n) (hn:n<=24):∀ i,i<=(blockTo lens n lens.length).length ->
  roomTo lens ((rankTo lens (n-1)).length+i)=roomTo lens (rankTo lens (n-1)).length+i*2^(24-n)
 | 0,_=>by simp
 | i+1,hi=>by
  obtain ⟨h1,h2⟩:=rank_at lens h0 hn (i:=i) (by omega)
  have h3:=roomTo_succ lens h1
  rw [h2,block_at (by omega),room_block lens h0 hn i (by omega)] at h3
  rw [show (rankTo lens (n-1)).length+(i+1)=(rankTo lens (n-1)).length+i+1 by omega,h3,Nat.add_mul,Nat.one_mul,Nat.add_assoc]
theorem first_full (lens:List Nat) {n:Nat} (h0:0<n) (hn:n<=24) (hb:0<(blockTo lens n lens.length).length) :
  firstTo lens (fullK lens) n=roomTo lens (rankTo lens (n-1)).length / 2^(24-n):=by
 obtain ⟨h1,h2⟩:=rank_at lens h0 hn hb
 have h3:=wordOf_rank h1
 rw [h2] at h3
 unfold firstTo
 rw [syms_full lens h0 hn]
 unfold wordAt at h3
 rw [h2,block_at hb] at h3
 cases hq:blockTo lens n lens.length with
 | nil=>rw [hq] at hb;simp at hb
 | cons a l =>
  rw [hq] at h3
  simpa using h3
theorem read_pass {lens:List Nat} (hle:∀ x∈lens,x<=24) {s n:Nat} (hs:0<lenAt lens s) (h0:0<n) (hn:n<lenAt lens s) :
  wordOf lens s / 2^(lenAt lens s-n)<firstTo lens (fullK lens) n\/firstTo lens (fullK lens) n+(symsTo lens (fullK lens) n).length<=wordOf lens s / 2^(lenAt lens s-n):=by
 obtain ⟨j,hj,rfl⟩:=rank_of hle hs
 obtain ⟨hp,hL,-⟩:=rank_lenAt hj
 have aa:n<=24:=by omega
 rw [syms_full lens h0 aa]
 rcases Nat.eq_zero_or_pos (blockTo lens n lens.length).length with hb | hb
 ·right
  have he:=List.eq_nil_of_length_eq_zero hb
  have:firstTo lens (fullK lens) n=0:=by unfold firstTo;rw [syms_full lens h0 aa,he]
  rw [this,hb];exact Nat.zero_le _
 ·right
  rw [wordOf_rank hj,first_full lens h0 aa hb]
  unfold wordAt
  generalize hLL:lenAt lens ((rankL lens).getD j 0)=L at *
  rw [Nat.div_div_eq_div_mul,<-Nat.pow_add,show 24-L+(L-n)=24-n by omega]
  have ab:(rankTo lens (n-1)).length+(blockTo lens n lens.length).length<=j:=by
   rcases zZ j ((rankTo lens (n-1)).length+(blockTo lens n lens.length).length) with h | h
   ·exfalso
    have h1:=rank_at lens h0 aa (i:=(blockTo lens n lens.length).length-1) (by omega)
    have h2:=rank_le (lens:=lens) (j:=j) (k:=(rankTo lens (n-1)).length+((blockTo lens n lens.length).length-1)) (by omega) h1.1
    rw [h1.2,block_at (by omega),hLL] at h2
    omega
   ·exact h
  have h3:=room_mono lens ab
  rw [room_block lens h0 aa _ (zQ _)] at h3
  have h4:=Nat.div_le_div_right (c:=2^(24-n)) h3
  rwa [Nat.add_mul_div_right _ _ (Nat.two_pow_pos _)] at h4
theorem read_hit {lens:List Nat} (hle:∀ x∈lens,x<=24) {s:Nat} (hs:0<lenAt lens s) :
  firstTo lens (fullK lens) (lenAt lens s)<=wordOf lens s/\wordOf lens s-firstTo lens (fullK lens) (lenAt lens s)<(symsTo lens (fullK lens) (lenAt lens s)).length /\
   (symsTo lens (fullK lens) (lenAt lens s)).getD (wordOf lens s-firstTo lens (fullK lens) (lenAt lens s)) 0=s:=by
 obtain ⟨j,hj,ab⟩:=rank_of hle hs
 obtain ⟨hp,hL,hN⟩:=rank_lenAt hj
 rw [ab] at hp hL hN
 generalize hLL:lenAt lens s=L at *
 have hm:s∈blockTo lens L lens.length:=mem_block.2 ⟨hN,hLL⟩
 obtain ⟨i,hi,he⟩:=List.getElem_of_mem hm
 have aa:(blockTo lens L lens.length).getD i 0=s:=by rw [zD,zF hi];exact he
 obtain ⟨h1,h2⟩:=rank_at lens hp hL hi
 have h3:=wordOf_rank h1
 rw [h2,aa] at h3
 unfold wordAt at h3
 rw [h2,aa,hLL,room_block lens hp hL _ (by omega),Nat.add_mul_div_right _ _ (Nat.two_pow_pos _)] at h3
 rw [syms_full lens hp hL,first_full lens hp hL (by omega),h3]
 refine ⟨by omega,by omega,?_⟩
 rw [show roomTo lens (rankTo lens (L-1)).length / 2^(24-L)+i-roomTo lens (rankTo lens (L-1)).length / 2^(24-L)=i by omega]
 exact aa
theorem long_full {lens:List Nat} (hle:∀ x∈lens,x<=24) {s:Nat} (hs:0<lenAt lens s):lenAt lens s<=longTo lens (fullK lens)/\longTo lens (fullK lens)<=24:=by
 obtain ⟨j,hj,rfl⟩:=rank_of hle hs
 unfold fullK
 obtain ⟨k,hk⟩:∃ k,(rankL lens).length=k+1:=⟨(rankL lens).length-1,by omega⟩
 rw [hk]
 exact ⟨rank_le (by omega) (by omega),(rank_lenAt (by omega)).2.1⟩
def crcStep (s:Nat):Nat:=if s%2=1 then (s / 2) ^^^ 3988292384 else s / 2
def crcSteps:Nat->Nat->Nat
 | 0,s=>s
 | n+1,s=>crcSteps n (crcStep s)
def crcByte (s c:Nat):Nat:=crcSteps 8 (s ^^^ c)
def crcGo (s:Nat) (ds:List Nat):Nat:=ds.foldl crcByte s
def crcN (ds:List Nat):Nat:=crcGo 4294967295 ds ^^^ 4294967295
theorem crcStep_lt {s:Nat} (h:s<4294967296):crcStep s<4294967296:=by
 unfold crcStep
 split
 ·exact Nat.xor_lt_two_pow (n:=32) (by omega) (by decide)
 ·omega
theorem crcSteps_lt:∀ (n:Nat) {s:Nat},s<4294967296->crcSteps n s<4294967296
 | 0,s,h=>h
 | n+1,s,h=>crcSteps_lt n (crcStep_lt h)
theorem crcByte_lt {s c:Nat} (h:s<4294967296) (hc:c<256):crcByte s c<4294967296 :=
 crcSteps_lt 8 (Nat.xor_lt_two_pow (n:=32) h (by omega))
theorem crcGo_lt:∀ (ds:List Nat) {s:Nat},s<4294967296->(∀ d∈ds,d<256)->crcGo s ds<4294967296
 | [],s,h,_=>h
 | d::ds,s,h,hd=>crcGo_lt ds (crcByte_lt h (hd d (by simp))) (fun x hx=>hd x (by simp [hx]))
theorem crcN_lt {ds:List Nat} (hd:∀ d∈ds,d<256):crcN ds<4294967296:=Nat.xor_lt_two_pow (n:=32) (crcGo_lt ds (by decide) hd) (by decide)
theorem crcGo_append (s:Nat) (a b:List Nat):crcGo s (a++b)=crcGo (crcGo s a) b:=List.foldl_append
theorem crcSteps_add:∀ (m n s:Nat),crcSteps (m+n) s=crcSteps n (crcSteps m s)
 | 0,n,s=>by rw [Nat.zero_add];rfl
 | m+1,n,s=>by
  rw [show m+1+n=(m+n)+1 by omega]
  show crcSteps (m+n) (crcStep s)=crcSteps n (crcSteps m (crcStep s))
  exact crcSteps_add m n _
def big4 (n:Nat):List Nat:=[n / 16777216%256,n / 65536%256,n / 256%256,n%256]
theorem big4_lt (n:Nat):∀ d∈big4 n,d<256:=by
 intro d hd
 unfold big4 at hd
 simp only [zJ,List.not_mem_nil,or_false] at hd
 omega
theorem slice_mid {P:Program} {t e:TypeId} (ht:P.underlying t=some (.slice e)) (hs:∀ w,(sizeOf e).run P w=.ok 1 w) (A:Option Addr) (n c lo m hi:Nat) (hhi:hi=lo+m) (h:hi<=n) (hnc:n<=c) :
  ∃ A',(∀ w,(Instr.slice t (.slice A n c) (some (.int .i64 lo)) (some (.int .i64 hi)) none).run P w=.ok (.slice A' m (c-lo)) w) /\
   (∀ ad,A'=some ad->∃ ad0,A=some ad0/\ad.block=ad0.block) /\
   ∀ (α:Type) (f:α->Value) (w:World) (l:List α),l.length=n->Cells f w A l->Cells f w A' ((l.drop lo).take m):=by
 have he:=elem_of ht
 subst hhi
 refine ⟨if c=lo then A else A.map (·.add (lo*1)),fun w => ?_,?_,?_⟩
 ·rw [run_slice_lh (P:=P) (w:=w) t A n c (by rw [he];exact ht) .i64 .i64 (lo:Int) ((lo+m:Nat):Int) (by omega) (by omega) (by omega),he,hs]
  simp [sliced]
  omega
 ·intro ad aa
  split at aa
  ·exact ⟨ad,aa,rfl⟩
  ·cases A with
   | none=>simp at aa
   | some ad0 =>
    simp at aa
    subst aa
    refine ⟨ad0,rfl,?_⟩
    unfold Addr.add
    split<;>rfl
 ·intro α f w l hl hc
  refine ⟨fun h0 => ?_⟩
  rw [zI,zO] at h0
  obtain ⟨b,o,rfl,hb,ab⟩:=hc.ex (by omega)
  rw [if_neg (by omega)]
  refine ⟨b,o+lo,?_,hb,fun i a ha => ?_⟩
  ·simp only [Option.map_some,Addr.add,Nat.mul_one]
   split
   ·rename_i h;subst h;rfl
   ·rfl
  ·rw [List.getElem?_take] at ha
   split at ha
   ·rw [List.getElem?_drop] at ha
    have:=ab (lo+i) a ha
    rwa [<-Nat.add_assoc] at this
   ·cases ha
end Go.Proofs.YtepjepkgcdfboaaGreatDoor
