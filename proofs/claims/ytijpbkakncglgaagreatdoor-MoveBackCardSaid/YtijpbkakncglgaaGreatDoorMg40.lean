/- Pictures out of other ones, plain Lean: what a block costs, and its bits. -/
import Derived.Test.YtijpbkakncglgaaGreatDoorMg37
import Derived.Test.YtijpbkakncglgaaGreatDoorMg39
set_option linter.unusedVariables false
set_option linter.unusedSimpArgs false
set_option maxHeartbeats 4000000
set_option maxRecDepth 100000
namespace Go.Proofs.YtijpbkakncglgaaGreatDoor
open Go.RowKit
def mvOk (W H:Nat) (s:Sq) (m:Int × Int):Prop:=-4≤m.1∧m.1≤4∧-4≤m.2∧m.2≤4∧0≤(s.x:Int)+m.1∧0≤(s.y:Int)+m.2∧(s.x:Int)+m.1+s.w≤W∧(s.y:Int)+m.2+s.h≤H
def oldB (p:PicD) (i:Nat) (s:Sq) (m:Int × Int):List Int:=partF (p.P.getD i []) p.W ((s.x:Int)+m.1).toNat ((s.y:Int)+m.2).toNat s.w s.h
theorem oldB_len (p:PicD) (i:Nat) (s:Sq) (m:Int × Int):(oldB p i s m).length=s.h*s.w:=partF_len _ _ _ _ _ _
theorem plane_mem {p:PicD} {i:Nat} (h:i<p.P.length):p.P.getD i []∈p.P:=by
 rw [zD,zF h]
 exact zG h
theorem oldB_smp {p:PicD} (h:p.Ok) {i:Nat} (hi:i<p.P.length) (s:Sq) (m:Int × Int):SmpOk p.d (oldB p i s m):=partF_smp (h.smp _ (plane_mem hi)) _ _ _ _ _
def costL (now old:List Int) (d:Nat):Nat:=(List.zipWith (fun a b=>(foldI (a-b) d).natAbs) now old).sum
def costB (p q:PicD) (s:Sq) (m:Int × Int):Nat:=((List.range q.P.length).map fun i=>costL (oldB q i s (0,0)) (oldB p i s m) q.d).sum
def sameB (p q:PicD) (s:Sq) (m:Int × Int):Bool:=(List.range q.P.length).all fun i=>decide (oldB q i s (0,0)=oldB p i s m)
def diffB (p q:PicD) (i:Nat) (s:Sq) (m:Int × Int):List Int:=diffW (oldB q i s (0,0)) (oldB p i s m) q.d
theorem diffB_len (p q:PicD) (i:Nat) (s:Sq) (m:Int × Int):(diffB p q i s m).length=s.w*s.h:=by
 unfold diffB
 rw [diffW_len (by rw [oldB_len,oldB_len]),oldB_len,Nat.mul_comm]
def tileBest (D:List Int) (w h d:Nat):List Nat:=tileBits (bestKind D w h d) D w h d
def vecBits (m:Int × Int):List Nat:=bitsOf (m.1+4).toNat 4++bitsOf (m.2+4).toNat 4
def changeBits (p q:PicD) (s:Sq) (m:Int × Int) (n:Nat):List Nat:=(List.range n).flatMap fun i=>tileBest (diffB p q i s m) s.w s.h q.d
theorem changeBits_succ (p q:PicD) (s:Sq) (m:Int × Int) (n:Nat):changeBits p q s m (n+1)=changeBits p q s m n++tileBest (diffB p q n s m) s.w s.h q.d:=by
 unfold changeBits
 rw [List.range_succ,List.flatMap_append]
 simp
def blockBits (p q:PicD) (s:Sq) (m:Int × Int):List Nat :=
 if sameB p q s m=true then (if m=(0,0) then bitsOf 0 2 else bitsOf 1 2++vecBits m) else bitsOf 2 2++(vecBits m++changeBits p q s m q.P.length)
def moveBits (p q:PicD) (ss:List Sq) (ms:List (Int × Int)) (n:Nat):List Nat:=(List.range n).flatMap fun i=>blockBits p q (sqAt ss i) (ms.getD i (0,0))
theorem moveBits_succ (p q:PicD) (ss:List Sq) (ms:List (Int × Int)) (n:Nat):moveBits p q ss ms (n+1)=moveBits p q ss ms n++blockBits p q (sqAt ss n) (ms.getD n (0,0)):=by
 unfold moveBits
 rw [List.range_succ,List.flatMap_append]
 simp
theorem tileBest_len {D:List Int} {w h d:Nat} (hw0:1≤w) (hh0:1≤h) (h0:1≤d) (h1:d≤16) (hw:w≤16) (hh:h≤16) (hl:D.length=w*h):0<(tileBest D w h d).length∧(tileBest D w h d).length<200000 :=
 tile_len_small (bestKind_ok D w h d).1 hw0 hh0 h0 h1 hw hh hl (bestKind_ok D w h d).2.1
theorem changeBits_len (p q:PicD) {s:Sq} (m:Int × Int) (hw0:1≤s.w) (hh0:1≤s.h) (hw:s.w≤8) (hh:s.h≤8) (h0:1≤q.d) (h1:q.d≤16):∀ n,(changeBits p q s m n).length≤200000*n
 | 0=>by simp [changeBits]
 | n+1=>by
  rw [changeBits_succ,zC]
  have h2:=changeBits_len p q m hw0 hh0 hw hh h0 h1 n
  have h3:=(tileBest_len (D:=diffB p q n s m) hw0 hh0 h0 h1 (by omega) (by omega) (diffB_len _ _ _ _ _)).2
  omega
theorem vecBits_len (m:Int × Int):(vecBits m).length=8:=by unfold vecBits;rw [zC,bitsOf_len,bitsOf_len]
theorem blockBits_len (p q:PicD) {s:Sq} (m:Int × Int) (hw0:1≤s.w) (hh0:1≤s.h) (hw:s.w≤8) (hh:s.h≤8) (h0:1≤q.d) (h1:q.d≤16) (hn:q.P.length≤4):(blockBits p q s m).length≤800010:=by
 unfold blockBits
 split
 ·split
  ·rw [bitsOf_len];omega
  ·rw [zC,bitsOf_len,vecBits_len];omega
 ·have:=changeBits_len p q m hw0 hh0 hw hh h0 h1 q.P.length
  rw [zC,zC,bitsOf_len,vecBits_len]
  omega
theorem sqAt_mem {ss:List Sq} {i:Nat} (h:i<ss.length):sqAt ss i∈ss:=by
 unfold sqAt
 rw [zD,zF h]
 exact zG h
theorem moveBits_len (p q:PicD) {ss:List Sq} (ms:List (Int × Int)) (hs:∀ s∈ss,1≤s.w∧s.w≤8∧1≤s.h∧s.h≤8) (h0:1≤q.d) (h1:q.d≤16) (hn:q.P.length≤4):∀ n,n≤ss.length→(moveBits p q ss ms n).length≤800010*n
 | 0,_=>by simp [moveBits]
 | n+1,h=>by
  rw [moveBits_succ,zC]
  have h2:=moveBits_len p q ms hs h0 h1 hn n (by omega)
  obtain ⟨a,b,c,d⟩:=hs _ (sqAt_mem (i:=n) h)
  have h3:=blockBits_len p q (ms.getD n (0,0)) a c b d h0 h1 hn
  omega
def bwP (p q:PicD) (bs:List Sq) (s:Sq) (i:Nat):PicD:=⟨p.W,p.H,p.d,(List.range p.P.length).map fun k=>mixF (q.P.getD k []) (p.P.getD k []) p.W (if k<i then bs++[s] else bs)⟩
theorem mixF_smp {q l:List Int} {d W:Nat} {bs:List Sq} (hq:SmpOk d q) (hl:SmpOk d l):SmpOk d (mixF q l W bs):=by
 intro v hv
 unfold mixF at hv
 obtain ⟨k,_,rfl⟩:=List.mem_map.1 hv
 split
 ·exact getD_smp hq k
 ·exact getD_smp hl k
theorem bwP_len (p q:PicD) (bs:List Sq) (s:Sq) (i:Nat):(bwP p q bs s i).P.length=p.P.length:=by simp [bwP]
theorem bwP_get {p q:PicD} (bs:List Sq) (s:Sq) (i:Nat) {k:Nat} (hk:k<p.P.length):(bwP p q bs s i).P[k]?=some (mixF (q.P.getD k []) (p.P.getD k []) p.W (if k<i then bs++[s] else bs)):=by
 unfold bwP
 rw [List.getElem?_map,List.getElem?_range hk]
 rfl
theorem bwP_ok {p q:PicD} (hp:p.Ok) (hq:q.Ok) (ha:AlikeD p q) (bs:List Sq) (s:Sq) (i:Nat):(bwP p q bs s i).Ok where
 w0:=hp.w0
 w1:=hp.w1
 h0:=hp.h0
 h1:=hp.h1
 d0:=hp.d0
 d1:=hp.d1
 n0:=by rw [bwP_len];exact hp.n0
 n1:=by rw [bwP_len];exact hp.n1
 len:=fun l hl=>by
  unfold bwP at hl
  obtain ⟨k,hk,rfl⟩:=List.mem_map.1 hl
  rw [mixF_len]
  exact hp.len _ (plane_mem (by simpa using hk))
 smp:=fun l hl=>by
  unfold bwP at hl
  obtain ⟨k,hk,rfl⟩:=List.mem_map.1 hl
  have hk':k<p.P.length:=by simpa using hk
  refine mixF_smp ?_ (hp.smp _ (plane_mem hk'))
  show SmpOk p.d _
  rw [ha.d]
  exact hq.smp _ (plane_mem (by rw [←ha.n];exact hk'))
theorem bwP_succ {p q:PicD} (bs:List Sq) (s:Sq) {i:Nat} (hi:i<p.P.length):(bwP p q bs s i).P.set i (mixF (q.P.getD i []) (p.P.getD i []) p.W (bs++[s]))=(bwP p q bs s (i+1)).P:=by
 apply List.ext_getElem?
 intro k
 rcases Nat.lt_or_ge k p.P.length with hk | hk
 ·rw [bwP_get bs s (i+1) hk]
  by_cases he:i=k
  ·subst he
   rw [List.getElem?_set_self (by rw [bwP_len];exact hk),if_pos (by omega)]
  ·rw [List.getElem?_set_ne he,bwP_get bs s i hk]
   by_cases h1:k<i
   ·rw [if_pos h1,if_pos (by omega)]
   ·rw [if_neg h1,if_neg (by omega)]
 ·rw [List.getElem?_eq_none (by rw [List.length_set,bwP_len];exact hk),List.getElem?_eq_none (by rw [bwP_len];exact hk)]
theorem bwP_end (p q:PicD) (bs:List Sq) (s s':Sq):bwP p q bs s p.P.length=bwP p q (bs++[s]) s' 0:=by
 unfold bwP
 congr 1
 apply List.map_congr_left
 intro k hk
 have hk':k<p.P.length:=by simpa using hk
 rw [if_pos hk',if_neg (by omega)]
theorem bwP_start {p q:PicD} (s:Sq):bwP p q [] s 0=p:=by
 obtain ⟨W,H,d,P⟩:=p
 unfold bwP
 congr 1
 apply List.ext_getElem?
 intro k
 rcases Nat.lt_or_ge k P.length with hk | hk
 ·rw [List.getElem?_map,List.getElem?_range hk]
  simp only [Option.map_some,Nat.not_lt_zero,if_false]
  rw [mixF_nil,zD,zF hk]
  rfl
 ·rw [List.getElem?_eq_none (by simpa using hk),List.getElem?_eq_none hk]
theorem bwP_all {p q:PicD} (hp:p.Ok) (hq:q.Ok) (ha:AlikeD p q) (s:Sq):bwP p q (gridL p.W p.H 8) s 0=q:=by
 obtain ⟨a1,a2,a3,a4⟩:=ha
 obtain ⟨W,H,d,P⟩:=p
 obtain ⟨W',H',d',P'⟩:=q
 simp only at a1 a2 a3 a4
 subst a1
 subst a2
 subst a3
 unfold bwP
 congr 1
 apply List.ext_getElem?
 intro k
 rcases Nat.lt_or_ge k P.length with hk | hk
 ·have hk':k<P'.length:=by omega
  rw [List.getElem?_map,List.getElem?_range hk]
  simp only [Option.map_some,Nat.not_lt_zero,if_false]
  have e1:P.getD k []=P[k]:=by rw [zD,zF hk];rfl
  have e2:P'.getD k []=P'[k]:=by rw [zD,zF hk'];rfl
  have l1:=hp.len P[k] (zG hk)
  have l2:=hq.len P'[k] (zG hk')
  simp only at l1 l2
  rw [e1,e2,mixF_all (by rw [l1,l2]) (fun j hj=>grid_cover (by decide) (by rw [l1] at hj;exact hj)),zF hk']
 ·rw [List.getElem?_eq_none (by simpa using hk),List.getElem?_eq_none (by omega)]
theorem PicOwn.setPlane {w w':World} {p p':PicD} {gP cap:Nat} {xs:List Value} {gs:List Nat} (h:PicOwn w p gP cap xs gs) {i g:Nat} {u:Value} {l:List Int} (hx:xs[i]?=some u) (hg:gs[i]?=some g)
  (r:Row w' 3 u g (l.map vi)) (hc:Chg [g] w w') (hgP:gP≠g) (hok:p'.Ok) (hP:p'.P=p.P.set i l):PicOwn w' p' gP cap xs gs:=by
 refine ⟨hok,?_,?_⟩
 ·have hl:p'.P.length=p.P.length:=by rw [hP,List.length_set]
  rw [hl]
  exact h.row.chg hc (by simpa using hgP)
 ·rw [hP]
  exact h.pl.set hx hg r hc
theorem PicOwn.neP {w:World} {p:PicD} {gP cap:Nat} {xs:List Value} {gs:List Nat} (h:PicOwn w p gP cap xs gs) {i g:Nat} (hi:i<p.P.length) (hg:gs[i]?=some g):gP≠g:=by
 obtain ⟨g',c,h1,h2,h3,_⟩:=h.plane hi
 rw [hg] at h2
 injection h2 with h2
 subst h2
 exact h.row.ne_row h3 (by decide)
def sqV (s:Sq):Value:=.agg #[.int .i64 s.x,.int .i64 s.y,.int .i64 s.w,.int .i64 s.h]
theorem part_ok {w:World} {p:PicD} {g o:Nat} {B:Nat→Option Addr} {c:Nat→Nat} {G:List Nat} (cap:Nat) (h:PicAt w p g o B c G) (i:Nat) (hi:i<p.P.length) (s:Sq) (m:Int × Int)
  (x0:0≤(s.x:Int)+m.1) (x1:(s.x:Int)+m.1+s.w≤p.W) (y0:0≤(s.y:Int)+m.2) (y1:(s.y:Int)+m.2+s.h≤p.H) (sx4:s.x≤64) (sy4:s.y≤64) :
  Calls Tryz.prog 48 #[picV p g o cap,.int .i64 i,sqV s,.int .i64 m.1,.int .i64 m.2] w fun e w'=>∃ v F,e=.returned v∧Own w' 3 v F ((oldB p i s m).map vi)∧Chg [] w w'∧∀ x∈F,w.heap.size≤x:=by
 have hok:=h.ok
 obtain ⟨dx,dy⟩:=m
 simp only at x0 x1 y0 y1 ⊢
 unfold picV sqV
 obtain ⟨W,hW⟩:∃ W,W=p.W:=⟨_,rfl⟩
 obtain ⟨H,hH⟩:∃ H,H=p.H:=⟨_,rfl⟩
 obtain ⟨d,hd⟩:∃ d,d=p.d:=⟨_,rfl⟩
 obtain ⟨n,hn⟩:∃ n,n=p.P.length:=⟨_,rfl⟩
 obtain ⟨sx,sy,sw,sh⟩:=s
 simp only at x0 x1 y0 y1 sx4 sy4 ⊢
 obtain ⟨X,hX⟩:∃ X:Nat,(X:Int)=(sx:Int)+dx:=⟨((sx:Int)+dx).toNat,by omega⟩
 obtain ⟨Y,hY⟩:∃ Y:Nat,(Y:Int)=(sy:Int)+dy:=⟨((sy:Int)+dy).toNat,by omega⟩
 have hXW:X+sw≤W:=by omega
 have hYH:Y+sh≤H:=by omega
 have hW4:W≤64:=by rw [hW];exact hok.w1
 have hH4:H≤64:=by rw [hH];exact hok.h1
 obtain ⟨l,hl⟩:∃ l,l=p.P.getD i []:=⟨_,rfl⟩
 have hll:l.length=W*H:=by rw [hl,hW,hH];exact h.len hi
 have hold:oldB p i ⟨sx,sy,sw,sh⟩ (dx,dy)=partF l W X Y sw sh:=by
  unfold oldB
  simp only
  rw [←hX,←hY,←hl,←hW]
  rfl
 rw [hold]
 obtain ⟨b,q,hBi,hb,-⟩:=h.at_ hi
 have hcap:=h.cap i hi
 obtain ⟨N,hN⟩:∃ N,N=W*H:=⟨_,rfl⟩
 have hcel:∀ w',Chg [] w w'→w'.cell? ⟨g,o+i,none⟩=some (.slice (some ⟨b,q,none⟩) N (c i))∧Cells vi w' (some ⟨b,q,none⟩) l:=by
  intro w' hc
  have h1:=(h.same hc).cell i hi
  have h2:=(h.same hc).cells i hi
  rw [hBi] at h1 h2
  rw [←hW,←hH,←hN] at h1
  exact ⟨h1,by rw [hl];exact h2⟩
 rw [←hW,←hH,←hN] at hcap
 obtain ⟨M,hM⟩:∃ M,M=sw*sh:=⟨_,rfl⟩
 have hM4:M≤4096:=by rw [hM];exact Nat.mul_le_mul (show sw≤64 by omega) (show sh≤64 by omega)
 have hmul:(sw:Int)*(sh:Int)=(M:Int):=by rw [hM];simp
 have hmk:=run_make_room (P:=Tryz.prog) int_elem rfl .i64 .i64 M (by omega) (by omega)
 rw [←hW,←hH,←hd,←hn]
 have hbk:Blk (w.alloc (.cells #[.int .i64 W,.int .i64 H,.int .i64 d,.slice (some ⟨g,o,none⟩) n cap] 25)) w.heap.size 25 #[.int .i64 W,.int .i64 H,.int .i64 d,.slice (some ⟨g,o,none⟩) n cap]:=Blk.new w _ _
 obtain ⟨wA,hwA⟩:∃ wA,wA=(w.alloc (.cells #[.int .i64 W,.int .i64 H,.int .i64 d,.slice (some ⟨g,o,none⟩) n cap] 25)).alloc (.cells #[.int .i64 sx,.int .i64 sy,.int .i64 sw,.int .i64 sh] 45):=⟨_,rfl⟩
 have chA:Chg [] w wA:=by rw [hwA];exact ((Chg.refl [] w).alloc _).alloc _
 have hbA:Blk wA w.heap.size 25 #[.int .i64 W,.int .i64 H,.int .i64 d,.slice (some ⟨g,o,none⟩) n cap]:=by rw [hwA];exact hbk.alloc _
 have hsA:Blk wA (w.heap.size+1) 45 #[.int .i64 sx,.int .i64 sy,.int .i64 sw,.int .i64 sh]:=by rw [hwA];exact Blk.new2 w _ _ _
 obtain ⟨w1,hw1⟩:∃ w1,w1=wA.alloc (.cells (List.replicate M (Value.int .i64 0)).toArray 3):=⟨_,rfl⟩
 have hrow0:Row w1 3 (.slice (some ⟨wA.heap.size,0,none⟩) 0 M) wA.heap.size []:=by rw [hw1];exact Row.room wA M (by omega)
 have ch1:Chg [] wA w1:=by rw [hw1];exact (Chg.refl [] wA).alloc _
 have hzA:wA.heap.size=w.heap.size+1+1:=by rw [hwA,alloc_size,alloc_size]
 have HCA:=hid chA
 have HC1:=hid ch1
 have HBA:=hid hbA
 have HSA:=hid hsA
 have HR0:=hid hrow0
 have HZ:=hid hzA
 have HW1:Hid (w1=((w.alloc (.cells #[.int .i64 W,.int .i64 H,.int .i64 d,.slice (some ⟨g,o,none⟩) n cap] 25)).alloc (.cells #[.int .i64 sx,.int .i64 sy,.int .i64 sw,.int .i64 sh] 45)).alloc (.cells (Array.replicate M (Value.int .i64 0)) 3)):=hid (by rw [hw1,hwA,List.toArray_replicate])
 have HCL:=hid hcel
 have hin:i<n:=by omega
 have HLL:=hid hll
 have HN:=hid hN
 have eX:(sx:Int)+dx=(X:Int):=hX.symm
 have eY:(sy:Int)+dy=(Y:Int):=hY.symm
 have HYH:=hid hYH
 have HXW:=hid hXW
 clear hW hH hd hn hok hX hold hl hll hBi hb hcel hM hbk hwA hw1 hrow0 ch1 chA hbA hsA hzA h hi hN x0 x1 y0 y1 hY
 go_enter Tryz.func48,Tryz.ntmps48
 go_wp2_with fail
 rw [←HW1.out,←HZ.out]
 obtain ⟨YH,hYHd⟩:∃ YH,YH=Y+sh:=⟨_,rfl⟩
 have eYH:(Y:Int)+(sh:Int)=(YH:Int):=by omega
 have HYHd:=hid hYHd
 have hYH1:YH≤64:=by have:=HYH.out;omega
 have hsh:sh≤64:=by have:=HYH.out;omega
 have hY4:Y≤64:=by have:=HYH.out;omega
 clear hYHd
 go_loopg [11,12,13] sh (fun j v11 v12 v13 wr=>∃ (k Yk:Nat) (F:List Nat),v12=.int .i64 Yk∧Hid (Yk=Y+k)∧k+j=sh∧Yk+j=YH∧Hid (Own wr 3 v11 F ((partF l W X Y sw k).map vi))∧Hid (Chg [] wA wr)∧Hid (∀ x∈F,wA.heap.size≤x))
 case atStart=>exact ⟨0,Y,[wA.heap.size],rfl,hid rfl,by omega,by have := HYHd.out;omega,hid (by simpa [partF] using HR0.out.toOwn),HC1,hid (by intro x hx;simp at hx;omega)⟩
 case round =>
  obtain ⟨k,Yk,F,rfl,HYK,hkj,hYj,HO,HC,HF⟩:=hrel
  have a0:=(HBA.out.chg HC.out (by simp)).cell 0
  have a3:=(HBA.out.chg HC.out (by simp)).cell 3
  have s0:=(HSA.out.chg HC.out (by simp)).cell 0
  have s1:=(HSA.out.chg HC.out (by simp)).cell 1
  have s2:=(HSA.out.chg HC.out (by simp)).cell 2
  have s3:=(HSA.out.chg HC.out (by simp)).cell 3
  simp at a0 a3 s0 s1 s2 s3
  rcases gk with _ | j
  ·have t1:decide (Yk<YH)=false:=zA (by omega)
   have hks:k=sh:=by omega
   have hfin:=HO.out
   rw [hks] at hfin
   have HFIN:=hid hfin
   have hnew:Hid (∀ x∈F,w.heap.size≤x):=hid (fun x hx=>by have:=HF.out x hx;have:=HCA.out.size;omega)
   clear hks hfin
   go_wp2
   go_ret
   exact ⟨_,F,rfl,HFIN.out,HCA.out.trans_same HC.out,hnew.out⟩
  ·have t1:decide (Yk<YH)=true:=zB (by omega)
   obtain ⟨P,hP⟩:∃ P,P=Yk*W:=⟨_,rfl⟩
   have eP:(Yk:Int)*(W:Int)=(P:Int):=by rw [hP];simp
   have hYk64:Yk<64:=by omega
   have hP4:P≤4096:=by rw [hP];exact Nat.mul_le_mul (show Yk≤64 by omega) hW4
   obtain ⟨Q,hQ⟩:∃ Q,Q=P+sx:=⟨_,rfl⟩
   have eQ:(P:Int)+(sx:Int)=(Q:Int):=by omega
   obtain ⟨at_,hat⟩:∃ at_,at_=P+X:=⟨_,rfl⟩
   have eat:(Q:Int)+dx=(at_:Int):=by omega
   obtain ⟨hi,hhi⟩:∃ hi,hi=at_+sw:=⟨_,rfl⟩
   have ehi:(at_:Int)+(sw:Int)=(hi:Int):=by omega
   have hfit:hi≤N:=by
    have h1:=HXW.out
    have h2:Yk+1≤H:=by have:=HYH.out;have:=HYK.out;omega
    have h3:=Nat.mul_le_mul_right W h2
    rw [Nat.succ_mul] at h3
    have h4:=HN.out
    rw [Nat.mul_comm W H] at h4
    omega
   obtain ⟨A',hsl,-,hcl⟩:=slice_mid (P:=Tryz.prog) Tryz.underlying22 size_int (some ⟨b,q,none⟩) N (c i) at_ sw hi hhi hfit hcap.1
   have hrowl:Hid ((l.drop at_).take sw=(List.range sw).map fun i=>l.getD ((Y+k)*W+(X+i)) 0):=hid (by
    have h1:=row_slice (l:=l) (W:=W) (H:=H) (x:=X) (Y:=Yk) (w:=sw) HLL.out HXW.out (by have:=HYH.out;have:=HYK.out;omega)
    rw [hat,hP,h1,HYK.out])
   obtain ⟨R,hR⟩:∃ R,R=(l.drop at_).take sw:=⟨_,rfl⟩
   have hRl:R.length=sw:=by rw [hR,hrowl.out];simp
   have hLN:l.length=N:=by rw [HLL.out,HN.out]
   have hcR:∀ wz,Chg [] w wz→Cells vi wz A' R:=fun wz hz=>by rw [hR];exact hcl Int vi wz l hLN (HCL.out wz hz).2
   have hpl:(partF l W X Y sw k).length≤4096:=by rw [partF_len];exact Nat.mul_le_mul (show k≤64 by omega) (show sw≤64 by have:=HXW.out;omega)
   have hns:Hid (partF l W X Y sw (k+1)=partF l W X Y sw k++R):=hid (by rw [partF_succ,hR,hrowl.out])
   have hcw:=(HCL.out wr (HCA.out.trans_same HC.out)).1
   have HCR:=hid hcR
   have HPL:=hid hpl
   have HRL:=hid hRl
   have hsw:sw≤64:=by have:=HXW.out;omega
   have hX4:X≤64:=by have:=HXW.out;omega
   have hQ4:Q≤4200:=by omega
   have hat4:at_≤4200:=by omega
   have hhi4:hi≤4300:=by omega
   clear hP hQ hat hhi hR hcl hcR hpl hRl hLN
   go_wp2_with fail
   refine wp_region_quiet_tail 12 (by kernel_rfl) (by kernel_rfl) ?_
   simp only [List.take_succ_cons,List.take_zero,List.drop_succ_cons,List.drop_zero]
   repeat (go_big_quiet_step (fail))
   trace_state
   refine wpQuiet_nil ?_
   intro _ hw'
   obtain ⟨nq,rfl⟩:=hw'
   have hown:=HO.out.drewN nq
   have hcv:Cells (fun u=>u) (wr.drewN nq) A' (R.map vi):=by
    have h1:=HCR.out (wr.drewN nq) ((HCA.out.trans_same HC.out).drewN nq)
    refine ⟨fun h0 => ?_⟩
    obtain ⟨b,o,e1,e2,e3⟩:=h1.ex (by simpa using h0)
    refine ⟨b,o,e1,e2,fun i a ha => ?_⟩
    rw [List.getElem?_map] at ha
    obtain ⟨x,hx,rfl⟩:=Option.map_eq_some_iff.1 ha
    exact e3 i x hx
   have HCV:=hid hcv
   clear hcv
   go_wp2_with (at_builtin;refine wpList_append_s rfl rfl int_elem rfl rfl hown (R.map vi) sw rfl ?c1 ?c2 ?c3 ?c4 ?c5 ?_)
   case c1=>rw [zE];exact HRL.out.symm
   case c2=>exact HCV.out
   case c3=>exact vi_one _
   case c4=>rw [zE,zE,HRL.out];have := HPL.out;omega
   case c5=>rw [zE,zE,HRL.out];have := HPL.out;omega
   intro v' F' w2 h2 h3
   go_wp2_with fail
   go_roundg j
   case measure=>omega
   case rel =>
    refine ⟨k+1,Yk+1,F',by go_num,hid (by rw [HYK.out];omega),by omega,by omega,hid ?_,hid ?_,hid ?_⟩
    ·rw [hns.out,List.map_append]
     exact h2
    ·refine (HC.out.drewN nq).trans h3.chg fun x hx => .inr ?_
     exact HF.out x hx
    ·intro x hx
     rcases h3.new x hx with h | h
     ·exact HF.out x h
     ·have:=HC.out.size;simp at h;omega
theorem mabs_ok (v:Int) (w:World) (h0 : -1099511627776≤v) (h1:v≤1099511627776):Calls Tryz.prog 47 #[.int .i64 v] w fun e w'=>e=.returned (.int .i64 v.natAbs)∧w=w':=by
 by_cases hv:v<0
 ·have t1:decide (v<0)=true:=zB hv
  have e:(v.natAbs:Int)=-v:=by omega
  rw [e]
  clear e
  go_enter Tryz.func47,Tryz.ntmps47
  go_wp2
  go_ret
  exact ⟨rfl,rfl⟩
 ·have t1:decide (v<0)=false:=zA hv
  have e:(v.natAbs:Int)=v:=by omega
  rw [e]
  clear e
  go_enter Tryz.func47,Tryz.ntmps47
  go_wp2
  go_ret
  exact ⟨rfl,rfl⟩
def mvB (W H:Nat) (s:Sq) (m:Int × Int):Bool:=decide (-4≤m.1)&&(decide (m.1≤4)&&(decide (-4≤m.2)&&(decide (m.2≤4)&&(decide (0≤(s.x:Int)+m.1)&&(decide (0≤(s.y:Int)+m.2)&&(decide ((s.x:Int)+m.1+s.w≤W)&&decide ((s.y:Int)+m.2+s.h≤H)))))))
theorem mvB_iff (W H:Nat) (s:Sq) (m:Int × Int):mvB W H s m=true ↔ mvOk W H s m:=by
 unfold mvB mvOk
 simp only [Bool.and_eq_true,decide_eq_true_eq]
theorem mvB_false {W H:Nat} {s:Sq} {m:Int × Int} (h:¬ mvOk W H s m):mvB W H s m=false:=by
 rw [←Bool.not_eq_true]
 exact fun e=>h ((mvB_iff W H s m).1 e)
theorem isMove_ok (W H d n g o cap:Nat) (s:Sq) (m:Int × Int) (w:World) (hW:W≤64) (hH:H≤64) (h1:s.x≤64) (h2:s.y≤64) (h3:s.w≤64) (h4:s.h≤64) (m1 : -64≤m.1) (m2:m.1≤64) (m3 : -64≤m.2) (m4:m.2≤64) :
  Calls Tryz.prog 26 #[.agg #[.int .i64 W,.int .i64 H,.int .i64 d,.slice (some ⟨g,o,none⟩) n cap],sqV s,.int .i64 m.1,.int .i64 m.2] w fun e w'=>e=.returned (.bool (mvB W H s m))∧Chg [] w w':=by
 have hff:=fun h=>mvB_false (W:=W) (H:=H) (s:=s) (m:=m) h
 have htt:=(mvB_iff W H s m).2
 generalize mvB W H s m=z at *
 unfold mvOk at hff htt
 obtain ⟨dx,dy⟩:=m
 obtain ⟨sx,sy,sw,sh⟩:=s
 unfold sqV
 simp only at h1 h2 h3 h4 m1 m2 m3 m4 hff htt ⊢
 obtain ⟨X,hX⟩:∃ X:Int,X=(sx:Int)+dx:=⟨_,rfl⟩
 obtain ⟨Y,hY⟩:∃ Y:Int,Y=(sy:Int)+dy:=⟨_,rfl⟩
 rw [←hX,←hY] at hff htt
 have eX:(sx:Int)+dx=X:=hX.symm
 have eY:(sy:Int)+dy=Y:=hY.symm
 obtain ⟨XW,hXW⟩:∃ XW:Int,XW=X+(sw:Int):=⟨_,rfl⟩
 obtain ⟨YH,hYH⟩:∃ YH:Int,YH=Y+(sh:Int):=⟨_,rfl⟩
 rw [←hXW,←hYH] at hff htt
 have eXW:X+(sw:Int)=XW:=hXW.symm
 have eYH:Y+(sh:Int)=YH:=hYH.symm
 have bX0 : -64≤X:=by omega
 have bX1:X≤128:=by omega
 have bY0 : -64≤Y:=by omega
 have bY1:Y≤128:=by omega
 have bXW0 : -64≤XW:=by omega
 have bXW1:XW≤256:=by omega
 have bYH0 : -64≤YH:=by omega
 have bYH1:YH≤256:=by omega
 clear hX hY hXW hYH
 obtain ⟨wA,hwA⟩:∃ wA,wA=(w.alloc (.cells #[.int .i64 W,.int .i64 H,.int .i64 d,.slice (some ⟨g,o,none⟩) n cap] 25)).alloc (.cells #[.int .i64 sx,.int .i64 sy,.int .i64 sw,.int .i64 sh] 45):=⟨_,rfl⟩
 have HCA:Hid (Chg [] w wA):=hid (by rw [hwA];exact ((Chg.refl [] w).alloc _).alloc _)
 have hbA:Blk wA w.heap.size 25 #[.int .i64 W,.int .i64 H,.int .i64 d,.slice (some ⟨g,o,none⟩) n cap]:=by rw [hwA];exact (Blk.new w _ _).alloc _
 have hsA:Blk wA (w.heap.size+1) 45 #[.int .i64 sx,.int .i64 sy,.int .i64 sw,.int .i64 sh]:=by rw [hwA];exact Blk.new2 w _ _ _
 have HWA:=hid hwA
 have a0:=hbA.cell 0
 have a1:=hbA.cell 1
 have s0:=hsA.cell 0
 have s1:=hsA.cell 1
 have s2:=hsA.cell 2
 have s3:=hsA.cell 3
 simp at a0 a1 s0 s1 s2 s3
 have HFF:=hid hff
 have HTT:=hid htt
 clear hwA hbA hsA hff htt
 by_cases c1:dx < -4
 ·obtain rfl:z=false:=HFF.out (by omega)
  have t1:decide (dx < -4)=true:=zB c1
  go_enter Tryz.func26,Tryz.ntmps26
  go_wp2_with fail
  go_ret
  exact ⟨rfl,((Chg.refl [] w).alloc _).alloc _⟩
 have t1:decide (dx < -4)=false:=zA c1
 by_cases c2:4<dx
 ·obtain rfl:z=false:=HFF.out (by omega)
  have t2:decide (4<dx)=true:=zB c2
  go_enter Tryz.func26,Tryz.ntmps26
  go_wp2_with fail
  go_ret
  exact ⟨rfl,((Chg.refl [] w).alloc _).alloc _⟩
 have t2:decide (4<dx)=false:=zA c2
 by_cases c3:dy < -4
 ·obtain rfl:z=false:=HFF.out (by omega)
  have t3:decide (dy < -4)=true:=zB c3
  go_enter Tryz.func26,Tryz.ntmps26
  go_wp2_with fail
  go_ret
  exact ⟨rfl,((Chg.refl [] w).alloc _).alloc _⟩
 have t3:decide (dy < -4)=false:=zA c3
 by_cases c4:4<dy
 ·obtain rfl:z=false:=HFF.out (by omega)
  have t4:decide (4<dy)=true:=zB c4
  go_enter Tryz.func26,Tryz.ntmps26
  go_wp2_with fail
  go_ret
  exact ⟨rfl,((Chg.refl [] w).alloc _).alloc _⟩
 have t4:decide (4<dy)=false:=zA c4
 go_enter Tryz.func26,Tryz.ntmps26
 go_wp2_with fail
 rw [←HWA.out]
 go_quiet (fail)
 have HCQ:=hid (HCA.out.drewN nq)
 by_cases c5:X<0
 ·obtain rfl:z=false:=HFF.out (by omega)
  have t5:decide (0≤X)=false:=zA (by omega)
  go_wp2_with fail
  go_ret
  exact ⟨rfl,HCQ.out⟩
 have t5:decide (0≤X)=true:=zB (by omega)
 by_cases c6:Y<0
 ·obtain rfl:z=false:=HFF.out (by omega)
  have t6:decide (0≤Y)=false:=zA (by omega)
  go_wp2_with fail
  go_ret
  exact ⟨rfl,HCQ.out⟩
 have t6:decide (0≤Y)=true:=zB (by omega)
 by_cases c7:XW≤W
 ·have t7:decide (XW≤(W:Int))=true:=zB c7
  by_cases c8:YH≤H
  ·have t8:decide (YH≤(H:Int))=true:=zB c8
   obtain rfl:z=true:=HTT.out (by omega)
   go_wp2_with fail
   go_ret
   exact ⟨rfl,HCQ.out⟩
  ·have t8:decide (YH≤(H:Int))=false:=zA c8
   obtain rfl:z=false:=HFF.out (by omega)
   go_wp2_with fail
   go_ret
   exact ⟨rfl,HCQ.out⟩
 ·have t7:decide (XW≤(W:Int))=false:=zA c7
  obtain rfl:z=false:=HFF.out (by omega)
  go_wp2_with fail
  go_ret
  exact ⟨rfl,HCQ.out⟩
def costTo (now old:List Int) (d k:Nat):Nat:=costL (now.take k) (old.take k) d
theorem costTo_succ {now old:List Int} {d k:Nat} (h1:k<now.length) (h2:k<old.length):costTo now old d (k+1)=costTo now old d k+(foldI (now[k]-old[k]) d).natAbs:=by
 unfold costTo costL
 rw [List.take_succ_eq_append_getElem h1,List.take_succ_eq_append_getElem h2,List.zipWith_append (by rw [List.length_take,List.length_take];omega)]
 simp
theorem costTo_full {now old:List Int} {d:Nat} (h:now.length=old.length):costTo now old d now.length=costL now old d:=by
 unfold costTo
 rw [List.take_length,List.take_of_length_le (by omega)]
theorem fold_abs {d:Nat} (h0:1≤d) (h1:d≤16) (v:Int):(foldI v d).natAbs≤32768:=by
 obtain ⟨a,b⟩:=foldI_range v h0
 have h2:=(pow_d h0 h1).2
 have h3:=two_pow_half h0
 generalize (2:Int)^(d-1)=x at *
 generalize (2:Int)^d=y at *
 omega
theorem costTo_le {d:Nat} (h0:1≤d) (h1:d≤16) (now old:List Int):∀ k,costTo now old d k≤32768*k
 | 0=>by simp [costTo,costL]
 | k+1=>by
  have hk:=costTo_le h0 h1 now old k
  rcases Nat.lt_or_ge k now.length with h2 | h2
  ·rcases Nat.lt_or_ge k old.length with h3 | h3
   ·rw [costTo_succ h2 h3]
    have:=fold_abs h0 h1 (now[k]-old[k])
    omega
   ·have e:costTo now old d (k+1)=costTo now old d k:=by
     unfold costTo costL
     rw [List.take_of_length_le (i:=k+1) (by omega:old.length≤k+1),List.take_of_length_le (i:=k) (by omega:old.length≤k)]
     rw [List.zipWith_eq_zipWith_take_min (l₁:=now.take (k+1)),List.zipWith_eq_zipWith_take_min (l₁:=now.take k),List.length_take,List.length_take,List.take_take,List.take_take]
     rw [show min (min (k+1) now.length) old.length=min (min k now.length) old.length by omega,show min (min (min k now.length) old.length) (k+1)=min (min (min k now.length) old.length) k by omega]
    omega
  ·have e:costTo now old d (k+1)=costTo now old d k:=by
    unfold costTo costL
    rw [List.take_of_length_le (i:=k+1) (by omega:now.length≤k+1),List.take_of_length_le (i:=k) (by omega:now.length≤k)]
    rw [List.zipWith_eq_zipWith_take_min (l₂:=old.take (k+1)),List.zipWith_eq_zipWith_take_min (l₂:=old.take k),List.length_take,List.length_take,List.take_take,List.take_take]
    rw [show min now.length (min (k+1) old.length)=min now.length (min k old.length) by omega,show min (min now.length (min k old.length)) (k+1)=min (min now.length (min k old.length)) k by omega]
   omega
def costP' (p q:PicD) (s:Sq) (m:Int × Int) (i:Nat):Nat:=((List.range i).map fun i=>costL (oldB q i s (0,0)) (oldB p i s m) q.d).sum
theorem costPl_succ (p q:PicD) (s:Sq) (m:Int × Int) (i:Nat):costP' p q s m (i+1)=costP' p q s m i+costL (oldB q i s (0,0)) (oldB p i s m) q.d:=by
 unfold costP'
 rw [List.range_succ,List.map_append,List.sum_append]
 simp
theorem costPl_le (p q:PicD) (s:Sq) (m:Int × Int) (h0:1≤q.d) (h1:q.d≤16) (hw:s.w≤64) (hh:s.h≤64):∀ i,costP' p q s m i≤134217728*i
 | 0=>by simp [costP']
 | i+1=>by
  have h:=costPl_le p q s m h0 h1 hw hh i
  rw [costPl_succ,←costTo_full (by rw [oldB_len,oldB_len])]
  have h2:=costTo_le h0 h1 (oldB q i s (0,0)) (oldB p i s m) (oldB q i s (0,0)).length
  have h3:(oldB q i s (0,0)).length≤4096:=by rw [oldB_len];exact Nat.mul_le_mul hh hw
  omega
structure FitM (W H:Nat) (s:Sq) (m:Int × Int):Prop where
 x0:0≤(s.x:Int)+m.1
 x1:(s.x:Int)+m.1+s.w≤W
 y0:0≤(s.y:Int)+m.2
 y1:(s.y:Int)+m.2+s.h≤H
structure SqIn (W H:Nat) (s:Sq):Prop where
 x:s.x+s.w≤W
 y:s.y+s.h≤H
theorem SqIn.fit {W H:Nat} {s:Sq} (h:SqIn W H s):FitM W H s (0,0):=⟨by simp,by have:=h.x;simp;omega,by simp,by have:=h.y;simp;omega⟩
theorem mvOk.fit {W H:Nat} {s:Sq} {m:Int × Int} (h:mvOk W H s m):FitM W H s m:=⟨h.2.2.2.2.1,h.2.2.2.2.2.2.1,h.2.2.2.2.2.1,h.2.2.2.2.2.2.2⟩
theorem costOf_ok {w:World} {p q:PicD} {g o:Nat} {B:Nat→Option Addr} {c:Nat→Nat} {G:List Nat} (cap:Nat) (h:PicAt w p g o B c G)
  {g' o':Nat} {B':Nat→Option Addr} {c':Nat→Nat} {G':List Nat} (cap':Nat) (h':PicAt w q g' o' B' c' G') (ha:AlikeD p q) (s:Sq) (m:Int × Int) (hs:SqIn p.W p.H s) (hm:FitM p.W p.H s m) :
  Calls Tryz.prog 46 #[picV p g o cap,picV q g' o' cap',sqV s,.int .i64 m.1,.int .i64 m.2] w fun e w'=>e=.returned (.int .i64 (costB p q s m:Int))∧Chg [] w w':=by
 have hok:=h.ok
 have hw4:s.w≤64:=by have:=hs.x;have:=hok.w1;omega
 have hh4:s.h≤64:=by have:=hs.y;have:=hok.h1;omega
 have hx4:s.x≤64:=by have:=hs.x;have:=hok.w1;omega
 have hy4:s.y≤64:=by have:=hs.y;have:=hok.h1;omega
 have hpo:∀ w',Chg [] w w'→∀ i,i<q.P.length→_:=fun w' hc i hi=>part_ok cap (h.same hc) i (by rw [ha.n];exact hi) s m hm.x0 hm.x1 hm.y0 hm.y1 hx4 hy4
 have hf0:=hs.fit
 have hpn:∀ w',Chg [] w w'→∀ i,i<q.P.length→_:=fun w' hc i hi=>part_ok cap' (h'.same hc) i hi s (0,0) hf0.x0 (by rw [←ha.W];exact hf0.x1) hf0.y0 (by rw [←ha.H];exact hf0.y1) hx4 hy4
 have hle:=costPl_le p q s m h'.ok.d0 h'.ok.d1 hw4 hh4
 have hsu:=costPl_succ p q s m
 have hfi:costP' p q s m q.P.length=costB p q s m:=rfl
 have hto:∀ i k,costTo (oldB q i s (0,0)) (oldB p i s m) q.d k≤32768*k:=fun i k=>costTo_le h'.ok.d0 h'.ok.d1 _ _ k
 obtain ⟨n,hn⟩:∃ n,n=q.P.length:=⟨_,rfl⟩
 obtain ⟨d,hd⟩:∃ d,d=q.d:=⟨_,rfl⟩
 obtain ⟨M,hM⟩:∃ M,M=s.h*s.w:=⟨_,rfl⟩
 have hM4:M≤4096:=by rw [hM];exact Nat.mul_le_mul hh4 hw4
 have hn4:n≤4:=by rw [hn];exact h'.ok.n1
 have hd0:1≤d:=by rw [hd];exact h'.ok.d0
 have hd1:d≤16:=by rw [hd];exact h'.ok.d1
 have hlen1:∀ i,(oldB q i s (0,0)).length=M:=fun i=>by rw [oldB_len,hM]
 have hlen2:∀ i,(oldB p i s m).length=M:=fun i=>by rw [oldB_len,hM]
 have hsm1:∀ i,i<q.P.length→SmpOk q.d (oldB q i s (0,0)):=fun i hi=>oldB_smp h'.ok hi s (0,0)
 have hsm2:∀ i,i<q.P.length→SmpOk q.d (oldB p i s m):=fun i hi=>by rw [←ha.d];exact oldB_smp h.ok (by rw [ha.n];exact hi) s m
 have hdp:p.d=d:=by rw [hd];exact ha.d
 have hnp:p.P.length=n:=by rw [hn];exact ha.n
 unfold picV sqV at hpo hpn ⊢
 rw [←ha.W,←ha.H] at hpn ⊢
 rw [←hn,hdp,hnp] at hpo
 rw [←hn,←hd] at hpn
 rw [←hn] at hfi hsm1 hsm2
 rw [←hd] at hto hsu hsm1 hsm2
 rw [←hn,←hd,hdp,hnp]
 obtain ⟨w1,hw1⟩:∃ w1,w1=(((w.alloc (.cells #[.int .i64 p.W,.int .i64 p.H,.int .i64 d,.slice (some ⟨g,o,none⟩) n cap] 25)).alloc (.cells #[.int .i64 p.W,.int .i64 p.H,.int .i64 d,.slice (some ⟨g',o',none⟩) n cap'] 25)).alloc (.cells #[.int .i64 s.x,.int .i64 s.y,.int .i64 s.w,.int .i64 s.h] 45)):=⟨_,rfl⟩
 have hb1:Blk w1 w.heap.size 25 #[.int .i64 p.W,.int .i64 p.H,.int .i64 d,.slice (some ⟨g,o,none⟩) n cap]:=by rw [hw1];exact ((Blk.new w _ _).alloc _).alloc _
 have hb2:Blk w1 (w.heap.size+1) 25 #[.int .i64 p.W,.int .i64 p.H,.int .i64 d,.slice (some ⟨g',o',none⟩) n cap']:=by rw [hw1];exact (Blk.new2 w _ _ _).alloc _
 have hb3:Blk w1 (w.heap.size+1+1) 45 #[.int .i64 s.x,.int .i64 s.y,.int .i64 s.w,.int .i64 s.h]:=by rw [hw1];exact Blk.new3 w _ _ _ _
 have HC1:Hid (Chg [] w w1):=hid (by rw [hw1];exact (((Chg.refl [] w).alloc _).alloc _).alloc _)
 have HW1:=hid hw1
 have HB1:=hid hb1
 have HB2:=hid hb2
 have HB3:=hid hb3
 have HPO:=hid hpo
 have HPN:=hid hpn
 have HLE:=hid hle
 have HSU:=hid hsu
 have HFI:=hid hfi
 have HTO:=hid hto
 have HS1:=hid hsm1
 have HS2:=hid hsm2
 have HL1:=hid hlen1
 have HL2:=hid hlen2
 have hfd:∀ v w,_:=fun v w=>fold_ok v d w hd0 hd1
 have hfb:∀ v,(foldI v d).natAbs≤32768:=fun v=>fold_abs hd0 hd1 v
 obtain ⟨hpw0,hpw1⟩:=pow_d hd0 hd1
 have HFD:=hid hfd
 have HFB:=hid hfb
 clear hw1 hb1 hb2 hb3 hpo hpn hle hsu hfi hto hsm1 hsm2 hlen1 hlen2 hfd hfb hdp hnp hn hd hM hok h h' ha hs hm hf0 hw4 hh4 hx4 hy4 hd0 hd1
 go_enter Tryz.func46,Tryz.ntmps46
 go_wp2_with fail
 rw [←HW1.out]
 go_loopg [11,12,13,14,15,19] n (fun j v11 v12 v13 v14 v15 v19 wr=>∃ i C:Nat,v11=.int .i64 C∧v19=.int .i64 i∧i+j=n∧C≤536870912∧Hid (C=costP' p q s m i)∧Hid (Chg [] w1 wr))
 case atStart=>exact ⟨0,0,rfl,rfl,by omega,by omega,hid (by simp [costP']),hid (Chg.refl _ _)⟩
 case round =>
  obtain ⟨i,C,rfl,rfl,hij,hC,HC,HCH⟩:=hrel
  rcases gk with _ | j
  ·obtain rfl:i=n:=by omega
   have t1:decide (i<i)=false:=by simp
   have hfin:Hid ((C:Int)=(costB p q s m:Int)):=hid (by rw [HC.out,HFI.out])
   go_wp2
   go_ret
   exact ⟨by rw [←hfin.out];rfl,HC1.out.trans_same HCH.out⟩
  ·have hi:i<n:=by omega
   have t1:decide (i<n)=true:=zB hi
   have a0:=(HB1.out.chg HCH.out (by simp)).cell 0
   have a1:=(HB1.out.chg HCH.out (by simp)).cell 1
   have a2:=(HB1.out.chg HCH.out (by simp)).cell 2
   have a3:=(HB1.out.chg HCH.out (by simp)).cell 3
   have s0:=(HB3.out.chg HCH.out (by simp)).cell 0
   have s1:=(HB3.out.chg HCH.out (by simp)).cell 1
   have s2:=(HB3.out.chg HCH.out (by simp)).cell 2
   have s3:=(HB3.out.chg HCH.out (by simp)).cell 3
   simp at a0 a1 a2 a3 s0 s1 s2 s3
   have hp1:=HPO.out wr (HC1.out.trans_same HCH.out) i hi
   go_wp2_with fail
   refine hp1.mono ?_
   rintro e w4 ⟨v4,F4,rfl,own4,ch4,hF4⟩
   have HCH4:=hid (HCH.out.trans_same ch4)
   have hp2:=HPN.out w4 (HC1.out.trans_same HCH4.out) i hi
   clear hp1 a0 a1 a2 a3 s0 s1 s2 s3
   have a0:=(HB2.out.chg HCH4.out (by simp)).cell 0
   have a1:=(HB2.out.chg HCH4.out (by simp)).cell 1
   have a2:=(HB2.out.chg HCH4.out (by simp)).cell 2
   have a3:=(HB2.out.chg HCH4.out (by simp)).cell 3
   have s0:=(HB3.out.chg HCH4.out (by simp)).cell 0
   have s1:=(HB3.out.chg HCH4.out (by simp)).cell 1
   have s2:=(HB3.out.chg HCH4.out (by simp)).cell 2
   have s3:=(HB3.out.chg HCH4.out (by simp)).cell 3
   simp at a0 a1 a2 a3 s0 s1 s2 s3
   go_wp2_with fail
   refine hp2.mono ?_
   rintro e w5 ⟨v5,F5,rfl,own5,ch5,hF5⟩
   have HCH5:=hid (HCH4.out.trans_same ch5)
   clear hp2 a0 a1 a2 a3 s0 s1 s2 s3
   have b2:=(HB2.out.chg HCH5.out (by simp)).cell 2
   simp at b2
   obtain ⟨A4,c4,rfl,h41,h42,hc4⟩:=own4.open_map
   obtain ⟨A5,c5,rfl,h51,h52,hc5⟩:=own5.open_map
   obtain ⟨old,hold⟩:∃ old,old=oldB p i s m:=⟨_,rfl⟩
   obtain ⟨now,hnow⟩:∃ now,now=oldB q i s (0,0):=⟨_,rfl⟩
   have hlo:=HL2.out i
   have hln:=HL1.out i
   have hso:=HS2.out i hi
   have hsn:=HS1.out i hi
   have hstep:=HSU.out i
   have hbd:=HTO.out i
   rw [←hold] at hlo hso hc4 h41 hstep hbd
   rw [←hnow] at hln hsn hc5 h51 hstep hbd
   rw [←hold,←hnow,hlo,hln]
   rw [hlo] at h41
   rw [hln] at h51
   have hc4':=hc4.same ch5
   have HHO:=hid hold
   have HHN:=hid hnow
   have HLO:=hid hlo
   have HLN:=hid hln
   have HSO:=hid hso
   have HSN:=hid hsn
   have HST:=hid hstep
   have HBD:=hid hbd
   have HK4:=hid hc4'
   have HK5:=hid hc5
   have hall:C+costTo now old d M≤671088640:=by have:=hbd M;omega
   clear hold hnow hlo hln hso hsn hstep hbd hc4 hc5 hc4' own4 own5 ch4 ch5 hF4 hF5 hall
   go_wp2_with fail
   go_loopg [11,14,15,33] M (fun j2 v11 v14 v15 v33 wr2=>∃ k C2:Nat,v11=.int .i64 C2∧v33=.int .i64 k∧k+j2=M∧C2≤536870912+32768*k∧Hid (C2=C+costTo now old d k)∧Hid (Chg [] w5 wr2))
   case atStart=>exact ⟨0,C,rfl,rfl,by omega,by omega,hid (by simp [costTo,costL]),hid (Chg.refl _ _)⟩
   case round =>
    obtain ⟨k,C2,rfl,rfl,hkj,hC2,HC2,HQ⟩:=hrel
    rcases gk with _ | j2
    ·obtain rfl:k=M:=by omega
     have t2:decide (k<k)=false:=by simp
     have hnx:Hid (C2=costP' p q s m (i+1)):=hid (by
      have h1:=HST.out
      rw [←costTo_full (by rw [HLO.out,HLN.out]),HLN.out] at h1
      rw [h1,HC2.out,HC.out])
     have hb:C2≤536870912:=by have h1:=HLE.out (i+1);rw [←hnx.out] at h1;omega
     go_wp2
     go_roundg j
     case measure=>omega
     case rel=>exact ⟨i+1,C2,rfl,by go_num,by omega,hb,hnx,hid (HCH5.out.trans_same HQ.out)⟩
    ·have hk:k<M:=by omega
     have t2:decide (k<M)=true:=zB hk
     have hkn:k<now.length:=by rw [HLN.out];exact hk
     have hko:k<old.length:=by rw [HLO.out];exact hk
     obtain ⟨ga,oa,rfl,hcA⟩:=(HK4.out.same HQ.out).at_ hko
     obtain ⟨gb,ob,rfl,hcB⟩:=(HK5.out.same HQ.out).at_ hkn
     obtain ⟨x,hx⟩:∃ x,x=now[k]:=⟨_,rfl⟩
     obtain ⟨y,hy⟩:∃ y,y=old[k]:=⟨_,rfl⟩
     rw [←hy] at hcA
     rw [←hx] at hcB
     have cA:wr.cell? ⟨ga,oa+k,none⟩=some (.int .i64 y):=hcA
     have cB:wr.cell? ⟨gb,ob+k,none⟩=some (.int .i64 x):=hcB
     have hx0:=HSN.out now[k] (zG _)
     have hy0:=HSO.out old[k] (zG _)
     rw [←hx] at hx0
     rw [←hy] at hy0
     obtain ⟨hx1,hx2⟩:=hx0
     obtain ⟨hy1,hy2⟩:=hy0
     have hx3:x<65536:=by omega
     have hy3:y<65536:=by omega
     have hfo:=HFD.out (x-y)
     have hzb:=HFB.out (x-y)
     have b2':=(HB2.out.chg (HCH5.out.trans_same HQ.out) (by simp)).cell 2
     simp at b2'
     have hsc:=costTo_succ (d:=d) hkn hko
     rw [←hx,←hy] at hsc
     obtain ⟨z,hz⟩:∃ z,z=foldI (x-y) d:=⟨_,rfl⟩
     rw [←hz] at hfo hzb hsc
     have hab:=fun w=>mabs_ok z w (by omega) (by omega)
     obtain ⟨u,hu⟩:∃ u,u=z.natAbs:=⟨_,rfl⟩
     rw [←hu] at hab hzb hsc
     have HSC:=hid hsc
     have HFO:Hid (∀ w,Calls Tryz.prog 67 #[.int .i64 (x-y),.int .i64 d] w fun e w'=>e=.returned (.int .i64 z)∧w'=w):=hid (fun w=>(hfo w).mono fun e w' h=>⟨h.1,h.2.symm⟩)
     have HAB:Hid (∀ w,Calls Tryz.prog 47 #[.int .i64 z] w fun e w'=>e=.returned (.int .i64 u)∧w'=w):=hid (fun w=>(hab w).mono fun e w' h=>⟨h.1,h.2.symm⟩)
     clear hcA hcB hx hy hsc hz hu hkn hko hfo hab hx2 hy2
     have hw1:IntKind.i64.wrap (x-y)=x-y:=IntWalk.i64_in _ (by omega)
     have hw2:IntKind.i64.wrap ((C2:Int)+(u:Int))=(C2:Int)+(u:Int):=IntWalk.i64_in _ (by omega)
     go_wp2_with fail
     go_quiet ((first | (go_at_call 67;exact Calls.quiet_of_same (HFO.out _)) | (go_at_call 47;exact Calls.quiet_of_same (HAB.out _))))
     go_wp2
     go_roundg j2
     case measure=>omega
     case rel=>exact ⟨k+1,C2+u,by go_num,by go_num,by omega,by omega,hid (by rw [HSC.out,HC2.out];omega),hid (HQ.out.drewN nq)⟩
structure BestM (p q:PicD) (s:Sq) (tried:Int × Int→Prop) (dx dy:Int) (c:Nat):Prop where
 ok:mvOk p.W p.H s (dx,dy)
 cost:c=costB p q s (dx,dy)
 le:∀ m,tried m→mvOk p.W p.H s m→c≤costB p q s m
 le0:c≤costB p q s (0,0)
 zero:costB p q s (0,0)=0→dx=0∧dy=0
theorem mvOk_zero {W H:Nat} {s:Sq} (h:SqIn W H s):mvOk W H s (0,0):=⟨by simp,by simp,by simp,by simp,by simp,by simp,by have:=h.x;simp;omega,by have:=h.y;simp;omega⟩
theorem BestM.start (p q:PicD) (s:Sq) (h:SqIn p.W p.H s):BestM p q s (fun _=>False) 0 0 (costB p q s (0,0)):=⟨mvOk_zero h,rfl,fun _ h=>h.elim,Nat.le_refl _,fun _=>⟨rfl,rfl⟩⟩
theorem BestM.skip {p q:PicD} {s:Sq} {tried:Int × Int→Prop} {dx dy:Int} {c:Nat} (h:BestM p q s tried dx dy c) (m0:Int × Int) (hn:¬ mvOk p.W p.H s m0):BestM p q s (fun m=>tried m∨m=m0) dx dy c :=
 ⟨h.ok,h.cost,fun m hm ho=>by
  rcases hm with hm | rfl
  ·exact h.le m hm ho
  ·exact absurd ho hn,h.le0,h.zero⟩
theorem BestM.keep {p q:PicD} {s:Sq} {tried:Int × Int→Prop} {dx dy:Int} {c:Nat} (h:BestM p q s tried dx dy c) (m0:Int × Int) (hc:c≤costB p q s m0):BestM p q s (fun m=>tried m∨m=m0) dx dy c :=
 ⟨h.ok,h.cost,fun m hm ho=>by
  rcases hm with hm | rfl
  ·exact h.le m hm ho
  ·exact hc,h.le0,h.zero⟩
theorem BestM.take {p q:PicD} {s:Sq} {tried:Int × Int→Prop} {dx dy:Int} {c:Nat} (h:BestM p q s tried dx dy c) (u v:Int) (ho:mvOk p.W p.H s (u,v)) (hc:costB p q s (u,v)<c∨costB p q s (u,v)=c∧u.natAbs+v.natAbs<dx.natAbs+dy.natAbs):BestM p q s (fun m=>tried m∨m=(u,v)) u v (costB p q s (u,v)) where
 ok:=ho
 cost:=rfl
 le:=fun m hm hmo=>by
  rcases hm with hm | rfl
  ·have:=h.le m hm hmo
   omega
  ·exact Nat.le_refl _
 le0:=by have:=h.le0;omega
 zero:=fun h0=>by
  obtain ⟨a,b⟩:=h.zero h0
  have:=h.le0
  subst a
  subst b
  rcases hc with hc | ⟨_,hc⟩
  ·omega
  ·simp at hc
theorem BestM.mono {p q:PicD} {s:Sq} {tried tried':Int × Int→Prop} {dx dy:Int} {c:Nat} (h:BestM p q s tried dx dy c) (hm:∀ m,tried' m→tried m):BestM p q s tried' dx dy c :=
 { h with le:=fun m h1 h2=>h.le m (hm m h1) h2 }
def triedUV (U V:Int) (m:Int × Int):Prop:=-4≤m.1∧m.1≤4∧-4≤m.2∧(m.2<V∨m.2=V∧m.1<U)
theorem tried_next {U V:Int} (m:Int × Int) (h:triedUV (U+1) V m):triedUV U V m∨m=(U,V):=by
 obtain ⟨a,b⟩:=m
 obtain ⟨h1,h2,h3,h4⟩:=h
 simp only at h1 h2 h3 h4
 by_cases he:a=U∧b=V
 ·right;rw [he.1,he.2]
 ·left
  refine ⟨h1,h2,h3,?_⟩
  simp only
  omega
theorem tried_row {V:Int} (m:Int × Int) (h:triedUV (-4) (V+1) m):triedUV 5 V m:=by
 obtain ⟨a,b⟩:=m
 obtain ⟨h1,h2,h3,h4⟩:=h
 simp only at h1 h2 h3 h4
 refine ⟨h1,h2,h3,?_⟩
 simp only
 omega
def SearchPost (w:World) (p q:PicD) (s:Sq) (e:Ending) (w':World):Prop :=
 ∃ (dx dy:Int) (c:Nat),e=.returned (.tuple #[.int .i64 dx,.int .i64 dy,.int .i64 c])∧BestM p q s (fun _=>True) dx dy c∧Chg [] w w'
theorem search_ok {w:World} {p q:PicD} {g o:Nat} {B:Nat→Option Addr} {c:Nat→Nat} {G:List Nat} (cap:Nat) (h:PicAt w p g o B c G)
  {g' o':Nat} {B':Nat→Option Addr} {c':Nat→Nat} {G':List Nat} (cap':Nat) (h':PicAt w q g' o' B' c' G') (ha:AlikeD p q) (s:Sq) (hs:SqIn p.W p.H s) :
  Calls Tryz.prog 25 #[picV p g o cap,picV q g' o' cap',sqV s] w (SearchPost w p q s):=by
 have hok:=h.ok
 have hw4:s.w≤64:=by have:=hs.x;have:=hok.w1;omega
 have hh4:s.h≤64:=by have:=hs.y;have:=hok.h1;omega
 have hx4:s.x≤64:=by have:=hs.x;have:=hok.w1;omega
 have hy4:s.y≤64:=by have:=hs.y;have:=hok.h1;omega
 have hco:∀ w',Chg [] w w'→∀ m:Int × Int,FitM p.W p.H s m→_:=fun w' hc m hm=>costOf_ok cap (h.same hc) cap' (h'.same hc) ha s m hs hm
 have him:∀ w' (m:Int × Int),-4≤m.1→m.1≤4→-4≤m.2→m.2≤4→_:=fun w' m m1 m2 m3 m4=>isMove_ok p.W p.H p.d p.P.length g o cap s m w' hok.w1 hok.h1 hx4 hy4 hw4 hh4 (by omega) (by omega) (by omega) (by omega)
 have hle:∀ m,costB p q s m≤536870912:=fun m=>by
  have h1:=costPl_le p q s m h'.ok.d0 h'.ok.d1 hw4 hh4 q.P.length
  have h2:=h'.ok.n1
  have h3:costB p q s m=costP' p q s m q.P.length:=rfl
  omega
 have hst:=BestM.start p q s hs
 have hf0:=hs.fit
 unfold picV sqV at hco ⊢
 unfold sqV at him
 obtain ⟨w1,hw1⟩:∃ w1,w1=(((w.alloc (.cells #[.int .i64 p.W,.int .i64 p.H,.int .i64 p.d,.slice (some ⟨g,o,none⟩) p.P.length cap] 25)).alloc (.cells #[.int .i64 q.W,.int .i64 q.H,.int .i64 q.d,.slice (some ⟨g',o',none⟩) q.P.length cap'] 25)).alloc (.cells #[.int .i64 s.x,.int .i64 s.y,.int .i64 s.w,.int .i64 s.h] 45)):=⟨_,rfl⟩
 have hb1:Blk w1 w.heap.size 25 #[.int .i64 p.W,.int .i64 p.H,.int .i64 p.d,.slice (some ⟨g,o,none⟩) p.P.length cap]:=by rw [hw1];exact ((Blk.new w _ _).alloc _).alloc _
 have hb2:Blk w1 (w.heap.size+1) 25 #[.int .i64 q.W,.int .i64 q.H,.int .i64 q.d,.slice (some ⟨g',o',none⟩) q.P.length cap']:=by rw [hw1];exact (Blk.new2 w _ _ _).alloc _
 have hb3:Blk w1 (w.heap.size+1+1) 45 #[.int .i64 s.x,.int .i64 s.y,.int .i64 s.w,.int .i64 s.h]:=by rw [hw1];exact Blk.new3 w _ _ _ _
 have HC1:Hid (Chg [] w w1):=hid (by rw [hw1];exact (((Chg.refl [] w).alloc _).alloc _).alloc _)
 have HW1:=hid hw1
 have hcel:∀ wr,Chg [] w1 wr→(wr.cell? ⟨w.heap.size,0,none⟩=some (.int .i64 p.W)∧wr.cell? ⟨w.heap.size,1,none⟩=some (.int .i64 p.H)∧wr.cell? ⟨w.heap.size,2,none⟩=some (.int .i64 p.d)∧wr.cell? ⟨w.heap.size,3,none⟩=some (.slice (some ⟨g,o,none⟩) p.P.length cap)) ∧
   (wr.cell? ⟨w.heap.size+1,0,none⟩=some (.int .i64 q.W)∧wr.cell? ⟨w.heap.size+1,1,none⟩=some (.int .i64 q.H)∧wr.cell? ⟨w.heap.size+1,2,none⟩=some (.int .i64 q.d)∧wr.cell? ⟨w.heap.size+1,3,none⟩=some (.slice (some ⟨g',o',none⟩) q.P.length cap')) ∧
   (wr.cell? ⟨w.heap.size+1+1,0,none⟩=some (.int .i64 s.x)∧wr.cell? ⟨w.heap.size+1+1,1,none⟩=some (.int .i64 s.y)∧wr.cell? ⟨w.heap.size+1+1,2,none⟩=some (.int .i64 s.w)∧wr.cell? ⟨w.heap.size+1+1,3,none⟩=some (.int .i64 s.h)):=fun wr hc =>
  ⟨⟨(hb1.chg hc (by simp)).cell 0,(hb1.chg hc (by simp)).cell 1,(hb1.chg hc (by simp)).cell 2,(hb1.chg hc (by simp)).cell 3⟩,⟨(hb2.chg hc (by simp)).cell 0,(hb2.chg hc (by simp)).cell 1,(hb2.chg hc (by simp)).cell 2,(hb2.chg hc (by simp)).cell 3⟩,⟨(hb3.chg hc (by simp)).cell 0,(hb3.chg hc (by simp)).cell 1,(hb3.chg hc (by simp)).cell 2,(hb3.chg hc (by simp)).cell 3⟩⟩
 have HCEL:=hid hcel
 have HCO:=hid hco
 have HIM:=hid him
 have HLE:=hid hle
 have HST:=hid hst
 have hc0:=hco w1 HC1.out (0,0) hf0
 simp only at hc0
 clear hw1 hb1 hb2 hb3 hcel hco him hle hst hok h h' ha hs hf0 hw4 hh4 hx4 hy4
 go_enter Tryz.func25,Tryz.ntmps25
 go_wp2_with fail
 rw [←HW1.out]
 refine hc0.mono ?_
 rintro e w2 ⟨rfl,ch2⟩
 have HC2:=hid ch2
 obtain ⟨c0,hc0e⟩:∃ c0,c0=costB p q s (0,0):=⟨_,rfl⟩
 rw [←hc0e]
 have HC0:=hid hc0e
 have hc0b:c0≤536870912:=by rw [hc0e];exact HLE.out _
 clear hc0 ch2 hc0e
 go_wp2_with fail
 go_loopg [6,7,8,9,10,11] 9 (fun j v6 v7 v8 v9 v10 v11 wr=>∃ (dx dy V:Int) (C:Nat),v6=.int .i64 dx∧v7=.int .i64 dy∧v8=.int .i64 C∧v9=.int .i64 V∧V+j=5∧-4≤V∧C≤536870912∧Hid (BestM p q s (triedUV (-4) V) dx dy C)∧Hid (Chg [] w1 wr))
 case atStart=>exact ⟨0,0,-4,c0,rfl,rfl,rfl,rfl,by omega,by omega,hc0b,hid (by rw [HC0.out];exact HST.out.mono fun m h=>by obtain ⟨_,_,h3,h4⟩ := h;omega),HC2⟩
 case round =>
  obtain ⟨dx,dy,V,C,rfl,rfl,rfl,rfl,hVj,hV4,hC,HB,HCH⟩:=hrel
  rcases gk with _ | j
  ·have t1:decide (V≤4)=false:=zA (by omega)
   have hV5:V=5:=by omega
   have hfin:=HB.out.mono (tried':=fun _=>True)
   go_wp2
   refine bodyPost_ret (v:=.tuple #[.int .i64 dx,.int .i64 dy,.int .i64 C]) (by simp [results,Tryz.results25,go_sem]) rfl ?_
   have hb:=HB.out
   refine ⟨dx,dy,C,rfl,⟨hb.ok,hb.cost,fun m _ ho=>hb.le m ?_ ho,hb.le0,hb.zero⟩,HC1.out.trans_same HCH.out⟩
   obtain ⟨h1,h2,h3,h4,_⟩:=ho
   exact ⟨h1,h2,h3,by omega⟩
  ·have t1:decide (V≤4)=true:=zB (by omega)
   have hV3:V≤4:=by omega
   have HVJ:=hid hVj
   clear hVj
   go_wp2_with fail
   go_loopg [6,7,8,10,11] 9 (fun j2 v6 v7 v8 v10 v11 wr2=>∃ (dx dy U:Int) (C:Nat),v6=.int .i64 dx∧v7=.int .i64 dy∧v8=.int .i64 C∧v10=.int .i64 U∧U+j2=5∧-4≤U∧C≤536870912∧Hid (BestM p q s (triedUV U V) dx dy C)∧Hid (Chg [] w1 wr2))
   case atStart=>exact ⟨dx,dy,-4,C,rfl,rfl,rfl,rfl,by omega,by omega,hC,HB,HCH⟩
   case round =>
    obtain ⟨dx,dy,U,C,rfl,rfl,rfl,rfl,hUj,hU4,hC,HB,HCH⟩:=hrel
    rcases gk with _ | j2
    ·have t2:decide (U≤4)=false:=zA (by omega)
     have hU5:U=5:=by omega
     have HU:=hid hU5
     clear hU5
     go_wp2
     go_roundg j
     case measure=>omega
     case rel=>exact ⟨dx,dy,V+1,C,rfl,rfl,rfl,by go_num,by have := HVJ.out;omega,by omega,hC,hid (HB.out.mono fun m h=>by rw [HU.out];exact tried_row m h),HCH⟩
    ·have t2:decide (U≤4)=true:=zB (by omega)
     have hU3:U≤4:=by omega
     have HUJ:=hid hUj
     clear hUj
     obtain ⟨⟨a0,a1,a2,a3⟩,⟨b0,b1,b2,b3⟩,⟨s0,s1,s2,s3⟩⟩:=HCEL.out wr HCH.out
     have hi:=HIM.out wr (U,V) hU4 hU3 hV4 hV3
     simp only at hi
     have hiff:=mvB_iff p.W p.H s (U,V)
     obtain ⟨z,hz⟩:∃ z,z=mvB p.W p.H s (U,V):=⟨_,rfl⟩
     rw [←hz] at hi hiff
     have HIFF:=hid hiff
     clear hz hiff
     go_wp2_with fail
     refine hi.mono ?_
     rintro e w3 ⟨rfl,ch3⟩
     have HCH3:=hid (HCH.out.trans_same ch3)
     clear hi ch3 a0 a1 a2 a3 b0 b1 b2 b3 s0 s1 s2 s3
     cases z with
     | false =>
      have hno:Hid (¬ mvOk p.W p.H s (U,V)):=hid (fun h=>by have:=HIFF.out.2 h;simp at this)
      go_wp2_with fail
      go_roundg j2
      case measure=>omega
      case rel=>exact ⟨dx,dy,U+1,C,rfl,rfl,rfl,by go_num,by have := HUJ.out;omega,by omega,hC,hid ((HB.out.skip _ hno.out).mono fun m h=>tried_next m h),HCH3⟩
     | true =>
      have hyes:Hid (mvOk p.W p.H s (U,V)):=hid (HIFF.out.1 rfl)
      obtain ⟨⟨a0,a1,a2,a3⟩,⟨b0,b1,b2,b3⟩,⟨s0,s1,s2,s3⟩⟩:=HCEL.out w3 HCH3.out
      have hc:=HCO.out w3 (HC1.out.trans_same HCH3.out) (U,V) hyes.out.fit
      have hcb:=HLE.out (U,V)
      simp only at hc
      obtain ⟨D,hD⟩:∃ D,D=costB p q s (U,V):=⟨_,rfl⟩
      rw [←hD] at hc hcb
      have HD:=hid hD
      clear hD
      go_wp2_with fail
      refine hc.mono ?_
      rintro e w4 ⟨rfl,ch4⟩
      have HCH4:=hid (HCH3.out.trans_same ch4)
      clear hc ch4 a0 a1 a2 a3 b0 b1 b2 b3 s0 s1 s2 s3
      rcases Nat.lt_trichotomy D C with hlt | heq | hgt
      ·have t3:decide (D<C)=true:=zB hlt
       have hnx:Hid (BestM p q s (triedUV (U+1) V) U V D):=hid (by rw [HD.out];exact (HB.out.take U V hyes.out (.inl (by rw [←HD.out];exact hlt))).mono fun m h=>tried_next m h)
       go_wp2_with fail
       go_roundg j2
       case measure=>omega
       case rel=>exact ⟨U,V,U+1,D,rfl,rfl,rfl,by go_num,by have := HUJ.out;omega,by omega,hcb,hnx,HCH4⟩
      ·subst heq
       have t3:decide (D<D)=false:=by simp
       have t4:((D:Int)==(D:Int))=true:=by simp
       have hok:=HB.out.ok
       obtain ⟨k1,k2,k3,k4,_⟩:=hok
       simp only at k1 k2 k3 k4
       have h1:=fun w=>mabs_ok U w (by omega) (by omega)
       have h2:=fun w=>mabs_ok V w (by omega) (by omega)
       have h3:=fun w=>mabs_ok dx w (by omega) (by omega)
       have h4:=fun w=>mabs_ok dy w (by omega) (by omega)
       obtain ⟨aU,haU⟩:∃ aU,aU=U.natAbs:=⟨_,rfl⟩
       obtain ⟨aV,haV⟩:∃ aV,aV=V.natAbs:=⟨_,rfl⟩
       obtain ⟨ax,hax⟩:∃ ax,ax=dx.natAbs:=⟨_,rfl⟩
       obtain ⟨ay,hay⟩:∃ ay,ay=dy.natAbs:=⟨_,rfl⟩
       rw [←haU] at h1
       rw [←haV] at h2
       rw [←hax] at h3
       rw [←hay] at h4
       have b1:aU≤4:=by omega
       have b2:aV≤4:=by omega
       have b3:ax≤4:=by omega
       have b4:ay≤4:=by omega
       obtain ⟨S1,hS1⟩:∃ S1,S1=aU+aV:=⟨_,rfl⟩
       obtain ⟨S2,hS2⟩:∃ S2,S2=ax+ay:=⟨_,rfl⟩
       have e1:(aU:Int)+(aV:Int)=(S1:Int):=by omega
       have e2:(ax:Int)+(ay:Int)=(S2:Int):=by omega
       have HA:Hid (S1=U.natAbs+V.natAbs∧S2=dx.natAbs+dy.natAbs):=hid ⟨by omega,by omega⟩
       have b5:S1≤8:=by omega
       have b6:S2≤8:=by omega
       clear haU haV hax hay hS1 hS2
       by_cases hS:S1<S2
       ·have t5:decide (S1<S2)=true:=zB hS
        have hnx:Hid (BestM p q s (triedUV (U+1) V) U V D):=hid (by
         have hA:=HA.out
         have h:=(HB.out.take U V hyes.out (.inr ⟨HD.out.symm,by omega⟩)).mono fun m h=>tried_next m h
         rw [←HD.out] at h
         exact h)
        go_wp2_with fail
        refine (h1 _).mono ?_
        rintro e w' ⟨rfl,rfl⟩
        go_wp2_with fail
        refine (h2 _).mono ?_
        rintro e w' ⟨rfl,rfl⟩
        go_wp2_with fail
        refine (h3 _).mono ?_
        rintro e w' ⟨rfl,rfl⟩
        go_wp2_with fail
        refine (h4 _).mono ?_
        rintro e w' ⟨rfl,rfl⟩
        go_wp2_with fail
        go_roundg j2
        case measure=>omega
        case rel=>exact ⟨U,V,U+1,D,rfl,rfl,rfl,by go_num,by have := HUJ.out;omega,by omega,hcb,hnx,HCH4⟩
       ·have t5:decide (S1<S2)=false:=zA hS
        have hnx:Hid (BestM p q s (triedUV (U+1) V) dx dy D):=hid ((HB.out.keep (U,V) (by rw [←HD.out];exact Nat.le_refl _)).mono fun m h=>tried_next m h)
        go_wp2_with fail
        refine (h1 _).mono ?_
        rintro e w' ⟨rfl,rfl⟩
        go_wp2_with fail
        refine (h2 _).mono ?_
        rintro e w' ⟨rfl,rfl⟩
        go_wp2_with fail
        refine (h3 _).mono ?_
        rintro e w' ⟨rfl,rfl⟩
        go_wp2_with fail
        refine (h4 _).mono ?_
        rintro e w' ⟨rfl,rfl⟩
        go_wp2_with fail
        go_roundg j2
        case measure=>omega
        case rel=>exact ⟨dx,dy,U+1,D,rfl,rfl,rfl,by go_num,by have := HUJ.out;omega,by omega,hcb,hnx,HCH4⟩
      ·have t3:decide (D<C)=false:=zA (by omega)
       have t4:((D:Int)==(C:Int))=false:=by rw [beq_eq_false_iff_ne];omega
       have hnx:Hid (BestM p q s (triedUV (U+1) V) dx dy C):=hid ((HB.out.keep (U,V) (by rw [←HD.out];omega)).mono fun m h=>tried_next m h)
       go_wp2_with fail
       go_roundg j2
       case measure=>omega
       case rel=>exact ⟨dx,dy,U+1,C,rfl,rfl,rfl,by go_num,by have := HUJ.out;omega,by omega,hC,hnx,HCH4⟩
theorem nodup_set {α:Type} {l:List α} {i:Nat} {x:α} (h:l.Nodup) (hx:x∉l):(l.set i x).Nodup:=by
 rw [List.Nodup,List.pairwise_iff_getElem] at h ⊢
 intro a b ha hb hab e
 rw [List.length_set] at ha hb
 have hm:∀ k (hk:k<l.length),l[k]∈l:=fun k hk=>zG hk
 rw [List.getElem_set,List.getElem_set] at e
 split at e
 ·split at e
  ·omega
  ·exact hx (e ▸ hm b hb)
 ·split at e
  ·exact hx (e ▸ hm a ha)
  ·exact h a b ha hb hab e
theorem PlRows.replace {w w':World} {xs:List Value} {P:List (List Int)} {gs F:List Nat} (h:PlRows w xs P gs) {i g:Nat} {u:Value} {l:List Int} (hi:i<P.length)
  (r:Row w' 3 u g (l.map vi)) (hc:Chg F w w') (hd:∀ x∈gs,x∉F) (hg:g∉gs):PlRows w' (xs.set i u) (P.set i l) (gs.set i g):=by
 refine ⟨by rw [List.length_set,List.length_set,h.lx],by rw [List.length_set,List.length_set,h.lg],nodup_set h.nd hg,fun k l' hl => ?_⟩
 by_cases hk:i=k
 ·subst hk
  rw [List.getElem?_set_self hi] at hl
  injection hl with hl
  subst hl
  exact ⟨u,g,List.getElem?_set_self (by rw [h.lx];exact hi),List.getElem?_set_self (by rw [h.lg];exact hi),r⟩
 ·rw [List.getElem?_set_ne hk] at hl
  obtain ⟨u',g',h1,h2,h3⟩:=h.row k l' hl
  exact ⟨u',g',by rw [List.getElem?_set_ne hk];exact h1,by rw [List.getElem?_set_ne hk];exact h2,h3.chg hc (hd g' (List.mem_of_getElem? h2))⟩
theorem PicOwn.replace {w wa:World} {p p':PicD} {gP cap:Nat} {xs:List Value} {gs F:List Nat} (h:PicOwn w p gP cap xs gs) {i g:Nat} {u:Value} {l:List Int} (hi:i<p.P.length)
  (r:Row wa 3 u g (l.map vi)) (hc:Chg F w wa) (hF:∀ x∈gP::gs,x∉F) (hg:w.heap.size≤g) (hok:p'.Ok) (hP:p'.P=p.P.set i l) :
  PicOwn (wa.setCell ⟨gP,i,none⟩ u) p' gP cap (xs.set i u) (gs.set i g):=by
 have hgg:g∉gs:=fun hm=>by have:=h.pl.lt g hm;omega
 have hgP:gP≠g:=fun e=>by have:=h.ltP;omega
 have hPg:gP∉gs:=fun hm=>by
  obtain ⟨k,hk,e⟩:=List.getElem_of_mem hm
  have hk':k<p.P.length:=by rw [←h.pl.lg];exact hk
  have:=h.neP hk' (zF hk)
  exact this e.symm
 have hc0:Chg [gP] wa (wa.setCell ⟨gP,i,none⟩ u):=(Chg.refl [gP] wa).setCell (p:=⟨gP,i,none⟩) (.inl (by simp)) u
 refine ⟨hok,?_,?_⟩
 ·have hl:p'.P.length=p.P.length:=by rw [hP,List.length_set]
  rw [hl]
  exact (h.row.chg hc (hF gP (by simp))).set_ (by rw [h.pl.lx];exact hi) u
 ·rw [hP]
  have h1:=h.pl.replace hi r hc (fun x hx=>hF x (by simp [hx])) hgg
  refine h1.chg hc0 ?_
  intro x hx hm
  simp at hm
  subst hm
  rcases List.mem_or_eq_of_mem_set hx with h2 | h2
  ·exact hPg h2
  ·exact hgP h2
theorem PicOwn.sample {w:World} {p p':PicD} {gP cap:Nat} {xs:List Value} {gs:List Nat} (h:PicOwn w p gP cap xs gs) {i g k:Nat} {u:Value} {v:Int} (hx:xs[i]?=some u) (hg:gs[i]?=some g) (hi:i<p.P.length)
  (hr:Row w 3 u g ((p.P.getD i []).map vi)) (hk:k<(p.P.getD i []).length) (hok:p'.Ok) (hP:p'.P=p.P.set i ((p.P.getD i []).set k v)) :
  PicOwn (w.setCell ⟨g,k,none⟩ (.int .i64 v)) p' gP cap xs gs:=by
 have h1:=hr.set_ (i:=k) (by rw [zE];exact hk) (.int .i64 v)
 have e:((p.P.getD i []).map vi).set k (.int .i64 v)=((p.P.getD i []).set k v).map vi:=by rw [List.map_set];rfl
 rw [e] at h1
 exact h.setPlane hx hg h1 ((Chg.refl [g] w).setCell (p:=⟨g,k,none⟩) (.inl (by simp)) _) (h.neP hi hg) hok hP
def setP (p:PicD) (i:Nat) (l:List Int):PicD:=⟨p.W,p.H,p.d,p.P.set i l⟩
theorem setP_ok {p:PicD} (h:p.Ok) (i:Nat) {l:List Int} (hl:l.length=p.W*p.H) (hs:SmpOk p.d l):(setP p i l).Ok where
 w0:=h.w0
 w1:=h.w1
 h0:=h.h0
 h1:=h.h1
 d0:=h.d0
 d1:=h.d1
 n0:=by show 1≤(p.P.set i l).length;rw [List.length_set];exact h.n0
 n1:=by show (p.P.set i l).length≤4;rw [List.length_set];exact h.n1
 len:=fun x hx=>by
  rcases List.mem_or_eq_of_mem_set hx with h2 | h2
  ·exact h.len x h2
  ·rw [h2];exact hl
 smp:=fun x hx=>by
  rcases List.mem_or_eq_of_mem_set hx with h2 | h2
  ·exact h.smp x h2
  ·rw [h2];exact hs
theorem setP_alike {p q:PicD} (h:AlikeD p q) (i:Nat) (l:List Int):AlikeD p (setP q i l):=⟨h.W,h.H,h.d,by show _=(q.P.set i l).length;rw [List.length_set];exact h.n⟩
theorem set_smp {d:Nat} {l:List Int} (h:SmpOk d l) (k:Nat) {v:Int} (h0:0≤v) (h1:v<2^d):SmpOk d (l.set k v):=by
 intro x hx
 rcases List.mem_or_eq_of_mem_set hx with h2 | h2
 ·exact h x h2
 ·rw [h2];exact ⟨h0,h1⟩
structure AlSt (w:World) (p:PicD) (g o cap b capT:Nat) (A:Option Addr) (L:List Int) (bx nb rb gP cP:Nat) (wr:World) (q:PicD) (xs:List Value) (gs:List Nat) (at':Nat):Prop where
 own:PicOwn wr q gP cP xs gs
 al:AlikeD p q
 tp:IsTp wr b A capT L at'
 chg:Chg [b] w wr
 bxB:Blk wr bx 25 #[.int .i64 p.W,.int .i64 p.H,.int .i64 p.d,.slice (some ⟨g,o,none⟩) p.P.length cap]
 nbB:Blk wr nb 25 #[.int .i64 p.W,.int .i64 p.H,.int .i64 p.d,.slice (some ⟨gP,0,none⟩) p.P.length cP]
 rbB:Blk wr rb 25 #[.int .i64 0,.int .i64 0,.int .i64 0,.slice none 0 0]
 far:∀ x∈gP::gs,w.heap.size≤x∧x≠bx∧x≠nb∧x≠rb
 big:w.heap.size≤bx∧w.heap.size≤nb∧w.heap.size≤rb
 old:b<w.heap.size
 tpA:∀ F:List Nat,(∀ x∈F,w.heap.size≤x)→Apt A L F
section
variable {w:World} {p:PicD} {g o cap b capT:Nat} {A:Option Addr} {L:List Int} {bx nb rb gP cP:Nat} {wr:World} {q:PicD} {xs:List Value} {gs:List Nat} {at':Nat}
theorem AlSt.tape (h:AlSt w p g o cap b capT A L bx nb rb gP cP wr q xs gs at') {w':World} {at2:Nat} (hc:Chg [b] wr w') (tp:IsTp w' b A capT L at2):AlSt w p g o cap b capT A L bx nb rb gP cP w' q xs gs at2:=by
 have ho:=h.old
 obtain ⟨h1,h2,h3⟩:=h.big
 exact { h with
  own:=h.own.chg hc (by have:=(h.far gP (by simp)).1;simp;omega) (fun x hx=>by have:=(h.far x (by simp [hx])).1;simp;omega)
  tp:=tp
  chg:=h.chg.trans_same hc
  bxB:=h.bxB.chg hc (by simp;omega)
  nbB:=h.nbB.chg hc (by simp;omega)
  rbB:=h.rbB.chg hc (by simp;omega) }
theorem AlSt.same (h:AlSt w p g o cap b capT A L bx nb rb gP cP wr q xs gs at') {w':World} (hc:Chg [] wr w'):AlSt w p g o cap b capT A L bx nb rb gP cP w' q xs gs at':=h.tape (hc.mono (by simp)) (h.tp.fresh hc)
theorem AlSt.turn (h:AlSt w p g o cap b capT A L bx nb rb gP cP wr q xs gs at') {w':World} {q':PicD} {xs':List Value} {gs' F:List Nat} (hc:Chg F wr w') (hF:∀ x∈F,w.heap.size≤x∧x≠bx∧x≠nb∧x≠rb)
  (own:PicOwn w' q' gP cP xs' gs') (al:AlikeD p q') (far:∀ x∈gP::gs',w.heap.size≤x∧x≠bx∧x≠nb∧x≠rb):AlSt w p g o cap b capT A L bx nb rb gP cP w' q' xs' gs' at':=by
 have ho:=h.old
 exact { h with
  own:=own
  al:=al
  far:=far
  tp:=h.tp.same hc (fun hm=>by have:=(hF b hm).1;omega) (h.tpA F fun x hx=>(hF x hx).1)
  chg:=h.chg.trans hc fun x hx => .inr (hF x hx).1
  bxB:=h.bxB.chg hc fun hm=>(hF _ hm).2.1 rfl
  nbB:=h.nbB.chg hc fun hm=>(hF _ hm).2.2.1 rfl
  rbB:=h.rbB.chg hc fun hm=>(hF _ hm).2.2.2 rfl }
theorem AlSt.store (h:AlSt w p g o cap b capT A L bx nb rb gP cP wr q xs gs at') {i gi k:Nat} {v:Int} (hi:i<q.P.length) (hg:gs[i]?=some gi) (hk:k<q.W*q.H) (v0:0≤v) (v1:v<2^q.d) :
  ∃ q',AlSt w p g o cap b capT A L bx nb rb gP cP (wr.setCell ⟨gi,k,none⟩ (.int .i64 v)) q' xs gs at':=by
 obtain ⟨g',c,h1,h2,h3,h4⟩:=h.own.plane hi
 rw [hg] at h2
 injection h2 with h2
 subst h2
 have hm:=plane_mem hi
 have hlen:=h.own.ok.len _ hm
 have hsm:=h.own.ok.smp _ hm
 refine ⟨setP q i ((q.P.getD i []).set k v),?_⟩
 have hgm:gi∈gs:=List.mem_of_getElem? hg
 refine h.turn (F:=[gi]) ((Chg.refl [gi] wr).setCell (p:=⟨gi,k,none⟩) (.inl (by simp)) _) ?_ ?_ (setP_alike h.al i _) h.far
 ·intro x hx
  simp at hx
  subst hx
  exact h.far x (by simp [hgm])
 ·exact h.own.sample h1 hg hi h3 (by rw [hlen];exact hk) (setP_ok h.own.ok i (by rw [List.length_set];exact hlen) (set_smp hsm k v0 v1)) rfl
theorem AlSt.plane (h:AlSt w p g o cap b capT A L bx nb rb gP cP wr q xs gs at') {wa:World} {at2 i g5:Nat} {u:Value} {l:List Int} (hi:i<q.P.length) (hc:Chg [b] wr wa) (tp:IsTp wa b A capT L at2)
  (r:Row wa 3 u g5 (l.map vi)) (hg5:wr.heap.size≤g5) (hl:l.length=q.W*q.H) (hs:SmpOk q.d l) :
  ∃ q',AlSt w p g o cap b capT A L bx nb rb gP cP (wa.setCell ⟨gP,i,none⟩ u) q' (xs.set i u) (gs.set i g5) at2:=by
 have ha:=h.tape hc tp
 have ho:=h.old
 have hsz:=h.chg.size
 have hfar:=h.far
 obtain ⟨b1,b2,b3⟩:=h.big
 have l1:=h.bxB.lt
 have l2:=h.nbB.lt
 have l3:=h.rbB.lt
 refine ⟨setP q i l,?_⟩
 refine ha.turn (F:=[gP]) ((Chg.refl [gP] wa).setCell (p:=⟨gP,i,none⟩) (.inl (by simp)) _) ?_ ?_ (setP_alike h.al i _) ?_
 ·intro x hx
  simp at hx
  subst hx
  exact h.far x (by simp)
 ·refine h.own.replace hi r hc ?_ hg5 (setP_ok h.own.ok i hl hs) rfl
  intro x hx hm
  simp at hm
  subst hm
  have:=(hfar x hx).1
  omega
 ·intro x hx
  rcases List.mem_cons.1 hx with rfl | hx
  ·exact hfar x (by simp)
  ·rcases List.mem_or_eq_of_mem_set hx with h2 | h2
   ·exact hfar x (by simp [h2])
   ·subst h2
    exact ⟨by omega,by omega,by omega,by omega⟩
theorem AlSt.at_ (h:AlSt w p g o cap b capT A L bx nb rb gP cP wr q xs gs at') {i N:Nat} (hi:i<p.P.length) (hN:N=p.W*p.H) :
  ∃ gi ci,gs[i]?=some gi∧gi∈gs∧wr.cell? ⟨gP,i,none⟩=some (.slice (some ⟨gi,0,none⟩) N ci)∧wr.frozen? ⟨gP,i,none⟩=false∧(∀ k,k<N→∃ v:Int,wr.cell? ⟨gi,k,none⟩=some (.int .i64 v)∧0≤v∧v<2^p.d)∧∀ k,wr.frozen? ⟨gi,k,none⟩=false:=by
 have hiq:i<q.P.length:=by rw [←h.al.n];exact hi
 obtain ⟨gi,ci,h1,h2,h3,h4⟩:=h.own.plane hiq
 obtain ⟨_,_,_,_,_,hfP⟩:=h.own.row.open_
 obtain ⟨_,_,_,_,hce,hfr⟩:=h3.open_map
 have hlen:=h.own.ok.len _ (plane_mem hiq)
 have hsm:=h.own.ok.smp _ (plane_mem hiq)
 have eN:q.W*q.H=N:=by rw [hN,h.al.W,h.al.H]
 rw [eN] at h4 hlen
 refine ⟨gi,ci,h2,List.mem_of_getElem? h2,h4,hfP i,fun k hk=>⟨(q.P.getD i []).getD k 0,hce k _ ?_,?_⟩,hfr⟩
 ·rw [zD (l:=q.P.getD i []),zF (by rw [hlen];exact hk)]
  rfl
 ·rw [h.al.d]
  exact getD_smp hsm k
end
end Go.Proofs.YtijpbkakncglgaaGreatDoor
