/- Pictures that are owned: rows that may be written. -/
import Derived.Test.YtijpbkakncglgaaGreatDoorMg21
set_option linter.unusedVariables false
set_option linter.unusedSimpArgs false
set_option maxHeartbeats 4000000
set_option maxRecDepth 100000
namespace Go.Proofs.YtijpbkakncglgaaGreatDoor
open Go.RowKit
theorem rows_el:Elem Tryz.prog 23 22 (.slice none 0 0) 1 24:=.mk' Tryz.underlying23 (by kernel_rfl)
structure PlRows (w:World) (xs:List Value) (P:List (List Int)) (gs:List Nat):Prop where
 lx:xs.length=P.length
 lg:gs.length=P.length
 nd:gs.Nodup
 row:∀ (i:Nat) (l:List Int),P[i]?=some l→∃ u g,xs[i]?=some u∧gs[i]?=some g∧Row w 3 u g (l.map vi)
section
variable {w w':World} {xs:List Value} {P:List (List Int)} {gs F:List Nat}
theorem PlRows.nil (w:World):PlRows w [] [] []:=⟨rfl,rfl,List.nodup_nil,fun i l h=>by simp at h⟩
theorem PlRows.chg (h:PlRows w xs P gs) (hc:Chg F w w') (hd:∀ x∈gs,x∉F):PlRows w' xs P gs :=
 ⟨h.lx,h.lg,h.nd,fun i l hl=>by
  obtain ⟨u,g,h1,h2,h3⟩:=h.row i l hl
  exact ⟨u,g,h1,h2,h3.chg hc (hd g (List.mem_of_getElem? h2))⟩⟩
theorem PlRows.same (h:PlRows w xs P gs) (hc:Chg [] w w'):PlRows w' xs P gs:=h.chg hc (by simp)
theorem PlRows.lt (h:PlRows w xs P gs):∀ x∈gs,x<w.heap.size:=fun x hx=>by
 obtain ⟨i,hi,rfl⟩:=List.getElem_of_mem hx
 have hi':i<P.length:=by rw [←h.lg];exact hi
 obtain ⟨u,g,h1,h2,h3⟩:=h.row i _ (List.getElem?_eq_getElem hi')
 rw [List.getElem?_eq_getElem hi] at h2
 injection h2 with h2
 rw [h2]
 exact h3.lt
theorem PlRows.snoc (h:PlRows w xs P gs) {u:Value} {g:Nat} {l:List Int} (r:Row w 3 u g (l.map vi)) (hg:g∉gs):PlRows w (xs++[u]) (P++[l]) (gs++[g]):=by
 refine ⟨by simp [h.lx],by simp [h.lg],?_,fun i l' hl => ?_⟩
 ·rw [List.nodup_append]
  refine ⟨h.nd,by simp,fun a ha b hb => ?_⟩
  simp at hb
  subst hb
  exact fun e=>hg (by rw [←e];exact ha)
 ·rcases Nat.lt_trichotomy i P.length with hi | hi | hi
  ·rw [List.getElem?_append_left hi] at hl
   obtain ⟨u',g',h1,h2,h3⟩:=h.row i l' hl
   exact ⟨u',g',by rw [List.getElem?_append_left (by rw [h.lx];exact hi)];exact h1,by rw [List.getElem?_append_left (by rw [h.lg];exact hi)];exact h2,h3⟩
  ·subst hi
   simp at hl
   subst hl
   exact ⟨u,g,by rw [←h.lx];simp,by rw [←h.lg];simp,r⟩
  ·rw [List.getElem?_eq_none (by simp;omega)] at hl
   cases hl
theorem PlRows.set (h:PlRows w xs P gs) {i g:Nat} {u:Value} (hx:xs[i]?=some u) (hg:gs[i]?=some g) {l:List Int} (r:Row w' 3 u g (l.map vi)) (hc:Chg [g] w w'):PlRows w' xs (P.set i l) gs:=by
 refine ⟨by rw [h.lx,List.length_set],by rw [h.lg,List.length_set],h.nd,fun k l' hl => ?_⟩
 by_cases hk:i=k
 ·subst hk
  have hi:i<P.length:=by rw [←h.lx];exact (List.getElem?_eq_some_iff.1 hx).1
  rw [List.getElem?_set_self hi] at hl
  injection hl with hl
  subst hl
  exact ⟨u,g,hx,hg,r⟩
 ·rw [List.getElem?_set_ne hk] at hl
  obtain ⟨u',g',h1,h2,h3⟩:=h.row k l' hl
  refine ⟨u',g',h1,h2,h3.chg hc fun hm => ?_⟩
  simp at hm
  subst hm
  have hi:=(List.getElem?_eq_some_iff.1 hg).1
  have hk':=(List.getElem?_eq_some_iff.1 h2).1
  have e1:=(List.getElem?_eq_some_iff.1 hg).2
  have e2:=(List.getElem?_eq_some_iff.1 h2).2
  exact hk ((List.getElem_inj h.nd).1 (e1.trans e2.symm))
end
structure PicOwn (w:World) (p:PicD) (gP cap:Nat) (xs:List Value) (gs:List Nat):Prop where
 ok:p.Ok
 row:Row w 22 (.slice (some ⟨gP,0,none⟩) p.P.length cap) gP xs
 pl:PlRows w xs p.P gs
def sliceA:Option Value→Option Addr
 | some (.slice a _ _)=>a
 | _=>none
def sliceC:Option Value→Nat
 | some (.slice _ _ c)=>c
 | _=>0
section
variable {w w':World} {p:PicD} {gP cap:Nat} {xs:List Value} {gs F:List Nat}
theorem PicOwn.chg (h:PicOwn w p gP cap xs gs) (hc:Chg F w w') (hP:gP∉F) (hd:∀ x∈gs,x∉F):PicOwn w' p gP cap xs gs:=⟨h.ok,h.row.chg hc hP,h.pl.chg hc hd⟩
theorem PicOwn.same (h:PicOwn w p gP cap xs gs) (hc:Chg [] w w'):PicOwn w' p gP cap xs gs:=h.chg hc (by simp) (by simp)
theorem PicOwn.ltP (h:PicOwn w p gP cap xs gs):gP<w.heap.size:=h.row.lt
theorem PicOwn.plane (h:PicOwn w p gP cap xs gs) {i:Nat} (hi:i<p.P.length):∃ g c,xs[i]?=some (.slice (some ⟨g,0,none⟩) (p.W*p.H) c)∧gs[i]?=some g∧Row w 3 (.slice (some ⟨g,0,none⟩) (p.W*p.H) c) g ((p.P.getD i []).map vi)∧w.cell? ⟨gP,i,none⟩=some (.slice (some ⟨g,0,none⟩) (p.W*p.H) c):=by
 have hP:p.P[i]?=some (p.P.getD i []):=by rw [List.getD_eq_getElem?_getD,List.getElem?_eq_getElem hi];rfl
 obtain ⟨u,g,h1,h2,h3⟩:=h.pl.row i _ hP
 obtain ⟨c,rfl,hlc,_⟩:=h3.open_map
 have hl:(p.P.getD i []).length=p.W*p.H:=h.ok.len _ (List.mem_of_getElem? hP)
 rw [hl] at h1 h3
 obtain ⟨_,_,_,_,hce,_⟩:=h.row.open_
 refine ⟨g,c,h1,h2,h3,?_⟩
 rw [hce i (by rw [h.pl.lx];exact hi),h1]
theorem PicOwn.at_ (h:PicOwn w p gP cap xs gs):PicAt w p gP 0 (fun i=>sliceA xs[i]?) (fun i=>sliceC xs[i]?) (gP::gs) where
 ok:=h.ok
 gG:=by simp
 lt:=fun x hx=>by
  rcases List.mem_cons.1 hx with rfl | hx
  ·exact h.row.lt
  ·exact h.pl.lt x hx
 cell:=fun i hi=>by
  obtain ⟨g,c,h1,h2,h3,h4⟩:=h.plane hi
  rw [Nat.zero_add,h4,h1]
  rfl
 cells:=fun i hi=>by
  obtain ⟨g,c,h1,h2,h3,h4⟩:=h.plane hi
  rw [h1]
  have hlt:=h3.lt
  obtain ⟨c',e,_,_,hce,_⟩:=h3.open_map
  exact ⟨fun _=>⟨g,0,rfl,hlt,fun k a ha=>by rw [Nat.zero_add];exact hce k a ha⟩⟩
 blk:=fun i hi ad e=>by
  obtain ⟨g,c,h1,h2,h3,h4⟩:=h.plane hi
  rw [h1] at e
  injection e with e
  subst e
  exact List.mem_cons_of_mem _ (List.mem_of_getElem? h2)
 cap:=fun i hi=>by
  obtain ⟨g,c,h1,h2,h3,h4⟩:=h.plane hi
  rw [h1]
  obtain ⟨c',e,hc1,hc2,_⟩:=h3.open_map
  injection e with _ e1 e2
  subst e2
  exact ⟨by show _≤c;omega,hc2⟩
end
theorem Chg.cell {F:List Nat} {a b:World} {p:Addr} {v:Value} (h:Chg F a b) (hp:p.block∉F) (hc:a.cell? p=some v):b.cell? p=some v:=by
 have hlt:p.block<a.heap.size:=by
  rcases Nat.lt_or_ge p.block a.heap.size with h1 | h1
  ·exact h1
  ·have e:a.heap[p.block]?=none:=Array.getElem?_eq_none h1
   simp [World.cell?,e] at hc
 exact (World.cell?_of_block (w:=a) (h.block p.block hlt hp)).trans hc
theorem gback_ok (l R:List Int) (ks:List Nat) (A AK:Option Addr) (cap capk W H d:Nat) (w:World) (hw0:1≤W) (hw1:W≤64) (hh0:1≤H) (hh1:H≤64) (h0:1≤d) (h1:d≤16) (hl:l.length=W*H) (hs:SmpOk d l)
  (hR:R.length=W*H) (hRs:SmpOk d R) (hRi:∀ y x,y<H→x<W→R.getD (y*W+x) 0=restAt l W d (ks.getD y 0) y x) (hkl:ks.length=H) (hks:∀ k∈ks,k<10) (hc:Cells vi w A R) (hk:Cells i64 w AK ks) :
  Calls Tryz.prog 98 #[.slice A R.length cap,.int .i64 W,.int .i64 H,.int .i64 d,.slice AK ks.length capk] w fun e w'=>∃ v g,e=.returned (.tuple #[v,.int .i64 0])∧Row w' 3 v g (l.map vi)∧Chg [] w w'∧w.heap.size≤g:=by
 obtain ⟨n,hn⟩:∃ n,n=W*H:=⟨_,rfl⟩
 have hn4:n≤4096:=by rw [hn];exact Nat.mul_le_mul hw1 hh1
 have hnW:n≤64*W:=by rw [hn,Nat.mul_comm];exact Nat.mul_le_mul_right W hh1
 have hpl:=isPlane_yes R A cap W H d w hw0 hw1 hh0 hh1 h0 h1 hR hRs hc
 have hkd:=areKinds_yes ks AK capk w hks (by omega) hk
 have hmk:=run_make1 (P:=Tryz.prog) int_elem rfl .i64 .i64 n (by omega) (by omega)
 have hrow0:=Row.zeros w n (by omega)
 obtain ⟨B,hB⟩:∃ B,B=w.heap.size:=⟨_,rfl⟩
 have ch0:Chg [] w (w.alloc (.cells (List.replicate n (Value.int .i64 0)).toArray 3)):=(Chg.refl [] w).alloc _
 rw [←hB] at hrow0
 rw [hkl] at hkd ⊢
 rw [hR,←hn] at hpl ⊢
 have HN:=hid hn
 have HR:=hid (hR.trans hn.symm)
 have HL:=hid (hl.trans hn.symm)
 have HKL:=hid hkl
 have HS:=hid hs
 have HRI:=hid hRi
 have HKS:=hid hks
 have HC:=hid hc
 have HRS:=hid hRs
 have HK:=hid hk
 have HB:=hid hB
 clear hn hR hl hkl hs hRi hks hc hk hB hRs
 go_enter Tryz.func98,Tryz.ntmps98
 go_wp2_with (first | (go_at_call 142;refine hpl.mono ?_;rintro e w' ⟨rfl,rfl⟩) | (go_at_call 143;refine hkd.mono ?_;rintro e w' ⟨rfl,rfl⟩))
 rw [←HB.out]
 go_loopg [38] n (fun j iv wr=>∃ i:Nat,iv=.int .i64 (i:Int)∧i+j=n∧Row wr 3 (.slice (some ⟨B,0,none⟩) n n) B ((fillL (l.take i) n).map vi)∧Chg [] w wr)
 case atStart=>exact ⟨0,rfl,by omega,hrow0,ch0⟩
 case round =>
  clear hrow0 ch0 hpl hkd
  obtain ⟨i,rfl,hij,hrow,hch⟩:=hrel
  rcases gk with _ | j
  ·obtain rfl:i=n:=by omega
   have e:fillL (l.take i) i=l:=by
    have:=fill_all l
    rw [HL.out] at this
    exact this
   rw [e] at hrow
   go_wp2
   refine bodyPost_ret (v:=.tuple #[.slice (some ⟨B,0,none⟩) i i,.int .i64 0]) (by simp [results,Tryz.results98,go_sem]) rfl ?_
   exact ⟨_,B,rfl,hrow,hch,by have:=HB.out;omega⟩
  ·have hin:i<n:=by omega
   obtain ⟨x,hx⟩:∃ x,x=i%W:=⟨_,rfl⟩
   obtain ⟨y,hy⟩:∃ y,y=i / W:=⟨_,rfl⟩
   have hxW:x<W:=by rw [hx];exact Nat.mod_lt _ (by omega)
   have hyH:y<H:=by rw [hy];exact Nat.div_lt_of_lt_mul (by have:=HN.out;omega)
   have hyx:y*W+x=i:=by rw [hx,hy,Nat.mul_comm];exact Nat.div_add_mod i W
   have ex1:(i:Int)%(W:Int)=(x:Int):=by rw [hx];simp
   have ey1:(i:Int) / (W:Int)=(y:Int):=by rw [hy];simp
   have ex2:(i:Int).tmod (W:Int)=(x:Int):=by rw [Int.tmod_eq_emod_of_nonneg (by omega)];exact ex1
   have ey2:(i:Int).tdiv (W:Int)=(y:Int):=by rw [Int.tdiv_eq_ediv_of_nonneg (by omega)];exact ey1
   have hWne:(W:Int)≠0:=by omega
   have hlen:(fillL (l.take i) n).length=n:=fillL_len (by rw [List.length_take];omega)
   have hnf:nbr (fillL (l.take i) n) W x y=nbr l W x y:=by
    have:=nbr_fill (l:=l) hxW hyx (by rw [HL.out];omega)
    rw [HL.out] at this
    exact this
   have hnr:=fun w' (h:Chg [] wr w')=>near_ok (fillL (l.take i) n) (some ⟨B,0,none⟩) n W x y w' hw0 hw1 hxW (by omega) (by rw [hyx,hlen];omega) (hrow.toOwn.cells.same h) (by omega)
   rw [hlen,hnf] at hnr
   obtain ⟨k,hkk⟩:∃ k,k=ks.getD y 0:=⟨_,rfl⟩
   have hky:y<ks.length:=by rw [HKL.out];exact hyH
   have hk10:k<10:=by rw [hkk,List.getD_eq_getElem?_getD,List.getElem?_eq_getElem hky];exact HKS.out _ (List.getElem_mem _)
   have hon:=fun w'=>one_ok k (nbr l W x y) d w' hk10 h0 h1 (nbr_ok HS.out W x y)
   have hbk:=back_one HS.out W k y x
   have hri:=HRI.out y x hyH hxW
   rw [←hkk,hyx] at hri
   rw [hyx] at hbk
   obtain ⟨g,hg⟩:∃ g,g=nbr l W x y:=⟨_,rfl⟩
   rw [←hg] at hnr hon hbk
   obtain ⟨gs,hgs⟩:∃ z,z=guessI k g d:=⟨_,rfl⟩
   have hgsb:=guessI_ok (d:=d) (g:=g) (by rw [hg];exact nbr_ok HS.out W x y) k
   rw [←hgs] at hgsb
   rw [←hgs] at hon hbk
   rw [←hri] at hbk
   obtain ⟨r,hr⟩:∃ r,r=R.getD i 0:=⟨_,rfl⟩
   rw [←hr] at hbk
   obtain ⟨bk,ok,rfl,hkc0⟩:=(HK.out.same hch).at_ hky
   have hkc:wr.cell? ⟨bk,ok+y,none⟩=some (.int .i64 (k:Int)):=by
    rw [hkc0,hkk,List.getD_eq_getElem?_getD,List.getElem?_eq_getElem hky];rfl
   have hiR:i<R.length:=by rw [HR.out];exact hin
   obtain ⟨ba,oa,rfl,hrc0⟩:=(HC.out.same hch).at_ hiR
   have hrc:wr.cell? ⟨ba,oa+i,none⟩=some (.int .i64 r):=by
    rw [hrc0,hr,List.getD_eq_getElem?_getD,List.getElem?_eq_getElem hiR];rfl
   clear hkc0 hrc0 hiR
   have hwr:wrap64 (r+gs)=r+gs:=by
    have h3:=getD_ok HRS.out i
    rw [←hr] at h3
    have h4:=hgsb
    have hp:(2:Int)^d≤65536:=by
     have:=Nat.pow_le_pow_right (n:=2) (by decide) h1
     have e:((2^d:Nat):Int)=(2:Int)^d:=by simp
     omega
    exact IntWalk.wrap64_in _ (by omega)
   have HNR:=hid hnr
   have HON:=hid hon
   have HRC:=hid hrc
   have HLI:Hid (l.take (i+1)=l.take i++[wrapI (r+gs) d]):=hid (by
    have hil:i<l.length:=by rw [HL.out];exact hin
    rw [hbk,List.getD_eq_getElem?_getD,List.getElem?_eq_getElem hil]
    exact take_snoc' l hil)
   have HTL:Hid ((l.take i).length=i):=hid (by rw [List.length_take,HL.out];omega)
   have HBK:=hid hbk
   have HR':=hid hr
   have HKK:=hid hkk
   have HROW:=hid hrow
   have HCH:=hid hch
   have HLN:=hid hlen
   clear hx hy hyx hnf hnr hon hbk hri hg hgs hr hkk hrow hch hlen
   go_wp2_with fail
   go_quiet (fail)
   go_wp2_with fail
   refine (HNR.out _ ((Chg.refl [] wr).drewN nq)).mono ?_
   obtain ⟨ga,gb,gc,ge⟩:=g
   rintro e w1 ⟨rfl,q,rfl⟩
   obtain ⟨wy,hwy⟩:∃ wy,wy=(wr.drewN nq).drewN q:=⟨_,rfl⟩
   have chy:Chg [] wr wy:=by rw [hwy];exact ((Chg.refl [] wr).drewN nq).drewN q
   rw [←hwy]
   have hkc:=chy.cell (by simp) hkc
   clear hrc hwy
   go_wp2_with fail
   refine (HON.out _).mono ?_
   rintro e w2 ⟨rfl,ch2⟩
   have chz:Chg [] wr w2:=chy.trans_same ch2
   have hrc:=chz.cell (by simp) HRC.out
   have hwp:=fun w'=>wrap_ok (r+gs) d w' h0 h1
   rw [HBK.out] at hwp
   go_wp2_with fail
   refine (hwp _).mono ?_
   rintro e w3 ⟨rfl,rfl⟩
   have hrow2:=HROW.out.chg chz (by simp)
   obtain ⟨hce,hfr⟩:=hrow2.fill_cell (by rw [HTL.out];exact hin)
   have hfill:=hrow2.fill (by rw [HTL.out];exact hin) (l.getD i 0)
   rw [HTL.out] at hce hfr hfill
   have HFI:=hid hfill
   clear hrow2 hfill hrc hwp hkc
   go_wp2_with fail
   go_roundg j
   case measure=>omega
   case rel =>
    have hch2:Chg [B] w2 (w2.setCell ⟨B,i,none⟩ (.int .i64 (l.getD i 0))):=(Chg.refl _ _).setCell (.inl (by simp)) _
    refine ⟨i+1,by go_num,by omega,?_,(HCH.out.trans_same chz).trans hch2 fun z hz => .inr (by have:=HB.out;simp at hz;omega)⟩
    have e:=HLI.out
    rw [HBK.out] at e
    rw [e]
    exact HFI.out
theorem sgn_mod {x:Int} {n:Nat} (h:fitsB x n=true):sgnOf (modN x n) n=x:=by
 unfold fitsB at h
 simp only [Bool.and_eq_true,decide_eq_true_eq] at h
 obtain ⟨⟨⟨h1,h2⟩,h3⟩,h4⟩:=h
 have hp:(2:Int)^n=2^(n-1)+2^(n-1):=by
  obtain ⟨m,rfl⟩:∃ m,n=m+1:=⟨n-1,by omega⟩
  rw [Int.pow_succ,Nat.add_sub_cancel]
  omega
 have hpn:((2^(n-1):Nat):Int)=(2:Int)^(n-1):=by simp
 have hpos:=two_pow_pos' (n-1)
 have hc:=modN_cast x n
 unfold sgnOf
 by_cases hx:0≤x
 ·have e:x%2^n=x:=Int.emod_eq_of_lt hx (by omega)
  rw [e] at hc
  rw [if_pos (by omega),hc]
 ·have e:x%2^n=x+2^n:=by
   rw [←Int.add_emod_right]
   exact Int.emod_eq_of_lt (by omega) (by omega)
  rw [e] at hc
  rw [if_neg (by omega),hc]
  omega
theorem sgn_any {x:Int} {n:Nat} (hn:1≤n) (h:x=0∨fitsB x n=true):sgnOf (modN x n) n=x:=by
 rcases h with rfl | h
 ·have e:modN 0 n=0:=by simp [modN]
  rw [e]
  unfold sgnOf
  rw [if_pos (Nat.two_pow_pos _)]
  rfl
 ·exact sgn_mod h
theorem rsigned_ok (w:World) (b:Nat) (F ds:List Nat) (p n:Nat) (x:Int) (h:IsRd w b F ds p) (hn:n≤31) (hx:x=0∨fitsB x n=true) (ha:Ahead ds p (bitsOf (modN x n) n)) :
  Calls Tryz.prog 185 #[.pointer (some ⟨b,0,none⟩),.int .i64 n] w fun e w'=>e=.returned (.int .i64 x)∧IsRd w' b F ds (p+n)∧Chg [b] w w':=by
 have hget:=rget_ahead w b F ds p n (modN x n) h (by omega) (modN_lt x n) ha
 rcases Nat.eq_zero_or_pos n with rfl | hpos
 ·have hx0:x=0:=by
   rcases hx with h | h
   ·exact h
   ·simp [fitsB] at h
  subst hx0
  clear hx ha h
  have t1:(((0:Nat):Int)==0)=true:=rfl
  go_enter Tryz.func185,Tryz.ntmps185
  go_wp2_with fail
  refine hget.mono ?_
  rintro e w1 ⟨rfl,hr1,ch1⟩
  obtain ⟨hc1,hc2,hf1,A,cap,hc0⟩:=rd_cells hr1
  clear hget
  go_wp2
  go_ret
  exact ⟨rfl,hr1,ch1⟩
 ·have hsg:=sgn_shift hpos (by omega) (modN_lt x n)
  rw [sgn_any hpos hx] at hsg
  have hlt:=modN_lt x n
  rw [IntWalk.i64_left,Int.fdiv_eq_ediv_of_nonneg _ (by have:=two_pow_pos' (64-n);omega)] at hsg
  obtain ⟨v,hv⟩:∃ v,v=modN x n:=⟨_,rfl⟩
  rw [←hv] at hget hsg hlt
  have t1:((n:Int)==0)=false:=by rw [beq_eq_false_iff_ne];omega
  have e1:(64:Int)-(n:Int)=((64-n:Nat):Int):=by omega
  clear hx ha h hv
  go_enter Tryz.func185,Tryz.ntmps185
  go_wp2_with fail
  refine hget.mono ?_
  rintro e w1 ⟨rfl,hr1,ch1⟩
  obtain ⟨hc1,hc2,hf1,A,cap,hc0⟩:=rd_cells hr1
  clear hget
  go_wp2
  go_ret
  exact ⟨rfl,hr1,ch1⟩
def rawBits (n:Nat) (l:List Int):List Nat:=l.flatMap fun x=>bitsOf (modN x n) n
theorem rawBits_split (n:Nat) (l:List Int) {m:Nat} (hm:m<l.length):rawBits n (l.drop m)=bitsOf (modN l[m] n) n++rawBits n (l.drop (m+1)):=by
 unfold rawBits
 rw [List.drop_eq_getElem_cons hm,List.flatMap_cons]
theorem pone_ok (w:World) (b:Nat) (F ds:List Nat) (p k:Nat) (l:List Int) (h:IsRd w b F ds p) (hk:k≤25∨k=31) (hw:∀ x∈l,wideP x) (hl:l.length≤4096) (ha:Ahead ds p (partBits k l)) :
  Calls Tryz.prog 141 #[.pointer (some ⟨b,0,none⟩),.int .i64 l.length] w fun e w'=>∃ v G,e=.returned (.tuple #[.int .i64 k,v,.int .i64 0])∧Own w' 3 v G (l.map vi)∧IsRd w' b F ds (p+(partBits k l).length)∧Chg [b] w w'∧∀ x∈G,w.heap.size≤x:=by
 unfold partBits at ha ⊢
 have hk32:k<2^5:=by omega
 have hg1:=rget_ahead w b F ds p 5 k h (by omega) hk32 ha.left
 have ha1:=ha.right
 rw [bitsOf_len] at ha1
 have hbl:=h.lt b h.mem
 rcases hk with hk | rfl
 ·rw [if_neg (by omega)] at ha1 ⊢
  have hrg:=fun w' (hr:IsRd w' b F ds (p+5))=>rgets_ok w' b F ds (p+5) k l hr hk hw (by omega) ha1
  have t1:decide ((k:Int)≤25)=true:=decide_eq_true (by omega)
  have HRG:=hid hrg
  have HW:=hid hw
  rw [List.length_append,bitsOf_len]
  generalize (rbitsAll k l).length=q at *
  generalize l.length=n at *
  clear hrg ha ha1 hw h
  go_enter Tryz.func141,Tryz.ntmps141
  go_wp2_with fail
  refine hg1.mono ?_
  rintro e w1 ⟨rfl,hr1,ch1⟩
  have hrg:=HRG.out w1 hr1
  clear hg1
  go_wp2_with (go_at_call 60;refine (err_ok _ b F ds _ hr1).mono ?_;rintro e w' ⟨rfl,rfl⟩)
  refine hrg.mono ?_
  rintro e w2 ⟨v,G,rfl,ho,hr2,ch2,hG⟩
  go_wp2
  refine bodyPost_ret (v:=.tuple #[.int .i64 k,v,.int .i64 0]) (by simp [results,Tryz.results141,go_sem]) rfl ?_
  exact ⟨v,G,rfl,ho,hr2.cast (by omega),ch1.trans_same ch2,fun x hx=>Nat.le_trans ch1.size (hG x hx)⟩
 ·rw [if_pos rfl] at ha1 ⊢
  have hwl:=widthL_le hw
  have hwf:=widthL_fits hw
  have hwd:=fun A cap w' (hc:Cells vi w' A l)=>width_ok l A cap w' hw hc (by omega)
  obtain ⟨wd,hwde⟩:∃ wd,wd=widthL l:=⟨_,rfl⟩
  rw [←hwde] at ha1 hwl hwf hwd ⊢
  have hg2:=fun w' (hr:IsRd w' b F ds (p+5))=>rget_ahead w' b F ds (p+5) 5 wd hr (by omega) (by omega) ha1.left
  have ha2:=ha1.right
  rw [bitsOf_len] at ha2
  have ha3:Ahead ds (p+5+5) (rawBits wd (l.drop 0)):=by rw [List.drop_zero];exact ha2
  have hlenq:(bitsOf 31 5++(bitsOf wd 5++l.flatMap fun x=>bitsOf (modN x wd) wd)).length=5+(5+(rawBits wd l).length):=by
   rw [List.length_append,List.length_append,bitsOf_len,bitsOf_len];rfl
  rw [hlenq]
  obtain ⟨n,hn⟩:∃ n,n=l.length:=⟨_,rfl⟩
  rw [←hn] at hl ⊢
  have HN:=hid hn
  have HLT:=hid h.lt
  have HA:=hid ha3
  have HG2:=hid hg2
  have HWF:=hid hwf
  have HWD:=hid hwd
  clear hn ha3 ha2 ha1 ha hg2 hwf hwd hwde hlenq hw h
  go_enter Tryz.func141,Tryz.ntmps141
  go_wp2_with fail
  refine hg1.mono ?_
  rintro e w1 ⟨rfl,hr1,ch1⟩
  have hg2:=HG2.out w1 hr1
  clear hg1
  go_wp2_with (go_at_call 60;refine (err_ok _ b F ds _ hr1).mono ?_;rintro e w' ⟨rfl,rfl⟩)
  refine hg2.mono ?_
  rintro e w2 ⟨rfl,hr2,ch2⟩
  have ch02:=ch1.trans_same ch2
  clear hg2 hr1 ch1 ch2
  go_wp2_with fail
  go_loopg [11,38] n (fun j v iv wr=>∃ G p' out,j≤n∧iv=.int .i64 ((n-j:Nat):Int)∧Own wr 3 v G (out.map vi)∧Hid (out=l.take (n-j))∧IsRd wr b F ds p'∧Hid (Ahead ds p' (rawBits wd (l.drop (n-j))))∧Hid (p'+(rawBits wd (l.drop (n-j))).length=p+5+5+(rawBits wd l).length)∧Chg [b] w wr∧∀ x∈G,w.heap.size≤x)
  case atStart=>exact ⟨[],p+5+5,[],Nat.le_refl _,by simp,Own.nil _ _,hid (by simp),hr2,hid (by rw [Nat.sub_self];exact HA.out),hid (by simp),ch02,by simp⟩
  case round =>
   clear hr2 ch02
   obtain ⟨G,p',out,hj,rfl,ho,Ho,hrd,Ha,Hp,hch,hG⟩:=hrel
   have HG:=hid hG
   clear hG
   rcases gk with _ | j
   ·obtain ⟨A,cap,rfl,hcl,hcm,hcs⟩:=ho.open_map
    have t4:decide (((n-0:Nat):Int)<(n:Int))=false:=by simp
    have t4':decide (n<n)=false:=by simp
    have e:l.take (n-0)=l:=by rw [HN.out,Nat.sub_zero,List.take_length]
    have e2:l.drop (n-0)=[]:=by rw [HN.out,Nat.sub_zero,List.drop_length]
    have hol:out=l:=Ho.out.trans e
    have hp:=Hp.out
    rw [e2] at hp
    have hp2:p'=p+5+5+(rawBits wd l).length:=by simpa [rawBits] using hp
    subst hol
    have hwd:=HWD.out A cap wr hcs
    have HP:=hid hp2
    clear e e2 hp hp2 Ho Hp Ha
    go_wp2_with (go_at_call 60;refine (err_ok _ b F ds _ hrd).mono ?_;rintro e w' ⟨rfl,rfl⟩)
    refine hwd.mono ?_
    rintro e w' ⟨rfl,rfl⟩
    go_wp2_with fail
    refine bodyPost_ret (v:=.tuple #[.int .i64 31,.slice A out.length cap,.int .i64 0]) (by simp [results,Tryz.results141,go_sem]) rfl ?_
    exact ⟨_,G,rfl,ho,hrd.cast (by rw [HP.out];omega),hch,HG.out⟩
   ·obtain ⟨A,cap,rfl,hcl,hcm,-⟩:=ho.open_map
    obtain ⟨m,hm1⟩:∃ m,m=n-(j+1):=⟨_,rfl⟩
    rw [←hm1] at Ha Hp Ho ⊢
    have hm2:m<n:=by omega
    have hm3:n-j=m+1:=by omega
    have HM:=hid hm3
    clear hm1 hm3
    have hml:m<l.length:=by rw [←HN.out];exact hm2
    have hsp:=rawBits_split wd l hml
    have htk:=take_snoc' l hml
    have hxf:=HWF.out l[m] (List.getElem_mem _)
    obtain ⟨x,hx⟩:∃ x,x=l[m]:=⟨_,rfl⟩
    rw [←hx] at hsp hxf htk
    have ha1:=Ha.out
    rw [hsp] at ha1
    have hsg:=rsigned_ok wr b F ds p' wd x hrd hwl hxf ha1.left
    have HA2:=hid ha1.right
    have hol:out.length≤4096:=by rw [Ho.out,List.length_take];omega
    have HTK:=hid htk
    have HSP:=hid hsp
    have t4:decide (m<n)=true:=decide_eq_true hm2
    have t4':decide ((m:Int)<(n:Int))=true:=decide_eq_true (by omega)
    clear hsp htk hx ha1 hml hxf
    go_wp2_with fail
    refine hsg.mono ?_
    rintro e w1' ⟨rfl,hr1,ch1⟩
    have hbG:∀ y∈G,y∉[b]:=fun y hy=>by have:=HG.out y hy;simp;omega
    have ho1:=ho.chg ch1 hbG
    have HB:=hid hbG
    clear hsg hbG
    go_wp2_with (at_builtin;refine wpList_append_o1 rfl rfl int_elem rfl rfl (ho1.alloc _) (.int .i64 x) rfl ?c1 ?c2 ?c3 ?c4 ?_)
    case c1=>simp [go_sem]
    case c2=>rfl
    case c3=>rw [List.length_map];omega
    case c4=>rw [List.length_map];omega
    intro g2 cap2 w2' hr2 gr2
    go_wp2_with fail
    go_roundg j
    case measure=>omega
    case rel =>
     rw [HM.out]
     have ch2:Chg [b] w w2':=(hch.trans_same (ch1.alloc _)).trans gr2.chg fun x hx => .inr (HG.out x hx)
     have hng:∀ y∈F,y∉G:=fun y hy hyG=>by have:=HG.out y hyG;have:=HLT.out y hy;omega
     refine ⟨[g2],_,out++[x],by omega,by go_num,?_,?_,(hr1.same ((Chg.refl [] w1').alloc _)).chg gr2.chg hng,hid (by have:=HA2.out;rw [bitsOf_len] at this;exact this),?_,ch2,?_⟩
     ·have:=hr2.toOwn
      simpa [vi] using this
     ·exact hid (by rw [Ho.out,HTK.out])
     ·refine hid ?_
      rw [←Hp.out,HSP.out,List.length_append,bitsOf_len]
      omega
     ·intro y hy
      simp at hy
      subst hy
      rcases gr2.new y (by simp) with h1 | h1
      ·exact HG.out y h1
      ·have:=hch.size
       have:=ch1.size
       simp at h1
       omega
theorem modelBits_pre (l:List Int) (W d:Nat):∀ (k i:Nat),∃ r,modelBits l W d (i+k)=modelBits l W d i++r
 | 0,i=>⟨[],by simp⟩
 | k+1,i=>by
  obtain ⟨r,hr⟩:=modelBits_pre l W d k i
  exact ⟨r++bitsAtM (modelTo l W d (i+k)) l W d (i+k),by rw [show i+(k+1)=(i+k)+1 by omega,modelBits,hr,List.append_assoc]⟩
theorem fill_smp {d:Nat} {l:List Int} (hs:SmpOk d l) (i n:Nat):SmpOk d (fillL (l.take i) n):=by
 intro s h
 unfold fillL at h
 rcases List.mem_append.1 h with h | h
 ·exact hs s (List.mem_of_mem_take h)
 ·rw [List.eq_of_mem_replicate h];exact ⟨Int.le_refl _,two_pow_pos' d⟩
theorem mget_ok (w:World) (b:Nat) (F ds:List Nat) (p:Nat) (l:List Int) (W H d:Nat) (h:IsRd w b F ds p) (hw0:1≤W) (hw1:W≤64) (hh0:1≤H) (hh1:H≤64) (h0:1≤d) (h1:d≤16) (hl:l.length=W*H) (hs:SmpOk d l) (ha:Ahead ds p (modelBits l W d (W*H))) :
  Calls Tryz.prog 78 #[.pointer (some ⟨b,0,none⟩),.int .i64 W,.int .i64 H,.int .i64 d] w fun e w'=>∃ v g,e=.returned (.tuple #[v,.int .i64 0])∧Row w' 3 v g (l.map vi)∧IsRd w' b F ds (p+(modelBits l W d (W*H)).length)∧Chg [b] w w'∧w.heap.size≤g:=by
 have hl4:l.length≤4096:=by rw [hl];exact Nat.mul_le_mul hw1 hh1
 obtain ⟨hp0,hp1⟩:=pow_d h0 h1
 have hmo:=fun i=>modelTo_ok l W h0 h1 hp1 i
 obtain ⟨n,hn⟩:∃ n,n=l.length:=⟨_,rfl⟩
 have hnW:n≤64*W:=by rw [hn,hl,Nat.mul_comm];exact Nat.mul_le_mul_right W hh1
 have hnI:(W:Int)*(H:Int)=(n:Int):=by rw [hn,hl];simp
 rw [←hl,←hn] at ha ⊢
 rw [←hn] at hl4
 have hmk:=run_make1 (P:=Tryz.prog) int_elem rfl .i64 .i64 n (by omega) (by omega)
 have t1:decide ((W:Int)<1)=false:=decide_eq_false (by omega)
 have t2:decide ((64:Int)<(W:Int))=false:=decide_eq_false (by omega)
 have t3:decide ((H:Int)<1)=false:=decide_eq_false (by omega)
 have t4:decide ((64:Int)<(H:Int))=false:=decide_eq_false (by omega)
 have hnew:=mnew_ok d w h0 h1
 have hbl:=h.lt b h.mem
 have hlt:=h.lt
 have HA:=hid ha
 have HMO:=hid hmo
 have HS:=hid hs
 have HN:=hid hn
 have HP:=hid hp1
 have HLT:=hid hlt
 clear hmo hs hn hl hp1 ha hlt
 go_enter Tryz.func78,Tryz.ntmps78
 go_wp2_with fail
 refine hnew.mono ?_
 rintro e w1 ⟨bm,rfl,hmd,ch1,hbm⟩
 have hr1:=h.same ch1
 have hrow0:=Row.zeros w1 n (by omega)
 obtain ⟨B,hB⟩:∃ B,B=w1.heap.size:=⟨_,rfl⟩
 have chA:Chg [] w1 (w1.alloc (.cells (List.replicate n (Value.int .i64 0)).toArray 3)):=(Chg.refl [] w1).alloc _
 have hmd0:=hmd.chg chA (by simp)
 have hr0:=hr1.same chA
 have hbmB:bm<B:=by rw [hB];exact hmd.lt
 rw [←hB] at hrow0
 have HB:=hid hB
 have HC1:=hid ch1
 clear hnew h hB hmd ch1
 go_wp2_with (go_at_call 60;refine (err_ok _ b F ds _ hr1).mono ?_;rintro e w' ⟨rfl,rfl⟩)
 rw [←HB.out]
 go_loopg [14,15,16,17,18,19,20,55] n (fun j va vb vc vd ve vf vg iv wr=>∃ (i p':Nat),iv=.int .i64 (i:Int)∧i+j=n∧Row wr 3 (.slice (some ⟨B,0,none⟩) n n) B ((fillL (l.take i) n).map vi)∧IsRd wr b F ds p'∧Hid (p'=p+(modelBits l W d i).length)∧IsMd wr bm d (modelTo l W d i)∧Hid (Chg [b] w wr))
 case atStart=>exact ⟨0,p,rfl,by omega,by simpa using hrow0,hr0,hid (by simp [modelBits]),hmd0,hid ((HC1.out.trans chA (by simp)).mono (by simp))⟩
 case round =>
  clear hrow0 hr0 hmd0 chA hr1
  obtain ⟨i,p',rfl,hij,hrow,hrd,Hp,hmdr,HCH⟩:=hrel
  rcases gk with _ | j
  ·obtain rfl:n=i:=by omega
   have t5:decide (n<n)=false:=by simp
   have e:fillL (l.take n) n=l:=by
    have:=fill_all l
    rw [←HN.out] at this
    exact this
   rw [e] at hrow
   go_wp2_with fail
   go_ret2
   exact ⟨_,B,rfl,hrow,hrd.cast Hp.out,HCH.out,by have:=HB.out;have:=HC1.out.size;omega⟩
  ·have hin:i<n:=by omega
   have t5:decide (i<n)=true:=decide_eq_true hin
   obtain ⟨x,hx⟩:∃ x,x=i%W:=⟨_,rfl⟩
   obtain ⟨y,hy⟩:∃ y,y=i / W:=⟨_,rfl⟩
   have hxW:x<W:=by rw [hx];exact Nat.mod_lt _ (by omega)
   have hyx:y*W+x=i:=by rw [hx,hy,Nat.mul_comm];exact Nat.div_add_mod i W
   have hnf:nbr (fillL (l.take i) n) W (i%W) (i / W)=nbr l W (i%W) (i / W):=by
    have:=nbr_fill (l:=l) hxW hyx (by rw [←HN.out];omega)
    rw [←HN.out,hx,hy] at this
    exact this
   clear hx hy hxW hyx
   have hlen:(fillL (l.take i) n).length=n:=fillL_len (by rw [List.length_take];omega)
   have hmok:=HMO.out i
   have hct:=ctxN_lt (nbr l W (i%W) (i / W)) d
   obtain ⟨r,hr⟩:=modelBits_pre l W d (n-(i+1)) (i+1)
   rw [show i+1+(n-(i+1))=n by omega] at hr
   have hnx:modelBits l W d (i+1)=modelBits l W d i++bitsAtM (modelTo l W d i) l W d i:=rfl
   have hnm:modelTo l W d (i+1)=nextM (modelTo l W d i) l W d i:=rfl
   have hA1:=HA.out
   rw [hr] at hA1
   have hA2:=hA1.left
   rw [hnx] at hA2
   have hA3:=hA2.right
   rw [←Hp.out] at hA3
   obtain ⟨m,hm⟩:∃ m,m=modelTo l W d i:=⟨_,rfl⟩
   rw [←hm] at hmdr hnx hnm hmok hA3
   have hlk:=look_ok' bm d m (fillL (l.take i) n) (some ⟨B,0,none⟩) n W i wr hmdr hmok h0 h1 hw0 hw1 (by rw [hlen];omega) (by omega) (fill_smp HS.out i n) hrow.toOwn.cells (by rw [hlen];exact hl4)
   have ec:ctxAt (fillL (l.take i) n) W d i=ctxAt l W d i:=by unfold ctxAt;rw [hnf]
   have et:turnAt (fillL (l.take i) n) W d i=turnAt l W d i:=by unfold turnAt;rw [hnf]
   have ep:predAt m (fillL (l.take i) n) W d i=predAt m l W d i:=by unfold predAt;rw [ec,et,hnf]
   rw [ec,et,ep,hlen] at hlk
   have hil:i<l.length:=by rw [←HN.out];exact hin
   have hxv:=getD_ok HS.out i
   have hpr:=guessM_ok (statAt m (ctxAt l W d i)) (guessI 7 (nbr l W (i%W) (i / W)) d) (turnAt l W d i) (d:=d) hp0
   have hpe:predAt m l W d i=guessM (statAt m (ctxAt l W d i)) (guessI 7 (nbr l W (i%W) (i / W)) d) (turnAt l W d i) d:=rfl
   rw [←hpe] at hpr
   have her:=errOf_range (l.getD i 0) (predAt m l W d i) (turnAt l W d i) h0
   have hew:=errOf_mid (l.getD i 0) (predAt m l W d i) (turnAt l W d i) h0 h1
   have her16:=errRange16 h1 her
   have hbk:=errOf_back (g:=predAt m l W d i) (turnAt l W d i) hxv.1 hxv.2
   have hee:errAt m l W d i=errOf (l.getD i 0) (predAt m l W d i) (turnAt l W d i) d:=rfl
   rw [←hee] at her hew hbk her16
   have hfe:=foldI_in h0 her.1 her.2
   have hbe:bitsAtM m l W d i=rbits (kOf (statAt m (ctxAt l W d i))) (errAt m l W d i):=rfl
   have hne:nextM m l W d i=m.set (ctxAt l W d i) (learnS (statAt m (ctxAt l W d i)) (errAt m l W d i)):=rfl
   rw [hbe] at hA3 hnx
   rw [hne] at hnm
   have hct':ctxAt l W d i<365:=hct
   have hkl:=kOf_le (statAt_mem hmok hct').2
   have htk:=take_snoc' l hil
   have hxg:l[i]=l.getD i 0:=by rw [List.getD_eq_getElem?_getD,List.getElem?_eq_getElem hil];rfl
   rw [hxg] at htk
   have hdn:(l.take i).length=i:=by rw [List.length_take];omega
   obtain ⟨hce,hfr⟩:=hrow.fill_cell (by rw [hdn];exact hin)
   have HROW:=hid hrow
   rw [hdn] at hce hfr
   generalize ctxAt l W d i=cx at *
   generalize predAt m l W d i=pr at *
   generalize turnAt l W d i=tb at *
   generalize errAt m l W d i=er at *
   obtain ⟨xv,hxv2⟩:∃ xv,xv=l.getD i 0:=⟨_,rfl⟩
   rw [←hxv2] at hbk htk hxv hee
   have hkk:=fun w h=>mk_ok bm d m cx w h hmok hct'
   generalize kOf (statAt m cx)=kk at *
   have hlearn:=fun w h=>learn_ok bm d m cx er w h hmok h0 h1 hct' her.1 her.2
   obtain ⟨hr0',hr1'⟩:=hpr
   have hr2:pr<65536:=Int.lt_of_lt_of_le hr1' HP.out
   have hgets:=fun w' (hq:IsRd w' b F ds p')=>rgets_ok w' b F ds p' kk [er] hq (by omega) (fun z hz=>by rw [List.mem_singleton.1 hz];exact hew) (by simp) (by simpa [rbitsAll] using hA3)
   have hfd:=fun w'=>fold_ok er d w' h0 h1
   rw [hfe] at hfd
   have hwp:=fun v w'=>wrap_ok v d w' h0 h1
   have t6:(er != er)=false:=by simp
   have HLN:=hid hlearn
   have HKK:=hid hkk
   have HNX:=hid hnx
   have HNM:=hid hnm
   have HTK:=hid htk
   have HDN:=hid hdn
   have HBK:=hid hbk
   have HGT:=hid hgets
   have HFD:=hid hfd
   have HWP:=hid hwp
   clear hlearn hkk hnx hnm hee hm hpe hct hxg hbe hne hmok her hbk hgets hfd hwp hfe hew hA1 hA2 hA3 hr hnf hlen ec et ep hxv2 hrow htk hdn hil hce hfr hxv hr1'
   go_wp2_with fail
   refine hlk.mono ?_
   rintro e w2 ⟨rfl,ch2⟩
   have hrd2:=hrd.same ch2
   have hmd2:=hmdr.chg ch2 (by simp)
   clear hlk hrd hmdr
   go_wp2_with fail
   refine (HKK.out _ hmd2).mono ?_
   rintro e w3 ⟨rfl,n3,rfl⟩
   have hg1:=HGT.out _ (hrd2.same ((Chg.refl [] w2).drewN n3))
   rw [show (([er]:List Int).length:Int)=1 from rfl] at hg1
   go_wp2_with fail
   refine hg1.mono ?_
   rintro e w4 ⟨v4,G4,rfl,own4,hrd4,ch4,hG4⟩
   rcases own4.cases with ⟨_,hnil,_⟩ | ⟨g4,row4,rfl⟩
   ·exfalso
    have:=congrArg List.length hnil
    simp at this
   obtain ⟨c4,rfl,_,_,hcell4,_⟩:=row4.open_map
   have e0:=hcell4 0 er rfl
   have e0':w4.cell? ⟨g4,0,none⟩=some (.int .i64 er):=e0
   have hbbm:b∉[bm]:=by have:=HC1.out.size;simp;omega
   have hmd4:=(hmd2.chg ((Chg.refl [] w2).drewN n3) (by simp)).chg ch4 (by simp;omega)
   have hch04:=hid (((HCH.out.trans ch2 (by simp)).drewN n3).trans_same ch4)
   have hrow4:=((HROW.out.chg ch2 (by simp)).drewN n3).chg ch4 (by have:=HB.out;have:=HC1.out.size;simp;omega)
   have hlr:=HLN.out w4 hmd4
   have hfd4:=HFD.out w4
   rw [show (([er]:List Int).length)=1 from rfl]
   clear own4 row4 hcell4 e0 hmd2 hrd2 ch2 ch4 hg1 hG4 hmd4
   go_wp2_with (go_at_call 67;refine hfd4.mono ?_;rintro e w' ⟨rfl,rfl⟩)
   refine hlr.mono ?_
   rintro e w5 ⟨rfl,hmd5,ch5⟩
   have hrow5:=hrow4.chg ch5 (by simp;omega)
   obtain ⟨hce,hfr⟩:=hrow5.fill_cell (by rw [HDN.out];exact hin)
   have hfill:=hrow5.fill (by rw [HDN.out];exact hin) xv
   rw [HDN.out] at hce hfr hfill
   have HFI:=hid hfill
   have hrd5:=hrd4.chg ch5 (fun z hz hm=>by simp at hm;have:=HLT.out z hz;have:=HC1.out.size;omega)
   have hch05:=hid (hch04.out.trans ch5 (fun z hz => .inr (by simp at hz;omega)))
   have hst:Chg [B] w5 (w5.setCell ⟨B,i,none⟩ (.int .i64 xv)):=(Chg.refl _ _).setCell (.inl (by simp)) _
   have hBF:∀ z∈F,z∉[B]:=fun z hz hm=>by simp at hm;have:=HLT.out z hz;have:=HC1.out.size;have:=HB.out;omega
   have HBF:=hid hBF
   clear hlr hrow4 hrow5 hfill hrd4 ch5 hfd4 hBF
   cases tb with
   | false =>
    have hbk:wrapI (pr+er) d=xv:=HBK.out
    have hw:=HWP.out (pr+er)
    rw [hbk] at hw
    go_wp2_with (go_at_call 50;refine (hw _).mono ?_;rintro e w' ⟨rfl,rfl⟩)
    go_roundg j
    case measure=>omega
    case rel =>
     refine ⟨i+1,p'+(rbitsAll kk [er]).length,by go_num,by omega,?_,hrd5.chg hst HBF.out,hid ?_,?_,hid (hch05.out.trans hst (fun z hz => .inr (by simp at hz;have:=HB.out;have:=HC1.out.size;omega)))⟩
     ·rw [HTK.out];exact HFI.out
     ·rw [HNX.out,List.length_append,Hp.out];simp [rbitsAll];omega
     ·rw [HNM.out];exact hmd5.chg hst (by simp;omega)
   | true =>
    have hbk:wrapI (pr + -er) d=xv:=HBK.out
    have hw:=HWP.out (pr + -er)
    rw [hbk] at hw
    go_wp2_with (go_at_call 50;refine (hw _).mono ?_;rintro e w' ⟨rfl,rfl⟩)
    go_roundg j
    case measure=>omega
    case rel =>
     refine ⟨i+1,p'+(rbitsAll kk [er]).length,by go_num,by omega,?_,hrd5.chg hst HBF.out,hid ?_,?_,hid (hch05.out.trans hst (fun z hz => .inr (by simp at hz;have:=HB.out;have:=HC1.out.size;omega)))⟩
     ·rw [HTK.out];exact HFI.out
     ·rw [HNX.out,List.length_append,Hp.out];simp [rbitsAll];omega
     ·rw [HNM.out];exact hmd5.chg hst (by simp;omega)
def TokAt (l:List Int) (i:Nat) (t:Tok):Prop :=
 (t.len=0∧t.dist=0∧t.lit=l.getD i 0)∨(1≤t.len∧i+t.len≤l.length∧1≤t.dist∧t.dist≤i∧∀ j,j<t.len→l.getD (i+j) 0=l.getD (i+j-t.dist) 0)
def RunsAt (l:List Int) (k:Nat) (rs:List Nat):Prop:=∀ d,1≤d→d≤k→∀ j,j<rs.getD d 0→l.getD (k+j) 0=l.getD (k+j-d) 0
structure DInv (l:List Int) (k:Nat) (rs:List Nat) (d:Nat) (s:DSt):Prop where
 r1:∀ e,1≤e→e<d→∀ j,j<s.runs.getD e 0→l.getD (k+j) 0=l.getD (k+j-e) 0
 r2:∀ e,d≤e→s.runs.getD e 0=rs.getD e 0
 dd:∀ m,s.dists.getD m 0≠0→s.dists.getD m 0<d∧m≤s.runs.getD (s.dists.getD m 0) 0
theorem fillD_get:∀ f D m d n,(fillD f D m d).getD n 0=D.getD n 0∨((fillD f D m d).getD n 0=d∧m<n∧n≤m+f)
 | 0,_,_,_,_ => .inl rfl
 | f+1,D,m,d,n=>by
  rw [fillD]
  rcases fillD_get f (D.set (m+1) d) (m+1) d n with h | ⟨h,h1,h2⟩
  ·rw [h,getD_set]
   split
   ·exact .inr ⟨rfl,by omega,by omega⟩
   ·exact .inl rfl
  ·exact .inr ⟨h,by omega,by omega⟩
theorem runAt_good {l:List Int} {k d:Nat} {rs rs0:List Nat} (h:RunsAt l (k+1) rs0) (e:rs.getD d 0=rs0.getD d 0) (h1:1≤d) (h2:d≤k):∀ j,j<runAt l k rs d→l.getD (k+j) 0=l.getD (k+j-d) 0:=by
 intro j hj
 unfold runAt at hj
 split at hj
 ·rename_i hq
  cases j with
  | zero=>exact hq
  | succ j =>
   have:=h d h1 (by omega) j (by rw [←e];omega)
   rw [show k+(j+1)=k+1+j by omega]
   exact this
 ·omega
theorem dStep_inv {l:List Int} {k d:Nat} {rs:List Nat} {s:DSt} (hr:RunsAt l (k+1) rs) (hs:s.Ok) (h:DInv l k rs d s) (h1:1≤d) (h2:d≤k) (h3:d≤1024):DInv l k rs (d+1) (dStep l k s d):=by
 have hg:=runAt_good (rs:=s.runs) hr (h.r2 d (Nat.le_refl _)) h1 h2
 have hlen:d<s.runs.length:=by rw [hs.rl];omega
 refine ⟨fun e he1 he2 j hj => ?_,fun e he => ?_,fun m hm => ?_⟩
 ·have hj':j<(s.runs.set d (runAt l k s.runs d)).getD e 0:=hj
  rw [getD_set] at hj'
  split at hj'
  ·rename_i hq
   obtain ⟨rfl,_⟩:=hq
   exact hg j hj'
  ·rename_i hq
   exact h.r1 e he1 (by
    have:¬ d=e:=fun hh=>hq ⟨hh,hlen⟩
    omega) j hj'
 ·show (s.runs.set d (runAt l k s.runs d)).getD e 0=_
  rw [getD_set,if_neg (by omega)]
  exact h.r2 e (by omega)
 ·have hm':(fillD (runAt l k s.runs d-s.longest) s.dists s.longest d).getD m 0≠0:=hm
  show (fillD (runAt l k s.runs d-s.longest) s.dists s.longest d).getD m 0<d+1∧m≤(s.runs.set d (runAt l k s.runs d)).getD ((fillD (runAt l k s.runs d-s.longest) s.dists s.longest d).getD m 0) 0
  rcases fillD_get (runAt l k s.runs d-s.longest) s.dists s.longest d m with e | ⟨e,e1,e2⟩
  ·rw [e] at hm' ⊢
   obtain ⟨q1,q2⟩:=h.dd m hm'
   refine ⟨by omega,?_⟩
   rw [getD_set,if_neg (by omega)]
   exact q2
  ·rw [e]
   refine ⟨by omega,?_⟩
   rw [getD_set,if_pos ⟨rfl,hlen⟩]
   omega
theorem dGo_inv {l:List Int} {k:Nat} {rs:List Nat} (hr:RunsAt l (k+1) rs):∀ f d s,s.Ok→DInv l k rs d s→1≤d→d+f≤k+1→d+f≤1025→DInv l k rs (d+f) (dGo l k f d s)
 | 0,_,_,_,h,_,_,_=>h
 | f+1,d,s,ho,h,h1,h2,h3=>by
  have:=dGo_inv hr f (d+1) _ (dStep_ok (l:=l) (at_:=k) ho (by omega)) (dStep_inv hr ho h h1 (by omega) (by omega)) (by omega) (by omega) (by omega)
  rw [show d+(f+1)=d+1+f by omega]
  exact this
theorem distF_inv {l:List Int} {k:Nat} {rs:List Nat} (hr:RunsAt l (k+1) rs) (ho:RunsOk rs):DInv l k rs (1+min k 1024) (distF l k rs):=by
 refine dGo_inv hr _ _ _ (dStart_ok ho) ⟨fun e h1 h2=>by omega,fun e _=>rfl,fun m hm => ?_⟩ (by omega) (by omega) (by omega)
 exfalso
 apply hm
 show (List.replicate 65 0).getD m 0=0
 rw [List.getD_eq_getElem?_getD,List.getElem?_replicate]
 split<;>rfl
theorem getD_far {l:List Nat} {i:Nat} (h:l.length≤i):l.getD i 0=0:=by
 rw [List.getD_eq_getElem?_getD,List.getElem?_eq_none h];rfl
theorem distF_runs {l:List Int} {k:Nat} {rs:List Nat} (hr:RunsAt l (k+1) rs) (ho:RunsOk rs):RunsAt l k (distF l k rs).runs:=by
 intro d h1 h2 j hj
 have hi:=distF_inv hr ho
 by_cases h3:d≤1024
 ·exact hi.r1 d h1 (by omega) j hj
 ·rw [getD_far (by rw [(distF_ok ho).rl];omega)] at hj
  omega
theorem tokAt_set {F:List Tok} {i j:Nat} {t:Tok}:tokAt (F.set i t) j=if i=j∧i<F.length then t else tokAt F j:=by
 unfold tokAt
 rw [List.getD_eq_getElem?_getD,List.getD_eq_getElem?_getD,List.getElem?_set]
 by_cases h:i=j
 ·subst h
  by_cases h2:i<F.length
  ·simp [h2]
  ·simp [h2]
 ·simp [h]
def FirstAt (l:List Int) (k:Nat) (F:List Tok):Prop:=F.length=l.length∧∀ i,k≤i→i<l.length→TokAt l i (tokAt F i)
theorem lOne_first {l:List Int} {cp k n:Nat} {D:List Nat} {p:List Nat × List Tok} (hD:D.getD n 0≠0→3≤n→TokAt l k ⟨n,D.getD n 0,0⟩) (h:FirstAt l k p.2):FirstAt l k (lOne cp k D n p).2:=by
 unfold lOne
 split
 ·exact h
 ·rename_i hq
  split
  ·refine ⟨by rw [List.length_set];exact h.1,fun i h1 h2 => ?_⟩
   rw [tokAt_set]
   split
   ·rename_i he
    obtain ⟨rfl,_⟩:=he
    exact hD (by omega) (by omega)
   ·exact h.2 i h1 h2
  ·exact h
theorem lPick_first {l:List Int} {cp k:Nat} {D:List Nat} (hD:∀ n,D.getD n 0≠0→3≤n→TokAt l k ⟨n,D.getD n 0,0⟩):∀ f m p,FirstAt l k p.2→FirstAt l k (lPick cp k D f m p).2
 | 0,_,_,h=>h
 | f+1,m,p,h=>lPick_first hD f (m+1) _ (lOne_first (hD m) h)
theorem lStep_at {l:List Int} {lit cp k:Nat} {s:LSt} (ho:s.Ok l.length lit (k+1)) (hk:k<l.length) (hr:RunsAt l (k+1) s.runs) (hf:FirstAt l (k+1) s.first):RunsAt l k (lStep l lit cp k s).runs∧FirstAt l k (lStep l lit cp k s).first:=by
 have hro:RunsOk s.runs:=⟨ho.rl,fun x hx=>(ho.rb x hx).1⟩
 have hin:=distF_in (l:=l) (at_:=k) (rs:=s.runs) (B:=l.length-(k+1)) (fun x hx=>(ho.rb x hx).2)
 have hiv:=distF_inv hr hro
 refine ⟨distF_runs hr hro,lPick_first (fun n hn h3 => ?_) 65 0 _ ?_⟩
 ·obtain ⟨h1,h2⟩:=hiv.dd n hn
  have h4:=hin.db n hn
  have h5:=hin.lb
  refine .inr ⟨by simp only;omega,by simp only;omega,by simp only;omega,by simp only;omega,fun j hj => ?_⟩
  exact hiv.r1 _ (by omega) h1 j (by simp only at hj;omega)
 ·refine ⟨by show (s.first.set k _).length=_;rw [List.length_set];exact hf.1,fun i h1 h2 => ?_⟩
  show TokAt l i (tokAt (s.first.set k _) i)
  rw [tokAt_set]
  split
  ·rename_i he
   obtain ⟨rfl,_⟩:=he
   exact .inl ⟨rfl,rfl,rfl⟩
  ·rename_i he
   exact hf.2 i (by
    have:¬ k=i:=fun hh=>he ⟨hh,by rw [hf.1];exact hk⟩
    omega) h2
theorem lGo_at {l:List Int} {lit cp:Nat}:∀ k s,s.Ok l.length lit k→k≤l.length→RunsAt l k s.runs→FirstAt l k s.first→FirstAt l 0 (lGo l lit cp k s).first
 | 0,_,_,_,_,h=>h
 | k+1,s,ho,hk,hr,hf=>by
  obtain ⟨h1,h2⟩:=lStep_at (cp:=cp) ho (by omega) hr hf
  exact lGo_at k _ (lStep_ok ho (by omega)) (by omega) h1 h2
theorem leastSt_at (l:List Int) (lit cp:Nat):FirstAt l 0 (leastSt l lit cp).first:=by
 refine lGo_at _ _ (lStart_ok _ _) (Nat.le_refl _) (fun d _ _ j hj => ?_) ⟨List.length_replicate,fun i h1 h2=>by omega⟩
 exfalso
 have:(List.replicate 1025 0).getD d 0=0:=by
  rw [List.getD_eq_getElem?_getD,List.getElem?_replicate]
  split<;>rfl
 have hj':j<(List.replicate 1025 0).getD d 0:=hj
 omega
def ToksFrom (l:List Int):Nat→List Tok→Prop
 | i,[]=>l.length≤i
 | i,t::T=>i<l.length∧TokAt l i t∧ToksFrom l (i+max t.len 1) T
theorem tokGo_from {l:List Int} {F:List Tok} (h:FirstAt l 0 F):∀ f i,l.length≤i+f→ToksFrom l i (tokGo F l.length f i)
 | 0,i,hi=>by simpa [tokGo,ToksFrom] using hi
 | f+1,i,hi=>by
  unfold tokGo
  split
  ·rename_i hl
   exact ⟨hl,h.2 i (Nat.zero_le _) hl,tokGo_from h f _ (by omega)⟩
  ·show l.length≤i
   omega
theorem leastF_from (l:List Int) (lit cp:Nat):ToksFrom l 0 (leastF l lit cp):=tokGo_from (leastSt_at l lit cp) _ _ (by omega)
theorem possible_yes (W H d n:Nat) (w:World) (w0:1≤W) (w1:W≤64) (h0:1≤H) (h1:H≤64) (d0:1≤d) (d1:d≤16) (n0:1≤n) (n1:n≤4) :
  Calls Tryz.prog 58 #[.int .i64 W,.int .i64 H,.int .i64 d,.int .i64 n] w fun e w'=>e=.returned (.bool true)∧w=w':=by
 have t1:decide ((1:Int)≤(W:Int))=true:=decide_eq_true (by omega)
 have t2:decide ((W:Int)≤64)=true:=decide_eq_true (by omega)
 have t3:decide ((1:Int)≤(H:Int))=true:=decide_eq_true (by omega)
 have t4:decide ((H:Int)≤64)=true:=decide_eq_true (by omega)
 have t5:decide ((1:Int)≤(d:Int))=true:=decide_eq_true (by omega)
 have t6:decide ((d:Int)≤16)=true:=decide_eq_true (by omega)
 have t7:decide ((1:Int)≤(n:Int))=true:=decide_eq_true (by omega)
 have t8:decide ((n:Int)≤4)=true:=decide_eq_true (by omega)
 clear w0 w1 h0 h1 d0 d1 n0 n1
 go_enter Tryz.func58,Tryz.ntmps58
 go_wp2
 go_ret
 exact ⟨rfl,rfl⟩
theorem possible_zero (w:World):Calls Tryz.prog 58 #[.int .i64 0,.int .i64 0,.int .i64 0,.int .i64 0] w fun e w'=>e=.returned (.bool false)∧w=w':=by
 go_enter Tryz.func58,Tryz.ntmps58
 go_wp2
 go_ret
 exact ⟨rfl,rfl⟩
theorem is_zero (w:World):Calls Tryz.prog 32 #[.agg #[.int .i64 0,.int .i64 0,.int .i64 0,.slice none 0 0]] w fun e w'=>e=.returned (.bool false)∧Chg [] w w':=by
 have hp:=fun w'=>possible_zero w'
 go_enter Tryz.func32,Tryz.ntmps32
 go_wp2_with fail
 refine (hp _).mono ?_
 rintro e w' ⟨rfl,rfl⟩
 go_wp2
 go_ret
 exact ⟨rfl,(Chg.refl [] w).alloc _⟩
theorem is_yes {w:World} {p:PicD} {g o:Nat} {B:Nat→Option Addr} {c:Nat→Nat} {G:List Nat} (cap:Nat) (h:PicAt w p g o B c G) :
  Calls Tryz.prog 32 #[picV p g o cap] w fun e w'=>e=.returned (.bool true)∧Chg [] w w':=by
 obtain ⟨W,hW⟩:∃ W,W=p.W:=⟨_,rfl⟩
 obtain ⟨H,hH⟩:∃ H,H=p.H:=⟨_,rfl⟩
 obtain ⟨d,hd⟩:∃ d,d=p.d:=⟨_,rfl⟩
 obtain ⟨n,hn⟩:∃ n,n=p.P.length:=⟨_,rfl⟩
 obtain ⟨N,hN⟩:∃ N,N=W*H:=⟨_,rfl⟩
 have eN:(W:Int)*(H:Int)=(N:Int):=by rw [hN];simp
 have hok:=h.ok
 have hp:=possible_yes W H d n
 have hpy:=fun w'=>hp w' (by rw [hW];exact hok.w0) (by rw [hW];exact hok.w1) (by rw [hH];exact hok.h0) (by rw [hH];exact hok.h1) (by rw [hd];exact hok.d0) (by rw [hd];exact hok.d1) (by rw [hn];exact hok.n0) (by rw [hn];exact hok.n1)
 have hN4:N≤4096:=by rw [hN,hW,hH];exact hok.area
 have hn4:n≤4:=by rw [hn];exact hok.n1
 have hd0:1≤d:=by rw [hd];exact hok.d0
 have hd1:d≤16:=by rw [hd];exact hok.d1
 have hcel:∀ w',Chg [] w w'→∀ i,i<n→∃ b q,w'.cell? ⟨g,o+i,none⟩=some (.slice (some ⟨b,q,none⟩) N (c i))∧∀ k,k<N→∃ s:Int,w'.cell? ⟨b,q+k,none⟩=some (.int .i64 s)∧0≤s∧s<2^d:=by
  intro w' hc i hi
  have h':=h.same hc
  rw [hn] at hi
  obtain ⟨b,q,e,hb,hk⟩:=h'.at_ hi
  have hce:=h'.cell i hi
  rw [e,←hW,←hH,←hN] at hce
  refine ⟨b,q,hce,fun k hk'=>⟨_,hk k (by rw [←hW,←hH,←hN];exact hk'),?_⟩⟩
  rw [hd]
  exact getD_smp (h'.ok.smp _ (by rw [List.getD_eq_getElem?_getD,List.getElem?_eq_getElem hi];exact List.getElem_mem hi)) k
 unfold picV
 rw [←hW,←hH,←hd,←hn]
 obtain ⟨w1,hw1⟩:∃ w1,w1=w.alloc (.cells #[.int .i64 (W:Int),.int .i64 (H:Int),.int .i64 (d:Int),.slice (some ⟨g,o,none⟩) n cap] 25):=⟨_,rfl⟩
 have ch1:Chg [] w w1:=by rw [hw1];exact (Chg.refl [] w).alloc _
 obtain ⟨bb,hbb⟩:∃ bb,bb=w.heap.size:=⟨_,rfl⟩
 have hbk:Blk w1 bb 25 #[.int .i64 (W:Int),.int .i64 (H:Int),.int .i64 (d:Int),.slice (some ⟨g,o,none⟩) n cap]:=by rw [hw1,hbb];exact Blk.new w _ _
 have b0:=hbk.cell 0
 have b1:=hbk.cell 1
 have b2:=hbk.cell 2
 have b3:=hbk.cell 3
 simp at b0 b1 b2 b3
 obtain ⟨hpw0,hpw1⟩:=pow_d hd0 hd1
 have HW1:=hid hw1
 have HBB:=hid hbb
 have HC:=hid hcel
 have HCH:=hid ch1
 clear hW hH hd hn hN hok hp hcel hw1 hbb hbk ch1 h
 go_enter Tryz.func32,Tryz.ntmps32
 go_wp2_with fail
 rw [←HW1.out,←HBB.out]
 refine (hpy _).mono ?_
 rintro e w' ⟨rfl,rfl⟩
 go_wp2_with fail
 go_loopg [21] n (fun j iv wr=>∃ i:Nat,iv=.int .i64 (i:Int)∧i+j=n∧w1=wr)
 case atStart=>exact ⟨0,rfl,by omega,rfl⟩
 case round =>
  obtain ⟨i,rfl,hij,rfl⟩:=hrel
  rcases gk with _ | j
  ·obtain rfl:i=n:=by omega
   have t1:decide (i<i)=false:=by simp
   go_wp2
   go_ret
   exact ⟨rfl,HCH.out⟩
  ·have hi:i<n:=by omega
   obtain ⟨b,q,hce,hk⟩:=HC.out _ HCH.out i hi
   have HK:=hid hk
   have t2:((N:Int) != (N:Int))=false:=by simp
   clear hk
   go_wp2_with fail
   go_loopg [35] N (fun j2 kv wr=>∃ k:Nat,kv=.int .i64 (k:Int)∧k+j2=N∧w1=wr)
   case atStart=>exact ⟨0,rfl,by omega,rfl⟩
   case round =>
    obtain ⟨k,rfl,hkj,rfl⟩:=hrel
    rcases gk with _ | j2
    ·obtain rfl:k=N:=by omega
     go_wp2
     go_roundg j
     case measure=>omega
     case rel=>exact ⟨i+1,by go_num,by omega,rfl⟩
    ·have hkN:k<N:=by omega
     obtain ⟨s,hcs,hs0,hs1⟩:=HK.out k hkN
     have t3:decide (s<0)=false:=decide_eq_false (by omega)
     have t4:decide ((2:Int)^d≤s)=false:=decide_eq_false (by omega)
     go_wp2
     go_roundg j2
     case measure=>omega
     case rel=>exact ⟨k+1,by go_num,by omega,rfl⟩
theorem alike_yes {w:World} {p q:PicD} {g o:Nat} {B:Nat→Option Addr} {c:Nat→Nat} {G:List Nat} (cap:Nat) (h:PicAt w p g o B c G)
  {g' o':Nat} {B':Nat→Option Addr} {c':Nat→Nat} {G':List Nat} (cap':Nat) (h':PicAt w q g' o' B' c' G') (ha:AlikeD p q) :
  Calls Tryz.prog 23 #[picV p g o cap,picV q g' o' cap'] w fun e w'=>e=.returned (.bool true)∧Chg [] w w':=by
 have hia:=fun w' (hc:Chg [] w w')=>is_yes cap (h.same hc)
 have hib:=fun w' (hc:Chg [] w w')=>is_yes cap' (h'.same hc)
 unfold picV at hia hib ⊢
 rw [←ha.W,←ha.H,←ha.d,←ha.n] at hib ⊢
 obtain ⟨W,hW⟩:∃ W,W=p.W:=⟨_,rfl⟩
 obtain ⟨H,hH⟩:∃ H,H=p.H:=⟨_,rfl⟩
 obtain ⟨d,hd⟩:∃ d,d=p.d:=⟨_,rfl⟩
 obtain ⟨n,hn⟩:∃ n,n=p.P.length:=⟨_,rfl⟩
 rw [←hW,←hH,←hd,←hn] at hia hib ⊢
 obtain ⟨w1,hw1⟩:∃ w1,w1=(w.alloc (.cells #[.int .i64 (W:Int),.int .i64 (H:Int),.int .i64 (d:Int),.slice (some ⟨g,o,none⟩) n cap] 25)).alloc (.cells #[.int .i64 (W:Int),.int .i64 (H:Int),.int .i64 (d:Int),.slice (some ⟨g',o',none⟩) n cap'] 25):=⟨_,rfl⟩
 have ch1:Chg [] w w1:=by rw [hw1];exact ((Chg.refl [] w).alloc _).alloc _
 obtain ⟨bb,hbb⟩:∃ bb,bb=w.heap.size:=⟨_,rfl⟩
 have hbk:Blk w1 bb 25 #[.int .i64 (W:Int),.int .i64 (H:Int),.int .i64 (d:Int),.slice (some ⟨g,o,none⟩) n cap]:=by rw [hw1,hbb];exact (Blk.new w _ _).alloc _
 have hbk2:Blk w1 (bb+1) 25 #[.int .i64 (W:Int),.int .i64 (H:Int),.int .i64 (d:Int),.slice (some ⟨g',o',none⟩) n cap']:=by rw [hw1,hbb];exact Blk.new2 w _ _ _
 have HW1:=hid hw1
 have HBB:=hid hbb
 have HB1:=hid hbk
 have HB2:=hid hbk2
 have HCH:=hid ch1
 have HIA:=hid hia
 have HIB:=hid hib
 clear hW hH hd hn hw1 hbb hbk hbk2 ch1 h h' hia hib ha
 go_enter Tryz.func23,Tryz.ntmps23
 go_wp2_with fail
 rw [←HW1.out]
 refine (HIA.out w1 HCH.out).mono ?_
 rintro e w2 ⟨rfl,ch2⟩
 have HCH2:=hid (HCH.out.trans_same ch2)
 have d0:=(HB2.out.chg ch2 (by simp)).cell 0
 have d1:=(HB2.out.chg ch2 (by simp)).cell 1
 have d2:=(HB2.out.chg ch2 (by simp)).cell 2
 have d3:=(HB2.out.chg ch2 (by simp)).cell 3
 simp at d0 d1 d2 d3
 rw [HBB.out] at d0 d1 d2 d3
 go_wp2_with fail
 refine (HIB.out w2 HCH2.out).mono ?_
 rintro e w3 ⟨rfl,ch3⟩
 have HCH3:=hid (HCH2.out.trans_same ch3)
 have c0:=((HB1.out.chg ch2 (by simp)).chg ch3 (by simp)).cell 0
 have c1:=((HB1.out.chg ch2 (by simp)).chg ch3 (by simp)).cell 1
 have c2:=((HB1.out.chg ch2 (by simp)).chg ch3 (by simp)).cell 2
 have c3:=((HB1.out.chg ch2 (by simp)).chg ch3 (by simp)).cell 3
 have d0:=((HB2.out.chg ch2 (by simp)).chg ch3 (by simp)).cell 0
 have d1:=((HB2.out.chg ch2 (by simp)).chg ch3 (by simp)).cell 1
 have d2:=((HB2.out.chg ch2 (by simp)).chg ch3 (by simp)).cell 2
 have d3:=((HB2.out.chg ch2 (by simp)).chg ch3 (by simp)).cell 3
 simp at c0 c1 c2 c3 d0 d1 d2 d3
 rw [HBB.out] at c0 c1 c2 c3 d0 d1 d2 d3
 clear ch2 ch3
 go_wp2
 go_ret
 exact ⟨rfl,HCH3.out⟩
theorem alike_zero {w:World} {p:PicD} {g o:Nat} {B:Nat→Option Addr} {c:Nat→Nat} {G:List Nat} (cap:Nat) (h:PicAt w p g o B c G) :
  Calls Tryz.prog 23 #[picV p g o cap,.agg #[.int .i64 0,.int .i64 0,.int .i64 0,.slice none 0 0]] w fun e w'=>e=.returned (.bool false)∧Chg [] w w':=by
 have hia:=fun w' (hc:Chg [] w w')=>is_yes cap (h.same hc)
 have hiz:=fun w'=>is_zero w'
 unfold picV at hia ⊢
 obtain ⟨W,hW⟩:∃ W,W=p.W:=⟨_,rfl⟩
 obtain ⟨H,hH⟩:∃ H,H=p.H:=⟨_,rfl⟩
 obtain ⟨d,hd⟩:∃ d,d=p.d:=⟨_,rfl⟩
 obtain ⟨n,hn⟩:∃ n,n=p.P.length:=⟨_,rfl⟩
 rw [←hW,←hH,←hd,←hn] at hia ⊢
 obtain ⟨w1,hw1⟩:∃ w1,w1=(w.alloc (.cells #[.int .i64 (W:Int),.int .i64 (H:Int),.int .i64 (d:Int),.slice (some ⟨g,o,none⟩) n cap] 25)).alloc (.cells #[.int .i64 0,.int .i64 0,.int .i64 0,.slice none 0 0] 25):=⟨_,rfl⟩
 have ch1:Chg [] w w1:=by rw [hw1];exact ((Chg.refl [] w).alloc _).alloc _
 have hbk2:Blk w1 (w.heap.size+1) 25 #[.int .i64 0,.int .i64 0,.int .i64 0,.slice none 0 0]:=by rw [hw1];exact Blk.new2 w _ _ _
 have HW1:=hid hw1
 have HB2:=hid hbk2
 have HCH:=hid ch1
 have HIA:=hid hia
 clear hW hH hd hn hw1 hbk2 ch1 h hia
 go_enter Tryz.func23,Tryz.ntmps23
 go_wp2_with fail
 rw [←HW1.out]
 refine (HIA.out w1 HCH.out).mono ?_
 rintro e w2 ⟨rfl,ch2⟩
 have HCH2:=hid (HCH.out.trans_same ch2)
 have d0:=(HB2.out.chg ch2 (by simp)).cell 0
 have d1:=(HB2.out.chg ch2 (by simp)).cell 1
 have d2:=(HB2.out.chg ch2 (by simp)).cell 2
 have d3:=(HB2.out.chg ch2 (by simp)).cell 3
 simp at d0 d1 d2 d3
 go_wp2_with fail
 refine (hiz w2).mono ?_
 rintro e w3 ⟨rfl,ch3⟩
 have HCH3:=hid (HCH2.out.trans_same ch3)
 clear ch2 ch3
 go_wp2
 go_ret
 exact ⟨rfl,HCH3.out⟩
end Go.Proofs.YtijpbkakncglgaaGreatDoor
