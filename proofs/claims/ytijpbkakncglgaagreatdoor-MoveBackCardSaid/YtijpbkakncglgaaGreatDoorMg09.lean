/- sort.SliceStable's parts by their contracts, the third part: symMerge, the other short case and the whole. -/
import Derived.Test.YtijpbkakncglgaaGreatDoorMg08
import Derived.Deep.Cut
set_option linter.unusedVariables false
set_option linter.unusedSimpArgs false
set_option maxHeartbeats 2000000
set_option maxRecDepth 100000
namespace Go.Proofs.YtijpbkakncglgaaGreatDoor
open Go.RowKit Go.Sort Go.Shelf Go.Lib
section
variable {α:Type} [Inhabited α] (enc:α→Value) (lt lt2:α→α→Bool) (g:Nat) (lb:Array Value) (sf:Nat) (sb:Array Value) (blk off size:Nat)
theorem merge_right1 (hS:SWO lt2) (eg:∀ args w,(callFunc g args).run Tryz.prog w=.ok (.enter g args) w) (hswap:SwapSwaps Tryz.prog sf sb enc blk off size) (hsz:size<1099511627776) (W:World) (d:Array α) (a m b:Nat) (E:SEnv Tryz.prog enc lt g lb blk off size W d)
  (hm0:a+2≤m) (hm1:m<b) (hm2:b≤m+1) (hb:b≤size) (h2:SortedIn lt2 a m d) (hAg:Agree lt lt2 a m b d) :
  Calls Tryz.prog 234 #[lsw g lb sf sb,.int .i64 a,.int .i64 m,.int .i64 b] W (MergePost enc lt2 blk off W d a b):=by
 have hd:=E.size_
 have hW:=E.lt_
 have E1:=E.alloc (.cells #[.func (.func g) #[] lb,.func (.func sf) #[] sb] 250)
 have hpre:=fun d' W' (h:SW enc (W.alloc (.cells #[.func (.func g) #[] lb,.func (.func sf) #[] sb] 250)) blk off d' W')=>sw_pre h hW
 unfold lsw
 have t0:(((m:Int)-(a:Int))==1)=false:=by rw [beq_eq_false_iff_ne];omega
 have t1:(((b:Int)-(m:Int))==1)=true:=by rw [beq_iff_eq];omega
 have HS2:=hid h2
 have HAG:=hid hAg
 have HSO:=hid hS
 have HPRE:=hid hpre
 obtain ⟨W1,hW1⟩:∃ W1,W1=W.alloc (.cells #[.func (.func g) #[] lb,.func (.func sf) #[] sb] 250):=⟨_,rfl⟩
 have c0:W1.cell? ⟨W.heap.size,0,none⟩=some (.func (.func g) #[] lb):=by rw [hW1];simp
 have c1:W1.cell? ⟨W.heap.size,1,none⟩=some (.func (.func sf) #[] sb):=by rw [hW1];simp
 have hB1:W.heap.size<W1.heap.size:=by rw [hW1];simp
 rw [←hW1] at E1 HPRE
 have HE:=hid E1
 have HW1:=hid hW1
 clear E h2 hS hpre E1 hAg
 go_enter Tryz.func234,Tryz.ntmps234
 go_wp2
 rw [←HW1.out]
 clear hW1
 go_loopg [12,13,14] (m-a) (fun k vi vj vh wr=>∃ (i j:Nat),vi=.int .i64 i∧vj=.int .i64 j∧a≤i∧i≤j∧j≤m∧j-i≤k∧Hid (i=a∨lt2 d[m]! d[i-1]! = false)∧Hid (j=m∨lt2 d[m]! d[j]! = true)∧SW enc W1 blk off d wr)
 case atStart=>exact ⟨a,m,rfl,rfl,by omega,by omega,by omega,by omega,hid (.inl rfl),hid (.inl rfl),HE.out.start⟩
 case round =>
  obtain ⟨i,j,rfl,rfl,hi,hij,hjm,hk,HL,HR,hsw⟩:=hrel
  have HEk:=HE.out.on hsw hd
  have cc0:=(sw_cell hsw (p:=⟨W.heap.size,0,none⟩) hB1 (by show W.heap.size≠blk;omega)).trans c0
  have cc1:=(sw_cell hsw (p:=⟨W.heap.size,1,none⟩) hB1 (by show W.heap.size≠blk;omega)).trans c1
  have HSW:=hid hsw
  clear hsw
  by_cases hlt:i<j
  ·rcases gk with _ | gk
   ·omega
   ·obtain ⟨h,hh⟩:∃ h,h=(i+j) / 2:=⟨_,rfl⟩
    have hhw:((i:Int)+(j:Int)) / 2=(h:Int):=by omega
    have hl:=HEk.call m h (by omega) (by omega)
    have hi2:i≤h:=by omega
    have hj2:h<j:=by omega
    clear hh
    clear HEk
    cases hlv:lt d[m]! d[h]! with
    | false =>
     rw [hlv] at hl
     go_wp2_with (go_at_fn g;refine hl.mono ?_;rintro e w' ⟨rfl,q,rfl⟩)
     go_roundg gk
     case measure=>omega
     case rel=>exact ⟨h+1,j,by go_num,rfl,by omega,by omega,by omega,by omega,hid (.inr ((HAG.out h m (by omega) (by omega) (Nat.le_refl _) (by omega)).symm.trans hlv)),HR,HSW.out.drewN q⟩
    | true =>
     rw [hlv] at hl
     go_wp2_with (go_at_fn g;refine hl.mono ?_;rintro e w' ⟨rfl,q,rfl⟩)
     go_roundg gk
     case measure=>omega
     case rel=>exact ⟨i,h,rfl,rfl,by omega,by omega,by omega,by omega,HL,hid (.inr ((HAG.out h m (by omega) (by omega) (Nat.le_refl _) (by omega)).symm.trans hlv)),HSW.out.drewN q⟩
  ·obtain rfl:i=j:=by omega
   go_wp2
   go_loopg [15] (m-i) (fun kk vk wr2=>∃ (k:Nat) (dk:Array α),vk=.int .i64 k∧i+kk=k∧k≤m∧dk.size=size∧Hid (MvD k m d dk)∧Hid (PermIn a b d dk)∧SW enc W1 blk off dk wr2)
   case atStart=>exact ⟨m,d,rfl,by omega,by omega,hd,hid (MvD.start _ _),hid (permIn_refl _ _ _),HSW.out⟩
   case round =>
    clear HEk cc0 cc1
    obtain ⟨k,dk,rfl,hkk,hkm,hdk,HM,HP,hsw⟩:=hrel
    have HEk:=HE.out.on hsw hdk
    have cc1:=(sw_cell hsw (p:=⟨W.heap.size,1,none⟩) hB1 (by show W.heap.size≠blk;omega)).trans c1
    rcases gk with _ | gk
    ·obtain rfl:k=i:=by omega
     go_wp2
     go_end0
     refine ⟨rfl,dk,?_,HP.out,HPRE.out _ _ hsw⟩
     obtain rfl:b=m+1:=by omega
     exact sorted_ins_r HSO.out HS2.out hi hjm HL.out HR.out HM.out
    ·have hs:=hswap wr dk HEk.holds hdk k (k-1) (by omega) (by omega)
     have e1:((k-1:Nat):Int)=(k:Int)-1:=by omega
     rw [e1] at hs
     have hnext:=hsw.swap (by omega) k (k-1) (by omega) (by omega)
     have hM2:=HM.out.step hkm (by omega) (by omega)
     have hP2:=permIn_trans _ _ _ _ _ HP.out (swp_permIn dk a b k (k-1) (by omega) (by omega) (by omega) (by omega) (by omega))
     have HN:=hid (And.intro hnext (And.intro hM2 hP2))
     have t5:decide ((i:Int)<(k:Int))=true:=zB (by omega)
     clear hnext hM2 hP2 HEk hsw
     go_wp2
     go_roundg gk
     case measure=>omega
     case rel=>exact ⟨k-1,_,by go_num,by omega,by omega,by rw [Sort.size_swp];exact hdk,hid HN.out.2.1,hid HN.out.2.2,HN.out.1⟩
end
end Go.Proofs.YtijpbkakncglgaaGreatDoor
