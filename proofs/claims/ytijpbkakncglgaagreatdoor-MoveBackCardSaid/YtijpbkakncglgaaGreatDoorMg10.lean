/- sort.SliceStable's parts by their contracts, the fourth part: symMerge, the whole. -/
import Derived.Test.YtijpbkakncglgaaGreatDoorMg09
set_option linter.unusedVariables false
set_option linter.unusedSimpArgs false
set_option maxHeartbeats 4000000
set_option maxRecDepth 100000
namespace Go.Proofs.YtijpbkakncglgaaGreatDoor
open Go.RowKit Go.Sort Go.Shelf Go.Lib
section
variable {α:Type} [Inhabited α] (enc:α→Value) (lt lt2:α→α→Bool) (g:Nat) (lb:Array Value) (sf:Nat) (sb:Array Value) (blk off size:Nat)
def Merges (N:Nat):Prop:=∀ (W:World) (d:Array α) (a m b:Nat),b-a<N→SEnv Tryz.prog enc lt g lb blk off size W d→a<m→m<b→b≤size→SortedIn lt2 a m d→SortedIn lt2 m b d→Agree lt lt2 a m b d →
 Calls Tryz.prog 234 #[lsw g lb sf sb,.int .i64 a,.int .i64 m,.int .i64 b] W (MergePost enc lt2 blk off W d a b)
theorem merge_step (hS:SWO lt2) (eg:∀ args w,(callFunc g args).run Tryz.prog w=.ok (.enter g args) w) (hswap:SwapSwaps Tryz.prog sf sb enc blk off size) (hsz:size<1099511627776) (N:Nat) (ih:Merges enc lt lt2 g lb sf sb blk off size N)
  (W:World) (d:Array α) (a m b:Nat) (hN:b-a≤N) (E:SEnv Tryz.prog enc lt g lb blk off size W d) (hm0:a+2≤m) (hm1:m+2≤b) (hb:b≤size) (h1:SortedIn lt2 a m d) (h2:SortedIn lt2 m b d) (hAg:Agree lt lt2 a m b d) :
  Calls Tryz.prog 234 #[lsw g lb sf sb,.int .i64 a,.int .i64 m,.int .i64 b] W (MergePost enc lt2 blk off W d a b):=by
 have hd:=E.size_
 have hW:=E.lt_
 have E1:=E.alloc (.cells #[.func (.func g) #[] lb,.func (.func sf) #[] sb] 250)
 have hpre:=fun d' W' (h:SW enc (W.alloc (.cells #[.func (.func g) #[] lb,.func (.func sf) #[] sb] 250)) blk off d' W')=>sw_pre h hW
 have hrot:=fun W d a m b=>rotate_ok enc lt g lb sf sb blk off size hswap hsz W d a m b
 unfold Merges at ih
 unfold lsw at ih hrot ⊢
 have t0:(((m:Int)-(a:Int))==1)=false:=by rw [beq_eq_false_iff_ne];omega
 have t1:(((b:Int)-(m:Int))==1)=false:=by rw [beq_eq_false_iff_ne];omega
 obtain ⟨mid,hmid⟩:∃ mid,mid=(a+b) / 2:=⟨_,rfl⟩
 have hmidI:((a:Int)+(b:Int)) / 2=(mid:Int):=by omega
 have hmid1:a<mid:=by omega
 have hmid2:mid<b:=by omega
 obtain ⟨nn,hnn⟩:∃ nn,nn=mid+m:=⟨_,rfl⟩
 have hnnI:(mid:Int)+(m:Int)=(nn:Int):=by omega
 obtain ⟨p,hp⟩:∃ p,p=nn-1:=⟨_,rfl⟩
 have hpI:(nn:Int)-1=(p:Int):=by omega
 obtain ⟨lo,hlo⟩:∃ lo,lo=if mid<m then mid+m-b else a:=⟨_,rfl⟩
 obtain ⟨hi,hhi⟩:∃ hi,hi=if mid<m then mid else m:=⟨_,rfl⟩
 have hlohi:lo≤hi∧hi≤m∧hi≤mid∧a≤lo∧(mid<m→lo+b=nn):=by
  rw [hlo,hhi]
  split<;>omega
 have hlow:¬ mid<m→lo=a∧hi=m:=fun h=>by rw [hlo,hhi,if_neg h,if_neg h];exact ⟨rfl,rfl⟩
 have hlow2:mid<m→hi=mid:=fun h=>by rw [hhi,if_pos h]
 obtain ⟨hl1,hl2,hl3,hl4,hl5⟩:=hlohi
 have hlob:nn≤lo+b:=by
  by_cases h:mid<m
  ·have:=hl5 h;omega
  ·have:=hlow h;omega
 have HLO:=hid hlo
 have HHI:=hid hhi
 have HMID:=hid hmid
 have HNN:=hid hnn
 have HP:=hid hp
 have HLOW:=hid hlow
 have HLOW2:=hid hlow2
 have HL5:=hid hl5
 have HS1:=hid h1
 have HS2:=hid h2
 have HAG:=hid hAg
 have HSO:=hid hS
 have HPRE:=hid hpre
 have HIH:=hid ih
 have HROT:=hid hrot
 obtain ⟨W1,hW1⟩:∃ W1,W1=W.alloc (.cells #[.func (.func g) #[] lb,.func (.func sf) #[] sb] 250):=⟨_,rfl⟩
 have c0:W1.cell? ⟨W.heap.size,0,none⟩=some (.func (.func g) #[] lb):=by rw [hW1];simp
 have c1:W1.cell? ⟨W.heap.size,1,none⟩=some (.func (.func sf) #[] sb):=by rw [hW1];simp
 have hB1:W.heap.size<W1.heap.size:=by rw [hW1];simp
 rw [←hW1] at E1 HPRE
 have HE:=hid E1
 have HW1:=hid hW1
 have hblk1:blk<W1.heap.size:=E1.lt_
 clear hAg E h1 h2 hS hpre E1 hlo hhi hmid hnn hp hlow hlow2 hl5 ih hrot
 go_enter Tryz.func234,Tryz.ntmps234
 go_upto_if 106 with fail
 rw [←HW1.out]
 clear hW1
 go_cut [18,19] from 23 (fun s18 s19 wc=>s18=.int .i64 lo∧s19=.int .i64 hi∧wc=W1)
 case first =>
  by_cases hc:mid<m
  ·have e1:(nn:Int)-(b:Int)=(lo:Int):=by have:=HL5.out hc;omega
   have e2:=HLOW2.out hc
   go_wp2
   go_meet
   case rel=>exact ⟨rfl,by rw [e2],rfl⟩
  ·have e2:=HLOW.out hc
   go_wp2
   go_meet
   case rel=>exact ⟨by rw [e2.1],by rw [e2.2],rfl⟩
 case rest =>
  obtain ⟨rfl,rfl,h9⟩:=hcut
  obtain rfl:=h9.symm
  go_wp2
  go_loopg [18,19,21] (hi-lo) (fun k vi vj vh wr=>∃ (i j:Nat),vi=.int .i64 i∧vj=.int .i64 j∧lo≤i∧i≤j∧j≤hi∧j-i≤k∧Hid (i=lo∨lt2 d[p-(i-1)]! d[i-1]! = false)∧Hid (j=hi∨lt2 d[p-j]! d[j]! = true)∧SW enc W1 blk off d wr)
  case atStart=>exact ⟨lo,hi,rfl,rfl,by omega,by omega,by omega,by omega,hid (.inl rfl),hid (.inl rfl),HE.out.start⟩
  case round =>
   obtain ⟨i,j,rfl,rfl,hi1,hij,hjm,hk,HL,HR,hsw⟩:=hrel
   have HEk:=HE.out.on hsw hd
   have cc0:=(sw_cell hsw (p:=⟨W.heap.size,0,none⟩) hB1 (by show W.heap.size≠blk;omega)).trans c0
   have cc1:=(sw_cell hsw (p:=⟨W.heap.size,1,none⟩) hB1 (by show W.heap.size≠blk;omega)).trans c1
   have HSW:=hid hsw
   clear hsw
   by_cases hlt:i<j
   ·rcases gk with _ | gk
    ·omega
    ·obtain ⟨h,hh⟩:∃ h,h=(i+j) / 2:=⟨_,rfl⟩
     have hhw:((i:Int)+(j:Int)) / 2=(h:Int):=by omega
     have hi2:i≤h:=by omega
     have hj2:h<j:=by omega
     have hpn:=HP.out
     have hnm:=HNN.out
     obtain ⟨pc,hpc⟩:∃ pc,pc=p-h:=⟨_,rfl⟩
     have hpcI:(p:Int)-(h:Int)=(pc:Int):=by omega
     have hl:=HEk.call pc h (by omega) (by omega)
     have HPC:=hid hpc
     have hag:Hid (lt d[pc]! d[h]! = lt2 d[pc]! d[h]!):=hid (HAG.out h pc (by omega) (by omega) (by omega) (by omega))
     clear hh HEk hpc hpn hnm
     cases hlv:lt d[pc]! d[h]! with
     | false =>
      rw [hlv] at hl
      go_wp2_with (go_at_fn g;refine hl.mono ?_;rintro e w' ⟨rfl,q,rfl⟩)
      go_roundg gk
      case measure=>omega
      case rel=>exact ⟨h+1,j,by go_num,rfl,by omega,by omega,by omega,by omega,hid (.inr (by rw [Nat.add_sub_cancel,←HPC.out];exact hag.out.symm.trans hlv)),HR,HSW.out.drewN q⟩
     | true =>
      rw [hlv] at hl
      go_wp2_with (go_at_fn g;refine hl.mono ?_;rintro e w' ⟨rfl,q,rfl⟩)
      go_roundg gk
      case measure=>omega
      case rel=>exact ⟨i,h,rfl,rfl,by omega,by omega,by omega,by omega,HL,hid (.inr (by rw [←HPC.out];exact hag.out.symm.trans hlv)),HSW.out.drewN q⟩
   ·obtain rfl:i=j:=by omega
    have hnm:=HNN.out
    have hcutd:Cut lt2 a m b mid i d:=by
     have e:∀ x,mid+m-1-x=p-x:=fun x=>by rw [HP.out,HNN.out]
     refine Cut.of HSO.out HS1.out HS2.out (by omega) (by omega) HMID.out HLO.out HHI.out hi1 hjm ?_ ?_
     ·rw [e];exact HL.out
     ·rw [e];exact HR.out
    obtain ⟨en,hen⟩:∃ en,en=nn-i:=⟨_,rfl⟩
    have henI:(nn:Int)-(i:Int)=(en:Int):=by omega
    have he1:mid≤en:=by have:=hcutd.e0;omega
    have he2:en≤b:=by have:=hcutd.e1;omega
    have he3:en=mid+m-i:=by omega
    have hfin:∀ d1 d2 d3 W3,Rot i m en d d1→PermIn a b d d1→(SortedIn lt2 a mid d2∧PermIn a mid d1 d2)→(SortedIn lt2 mid b d3∧PermIn mid b d2 d3)→SW enc W1 blk off d3 W3→MergePost enc lt2 blk off W d a b (.returned (.tuple #[])) W3:=by
     intro d1 d2 d3 W3 hr hp1 h2' h3 hsw3
     rw [he3] at hr
     obtain ⟨_,_,_,_,k5⟩:=hcutd.rot HSO.out HS1.out HS2.out (by omega) (by omega) hr
     have hz:b≤d1.size:=by rw [hp1.1,hd];exact hb
     have hj:=sorted_join hz (by omega) (by omega) k5 h2'.2 h2'.1 h3.2 h3.1
     exact ⟨rfl,d3,hj.1,permIn_trans _ _ _ _ _ hp1 hj.2,HPRE.out _ _ hsw3⟩
    have hparts:∀ d1,Rot i m en d d1→SortedIn lt2 a i d1∧SortedIn lt2 i mid d1∧SortedIn lt2 mid en d1∧SortedIn lt2 en b d1∧Agree lt lt2 a i mid d1∧Agree lt lt2 mid en b d1:=by
     intro d1 hr
     rw [he3] at hr ⊢
     obtain ⟨k1,k2,k3,k4,_⟩:=hcutd.rot HSO.out HS1.out HS2.out (by omega) (by omega) hr
     refine ⟨k1,k2,k3,k4,?_,?_⟩
     ·intro x y h1 h2 h3 h4
      have e1:d1[x]! = d[x]!:=by rw [hr x,if_neg (by omega)]
      have e2:d1[y]! = d[y+(m-i)]!:=by rw [hr y,if_pos (by omega),if_pos (by omega)]
      rw [e1,e2]
      exact HAG.out x (y+(m-i)) h1 (by omega) (by omega) (by omega)
     ·intro x y h1 h2 h3 h4
      have e1:d1[x]! = d[x-(mid-i)]!:=by
       rw [hr x,if_pos (by omega),if_neg (by omega)];congr 1;omega
      have e2:d1[y]! = d[y]!:=by rw [hr y,if_neg (by omega)]
      rw [e1,e2]
      exact HAG.out (x-(mid-i)) y (by omega) (by omega) (by omega) h4
    have him:i≤m:=hcutd.ms
    have himid:i≤mid:=hcutd.mid1
    have hai:a≤i:=hcutd.lo
    have HFIN:=hid hfin
    have HPA:=hid hparts
    have HEN:=hid he3
    clear hcutd hfin hparts hen he3 hnm HL HR
    -- the rotation
    go_upto_region 40 with fail
    go_cut [145] from 23 (fun s145 wx=>s145=.bool (decide (i<m∧m<en))∧wx=wr)
    case first =>
     clear HEk
     by_cases q1:i<m
     ·by_cases q2:m<en
      ·have e:decide (i<m∧m<en)=true:=zB ⟨q1,q2⟩
       go_wp2
       go_meet
       case rel=>exact ⟨by rw [e],rfl⟩
      ·have e:decide (i<m∧m<en)=false:=zA fun h=>q2 h.2
       go_wp2
       go_meet
       case rel=>exact ⟨by rw [e],rfl⟩
     ·have e:decide (i<m∧m<en)=false:=zA fun h=>q1 h.1
      go_wp2
      go_meet
      case rel=>exact ⟨by rw [e],rfl⟩
    case rest =>
    obtain ⟨rfl,h9⟩:=hcut
    obtain rfl:=h9.symm
    go_upto_if 145 with fail
    go_cut [] from 23 (fun wx=>∃ d1,Hid (Rot i m en d d1)∧Hid (PermIn a b d d1)∧d1.size=size∧SW enc W1 blk off d1 wx)
    case first =>
     have hro:i<m→m<en→_:=fun x y=>HROT.out wr d i m en HEk x y (by omega)
     by_cases q1:i<m
     ·by_cases q2:m<en
      ·have hro:=hro q1 q2
       have e:decide (i<m∧m<en)=true:=zB ⟨q1,q2⟩
       go_wp2_with fail
       refine hro.mono ?_
       rintro e w2 ⟨rfl,d1,k1,k2,k3,k4⟩
       go_wp2
       go_meet
       case rel=>exact ⟨d1,hid k1,hid (permIn_mono _ _ _ _ _ _ hai he2 (by omega) k3),k2,sw_trans HSW.out hblk1 k4 (k2.trans hd.symm)⟩
      ·clear hro
       have e:decide (i<m∧m<en)=false:=zA fun h=>q2 h.2
       go_wp2
       go_meet
       case rel=>exact ⟨d,hid (Rot.none d (.inr (by have := HEN.out;omega)) (by omega) (by have := HEN.out;omega)),hid (permIn_refl _ _ _),hd,HSW.out⟩
     ·clear hro
      have e:decide (i<m∧m<en)=false:=zA fun h=>q1 h.1
      go_wp2
      go_meet
      case rel=>exact ⟨d,hid (Rot.none d (.inl (by omega)) (by omega) (by have := HEN.out;omega)),hid (permIn_refl _ _ _),hd,HSW.out⟩
    case rest =>
     clear HEk cc0 cc1
     obtain ⟨d1,HR1,HP1,hd1,hsw1⟩:=hcut
     have HEk:=HE.out.on hsw1 hd1
     have cc0:=(sw_cell hsw1 (p:=⟨W.heap.size,0,none⟩) hB1 (by show W.heap.size≠blk;omega)).trans c0
     have cc1:=(sw_cell hsw1 (p:=⟨W.heap.size,1,none⟩) hB1 (by show W.heap.size≠blk;omega)).trans c1
     obtain ⟨s1,s2,s3,s4,s5,s6⟩:=HPA.out d1 HR1.out
     have S5:=hid s5
     have S6:=hid s6
     have S1:=hid s1
     have S2:=hid s2
     have S3:=hid s3
     have S4:=hid s4
     clear s1 s2 s3 s4 s5 s6
     go_upto_region 42 with fail
     go_cut [158] from 23 (fun s158 wy=>s158=.bool (decide (a<i∧i<mid))∧wy=wc)
     case first =>
      clear HEk
      by_cases q1:a<i
      ·by_cases q2:i<mid
       ·have e:decide (a<i∧i<mid)=true:=zB ⟨q1,q2⟩
        go_wp2
        go_meet
        case rel=>exact ⟨by rw [e],rfl⟩
       ·have e:decide (a<i∧i<mid)=false:=zA fun h=>q2 h.2
        go_wp2
        go_meet
        case rel=>exact ⟨by rw [e],rfl⟩
      ·have e:decide (a<i∧i<mid)=false:=zA fun h=>q1 h.1
       go_wp2
       go_meet
       case rel=>exact ⟨by rw [e],rfl⟩
     case rest =>
     obtain ⟨rfl,h9⟩:=hcut
     obtain rfl:=h9.symm
     go_upto_if 158 with fail
     go_cut [] from 23 (fun wy=>∃ d2,Hid (SortedIn lt2 a mid d2∧PermIn a mid d1 d2)∧d2.size=size∧SW enc W1 blk off d2 wy)
     case first =>
      have hrec:a<i→i<mid→_:=fun x y=>HIH.out wc d1 a i mid (by omega) HEk x y (by omega) S1.out S2.out S5.out
      by_cases q1:a<i
      ·by_cases q2:i<mid
       ·have hrec:=hrec q1 q2
        have e:decide (a<i∧i<mid)=true:=zB ⟨q1,q2⟩
        go_wp2_with fail
        refine hrec.mono ?_
        rintro e w2 ⟨rfl,d2,k1,k2,k4⟩
        go_wp2
        go_meet
        case rel=>exact ⟨d2,hid ⟨k1,k2⟩,k2.1.trans hd1,sw_trans hsw1 hblk1 k4 k2.1⟩
       ·clear hrec
        have e:decide (a<i∧i<mid)=false:=zA fun h=>q2 h.2
        have e9:Hid (i=mid):=hid (by omega)
        go_wp2
        go_meet
        case rel=>exact ⟨d1,hid ⟨by rw [←e9.out];exact S1.out,permIn_refl _ _ _⟩,hd1,hsw1⟩
      ·clear hrec
       have e:decide (a<i∧i<mid)=false:=zA fun h=>q1 h.1
       have e9:Hid (a=i):=hid (by omega)
       go_wp2
       go_meet
       case rel=>exact ⟨d1,hid ⟨by rw [e9.out];exact S2.out,permIn_refl _ _ _⟩,hd1,hsw1⟩
     case rest =>
      clear HEk cc0 cc1
      obtain ⟨d2,HP2,hd2,hsw2⟩:=hcut
      have HEk:=HE.out.on hsw2 hd2
      have cc0:=(sw_cell hsw2 (p:=⟨W.heap.size,0,none⟩) hB1 (by show W.heap.size≠blk;omega)).trans c0
      have cc1:=(sw_cell hsw2 (p:=⟨W.heap.size,1,none⟩) hB1 (by show W.heap.size≠blk;omega)).trans c1
      have hright:∀ k,mid≤k→d2[k]! = d1[k]!:=fun k hk=>HP2.out.2.2.1 k (.inr hk)
      have S3':SortedIn lt2 mid en d2:=fun x y h1 h2 h3=>by rw [hright x h1,hright y (by omega)];exact S3.out x y h1 h2 h3
      have S4':SortedIn lt2 en b d2:=fun x y h1 h2 h3=>by rw [hright x (by omega),hright y (by omega)];exact S4.out x y h1 h2 h3
      have S3:=hid S3'
      have S4:=hid S4'
      have S6':Hid (Agree lt lt2 mid en b d2):=hid fun x y h1 h2 h3 h4=>by rw [hright x h1,hright y (by omega)];exact S6.out x y h1 h2 h3 h4
      clear hright S3' S4'
      have hrec:mid<en→en<b→_:=fun x y=>HIH.out wc d2 mid en b (by omega) HEk x y hb S3.out S4.out S6'.out
      by_cases q1:mid<en
      ·by_cases q2:en<b
       ·have hrec:=hrec q1 q2
        go_wp2_with fail
        refine hrec.mono ?_
        rintro e w2 ⟨rfl,d3,k1,k2,k4⟩
        go_wp2
        go_end0
        exact HFIN.out d1 d2 d3 w2 HR1.out HP1.out HP2.out ⟨k1,k2⟩ (sw_trans hsw2 hblk1 k4 k2.1)
       ·clear hrec
        obtain rfl:en=b:=by omega
        go_wp2
        go_end0
        exact HFIN.out d1 d2 d2 wc HR1.out HP1.out HP2.out ⟨S3.out,permIn_refl _ _ _⟩ hsw2
      ·clear hrec
       obtain rfl:mid=en:=by omega
       go_wp2
       go_end0
       exact HFIN.out d1 d2 d2 wc HR1.out HP1.out HP2.out ⟨S4.out,permIn_refl _ _ _⟩ hsw2
theorem merges (hS:SWO lt2) (eg:∀ args w,(callFunc g args).run Tryz.prog w=.ok (.enter g args) w) (hswap:SwapSwaps Tryz.prog sf sb enc blk off size) (hsz:size<1099511627776):∀ N,Merges enc lt lt2 g lb sf sb blk off size N
 | 0=>fun _ _ _ _ _ h=>by omega
 | N+1=>fun W d a m b hN E h1 h2 hb s1 s2 ag=>by
  by_cases c1:m≤a+1
  ·exact merge_left1 enc lt lt2 g lb sf sb blk off size hS eg hswap hsz W d a m b E h1 c1 h2 hb s2 ag
  ·by_cases c2:b≤m+1
   ·exact merge_right1 enc lt lt2 g lb sf sb blk off size hS eg hswap hsz W d a m b E (by omega) h2 c2 hb s1 ag
   ·exact merge_step enc lt lt2 g lb sf sb blk off size hS eg hswap hsz N (merges hS eg hswap hsz N) W d a m b (by omega) E (by omega) (by omega) hb s1 s2 ag
end
end Go.Proofs.YtijpbkakncglgaaGreatDoor
