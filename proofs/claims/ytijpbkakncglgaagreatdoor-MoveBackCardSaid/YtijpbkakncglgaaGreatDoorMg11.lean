/- sort.SliceStable's parts by their contracts, the fifth part: stable_func at whatever length. -/
import Derived.Test.YtijpbkakncglgaaGreatDoorMg10
set_option linter.unusedVariables false
set_option linter.unusedSimpArgs false
set_option maxHeartbeats 4000000
set_option maxRecDepth 100000
namespace Go.Proofs.YtijpbkakncglgaaGreatDoor
open Go.RowKit Go.Sort Go.Shelf Go.Lib
section
variable {α:Type} [Inhabited α] (enc:α→Value) (lt lt2:α→α→Bool) (g:Nat) (lb:Array Value) (sf:Nat) (sb:Array Value) (blk off size:Nat)
theorem insert_ok (hS:SWO lt2) (eg:∀ args w,(callFunc g args).run Tryz.prog w=.ok (.enter g args) w) (hswap:SwapSwaps Tryz.prog sf sb enc blk off size) (hsz:size<1099511627776) (W:World) (d:Array α) (a b:Nat) (E:SEnv Tryz.prog enc lt g lb blk off size W d) (hab:a≤b) (hb:b≤size) (hR:RestA lt lt2 a size d) :
  Calls Tryz.prog 233 #[lsw g lb sf sb,.int .i64 a,.int .i64 b] W (MergePost enc lt2 blk off W d a b):=by
 have hd:=E.size_
 subst hd
 refine (Tryz.insertionSort_func_w enc lt g lb sf sb blk off a b d W eg E.less hswap E.holds E.lt_ hab hb (by omega)).mono ?_
 rintro e w' ⟨rfl,n,os,rfl⟩
 rw [insertion_eq hb fun k l h1 h2 h3=>hR k l h1 h2 (by omega)]
 obtain ⟨h1,h2⟩:=insertionSort_holds hS d a b hab hb
 exact ⟨rfl,_,h2,h1,n,os,rfl⟩
theorem stable_ok (hS:SWO lt2) (eg:∀ args w,(callFunc g args).run Tryz.prog w=.ok (.enter g args) w) (hswap:SwapSwaps Tryz.prog sf sb enc blk off size) (hsz:size<1099511627776) (W:World) (d:Array α) (E:SEnv Tryz.prog enc lt g lb blk off size W d) (hRest:RestA lt lt2 0 size d) :
  Calls Tryz.prog 221 #[lsw g lb sf sb,.int .i64 size] W (MergePost enc lt2 blk off W d 0 size):=by
 have hd:=E.size_
 have hW:=E.lt_
 have E1:=E.alloc (.cells #[.func (.func g) #[] lb,.func (.func sf) #[] sb] 250)
 have hpre:=fun d' W' (h:SW enc (W.alloc (.cells #[.func (.func g) #[] lb,.func (.func sf) #[] sb] 250)) blk off d' W')=>sw_pre h hW
 have hins:=fun W d a b=>insert_ok enc lt lt2 g lb sf sb blk off size hS eg hswap hsz W d a b
 have hmer:=fun W d a m b (h:_)=>merges enc lt lt2 g lb sf sb blk off size hS eg hswap hsz (b-a+1) W d a m b (Nat.lt_succ_self _) h
 unfold lsw at hins hmer ⊢
 have HFIT:Hid (Fit lt lt2 20 size d):=hid fun i j h1 h2 _=>hRest i j (Nat.zero_le _) h1 h2
 have HREST:=hid hRest
 have HPRE:=hid hpre
 have HINS:=hid hins
 have HMER:=hid hmer
 obtain ⟨W1,hW1⟩:∃ W1,W1=W.alloc (.cells #[.func (.func g) #[] lb,.func (.func sf) #[] sb] 250):=⟨_,rfl⟩
 have c0:W1.cell? ⟨W.heap.size,0,none⟩=some (.func (.func g) #[] lb):=by rw [hW1];simp
 have c1:W1.cell? ⟨W.heap.size,1,none⟩=some (.func (.func sf) #[] sb):=by rw [hW1];simp
 have hB1:W.heap.size<W1.heap.size:=by rw [hW1];simp
 rw [←hW1] at E1 HPRE
 have HE:=hid E1
 have HW1:=hid hW1
 have hblk1:blk<W1.heap.size:=E1.lt_
 clear E hpre E1 hins hmer hRest
 go_enter Tryz.func221,Tryz.ntmps221
 go_wp2
 rw [←HW1.out]
 clear hW1
 go_loopg [5,6] size (fun k va vb wr=>∃ (a:Nat) (dk:Array α),va=.int .i64 a∧vb=.int .i64 ((a:Int)+20)∧20∣a∧a≤size∧size≤a+k∧dk.size=size∧Hid (BlkIn lt2 20 0 a dk)∧Hid (RestA lt lt2 a size dk∧Fit lt lt2 20 size dk)∧Hid (PermIn 0 size d dk)∧SW enc W1 blk off dk wr)
 case atStart=>exact ⟨0,d,rfl,rfl,by omega,by omega,by omega,hd,hid (blk_start _ _ _ _),hid ⟨HREST.out,HFIT.out⟩,hid (permIn_refl _ _ _),HE.out.start⟩
 case round =>
  obtain ⟨a,dk,rfl,rfl,h20,ha,hk,hdk,HB,HRF,HP,hsw⟩:=hrel
  have HEk:=HE.out.on hsw hdk
  have cc0:=(sw_cell hsw (p:=⟨W.heap.size,0,none⟩) hB1 (by show W.heap.size≠blk;omega)).trans c0
  have cc1:=(sw_cell hsw (p:=⟨W.heap.size,1,none⟩) hB1 (by show W.heap.size≠blk;omega)).trans c1
  by_cases hle:a+20≤size
  ·rcases gk with _ | gk
   ·omega
   ·have hi:=HINS.out wr dk a (a+20) HEk (by omega) hle HRF.out.1
    have e1:((a+20:Nat):Int)=(a:Int)+20:=by simp
    rw [e1] at hi
    have t1:decide ((a:Int)+20≤(size:Int))=true:=zB (by omega)
    clear HEk
    go_wp2_with fail
    refine hi.mono ?_
    rintro e w2 ⟨rfl,d2,k1,k2,k4⟩
    have k1:=hid k1
    have k2h:=hid k2
    have hd2:=k2.1.trans hdk
    clear k2
    go_wp2
    go_roundg gk
    case measure=>omega
    case rel =>
     refine ⟨a+20,d2,by go_num,by go_num,by omega,hle,by omega,hd2,hid (HB.out.more (by omega) h20 k2h.out k1.out),hid ⟨HRF.out.1.next (by omega) k2h.out,HRF.out.2.perm (by omega) h20 (Nat.le_refl _) hle hdk k2h.out⟩,hid ?_,sw_trans hsw hblk1 k4 k2h.out.1⟩
     exact permIn_trans _ _ _ _ _ HP.out (permIn_mono _ _ _ _ _ _ (Nat.zero_le _) hle (by omega) k2h.out)
  ·have t1:decide ((a:Int)+20≤(size:Int))=false:=zA (by omega)
   have hi:=HINS.out wr dk a size HEk ha (Nat.le_refl _) HRF.out.1
   clear HEk
   go_wp2_with fail
   refine hi.mono ?_
   rintro e w2 ⟨rfl,d2,k1,k2,k4⟩
   have hd2:=k2.1.trans hdk
   have HB2:=hid (HB.out.more (by omega) h20 k2 k1)
   have HF2:=hid (HRF.out.2.perm (by omega) h20 (by omega) (Nat.le_refl _) hdk k2)
   have HP2:=hid (permIn_trans _ _ _ _ _ HP.out (permIn_mono _ _ _ _ _ _ (Nat.zero_le _) (Nat.le_refl _) (by omega) k2))
   have hsw2:=sw_trans hsw hblk1 k4 k2.1
   clear k1 k2 k4 hi HB HP HRF hsw cc0 cc1 hdk h20 hk t1 hle ha
   go_wp2_with fail
   go_loopg [4,5,6,7] size (fun k vs va vb vm wr=>∃ (n:Nat) (dk:Array α),vs=.int .i64 n∧0<n∧size≤n+k∧n≤20+2*size∧dk.size=size∧Hid (BlkIn lt2 n 0 size dk)∧Hid (Fit lt lt2 n size dk)∧Hid (PermIn 0 size d dk)∧SW enc W1 blk off dk wr)
   case atStart=>exact ⟨20,d2,rfl,by omega,by omega,by omega,hd2,HB2,HF2,HP2,hsw2⟩
   case round =>
    clear hd2 HB2 HF2 HP2 hsw2
    obtain ⟨n,dk,rfl,hn,hk,hn2,hdk,HB,HFN,HP,hsw⟩:=hrel
    by_cases hlt:n<size
    ·rcases gk with _ | ko
     ·omega
     ·go_wp2
      go_loopg [5,6] size (fun k va vb wr=>∃ (a:Nat) (dj:Array α),va=.int .i64 a∧vb=.int .i64 ((a:Int)+2*(n:Int))∧Hid (2*n∣a)∧a≤size∧size≤a+k∧dj.size=size∧Hid (BlkIn lt2 (2*n) 0 a dj)∧Hid (BlkIn lt2 n a size dj)∧Hid (Fit lt lt2 (2*n) size dj∧∀ i j,a≤i→i<j→j<size→i / n<j / n→lt dj[j]! dj[i]! = lt2 dj[j]! dj[i]!)∧Hid (PermIn 0 size d dj)∧SW enc W1 blk off dj wr)
      case atStart=>exact ⟨0,dk,rfl,by simp,hid (Nat.dvd_zero _),by omega,by omega,hdk,hid (blk_start _ _ _ _),HB,hid ⟨HFN.out.double,fun i j _ h2 h3 h4=>HFN.out i j h2 h3 h4⟩,HP,hsw⟩
      case round =>
       clear hsw HB HP hdk HFN
       obtain ⟨a,dj,rfl,rfl,H2,ha,hka,hdj,HB2,HB1,HF,HP,hsw⟩:=hrel
       have HEk:=HE.out.on hsw hdj
       have cc0:=(sw_cell hsw (p:=⟨W.heap.size,0,none⟩) hB1 (by show W.heap.size≠blk;omega)).trans c0
       have cc1:=(sw_cell hsw (p:=⟨W.heap.size,1,none⟩) hB1 (by show W.heap.size≠blk;omega)).trans c1
       have H1:Hid (n∣a):=hid (Nat.dvd_trans (Nat.dvd_mul_left n 2) H2.out)
       have hag:∀ b,b≤size→Hid (Agree lt lt2 a (a+n) b dj):=fun b hb=>hid (by
        obtain ⟨q,hq⟩:=H1.out
        intro x y h1 h2 h3 h4
        refine HF.out.2 x y h1 (by omega) (by omega) ?_
        rw [div_in (q:=q) hn (by omega) (by omega)]
        refine Nat.lt_of_lt_of_le (Nat.lt_succ_self q) ((Nat.le_div_iff_mul_le hn).2 ?_)
        have:(q+1)*n=n*q+n:=by rw [Nat.add_mul,Nat.one_mul,Nat.mul_comm]
        show (q+1)*n≤y
        omega)
       have s1:=fun hh=>hid (HB1.out.sorted hn (Nat.le_refl _) H1.out (Nat.le_refl _) hh)
       by_cases hle:a+2*n≤size
       ·rcases gk with _ | gk2
        ·omega
        ·have s2:SortedIn lt2 (a+n) (a+2*n) dj:=HB1.out.sorted hn (by omega) (Nat.dvd_add H1.out (Nat.dvd_refl _)) (by omega) hle
         have hm:=HMER.out wr dj a (a+n) (a+2*n) HEk (by omega) (by omega) hle (s1 (by omega)).out s2 (hag _ hle).out
         have e1:((a+n:Nat):Int)=(a:Int)+(n:Int):=by simp
         have e2:((a+2*n:Nat):Int)=(a:Int)+2*(n:Int):=by simp
         rw [e1,e2] at hm
         have t1:decide ((a:Int)+2*(n:Int)≤(size:Int))=true:=zB (by omega)
         clear HEk s1 s2 hag
         go_wp2_with fail
         refine hm.mono ?_
         rintro e w3 ⟨rfl,d3,k1,k2,k4⟩
         have k1:=hid k1
         have k2h:=hid k2
         have hd3:=k2.1.trans hdj
         clear k2
         go_wp2
         go_roundg gk2
         case measure=>omega
         case rel =>
          refine ⟨a+2*n,d3,by go_num,by go_num,hid (Nat.dvd_add H2.out (Nat.dvd_refl _)),hle,by omega,hd3,hid (HB2.out.more (by omega) H2.out k2h.out k1.out),hid (HB1.out.rest (by omega) k2h.out),hid ⟨HF.out.1.perm (by omega) H2.out (Nat.le_refl _) hle hdj k2h.out,fun i j h1 h2 h3 h4=>by rw [k2h.out.2.1 i (.inr h1),k2h.out.2.1 j (.inr (by omega))];exact HF.out.2 i j (by omega) h2 h3 h4⟩,hid ?_,sw_trans hsw hblk1 k4 k2h.out.1⟩
          exact permIn_trans _ _ _ _ _ HP.out (permIn_mono _ _ _ _ _ _ (Nat.zero_le _) hle (by omega) k2h.out)
       ·have t1:decide ((a:Int)+2*(n:Int)≤(size:Int))=false:=zA (by omega)
        by_cases hmn:a+n<size
        ·have s2:SortedIn lt2 (a+n) size dj:=HB1.out.sorted hn (by omega) (Nat.dvd_add H1.out (Nat.dvd_refl _)) (by omega) (Nat.le_refl _)
         have hm:=HMER.out wr dj a (a+n) size HEk (by omega) hmn (Nat.le_refl _) (s1 (by omega)).out s2 (hag _ (Nat.le_refl _)).out
         have e1:((a+n:Nat):Int)=(a:Int)+(n:Int):=by simp
         rw [e1] at hm
         have t2:decide ((a:Int)+(n:Int)<(size:Int))=true:=zB (by omega)
         clear HEk s1 s2 hag
         go_wp2_with fail
         refine hm.mono ?_
         rintro e w3 ⟨rfl,d3,k1,k2,k4⟩
         have k1:=hid k1
         have k2h:=hid k2
         have hd3:=k2.1.trans hdj
         clear k2
         go_wp2
         go_roundg ko
         case measure=>omega
         case rel =>
          refine ⟨2*n,d3,by go_num,by omega,by omega,by omega,hd3,hid (HB2.out.more (by omega) H2.out k2h.out k1.out),hid (HF.out.1.perm (by omega) H2.out (by omega) (Nat.le_refl _) hdj k2h.out),hid ?_,sw_trans hsw hblk1 k4 k2h.out.1⟩
          exact permIn_trans _ _ _ _ _ HP.out (permIn_mono _ _ _ _ _ _ (Nat.zero_le _) (Nat.le_refl _) (by omega) k2h.out)
        ·have t2:decide ((a:Int)+(n:Int)<(size:Int))=false:=zA (by omega)
         have s3:Hid (SortedIn lt2 a size dj):=hid (HB1.out.sorted hn (Nat.le_refl _) H1.out (by omega) (Nat.le_refl _))
         clear HEk s1 hag
         go_wp2
         go_roundg ko
         case measure=>omega
         case rel =>
          exact ⟨2*n,dj,by go_num,by omega,by omega,by omega,hdj,hid (HB2.out.more (by omega) H2.out (permIn_refl _ _ _) s3.out),hid HF.out.1,HP,hsw⟩
    ·go_wp2
     go_end0
     refine ⟨rfl,dk,?_,HP.out,HPRE.out _ _ hsw⟩
     exact HB.out.sorted hn (Nat.le_refl _) (Nat.dvd_zero _) (by omega) (Nat.le_refl _)
end
end Go.Proofs.YtijpbkakncglgaaGreatDoor
