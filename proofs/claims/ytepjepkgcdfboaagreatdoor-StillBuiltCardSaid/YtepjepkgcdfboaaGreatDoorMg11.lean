/- sort.SliceStable's parts by their contracts, the fifth part: stable_func at whatever length. -/
import Derived.Test.YtepjepkgcdfboaaGreatDoorMg10
set_option linter.unusedVariables false
set_option linter.unusedSimpArgs false
set_option maxHeartbeats 4000000
set_option maxRecDepth 100000
namespace Go.Proofs.YtepjepkgcdfboaaGreatDoor
open Go.RowKit Go.Sort Go.Shelf Go.Lib
section
variable {α:Type} [Inhabited α] (enc:α->Value) (lt lt2:α->α->Bool) (g:Nat) (lb:Array Value) (sf:Nat) (sb:Array Value) (blk off size:Nat)
theorem e2x (hS:SWO lt2) (eg:∀ args w,(callFunc g args).run Tryz.prog w=.ok (.enter g args) w) (hswap:SwapSwaps Tryz.prog sf sb enc blk off size) (hsz:size<1099511627776) (W:World) (d:Array α) (a b:Nat) (E:c3f Tryz.prog enc lt g lb blk off size W d) (hab:a<=b) (hb:b<=size) (hR:d2m lt lt2 a size d) :
  Calls Tryz.prog 293 #[lsw g lb sf sb,.int .i64 a,.int .i64 b] W (a7q enc lt2 blk off W d a b):=by
 have hd:=E.size_
 subst hd
 refine (Tryz.insertionSort_func_w enc lt g lb sf sb blk off a b d W eg E.less hswap E.holds E.lt_ hab hb (by omega)).mono ?_
 rintro e w' ⟨rfl,n,os,rfl⟩
 rw [d0r hb fun k l h1 h2 h3=>hR k l h1 h2 (by omega)]
 obtain ⟨h1,h2⟩:=insertionSort_holds hS d a b hab hb
 exact ⟨rfl,_,h2,h1,n,os,rfl⟩
theorem e5u (hS:SWO lt2) (eg:∀ args w,(callFunc g args).run Tryz.prog w=.ok (.enter g args) w) (hswap:SwapSwaps Tryz.prog sf sb enc blk off size) (hsz:size<1099511627776) (W:World) (d:Array α) (E:c3f Tryz.prog enc lt g lb blk off size W d) (hRest:d2m lt lt2 0 size d) :
  Calls Tryz.prog 278 #[lsw g lb sf sb,.int .i64 size] W (a7q enc lt2 blk off W d 0 size):=by
 have hd:=E.size_
 have hW:=E.lt_
 have E1:=E.alloc (.cells #[.func (.func g) #[] lb,.func (.func sf) #[] sb] 311)
 have aq:=fun d' W' (h:SW enc (W.alloc (.cells #[.func (.func g) #[] lb,.func (.func sf) #[] sb] 311)) blk off d' W')=>b8n h hW
 have af:=fun W d a b=>e2x enc lt lt2 g lb sf sb blk off size hS eg hswap hsz W d a b
 have ag:=fun W d a m b (h:_)=>f0u enc lt lt2 g lb sf sb blk off size hS eg hswap hsz (b-a+1) W d a m b (Nat.lt_succ_self _) h
 unfold lsw at af ag ⊢
 have aA:Hid (Fit lt lt2 20 size d):=hid fun i j h1 h2 _=>hRest i j (Nat.zero_le _) h1 h2
 have al:=hid hRest
 have ap:=hid aq
 have au:=hid af
 have am:=hid ag
 obtain ⟨W1,ak⟩:=zX (W.alloc (.cells #[.func (.func g) #[] lb,.func (.func sf) #[] sb] 311))
 have c0:W1.cell? ⟨W.heap.size,0,none⟩=some (.func (.func g) #[] lb):=by rw [ak];simp
 have c1:W1.cell? ⟨W.heap.size,1,none⟩=some (.func (.func sf) #[] sb):=by rw [ak];simp
 have aw:W.heap.size<W1.heap.size:=by rw [ak];simp
 rw [<-ak] at E1 ap
 have HE:=hid E1
 have aF:=hid ak
 have ac:blk<W1.heap.size:=E1.lt_
 clear E aq E1 af ag hRest
 go_enter Tryz.func278,Tryz.ntmps278
 go_wp2
 rw [<-aF.out]
 clear ak
 go_loopg [5,6] size (fun k va vb wr=>∃ (a:Nat) (dk:Array α),va=.int .i64 a/\vb=.int .i64 ((a:Int)+20)/\20∣a/\a<=size/\size<=a+k/\dk.size=size/\Hid (b6l lt2 20 0 a dk)/\Hid (d2m lt lt2 a size dk/\Fit lt lt2 20 size dk)/\Hid (PermIn 0 size d dk)/\SW enc W1 blk off dk wr)
 case atStart=>exact ⟨0,d,rfl,rfl,by omega,by omega,by omega,hd,hid (c9l _ _ _ _),hid ⟨al.out,aA.out⟩,hid (permIn_refl _ _ _),HE.out.start⟩
 case round =>
  obtain ⟨a,dk,rfl,rfl,ar,ha,hk,ae,HB,ai,HP,ab⟩:=hrel
  have ad:=HE.out.on ab ae
  have aD:=(a3a ab (p:=⟨W.heap.size,0,none⟩) aw (by show W.heap.size≠blk;omega)).trans c0
  have aE:=(a3a ab (p:=⟨W.heap.size,1,none⟩) aw (by show W.heap.size≠blk;omega)).trans c1
  by_cases hle:a+20<=size
  ·rcases gk with _ | gk
   ·omega
   ·have hi:=au.out wr dk a (a+20) ad (by omega) hle ai.out.1
    have e1:((a+20:Nat):Int)=(a:Int)+20:=by simp
    rw [e1] at hi
    have t1:decide ((a:Int)+20<=(size:Int))=true:=zB (by omega)
    clear ad
    go_wp2_with fail
    refine hi.mono ?_
    rintro e w2 ⟨rfl,d2,k1,k2,k4⟩
    have k1:=hid k1
    have aa:=hid k2
    have ax:=k2.1.trans ae
    clear k2
    go_wp2
    go_roundg gk
    case measure=>omega
    case rel =>
     refine ⟨a+20,d2,by go_num,by go_num,by omega,hle,by omega,ax,hid (HB.out.more (by omega) ar aa.out k1.out),hid ⟨ai.out.1.next (by omega) aa.out,ai.out.2.perm (by omega) ar (zQ _) hle ae aa.out⟩,hid ?_,a6k ab ac k4 aa.out.1⟩
     exact permIn_trans _ _ _ _ _ HP.out (permIn_mono _ _ _ _ _ _ (Nat.zero_le _) hle (by omega) aa.out)
  ·have t1:decide ((a:Int)+20<=(size:Int))=false:=zA (by omega)
   have hi:=au.out wr dk a size ad ha (zQ _) ai.out.1
   clear ad
   go_wp2_with fail
   refine hi.mono ?_
   rintro e w2 ⟨rfl,d2,k1,k2,k4⟩
   have ax:=k2.1.trans ae
   have ah:=hid (HB.out.more (by omega) ar k2 k1)
   have aB:=hid (ai.out.2.perm (by omega) ar (by omega) (zQ _) ae k2)
   have aC:=hid (permIn_trans _ _ _ _ _ HP.out (permIn_mono _ _ _ _ _ _ (Nat.zero_le _) (zQ _) (by omega) k2))
   have av:=a6k ab ac k4 k2.1
   clear k1 k2 k4 hi HB HP ai ab aD aE ae ar hk t1 hle ha
   go_wp2_with fail
   go_loopg [4,5,6,7] size (fun k vs va vb vm wr=>∃ (n:Nat) (dk:Array α),vs=.int .i64 n/\0<n/\size<=n+k/\n<=20+2*size/\dk.size=size/\Hid (b6l lt2 n 0 size dk)/\Hid (Fit lt lt2 n size dk)/\Hid (PermIn 0 size d dk)/\SW enc W1 blk off dk wr)
   case atStart=>exact ⟨20,d2,rfl,by omega,by omega,by omega,ax,ah,aB,aC,av⟩
   case round =>
    clear ax ah aB aC av
    obtain ⟨n,dk,rfl,hn,hk,aI,ae,HB,az,HP,ab⟩:=hrel
    by_cases hlt:n<size
    ·rcases gk with _ | ko
     ·omega
     ·go_wp2
      go_loopg [5,6] size (fun k va vb wr=>∃ (a:Nat) (dj:Array α),va=.int .i64 a/\vb=.int .i64 ((a:Int)+2*(n:Int))/\Hid (2*n∣a)/\a<=size/\size<=a+k/\dj.size=size/\Hid (b6l lt2 (2*n) 0 a dj)/\Hid (b6l lt2 n a size dj)/\Hid (Fit lt lt2 (2*n) size dj/\∀ i j,a<=i->i<j->j<size->i / n<j / n->lt dj[j]! dj[i]! = lt2 dj[j]! dj[i]!)/\Hid (PermIn 0 size d dj)/\SW enc W1 blk off dj wr)
      case atStart=>exact ⟨0,dk,rfl,by simp,hid (Nat.dvd_zero _),by omega,by omega,ae,hid (c9l _ _ _ _),HB,hid ⟨az.out.double,fun i j _ h2 h3 h4=>az.out i j h2 h3 h4⟩,HP,ab⟩
      case round =>
       clear ab HB HP ae az
       obtain ⟨a,dj,rfl,rfl,H2,ha,aH,aj,ah,ao,HF,HP,ab⟩:=hrel
       have ad:=HE.out.on ab aj
       have aD:=(a3a ab (p:=⟨W.heap.size,0,none⟩) aw (by show W.heap.size≠blk;omega)).trans c0
       have aE:=(a3a ab (p:=⟨W.heap.size,1,none⟩) aw (by show W.heap.size≠blk;omega)).trans c1
       have H1:Hid (n∣a):=hid (Nat.dvd_trans (Nat.dvd_mul_left n 2) H2.out)
       have an:∀ b,b<=size->Hid (c8z lt lt2 a (a+n) b dj):=fun b hb=>hid (by
        obtain ⟨q,hq⟩:=H1.out
        intro x y h1 h2 h3 h4
        refine HF.out.2 x y h1 (by omega) (by omega) ?_
        rw [d5p (q:=q) hn (by omega) (by omega)]
        refine Nat.lt_of_lt_of_le (Nat.lt_succ_self q) ((Nat.le_div_iff_mul_le hn).2 ?_)
        have:(q+1)*n=n*q+n:=by rw [Nat.add_mul,Nat.one_mul,zY]
        show (q+1)*n<=y
        omega)
       have s1:=fun hh=>hid (ao.out.sorted hn (zQ _) H1.out (zQ _) hh)
       by_cases hle:a+2*n<=size
       ·rcases gk with _ | aG
        ·omega
        ·have s2:SortedIn lt2 (a+n) (a+2*n) dj:=ao.out.sorted hn (by omega) (Nat.dvd_add H1.out (Nat.dvd_refl _)) (by omega) hle
         have hm:=am.out wr dj a (a+n) (a+2*n) ad (by omega) (by omega) hle (s1 (by omega)).out s2 (an _ hle).out
         have e1:((a+n:Nat):Int)=(a:Int)+(n:Int):=by simp
         have e2:((a+2*n:Nat):Int)=(a:Int)+2*(n:Int):=by simp
         rw [e1,e2] at hm
         have t1:decide ((a:Int)+2*(n:Int)<=(size:Int))=true:=zB (by omega)
         clear ad s1 s2 an
         go_wp2_with fail
         refine hm.mono ?_
         rintro e w3 ⟨rfl,d3,k1,k2,k4⟩
         have k1:=hid k1
         have aa:=hid k2
         have ay:=k2.1.trans aj
         clear k2
         go_wp2
         go_roundg aG
         case measure=>omega
         case rel =>
          refine ⟨a+2*n,d3,by go_num,by go_num,hid (Nat.dvd_add H2.out (Nat.dvd_refl _)),hle,by omega,ay,hid (ah.out.more (by omega) H2.out aa.out k1.out),hid (ao.out.rest (by omega) aa.out),hid ⟨HF.out.1.perm (by omega) H2.out (zQ _) hle aj aa.out,fun i j h1 h2 h3 h4=>by rw [aa.out.2.1 i (.inr h1),aa.out.2.1 j (.inr (by omega))];exact HF.out.2 i j (by omega) h2 h3 h4⟩,hid ?_,a6k ab ac k4 aa.out.1⟩
          exact permIn_trans _ _ _ _ _ HP.out (permIn_mono _ _ _ _ _ _ (Nat.zero_le _) hle (by omega) aa.out)
       ·have t1:decide ((a:Int)+2*(n:Int)<=(size:Int))=false:=zA (by omega)
        by_cases hmn:a+n<size
        ·have s2:SortedIn lt2 (a+n) size dj:=ao.out.sorted hn (by omega) (Nat.dvd_add H1.out (Nat.dvd_refl _)) (by omega) (zQ _)
         have hm:=am.out wr dj a (a+n) size ad (by omega) hmn (zQ _) (s1 (by omega)).out s2 (an _ (zQ _)).out
         have e1:((a+n:Nat):Int)=(a:Int)+(n:Int):=by simp
         rw [e1] at hm
         have t2:decide ((a:Int)+(n:Int)<(size:Int))=true:=zB (by omega)
         clear ad s1 s2 an
         go_wp2_with fail
         refine hm.mono ?_
         rintro e w3 ⟨rfl,d3,k1,k2,k4⟩
         have k1:=hid k1
         have aa:=hid k2
         have ay:=k2.1.trans aj
         clear k2
         go_wp2
         go_roundg ko
         case measure=>omega
         case rel =>
          refine ⟨2*n,d3,by go_num,by omega,by omega,by omega,ay,hid (ah.out.more (by omega) H2.out aa.out k1.out),hid (HF.out.1.perm (by omega) H2.out (by omega) (zQ _) aj aa.out),hid ?_,a6k ab ac k4 aa.out.1⟩
          exact permIn_trans _ _ _ _ _ HP.out (permIn_mono _ _ _ _ _ _ (Nat.zero_le _) (zQ _) (by omega) aa.out)
        ·have t2:decide ((a:Int)+(n:Int)<(size:Int))=false:=zA (by omega)
         have s3:Hid (SortedIn lt2 a size dj):=hid (ao.out.sorted hn (zQ _) H1.out (by omega) (zQ _))
         clear ad s1 an
         go_wp2
         go_roundg ko
         case measure=>omega
         case rel =>
          exact ⟨2*n,dj,by go_num,by omega,by omega,by omega,aj,hid (ah.out.more (by omega) H2.out (permIn_refl _ _ _) s3.out),hid HF.out.1,HP,ab⟩
    ·go_wp2
     go_end0
     refine ⟨rfl,dk,?_,HP.out,ap.out _ _ ab⟩
     exact HB.out.sorted hn (zQ _) (Nat.dvd_zero _) (by omega) (zQ _)
end
end Go.Proofs.YtepjepkgcdfboaaGreatDoor
