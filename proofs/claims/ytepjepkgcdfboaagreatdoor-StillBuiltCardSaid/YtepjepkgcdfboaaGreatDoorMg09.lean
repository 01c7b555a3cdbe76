/- sort.SliceStable's parts by their contracts, the third part: symMerge, the other short case and the whole. -/
import Derived.Test.YtepjepkgcdfboaaGreatDoorMg08
import Derived.Deep.Cut
set_option linter.unusedVariables false
set_option linter.unusedSimpArgs false
set_option maxHeartbeats 2000000
set_option maxRecDepth 100000
namespace Go.Proofs.YtepjepkgcdfboaaGreatDoor
open Go.RowKit Go.Sort Go.Shelf Go.Lib
section
variable {α:Type} [Inhabited α] (enc:α->Value) (lt lt2:α->α->Bool) (g:Nat) (lb:Array Value) (sf:Nat) (sb:Array Value) (blk off size:Nat)
theorem d1a (hS:SWO lt2) (eg:∀ args w,(callFunc g args).run Tryz.prog w=.ok (.enter g args) w) (hswap:SwapSwaps Tryz.prog sf sb enc blk off size) (hsz:size<1099511627776) (W:World) (d:Array α) (a m b:Nat) (E:c3f Tryz.prog enc lt g lb blk off size W d)
  (hm0:a+2<=m) (hm1:m<b) (hm2:b<=m+1) (hb:b<=size) (h2:SortedIn lt2 a m d) (hAg:c8z lt lt2 a m b d) :
  Calls Tryz.prog 294 #[lsw g lb sf sb,.int .i64 a,.int .i64 m,.int .i64 b] W (a7q enc lt2 blk off W d a b):=by
 have hd:=E.size_
 have hW:=E.lt_
 have E1:=E.alloc (.cells #[.func (.func g) #[] lb,.func (.func sf) #[] sb] 311)
 have af:=fun d' W' (h:SW enc (W.alloc (.cells #[.func (.func g) #[] lb,.func (.func sf) #[] sb] 311)) blk off d' W')=>b8n h hW
 unfold lsw
 have t0:(((m:Int)-(a:Int))==1)=false:=by rw [beq_eq_false_iff_ne];omega
 have t1:(((b:Int)-(m:Int))==1)=true:=by rw [beq_iff_eq];omega
 have ao:=hid h2
 have am:=hid hAg
 have ap:=hid hS
 have ae:=hid af
 obtain ⟨W1,ad⟩:=zX (W.alloc (.cells #[.func (.func g) #[] lb,.func (.func sf) #[] sb] 311))
 have c0:W1.cell? ⟨W.heap.size,0,none⟩=some (.func (.func g) #[] lb):=by rw [ad];simp
 have c1:W1.cell? ⟨W.heap.size,1,none⟩=some (.func (.func sf) #[] sb):=by rw [ad];simp
 have ag:W.heap.size<W1.heap.size:=by rw [ad];simp
 rw [<-ad] at E1 ae
 have HE:=hid E1
 have ar:=hid ad
 clear E h2 hS af E1 hAg
 go_enter Tryz.func294,Tryz.ntmps294
 go_wp2
 rw [<-ar.out]
 clear ad
 go_loopg [12,13,14] (m-a) (fun k vi vj vh wr=>∃ (i j:Nat),vi=.int .i64 i/\vj=.int .i64 j/\a<=i/\i<=j/\j<=m/\j-i<=k/\Hid (i=a\/lt2 d[m]! d[i-1]! = false)/\Hid (j=m\/lt2 d[m]! d[j]! = true)/\SW enc W1 blk off d wr)
 case atStart=>exact ⟨a,m,rfl,rfl,by omega,by omega,by omega,by omega,hid (.inl rfl),hid (.inl rfl),HE.out.start⟩
 case round =>
  obtain ⟨i,j,rfl,rfl,hi,ay,au,hk,HL,HR,aa⟩:=hrel
  have ac:=HE.out.on aa hd
  have an:=(a3a aa (p:=⟨W.heap.size,0,none⟩) ag (by show W.heap.size≠blk;omega)).trans c0
  have ak:=(a3a aa (p:=⟨W.heap.size,1,none⟩) ag (by show W.heap.size≠blk;omega)).trans c1
  have ai:=hid aa
  clear aa
  by_cases hlt:i<j
  ·rcases gk with _ | gk
   ·omega
   ·obtain ⟨h,hh⟩:=zX ((i+j) / 2)
    have av:((i:Int)+(j:Int)) / 2=(h:Int):=by omega
    have hl:=ac.call m h (by omega) (by omega)
    have az:i<=h:=by omega
    have ax:h<j:=by omega
    clear hh
    clear ac
    cases hlv:lt d[m]! d[h]! with
    | false =>
     rw [hlv] at hl
     go_wp2_with (go_at_fn g;refine hl.mono ?_;rintro e w' ⟨rfl,q,rfl⟩)
     go_roundg gk
     case measure=>omega
     case rel=>exact ⟨h+1,j,by go_num,rfl,by omega,by omega,by omega,by omega,hid (.inr ((am.out h m (by omega) (by omega) (zQ _) (by omega)).symm.trans hlv)),HR,ai.out.drewN q⟩
    | true =>
     rw [hlv] at hl
     go_wp2_with (go_at_fn g;refine hl.mono ?_;rintro e w' ⟨rfl,q,rfl⟩)
     go_roundg gk
     case measure=>omega
     case rel=>exact ⟨i,h,rfl,rfl,by omega,by omega,by omega,by omega,HL,hid (.inr ((am.out h m (by omega) (by omega) (zQ _) (by omega)).symm.trans hlv)),ai.out.drewN q⟩
  ·obtain rfl:i=j:=by omega
   go_wp2
   go_loopg [15] (m-i) (fun kk vk wr2=>∃ (k:Nat) (dk:Array α),vk=.int .i64 k/\i+kk=k/\k<=m/\dk.size=size/\Hid (MvD k m d dk)/\Hid (PermIn a b d dk)/\SW enc W1 blk off dk wr2)
   case atStart=>exact ⟨m,d,rfl,by omega,by omega,hd,hid (MvD.start _ _),hid (permIn_refl _ _ _),ai.out⟩
   case round =>
    clear ac an ak
    obtain ⟨k,dk,rfl,aw,aq,ah,HM,HP,aa⟩:=hrel
    have ac:=HE.out.on aa ah
    have ak:=(a3a aa (p:=⟨W.heap.size,1,none⟩) ag (by show W.heap.size≠blk;omega)).trans c1
    rcases gk with _ | gk
    ·obtain rfl:k=i:=by omega
     go_wp2
     go_end0
     refine ⟨rfl,dk,?_,HP.out,ae.out _ _ aa⟩
     obtain rfl:b=m+1:=by omega
     exact d1x ap.out ao.out hi au HL.out HR.out HM.out
    ·have hs:=hswap wr dk ac.holds ah k (k-1) (by omega) (by omega)
     have e1:((k-1:Nat):Int)=(k:Int)-1:=by omega
     rw [e1] at hs
     have ab:=aa.swap (by omega) k (k-1) (by omega) (by omega)
     have aj:=HM.out.step aq (by omega) (by omega)
     have al:=permIn_trans _ _ _ _ _ HP.out (swp_permIn dk a b k (k-1) (by omega) (by omega) (by omega) (by omega) (by omega))
     have HN:=hid (And.intro ab (And.intro aj al))
     have t5:decide ((i:Int)<(k:Int))=true:=zB (by omega)
     clear ab aj al ac aa
     go_wp2
     go_roundg gk
     case measure=>omega
     case rel=>exact ⟨k-1,_,by go_num,by omega,by omega,by rw [Sort.size_swp];exact ah,hid HN.out.2.1,hid HN.out.2.2,HN.out.1⟩
end
end Go.Proofs.YtepjepkgcdfboaaGreatDoor
