/- sort.SliceStable's parts by their contracts, the third part: symMerge, the other short case and the whole. -/
import Derived.Test.YtepjepkgcdfboaaGreatDoorMg08
import Derived.Deep.Cut
set_option linter.unusedVariables false
set_option linter.unusedSimpArgs false
set_option maxHeartbeats 2000000
set_option maxRecDepth 100000
namespace Go.Proofs.YtepjepkgcdfboaaGreatDoor
open Go.RowKit Go.Sort Go.Shelf Go.Lib
section
variable {α:Type} [Inhabited α] (enc:α->Value) (lt lt2:α->α->Bool) (g:Nat) (lb:Array Value) (sf:Nat) (sb:Array Value) (blk off size:Nat)
theorem d1a (hS:SWO lt2) (eg:∀ args w,(callFunc g args).run Tryz.prog w=.ok (.enter g args) w) (hswap:SwapSwaps Tryz.prog sf sb enc blk off size) (hsz:size<1099511627776) (W:World) (d:Array α) (a m b:Nat) (E:c3f Tryz.prog enc lt g lb blk off size W d)
  (hm0:a+2<=m) (hm1:m<b) (hm2:b<=m+1) (hb:b<=size) (h2:SortedIn lt2 a m d) (hAg:c8z lt lt2 a m b d) :
  Calls Tryz.prog 294 #[lsw g lb sf sb,.int .i64 a,.int .i64 m,.int .i64 b] W (a7q enc lt2 blk off W d a b):=by
 have hd:=E.size_
 have hW:=E.lt_
 have E1:=E.alloc (.cells #[.func (.func g) #[] lb,.func (.func sf) #[] sb] 311)
 have ae:=fun d' W' (h:SW enc (W.alloc (.cells #[.func (.func g) #[] lb,.func (.func sf) #[] sb] 311)) blk off d' W')=>b8n h hW
 unfold lsw
 have t0:(((m:Int)-(a:Int))==1)=false:=by rw [beq_eq_false_iff_ne];omega
 have t1:(((b:Int)-(m:Int))==1)=true:=by rw [beq_iff_eq];omega
 have an:=hid h2
 have aj:=hid hAg
 have au:=hid hS
 have af:=hid ae
 obtain ⟨W1,ac⟩:=zX (W.alloc (.cells #[.func (.func g) #[] lb,.func (.func sf) #[] sb] 311))
 have c0:W1.cell? ⟨W.heap.size,0,none⟩=some (.func (.func g) #[] lb):=by rw [ac];simp
 have c1:W1.cell? ⟨W.heap.size,1,none⟩=some (.func (.func sf) #[] sb):=by rw [ac];simp
 have ag:W.heap.size<W1.heap.size:=by rw [ac];simp
 rw [<-ac] at E1 af
 have HE:=hid E1
 have ao:=hid ac
 clear E h2 hS ae E1 hAg
 go_enter Tryz.func294,Tryz.ntmps294
 go_wp2
 rw [<-ao.out]
 clear ac
 go_loopg [12,13,14] (m-a) (fun k vi vj vh wr=>∃ (i j:Nat),vi=.int .i64 i/\vj=.int .i64 j/\a<=i/\i<=j/\j<=m/\j-i<=k/\Hid (i=a\/lt2 d[m]! d[i-1]! = false)/\Hid (j=m\/lt2 d[m]! d[j]! = true)/\SW enc W1 blk off d wr)
 case atStart=>exact ⟨a,m,rfl,rfl,by omega,by omega,by omega,by omega,hid (.inl rfl),hid (.inl rfl),HE.out.start⟩
 case round =>
  obtain ⟨i,j,rfl,rfl,hi,aw,ar,hk,HL,HR,aa⟩:=hrel
  have ad:=HE.out.on aa hd
  have aq:=(a3a aa (p:=⟨W.heap.size,0,none⟩) ag (by show W.heap.size≠blk;omega)).trans c0
  have am:=(a3a aa (p:=⟨W.heap.size,1,none⟩) ag (by show W.heap.size≠blk;omega)).trans c1
  have ah:=hid aa
  clear aa
  by_cases hlt:i<j
  ·rcases gk with _ | gk
   ·omega
   ·obtain ⟨h,hh⟩:=zX ((i+j) / 2)
    have ay:((i:Int)+(j:Int)) / 2=(h:Int):=by omega
    have hl:=ad.call m h (by omega) (by omega)
    have az:i<=h:=by omega
    have av:h<j:=by omega
    clear hh
    clear ad
    cases hlv:lt d[m]! d[h]! with
    | false =>
     rw [hlv] at hl
     go_wp2_with (go_at_fn g;refine hl.mono ?_;rintro e w' ⟨rfl,q,rfl⟩)
     go_roundg gk
     case measure=>omega
     case rel=>exact ⟨h+1,j,by go_num,rfl,by omega,by omega,by omega,by omega,hid (.inr ((aj.out h m (by omega) (by omega) (zQ _) (by omega)).symm.trans hlv)),HR,ah.out.drewN q⟩
    | true =>
     rw [hlv] at hl
     go_wp2_with (go_at_fn g;refine hl.mono ?_;rintro e w' ⟨rfl,q,rfl⟩)
     go_roundg gk
     case measure=>omega
     case rel=>exact ⟨i,h,rfl,rfl,by omega,by omega,by omega,by omega,HL,hid (.inr ((aj.out h m (by omega) (by omega) (zQ _) (by omega)).symm.trans hlv)),ah.out.drewN q⟩
  ·obtain rfl:i=j:=by omega
   go_wp2
   go_loopg [15] (m-i) (fun kk vk wr2=>∃ (k:Nat) (dk:Array α),vk=.int .i64 k/\i+kk=k/\k<=m/\dk.size=size/\Hid (MvD k m d dk)/\Hid (PermIn a b d dk)/\SW enc W1 blk off dk wr2)
   case atStart=>exact ⟨m,d,rfl,by omega,by omega,hd,hid (MvD.start _ _),hid (permIn_refl _ _ _),ah.out⟩
   case round =>
    clear ad aq am
    obtain ⟨k,dk,rfl,ax,ap,ai,HM,HP,aa⟩:=hrel
    have ad:=HE.out.on aa ai
    have am:=(a3a aa (p:=⟨W.heap.size,1,none⟩) ag (by show W.heap.size≠blk;omega)).trans c1
    rcases gk with _ | gk
    ·obtain rfl:k=i:=by omega
     go_wp2
     go_end0
     refine ⟨rfl,dk,?_,HP.out,af.out _ _ aa⟩
     obtain rfl:b=m+1:=by omega
     exact d1x au.out an.out hi ar HL.out HR.out HM.out
    ·have hs:=hswap wr dk ad.holds ai k (k-1) (by omega) (by omega)
     have e1:((k-1:Nat):Int)=(k:Int)-1:=by omega
     rw [e1] at hs
     have ab:=aa.swap (by omega) k (k-1) (by omega) (by omega)
     have ak:=HM.out.step ap (by omega) (by omega)
     have al:=permIn_trans _ _ _ _ _ HP.out (swp_permIn dk a b k (k-1) (by omega) (by omega) (by omega) (by omega) (by omega))
     have HN:=hid (And.intro ab (And.intro ak al))
     have t5:decide ((i:Int)<(k:Int))=true:=zB (by omega)
     clear ab ak al ad aa
     go_wp2
     go_roundg gk
     case measure=>omega
     case rel=>exact ⟨k-1,_,by go_num,by omega,by omega,by rw [Sort.size_swp];exact ai,hid HN.out.2.1,hid HN.out.2.2,HN.out.1⟩
end
end Go.Proofs.YtepjepkgcdfboaaGreatDoor
