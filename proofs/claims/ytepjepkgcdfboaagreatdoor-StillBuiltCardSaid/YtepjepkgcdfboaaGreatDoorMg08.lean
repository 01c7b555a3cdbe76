/- sort.SliceStable's parts by their contracts: swapRange, rotate. Over a 'less' that reads and a 'swap' of two stores, as the kit's sort has them. -/
import Derived.Test.YtepjepkgcdfboaaGreatDoorMg05
import Derived.Test.YtepjepkgcdfboaaGreatDoorMg06
import Derived.Test.YtepjepkgcdfboaaGreatDoorMg07
import Derived.Shelf.GgSortFunc.SW
set_option linter.unusedVariables false
set_option linter.unusedSimpArgs false
set_option maxHeartbeats 2000000
set_option maxRecDepth 100000
namespace Go.Proofs.YtepjepkgcdfboaaGreatDoor
open Go.RowKit Go.Sort Go.Shelf Go.Lib
section
variable {α:Type} [Inhabited α]
theorem a3a {enc:α->Value} {w0 W:World} {blk off:Nat} {dk:Array α} (h:SW enc w0 blk off dk W) {p:Addr} (hp:p.block<w0.heap.size) (hn:p.block≠blk):W.cell? p=w0.cell? p:=by
 obtain ⟨n,os,rfl⟩:=h
 unfold sortWorld
 rw [cell?_grow _ _ _ (by rw [size_putRow];exact hp),cell?_putRow_other enc _ blk off dk p (Or.inl hn)]
 rfl
theorem a6k {enc:α->Value} {w0 W W':World} {blk off:Nat} {d1 d2:Array α} (h:SW enc w0 blk off d1 W) (hblk:blk<w0.heap.size) (h2:SW enc W blk off d2 W') (hs:d2.size=d1.size):SW enc w0 blk off d2 W':=by
 obtain ⟨n,os,rfl⟩:=h2
 exact h.on hblk n d2 os hs
theorem b8n {enc:α->Value} {w0 W:World} {blk off:Nat} {dk:Array α} {o:Obj} (h:SW enc (w0.alloc o) blk off dk W) (hblk:blk<w0.heap.size):SW enc w0 blk off dk W:=by
 obtain ⟨n,os,rfl⟩:=h
 refine ⟨n,#[o]++os,?_⟩
 unfold sortWorld
 rw [alloc_eq_grow,ahead_grow,putRow_grow enc (Sort.ahead w0 n) _ blk off _ hblk,grow_grow]
structure c3f (P:Program) (enc:α->Value) (lt:α->α->Bool) (g:Nat) (lb:Array Value) (blk off size:Nat) (W:World) (d:Array α):Prop where
 less:LessReads P g lb enc lt blk off size W
 holds:Holds enc W blk off d
 lt_:blk<W.heap.size
 size_:d.size=size
theorem c3f.start {P:Program} {enc:α->Value} {lt:α->α->Bool} {g:Nat} {lb:Array Value} {blk off size:Nat} {W:World} {d:Array α} (E:c3f P enc lt g lb blk off size W d):SW enc W blk off d W:=SW.start E.holds
theorem c3f.on {P:Program} {enc:α->Value} {lt:α->α->Bool} {g:Nat} {lb:Array Value} {blk off size:Nat} {W W':World} {d d':Array α} (E:c3f P enc lt g lb blk off size W d) (h:SW enc W blk off d' W') (hs:d'.size=size) :
  c3f P enc lt g lb blk off size W' d' :=
 ⟨h.lessReads E.less E.lt_ hs,h.holds E.lt_ E.holds (hs.trans E.size_.symm),h.lt E.lt_,hs⟩
end
def lsw (g:Nat) (lb:Array Value) (sf:Nat) (sb:Array Value):Value:=.agg #[.func (.func g) #[] lb,.func (.func sf) #[] sb]
section
variable {α:Type} [Inhabited α] (enc:α->Value) (lt:α->α->Bool) (g:Nat) (lb:Array Value) (sf:Nat) (sb:Array Value) (blk off size:Nat)
theorem f0a (hswap:SwapSwaps Tryz.prog sf sb enc blk off size) (hsz:size<1099511627776) (W:World) (d:Array α) (a b n:Nat) (E:c3f Tryz.prog enc lt g lb blk off size W d) (hab:a+n<=b) (hb:b+n<=size) :
  Calls Tryz.prog 296 #[lsw g lb sf sb,.int .i64 a,.int .i64 b,.int .i64 n] W fun e W'=>e=.returned (.tuple #[])/\∃ d',b9t a b n d d'/\d'.size=size/\(∀ lo hi,lo<=a->b+n<=hi->hi<=size->PermIn lo hi d d')/\SW enc W blk off d' W':=by
 have hd:=E.size_
 have hW:=E.lt_
 have E1:=(E.start).alloc (.cells #[.func (.func g) #[] lb,.func (.func sf) #[] sb] 311)
 unfold lsw
 have HE:=hid E
 clear E
 go_enter Tryz.func296,Tryz.ntmps296
 go_wp2
 go_loopg [8] n (fun j iv wr=>∃ (i:Nat) (dk:Array α),iv=.int .i64 i/\i+j=n/\Hid (b9t a b i d dk)/\dk.size=size/\Hid (∀ lo hi,lo<=a->b+n<=hi->hi<=size->PermIn lo hi d dk)/\SW enc (W.alloc (.cells #[.func (.func g) #[] lb,.func (.func sf) #[] sb] 311)) blk off dk wr)
 case atStart=>exact ⟨0,d,rfl,by omega,hid (b9t.zero _ _ _),hd,hid (fun lo hi _ _ _=>permIn_refl _ _ _),SW.start (HE.out.on E1 hd).holds⟩
 case round =>
  clear E1
  obtain ⟨i,dk,rfl,ah,HS,ac,HP,ab⟩:=hrel
  have ad:=HE.out.on (b8n ab hW) ac
  have c1:=a3a ab (p:=⟨W.heap.size,1,none⟩) (by simp) (by show W.heap.size≠blk;omega)
  simp at c1
  rcases gk with _ | j
  ·obtain rfl:i=n:=by omega
   go_wp2
   go_end0
   exact ⟨rfl,dk,HS.out,ac,HP.out,b8n ab hW⟩
  ·have ag:i<n:=by omega
   have hs:=hswap wr dk ad.holds ac (a+i) (b+i) (by omega) (by omega)
   have e1:((a+i:Nat):Int)=(a:Int)+(i:Int):=by simp
   have e2:((b+i:Nat):Int)=(b:Int)+(i:Int):=by simp
   rw [e1,e2] at hs
   have aa:=ab.swap (by simp;omega) (a+i) (b+i) (by omega) (by omega)
   have af:=HS.out.step (by omega) (by omega)
   have ae:∀ lo hi,lo<=a->b+n<=hi->hi<=size->PermIn lo hi d (swp dk (a+i) (b+i)):=fun lo hi h1 h2 h3 =>
    permIn_trans _ _ _ _ _ (HP.out lo hi h1 h2 h3) (swp_permIn _ _ _ _ _ (by omega) (by omega) (by omega) (by omega) (by omega))
   have HN:=hid (And.intro aa (And.intro af ae))
   clear aa af ae ad ab
   go_wp2
   go_roundg j
   case measure=>omega
   case rel=>exact ⟨i+1,_,by go_num,by omega,hid HN.out.2.1,by rw [Sort.size_swp];exact ac,hid HN.out.2.2,HN.out.1⟩
theorem e5i (hswap:SwapSwaps Tryz.prog sf sb enc blk off size) (hsz:size<1099511627776) (W:World) (d:Array α) (a m b:Nat) (E:c3f Tryz.prog enc lt g lb blk off size W d) (ham:a<m) (hmb:m<b) (hb:b<=size) :
  Calls Tryz.prog 295 #[lsw g lb sf sb,.int .i64 a,.int .i64 m,.int .i64 b] W fun e W'=>e=.returned (.tuple #[])/\∃ d',Rot a m b d d'/\d'.size=size/\PermIn a b d d'/\SW enc W blk off d' W':=by
 have hd:=E.size_
 have hW:=E.lt_
 have E1:=(E.start).alloc (.cells #[.func (.func g) #[] lb,.func (.func sf) #[] sb] 311)
 have ad:=fun W d a b n=>f0a enc lt g lb sf sb blk off size hswap hsz W d a b n
 unfold lsw at ad ⊢
 have HE:=hid E
 have af:=hid ad
 clear E ad
 go_enter Tryz.func295,Tryz.ntmps295
 go_wp2
 go_loopg [8,9] (b-a) (fun k vi vj wr=>∃ (i j:Nat) (dk:Array α),vi=.int .i64 i/\vj=.int .i64 j/\0<i/\0<j/\i+j<=k/\i<=m-a/\j<=b-m/\dk.size=size/\Hid (∀ d',Rot (m-i) m (m+j) dk d'->Rot a m b d d')/\Hid (PermIn a b d dk)/\SW enc (W.alloc (.cells #[.func (.func g) #[] lb,.func (.func sf) #[] sb] 311)) blk off dk wr)
 case atStart =>
  refine ⟨m-a,b-m,d,by go_num,by go_num,by omega,by omega,by omega,by omega,by omega,hd,hid ?_,hid (permIn_refl _ _ _),SW.start (HE.out.on E1 hd).holds⟩
  intro d' h
  have e1:m-(m-a)=a:=by omega
  have e2:m+(b-m)=b:=by omega
  rw [e1,e2] at h
  exact h
 case round =>
  clear E1
  obtain ⟨i,j,dk,rfl,rfl,ag,ai,ah,aj,ak,ac,HR,HP,ab⟩:=hrel
  have aa:=HE.out.on (b8n ab hW) ac
  have c0:=a3a ab (p:=⟨W.heap.size,0,none⟩) (by simp) (by show W.heap.size≠blk;omega)
  have c1:=a3a ab (p:=⟨W.heap.size,1,none⟩) (by simp) (by show W.heap.size≠blk;omega)
  simp at c0 c1
  have ae:=hid ab
  clear ab
  by_cases heq:i=j
  ·subst heq
   have hc:=af.out wr dk (m-i) m i aa (by omega) (by omega)
   have e1:((m-i:Nat):Int)=(m:Int)-(i:Int):=by omega
   rw [e1] at hc
   clear aa
   go_wp2_with fail
   refine hc.mono ?_
   rintro e w2 ⟨rfl,d2,h1,h2,h3,h4⟩
   go_wp2
   go_end0
   refine ⟨rfl,d2,HR.out _ (Rot.equal h1 (by omega)),h2,permIn_trans _ _ _ _ _ HP.out (h3 a b (by omega) (by omega) (by omega)),?_⟩
   exact b8n (a6k ae.out (by simp;omega) h4 (h2.trans ac.symm)) hW
  ·rcases gk with _ | gk
   ·omega
   ·have t1:((i:Int) != (j:Int))=true:=by rw [bne_iff_ne];omega
    by_cases hgt:j<i
    ·have t2:decide ((j:Int)<(i:Int))=true:=zB (by omega)
     have hc:=af.out wr dk (m-i) m j aa (by omega) (by omega)
     have e1:((m-i:Nat):Int)=(m:Int)-(i:Int):=by omega
     rw [e1] at hc
     clear aa
     go_wp2_with fail
     refine hc.mono ?_
     rintro e w2 ⟨rfl,d2,h1,h2,h3,h4⟩
     have h1:=hid h1
     have h3:=hid h3
     go_wp2
     go_roundg gk
     case measure=>omega
     case rel =>
      refine ⟨i-j,j,d2,by go_num,rfl,by omega,by omega,by omega,by omega,by omega,h2,hid ?_,hid ?_,a6k ae.out (by simp;omega) h4 (h2.trans ac.symm)⟩
      ·intro d' hr
       exact HR.out _ (Rot.left h1.out (by omega) hgt ai hr)
      ·exact permIn_trans _ _ _ _ _ HP.out (h3.out a b (by omega) (by omega) (by omega))
    ·have t2:decide ((j:Int)<(i:Int))=false:=zA (by omega)
     have hc:=af.out wr dk (m-i) (m+j-i) i aa (by omega) (by omega)
     have e1:((m-i:Nat):Int)=(m:Int)-(i:Int):=by omega
     have e2:((m+j-i:Nat):Int)=(m:Int)+(j:Int)-(i:Int):=by omega
     rw [e1,e2] at hc
     clear aa
     go_wp2_with fail
     refine hc.mono ?_
     rintro e w2 ⟨rfl,d2,h1,h2,h3,h4⟩
     have h1:=hid h1
     have h3:=hid h3
     go_wp2
     go_roundg gk
     case measure=>omega
     case rel =>
      refine ⟨i,j-i,d2,rfl,by go_num,by omega,by omega,by omega,by omega,by omega,h2,hid ?_,hid ?_,a6k ae.out (by simp;omega) h4 (h2.trans ac.symm)⟩
      ·intro d' hr
       exact HR.out _ (Rot.right h1.out (by omega) (by omega) ag hr)
      ·exact permIn_trans _ _ _ _ _ HP.out (h3.out a b (by omega) (by omega) (by omega))
end
open Go.RowKit Go.Sort Go.Shelf Go.Lib
section
variable {α:Type} [Inhabited α]
theorem c3f.call {P:Program} {enc:α->Value} {lt:α->α->Bool} {g:Nat} {lb:Array Value} {blk off size:Nat} {W:World} {d:Array α} (E:c3f P enc lt g lb blk off size W d) (i j:Nat) (hi:i<size) (hj:j<size) :
  Calls P g (#[.int .i64 i,.int .i64 j]++lb) W fun e w'=>e=.returned (.bool (lt d[i]! d[j]!))/\∃ q,w'=W.drewN q:=E.start.less E.less E.size_ i j hi hj
theorem c3f.drewN {P:Program} {enc:α->Value} {lt:α->α->Bool} {g:Nat} {lb:Array Value} {blk off size:Nat} {W:World} {d:Array α} (E:c3f P enc lt g lb blk off size W d) (n:Nat):c3f P enc lt g lb blk off size (W.drewN n) d :=
 E.on (E.start.drewN n) E.size_
theorem c3f.alloc {P:Program} {enc:α->Value} {lt:α->α->Bool} {g:Nat} {lb:Array Value} {blk off size:Nat} {W:World} {d:Array α} (E:c3f P enc lt g lb blk off size W d) (o:Obj):c3f P enc lt g lb blk off size (W.alloc o) d :=
 E.on (E.start.alloc o) E.size_
def MvU (a k:Nat) (d d':Array α):Prop:=∀ x,d'[x]! = if a<=x/\x<k then d[x+1]! else if x=k then d[a]! else d[x]!
def MvD (k m:Nat) (d d':Array α):Prop:=∀ x,d'[x]! = if k<x/\x<=m then d[x-1]! else if x=k then d[m]! else d[x]!
theorem MvU.start (a:Nat) (d:Array α):MvU a a d d:=fun x=>by
 rw [if_neg (by omega)]
 split
 ·rename_i h;rw [h]
 ·rfl
theorem MvD.start (m:Nat) (d:Array α):MvD m m d d:=fun x=>by
 rw [if_neg (by omega)]
 split
 ·rename_i h;rw [h]
 ·rfl
theorem MvU.step {a k:Nat} {d d':Array α} (h:MvU a k d d') (hk:a<=k) (hs:k+1<d'.size):MvU a (k+1) d (swp d' k (k+1)):=fun x=>by
 have hl:=swp_left d' k (k+1) (by omega) (by omega)
 have hr:=swp_right d' k (k+1) hs
 by_cases h1:x=k
 ·subst h1
  rw [hl,h (x+1),if_neg (by omega),if_neg (by omega),if_pos (by omega)]
 ·by_cases h2:x=k+1
  ·subst h2
   rw [hr,h k,if_neg (by omega),if_pos rfl,if_neg (by omega),if_pos rfl]
  ·rw [swp_other d' _ _ x h1 h2,h x]
   repeat' split
   all_goals first
    | rfl
    | (exfalso;omega)
theorem MvD.step {k m:Nat} {d d':Array α} (h:MvD k m d d') (hk:k<=m) (h0:0<k) (hs:k<d'.size):MvD (k-1) m d (swp d' k (k-1)):=fun x=>by
 have hl:=swp_left d' k (k-1) hs (by omega)
 have hr:=swp_right d' k (k-1) (by omega)
 by_cases h1:x=k
 ·subst h1
  rw [hl,h (x-1),if_neg (by omega),if_neg (by omega),if_pos (by omega)]
 ·by_cases h2:x=k-1
  ·subst h2
   rw [hr,h k,if_neg (by omega),if_pos rfl,if_neg (by omega),if_pos rfl]
  ·rw [swp_other d' _ _ x h1 h2,h x]
   repeat' split
   all_goals first
    | rfl
    | (exfalso;omega)
end
section
variable {α:Type} [Inhabited α] (enc:α->Value) (lt lt2:α->α->Bool) (g:Nat) (lb:Array Value) (sf:Nat) (sb:Array Value) (blk off size:Nat)
def c8z (a m b:Nat) (d:Array α):Prop:=∀ x y,a<=x->x<m->m<=y->y<b->lt d[y]! d[x]! = lt2 d[y]! d[x]!
def a7q (W:World) (d:Array α) (a b:Nat) (e:Ending) (W':World):Prop :=
 e=.returned (.tuple #[])/\∃ d',SortedIn lt2 a b d'/\PermIn a b d d'/\SW enc W blk off d' W'
theorem d3v (hS:SWO lt2) (eg:∀ args w,(callFunc g args).run Tryz.prog w=.ok (.enter g args) w) (hswap:SwapSwaps Tryz.prog sf sb enc blk off size) (hsz:size<1099511627776) (W:World) (d:Array α) (a m b:Nat) (E:c3f Tryz.prog enc lt g lb blk off size W d)
  (hm1:a<m) (hm2:m<=a+1) (hmb:m<b) (hb:b<=size) (h2:SortedIn lt2 m b d) (hAg:c8z lt lt2 a m b d) :
  Calls Tryz.prog 294 #[lsw g lb sf sb,.int .i64 a,.int .i64 m,.int .i64 b] W (a7q enc lt2 blk off W d a b):=by
 have hd:=E.size_
 have hW:=E.lt_
 have E1:=E.alloc (.cells #[.func (.func g) #[] lb,.func (.func sf) #[] sb] 311)
 have af:=fun d' W' (h:SW enc (W.alloc (.cells #[.func (.func g) #[] lb,.func (.func sf) #[] sb] 311)) blk off d' W')=>b8n h hW
 unfold lsw
 have t0:(((m:Int)-(a:Int))==1)=true:=by rw [beq_iff_eq];omega
 have ao:=hid h2
 have am:=hid hAg
 have aq:=hid hS
 have ae:=hid af
 obtain ⟨W1,ad⟩:=zX (W.alloc (.cells #[.func (.func g) #[] lb,.func (.func sf) #[] sb] 311))
 have c0:W1.cell? ⟨W.heap.size,0,none⟩=some (.func (.func g) #[] lb):=by rw [ad];simp
 have c1:W1.cell? ⟨W.heap.size,1,none⟩=some (.func (.func sf) #[] sb):=by rw [ad];simp
 have ag:W.heap.size<W1.heap.size:=by rw [ad];simp
 rw [<-ad] at E1 ae
 have HE:=hid E1
 have ar:=hid ad
 clear E h2 hS af E1 hAg
 go_enter Tryz.func294,Tryz.ntmps294
 go_wp2
 rw [<-ar.out]
 clear ad
 go_loopg [8,9,10] (b-m) (fun k vi vj vh wr=>∃ (i j:Nat),vi=.int .i64 i/\vj=.int .i64 j/\m<=i/\i<=j/\j<=b/\j-i<=k/\Hid (i=m\/lt2 d[i-1]! d[a]! = true)/\Hid (j=b\/lt2 d[j]! d[a]! = false)/\SW enc W1 blk off d wr)
 case atStart=>exact ⟨m,b,rfl,rfl,by omega,by omega,by omega,by omega,hid (.inl rfl),hid (.inl rfl),HE.out.start⟩
 case round =>
  obtain ⟨i,j,rfl,rfl,hi,ay,au,hk,HL,HR,aa⟩:=hrel
  have ac:=HE.out.on aa hd
  have an:=(a3a aa (p:=⟨W.heap.size,0,none⟩) ag (by show W.heap.size≠blk;omega)).trans c0
  have ak:=(a3a aa (p:=⟨W.heap.size,1,none⟩) ag (by show W.heap.size≠blk;omega)).trans c1
  have ai:=hid aa
  clear aa
  by_cases hlt:i<j
  ·rcases gk with _ | gk
   ·omega
   ·obtain ⟨h,hh⟩:=zX ((i+j) / 2)
    have av:((i:Int)+(j:Int)) / 2=(h:Int):=by omega
    have hl:=ac.call h a (by omega) (by omega)
    have az:i<=h:=by omega
    have ax:h<j:=by omega
    clear hh
    have HW:=hid ac
    clear ac
    cases hlv:lt d[h]! d[a]! with
    | true =>
     rw [hlv] at hl
     go_wp2_with (go_at_fn g;refine hl.mono ?_;rintro e w' ⟨rfl,q,rfl⟩)
     go_roundg gk
     case measure=>omega
     case rel=>exact ⟨h+1,j,by go_num,rfl,by omega,by omega,by omega,by omega,hid (.inr ((am.out a h (zQ _) (by omega) (by omega) (by omega)).symm.trans hlv)),HR,ai.out.drewN q⟩
    | false =>
     rw [hlv] at hl
     go_wp2_with (go_at_fn g;refine hl.mono ?_;rintro e w' ⟨rfl,q,rfl⟩)
     go_roundg gk
     case measure=>omega
     case rel=>exact ⟨i,h,rfl,rfl,by omega,by omega,by omega,by omega,HL,hid (.inr ((am.out a h (zQ _) (by omega) (by omega) (by omega)).symm.trans hlv)),ai.out.drewN q⟩
  ·obtain rfl:i=j:=by omega
   go_wp2
   go_loopg [11] (i-1-a) (fun kk vk wr2=>∃ (k:Nat) (dk:Array α),vk=.int .i64 k/\k+kk=i-1/\a<=k/\dk.size=size/\Hid (MvU a k d dk)/\Hid (PermIn a b d dk)/\SW enc W1 blk off dk wr2)
   case atStart=>exact ⟨a,d,rfl,by omega,by omega,hd,hid (MvU.start _ _),hid (permIn_refl _ _ _),ai.out⟩
   case round =>
    clear ac an ak
    obtain ⟨k,dk,rfl,aw,ap,ah,HM,HP,aa⟩:=hrel
    have ac:=HE.out.on aa ah
    have ak:=(a3a aa (p:=⟨W.heap.size,1,none⟩) ag (by show W.heap.size≠blk;omega)).trans c1
    rcases gk with _ | gk
    ·obtain rfl:k=i-1:=by omega
     have t5:decide ((((i-1:Nat):Int))<(i:Int)-1)=false:=zA (by omega)
     go_wp2
     go_end0
     refine ⟨rfl,dk,?_,HP.out,ae.out _ _ aa⟩
     obtain rfl:m=a+1:=by omega
     exact e0n aq.out ao.out hi au HL.out HR.out HM.out
    ·have hs:=hswap wr dk ac.holds ah k (k+1) (by omega) (by omega)
     have e1:((k+1:Nat):Int)=(k:Int)+1:=by simp
     rw [e1] at hs
     have ab:=aa.swap (by omega) k (k+1) (by omega) (by omega)
     have aj:=HM.out.step ap (by omega)
     have al:=permIn_trans _ _ _ _ _ HP.out (swp_permIn dk a b k (k+1) (by omega) (by omega) (by omega) (by omega) (by omega))
     have HN:=hid (And.intro ab (And.intro aj al))
     have t5:decide ((k:Int)<(i:Int)-1)=true:=zB (by omega)
     clear ab aj al ac aa
     go_wp2
     go_roundg gk
     case measure=>omega
     case rel=>exact ⟨k+1,_,by go_num,by omega,by omega,by rw [Sort.size_swp];exact ah,hid HN.out.2.1,hid HN.out.2.2,HN.out.1⟩
end
end Go.Proofs.YtepjepkgcdfboaaGreatDoor
