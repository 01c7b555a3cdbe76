/- sort.SliceStable's parts by their contracts, the fourth part: symMerge, the whole. -/
import Derived.Test.YtepjepkgcdfboaaGreatDoorMg09
set_option linter.unusedVariables false
set_option linter.unusedSimpArgs false
set_option maxHeartbeats 4000000
set_option maxRecDepth 100000
namespace Go.Proofs.YtepjepkgcdfboaaGreatDoor
open Go.RowKit Go.Sort Go.Shelf Go.Lib
section
variable {α:Type} [Inhabited α] (enc:α->Value) (lt lt2:α->α->Bool) (g:Nat) (lb:Array Value) (sf:Nat) (sb:Array Value) (blk off size:Nat)
def e1b (N:Nat):Prop:=∀ (W:World) (d:Array α) (a m b:Nat),b-a<N->c3f Tryz.prog enc lt g lb blk off size W d->a<m->m<b->b<=size->SortedIn lt2 a m d->SortedIn lt2 m b d->c8z lt lt2 a m b d ->
 Calls Tryz.prog 294 #[lsw g lb sf sb,.int .i64 a,.int .i64 m,.int .i64 b] W (a7q enc lt2 blk off W d a b)
theorem d9r (hS:SWO lt2) (eg:∀ args w,(callFunc g args).run Tryz.prog w=.ok (.enter g args) w) (hswap:SwapSwaps Tryz.prog sf sb enc blk off size) (hsz:size<1099511627776) (N:Nat) (ih:e1b enc lt lt2 g lb sf sb blk off size N)
  (W:World) (d:Array α) (a m b:Nat) (hN:b-a<=N) (E:c3f Tryz.prog enc lt g lb blk off size W d) (hm0:a+2<=m) (hm1:m+2<=b) (hb:b<=size) (h1:SortedIn lt2 a m d) (h2:SortedIn lt2 m b d) (hAg:c8z lt lt2 a m b d) :
  Calls Tryz.prog 294 #[lsw g lb sf sb,.int .i64 a,.int .i64 m,.int .i64 b] W (a7q enc lt2 blk off W d a b):=by
 have hd:=E.size_
 have hW:=E.lt_
 have E1:=E.alloc (.cells #[.func (.func g) #[] lb,.func (.func sf) #[] sb] 311)
 have az:=fun d' W' (h:SW enc (W.alloc (.cells #[.func (.func g) #[] lb,.func (.func sf) #[] sb] 311)) blk off d' W')=>b8n h hW
 have aj:=fun W d a m b=>e5i enc lt g lb sf sb blk off size hswap hsz W d a m b
 unfold e1b at ih
 unfold lsw at ih aj ⊢
 have t0:(((m:Int)-(a:Int))==1)=false:=by rw [beq_eq_false_iff_ne];omega
 have t1:(((b:Int)-(m:Int))==1)=false:=by rw [beq_eq_false_iff_ne];omega
 obtain ⟨mid,av⟩:=zX ((a+b) / 2)
 have a4:((a:Int)+(b:Int)) / 2=(mid:Int):=by omega
 have aX:a<mid:=by omega
 have a5:mid<b:=by omega
 obtain ⟨nn,a3⟩:=zX (mid+m)
 have bm:(mid:Int)+(m:Int)=(nn:Int):=by omega
 obtain ⟨p,hp⟩:=zX (nn-1)
 have bx:(nn:Int)-1=(p:Int):=by omega
 obtain ⟨lo,aE⟩:=zX (if mid<m then mid+m-b else a)
 obtain ⟨hi,ay⟩:=zX (if mid<m then mid else m)
 have aw:lo<=hi/\hi<=m/\hi<=mid/\a<=lo/\(mid<m->lo+b=nn):=by
  rw [aE,ay]
  split<;>omega
 have ak:¬ mid<m->lo=a/\hi=m:=fun h=>by rw [aE,ay,if_neg h,if_neg h];exact ⟨rfl,rfl⟩
 have ai:mid<m->hi=mid:=fun h=>by rw [ay,if_pos h]
 obtain ⟨bw,bu,bA,bs,aT⟩:=aw
 have be:nn<=lo+b:=by
  by_cases h:mid<m
  ·have:=aT h;omega
  ·have:=ak h;omega
 have bb:=hid aE
 have a7:=hid ay
 have aN:=hid av
 have aJ:=hid a3
 have HP:=hid hp
 have aS:=hid ak
 have ax:=hid ai
 have bd:=hid aT
 have aP:=hid h1
 have aR:=hid h2
 have aI:=hid hAg
 have aM:=hid hS
 have au:=hid az
 have aY:=hid ih
 have aO:=hid aj
 obtain ⟨W1,am⟩:=zX (W.alloc (.cells #[.func (.func g) #[] lb,.func (.func sf) #[] sb] 311))
 have c0:W1.cell? ⟨W.heap.size,0,none⟩=some (.func (.func g) #[] lb):=by rw [am];simp
 have c1:W1.cell? ⟨W.heap.size,1,none⟩=some (.func (.func sf) #[] sb):=by rw [am];simp
 have an:W.heap.size<W1.heap.size:=by rw [am];simp
 rw [<-am] at E1 au
 have HE:=hid E1
 have bk:=hid am
 have ah:blk<W1.heap.size:=E1.lt_
 clear hAg E h1 h2 hS az E1 aE ay av a3 hp ak ai aT ih aj
 go_enter Tryz.func294,Tryz.ntmps294
 go_upto_if 106 with fail
 rw [<-bk.out]
 clear am
 go_cut [18,19] from 23 (fun s18 s19 wc=>s18=.int .i64 lo/\s19=.int .i64 hi/\wc=W1)
 case first =>
  by_cases hc:mid<m
  ·have e1:(nn:Int)-(b:Int)=(lo:Int):=by have:=bd.out hc;omega
   have e2:=ax.out hc
   go_wp2
   go_meet
   case rel=>exact ⟨rfl,by rw [e2],rfl⟩
  ·have e2:=aS.out hc
   go_wp2
   go_meet
   case rel=>exact ⟨by rw [e2.1],by rw [e2.2],rfl⟩
 case rest =>
  obtain ⟨rfl,rfl,h9⟩:=hcut
  obtain rfl:=h9.symm
  go_wp2
  go_loopg [18,19,21] (hi-lo) (fun k vi vj vh wr=>∃ (i j:Nat),vi=.int .i64 i/\vj=.int .i64 j/\lo<=i/\i<=j/\j<=hi/\j-i<=k/\Hid (i=lo\/lt2 d[p-(i-1)]! d[i-1]! = false)/\Hid (j=hi\/lt2 d[p-j]! d[j]! = true)/\SW enc W1 blk off d wr)
  case atStart=>exact ⟨lo,hi,rfl,rfl,by omega,by omega,by omega,by omega,hid (.inl rfl),hid (.inl rfl),HE.out.start⟩
  case round =>
   obtain ⟨i,j,rfl,rfl,bc,bv,bg,hk,HL,HR,ar⟩:=hrel
   have af:=HE.out.on ar hd
   have aC:=(a3a ar (p:=⟨W.heap.size,0,none⟩) an (by show W.heap.size≠blk;omega)).trans c0
   have aF:=(a3a ar (p:=⟨W.heap.size,1,none⟩) an (by show W.heap.size≠blk;omega)).trans c1
   have aq:=hid ar
   clear ar
   by_cases hlt:i<j
   ·rcases gk with _ | gk
    ·omega
    ·obtain ⟨h,hh⟩:=zX ((i+j) / 2)
     have bo:((i:Int)+(j:Int)) / 2=(h:Int):=by omega
     have bq:i<=h:=by omega
     have bz:h<j:=by omega
     have bn:=HP.out
     have aL:=aJ.out
     obtain ⟨pc,aU⟩:=zX (p-h)
     have a9:(p:Int)-(h:Int)=(pc:Int):=by omega
     have hl:=af.call pc h (by omega) (by omega)
     have aZ:=hid aU
     have aW:Hid (lt d[pc]! d[h]! = lt2 d[pc]! d[h]!):=hid (aI.out h pc (by omega) (by omega) (by omega) (by omega))
     clear hh af aU bn aL
     cases hlv:lt d[pc]! d[h]! with
     | false =>
      rw [hlv] at hl
      go_wp2_with (go_at_fn g;refine hl.mono ?_;rintro e w' ⟨rfl,q,rfl⟩)
      go_roundg gk
      case measure=>omega
      case rel=>exact ⟨h+1,j,by go_num,rfl,by omega,by omega,by omega,by omega,hid (.inr (by rw [Nat.add_sub_cancel,<-aZ.out];exact aW.out.symm.trans hlv)),HR,aq.out.drewN q⟩
     | true =>
      rw [hlv] at hl
      go_wp2_with (go_at_fn g;refine hl.mono ?_;rintro e w' ⟨rfl,q,rfl⟩)
      go_roundg gk
      case measure=>omega
      case rel=>exact ⟨i,h,rfl,rfl,by omega,by omega,by omega,by omega,HL,hid (.inr (by rw [<-aZ.out];exact aW.out.symm.trans hlv)),aq.out.drewN q⟩
   ·obtain rfl:i=j:=by omega
    have aL:=aJ.out
    have ab:Cut lt2 a m b mid i d:=by
     have e:∀ x,mid+m-1-x=p-x:=fun x=>by rw [HP.out,aJ.out]
     refine Cut.of aM.out aP.out aR.out (by omega) (by omega) aN.out bb.out a7.out bc bg ?_ ?_
     ·rw [e];exact HL.out
     ·rw [e];exact HR.out
    obtain ⟨en,bl⟩:=zX (nn-i)
    have ba:(nn:Int)-(i:Int)=(en:Int):=by omega
    have bp:mid<=en:=by have:=ab.e0;omega
    have bi:en<=b:=by have:=ab.e1;omega
    have aB:en=mid+m-i:=by omega
    have ap:∀ d1 d2 d3 W3,Rot i m en d d1->PermIn a b d d1->(SortedIn lt2 a mid d2/\PermIn a mid d1 d2)->(SortedIn lt2 mid b d3/\PermIn mid b d2 d3)->SW enc W1 blk off d3 W3->a7q enc lt2 blk off W d a b (.returned (.tuple #[])) W3:=by
     intro d1 d2 d3 W3 hr a1 a0 h3 aH
     rw [aB] at hr
     obtain ⟨_,_,_,_,k5⟩:=ab.rot aM.out aP.out aR.out (by omega) (by omega) hr
     have hz:b<=d1.size:=by rw [a1.1,hd];exact hb
     have hj:=d4r hz (by omega) (by omega) k5 a0.2 a0.1 h3.2 h3.1
     exact ⟨rfl,d3,hj.1,permIn_trans _ _ _ _ _ a1 hj.2,au.out _ _ aH⟩
    have ag:∀ d1,Rot i m en d d1->SortedIn lt2 a i d1/\SortedIn lt2 i mid d1/\SortedIn lt2 mid en d1/\SortedIn lt2 en b d1/\c8z lt lt2 a i mid d1/\c8z lt lt2 mid en b d1:=by
     intro d1 hr
     rw [aB] at hr ⊢
     obtain ⟨k1,k2,k3,k4,_⟩:=ab.rot aM.out aP.out aR.out (by omega) (by omega) hr
     refine ⟨k1,k2,k3,k4,?_,?_⟩
     ·intro x y h1 h2 h3 h4
      have e1:d1[x]! = d[x]!:=by rw [hr x,if_neg (by omega)]
      have e2:d1[y]! = d[y+(m-i)]!:=by rw [hr y,if_pos (by omega),if_pos (by omega)]
      rw [e1,e2]
      exact aI.out x (y+(m-i)) h1 (by omega) (by omega) (by omega)
     ·intro x y h1 h2 h3 h4
      have e1:d1[x]! = d[x-(mid-i)]!:=by
       rw [hr x,if_pos (by omega),if_neg (by omega)];congr 1;omega
      have e2:d1[y]! = d[y]!:=by rw [hr y,if_neg (by omega)]
      rw [e1,e2]
      exact aI.out (x-(mid-i)) y (by omega) (by omega) (by omega) h4
    have br:i<=m:=ab.ms
    have a2:i<=mid:=ab.mid1
    have a8:a<=i:=ab.lo
    have al:=hid ap
    have bf:=hid ag
    have aK:=hid aB
    clear ab ap ag bl aB aL HL HR
    -- the rotation
    go_upto_region 40 with fail
    go_cut [145] from 23 (fun s145 wx=>s145=.bool (decide (i<m/\m<en))/\wx=wr)
    case first =>
     clear af
     by_cases q1:i<m
     ·by_cases q2:m<en
      ·have e:decide (i<m/\m<en)=true:=zB ⟨q1,q2⟩
       go_wp2
       go_meet
       case rel=>exact ⟨by rw [e],rfl⟩
      ·have e:decide (i<m/\m<en)=false:=zA fun h=>q2 h.2
       go_wp2
       go_meet
       case rel=>exact ⟨by rw [e],rfl⟩
     ·have e:decide (i<m/\m<en)=false:=zA fun h=>q1 h.1
      go_wp2
      go_meet
      case rel=>exact ⟨by rw [e],rfl⟩
    case rest =>
    obtain ⟨rfl,h9⟩:=hcut
    obtain rfl:=h9.symm
    go_upto_if 145 with fail
    go_cut [] from 23 (fun wx=>∃ d1,Hid (Rot i m en d d1)/\Hid (PermIn a b d d1)/\d1.size=size/\SW enc W1 blk off d1 wx)
    case first =>
     have ao:i<m->m<en->_:=fun x y=>aO.out wr d i m en af x y (by omega)
     by_cases q1:i<m
     ·by_cases q2:m<en
      ·have ao:=ao q1 q2
       have e:decide (i<m/\m<en)=true:=zB ⟨q1,q2⟩
       go_wp2_with fail
       refine ao.mono ?_
       rintro e w2 ⟨rfl,d1,k1,k2,k3,k4⟩
       go_wp2
       go_meet
       case rel=>exact ⟨d1,hid k1,hid (permIn_mono _ _ _ _ _ _ a8 bi (by omega) k3),k2,a6k aq.out ah k4 (k2.trans hd.symm)⟩
      ·clear ao
       have e:decide (i<m/\m<en)=false:=zA fun h=>q2 h.2
       go_wp2
       go_meet
       case rel=>exact ⟨d,hid (Rot.none d (.inr (by have := aK.out;omega)) (by omega) (by have := aK.out;omega)),hid (permIn_refl _ _ _),hd,aq.out⟩
     ·clear ao
      have e:decide (i<m/\m<en)=false:=zA fun h=>q1 h.1
      go_wp2
      go_meet
      case rel=>exact ⟨d,hid (Rot.none d (.inl (by omega)) (by omega) (by have := aK.out;omega)),hid (permIn_refl _ _ _),hd,aq.out⟩
    case rest =>
     clear af aC aF
     obtain ⟨d1,aG,aQ,aD,ad⟩:=hcut
     have af:=HE.out.on ad aD
     have aC:=(a3a ad (p:=⟨W.heap.size,0,none⟩) an (by show W.heap.size≠blk;omega)).trans c0
     have aF:=(a3a ad (p:=⟨W.heap.size,1,none⟩) an (by show W.heap.size≠blk;omega)).trans c1
     obtain ⟨s1,s2,s3,s4,s5,s6⟩:=bf.out d1 aG.out
     have S5:=hid s5
     have S6:=hid s6
     have S1:=hid s1
     have S2:=hid s2
     have S3:=hid s3
     have S4:=hid s4
     clear s1 s2 s3 s4 s5 s6
     go_upto_region 42 with fail
     go_cut [158] from 23 (fun s158 wy=>s158=.bool (decide (a<i/\i<mid))/\wy=wc)
     case first =>
      clear af
      by_cases q1:a<i
      ·by_cases q2:i<mid
       ·have e:decide (a<i/\i<mid)=true:=zB ⟨q1,q2⟩
        go_wp2
        go_meet
        case rel=>exact ⟨by rw [e],rfl⟩
       ·have e:decide (a<i/\i<mid)=false:=zA fun h=>q2 h.2
        go_wp2
        go_meet
        case rel=>exact ⟨by rw [e],rfl⟩
      ·have e:decide (a<i/\i<mid)=false:=zA fun h=>q1 h.1
       go_wp2
       go_meet
       case rel=>exact ⟨by rw [e],rfl⟩
     case rest =>
     obtain ⟨rfl,h9⟩:=hcut
     obtain rfl:=h9.symm
     go_upto_if 158 with fail
     go_cut [] from 23 (fun wy=>∃ d2,Hid (SortedIn lt2 a mid d2/\PermIn a mid d1 d2)/\d2.size=size/\SW enc W1 blk off d2 wy)
     case first =>
      have ac:a<i->i<mid->_:=fun x y=>aY.out wc d1 a i mid (by omega) af x y (by omega) S1.out S2.out S5.out
      by_cases q1:a<i
      ·by_cases q2:i<mid
       ·have ac:=ac q1 q2
        have e:decide (a<i/\i<mid)=true:=zB ⟨q1,q2⟩
        go_wp2_with fail
        refine ac.mono ?_
        rintro e w2 ⟨rfl,d2,k1,k2,k4⟩
        go_wp2
        go_meet
        case rel=>exact ⟨d2,hid ⟨k1,k2⟩,k2.1.trans aD,a6k ad ah k4 k2.1⟩
       ·clear ac
        have e:decide (a<i/\i<mid)=false:=zA fun h=>q2 h.2
        have e9:Hid (i=mid):=hid (by omega)
        go_wp2
        go_meet
        case rel=>exact ⟨d1,hid ⟨by rw [<-e9.out];exact S1.out,permIn_refl _ _ _⟩,aD,ad⟩
      ·clear ac
       have e:decide (a<i/\i<mid)=false:=zA fun h=>q1 h.1
       have e9:Hid (a=i):=hid (by omega)
       go_wp2
       go_meet
       case rel=>exact ⟨d1,hid ⟨by rw [e9.out];exact S2.out,permIn_refl _ _ _⟩,aD,ad⟩
     case rest =>
      clear af aC aF
      obtain ⟨d2,aA,bh,ae⟩:=hcut
      have af:=HE.out.on ae bh
      have aC:=(a3a ae (p:=⟨W.heap.size,0,none⟩) an (by show W.heap.size≠blk;omega)).trans c0
      have aF:=(a3a ae (p:=⟨W.heap.size,1,none⟩) an (by show W.heap.size≠blk;omega)).trans c1
      have aa:∀ k,mid<=k->d2[k]! = d1[k]!:=fun k hk=>aA.out.2.2.1 k (.inr hk)
      have a6:SortedIn lt2 mid en d2:=fun x y h1 h2 h3=>by rw [aa x h1,aa y (by omega)];exact S3.out x y h1 h2 h3
      have aV:SortedIn lt2 en b d2:=fun x y h1 h2 h3=>by rw [aa x (by omega),aa y (by omega)];exact S4.out x y h1 h2 h3
      have S3:=hid a6
      have S4:=hid aV
      have bj:Hid (c8z lt lt2 mid en b d2):=hid fun x y h1 h2 h3 h4=>by rw [aa x h1,aa y (by omega)];exact S6.out x y h1 h2 h3 h4
      clear aa a6 aV
      have ac:mid<en->en<b->_:=fun x y=>aY.out wc d2 mid en b (by omega) af x y hb S3.out S4.out bj.out
      by_cases q1:mid<en
      ·by_cases q2:en<b
       ·have ac:=ac q1 q2
        go_wp2_with fail
        refine ac.mono ?_
        rintro e w2 ⟨rfl,d3,k1,k2,k4⟩
        go_wp2
        go_end0
        exact al.out d1 d2 d3 w2 aG.out aQ.out aA.out ⟨k1,k2⟩ (a6k ae ah k4 k2.1)
       ·clear ac
        obtain rfl:en=b:=by omega
        go_wp2
        go_end0
        exact al.out d1 d2 d2 wc aG.out aQ.out aA.out ⟨S3.out,permIn_refl _ _ _⟩ ae
      ·clear ac
       obtain rfl:mid=en:=by omega
       go_wp2
       go_end0
       exact al.out d1 d2 d2 wc aG.out aQ.out aA.out ⟨S4.out,permIn_refl _ _ _⟩ ae
theorem f0u (hS:SWO lt2) (eg:∀ args w,(callFunc g args).run Tryz.prog w=.ok (.enter g args) w) (hswap:SwapSwaps Tryz.prog sf sb enc blk off size) (hsz:size<1099511627776):∀ N,e1b enc lt lt2 g lb sf sb blk off size N
 | 0=>fun _ _ _ _ _ h=>by omega
 | N+1=>fun W d a m b hN E h1 h2 hb s1 s2 ag=>by
  by_cases c1:m<=a+1
  ·exact d3v enc lt lt2 g lb sf sb blk off size hS eg hswap hsz W d a m b E h1 c1 h2 hb s2 ag
  ·by_cases c2:b<=m+1
   ·exact d1a enc lt lt2 g lb sf sb blk off size hS eg hswap hsz W d a m b E (by omega) h2 c2 hb s1 ag
   ·exact d9r enc lt lt2 g lb sf sb blk off size hS eg hswap hsz N (f0u hS eg hswap hsz N) W d a m b (by omega) E (by omega) (by omega) hb s1 s2 ag
end
end Go.Proofs.YtepjepkgcdfboaaGreatDoor
