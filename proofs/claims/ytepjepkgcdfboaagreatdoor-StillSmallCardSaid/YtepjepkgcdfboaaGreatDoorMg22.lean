/- package tile by its contracts, the sixth part: different. -/
import Derived.Test.YtepjepkgcdfboaaGreatDoorMg20
import Derived.Test.YtepjepkgcdfboaaGreatDoorMg21
import Derived.Test.YtepjepkgcdfboaaGreatDoorMg06
import Derived.Test.YtepjepkgcdfboaaGreatDoorMg07
set_option linter.unusedVariables false
set_option linter.unusedSimpArgs false
set_option maxHeartbeats 2000000
set_option maxRecDepth 100000
namespace Go.Proofs.YtepjepkgcdfboaaGreatDoor
open Go.RowKit
open Go.RowKit Go.Sort Go.Lib
theorem different_ok (l:List Int) (A:Option Addr) (cap:Nat) (w:World) (h0:0<l.length) (hl:l.length<=4096) (hc:Cells vi w A l) :
  Calls Tryz.prog 110 #[.slice A l.length cap] w fun e w'=>∃ g c,e=.returned (.slice (some ⟨g,0,none⟩) (diffL l).length c)/\Cells vi w' (some ⟨g,0,none⟩) (diffL l)/\w.heap.size<=g/\(diffL l).length<=c/\c<=9223372036854775807/\Chg [] w w':=by
 obtain ⟨b,o,rfl,hb,ah⟩:=hc.ex h0
 have ab:=Tryz.slices_Clone_int b o l.length cap l w (zQ _) (by omega) (Cells.getD_ hc)
 rw [zN] at ab
 have ak:(l.mergeSort fun x y=>decide (x<=y)).length=l.length:=List.length_mergeSort _
 have ag:=diffL_len l
 have aq:diffL l=compact (l.mergeSort fun x y=>decide (x<=y)):=rfl
 rw [aq] at ag ⊢
 obtain ⟨s,hs⟩:=zX (l.mergeSort fun x y=>decide (x<=y))
 have ad:=fun g cp w1 hH hg=>Tryz.slices_Sort_int g 0 cp l w1 hH hg (by omega)
 rw [<-hs] at ak ag ad ⊢
 obtain ⟨n,hn⟩:=zX (l.length)
 have ac:=fun g cp w2 hH ao=>Tryz.slices_Compact_int g 0 cp s w2 hH (by omega) ao
 rw [ak] at ac
 rw [<-hn] at ab ad ak hl ag ac ⊢
 obtain ⟨k,hk⟩:=zX (compact s)
 rw [<-hk] at ac ag ⊢
 have HN:=hid hn
 have HM:=hid ak
 have HS:=hid hs
 have HK:=hid hk
 have ax:=hid ad
 have aw:=hid ac
 have ap:=hid ag
 clear ad ac hn ak hs hk aq ag ah hc
 go_enter Tryz.func110,Tryz.ntmps110
 go_wp2_with fail
 refine ab.mono ?_
 rintro e w1 ⟨v,rfl,an,aj,al⟩
 obtain ⟨g,ai,hg⟩:=Row.of_owns an aj
 have av:Chg [] w w1:=Chg.of_below al
 have aa:Row w1 3 v g (l.map (Value.int .i64)):=ai
 obtain ⟨cp,rfl,ao,ay,_,_⟩:=aa.open_map
 rw [<-HN.out] at ao aa ⊢
 have ar:=ax.out g cp w1 aa.holds aa.lt
 clear ab an aj ai al
 go_wp2_with fail
 refine ar.mono ?_
 rintro e w2 ⟨rfl,q,os,rfl⟩
 have af:=(aa.aheadN q).putRow (ys:=s) (by rw [HM.out,HN.out])
 have ae:=af.growO os
 have aA:Chg [] w _:=(((av.aheadN q).putRow (enc:=Value.int .i64) (blk:=g) (.inr hg) 0 s.toArray).growO os)
 have aB:=aw.out g cp _ ae.holds ao
 generalize grow (putRow (Value.int .i64) (Sort.ahead w1 q) g 0 s.toArray) os=w2 at *
 clear ar af aa av
 go_wp2_with fail
 refine aB.mono ?_
 rintro e w3 ⟨rfl,q2,rfl⟩
 have az:(k++List.replicate (n-k.length) (0:Int)).length=s.length:=by
  rw [zC,zV,HM.out]
  have:=ap.out
  omega
 have am:=(ae.aheadN q2).putRow (ys:=k++List.replicate (n-k.length) 0) az
 have au:=Cells.take am.toOwn.cells k.length
 rw [List.take_left'] at au
 ·go_wp2
  go_ret
  exact ⟨g,cp,rfl,au,hg,by have:=ap.out;omega,ay,(aA.aheadN q2).putRow (.inr hg) 0 _⟩
 ·rfl
def bitsN (n:Nat):Nat:=if n<=2 then 1 else if n<=4 then 2 else if n<=16 then 4 else 8
theorem bitsN_room {n:Nat} (h:n<=16):n<=2^bitsN n:=by
 unfold bitsN
 split
 ·simpa using ‹n<=2›
 ·split
  ·simpa using ‹n<=4›
  ·simpa using h
theorem bitsN_le {n:Nat} (h:n<=16):bitsN n<=4:=by
 unfold bitsN
 split
 ·omega
 ·split
  ·omega
  ·omega
theorem palBits_ok (n:Nat) (w:World) (h0:1<=n) (h1:n<=256):Calls Tryz.prog 24 #[.int .i64 n] w fun e w'=>e=.returned (.int .i64 (bitsN n))/\w=w':=by
 have t1:decide ((n:Int)<1)=false:=zA (by omega)
 have t2:decide ((256:Int)<(n:Int))=false:=zA (by omega)
 by_cases h2:n<=2
 ·have e:bitsN n=1:=by unfold bitsN;rw [if_pos h2]
  rw [e]
  have t3:decide ((n:Int)<=2)=true:=zB (by omega)
  clear h0 h1 h2
  go_enter Tryz.func24,Tryz.ntmps24
  go_wp2
  go_ret
  exact ⟨rfl,rfl⟩
 ·have t3:decide ((n:Int)<=2)=false:=zA (by omega)
  by_cases h4:n<=4
  ·have e:bitsN n=2:=by unfold bitsN;rw [if_neg h2,if_pos h4]
   rw [e]
   have t4:decide ((n:Int)<=4)=true:=zB (by omega)
   clear h0 h1 h2 h4
   go_enter Tryz.func24,Tryz.ntmps24
   go_wp2
   go_ret
   exact ⟨rfl,rfl⟩
  ·have t4:decide ((n:Int)<=4)=false:=zA (by omega)
   by_cases h5:n<=16
   ·have e:bitsN n=4:=by unfold bitsN;rw [if_neg h2,if_neg h4,if_pos h5]
    rw [e]
    have t5:decide ((n:Int)<=16)=true:=zB (by omega)
    clear h0 h1 h2 h4 h5
    go_enter Tryz.func24,Tryz.ntmps24
    go_wp2
    go_ret
    exact ⟨rfl,rfl⟩
   ·have e:bitsN n=8:=by unfold bitsN;rw [if_neg h2,if_neg h4,if_neg h5]
    rw [e]
    have t5:decide ((n:Int)<=16)=false:=zA (by omega)
    clear h0 h1 h2 h4 h5
    go_enter Tryz.func24,Tryz.ntmps24
    go_wp2
    go_ret
    exact ⟨rfl,rfl⟩
def idxL (l:List Int):List Int:=l.map fun s=>((diffL l).countP (· < s):Int)
def colouredBits (l:List Int) (d:Nat):List Nat:=bitsOf ((diffL l).length-1) 4++allOf (diffL l) d++allOf (idxL l) (bitsN (diffL l).length)
theorem idxL_len (l:List Int):(idxL l).length=l.length:=by simp [idxL]
theorem diffL_ok {d:Nat} {l:List Int} (h:SmpOk d l):SmpOk d (diffL l):=fun s hs=>h s ((mem_diffL l s).1 hs)
theorem diffL_le (l:List Int):(diffL l).Pairwise (·<=·):=(diffL_lt l).imp fun h=>by omega
theorem putColoured_ok (w:World) (b:Nat) (F bs:List Nat) (l:List Int) (A:Option Addr) (cap d:Nat) (h:IsWr w b F bs) (h0:1<=d) (h1:d<=16) (hl0:0<l.length) (hl:l.length<=256) (hs:SmpOk d l) (hc:Cells vi w A l) (hA:Apt A l F) (hk:(diffL l).length<=16) (hbs:bs.length<68719476736) :
  Calls Tryz.prog 120 #[.pointer (some ⟨b,0,none⟩),.slice A l.length cap,.int .i64 d] w fun e w'=>e=.returned (.tuple #[])/\∃ F',IsWr w' b F' (bs++colouredBits l d)/\Grow F F' w w':=by
 have an:=different_ok l A cap w hl0 (by omega) hc
 have aB:=diffL_pos hl0
 have aM:=diffL_ok hs
 have ag:=diffL_le l
 have ah:=fun x (hx:x∈l)=>(countP_index (diffL l) (diffL_lt l) ((mem_diffL l x).2 hx)).1
 have aP:colouredBits l d=bitsOf ((diffL l).length-1) 4++allOf (diffL l) d++allOf (idxL l) (bitsN (diffL l).length):=rfl
 have aA:idxL l=l.map fun s=>((diffL l).countP (· < s):Int):=rfl
 rw [aP]
 obtain ⟨D,hD⟩:=zX (diffL l)
 rw [<-hD] at an aB aM ag ah aA hk ⊢
 obtain ⟨k,aH⟩:=zX (D.length)
 have ay:=bitsN_room hk
 have aQ:=bitsN_le hk
 have aK:=fun w=>palBits_ok D.length w aB (by omega)
 rw [<-aH] at an aB ah hk ay aQ aK ⊢
 obtain ⟨q,hq⟩:=zX (bitsN k)
 rw [<-hq] at ay aQ aK ⊢
 obtain ⟨I,hI⟩:=zX (idxL l)
 rw [<-hI] at aA ⊢
 obtain ⟨n,hn⟩:=zX (l.length)
 rw [<-hn] at an hl hl0 ⊢
 have aN:=h.lt
 have HN:=hid hn
 have ak:=hid aH
 have aC:=hid aA
 have a2:=hid aM
 have aE:=hid ag
 have a1:=hid ah
 have aW:=hid ay
 have HA:=hid hA
 have aV:=hid aN
 clear hn aH aA aM ag ah ay hA aN aP hD hI hq hs
 have k1:IntKind.u64.wrap ((k:Int)-1)=((k-1:Nat):Int):=by
  have e:((k-1:Nat):Int)=(k:Int)-1:=by omega
  rw [e]
  exact IntWalk.u64_in _ (by omega)
 go_enter Tryz.func120,Tryz.ntmps120
 go_wp2_with fail
 refine an.mono ?_
 rintro e w1 ⟨g,cp,rfl,aL,hg,a6,a5,aU⟩
 have aG:Apt (some ⟨g,0,none⟩) D F:=fun _ ad e hm=>by
  injection e with e
  subst e
  have:=aV.out _ hm
  simp at this
  omega
 have am:=h.same aU
 clear an h
 go_wp2_with fail
 refine (wput_ok w1 b F bs (k-1) 4 am (by omega) (by omega) (by omega)).mono ?_
 rintro e w2 ⟨rfl,F2,au,af⟩
 have ae:=aL.keep aG af.chg
 have ab:=aG.grow aL af
 have ap:=Grow.pre aU af
 clear am aL aG
 have aj:=putAll_ok w2 b F2 _ D (some ⟨g,0,none⟩) cp d au h1 (by have:=ak.out;omega) a2.out ae ab (by rw [zC,bitsOf_len];omega)
 rw [<-ak.out] at aj
 go_wp2_with fail
 refine aj.mono ?_
 rintro e w3 ⟨rfl,F3,al,ac⟩
 have ao:=ae.keep ab ac.chg
 have av:=ab.grow ae ac
 have ar:=ap.trans ac
 clear au aj ae ab af ac ap
 have aX:=hid (allOf_len D d)
 go_wp2_with fail
 go_loopg [25] n (fun j iv wr=>∃ (i:Nat) (F' aw:List Nat),iv=.int .i64 i/\i+j=n/\IsWr wr b F' aw/\Hid (aw=bs++bitsOf (k-1) 4++allOf D d++allOf (I.take i) q)/\aw.length<=bs.length+4+d*k+4*i/\Cells vi wr (some ⟨g,0,none⟩) D/\Apt (some ⟨g,0,none⟩) D F'/\Grow F F' w wr)
 case atStart=>exact ⟨0,F3,_,rfl,by omega,al,hid (by simp [allOf]),by rw [zC,zC,bitsOf_len,aX.out,ak.out];omega,ao,av,ar⟩
 case round =>
  clear al ao av ar
  obtain ⟨i,F',aw,rfl,a8,aT,Hb,aY,aJ,ax,aI⟩:=hrel
  rcases gk with _ | j
  ·obtain rfl:i=n:=by omega
   go_wp2
   go_end0
   refine ⟨rfl,F',?_,aI⟩
   have e:I.take i=I:=by rw [HN.out,aC.out,zT (by simp)]
   have h5:=Hb.out
   rw [e,zH,zH] at h5
   rw [zH,<-h5]
   exact aT
  ·have a3:i<n:=by omega
   have az:i<l.length:=by rw [<-HN.out];exact a3
   obtain ⟨g2,o2,rfl,cl⟩:=(hc.keep HA.out aI.chg).at_ az
   have ah:=a1.out l[i] (zG az)
   have aO:i<I.length:=by rw [aC.out,zE];exact az
   have aS:I[i]=(D.countP (· < l[i]):Int):=by simp [aC.out]
   have aq:=allOf_snoc (I.take i) I[i] q
   rw [<-take_snoc' I aO,aS,Int.toNat_natCast] at aq
   have aa:=fun w h=>Tryz.slices_BinarySearch_int g 0 D.length cp D l[i] w (zQ _) (by have:=ak.out;omega) h (by rw [zN];exact aE.out)
   rw [zN] at aa
   rw [<-ak.out] at aa
   obtain ⟨x,hx⟩:=zX (l[i])
   rw [<-hx] at cl ah aa aq
   obtain ⟨p,hp⟩:=zX (D.countP (· < x))
   rw [<-hp] at ah aa aq
   have a0:=aa wr (by rw [ak.out];exact Cells.getD_ aJ)
   have aR:p<2^q:=by have:=aW.out;omega
   have a7:wr.cell? _=some (Value.int .i64 x):=cl
   have a4:=hid aq
   have aZ:=hid aR
   clear aa aq aR hp hx cl az aO aS
   generalize D.contains x=cb at *
   go_wp2_with fail
   refine a0.mono ?_
   rintro e w4 ⟨rfl,nq,rfl⟩
   go_wp2_with (go_at_call 24;refine (aK _).mono ?_;rintro e w' ⟨rfl,rfl⟩)
   refine (wput_ok _ b F' aw p q (aT.same ((zR [] wr).drewN nq)) (by omega) aZ.out (by have:=zL h1 hk;omega)).mono ?_
   rintro e w5 ⟨rfl,F5,aF,ai⟩
   have aD:=((zR [] wr).drewN nq)
   go_wp2_with fail
   go_roundg j
   case measure=>omega
   case rel =>
    refine ⟨i+1,F5,_,by go_num,by omega,aF,hid ?_,?_,(aJ.same aD).keep ax ai.chg,ax.grow (aJ.same aD) ai,(aI.same aD).trans ai⟩
    ·rw [a4.out,Hb.out];simp only [zH]
    ·rw [zC,bitsOf_len];omega
end Go.Proofs.YtepjepkgcdfboaaGreatDoor
