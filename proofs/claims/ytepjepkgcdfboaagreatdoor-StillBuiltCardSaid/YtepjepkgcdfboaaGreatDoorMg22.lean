/- package tile by its contracts, the sixth part: different. -/
import Derived.Test.YtepjepkgcdfboaaGreatDoorMg20
import Derived.Test.YtepjepkgcdfboaaGreatDoorMg21
import Derived.Test.YtepjepkgcdfboaaGreatDoorMg06
import Derived.Test.YtepjepkgcdfboaaGreatDoorMg07
set_option linter.unusedVariables false
set_option linter.unusedSimpArgs false
set_option maxHeartbeats 2000000
set_option maxRecDepth 100000
namespace Go.Proofs.YtepjepkgcdfboaaGreatDoor
open Go.RowKit
open Go.RowKit Go.Sort Go.Lib
theorem b1p (l:List Int) (A:Option Addr) (cap:Nat) (w:World) (h0:0<l.length) (hl:l.length<=4096) (hc:a0d vi w A l) :
  Calls Tryz.prog 110 #[.slice A l.length cap] w fun e w'=>∃ g c,e=.returned (.slice (some ⟨g,0,none⟩) (a2g l).length c)/\a0d vi w' (some ⟨g,0,none⟩) (a2g l)/\w.heap.size<=g/\(a2g l).length<=c/\c<=9223372036854775807/\Chg [] w w':=by
 obtain ⟨b,o,rfl,hb,ah⟩:=hc.ex h0
 have ab:=Tryz.slices_Clone_int b o l.length cap l w (zQ _) (by omega) (a0d.getD_ hc)
 rw [zN] at ab
 have ak:(l.mergeSort fun x y=>decide (x<=y)).length=l.length:=List.length_mergeSort _
 have ag:=e2e l
 have av:a2g l=compact (l.mergeSort fun x y=>decide (x<=y)):=rfl
 rw [av] at ag ⊢
 obtain ⟨s,hs⟩:=zX (l.mergeSort fun x y=>decide (x<=y))
 have ad:=fun g cp w1 hH hg=>Tryz.slices_Sort_int g 0 cp l w1 hH hg (by omega)
 rw [<-hs] at ak ag ad ⊢
 obtain ⟨n,hn⟩:=zX (l.length)
 have ac:=fun g cp w2 hH ao=>Tryz.slices_Compact_int g 0 cp s w2 hH (by omega) ao
 rw [ak] at ac
 rw [<-hn] at ab ad ak hl ag ac ⊢
 obtain ⟨k,hk⟩:=zX (compact s)
 rw [<-hk] at ac ag ⊢
 have HN:=hid hn
 have HM:=hid ak
 have HS:=hid hs
 have HK:=hid hk
 have aB:=hid ad
 have aw:=hid ac
 have au:=hid ag
 clear ad ac hn ak hs hk av ag ah hc
 go_enter Tryz.func110,Tryz.ntmps110
 go_wp2_with fail
 refine ab.mono ?_
 rintro e w1 ⟨v,rfl,am,aj,ai⟩
 obtain ⟨g,an,hg⟩:=Row.of_owns am aj
 have ap:Chg [] w w1:=Chg.of_below ai
 have aa:Row w1 3 v g (l.map (Value.int .i64)):=an
 obtain ⟨cp,rfl,ao,ay,_,_⟩:=aa.oq
 rw [<-HN.out] at ao aa ⊢
 have aq:=aB.out g cp w1 aa.holds aa.lt
 clear ab am aj an ai
 go_wp2_with fail
 refine aq.mono ?_
 rintro e w2 ⟨rfl,q,os,rfl⟩
 have af:=(aa.aheadN q).putRow (ys:=s) (by rw [HM.out,HN.out])
 have ae:=af.growO os
 have aA:Chg [] w _:=(((ap.aheadN q).putRow (enc:=Value.int .i64) (blk:=g) (.inr hg) 0 s.toArray).growO os)
 have ax:=aw.out g cp _ ae.holds ao
 generalize grow (putRow (Value.int .i64) (Sort.ahead w1 q) g 0 s.toArray) os=w2 at *
 clear aq af aa ap
 go_wp2_with fail
 refine ax.mono ?_
 rintro e w3 ⟨rfl,q2,rfl⟩
 have az:(k++List.replicate (n-k.length) (0:Int)).length=s.length:=by
  rw [zC,zV,HM.out]
  have:=au.out
  omega
 have al:=(ae.aheadN q2).putRow (ys:=k++List.replicate (n-k.length) 0) az
 have ar:=a0d.take al.toOwn.cells k.length
 rw [List.take_left'] at ar
 ·go_wp2
  go_ret
  exact ⟨g,cp,rfl,ar,hg,by have:=au.out;omega,ay,(aA.aheadN q2).putRow (.inr hg) 0 _⟩
 ·rfl
def a9i (n:Nat):Nat:=if n<=2 then 1 else if n<=4 then 2 else if n<=16 then 4 else 8
theorem c4t {n:Nat} (h:n<=16):n<=2^a9i n:=by
 unfold a9i
 split
 ·simpa using ‹n<=2›
 ·split
  ·simpa using ‹n<=4›
  ·simpa using h
theorem c6g {n:Nat} (h:n<=16):a9i n<=4:=by
 unfold a9i
 split
 ·omega
 ·split
  ·omega
  ·omega
theorem c5n (n:Nat) (w:World) (h0:1<=n) (h1:n<=256):Calls Tryz.prog 24 #[.int .i64 n] w fun e w'=>e=.returned (.int .i64 (a9i n))/\w=w':=by
 have t1:decide ((n:Int)<1)=false:=zA (by omega)
 have t2:decide ((256:Int)<(n:Int))=false:=zA (by omega)
 by_cases h2:n<=2
 ·have e:a9i n=1:=by unfold a9i;rw [if_pos h2]
  rw [e]
  have t3:decide ((n:Int)<=2)=true:=zB (by omega)
  clear h0 h1 h2
  go_enter Tryz.func24,Tryz.ntmps24
  go_wp2
  go_ret
  exact ⟨rfl,rfl⟩
 ·have t3:decide ((n:Int)<=2)=false:=zA (by omega)
  by_cases h4:n<=4
  ·have e:a9i n=2:=by unfold a9i;rw [if_neg h2,if_pos h4]
   rw [e]
   have t4:decide ((n:Int)<=4)=true:=zB (by omega)
   clear h0 h1 h2 h4
   go_enter Tryz.func24,Tryz.ntmps24
   go_wp2
   go_ret
   exact ⟨rfl,rfl⟩
  ·have t4:decide ((n:Int)<=4)=false:=zA (by omega)
   by_cases h5:n<=16
   ·have e:a9i n=4:=by unfold a9i;rw [if_neg h2,if_neg h4,if_pos h5]
    rw [e]
    have t5:decide ((n:Int)<=16)=true:=zB (by omega)
    clear h0 h1 h2 h4 h5
    go_enter Tryz.func24,Tryz.ntmps24
    go_wp2
    go_ret
    exact ⟨rfl,rfl⟩
   ·have e:a9i n=8:=by unfold a9i;rw [if_neg h2,if_neg h4,if_neg h5]
    rw [e]
    have t5:decide ((n:Int)<=16)=false:=zA (by omega)
    clear h0 h1 h2 h4 h5
    go_enter Tryz.func24,Tryz.ntmps24
    go_wp2
    go_ret
    exact ⟨rfl,rfl⟩
def e0y (l:List Int):List Int:=l.map fun s=>((a2g l).countP (· < s):Int)
def a2r (l:List Int) (d:Nat):List Nat:=a0b ((a2g l).length-1) 4++a1v (a2g l) d++a1v (e0y l) (a9i (a2g l).length)
theorem d6g (l:List Int):(e0y l).length=l.length:=by simp [e0y]
theorem d5o {d:Nat} {l:List Int} (h:a1u d l):a1u d (a2g l):=fun s hs=>h s ((a9u l s).1 hs)
theorem e7e (l:List Int):(a2g l).Pairwise (·<=·):=(b5e l).imp fun h=>by omega
theorem c4b (w:World) (b:Nat) (F bs:List Nat) (l:List Int) (A:Option Addr) (cap d:Nat) (h:a2n w b F bs) (h0:1<=d) (h1:d<=16) (hl0:0<l.length) (hl:l.length<=256) (hs:a1u d l) (hc:a0d vi w A l) (hA:Apt A l F) (hk:(a2g l).length<=16) (hbs:bs.length<68719476736) :
  Calls Tryz.prog 120 #[.pointer (some ⟨b,0,none⟩),.slice A l.length cap,.int .i64 d] w fun e w'=>e=.returned (.tuple #[])/\∃ F',a2n w' b F' (bs++a2r l d)/\a0u F F' w w':=by
 have ao:=b1p l A cap w hl0 (by omega) hc
 have aG:=d0c hl0
 have aF:=d5o hs
 have ag:=e7e l
 have aj:=fun x (hx:x∈l)=>(b1n (a2g l) (b5e l) ((a9u l x).2 hx)).1
 have aU:a2r l d=a0b ((a2g l).length-1) 4++a1v (a2g l) d++a1v (e0y l) (a9i (a2g l).length):=rfl
 have ay:e0y l=l.map fun s=>((a2g l).countP (· < s):Int):=rfl
 rw [aU]
 obtain ⟨D,hD⟩:=zX (a2g l)
 rw [<-hD] at ao aG aF ag aj ay hk ⊢
 obtain ⟨k,aI⟩:=zX (D.length)
 have az:=c4t hk
 have aT:=c6g hk
 have aL:=fun w=>c5n D.length w aG (by omega)
 rw [<-aI] at ao aG aj hk az aT aL ⊢
 obtain ⟨q,hq⟩:=zX (a9i k)
 rw [<-hq] at az aT aL ⊢
 obtain ⟨I,hI⟩:=zX (e0y l)
 rw [<-hI] at ay ⊢
 obtain ⟨n,hn⟩:=zX (l.length)
 rw [<-hn] at ao hl hl0 ⊢
 have aP:=h.lt
 have HN:=hid hn
 have ak:=hid aI
 have aJ:=hid ay
 have a3:=hid aF
 have aK:=hid ag
 have aV:=hid aj
 have aZ:=hid az
 have HA:=hid hA
 have aW:=hid aP
 clear hn aI ay aF ag aj az hA aP aU hD hI hq hs
 have k1:IntKind.u64.wrap ((k:Int)-1)=((k-1:Nat):Int):=by
  have e:((k-1:Nat):Int)=(k:Int)-1:=by omega
  rw [e]
  exact IntWalk.u64_in _ (by omega)
 go_enter Tryz.func120,Tryz.ntmps120
 go_wp2_with fail
 refine ao.mono ?_
 rintro e w1 ⟨g,cp,rfl,aB,hg,a8,a6,aN⟩
 have aD:Apt (some ⟨g,0,none⟩) D F:=fun _ ad e hm=>by
  injection e with e
  subst e
  have:=aW.out _ hm
  simp at this
  omega
 have aq:=h.same aN
 clear ao h
 go_wp2_with fail
 refine (a0t w1 b F bs (k-1) 4 aq (by omega) (by omega) (by omega)).mono ?_
 rintro e w2 ⟨rfl,F2,au,ac⟩
 have ae:=aB.keep aD ac.chg
 have af:=aD.grow aB ac
 have aw:=a0u.pre aN ac
 clear aq aB aD
 have ai:=c2i w2 b F2 _ D (some ⟨g,0,none⟩) cp d au h1 (by have:=ak.out;omega) a3.out ae af (by rw [zC,a0a];omega)
 rw [<-ak.out] at ai
 go_wp2_with fail
 refine ai.mono ?_
 rintro e w3 ⟨rfl,F3,ax,ab⟩
 have am:=ae.keep af ab.chg
 have an:=af.grow ae ab
 have av:=aw.trans ab
 clear au ai ae af ac ab aw
 have a0:=hid (b4t D d)
 go_wp2_with fail
 go_loopg [25] n (fun j iv wr=>∃ (i:Nat) (F' ar:List Nat),iv=.int .i64 i/\i+j=n/\a2n wr b F' ar/\Hid (ar=bs++a0b (k-1) 4++a1v D d++a1v (I.take i) q)/\ar.length<=bs.length+4+d*k+4*i/\a0d vi wr (some ⟨g,0,none⟩) D/\Apt (some ⟨g,0,none⟩) D F'/\a0u F F' w wr)
 case atStart=>exact ⟨0,F3,_,rfl,by omega,ax,hid (by simp [a1v]),by rw [zC,zC,a0a,a0.out,ak.out];omega,am,an,av⟩
 case round =>
  clear ax am an av
  obtain ⟨i,F',ar,rfl,a7,aS,Hb,a4,aE,ap,aH⟩:=hrel
  rcases gk with _ | j
  ·obtain rfl:i=n:=by omega
   go_wp2
   go_end0
   refine ⟨rfl,F',?_,aH⟩
   have e:I.take i=I:=by rw [HN.out,aJ.out,zT (by simp)]
   have h5:=Hb.out
   rw [e,zH,zH] at h5
   rw [zH,<-h5]
   exact aS
  ·have a1:i<n:=by omega
   have aA:i<l.length:=by rw [<-HN.out];exact a1
   obtain ⟨g2,o2,rfl,cl⟩:=(hc.keep HA.out aH.chg).at_ aA
   have aj:=aV.out l[i] (zG aA)
   have aQ:i<I.length:=by rw [aJ.out,zE];exact aA
   have aO:I[i]=(D.countP (· < l[i]):Int):=by simp [aJ.out]
   have al:=c4q (I.take i) I[i] q
   rw [<-a0o I aQ,aO,Int.toNat_natCast] at al
   have aa:=fun w h=>Tryz.slices_BinarySearch_int g 0 D.length cp D l[i] w (zQ _) (by have:=ak.out;omega) h (by rw [zN];exact aK.out)
   rw [zN] at aa
   rw [<-ak.out] at aa
   obtain ⟨x,hx⟩:=zX (l[i])
   rw [<-hx] at cl aj aa al
   obtain ⟨p,hp⟩:=zX (D.countP (· < x))
   rw [<-hp] at aj aa al
   have a2:=aa wr (by rw [ak.out];exact a0d.getD_ aE)
   have aR:p<2^q:=by have:=aZ.out;omega
   have a5:wr.cell? _=some (Value.int .i64 x):=cl
   have aX:=hid al
   have aY:=hid aR
   clear aa al aR hp hx cl aA aQ aO
   generalize D.contains x=cb at *
   go_wp2_with fail
   refine a2.mono ?_
   rintro e w4 ⟨rfl,nq,rfl⟩
   go_wp2_with (go_at_call 24;refine (aL _).mono ?_;rintro e w' ⟨rfl,rfl⟩)
   refine (a0t _ b F' ar p q (aS.same ((zR [] wr).drewN nq)) (by omega) aY.out (by have:=zL h1 hk;omega)).mono ?_
   rintro e w5 ⟨rfl,F5,aC,ah⟩
   have aM:=((zR [] wr).drewN nq)
   go_wp2_with fail
   go_roundg j
   case measure=>omega
   case rel =>
    refine ⟨i+1,F5,_,by go_num,by omega,aC,hid ?_,?_,(aE.same aM).keep ap ah.chg,ap.grow (aE.same aM) ah,(aH.same aM).trans ah⟩
    ·rw [aX.out,Hb.out];simp only [zH]
    ·rw [zC,a0a];omega
end Go.Proofs.YtepjepkgcdfboaaGreatDoor
