/- package tile by its contracts, the sixth part: different. -/
import Derived.Test.YtepjepkgcdfboaaGreatDoorMg20
import Derived.Test.YtepjepkgcdfboaaGreatDoorMg21
import Derived.Test.YtepjepkgcdfboaaGreatDoorMg06
import Derived.Test.YtepjepkgcdfboaaGreatDoorMg07
set_option linter.unusedVariables false
set_option linter.unusedSimpArgs false
set_option maxHeartbeats 2000000
set_option maxRecDepth 100000
namespace Go.Proofs.YtepjepkgcdfboaaGreatDoor
open Go.RowKit
open Go.RowKit Go.Sort Go.Lib
theorem b1p (l:List Int) (A:Option Addr) (cap:Nat) (w:World) (h0:0<l.length) (hl:l.length<=4096) (hc:a0d vi w A l) :
  Calls Tryz.prog 110 #[.slice A l.length cap] w fun e w'=>∃ g c,e=.returned (.slice (some ⟨g,0,none⟩) (a2g l).length c)/\a0d vi w' (some ⟨g,0,none⟩) (a2g l)/\w.heap.size<=g/\(a2g l).length<=c/\c<=9223372036854775807/\Chg [] w w':=by
 obtain ⟨b,o,rfl,hb,aj⟩:=hc.ex h0
 have ab:=Tryz.slices_Clone_int b o l.length cap l w (zQ _) (by omega) (a0d.getD_ hc)
 rw [zN] at ab
 have am:(l.mergeSort fun x y=>decide (x<=y)).length=l.length:=List.length_mergeSort _
 have ag:=e2e l
 have ar:a2g l=compact (l.mergeSort fun x y=>decide (x<=y)):=rfl
 rw [ar] at ag ⊢
 obtain ⟨s,hs⟩:=zX (l.mergeSort fun x y=>decide (x<=y))
 have ad:=fun g cp w1 hH hg=>Tryz.slices_Sort_int g 0 cp l w1 hH hg (by omega)
 rw [<-hs] at am ag ad ⊢
 obtain ⟨n,hn⟩:=zX (l.length)
 have ac:=fun g cp w2 hH ao=>Tryz.slices_Compact_int g 0 cp s w2 hH (by omega) ao
 rw [am] at ac
 rw [<-hn] at ab ad am hl ag ac ⊢
 obtain ⟨k,hk⟩:=zX (compact s)
 rw [<-hk] at ac ag ⊢
 have HN:=hid hn
 have HM:=hid am
 have HS:=hid hs
 have HK:=hid hk
 have aB:=hid ad
 have aw:=hid ac
 have aq:=hid ag
 clear ad ac hn am hs hk ar ag aj hc
 go_enter Tryz.func110,Tryz.ntmps110
 go_wp2_with fail
 refine ab.mono ?_
 rintro e w1 ⟨v,rfl,an,al,ah⟩
 obtain ⟨g,ai,hg⟩:=Row.of_owns an al
 have au:Chg [] w w1:=Chg.of_below ah
 have aa:Row w1 3 v g (l.map (Value.int .i64)):=ai
 obtain ⟨cp,rfl,ao,ax,_,_⟩:=aa.oq
 rw [<-HN.out] at ao aa ⊢
 have av:=aB.out g cp w1 aa.holds aa.lt
 clear ab an al ai ah
 go_wp2_with fail
 refine av.mono ?_
 rintro e w2 ⟨rfl,q,os,rfl⟩
 have af:=(aa.aheadN q).putRow (ys:=s) (by rw [HM.out,HN.out])
 have ae:=af.growO os
 have ay:Chg [] w _:=(((au.aheadN q).putRow (enc:=Value.int .i64) (blk:=g) (.inr hg) 0 s.toArray).growO os)
 have az:=aw.out g cp _ ae.holds ao
 generalize grow (putRow (Value.int .i64) (Sort.ahead w1 q) g 0 s.toArray) os=w2 at *
 clear av af aa au
 go_wp2_with fail
 refine az.mono ?_
 rintro e w3 ⟨rfl,q2,rfl⟩
 have aA:(k++List.replicate (n-k.length) (0:Int)).length=s.length:=by
  rw [zC,zV,HM.out]
  have:=aq.out
  omega
 have ak:=(ae.aheadN q2).putRow (ys:=k++List.replicate (n-k.length) 0) aA
 have ap:=a0d.take ak.toOwn.cells k.length
 rw [List.take_left'] at ap
 ·go_wp2
  go_ret
  exact ⟨g,cp,rfl,ap,hg,by have:=aq.out;omega,ax,(ay.aheadN q2).putRow (.inr hg) 0 _⟩
 ·rfl
def a9i (n:Nat):Nat:=if n<=2 then 1 else if n<=4 then 2 else if n<=16 then 4 else 8
theorem c4t {n:Nat} (h:n<=16):n<=2^a9i n:=by
 unfold a9i
 split
 ·simpa using ‹n<=2›
 ·split
  ·simpa using ‹n<=4›
  ·simpa using h
theorem c6g {n:Nat} (h:n<=16):a9i n<=4:=by
 unfold a9i
 split
 ·omega
 ·split
  ·omega
  ·omega
theorem c5n (n:Nat) (w:World) (h0:1<=n) (h1:n<=256):Calls Tryz.prog 24 #[.int .i64 n] w fun e w'=>e=.returned (.int .i64 (a9i n))/\w=w':=by
 have t1:decide ((n:Int)<1)=false:=zA (by omega)
 have t2:decide ((256:Int)<(n:Int))=false:=zA (by omega)
 by_cases h2:n<=2
 ·have e:a9i n=1:=by unfold a9i;rw [if_pos h2]
  rw [e]
  have t3:decide ((n:Int)<=2)=true:=zB (by omega)
  clear h0 h1 h2
  go_enter Tryz.func24,Tryz.ntmps24
  go_wp2
  go_ret
  exact ⟨rfl,rfl⟩
 ·have t3:decide ((n:Int)<=2)=false:=zA (by omega)
  by_cases h4:n<=4
  ·have e:a9i n=2:=by unfold a9i;rw [if_neg h2,if_pos h4]
   rw [e]
   have t4:decide ((n:Int)<=4)=true:=zB (by omega)
   clear h0 h1 h2 h4
   go_enter Tryz.func24,Tryz.ntmps24
   go_wp2
   go_ret
   exact ⟨rfl,rfl⟩
  ·have t4:decide ((n:Int)<=4)=false:=zA (by omega)
   by_cases h5:n<=16
   ·have e:a9i n=4:=by unfold a9i;rw [if_neg h2,if_neg h4,if_pos h5]
    rw [e]
    have t5:decide ((n:Int)<=16)=true:=zB (by omega)
    clear h0 h1 h2 h4 h5
    go_enter Tryz.func24,Tryz.ntmps24
    go_wp2
    go_ret
    exact ⟨rfl,rfl⟩
   ·have e:a9i n=8:=by unfold a9i;rw [if_neg h2,if_neg h4,if_neg h5]
    rw [e]
    have t5:decide ((n:Int)<=16)=false:=zA (by omega)
    clear h0 h1 h2 h4 h5
    go_enter Tryz.func24,Tryz.ntmps24
    go_wp2
    go_ret
    exact ⟨rfl,rfl⟩
def e0y (l:List Int):List Int:=l.map fun s=>((a2g l).countP (· < s):Int)
def a2r (l:List Int) (d:Nat):List Nat:=a0b ((a2g l).length-1) 4++a1v (a2g l) d++a1v (e0y l) (a9i (a2g l).length)
theorem d6g (l:List Int):(e0y l).length=l.length:=by simp [e0y]
theorem d5o {d:Nat} {l:List Int} (h:a1u d l):a1u d (a2g l):=fun s hs=>h s ((a9u l s).1 hs)
theorem e7e (l:List Int):(a2g l).Pairwise (·<=·):=(b5e l).imp fun h=>by omega
theorem c4b (w:World) (b:Nat) (F bs:List Nat) (l:List Int) (A:Option Addr) (cap d:Nat) (h:a2n w b F bs) (h0:1<=d) (h1:d<=16) (hl0:0<l.length) (hl:l.length<=256) (hs:a1u d l) (hc:a0d vi w A l) (hA:Apt A l F) (hk:(a2g l).length<=16) (hbs:bs.length<68719476736) :
  Calls Tryz.prog 120 #[.pointer (some ⟨b,0,none⟩),.slice A l.length cap,.int .i64 d] w fun e w'=>e=.returned (.tuple #[])/\∃ F',a2n w' b F' (bs++a2r l d)/\a0u F F' w w':=by
 have an:=b1p l A cap w hl0 (by omega) hc
 have aF:=d0c hl0
 have aC:=d5o hs
 have aj:=e7e l
 have ah:=fun x (hx:x∈l)=>(b1n (a2g l) (b5e l) ((a9u l x).2 hx)).1
 have aQ:a2r l d=a0b ((a2g l).length-1) 4++a1v (a2g l) d++a1v (e0y l) (a9i (a2g l).length):=rfl
 have aA:e0y l=l.map fun s=>((a2g l).countP (· < s):Int):=rfl
 rw [aQ]
 obtain ⟨D,hD⟩:=zX (a2g l)
 rw [<-hD] at an aF aC aj ah aA hk ⊢
 obtain ⟨k,aH⟩:=zX (D.length)
 have az:=c4t hk
 have aN:=c6g hk
 have aK:=fun w=>c5n D.length w aF (by omega)
 rw [<-aH] at an aF ah hk az aN aK ⊢
 obtain ⟨q,hq⟩:=zX (a9i k)
 rw [<-hq] at az aN aK ⊢
 obtain ⟨I,hI⟩:=zX (e0y l)
 rw [<-hI] at aA ⊢
 obtain ⟨n,hn⟩:=zX (l.length)
 rw [<-hn] at an hl hl0 ⊢
 have aS:=h.lt
 have HN:=hid hn
 have ak:=hid aH
 have aJ:=hid aA
 have a0:=hid aC
 have aG:=hid aj
 have aV:=hid ah
 have aW:=hid az
 have HA:=hid hA
 have a3:=hid aS
 clear hn aH aA aC aj ah az hA aS aQ hD hI hq hs
 have k1:IntKind.u64.wrap ((k:Int)-1)=((k-1:Nat):Int):=by
  have e:((k-1:Nat):Int)=(k:Int)-1:=by omega
  rw [e]
  exact IntWalk.u64_in _ (by omega)
 go_enter Tryz.func120,Tryz.ntmps120
 go_wp2_with fail
 refine an.mono ?_
 rintro e w1 ⟨g,cp,rfl,aB,hg,a5,a8,aR⟩
 have aE:Apt (some ⟨g,0,none⟩) D F:=fun _ ad e hm=>by
  injection e with e
  subst e
  have:=a3.out _ hm
  simp at this
  omega
 have aq:=h.same aR
 clear an h
 go_wp2_with fail
 refine (a0t w1 b F bs (k-1) 4 aq (by omega) (by omega) (by omega)).mono ?_
 rintro e w2 ⟨rfl,F2,av,ab⟩
 have af:=aB.keep aE ab.chg
 have ae:=aE.grow aB ab
 have au:=a0u.pre aR ab
 clear aq aB aE
 have ai:=c2i w2 b F2 _ D (some ⟨g,0,none⟩) cp d av h1 (by have:=ak.out;omega) a0.out af ae (by rw [zC,a0a];omega)
 rw [<-ak.out] at ai
 go_wp2_with fail
 refine ai.mono ?_
 rintro e w3 ⟨rfl,F3,ap,ac⟩
 have al:=af.keep ae ac.chg
 have ao:=ae.grow af ac
 have ax:=au.trans ac
 clear av ai af ae ab ac au
 have aZ:=hid (b4t D d)
 go_wp2_with fail
 go_loopg [25] n (fun j iv wr=>∃ (i:Nat) (F' am:List Nat),iv=.int .i64 i/\i+j=n/\a2n wr b F' am/\Hid (am=bs++a0b (k-1) 4++a1v D d++a1v (I.take i) q)/\am.length<=bs.length+4+d*k+4*i/\a0d vi wr (some ⟨g,0,none⟩) D/\Apt (some ⟨g,0,none⟩) D F'/\a0u F F' w wr)
 case atStart=>exact ⟨0,F3,_,rfl,by omega,ap,hid (by simp [a1v]),by rw [zC,zC,a0a,aZ.out,ak.out];omega,al,ao,ax⟩
 case round =>
  clear ap al ao ax
  obtain ⟨i,F',am,rfl,a6,aU,Hb,aX,aM,ar,aL⟩:=hrel
  rcases gk with _ | j
  ·obtain rfl:i=n:=by omega
   go_wp2
   go_end0
   refine ⟨rfl,F',?_,aL⟩
   have e:I.take i=I:=by rw [HN.out,aJ.out,zT (by simp)]
   have h5:=Hb.out
   rw [e,zH,zH] at h5
   rw [zH,<-h5]
   exact aU
  ·have a4:i<n:=by omega
   have ay:i<l.length:=by rw [<-HN.out];exact a4
   obtain ⟨g2,o2,rfl,cl⟩:=(hc.keep HA.out aL.chg).at_ ay
   have ah:=aV.out l[i] (zG ay)
   have aT:i<I.length:=by rw [aJ.out,zE];exact ay
   have aP:I[i]=(D.countP (· < l[i]):Int):=by simp [aJ.out]
   have aw:=c4q (I.take i) I[i] q
   rw [<-a0o I aT,aP,Int.toNat_natCast] at aw
   have aa:=fun w h=>Tryz.slices_BinarySearch_int g 0 D.length cp D l[i] w (zQ _) (by have:=ak.out;omega) h (by rw [zN];exact aG.out)
   rw [zN] at aa
   rw [<-ak.out] at aa
   obtain ⟨x,hx⟩:=zX (l[i])
   rw [<-hx] at cl ah aa aw
   obtain ⟨p,hp⟩:=zX (D.countP (· < x))
   rw [<-hp] at ah aa aw
   have aY:=aa wr (by rw [ak.out];exact a0d.getD_ aM)
   have aO:p<2^q:=by have:=aW.out;omega
   have a7:wr.cell? _=some (Value.int .i64 x):=cl
   have a2:=hid aw
   have a1:=hid aO
   clear aa aw aO hp hx cl ay aT aP
   generalize D.contains x=cb at *
   go_wp2_with fail
   refine aY.mono ?_
   rintro e w4 ⟨rfl,nq,rfl⟩
   go_wp2_with (go_at_call 24;refine (aK _).mono ?_;rintro e w' ⟨rfl,rfl⟩)
   refine (a0t _ b F' am p q (aU.same ((zR [] wr).drewN nq)) (by omega) a1.out (by have:=zL h1 hk;omega)).mono ?_
   rintro e w5 ⟨rfl,F5,aD,ag⟩
   have aI:=((zR [] wr).drewN nq)
   go_wp2_with fail
   go_roundg j
   case measure=>omega
   case rel =>
    refine ⟨i+1,F5,_,by go_num,by omega,aD,hid ?_,?_,(aM.same aI).keep ar ag.chg,ar.grow (aM.same aI) ag,(aL.same aI).trans ag⟩
    ·rw [a2.out,Hb.out];simp only [zH]
    ·rw [zC,a0a];omega
end Go.Proofs.YtepjepkgcdfboaaGreatDoor
