/- package tile by its contracts, the sixth part: different. -/
import Derived.Test.YtijpbkakncglgaaGreatDoorMg22
import Derived.Test.YtijpbkakncglgaaGreatDoorMg23
import Derived.Test.YtijpbkakncglgaaGreatDoorMg06
import Derived.Test.YtijpbkakncglgaaGreatDoorMg07
set_option linter.unusedVariables false
set_option linter.unusedSimpArgs false
set_option maxHeartbeats 2000000
set_option maxRecDepth 100000
namespace Go.Proofs.YtijpbkakncglgaaGreatDoor
open Go.RowKit
open Go.RowKit Go.Sort Go.Lib
theorem different_ok (l:List Int) (A:Option Addr) (cap:Nat) (w:World) (h0:0<l.length) (hl:l.length≤4096) (hc:Cells vi w A l) :
  Calls Tryz.prog 83 #[.slice A l.length cap] w fun e w'=>∃ g c,e=.returned (.slice (some ⟨g,0,none⟩) (diffL l).length c)∧Cells vi w' (some ⟨g,0,none⟩) (diffL l)∧w.heap.size≤g∧(diffL l).length≤c∧c≤9223372036854775807∧Chg [] w w':=by
 obtain ⟨b,o,rfl,hb,hcell⟩:=hc.ex h0
 have hclone:=Tryz.slices_Clone_int b o l.length cap l w (Nat.le_refl _) (by omega) (Cells.getD_ hc)
 rw [List.take_length] at hclone
 have hml:(l.mergeSort fun x y=>decide (x≤y)).length=l.length:=List.length_mergeSort _
 have hdl:=diffL_len l
 have hde:diffL l=compact (l.mergeSort fun x y=>decide (x≤y)):=rfl
 rw [hde] at hdl ⊢
 obtain ⟨s,hs⟩:∃ s,s=l.mergeSort fun x y=>decide (x≤y):=⟨_,rfl⟩
 have hsort:=fun g cp w1 hH hg=>Tryz.slices_Sort_int g 0 cp l w1 hH hg (by omega)
 rw [←hs] at hml hdl hsort ⊢
 obtain ⟨n,hn⟩:∃ n,n=l.length:=⟨_,rfl⟩
 have hcomp:=fun g cp w2 hH hcp=>Tryz.slices_Compact_int g 0 cp s w2 hH (by omega) hcp
 rw [hml] at hcomp
 rw [←hn] at hclone hsort hml hl hdl hcomp ⊢
 obtain ⟨k,hk⟩:∃ k,k=compact s:=⟨_,rfl⟩
 rw [←hk] at hcomp hdl ⊢
 have HN:=hid hn
 have HM:=hid hml
 have HS:=hid hs
 have HK:=hid hk
 have HSo:=hid hsort
 have HCo:=hid hcomp
 have HDL:=hid hdl
 clear hsort hcomp hn hml hs hk hde hdl hcell hc
 go_enter Tryz.func83,Tryz.ntmps83
 go_wp2_with fail
 refine hclone.mono ?_
 rintro e w1 ⟨v,rfl,hown,hnil,hbel⟩
 obtain ⟨g,hrow,hg⟩:=Row.of_owns hown hnil
 have ch1:Chg [] w w1:=Chg.of_below hbel
 have hrow':Row w1 3 v g (l.map (Value.int .i64)):=hrow
 obtain ⟨cp,rfl,hcp,hcm,_,_⟩:=hrow'.open_map
 rw [←HN.out] at hcp hrow' ⊢
 have hso:=HSo.out g cp w1 hrow'.holds hrow'.lt
 clear hclone hown hnil hrow hbel
 go_wp2_with fail
 refine hso.mono ?_
 rintro e w2 ⟨rfl,q,os,rfl⟩
 have hrow2:=(hrow'.aheadN q).putRow (ys:=s) (by rw [HM.out,HN.out])
 have hrow3:=hrow2.growO os
 have ch2:Chg [] w _:=(((ch1.aheadN q).putRow (enc:=Value.int .i64) (blk:=g) (.inr hg) 0 s.toArray).growO os)
 have hco:=HCo.out g cp _ hrow3.holds hcp
 generalize grow (putRow (Value.int .i64) (Sort.ahead w1 q) g 0 s.toArray) os=w2 at *
 clear hso hrow2 hrow' ch1
 go_wp2_with fail
 refine hco.mono ?_
 rintro e w3 ⟨rfl,q2,rfl⟩
 have hzl:(k++List.replicate (n-k.length) (0:Int)).length=s.length:=by
  rw [zC,List.length_replicate,HM.out]
  have:=HDL.out
  omega
 have hrow4:=(hrow3.aheadN q2).putRow (ys:=k++List.replicate (n-k.length) 0) hzl
 have hcl:=Cells.take hrow4.toOwn.cells k.length
 rw [List.take_left'] at hcl
 ·go_wp2
  go_ret
  exact ⟨g,cp,rfl,hcl,hg,by have:=HDL.out;omega,hcm,(ch2.aheadN q2).putRow (.inr hg) 0 _⟩
 ·rfl
def bitsN (n:Nat):Nat:=if n≤2 then 1 else if n≤4 then 2 else if n≤16 then 4 else 8
theorem bitsN_room {n:Nat} (h:n≤16):n≤2^bitsN n:=by
 unfold bitsN
 split
 ·simpa using ‹n≤2›
 ·split
  ·simpa using ‹n≤4›
  ·simpa using h
theorem bitsN_le {n:Nat} (h:n≤16):bitsN n≤4:=by
 unfold bitsN
 split
 ·omega
 ·split
  ·omega
  ·omega
theorem palBits_ok (n:Nat) (w:World) (h0:1≤n) (h1:n≤256):Calls Tryz.prog 112 #[.int .i64 n] w fun e w'=>e=.returned (.int .i64 (bitsN n))∧w=w':=by
 have t1:decide ((n:Int)<1)=false:=zA (by omega)
 have t2:decide ((256:Int)<(n:Int))=false:=zA (by omega)
 by_cases h2:n≤2
 ·have e:bitsN n=1:=by unfold bitsN;rw [if_pos h2]
  rw [e]
  have t3:decide ((n:Int)≤2)=true:=zB (by omega)
  clear h0 h1 h2
  go_enter Tryz.func112,Tryz.ntmps112
  go_wp2
  go_ret
  exact ⟨rfl,rfl⟩
 ·have t3:decide ((n:Int)≤2)=false:=zA (by omega)
  by_cases h4:n≤4
  ·have e:bitsN n=2:=by unfold bitsN;rw [if_neg h2,if_pos h4]
   rw [e]
   have t4:decide ((n:Int)≤4)=true:=zB (by omega)
   clear h0 h1 h2 h4
   go_enter Tryz.func112,Tryz.ntmps112
   go_wp2
   go_ret
   exact ⟨rfl,rfl⟩
  ·have t4:decide ((n:Int)≤4)=false:=zA (by omega)
   by_cases h5:n≤16
   ·have e:bitsN n=4:=by unfold bitsN;rw [if_neg h2,if_neg h4,if_pos h5]
    rw [e]
    have t5:decide ((n:Int)≤16)=true:=zB (by omega)
    clear h0 h1 h2 h4 h5
    go_enter Tryz.func112,Tryz.ntmps112
    go_wp2
    go_ret
    exact ⟨rfl,rfl⟩
   ·have e:bitsN n=8:=by unfold bitsN;rw [if_neg h2,if_neg h4,if_neg h5]
    rw [e]
    have t5:decide ((n:Int)≤16)=false:=zA (by omega)
    clear h0 h1 h2 h4 h5
    go_enter Tryz.func112,Tryz.ntmps112
    go_wp2
    go_ret
    exact ⟨rfl,rfl⟩
def idxL (l:List Int):List Int:=l.map fun s=>((diffL l).countP (· < s):Int)
def colouredBits (l:List Int) (d:Nat):List Nat:=bitsOf ((diffL l).length-1) 4++allOf (diffL l) d++allOf (idxL l) (bitsN (diffL l).length)
theorem idxL_len (l:List Int):(idxL l).length=l.length:=by simp [idxL]
theorem diffL_ok {d:Nat} {l:List Int} (h:SmpOk d l):SmpOk d (diffL l):=fun s hs=>h s ((mem_diffL l s).1 hs)
theorem diffL_le (l:List Int):(diffL l).Pairwise (·≤·):=(diffL_lt l).imp fun h=>by omega
theorem putColoured_ok (w:World) (b:Nat) (F bs:List Nat) (l:List Int) (A:Option Addr) (cap d:Nat) (h:IsWr w b F bs) (h0:1≤d) (h1:d≤16) (hl0:0<l.length) (hl:l.length≤256) (hs:SmpOk d l) (hc:Cells vi w A l) (hA:Apt A l F) (hk:(diffL l).length≤16) (hbs:bs.length<68719476736) :
  Calls Tryz.prog 93 #[.pointer (some ⟨b,0,none⟩),.slice A l.length cap,.int .i64 d] w fun e w'=>e=.returned (.tuple #[])∧∃ F',IsWr w' b F' (bs++colouredBits l d)∧Grow F F' w w':=by
 have hdi:=different_ok l A cap w hl0 (by omega) hc
 have hdp:=diffL_pos hl0
 have hdo:=diffL_ok hs
 have hdle:=diffL_le l
 have hci:=fun x (hx:x∈l)=>(countP_index (diffL l) (diffL_lt l) ((mem_diffL l x).2 hx)).1
 have hcb:colouredBits l d=bitsOf ((diffL l).length-1) 4++allOf (diffL l) d++allOf (idxL l) (bitsN (diffL l).length):=rfl
 have hix:idxL l=l.map fun s=>((diffL l).countP (· < s):Int):=rfl
 rw [hcb]
 obtain ⟨D,hD⟩:∃ D,D=diffL l:=⟨_,rfl⟩
 rw [←hD] at hdi hdp hdo hdle hci hix hk ⊢
 obtain ⟨k,hkl⟩:∃ k,k=D.length:=⟨_,rfl⟩
 have hbr:=bitsN_room hk
 have hbl:=bitsN_le hk
 have hpb:=fun w=>palBits_ok D.length w hdp (by omega)
 rw [←hkl] at hdi hdp hci hk hbr hbl hpb ⊢
 obtain ⟨q,hq⟩:∃ q,q=bitsN k:=⟨_,rfl⟩
 rw [←hq] at hbr hbl hpb ⊢
 obtain ⟨I,hI⟩:∃ I,I=idxL l:=⟨_,rfl⟩
 rw [←hI] at hix ⊢
 obtain ⟨n,hn⟩:∃ n,n=l.length:=⟨_,rfl⟩
 rw [←hn] at hdi hl hl0 ⊢
 have hlt:=h.lt
 have HN:=hid hn
 have HKL:=hid hkl
 have HIX:=hid hix
 have HDO:=hid hdo
 have HDLE:=hid hdle
 have HCI:=hid hci
 have HBR:=hid hbr
 have HA:=hid hA
 have HLT:=hid hlt
 clear hn hkl hix hdo hdle hci hbr hA hlt hcb hD hI hq hs
 have k1:IntKind.u64.wrap ((k:Int)-1)=((k-1:Nat):Int):=by
  have e:((k-1:Nat):Int)=(k:Int)-1:=by omega
  rw [e]
  exact IntWalk.u64_in _ (by omega)
 go_enter Tryz.func93,Tryz.ntmps93
 go_wp2_with fail
 refine hdi.mono ?_
 rintro e w1 ⟨g,cp,rfl,hcD,hg,hcp,hcm,ch1⟩
 have hap:Apt (some ⟨g,0,none⟩) D F:=fun _ ad e hm=>by
  injection e with e
  subst e
  have:=HLT.out _ hm
  simp at this
  omega
 have hwr1:=h.same ch1
 clear hdi h
 go_wp2_with fail
 refine (wput_ok w1 b F bs (k-1) 4 hwr1 (by omega) (by omega) (by omega)).mono ?_
 rintro e w2 ⟨rfl,F2,hwr2,hgr2⟩
 have hcD2:=hcD.keep hap hgr2.chg
 have hap2:=hap.grow hcD hgr2
 have hgw2:=Grow.pre ch1 hgr2
 clear hwr1 hcD hap
 have hall:=putAll_ok w2 b F2 _ D (some ⟨g,0,none⟩) cp d hwr2 h1 (by have:=HKL.out;omega) HDO.out hcD2 hap2 (by rw [zC,bitsOf_len];omega)
 rw [←HKL.out] at hall
 go_wp2_with fail
 refine hall.mono ?_
 rintro e w3 ⟨rfl,F3,hwr3,hgr3⟩
 have hcD3:=hcD2.keep hap2 hgr3.chg
 have hap3:=hap2.grow hcD2 hgr3
 have hgw3:=hgw2.trans hgr3
 clear hwr2 hall hcD2 hap2 hgr2 hgr3 hgw2
 have HAD:=hid (allOf_len D d)
 go_wp2_with fail
 go_loopg [25] n (fun j iv wr=>∃ (i:Nat) (F' bs':List Nat),iv=.int .i64 i∧i+j=n∧IsWr wr b F' bs'∧Hid (bs'=bs++bitsOf (k-1) 4++allOf D d++allOf (I.take i) q)∧bs'.length≤bs.length+4+d*k+4*i∧Cells vi wr (some ⟨g,0,none⟩) D∧Apt (some ⟨g,0,none⟩) D F'∧Grow F F' w wr)
 case atStart=>exact ⟨0,F3,_,rfl,by omega,hwr3,hid (by simp [allOf]),by rw [zC,zC,bitsOf_len,HAD.out,HKL.out];omega,hcD3,hap3,hgw3⟩
 case round =>
  clear hwr3 hcD3 hap3 hgw3
  obtain ⟨i,F',bs',rfl,hij,hwr,Hb,hbl',hcw,hapw,hgr⟩:=hrel
  rcases gk with _ | j
  ·obtain rfl:i=n:=by omega
   go_wp2
   go_end0
   refine ⟨rfl,F',?_,hgr⟩
   have e:I.take i=I:=by rw [HN.out,HIX.out,List.take_of_length_le (by simp)]
   have h5:=Hb.out
   rw [e,List.append_assoc,List.append_assoc] at h5
   rw [List.append_assoc,←h5]
   exact hwr
  ·have him:i<n:=by omega
   have hil:i<l.length:=by rw [←HN.out];exact him
   obtain ⟨g2,o2,rfl,cl⟩:=(hc.keep HA.out hgr.chg).at_ hil
   have hci:=HCI.out l[i] (zG hil)
   have hIl:i<I.length:=by rw [HIX.out,zE];exact hil
   have hIi:I[i]=(D.countP (· < l[i]):Int):=by simp [HIX.out]
   have htk:=allOf_snoc (I.take i) I[i] q
   rw [←take_snoc' I hIl,hIi,Int.toNat_natCast] at htk
   have hbin:=fun w h=>Tryz.slices_BinarySearch_int g 0 D.length cp D l[i] w (Nat.le_refl _) (by have:=HKL.out;omega) h (by rw [List.take_length];exact HDLE.out)
   rw [List.take_length] at hbin
   rw [←HKL.out] at hbin
   obtain ⟨x,hx⟩:∃ x,x=l[i]:=⟨_,rfl⟩
   rw [←hx] at cl hci hbin htk
   obtain ⟨p,hp⟩:∃ p,p=D.countP (· < x):=⟨_,rfl⟩
   rw [←hp] at hci hbin htk
   have hbi:=hbin wr (by rw [HKL.out];exact Cells.getD_ hcw)
   have hpq:p<2^q:=by have:=HBR.out;omega
   have cl':wr.cell? _=some (Value.int .i64 x):=cl
   have HTK:=hid htk
   have HPQ:=hid hpq
   clear hbin htk hpq hp hx cl hil hIl hIi
   generalize D.contains x=cb at *
   go_wp2_with fail
   refine hbi.mono ?_
   rintro e w4 ⟨rfl,nq,rfl⟩
   go_wp2_with (go_at_call 112;refine (hpb _).mono ?_;rintro e w' ⟨rfl,rfl⟩)
   refine (wput_ok _ b F' bs' p q (hwr.same ((Chg.refl [] wr).drewN nq)) (by omega) HPQ.out (by have:=Nat.mul_le_mul h1 hk;omega)).mono ?_
   rintro e w5 ⟨rfl,F5,hwr5,hgr5⟩
   have ch5:=((Chg.refl [] wr).drewN nq)
   go_wp2_with fail
   go_roundg j
   case measure=>omega
   case rel =>
    refine ⟨i+1,F5,_,by go_num,by omega,hwr5,hid ?_,?_,(hcw.same ch5).keep hapw hgr5.chg,hapw.grow (hcw.same ch5) hgr5,(hgr.same ch5).trans hgr5⟩
    ·rw [HTK.out,Hb.out];simp only [List.append_assoc]
    ·rw [zC,bitsOf_len];omega
end Go.Proofs.YtijpbkakncglgaaGreatDoor
