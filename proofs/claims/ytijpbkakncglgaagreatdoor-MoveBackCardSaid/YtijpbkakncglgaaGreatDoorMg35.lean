/- package prefix by its contracts: GetTable. -/
import Derived.Test.YtijpbkakncglgaaGreatDoorMg29
import Derived.Test.YtijpbkakncglgaaGreatDoorMg34
set_option linter.unusedVariables false
set_option linter.unusedSimpArgs false
set_option maxHeartbeats 4000000
set_option maxRecDepth 100000
namespace Go.Proofs.YtijpbkakncglgaaGreatDoor
open Go.RowKit
theorem seen_ok (w:World) (b:Nat) (F ds:List Nat) (p n v:Nat) (bx:Nat) (sb:Nat) (FS S:List Nat) (h:IsRd w b F ds p) (hn:n≤16) (hv:v<2^n) (ha:Ahead ds p (bitsOf v n)) (hs:IsWr w sb FS S) (hS:S.length<137438953472)
  (hx:w.cell? ⟨bx,0,none⟩=some (.pointer (some ⟨b,0,none⟩))) (hbx:bx≠b) (hd:∀ x∈F,x∉FS) :
  Calls Tryz.prog 159 #[.int .i64 n,.pointer (some ⟨bx,0,none⟩),.pointer (some ⟨sb,0,none⟩)] w fun e w'=>e=.returned (.int .i64 v)∧IsRd w' b F ds (p+n)∧∃ FS',IsWr w' sb FS' (S++bitsOf v n)∧Chg (b::FS) w w'∧∀ x∈FS',x∈FS∨w.heap.size≤x:=by
 have hg:=rget_ahead w b F ds p n v h (by omega) hv ha
 have hv16:v<65536:=Nat.lt_of_lt_of_le hv (show 2^n≤2^16 from Nat.pow_le_pow_right (by decide) hn)
 have hw1:IntKind.i64.wrap (v:Int)=(v:Int):=IntWalk.i64_in _ (by omega)
 have hbF:=h.mem
 have HD:=hid hd
 have HV:=hid hv
 clear ha h hd
 go_enter Tryz.func159,Tryz.ntmps159
 go_wp2_with fail
 refine hg.mono ?_
 rintro e w1 ⟨rfl,hr1,ch1⟩
 have hs1:=hs.chg ch1 (fun x hx hm=>by simp at hm;exact HD.out b hbF (hm ▸ hx))
 clear hg hs
 go_wp2_with fail
 refine (wput_ok w1 sb FS S v n hs1 (by omega) HV.out (by omega)).mono ?_
 rintro e w2 ⟨rfl,FS2,hs2,gr2⟩
 go_wp2
 go_ret
 refine ⟨rfl,hr1.chg gr2.chg HD.out,FS2,hs2,?_,fun x hx => ?_⟩
 ·exact (ch1.mono (fun x hx _=>by simp at hx;simp [hx])).trans gr2.chg (fun x hx => .inl (by simp [hx]))
 ·rcases gr2.new x hx with h9 | h9
  ·exact .inl h9
  ·right;have:=ch1.size;omega
theorem take_zeros (lens:List Nat) (i:Nat):lens.take (i+zr 66 (lens.drop i))=lens.take i++List.replicate (zr 66 (lens.drop i)) 0:=by
 rw [List.take_add]
 congr 1
 have hl:=zr_len 66 (lens.drop i)
 refine List.eq_replicate_iff.2 ⟨by rw [List.length_take];omega,fun x hx => ?_⟩
 obtain ⟨q,hq,rfl⟩:=List.getElem_of_mem hx
 rw [List.length_take] at hq
 have h2:=zr_zero 66 (lens.drop i) q (by omega)
 rw [List.getElem_take]
 rw [zD,zF (by omega)] at h2
 simpa using h2
theorem getTable_ok (w:World) (b:Nat) (F ds:List Nat) (p:Nat) (lens:List Nat) (h:IsRd w b F ds p) (hf:FullL lens) (ha:Ahead ds p (tableBits lens)) :
  Calls Tryz.prog 113 #[.pointer (some ⟨b,0,none⟩)] w fun e w'=>∃ v G,e=.returned (.tuple #[v,.int .i64 0])∧Own w' 3 v G (lens.map i64)∧IsRd w' b F ds (p+(tableBits lens).length)∧Chg [b] w w'∧∀ x∈G,w.heap.size≤x:=by
 have hn1:=hf.n1
 have hn2:=hf.n2
 have hle:=hf.le
 have htb:=tableBits_eq lens
 have htl:=tableBits_len lens
 obtain ⟨T,hT⟩:∃ T,T=tableBits lens:=⟨_,rfl⟩
 rw [←hT] at ha htb htl ⊢
 obtain ⟨N,hN⟩:∃ N,N=lens.length:=⟨_,rfl⟩
 rw [←hN] at hn1 hn2 htb htl
 obtain ⟨N1,hN1⟩:∃ N1,N1=N-1:=⟨_,rfl⟩
 have eN:(N1:Int)+1=(N:Int):=by omega
 rw [←hN1] at htb
 have ha1:=ha
 rw [htb] at ha1
 have ha2:=ha1.right
 rw [bitsOf_len] at ha2
 have hbl:=h.lt b h.mem
 have hlt:=h.lt
 have hbF:=h.mem
 obtain ⟨bx,hbx⟩:∃ bx,bx=w.heap.size:=⟨_,rfl⟩
 obtain ⟨w1,hw1⟩:∃ w1,w1=w.alloc (.cells #[.pointer (some ⟨b,0,none⟩)] 66):=⟨_,rfl⟩
 obtain ⟨w2,hw2⟩:∃ w2,w2=w1.alloc (.cells #[.slice none 0 0,.int .i64 0] 59):=⟨_,rfl⟩
 have hbk1:Blk w1 bx 66 #[.pointer (some ⟨b,0,none⟩)]:=by rw [hw1,hbx];exact Blk.new w _ _
 have ch1:Chg [] w w1:=by rw [hw1];exact (Chg.refl [] w).alloc _
 have ch2:Chg [] w1 w2:=by rw [hw2];exact (Chg.refl [] w1).alloc _
 have hs1:w1.heap.size=bx+1:=by rw [hw1,hbx];simp
 have hwr2:IsWr w2 (bx+1) [bx+1] []:=by
  have:=IsWr.new w1
  rw [←hw2,hs1] at this
  exact this
 have hbk2:=hbk1.chg ch2 (by simp)
 have hr1:=h.same ch1
 have hr2:=hr1.same ch2
 have c2:=hbk2.cell 0
 simp at c2
 have c1:=hbk1.cell 0
 simp at c1
 have hseen:=seen_ok w2 b F ds p 10 N1 bx (bx+1) [bx+1] [] hr2 (by omega) (by omega) ha1.left hwr2 (by simp) c2 (by omega) (fun x hx hm=>by simp at hm;have:=hlt x hx;omega)
 have HF:=hid hf
 have HN:=hid hN
 have HT:=hid hT
 have HTB:=hid htb
 have HLE:=hid hle
 have HA:=hid ha2
 have HLT:=hid hlt
 have HW1:=hid hw1
 have HW2:=hid hw2
 have HBX:=hid hbx
 have HC2:=hid (ch1.trans_same ch2)
 have HS1:=hid hs1
 clear hN hT htb hle ha ha1 ha2 hlt hw1 hw2 hbx ch1 ch2 hN1 h hwr2 hf hs1 hbk1
 go_enter Tryz.func113,Tryz.ntmps113
 go_wp2_with fail
 rw [←HBX.out,←HW1.out]
 refine (err_ok w1 b F ds p hr1).mono ?_
 rintro e wx ⟨rfl,rfl⟩
 go_wp2_with fail
 rw [HS1.out,←HW2.out]
 refine hseen.mono ?_
 rintro e w3 ⟨rfl,hr3,FS3,hwr3,ch3,hFn3⟩
 rw [List.nil_append] at hwr3
 have hbw:b<bx:=by have:=HBX.out;omega
 have hbk3:=hbk2.chg ch3 (by simp;omega)
 have hs2:bx<w2.heap.size:=hbk2.lt
 have hFS3:∀ x∈FS3,bx<x:=fun x hx=>by
  rcases hFn3 x hx with h9 | h9
  ·simp at h9;omega
  ·omega
 have hC3:Chg [b] w w3:=(HC2.out.mono (by simp)).trans ch3 (fun x hx=>by simp at hx;rcases hx with hx | hx;left;simp [hx];right;have:=HBX.out;omega)
 have hbl0:(bitsOf N1 10).length=10:=bitsOf_len _ _
 clear hseen hr1 hr2 hbk2 c1 c2 ch3 hFn3 hs2
 go_wp2_with fail
 go_loopg [7,8] N (fun j vl va wr=>∃ (i p':Nat) (FS S G:List Nat),i≤N∧N≤i+j∧Own wr 3 vl G ((lens.take i).map i64)∧IsRd wr b F ds p'∧Hid (Ahead ds p' (bodyFrom lens i))∧Hid (p'+(bodyFrom lens i).length=p+T.length)∧IsWr wr (bx+1) FS S∧Hid (S++bodyFrom lens i=T)∧Blk wr bx 66 #[.pointer (some ⟨b,0,none⟩)]∧Hid (∀ x∈FS,bx<x)∧Hid (∀ x∈G,bx<x∧x∉FS)∧Hid (Chg [b] w wr))
 case atStart=>exact ⟨0,p+10,FS3,bitsOf N1 10,[],by omega,by omega,Own.nil _ _,hr3,HA,hid (by rw [HTB.out,zC,bitsOf_len];omega),hwr3,hid HTB.out.symm,hbk3,hid hFS3,hid (by simp),hid hC3⟩
 case round =>
  clear hr3 hwr3 hbk3 hFS3 hC3 hbl0
  obtain ⟨i,p',FS,S,G,hiN,hij,hown,hrd,HAh,HP,hwr,HS,hbk,HFS,HG,HCH⟩:=hrel
  have cx:=hbk.cell 0
  simp at cx
  have htk:(lens.take i).length=i:=by rw [List.length_take,←HN.out];omega
  obtain ⟨kd,hkd⟩:∃ kd,kd=lens.take i:=⟨_,rfl⟩
  rw [←hkd] at hown htk
  have HKD:=hid hkd
  clear hkd
  obtain ⟨Al,cl,rfl,hcl1,hcl2,hcells⟩:=hown.open_map
  rw [htk] at hcl1 ⊢
  have hown':=hown
  rw [htk] at hown'
  by_cases hi:N≤i
  ·obtain rfl:N=i:=by omega
   have t1:decide (N<N)=false:=by simp
   have e0:bodyFrom lens N=[]:=by rw [HN.out];exact bodyFrom_end lens
   have hp:=HP.out
   rw [e0,List.length_nil] at hp
   have hST:=HS.out
   rw [e0,List.append_nil] at hST
   subst hST
   have hkl:kd=lens:=by rw [HKD.out,HN.out,List.take_length]
   have HKL:=hid hkl
   have t2:((N:Int) != (N:Int))=false:=by simp
   have hcells':Cells i64 wr Al lens:=by rw [←hkl];exact hcells
   have hownL:=hown
   rw [hkl,←HN.out] at hownL
   obtain ⟨ab,hab⟩:∃ ab,ab=wr.heap.size:=⟨_,rfl⟩
   obtain ⟨w8,hw8⟩:∃ w8,w8=wr.alloc (.cells #[.slice none 0 0,.int .i64 0] 59):=⟨_,rfl⟩
   have ch8:Chg [] wr w8:=by rw [hw8];exact (Chg.refl [] wr).alloc _
   have hwa:IsWr w8 ab [ab] []:=by rw [hw8,hab];exact IsWr.new wr
   have hltS:=hwr.lt
   have hltG:=hown.lt
   have hapt:Apt Al lens [ab]:=hown.apt (fun x hx hm=>by simp at hm;have:=hltG x hx;omega)
   have hpt:=putTable_ok w8 ab [ab] [] lens Al cl hwa HF.out (hcells'.same ch8) hapt (by simp)
   rw [List.nil_append,←HT.out,←HN.out] at hpt
   have el:=err_ok wr b F ds p' hrd
   have HAB:=hid hab
   have HW8:=hid hw8
   have hrd8:=hrd.same ch8
   have hwr8:=hwr.same ch8
   have hown8:=hownL.same ch8
   have hch8:=HCH.out.trans ch8 (by simp)
   have hrlt:=hrd.lt
   have HP2:=hid hp
   clear e0 hkl hcells' hcells hown hown' hownL hab hw8 hwa hapt hp hbk hwr
   go_wp2_with (go_at_call 60;refine el.mono ?_;rintro e w' ⟨rfl,rfl⟩)
   rw [←HAB.out,←HW8.out]
   refine hpt.mono ?_
   rintro e w9 ⟨rfl,F9,hwr9,gr9⟩
   have hS9:=hwr8.chg gr9.chg (fun x hx hm=>by simp at hm;have:=hltS x hx;have:=HAB.out;omega)
   have hrd9:=hrd8.chg gr9.chg (fun x hx hm=>by simp at hm;have:=hrlt x hx;have:=HAB.out;omega)
   have hown9:=hown8.chg gr9.chg (fun x hx hm=>by simp at hm;have:=hltG x hx;have:=HAB.out;omega)
   have hch9:=hch8.trans gr9.chg (fun x hx => .inr (by simp at hx;have:=HAB.out;have:=HCH.out.size;omega))
   have hl1:=wlen_any w9 ab F9 S hwr9
   have hl2:=wlen_any w9 (bx+1) FS S hS9
   have hby1:=wbytes_ok w9 ab F9 S hwr9 (by omega)
   have hby2:=fun wz hz=>wbytes_ok wz (bx+1) FS S (hS9.same hz:IsWr wz (bx+1) FS S) (by omega)
   obtain ⟨sl,hsl⟩:∃ sl,sl=S.length:=⟨_,rfl⟩
   rw [←hsl] at hl1 hl2
   have t3:((sl:Int) != (sl:Int))=false:=by simp
   have HB2:=hid hby2
   clear hpt hrd8 hwr8 hown8 hch8 hwr9 hS9 gr9 hby2 hsl
   go_wp2_with fail
   refine hl1.mono ?_
   rintro e w' ⟨rfl,rfl⟩
   go_wp2_with fail
   refine hl2.mono ?_
   rintro e w' ⟨rfl,rfl⟩
   clear hl1 hl2
   go_wp2_with fail
   refine hby1.mono ?_
   rintro e w10 ⟨v10,G10,rfl,own10,ch10,hG10⟩
   obtain ⟨A10,c10,rfl,_,_,cl10⟩:=own10.open_map
   clear hby1
   go_wp2_with fail
   refine (HB2.out w10 ch10).mono ?_
   rintro e w11 ⟨v11,G11,rfl,own11,ch11,hG11⟩
   obtain ⟨A11,c11,rfl,_,_,cl11⟩:=own11.open_map
   have bin:∀ {wz:World} {A:Option Addr},Cells b8 wz A (packed S)→Lib.BytesIn wz A (packed S).length ((packed S).map Int.ofNat):=by
    intro wz A hc hn
    obtain ⟨g,o,e1,_,hcell⟩:=hc.ex hn
    refine ⟨g,o,e1,fun i hi => ?_⟩
    rw [hcell i _ (zF hi)]
    have e:((packed S).map Int.ofNat).getD i 0=((packed S)[i]:Nat):=by
     rw [zD,List.getElem?_map,zF hi]
     rfl
    rw [e]
    rfl
   have heq:=Tryz.bytes_Equal_all A10 A11 (packed S).length c10 (packed S).length c11 ((packed S).map Int.ofNat) ((packed S).map Int.ofNat) w11 (by simp) (by simp) (bin (cl10.same ch11)) (bin cl11)
   have et:(Lib.bytesOf ((packed S).map Int.ofNat)==Lib.bytesOf ((packed S).map Int.ofNat))=true:=by simp
   rw [et] at heq
   have hrd11:=(hrd9.same ch10).same ch11
   have hown11:=(hown9.same ch10).same ch11
   have hch11:=(hch9.trans ch10 (by simp)).trans ch11 (by simp)
   clear own10 own11 cl10 cl11 bin et ch10 ch11 hG10 hG11 hrd9 hown9 hch9
   go_wp2_with fail
   refine heq.mono ?_
   rintro e w' ⟨rfl,rfl⟩
   go_wp2
   go_ret2
   exact ⟨_,G,rfl,by rw [HN.out] at *; exact hown11,hrd11.cast HP2.out,hch11,fun x hx=>by have:=(HG.out x hx).1;have:=HBX.out;omega⟩
  ·rcases gk with _ | j
   ·exfalso;omega
   have hin:i<N:=by omega
   have hil:i<lens.length:=by rw [←HN.out];exact hin
   have t1:decide (i<N)=true:=zB hin
   have t1':decide ((i:Int)<(N:Int))=true:=zB (by omega)
   have hSl:S.length≤20000:=by
    have:=congrArg List.length HS.out
    rw [zC] at this
    omega
   have hdis:∀ x∈F,x∉FS:=fun x hx hm=>by have:=HLT.out x hx;have:=HFS.out x hm;have:=HBX.out;omega
   by_cases hz:zr 66 (lens.drop i)<3
   ·have hb1:=bodyFrom_one hil hz
    have hA1:=HAh.out
    rw [hb1] at hA1
    have hv24:lenAt lens i≤24:=by
     unfold lenAt
     rw [zD,zF hil]
     exact HLE.out _ (zG _)
    have htk2:=take_snoc' lens hil
    have hli:lens[i]=lenAt lens i:=by unfold lenAt;rw [zD,zF hil];rfl
    rw [hli] at htk2
    generalize lenAt lens i=v at *
    have hsn:=seen_ok wr b F ds p' 5 v bx (bx+1) FS S hrd (by omega) (by omega) hA1.left hwr (by omega) cx (by omega) hdis
    have HA2:=hid hA1.right
    have HB1:=hid hb1
    have HTK:=hid htk2
    have t2:((v:Int) != 31)=true:=by rw [bne_iff_ne];omega
    have hbkl:=hbk.lt
    have hel:=(err_ok wr b F ds p' hrd)
    clear hA1 hb1 htk2 hli hrd hwr
    go_wp2_with (go_at_call 60;refine hel.mono ?_;rintro e w' ⟨rfl,rfl⟩)
    refine hsn.mono ?_
    rintro e w4 ⟨rfl,hr4,FS4,hwr4,ch4,hF4⟩
    have hGlt:=hown.lt
    have own4:=hown'.chg ch4 (fun x hx hm=>by
     rcases List.mem_cons.1 hm with hm | hm
     ·have:=(HG.out x hx).1;omega
     ·exact (HG.out x hx).2 hm)
    have bk4:=hbk.chg ch4 (fun hm=>by
     rcases List.mem_cons.1 hm with hm | hm
     ·omega
     ·have:=HFS.out _ hm;omega)
    have cx4:=bk4.cell 0
    simp at cx4
    have hs4:=ch4.size
    have hFS4:∀ x∈FS4,bx<x:=fun x hx=>by
     rcases hF4 x hx with h9 | h9
     ·exact HFS.out x h9
     ·omega
    have hG4:∀ x∈G,bx<x∧x∉FS4:=fun x hx=>⟨(HG.out x hx).1,fun hm=>by
     rcases hF4 x hm with h9 | h9
     ·exact (HG.out x hx).2 h9
     ·have:=hGlt x hx;omega⟩
    have hC4:Chg [b] w w4:=HCH.out.trans ch4 (fun x hx=>by
     rcases List.mem_cons.1 hx with hx | hx
     ·left;simp [hx]
     ·right;have:=HFS.out x hx;have:=HBX.out;omega)
    have HGLT:=hid hGlt
    have HFS4:=hid hFS4
    have HG4:=hid hG4
    have HC4:=hid hC4
    have chX:Chg [] w4 (w4.alloc (.cells #[.int .i64 v] 3)):=(Chg.refl [] w4).alloc _
    have hel4:=own4.same chX
    clear hown hown' hcells hbk hF4 hGlt hFS4 hG4 hC4 ch4 hsn hel own4
    go_wp2_with (at_builtin;refine wpList_append_o1 rfl rfl int_elem rfl rfl hel4 (.int .i64 v) rfl ?c1 ?c2 ?c3 ?c4 ?_)
    case c1=>simp [go_sem]
    case c2=>rfl
    case c3=>rw [zE,htk];omega
    case c4=>rw [zE,htk];omega
    intro g2 cap2 w5 hr5 gr5
    obtain ⟨G5,hG5⟩:∃ G5,G5=[g2]:=⟨_,rfl⟩
    have hown5:=hr5.toOwn
    rw [←hG5] at gr5 hown5
    clear hr5 hG5
    have hlt4:=hwr4.lt
    go_wp2_with fail
    go_roundg j
    case measure=>omega
    case rel =>
     refine ⟨i+1,p'+5,FS4,S++bitsOf v 5,G5,by omega,by omega,?_,(hr4.same chX).chg gr5.chg (fun x hx hm=>by have:=HLT.out x hx;have:=(HG4.out x hm).1;have:=HBX.out;omega),HA2,hid ?_,(hwr4.same chX).chg gr5.chg (fun x hx hm=>(HG4.out x hm).2 hx),hid ?_,(bk4.chg chX (by simp)).chg gr5.chg (fun hm=>by have:=(HG4.out _ hm).1;omega),HFS4,hid ?_,hid ?_⟩
     ·rw [HTK.out,←HKD.out,List.map_append]
      exact hown5
     ·have:=HP.out
      rw [HB1.out] at this
      simp only [zC,bitsOf_len] at this
      omega
     ·rw [←HS.out,HB1.out]
      simp only [List.append_assoc]
     ·intro x hx
      rcases gr5.new x hx with h9 | h9
      ·exact HG4.out x h9
      ·have:=chX.size
       exact ⟨by omega,fun hm=>by have:=hlt4 x hm;omega⟩
     ·exact (HC4.out.trans chX (by simp)).trans gr5.chg (fun x hx => .inr (by have:=(HG4.out x hx).1;have:=HBX.out;omega))
   ·have hb1:=bodyFrom_many hil hz
    have hzl:=zr_len 66 (lens.drop i)
    have hzm:=zr_le 66 (lens.drop i)
    have htk2:=take_zeros lens i
    rw [List.length_drop,←HN.out] at hzl
    obtain ⟨z,hze⟩:∃ z,z=zr 66 (lens.drop i):=⟨_,rfl⟩
    rw [←hze] at hb1 hz hzl hzm htk2
    obtain ⟨z0,hz0⟩:∃ z0,z0=z-3:=⟨_,rfl⟩
    have ez:(z0:Int)+3=(z:Int):=by omega
    rw [←hz0] at hb1
    have hA1:=HAh.out
    rw [hb1] at hA1
    have hsn:=seen_ok wr b F ds p' 5 31 bx (bx+1) FS S hrd (by omega) (by omega) hA1.left hwr (by omega) cx (by omega) hdis
    have hA2:=hA1.right
    rw [bitsOf_len] at hA2
    have HAA:=hid hA2
    have HB1:=hid hb1
    have HTK:=hid htk2
    have t2:(((31:Nat):Int) != 31)=false:=rfl
    have hbkl:=hbk.lt
    have hel:=(err_ok wr b F ds p' hrd)
    clear hA1 hA2 hb1 htk2 hrd hwr hze hz0
    go_wp2_with (go_at_call 60;refine hel.mono ?_;rintro e w' ⟨rfl,rfl⟩)
    refine hsn.mono ?_
    rintro e w4 ⟨rfl,hr4,FS4,hwr4,ch4,hF4⟩
    have hGlt:=hown.lt
    have own4:=hown'.chg ch4 (fun x hx hm=>by
     rcases List.mem_cons.1 hm with hm | hm
     ·have:=(HG.out x hx).1;omega
     ·exact (HG.out x hx).2 hm)
    have bk4:=hbk.chg ch4 (fun hm=>by
     rcases List.mem_cons.1 hm with hm | hm
     ·omega
     ·have:=HFS.out _ hm;omega)
    have cx4:=bk4.cell 0
    simp at cx4
    have hs4:=ch4.size
    have hFS4:∀ x∈FS4,bx<x:=fun x hx=>by
     rcases hF4 x hx with h9 | h9
     ·exact HFS.out x h9
     ·omega
    have hG4:∀ x∈G,bx<x∧x∉FS4:=fun x hx=>⟨(HG.out x hx).1,fun hm=>by
     rcases hF4 x hm with h9 | h9
     ·exact (HG.out x hx).2 h9
     ·have:=hGlt x hx;omega⟩
    have hC4:Chg [b] w w4:=HCH.out.trans ch4 (fun x hx=>by
     rcases List.mem_cons.1 hx with hx | hx
     ·left;simp [hx]
     ·right;have:=HFS.out x hx;have:=HBX.out;omega)
    have HGLT:=hid hGlt
    have HFS4:=hid hFS4
    have HG4:=hid hG4
    have HC4:=hid hC4
    have hdis4:∀ x∈F,x∉FS4:=fun x hx hm=>by have:=HLT.out x hx;have:=HFS4.out x hm;have:=HBX.out;omega
    have hsn2:=seen_ok w4 b F ds (p'+5) 6 z0 bx (bx+1) FS4 (S++bitsOf 31 5) hr4 (by omega) (by omega) HAA.out.left hwr4 (by rw [zC,bitsOf_len];omega) cx4 (by omega) hdis4
    have HA2:=hid HAA.out.right
    have HOWN4:=hid own4
    have HBK4:=hid bk4
    have hbkl4:=bk4.lt
    have HGLT4:Hid (∀ x∈G,x<w4.heap.size):=hid own4.lt
    clear hown hown' hcells hbk hF4 hGlt hFS4 hG4 hC4 ch4 hsn hel own4 bk4 hr4 hwr4 hdis hdis4
    go_wp2_with fail
    refine hsn2.mono ?_
    rintro e w6 ⟨rfl,hr6,FS6,hwr6,ch6,hF6⟩
    have hGlt:=HOWN4.out.lt
    have own6:=HOWN4.out.chg ch6 (fun x hx hm=>by
     rcases List.mem_cons.1 hm with hm | hm
     ·have:=(HG4.out x hx).1;omega
     ·exact (HG4.out x hx).2 hm)
    have bk6:=HBK4.out.chg ch6 (fun hm=>by
     rcases List.mem_cons.1 hm with hm | hm
     ·omega
     ·have:=HFS4.out _ hm;omega)
    have cx6:=bk6.cell 0
    simp at cx6
    have hs6:=ch6.size
    have hFS6:∀ x∈FS6,bx<x:=fun x hx=>by
     rcases hF6 x hx with h9 | h9
     ·exact HFS4.out x h9
     ·omega
    have hG6:∀ x∈G,bx<x∧x∉FS6:=fun x hx=>⟨(HG4.out x hx).1,fun hm=>by
     rcases hF6 x hm with h9 | h9
     ·exact (HG4.out x hx).2 h9
     ·have:=hGlt x hx;omega⟩
    have hC6:Chg [b] w w6:=HC4.out.trans ch6 (fun x hx=>by
     rcases List.mem_cons.1 hx with hx | hx
     ·left;simp [hx]
     ·right;have:=HFS4.out x hx;have:=HBX.out;omega)
    have HGLTX:=hid hGlt
    have HFS6:=hid hFS6
    have HG6:=hid hG6
    have HC6:=hid hC6
    have chX:Chg [] w6 w6:=Chg.refl _ _
    have HOWN6:=hid own6
    clear hF6 hGlt hFS6 hG6 hC6 ch6 hsn2
    go_wp2_with (at_builtin;refine wpList_append_zeros rfl rfl int_elem rfl rfl Tryz.underlying3 rfl own6 z rfl ?c1 ?c2 ?c3 ?_)
    case c1=>omega
    case c2=>rw [zE,htk];omega
    case c3=>rw [zE,htk];omega
    intro v5 G5 w5 hown5 gr5
    have hlt6:=hwr6.lt
    go_wp2_with fail
    go_roundg j
    case measure=>omega
    case rel =>
     refine ⟨i+z,p'+5+6,FS6,S++bitsOf 31 5++bitsOf z0 6,G5,by omega,by omega,?_,(hr6.same chX).chg gr5.chg (fun x hx hm=>by have:=HLT.out x hx;have:=(HG6.out x hm).1;have:=HBX.out;omega),HA2,hid ?_,(hwr6.same chX).chg gr5.chg (fun x hx hm=>(HG6.out x hm).2 hx),hid ?_,(bk6.chg chX (by simp)).chg gr5.chg (fun hm=>by have:=(HG6.out _ hm).1;omega),HFS6,hid ?_,hid ?_⟩
     ·rw [HTK.out,←HKD.out,List.map_append]
      have:=hown5
      simpa [i64] using this
     ·have:=HP.out
      rw [HB1.out] at this
      simp only [zC,bitsOf_len] at this
      omega
     ·rw [←HS.out,HB1.out]
      simp only [List.append_assoc]
     ·intro x hx
      rcases gr5.new x hx with h9 | h9
      ·exact HG6.out x h9
      ·have:=chX.size
       exact ⟨by omega,fun hm=>by have:=hlt6 x hm;omega⟩
     ·exact (HC6.out.trans chX (by simp)).trans gr5.chg (fun x hx => .inr (by have:=(HG6.out x hx).1;have:=HBX.out;omega))
structure IsTab3 (w:World) (tb:Nat) (lens:List Nat) (kl kf ks:Nat) (C:Array Value) (vs:Nat→Value) (Fs:Nat→List Nat):Prop where
 blk:Blk w tb 223 C
 size:C.size=51
 long:C[0]?=some (.int .i64 (longTo lens kl:Nat))
 first:∀ n,n<25→C[1+n]?=some (.int .u64 (firstTo lens kf n:Nat))
 syms:∀ n,n<25→C[26+n]?=some (vs n)
 own:∀ n,n<25→Own w 3 (vs n) (Fs n) ((symsTo lens ks n).map i64)
 new:∀ n,∀ x∈Fs n,tb<x
 apart:∀ n m,n<25→m<25→n≠m→∀ x∈Fs n,x∉Fs m
abbrev IsTab (w:World) (tb:Nat) (lens:List Nat) (k:Nat) (C:Array Value) (vs:Nat→Value) (Fs:Nat→List Nat):Prop:=IsTab3 w tb lens k k k C vs Fs
variable {w:World} {tb:Nat} {lens:List Nat} {kl kf ks:Nat} {C:Array Value} {vs:Nat→Value} {Fs:Nat→List Nat}
theorem IsTab3.same (h:IsTab3 w tb lens kl kf ks C vs Fs) {w':World} (hc:Chg [] w w'):IsTab3 w' tb lens kl kf ks C vs Fs :=
 { h with blk:=h.blk.chg hc (by simp),own:=fun n hn=>(h.own n hn).same hc }
theorem IsTab3.chg (h:IsTab3 w tb lens kl kf ks C vs Fs) {w':World} {G:List Nat} (hc:Chg G w w') (hG:∀ x∈G,x<tb):IsTab3 w' tb lens kl kf ks C vs Fs :=
 { h with blk:=h.blk.chg hc (fun hm=>by have:=hG tb hm;omega),own:=fun n hn=>(h.own n hn).chg hc fun x hx hm=>by have:=h.new n x hx;have:=hG x hm;omega }
theorem IsTab3.first_new (h:IsTab3 w tb lens kl ks ks C vs Fs) {n:Nat} (hn:n<25) {wd:Nat}
  (hs:firstTo lens (ks+1) n=wd) (ho:∀ m,n≠m→firstTo lens (ks+1) m=firstTo lens ks m) :
  IsTab3 (w.setCell ⟨tb,1+n,none⟩ (.int .u64 wd)) tb lens kl (ks+1) ks (C.setIfInBounds (1+n) (.int .u64 wd)) vs Fs where
 blk:=h.blk.set_ _ _
 size:=by rw [Array.size_setIfInBounds];exact h.size
 long:=by rw [Array.getElem?_setIfInBounds,if_neg (by omega)];exact h.long
 first m hm:=by
  by_cases e:n=m
  ·subst e
   rw [Array.getElem?_setIfInBounds,if_pos rfl,if_pos (by rw [h.size];omega),hs]
  ·rw [Array.getElem?_setIfInBounds,if_neg (by omega),ho m e];exact h.first m hm
 syms m hm:=by rw [Array.getElem?_setIfInBounds,if_neg (by omega)];exact h.syms m hm
 own m hm:=(h.own m hm).far (fun hx=>by have:=h.new m _ hx;simp at this) _
 new:=h.new
 apart:=h.apart
theorem IsTab3.first_old (h:IsTab3 w tb lens kl ks ks C vs Fs) (ho:∀ m,firstTo lens (ks+1) m=firstTo lens ks m) :
  IsTab3 w tb lens kl (ks+1) ks C vs Fs:={ h with first:=fun m hm=>by rw [ho];exact h.first m hm }
theorem IsTab3.long_new (h:IsTab3 w tb lens kl kf ks C vs Fs) {n k:Nat} (hs:longTo lens k=n) :
  IsTab3 (w.setCell ⟨tb,0,none⟩ (.int .i64 n)) tb lens k kf ks (C.setIfInBounds 0 (.int .i64 n)) vs Fs where
 blk:=h.blk.set_ _ _
 size:=by rw [Array.size_setIfInBounds];exact h.size
 long:=by rw [Array.getElem?_setIfInBounds,if_pos rfl,if_pos (by rw [h.size];omega),hs]
 first m hm:=by rw [Array.getElem?_setIfInBounds,if_neg (by omega)];exact h.first m hm
 syms m hm:=by rw [Array.getElem?_setIfInBounds,if_neg (by omega)];exact h.syms m hm
 own m hm:=(h.own m hm).far (fun hx=>by have:=h.new m _ hx;simp at this) _
 new:=h.new
 apart:=h.apart
theorem IsTab3.syms_new (h:IsTab3 w tb lens kl kf ks C vs Fs) {n:Nat} (hn:n<25) {w':World} {g:Nat} {v:Value} {s:Nat}
  (hg:Grow (Fs n) [g] w w') (ht:tb<w.heap.size) (hr:Own w' 3 v [g] ((symsTo lens ks n).map i64++[i64 s]))
  (hs:symsTo lens (ks+1) n=symsTo lens ks n++[s]) (ho:∀ m,n≠m→symsTo lens (ks+1) m=symsTo lens ks m) :
  IsTab3 (w'.setCell ⟨tb,26+n,none⟩ v) tb lens kl kf (ks+1) (C.setIfInBounds (26+n) v) (fun m=>if m=n then v else vs m) (fun m=>if m=n then [g] else Fs m):=by
 have htF:tb∉Fs n:=fun hm=>by have:=h.new n _ hm;omega
 have hgt:tb<g:=by
  rcases hg.new g (by simp) with h1 | h1
  ·exact h.new n _ h1
  ·omega
 have hgo:∀ m,m<25→m≠n→∀ x∈Fs m,x≠g:=fun m hm hmn x hx he=>by
  subst he
  rcases hg.new x (by simp) with h1 | h1
  ·exact h.apart m n hm hn hmn x hx h1
  ·have:=(h.own m hm).lt x hx;omega
 refine ⟨(h.blk.chg hg.chg htF).set_ _ _,by rw [Array.size_setIfInBounds];exact h.size,by rw [Array.getElem?_setIfInBounds,if_neg (by omega)];exact h.long,fun m hm=>by rw [Array.getElem?_setIfInBounds,if_neg (by omega)];exact h.first m hm,fun m hm => ?_,fun m hm => ?_,fun m x hx => ?_,fun a b ha hb hab x hx hx' => ?_⟩
 ·rw [Array.getElem?_setIfInBounds]
  by_cases e:m=n
  ·subst e;rw [if_pos rfl,if_pos (by rw [h.size];omega),if_pos rfl]
  ·rw [if_neg (by omega),if_neg e];exact h.syms m hm
 ·by_cases e:m=n
  ·subst e
   simp only [if_pos rfl]
   rw [hs,List.map_append]
   exact hr.far (by simp;omega) _
  ·simp only [if_neg e]
   rw [ho m (fun hh=>e hh.symm)]
   refine ((h.own m hm).chg hg.chg fun x hx hm'=>h.apart m n hm hn e x hx hm').far (fun hx=>by have:=h.new m _ hx;simp at this) _
 ·by_cases e:m=n
  ·rw [if_pos e] at hx;simp at hx;omega
  ·rw [if_neg e] at hx;exact h.new m x hx
 ·by_cases e:a=n
  ·rw [if_pos e] at hx
   rw [if_neg (fun hh=>hab (e.trans hh.symm))] at hx'
   simp at hx
   exact hgo b hb (fun hh=>hab (e.trans hh.symm)) x hx' hx
  ·rw [if_neg e] at hx
   by_cases e2:b=n
   ·rw [if_pos e2] at hx'
    simp at hx'
    exact hgo a ha e x hx hx'
   ·rw [if_neg e2] at hx'
    exact h.apart a b ha hb hab x hx hx'
def tab0:Array Value:=#[.int .i64 0,.int .u64 0,.int .u64 0,.int .u64 0,.int .u64 0,.int .u64 0,.int .u64 0,.int .u64 0,.int .u64 0,.int .u64 0,.int .u64 0,.int .u64 0,.int .u64 0,.int .u64 0,.int .u64 0,.int .u64 0,.int .u64 0,.int .u64 0,.int .u64 0,.int .u64 0,.int .u64 0,.int .u64 0,.int .u64 0,.int .u64 0,.int .u64 0,.int .u64 0,.slice none 0 0,.slice none 0 0,.slice none 0 0,.slice none 0 0,.slice none 0 0,.slice none 0 0,.slice none 0 0,.slice none 0 0,.slice none 0 0,.slice none 0 0,.slice none 0 0,.slice none 0 0,.slice none 0 0,.slice none 0 0,.slice none 0 0,.slice none 0 0,.slice none 0 0,.slice none 0 0,.slice none 0 0,.slice none 0 0,.slice none 0 0,.slice none 0 0,.slice none 0 0,.slice none 0 0,.slice none 0 0]
theorem tab0_eq:tab0=(Value.int .i64 0::(List.replicate 25 (Value.int .u64 0)++List.replicate 25 (Value.slice none 0 0))).toArray:=rfl
theorem tab_new (w:World) (lens:List Nat):IsTab (w.alloc (.cells tab0 223)) w.heap.size lens 0 tab0 (fun _ => .slice none 0 0) (fun _=>[]):=by
 refine ⟨Blk.new w _ _,rfl,rfl,fun n hn => ?_,fun n hn => ?_,fun n _ => ?_,fun _ x hx=>by simp at hx,fun _ _ _ _ _ x hx=>by simp at hx⟩
 ·have e:firstTo lens 0 n=0:=by simp [firstTo,symsTo]
  rw [e,tab0_eq,List.getElem?_toArray,Nat.add_comm,List.getElem?_cons_succ,List.getElem?_append_left (by simpa using hn),List.getElem?_replicate,if_pos hn]
  rfl
 ·rw [tab0_eq,List.getElem?_toArray,show 26+n=(25+n)+1 by omega,List.getElem?_cons_succ,List.getElem?_append_right (by simp),List.length_replicate,show 25+n-25=n by omega,List.getElem?_replicate,if_pos hn]
 ·have e:symsTo lens 0 n=[]:=by simp [symsTo]
  rw [e]
  exact Own.nil _ _
theorem list_ok (lens : List Nat) (A B : Option Addr) (ca cb : Nat) (w : World) (hf : FullL lens) (hA : Cells i64 w A lens) (hB : Cells u64v w B (wordsL lens)) (hBl : (wordsL lens).length = lens.length) :
    Calls Tryz.prog 162 #[.slice A lens.length ca,.slice B (wordsL lens).length cb] w fun e w'=>∃ tb C vs Fs,e=.returned (.pointer (some ⟨tb,0,none⟩))∧IsTab w' tb lens (rankL lens).length C vs Fs∧Chg [] w w'∧w.heap.size≤tb:=by
  have hrk:=fun wz hc=>ranked_ok lens A ca wz hf.n2 hc
  have hrl:=rank_len lens 24
  have hrl':(rankL lens).length≤lens.length:=hrl
  have hn2:=hf.n2
  rw [hBl]
  obtain ⟨N,hN⟩:∃ N,N=lens.length:=⟨_,rfl⟩
  rw [←hN] at hrk hrl' hn2 hBl ⊢
  obtain ⟨M,hM⟩:∃ M,M=(rankL lens).length:=⟨_,rfl⟩
  rw [←hM] at hrl' ⊢
  have HN:=hid hN
  have HM:=hid hM
  have HBL:=hid hBl
  have HA:=hid hA
  have HB:=hid hB
  have HRK:=hid hrk
  have HF:=hid hf
  clear hN hM hBl hA hB hrk hrl hf
  go_enter Tryz.func162,Tryz.ntmps162
  go_wp2_with fail
  obtain ⟨tb,htb⟩:∃ tb,tb=w.heap.size:=⟨_,rfl⟩
  obtain ⟨w1,hw1⟩:∃ w1,w1=w.alloc (.cells tab0 223):=⟨_,rfl⟩
  have ht1:IsTab w1 tb lens 0 tab0 (fun _ => .slice none 0 0) (fun _=>[]):=by rw [hw1,htb];exact tab_new w lens
  have ch1:Chg [] w w1:=by rw [hw1];exact (Chg.refl [] w).alloc _
  have HTB:=hid htb
  have HW1:=hid hw1
  have hw1':Hid (w1=w.alloc (.cells #[.int .i64 0,.int .u64 0,.int .u64 0,.int .u64 0,.int .u64 0,.int .u64 0,.int .u64 0,.int .u64 0,.int .u64 0,.int .u64 0,.int .u64 0,.int .u64 0,.int .u64 0,.int .u64 0,.int .u64 0,.int .u64 0,.int .u64 0,.int .u64 0,.int .u64 0,.int .u64 0,.int .u64 0,.int .u64 0,.int .u64 0,.int .u64 0,.int .u64 0,.int .u64 0,.slice none 0 0,.slice none 0 0,.slice none 0 0,.slice none 0 0,.slice none 0 0,.slice none 0 0,.slice none 0 0,.slice none 0 0,.slice none 0 0,.slice none 0 0,.slice none 0 0,.slice none 0 0,.slice none 0 0,.slice none 0 0,.slice none 0 0,.slice none 0 0,.slice none 0 0,.slice none 0 0,.slice none 0 0,.slice none 0 0,.slice none 0 0,.slice none 0 0,.slice none 0 0,.slice none 0 0,.slice none 0 0] 223)):=hid hw1
  clear hw1 htb
  rw [←HTB.out,←hw1'.out]
  refine (HRK.out w1 (HA.out.same ch1)).mono ?_
  rintro e w2 ⟨v2,F2,rfl,own2,ch2,hF2⟩
  obtain ⟨Ar,cr,rfl,hcr1,hcr2,hcr⟩:=own2.open_map
  rw [←HM.out]
  have hbl1:=ht1.blk.lt
  have hA2:=(HA.out.same ch1).same ch2
  have hB2:=(HB.out.same ch1).same ch2
  have ht2:IsTab w2 tb lens 0 tab0 (fun _ => .slice none 0 0) (fun _=>[]):=ht1.same ch2
  have hch2:=hid (ch1.trans_same ch2)
  have hapA:Apt A lens [tb]:=Apt.fresh HA.out (F:=[tb]) (by simp;exact Nat.le_of_eq HTB.out.symm)
  have hapB:Apt B (wordsL lens) [tb]:=Apt.fresh HB.out (F:=[tb]) (by simp;exact Nat.le_of_eq HTB.out.symm)
  have hapR:Apt Ar (rankL lens) [tb]:=own2.apt (fun x hx hm=>by have:=hF2 x hx;simp at hm;omega)
  have HAP:=hid (And.intro hapA (And.intro hapB hapR))
  have HCA:=hid hA2
  have HCB:=hid hB2
  have HCR:=hid hcr
  have htb2:tb<w2.heap.size:=by have:=ch2.size;omega
  clear hbl1 ht1 ch1 ch2 own2 hF2 hcr1 hcr2 hA2 hB2 hcr hapA hapB hapR
  go_wp2_with fail
  go_loopg [7,8,14] M (fun j va vb iv wr=>∃ (k:Nat) (C:Array Value) (vs:Nat→Value) (Fs:Nat→List Nat),iv=.int .i64 k∧k+j=M∧Hid (IsTab wr tb lens k C vs Fs)∧Hid (Chg [tb] w2 wr)∧Hid (∀ n,∀ x∈Fs n,w2.heap.size≤x))
  case atStart=>exact ⟨0,tab0,_,_,rfl,by omega,hid ht2,hid (Chg.refl _ _),hid (by simp)⟩
  case round =>
    clear ht2
    obtain ⟨k,C,vs,Fs,rfl,hkj,HT,HCH,HFs⟩:=hrel
    rcases gk with _ | j
    · obtain rfl:M=k:=by omega
      have u1:decide (M<M)=false:=by simp
      have u1':decide ((M:Int)<(M:Int))=false:=by simp
      go_wp2_with fail
      go_ret
      exact ⟨tb,C,vs,Fs,rfl,HT.out,hch2.out.trans HCH.out (fun x hx => .inr (by simp at hx;have:=HTB.out;omega)),by have:=HTB.out;omega⟩
    · have hkM:k<M:=by omega
      have hkR:k<(rankL lens).length:=by rw [←HM.out];exact hkM
      have u1:decide (k<M)=true:=zB hkM
      have u1':decide ((k:Int)<(M:Int))=true:=zB (by omega)
      obtain ⟨hs0,hs24,hsN⟩:=rank_lenAt hkR
      have hget:(rankL lens)[k]=(rankL lens).getD k 0:=by rw [zD,zF hkR];rfl
      have hss:=fun n=>symsTo_succ hkR n
      have hso:=fun n hn=>symsTo_other (n:=n) hkR hn
      have hsm:=symsTo_same hkR rfl
      have hfo:=fun n hn=>firstTo_other (n:=n) hkR hn
      have hfn:=fun he=>firstTo_new hkR rfl he
      have hfold:=fun he=>firstTo_old hkR rfl he
      have hlo:longTo lens (k+1)=lenAt lens ((rankL lens).getD k 0):=rfl
      obtain ⟨gr,ogr,rfl,hc1⟩:=(HCR.out.keep HAP.out.2.2 HCH.out).at_ hkR
      rw [hget] at hc1
      obtain ⟨s,hs⟩:∃ s,s=(rankL lens).getD k 0:=⟨_,rfl⟩
      rw [←hs] at hs0 hs24 hsN hso hsm hfo hfn hfold hlo hc1
      obtain ⟨n,hn⟩:∃ n,n=lenAt lens s:=⟨_,rfl⟩
      rw [←hn] at hs0 hs24 hso hsm hfo hfn hfold hlo
      obtain ⟨ga,oa,rfl,hc2⟩:=(HCA.out.keep HAP.out.1 HCH.out).at_ hsN
      have hls:lens[s]=n:=by rw [hn];unfold lenAt;rw [zD,zF hsN];rfl
      rw [hls] at hc2
      have hsW:s<(wordsL lens).length:=by rw [HBL.out,HN.out];exact hsN
      obtain ⟨gw,ow,rfl,hc3⟩:=(HCB.out.keep HAP.out.2.1 HCH.out).at_ hsW
      have hws:(wordsL lens)[s]=wordOf lens s:=by unfold wordOf;rw [zD,zF hsW];rfl
      rw [hws] at hc3
      obtain ⟨wd,hwd⟩:∃ wd,wd=wordOf lens s:=⟨_,rfl⟩
      rw [←hwd] at hc3 hfn
      have d1:wr.cell? ⟨gr,ogr+k,none⟩=some (.int .i64 s):=hc1
      have d2:wr.cell? ⟨ga,oa+s,none⟩=some (.int .i64 n):=hc2
      have d3:wr.cell? ⟨gw,ow+s,none⟩=some (.int .u64 wd):=hc3
      have hn25:n<25:=by omega
      have hblk:=HT.out.blk
      have d4:wr.cell? ⟨tb,26+n,none⟩=some (vs n):=by rw [hblk.cell];exact HT.out.syms n hn25
      have hown:=HT.out.own n hn25
      have hsl:=symsTo_len lens k n
      have hNN:=HN.out
      obtain ⟨Av,cv,hvs,hcv1,hcv2,hcvc⟩:=hown.open_map
      obtain ⟨q,hq⟩:∃ q,q=(symsTo lens k n).length:=⟨_,rfl⟩
      rw [←hq] at hvs hcv1 hsl
      have hq2:q≤1024:=by rw [←hNN] at hsl;omega
      rw [hvs] at d4
      have hsN':s<N:=by omega
      have HSS:=hid (And.intro hso (And.intro hsm (And.intro hfo (And.intro hfn (And.intro hfold hlo)))))
      have HQ:=hid hq
      have HVS:=hid hvs
      have HBK:=hid hblk
      have HSN:=hid (And.intro hs hn)
      clear hc1 hc2 hc3 hget hss hso hsm hfo hfn hfold hlo hs hn hls hws hwd hsW hsN hkR hq hvs hcvc hNN
      have hchW:=HCH.out
      have hf7:=hblk.frozen (1+n)
      have hf8:=hblk.frozen (26+n)
      have hc7:wr.cell? ⟨tb,1+n,none⟩=some (.int .u64 (firstTo lens k n:Int)):=by rw [hblk.cell];exact HT.out.first n hn25
      by_cases hq0:q=0
      · subst hq0
        go_wp2_with fail
        refine wp_region_quiet_tail 9 (by kernel_rfl) (by kernel_rfl) ?_
        simp only [List.take_succ_cons,List.take_zero,List.drop_succ_cons,List.drop_zero]
        repeat (go_big_quiet_step (fail))
        refine wpQuiet_nil ?_
        intro _ hw'
        obtain ⟨nq,rfl⟩:=hw'
        go_wp2_with fail
        obtain ⟨ho,hsm,hfo,hfn,hfold,hlo⟩:=HSS.out
        have he:symsTo lens k n=[]:=List.eq_nil_of_length_eq_zero HQ.out.symm
        have ht1:=(HT.out.same ((Chg.refl [] wr).drewN nq)).first_new hn25 (hfn he) (fun m e=>hfo m e)
        have hcq:Chg [tb] w2 ((wr.drewN nq).setCell ⟨tb,1+n,none⟩ (.int .u64 wd)):=(hchW.drewN nq).setCell (.inl (by simp)) _
        generalize (wr.drewN nq).setCell ⟨tb,1+n,none⟩ (.int .u64 wd)=wq at ht1 hcq ⊢
        generalize C.setIfInBounds (1+n) (.int .u64 wd)=C1 at ht1
        have hvn:=HVS.out
        have hn25i:(n:Int)<25:=by omega
        have hownq:=ht1.own n hn25
        rw [hvn] at hownq
        have hbq:=ht1.blk
        have hsy:=ht1.syms n hn25
        rw [hvn] at hsy
        have htq:=hbq.lt
        have n0:wq.cell? ⟨tb,26+n,none⟩=some (.slice Av 0 cv):=by rw [hbq.cell];exact hsy
        have htF:tb∉Fs n:=fun hm=>by have:=ht1.new n _ hm;omega
        have n1:(wq.alloc (.cells #[.int .i64 s] 3)).cell? ⟨tb,26+n,none⟩=some (.slice Av 0 cv):=by rw [(hbq.alloc _).cell];exact hsy
        have hlen:(List.map i64 (symsTo lens k n)).length=0:=by rw [zE];exact HQ.out.symm
        clear hsl hchW hc7 hf7 hf8 hcv1 hcv2 d1 d2 d3 d4 HCR HCA HCB HA HB HRK HF HBL HAP HT hblk HBK hown
        go_region_law (refine step_append_o1 (by rfl) (by rfl) int_elem (by rfl) (by rfl) ((hownq.alloc (.cells #[.int .i64 (s : Int)] 3)).drew) (.int .i64 (s : Int)) (by rfl) (by simp [go_sem]) (by rfl) (by rw [hlen]; omega) (by rw [hlen]; omega) ?_; intro g2 cap2 w3 hr2 gr2; have hbb := ((hbq.alloc (.cells #[.int .i64 (s : Int)] 3)).drew).chg gr2.chg htF; have y1 : w3.cell? ⟨tb, 26 + n, none⟩ = some (.slice Av 0 cv) := by rw [hbb.cell]; exact hsy
                       have z1:=hbb.frozen (26+n);rw [hlen])
        all_goals
          have y0:w3.cell? ⟨tb,0,none⟩=some (.int .i64 (longTo lens k:Int)):=by rw [hbb.cell];exact ht1.long
          have z0:=hbb.frozen 0
          go_wp2_with fail
          rw [hlen] at hr2
          go_roundg j
          case measure=>omega
          case rel =>
            obtain ⟨ho,hsm,hfo,hfn,hfold,hlo⟩:=HSS.out
            have hsz:tb<(wq.alloc (.cells #[.int .i64 s] 3)).drew.heap.size:=((hbq.alloc (.cells #[.int .i64 s] 3)).drew).lt
            have ht3:=(((ht1.same (((Chg.refl [] wq).alloc (.cells #[.int .i64 s] 3)).drew)).syms_new hn25 gr2 hsz hr2.toOwn hsm ho).long_new hlo)
            have ch3:Chg [tb] w2 w3:=(hcq.alloc (.cells #[.int .i64 s] 3)).drew.trans gr2.chg (fun x hx => .inr (HFs.out n x hx))
            refine ⟨k+1,_,_,_,by go_num,by omega,hid ht3,hid ((ch3.setCell (.inl (by simp)) _).setCell (.inl (by simp)) _),hid ?_⟩
            intro m x hx
            by_cases e:m=n
            · rw [if_pos e] at hx
              have hx':x=g2:=by simpa using hx
              subst hx'
              rcases gr2.new x (by simp) with h1 | h1
              · exact HFs.out n x h1
              · exact Nat.le_trans ((hcq.alloc (.cells #[.int .i64 s] 3)).drew.size) h1
            · rw [if_neg e] at hx
              exact HFs.out m x hx
      · have u2:((q:Int)==0)=false:=by rw [beq_eq_false_iff_ne];omega
        go_wp2_with fail
        obtain ⟨ho,hsm,hfo,hfn,hfold,hlo⟩:=HSS.out
        have he:symsTo lens k n≠[]:=fun hh=>hq0 (by rw [HQ.out,hh];rfl)
        have ht1:=HT.out.first_old (fun m=>by
          by_cases e:n=m
          · subst e;exact hfold he
          · exact hfo m e)
        have hcq:Chg [tb] w2 wr:=hchW
        generalize wr=wq at ht1 hcq ⊢
        generalize C=C1 at ht1
        have hvn:=HVS.out
        have hn25i:(n:Int)<25:=by omega
        have hownq:=ht1.own n hn25
        rw [hvn] at hownq
        have hbq:=ht1.blk
        have hsy:=ht1.syms n hn25
        rw [hvn] at hsy
        have htq:=hbq.lt
        have n0:wq.cell? ⟨tb,26+n,none⟩=some (.slice Av q cv):=by rw [hbq.cell];exact hsy
        have htF:tb∉Fs n:=fun hm=>by have:=ht1.new n _ hm;omega
        have n1:(wq.alloc (.cells #[.int .i64 s] 3)).cell? ⟨tb,26+n,none⟩=some (.slice Av q cv):=by rw [(hbq.alloc _).cell];exact hsy
        have hlen:(List.map i64 (symsTo lens k n)).length=q:=by rw [zE];exact HQ.out.symm
        clear hsl hchW hc7 hf7 hf8 hcv1 hcv2 d1 d2 d3 d4 HCR HCA HCB HA HB HRK HF HBL HAP HT hblk HBK hown
        go_region_law (refine step_append_o1 (by rfl) (by rfl) int_elem (by rfl) (by rfl) ((hownq.alloc (.cells #[.int .i64 (s : Int)] 3)).drew) (.int .i64 (s : Int)) (by rfl) (by simp [go_sem]) (by rfl) (by rw [hlen]; omega) (by rw [hlen]; omega) ?_; intro g2 cap2 w3 hr2 gr2; have hbb := ((hbq.alloc (.cells #[.int .i64 (s : Int)] 3)).drew).chg gr2.chg htF; have y1 : w3.cell? ⟨tb, 26 + n, none⟩ = some (.slice Av q cv) := by rw [hbb.cell]; exact hsy
                       have z1:=hbb.frozen (26+n);rw [hlen])
        all_goals
          have y0:w3.cell? ⟨tb,0,none⟩=some (.int .i64 (longTo lens k:Int)):=by rw [hbb.cell];exact ht1.long
          have z0:=hbb.frozen 0
          go_wp2_with fail
          rw [hlen] at hr2
          go_roundg j
          case measure=>omega
          case rel =>
            obtain ⟨ho,hsm,hfo,hfn,hfold,hlo⟩:=HSS.out
            have hsz:tb<(wq.alloc (.cells #[.int .i64 s] 3)).drew.heap.size:=((hbq.alloc (.cells #[.int .i64 s] 3)).drew).lt
            have ht3:=(((ht1.same (((Chg.refl [] wq).alloc (.cells #[.int .i64 s] 3)).drew)).syms_new hn25 gr2 hsz hr2.toOwn hsm ho).long_new hlo)
            have ch3:Chg [tb] w2 w3:=(hcq.alloc (.cells #[.int .i64 s] 3)).drew.trans gr2.chg (fun x hx => .inr (HFs.out n x hx))
            refine ⟨k+1,_,_,_,by go_num,by omega,hid ht3,hid ((ch3.setCell (.inl (by simp)) _).setCell (.inl (by simp)) _),hid ?_⟩
            intro m x hx
            by_cases e:m=n
            · rw [if_pos e] at hx
              have hx':x=g2:=by simpa using hx
              subst hx'
              rcases gr2.new x (by simp) with h1 | h1
              · exact HFs.out n x h1
              · exact Nat.le_trans ((hcq.alloc (.cells #[.int .i64 s] 3)).drew.size) h1
            · rw [if_neg e] at hx
              exact HFs.out m x hx
theorem div_step {W j y:Nat} (h:W / 2^j%2=y):2*(W / 2^(j+1))+y=W / 2^j:=by
 rw [Nat.pow_succ,←Nat.div_div_eq_div_mul]
 omega
theorem tread_ok (w:World) (b:Nat) (F ds:List Nat) (p:Nat) (lens:List Nat) (s tb:Nat) (C:Array Value) (vs:Nat→Value) (Fs:Nat→List Nat) (h:IsRd w b F ds p) (hf:FullL lens) (hs:0<lenAt lens s)
  (ht:IsTab w tb lens (fullK lens) C vs Fs) (hb:b<tb) (ha:Ahead ds p (symBits lens s)) :
  Calls Tryz.prog 163 #[.pointer (some ⟨tb,0,none⟩),.pointer (some ⟨b,0,none⟩)] w fun e w'=>e=.returned (.tuple #[.int .i64 s,.int .i64 0])∧IsRd w' b F ds (p+lenAt lens s)∧Chg [b] w w':=by
 have hle:=hf.le
 have hlo:=long_full hle hs
 have hW:=wordOf_lt hf hs
 have hpass:=fun n h0 hn=>read_pass hle (s:=s) (n:=n) hs h0 hn
 have hhit:=read_hit hle hs
 have hal:=ha.le h.at_le
 unfold symBits at ha hal
 rw [bitsOf_len] at hal
 have hn2:=hf.n2
 obtain ⟨L,hL⟩:∃ L,L=lenAt lens s:=⟨_,rfl⟩
 rw [←hL] at hs hlo hW hpass hhit ha hal ⊢
 obtain ⟨W,hWW⟩:∃ W,W=wordOf lens s:=⟨_,rfl⟩
 rw [←hWW] at hW hpass hhit ha
 obtain ⟨K,hK⟩:∃ K,K=fullK lens:=⟨_,rfl⟩
 rw [←hK] at hlo hpass hhit ht
 obtain ⟨lo,hloe⟩:∃ lo,lo=longTo lens K:=⟨_,rfl⟩
 have hL24:L≤24:=by omega
 have hW24:W<16777216:=Nat.lt_of_lt_of_le hW (show 2^L≤2^24 from Nat.pow_le_pow_right (by decide) hL24)
 have HLO:=hid hloe
 rw [←hloe] at hlo
 have HP:=hid hpass
 have HH:=hid hhit
 have HA:=hid ha
 have HW:=hid hW
 have HT:=hid ht
 clear hle hpass hhit ha ht hL hWW hK hloe hf
 go_enter Tryz.func163,Tryz.ntmps163
 go_wp2_with fail
 go_loopg [6,7,8] (L-1) (fun j va vb vc wr=>∃ n:Nat,0<n∧n+j=L∧vb=.int .i64 n∧va=.int .u64 (W / 2^(j+1):Nat)∧IsRd wr b F ds (p+(n-1))∧Hid (Chg [b] w wr))
 case atStart =>
  refine ⟨1,by omega,by omega,rfl,?_,h,hid (Chg.refl _ _)⟩
  rw [show L-1+1=L by omega,Nat.div_eq_of_lt HW.out]
  rfl
 case round =>
  obtain ⟨n,hn0,hnj,rfl,rfl,hrd,HCH⟩:=hrel
  obtain ⟨j,hj⟩:∃ j,j=gk:=⟨_,rfl⟩
  have HT1:=hid (HT.out.chg HCH.out (fun x hx=>by simp at hx;omega))
  have d0:wr.cell? ⟨tb,0,none⟩=some (.int .i64 lo):=by rw [HT1.out.blk.cell,HLO.out];exact HT1.out.long
  have u1:decide ((n:Int)≤(lo:Int))=true:=zB (by omega)
  have hget:=rget_ok wr b F ds (p+(n-1)) 1 hrd (by omega) (by omega)
  have hbit:=bitAt_lt ds (p+(n-1))
  have hby:W / 2^gk%2=bitAt ds (p+(n-1)):=by
   have h1:=HA.out.get (bitsOf_get W L (n-1) (by omega))
   rw [show L-1-(n-1)=gk by omega] at h1
   exact h1.symm
  rw [show rdNum ds (p+(n-1)) 1=bitAt ds (p+(n-1)) by simp [rdNum],show p+(n-1)+1=p+n by omega] at hget
  have hst:=div_step hby
  obtain ⟨y,hy⟩:∃ y,y=bitAt ds (p+(n-1)):=⟨_,rfl⟩
  rw [←hy] at hget hbit hst
  obtain ⟨v,hv⟩:∃ v,v=W / 2^(gk+1):=⟨_,rfl⟩
  obtain ⟨v1,hv1⟩:∃ v1,v1=W / 2^gk:=⟨_,rfl⟩
  have hv24:v<16777216:=by rw [hv];exact Nat.lt_of_le_of_lt (Nat.div_le_self _ _) hW24
  have hv124:v1<16777216:=by rw [hv1];exact Nat.lt_of_le_of_lt (Nat.div_le_self _ _) hW24
  rw [←hv] at hst ⊢
  rw [←hv1] at hst
  have hor:bits BinOp.or IntKind.u64 ((v:Int)*2) (y:Int)=(v1:Int):=by
   have:=bor_u64_bit (v:=v) (b:=y) (by omega) hbit
   rw [hst] at this
   rw [←this]
   congr 1
   omega
  have HV1:=hid hv1
  clear hby hst hy hv hv1 hj
  go_wp2_with fail
  refine hget.mono ?_
  rintro e w1 ⟨rfl,hr1,ch1⟩
  clear hget
  have herr:=err_ok w1 b F ds _ hr1
  have ht1:=HT1.out.chg ch1 (fun x hx=>by simp at hx;omega)
  have hch1:=hid (HCH.out.trans ch1 (fun x hx => .inl hx))
  have hn25:n<25:=by omega
  have hn25i:(n:Int)<25:=by omega
  obtain ⟨fi,hfi⟩:∃ fi,fi=firstTo lens K n:=⟨_,rfl⟩
  have d1:w1.cell? ⟨tb,1+n,none⟩=some (.int .u64 fi):=by rw [ht1.blk.cell,hfi];exact ht1.first n hn25
  have d2:w1.cell? ⟨tb,26+n,none⟩=some (vs n):=by rw [ht1.blk.cell];exact ht1.syms n hn25
  obtain ⟨Av,cv,hvs,-,-,hcv⟩:=(ht1.own n hn25).open_map
  have hsl:=symsTo_len lens K n
  obtain ⟨q,hq⟩:∃ q,q=(symsTo lens K n).length:=⟨_,rfl⟩
  rw [←hq] at hvs hsl
  rw [hvs] at d2
  have hq2:q≤1024:=by omega
  have HQ:=hid hq
  have HFI:=hid hfi
  have HCV:=hid hcv
  clear hsl hq hfi hcv hvs ht1 HT1 hrd d0
  go_wp2_with fail
  refine herr.mono ?_
  rintro e w1' ⟨rfl,rfl⟩
  clear herr
  rcases gk with _ | j
  ·obtain rfl:n=L:=by omega
   obtain ⟨hh1,hh2,hh3⟩:=HH.out
   have hvW:v1=W:=by rw [HV1.out];simp
   rw [←hvW,←HFI.out,←HQ.out] at hh2
   rw [←hvW,←HFI.out] at hh1 hh3
   obtain ⟨ix,hix⟩:∃ ix,ix=v1-fi:=⟨_,rfl⟩
   rw [←hix] at hh2 hh3
   have hixi:(v1:Int)-(fi:Int)=(ix:Int):=by omega
   have hixl:ix<(symsTo lens K n).length:=by rw [←HQ.out];exact hh2
   obtain ⟨ga,oa,rfl,hc1⟩:=HCV.out.at_ hixl
   rw [zD,zF hixl] at hh3
   have hh3':(symsTo lens K n)[ix]=s:=hh3
   rw [hh3'] at hc1
   have d3:w1.cell? ⟨ga,oa+ix,none⟩=some (.int .i64 s):=hc1
   have t1:decide (v1<fi)=false:=zA (by omega)
   have t1':decide ((v1:Int)<(fi:Int))=false:=zA (by omega)
   have t2:decide (ix<q)=true:=zB hh2
   have t2':decide ((ix:Int)<(q:Int))=true:=zB (by omega)
   have hix9:ix<1024:=by omega
   clear hh1 hh3 hh3' hc1 hix hvW hixl HH
   go_wp2_with fail
   go_ret2
   exact ⟨rfl,hr1,hch1.out⟩
  ·have hps:=HP.out n hn0 (by omega)
   rw [show L-n=j+1 by omega,←HV1.out,←HFI.out,←HQ.out] at hps
   rcases hps with hps | hps
   ·have t1:decide (v1<fi)=true:=zB hps
    have t1':decide ((v1:Int)<(fi:Int))=true:=zB (by omega)
    go_wp2_with fail
    go_roundg j
    case measure=>omega
    case rel=>exact ⟨n+1,by omega,by omega,by go_num,by rw [HV1.out],by simpa using hr1,hch1⟩
   ·obtain ⟨ix,hix⟩:∃ ix,ix=v1-fi:=⟨_,rfl⟩
    have hixi:(v1:Int)-(fi:Int)=(ix:Int):=by omega
    have t1:decide (v1<fi)=false:=zA (by omega)
    have t1':decide ((v1:Int)<(fi:Int))=false:=zA (by omega)
    have t2:decide (ix<q)=false:=zA (by omega)
    have t2':decide ((ix:Int)<(q:Int))=false:=zA (by omega)
    have hix9:ix<16777216:=by omega
    clear hix hps
    go_wp2_with fail
    go_roundg j
    case measure=>omega
    case rel=>exact ⟨n+1,by omega,by omega,by go_num,by rw [HV1.out],by simpa using hr1,hch1⟩
theorem symsBits_at {lens l:List Nat} {i:Nat} (h:i<l.length):symsBits lens (l.drop i)=symBits lens l[i]++symsBits lens (l.drop (i+1)):=by
 rw [List.drop_eq_getElem_cons h]
 rfl
theorem symBits_len (lens:List Nat) (s:Nat):(symBits lens s).length=lenAt lens s:=bitsOf_len _ _
theorem pfget_ok (w:World) (b:Nat) (F ds:List Nat) (p:Nat) (lens l:List Nat) (A:Option Addr) (cap:Nat) (h:IsRd w b F ds p) (hf:FullL lens) (hc:Cells i64 w A lens) (hl:l.length≤4096)
  (hs:∀ s∈l,s<lens.length∧0<lenAt lens s) (ha:Ahead ds p (symsBits lens l)) :
  Calls Tryz.prog 114 #[.pointer (some ⟨b,0,none⟩),.slice A lens.length cap,.int .i64 l.length] w fun e w'=>∃ v G,e=.returned (.tuple #[v,.int .i64 0])∧Own w' 3 v G (l.map i64)∧IsRd w' b F ds (p+(symsBits lens l).length)∧Chg [b] w w'∧∀ x∈G,w.heap.size≤x:=by
 have hco:=codes_ok lens A cap w hf hc
 have hli:=fun B cb w' hA' hB=>list_ok lens A B cap cb w' hf hA' hB (wordsTo_len lens _)
 have hlb:=h.lt b h.mem
 have hwl:(wordsL lens).length=lens.length:=wordsTo_len lens _
 obtain ⟨n,hn⟩:∃ n,n=lens.length:=⟨_,rfl⟩
 obtain ⟨m,hm⟩:∃ m,m=l.length:=⟨_,rfl⟩
 have hn1:=hf.n1
 have hn2:=hf.n2
 rw [←hn] at hco hli hs hn1 hn2 hwl ⊢
 rw [←hm] at hl ⊢
 rw [hwl] at hli
 have HN:=hid hn
 have HM:=hid hm
 have HS:=hid hs
 have HF:=hid hf
 have HA:=hid ha
 have HC:=hid hc
 have HLI:=hid hli
 have HWL:=hid hwl
 have t1:decide ((m:Int)<0)=false:=by simp
 have t2:decide ((4194304:Int)<(m:Int))=false:=zA (by omega)
 clear hn hm hs hf ha hc hli hwl
 go_enter Tryz.func114,Tryz.ntmps114
 go_wp2_with fail
 refine hco.mono ?_
 rintro e w1 ⟨vw,gw,rfl,hrw,ch1,hgw⟩
 have hown1:=hrw.toOwn
 obtain ⟨cw,rfl,hcw1,hcw2,hcwc,_⟩:=hrw.open_map
 have hcells1:=hown1.cells
 rw [HWL.out] at hcw1 ⊢
 have hr1:=h.same ch1
 have hli:=HLI.out (some ⟨gw,0,none⟩) cw w1 (HC.out.same ch1) hcells1
 clear hco hcwc h hown1 hcells1
 go_wp2_with (go_at_call 60;refine (err_ok _ b F ds _ hr1).mono ?_;rintro e w' ⟨rfl,rfl⟩)
 refine hli.mono ?_
 rintro e w2 ⟨tb,C,vs,Fs,rfl,ht2,ch2,htb⟩
 have hr2:=hr1.same ch2
 have hch2:=ch1.trans_same ch2
 have hbt:b<tb:=by have:=ch1.size;omega
 have HT2:=hid ht2
 clear hli ht2 hr1
 have hbs2:=hr2.lt
 have HBS2:=hid hbs2
 clear hbs2
 go_wp2_with fail
 go_loopg [11,12,13,38] m (fun j va vb vc iv wr=>∃ (i p':Nat) (G:List Nat),iv=.int .i64 i∧i+j=m∧Own wr 3 va G ((l.take i).map i64)∧IsRd wr b F ds p'∧Hid (Ahead ds p' (symsBits lens (l.drop i)))∧Hid (p'+(symsBits lens (l.drop i)).length=p+(symsBits lens l).length)∧Hid (Chg [b] w2 wr)∧Hid (∀ x∈G,w2.heap.size≤x))
 case atStart=>exact ⟨0,p,[],rfl,by omega,Own.nil _ _,hr2,HA,hid rfl,hid (Chg.refl _ _),hid (by simp)⟩
 case round =>
  obtain ⟨i,p',G,rfl,hij,hown,hrd,Ha,Hp,HCH,HG⟩:=hrel
  rcases gk with _ | j
  ·obtain rfl:i=m:=by omega
   have t3:decide ((i:Int)<(i:Int))=false:=by simp
   go_wp2_with fail
   go_ret2
   have e1:l.take i=l:=by rw [HM.out,List.take_length]
   have e2:p'=p+(symsBits lens l).length:=by have:=Hp.out;rw [HM.out,List.drop_length] at this;simpa [symsBits] using this
   rw [e1] at hown
   refine ⟨_,G,rfl,hown,e2 ▸ hrd,(hch2.mono (by simp)).trans_same HCH.out,fun x hx=>Nat.le_trans hch2.size (HG.out x hx)⟩
  ·have him:i<m:=by omega
   have hil:i<l.length:=by rw [←HM.out];exact him
   have t3:decide ((i:Int)<(m:Int))=true:=zB (by omega)
   obtain ⟨s,hse⟩:∃ s,s=l[i]:=⟨_,rfl⟩
   have hs:=HS.out l[i] (zG hil)
   have hat:=symsBits_at (lens:=lens) hil
   rw [←hse] at hs hat
   have HA1:=Ha.out
   rw [hat] at HA1
   have HAR:=hid HA1.right
   have htk:=take_snoc' l hil
   rw [←hse] at htk
   have hrd1:=tread_ok wr b F ds p' lens s tb C vs Fs hrd HF.out hs.2 (HT2.out.chg HCH.out (fun x hx=>by simp at hx;omega)) hbt HA1.left
   have HAT:=hid hat
   have HTK:=hid htk
   clear hs hat HA1 htk hse
   go_wp2_with fail
   refine hrd1.mono ?_
   rintro e w3 ⟨rfl,hr3,ch3⟩
   have hown3:=hown.chg ch3 (fun x hx hm=>by simp at hm;have:=HG.out x hx;have:=HBS2.out b hr3.mem;omega)
   have chX:Chg [] w3 (w3.alloc (.cells #[.int .i64 s] 3)):=(Chg.refl [] w3).alloc _
   have hel4:=hown3.same chX
   have htl:(l.take i).length=i:=by rw [List.length_take];omega
   clear hown hown3 hrd1
   go_wp2_with (at_builtin;refine wpList_append_o1 rfl rfl int_elem rfl rfl hel4 (.int .i64 s) rfl ?c1 ?c2 ?c3 ?c4 ?_)
   case c1=>simp [go_sem]
   case c2=>rfl
   case c3=>rw [zE,htl];omega
   case c4=>rw [zE,htl];omega
   intro g2 cap2 w4 hr4 gr4
   go_wp2_with fail
   go_roundg j
   case measure=>omega
   case rel =>
    refine ⟨i+1,p'+lenAt lens s,[g2],by go_num,by omega,?_,(hr3.same chX).chg gr4.chg (fun x hx hm=>by have:=HG.out x hm;have:=HBS2.out x hx;omega),?_,hid ?_,hid ?_,hid ?_⟩
    ·have h9:=hr4.toOwn
     rw [HTK.out,List.map_append]
     simpa [i64] using h9
    ·have:=HAR.out
     rw [symBits_len] at this
     exact hid this
    ·have:=Hp.out
     rw [HAT.out,zC,symBits_len] at this
     omega
    ·exact ((HCH.out.trans ch3 (fun x hx => .inl hx)).trans chX (by simp)).trans gr4.chg (fun x hx => .inr (HG.out x hx))
    ·intro x hx
     rcases gr4.new x hx with h9 | h9
     ·exact HG.out x h9
     ·have:=HCH.out.size;have:=ch3.size;have:=chX.size;omega
theorem lens_plain {freq:List Nat} (h2:freq.length≤256) (hpos:0<(coinsTo freq freq.length).length):LensOk freq (lensFn freq):=by
 rcases Nat.lt_or_ge (coinsTo freq freq.length).length 2 with h | h
 ·obtain ⟨e,he⟩:=List.length_eq_one_iff.1 (show (coinsTo freq freq.length).length=1 by omega)
  obtain ⟨s,hs,_,rfl⟩:=mem_coinsTo (show e∈coinsTo freq freq.length by rw [he];simp)
  have h3:=lens_one (by omega) he
  rw [lensFn_one he]
  exact h3.2
 ·have hcl:=coinsTo_len freq freq.length
  obtain ⟨f1,f2,f3⟩:=full_of_rows (freq:=freq) (by omega) h (rowAt_rows _ 11)
  rw [lensFn_many h]
  refine ⟨lensOf_len _ _,f1,f2,fun n hn => ?_⟩
  obtain ⟨s,_,rfl⟩:=List.mem_map.1 hn
  exact f3 s
theorem pref_ok {l:List Int} {W d:Nat} (hl0:0<l.length) (hmx:maxN (foldedN l W d)<256):FullL (prefLens l W d)∧∀ s∈foldedN l W d,s<(prefLens l W d).length∧0<lenAt (prefLens l W d) s:=by
 have hne:foldedN l W d≠[]:=fun e=>by have:=foldedN_len l W d;rw [e] at this;simp at this;omega
 have hlo:=lens_plain (freq:=freqL (foldedN l W d)) (by rw [freqL_len];omega) (freqL_coins hne)
 refine ⟨hlo.full,fun s hs => ?_⟩
 have hm:=maxN_ge hs
 have hsl:s<(freqL (foldedN l W d)).length:=by rw [freqL_len];omega
 refine ⟨by unfold prefLens;rw [hlo.len];exact hsl,(hlo.used s hsl).2 ?_⟩
 rw [freqL_getD hm]
 exact List.count_pos_iff.2 hs
theorem foldedN_at {l:List Int} {W d i:Nat} (h:i<l.length):(foldedN l W d)[i]?=some (foldOf l W d i):=by
 simp [foldedN,h]
theorem getPrefixed_ok (w:World) (b:Nat) (F ds:List Nat) (p:Nat) (l:List Int) (W H d:Nat) (h:IsRd w b F ds p) (hw0:1≤W) (hw1:W≤16) (hh0:1≤H) (hh1:H≤16) (h0:1≤d) (h1:d≤16) (hl:l.length=W*H) (hs:SmpOk d l) (hmx:maxN (foldedN l W d)<256) (ha:Ahead ds p (prefBits l W d)) :
  Calls Tryz.prog 82 #[.pointer (some ⟨b,0,none⟩),.int .i64 W,.int .i64 H,.int .i64 d] w fun e w'=>∃ v g,e=.returned (.tuple #[v,.int .i64 0])∧Row w' 3 v g (l.map vi)∧IsRd w' b F ds (p+(prefBits l W d).length)∧Chg [b] w w'∧w.heap.size≤g:=by
 obtain ⟨n,hn⟩:∃ n,n=l.length:=⟨_,rfl⟩
 have hWH:=Nat.mul_le_mul hw1 hh1
 have hWH0:=Nat.mul_le_mul hw0 hh0
 have hn256:n≤256:=by rw [hn,hl];exact hWH
 have hn0:0<l.length:=by rw [hl];omega
 have hnW:n≤64*W:=by rw [hn,hl,Nat.mul_comm];exact Nat.mul_le_mul_right W (by omega)
 have hnI:(W:Int)*(H:Int)=(n:Int):=by rw [hn,hl];simp
 obtain ⟨hfull,hsym⟩:=pref_ok hn0 hmx
 unfold prefBits at ha ⊢
 rw [zC]
 have hflen:=foldedN_len l W d
 have hat:=fun i (hi:i<l.length)=>foldedN_at (W:=W) (d:=d) hi
 have hfm:∀ x∈foldedN l W d,x<256:=fun x hx=>by have:=maxN_ge hx;omega
 obtain ⟨f,hf⟩:∃ f,f=foldedN l W d:=⟨_,rfl⟩
 obtain ⟨lens,hle⟩:∃ z,z=prefLens l W d:=⟨_,rfl⟩
 rw [←hle] at hfull hsym ha ⊢
 rw [←hf] at hsym ha hflen hat hfm ⊢
 rw [←hn] at hflen hat
 have hg1:=getTable_ok w b F ds p lens h hfull ha.left
 have hflt:=fun i=>foldOf_lt l W h0 i
 have hfb:=fun i=>fold_back hs W i
 have hmk:=run_make1 (P:=Tryz.prog) int_elem rfl .i64 .i64 n (by omega) (by omega)
 have hbl:=h.lt b h.mem
 have HN:=hid hn
 have HA:=hid ha.right
 have HFU:=hid hfull
 have HSY:=hid hsym
 have HFL:=hid hflen
 have HAT:=hid hat
 have HFLT:=hid hflt
 have HFB:=hid hfb
 have HFM:=hid hfm
 have HS:=hid hs
 have HLT:=hid h.lt
 clear hn ha hfull hsym hflen hat hflt hfb hfm hs hl h hf hle hmx hn0 hWH hWH0
 go_enter Tryz.func82,Tryz.ntmps82
 go_wp2_with fail
 refine hg1.mono ?_
 rintro e w1 ⟨v1,G1,rfl,own1,hr1,ch1,hG1⟩
 obtain ⟨A1,c1,rfl,hc11,hc12,hcl⟩:=own1.open_map
 have hpg:=pfget_ok w1 b F ds _ lens f A1 c1 hr1 HFU.out hcl (by rw [HFL.out];omega) HSY.out HA.out
 rw [HFL.out] at hpg
 clear hg1 own1 hcl hr1
 go_wp2_with fail
 refine hpg.mono ?_
 rintro e w3 ⟨v2,G2,rfl,own2,hr3,ch2,hG2⟩
 obtain ⟨A2,c2,rfl,hc21,hc22,hcF⟩:=own2.open_map
 rw [HFL.out] at hc21 ⊢
 have ch3:=ch1.trans_same ch2
 obtain ⟨G,hG⟩:∃ G,G=w3.heap.size:=⟨_,rfl⟩
 obtain ⟨w4,hw4⟩:∃ w4,w4=w3.alloc (.cells (Array.replicate n (Value.int .i64 0)) 3):=⟨_,rfl⟩
 have hrow0:Row w4 3 (.slice (some ⟨G,0,none⟩) n n) G ((fillL ([]:List Int) n).map vi):=by
  have h9:=Row.zeros w3 n (by omega)
  rw [←hG] at h9
  rw [hw4]
  exact h9
 have chB:Chg [] w3 w4:=by rw [hw4];exact (Chg.refl [] w3).alloc _
 have hrd4:=hr3.same chB
 have hch4:=ch3.trans chB (by simp)
 have hcF4:=hcF.same chB
 have hbw:=hr3.lt b hr3.mem
 have hapF:Apt A2 f [b,G]:=own2.apt (fun x hx hm=>by
  have h5:=hG2 x hx
  have h6:=own2.lt x hx
  have h7:=ch1.size
  simp at hm
  omega)
 have hs3:=ch3.size
 have HFW:=hid hr3.lt
 have HG:=hid hG
 have HAP:=hid hapF
 have HCF:=hid hcF4
 have HP2:Hid (p+(tableBits lens).length+(symsBits lens f).length=p+((tableBits lens).length+(symsBits lens f).length)):=hid (by omega)
 have HW4:=hid hw4
 clear hpg hr3 chB hG hapF hcF hcF4 own2 hw4
 go_wp2_with fail
 rw [←HW4.out,←HG.out]
 go_loopg [14,15,16,17,44] n (fun j va vb vc vd iv wr=>∃ (i:Nat),iv=.int .i64 i∧i+j=n∧Row wr 3 (.slice (some ⟨G,0,none⟩) n n) G ((fillL (l.take i) n).map vi)∧Hid (Chg [G] w4 wr))
 case atStart=>exact ⟨0,rfl,by omega,by simpa using hrow0,hid (Chg.refl _ _)⟩
 case round =>
  clear hrow0
  obtain ⟨i,rfl,hij,hrow,HCH⟩:=hrel
  rcases gk with _ | j
  ·obtain rfl:n=i:=by omega
   have u2:decide ((n:Int)<(n:Int))=false:=by simp
   have u2':decide (n<n)=false:=by simp
   have e:fillL (l.take n) n=l:=by
    have:=fill_all l
    rw [←HN.out] at this
    exact this
   rw [e] at hrow
   clear e
   go_wp2_with fail
   go_ret2
   refine ⟨_,G,rfl,hrow,(hrd4.chg HCH.out (fun z hz hm=>by simp at hm;have:=HFW.out z hz;have:=HG.out;omega)).cast HP2.out,hch4.trans HCH.out (fun z hz => .inr (by simp at hz;have:=HG.out;omega)),by have:=HG.out;omega⟩
  ·have hin:i<n:=by omega
   have u2:decide ((i:Int)<(n:Int))=true:=zB (by omega)
   have u2':decide (i<n)=true:=zB hin
   have hil:i<l.length:=by rw [←HN.out];exact hin
   have hif:i<f.length:=by rw [HFL.out];exact hin
   have hfi:=HAT.out i (by omega)
   have hfx:=HFM.out f[i] (zG hif)
   rw [zF hif] at hfi
   have hfe:f[i]=foldOf l W d i:=by injection hfi
   obtain ⟨gf,of,rfl,hcf⟩:=(HCF.out.keep HAP.out (HCH.out.mono (fun x hx _=>by simp at hx;simp [hx]))).at_ hif
   rw [hfe] at hcf hfx
   have hnf:=nbr_fillAt (l:=l) hw0 (i:=i) (by omega)
   rw [←HN.out] at hnf
   have hlen:(fillL (l.take i) n).length=n:=fillL_len (by rw [List.length_take];omega)
   have hnr:=tnear_ok (fillL (l.take i) n) (some ⟨G,0,none⟩) n W d i wr h0 h1 hw0 (by omega) (by rw [hlen];omega) (by omega) (fill_smpT HS.out i n) hrow.toOwn.cells (by rw [hlen];omega)
   have hfb:=HFB.out i
   have hflt:=HFLT.out i
   have hp2:2^d≤65536:=Nat.pow_le_pow_right (n:=2) (by decide) h1
   have hp2':=Nat.two_pow_pos d
   rw [hnf,hlen] at hnr
   have hgr:=guessI_ok (d:=d) (g:=nbrAt l W i) (nbr_ok HS.out W _ _) 7
   obtain ⟨gs,hgs⟩:∃ gs,gs=guessI 7 (nbrAt l W i) d:=⟨_,rfl⟩
   rw [←hgs] at hnr hgr hfb
   obtain ⟨fi,hfie⟩:∃ fi,fi=foldOf l W d i:=⟨_,rfl⟩
   rw [←hfie] at hcf hfx hfb hflt
   have hcf':wr.cell? ⟨gf,of+i,none⟩=some (.int .i64 fi):=hcf
   generalize classI (nbrAt l W i) d=cl at hnr
   have hgs65:gs<65536:=by
    have e:((2^d:Nat):Int)=(2:Int)^d:=by simp
    have:=hgr.2
    omega
   have hun:=fun w'=>unfolded_ok gs fi d w' h0 h1 hgr.1 hgs65 (by omega)
   rw [hfb] at hun
   have htk:=take_snoc' l hil
   have hxg:l[i]=l.getD i 0:=by rw [zD,zF hil];rfl
   rw [hxg] at htk
   generalize l.getD i 0=xv at *
   have hdl:(l.take i).length=i:=by rw [List.length_take];omega
   have hpI:((2^d:Nat):Int)=(2:Int)^d:=by simp
   have hsh:IntKind.i64.wrap ((2:Int)^d)=(2:Int)^d:=IntWalk.i64_in _ (by omega)
   have t5:decide ((256:Int)≤(fi:Int))=false:=zA (by omega)
   have t6:decide ((2:Int)^d≤(fi:Int))=false:=zA (by omega)
   have HTK:=hid htk
   have HDL:=hid hdl
   have HUN:=hid hun
   have HROW:=hid hrow
   clear hnf hlen hfb hgs hfie hun htk hxg hdl hrow hil hgr hfi hfe hif hcf
   go_wp2_with fail
   refine hnr.mono ?_
   rintro e w6 ⟨rfl,ch6⟩
   have hch6:=hid (HCH.out.trans ch6 (by simp))
   have hrow6:=HROW.out.chg ch6 (by simp)
   obtain ⟨hce,hfr⟩:=hrow6.fill_cell (by rw [HDL.out];exact hin)
   have hfill:=hrow6.fill (by rw [HDL.out];exact hin) xv
   rw [HDL.out] at hce hfr hfill
   have HFI:=hid hfill
   have hun6:=HUN.out w6
   clear hnr hrow6 hfill
   go_wp2_with fail
   refine hun6.mono ?_
   rintro e w7 ⟨rfl,rfl⟩
   go_wp2_with fail
   go_roundg j
   case measure=>omega
   case rel =>
    refine ⟨i+1,by go_num,by omega,?_,hid (hch6.out.setCell (.inl (by simp)) _)⟩
    rw [HTK.out]
    exact HFI.out
end Go.Proofs.YtijpbkakncglgaaGreatDoor
