/- package prefix by its contracts, the eighth part: Put, PutTable. -/
import Derived.Test.YtijpbkakncglgaaGreatDoorMg15
import Derived.Test.YtijpbkakncglgaaGreatDoorMg28
import Derived.Deep.CutRange
set_option linter.unusedVariables false
set_option linter.unusedSimpArgs false
set_option maxHeartbeats 4000000
set_option maxRecDepth 100000
namespace Go.Proofs.YtijpbkakncglgaaGreatDoor
open Go.RowKit
theorem pfput_ok (w:World) (b:Nat) (F bs:List Nat) (lens l:List Nat) (A Al:Option Addr) (cap capl:Nat) (h:IsWr w b F bs) (hf:FullL lens) (hc:Cells i64 w A lens) (hA:Apt A lens F) (hl:l.length≤4096) (hcl:Cells i64 w Al l) (hAl:Apt Al l F)
  (hs:∀ s∈l,s<lens.length∧0<lenAt lens s) (hbs:bs.length<137438953472) :
  Calls Tryz.prog 136 #[.pointer (some ⟨b,0,none⟩),.slice A lens.length cap,.slice Al l.length capl] w fun e w'=>e=.returned (.int .i64 0)∧∃ F',IsWr w' b F' (bs++symsBits lens l)∧Grow F F' w w':=by
 have hco:=codes_ok lens A cap w hf hc
 have hlt:=h.lt
 obtain ⟨n,hn⟩:∃ n,n=lens.length:=⟨_,rfl⟩
 obtain ⟨m,hm⟩:∃ m,m=l.length:=⟨_,rfl⟩
 have hn1:=hf.n1
 have hn2:=hf.n2
 rw [←hn] at hco hs hn1 hn2 ⊢
 rw [←hm] at hl ⊢
 have HN:=hid hn
 have HM:=hid hm
 have HS:=hid hs
 have HF:=hid hf
 have HA:=hid hA
 have HAL:=hid hAl
 have HLT:=hid hlt
 clear hn hm hs hf hA hAl hlt
 go_enter Tryz.func136,Tryz.ntmps136
 go_wp2_with fail
 refine hco.mono ?_
 rintro e w1 ⟨vw,gw,rfl,hrw,ch1,hgw⟩
 obtain ⟨cw,rfl,hcw1,hcw2,hcwc,_⟩:=hrw.open_map
 have hwl:(wordsL lens).length=n:=by rw [HN.out];exact wordsTo_len lens _
 rw [hwl] at hcw1 ⊢
 have hlsz:=ch1.size
 have HCW:=hid hcwc
 clear hco hwl hcwc
 go_wp2_with fail
 go_loopg [10,23] m (fun j v10 iv wr=>∃ (i:Nat),iv=.int .i64 i∧i+j=m∧wr=w1)
 case atStart=>exact ⟨0,rfl,by omega,rfl⟩
 case round =>
  obtain ⟨i,rfl,hij,hww⟩:=hrel
  obtain rfl:=hww.symm
  rcases gk with _ | j
  ·obtain rfl:i=m:=by omega
   go_wp2_with fail
   go_loopg [12,45] i (fun j v12 iv wr2=>∃ (q:Nat) (F' bs':List Nat),iv=.int .i64 q∧q+j=i∧IsWr wr2 b F' bs'∧Hid (bs'=bs++symsBits lens (l.take q))∧bs'.length≤bs.length+24*q∧Grow F F' w1 wr2)
   case atStart=>exact ⟨0,F,bs,rfl,by omega,h.same ch1,hid (by simp [symsBits]),by omega,Grow.refl F _⟩
   case round =>
    obtain ⟨q,F',bs',rfl,hqj,hwr,Hb,hbl,hgr⟩:=hrel
    rcases gk with _ | j
    ·obtain rfl:q=i:=by omega
     go_wp2
     go_ret
     refine ⟨rfl,F',?_,Grow.pre ch1 hgr⟩
     have e:l.take q=l:=by rw [HM.out,List.take_length]
     have h5:=Hb.out
     rw [e] at h5
     rw [←h5]
     exact hwr
    ·have hqi:q<i:=by omega
     have hql:q<l.length:=by rw [←HM.out];exact hqi
     have hlen0:0<lens.length:=by rw [←HN.out];omega
     obtain ⟨gl,ol,rfl,cl⟩:=nat_at ((hcl.same ch1).keep HAL.out hgr.chg) hql
     obtain ⟨hsn,hs0⟩:=HS.out l[q] (zG hql)
     have htk:=symsBits_snoc lens (l.take q) l[q]
     rw [←take_snoc' l hql] at htk
     obtain ⟨s,hsd⟩:∃ s,s=l[q]:=⟨_,rfl⟩
     rw [←hsd] at cl hsn hs0 htk
     have hwlt:=wordOf_lt HF.out hs0
     have h24:lenAt lens s≤24:=by
      unfold lenAt
      rw [zD,zF (by rw [←HN.out];exact hsn)]
      exact HF.out.le _ (zG _)
     have hsb:symBits lens s=bitsOf (wordOf lens s) (lenAt lens s):=rfl
     rw [hsb] at htk
     -- the cells of the two tables
     have hlc:=(hc.same ch1).keep HA.out hgr.chg
     obtain ⟨gt,ot,rfl,hgt,hct⟩:=hlc.ex hlen0
     have ct:=hct s (lenAt lens s) (by unfold lenAt;rw [zD,zF (by rw [←HN.out];exact hsn)];rfl)
     have cwd0:=HCW.out s (wordOf lens s) (by unfold wordOf;rw [zD,zF (by unfold wordsL;rw [wordsTo_len,←HN.out];exact hsn)];rfl)
     have hgwF:gw∉F':=hgr.out hrw.lt (fun hm=>by have:=HLT.out _ hm;omega)
     have hgtF:gt∉F':=fun hm=>by
      have h8:=(HA.out.grow (hc.same ch1) hgr) hlen0 _ rfl
      exact h8 hm
     have cwd:wr.cell? ⟨gw,s,none⟩=some (.int .u64 (wordOf lens s:Int)):=(World.cell?_of_block (w:=w1) (hgr.chg.block gw hrw.lt (fun hm=>by have:=HLT.out _ hm;omega))).trans cwd0
     have ct':wr.cell? ⟨gt,ot+s,none⟩=some (.int .i64 (lenAt lens s:Int)):=ct
     have cl':wr.cell? ⟨gl,ol+q,none⟩=some (.int .i64 s):=cl
     have hwl24:wordOf lens s<16777216:=Nat.lt_of_lt_of_le hwlt (Nat.le_trans (Nat.pow_le_pow_right (n:=2) (by decide) h24) (by decide))
     generalize wordOf lens s=wd at *
     generalize lenAt lens s=L at *
     have hS:∀ w',Chg F' wr w'→w'.cell? ⟨gw,s,none⟩=some (.int .u64 wd)∧w'.cell? ⟨gt,ot+s,none⟩=some (.int .i64 L):=fun w' hc' =>
      ⟨(World.cell?_of_block (w:=wr) (hc'.block gw (Nat.lt_of_lt_of_le hrw.lt hgr.size) hgwF)).trans cwd,(World.cell?_of_block (w:=wr) (hc'.block gt hgt hgtF)).trans ct'⟩
     have HSS:=hid hS
     have HTK:=hid htk
     have HWLT:=hid hwlt
     have hb0:(0:Int)≤(q:Int):=by omega
     have hb1:(q:Int)<(i:Int):=by omega
     have hb2:(0:Int)≤(s:Int):=by omega
     have hb3:(s:Int)<(n:Int):=by omega
     have HRW:=hid hrw
     clear hS htk hwlt hct ct cl cwd0 hsd hsb hql hlen0 hlc hrw
     go_wp2_with fail
     have hput:=fun w9 (hc9:Chg [] wr w9)=>wput_ok w9 b F' bs' wd L (hwr.same hc9) (by omega) HWLT.out (by omega)
     go_region_held3 (fun w'=>w'.cell? ⟨gw,s,none⟩=some (.int .u64 wd)∧w'.cell? ⟨gt,ot+s,none⟩=some (.int .i64 L)) (first | (go_keep;done) | exact HSS.out _ (((Chg.refl F' wr).drew).trans_same (Grow.chg (by assumption))) | exact HSS.out _ (Grow.chg (by assumption)))
      (first | (go_at_call 51;refine (hput _ (by first | exact Chg.refl _ _ | exact (Chg.refl [] wr).drew | exact (Chg.refl [] wr).drewN _)).mono ?_;rintro e w5 ⟨rfl,F5,hwr5,hgr5⟩))
     go_wp2_with fail
     go_roundg j
     case measure=>omega
     case rel =>
      refine ⟨q+1,F5,_,by go_num,by omega,hwr5,hid ?_,?_,hgr.trans (Grow.pre ((Chg.refl [] wr).drew) hgr5)⟩
      ·rw [HTK.out,Hb.out];simp only [List.append_assoc]
      ·rw [zC,bitsOf_len];omega
  ·have hin:i<m:=by omega
   have hil:i<l.length:=by rw [←HM.out];exact hin
   obtain ⟨gl,ol,rfl,cl⟩:=nat_at (hcl.same ch1) hil
   obtain ⟨hsn,hs0⟩:=HS.out l[i] (zG hil)
   have hlen0:0<lens.length:=by rw [←HN.out];omega
   obtain ⟨s,hsd⟩:∃ s,s=l[i]:=⟨_,rfl⟩
   rw [←hsd] at cl hsn hs0
   obtain ⟨gt,ot,rfl,hgt,hct⟩:=(hc.same ch1).ex hlen0
   have ct:=hct s (lenAt lens s) (by unfold lenAt;rw [zD,zF (by rw [←HN.out];exact hsn)];rfl)
   have ct':w1.cell? ⟨gt,ot+s,none⟩=some (.int .i64 (lenAt lens s:Int)):=ct
   have t1:decide ((s:Int)<0)=false:=zA (by omega)
   have t2:decide ((n:Int)≤(s:Int))=false:=zA (by omega)
   have t3:((lenAt lens s:Int)==0)=false:=by rw [beq_eq_false_iff_ne];omega
   have hb0:(0:Int)≤(i:Int):=by omega
   have hb1:(i:Int)<(m:Int):=by omega
   have hb2:(0:Int)≤(s:Int):=by omega
   have hb3:(s:Int)<(n:Int):=by omega
   generalize lenAt lens s=L at *
   clear ct hct hsd hil hlen0
   go_wp2_with fail
   go_roundg j
   case measure=>omega
   case rel=>exact ⟨i+1,by go_num,by omega,rfl⟩
theorem putTable_ok (w:World) (b:Nat) (F bs:List Nat) (lens:List Nat) (A:Option Addr) (cap:Nat) (h:IsWr w b F bs) (hf:FullL lens) (hc:Cells i64 w A lens) (hA:Apt A lens F) (hbs:bs.length<137438953472) :
  Calls Tryz.prog 135 #[.pointer (some ⟨b,0,none⟩),.slice A lens.length cap] w fun e w'=>e=.returned (.int .i64 0)∧∃ F',IsWr w' b F' (bs++tableBits lens)∧Grow F F' w w':=by
 have hfy:=full_yes lens A cap w hf hc
 have hn1:=hf.n1
 have hn2:=hf.n2
 have hle:=hf.le
 have htb:=tableBits_eq lens
 obtain ⟨n,hn⟩:∃ n,n=lens.length:=⟨_,rfl⟩
 rw [←hn] at hfy hn1 hn2 htb ⊢
 rw [htb]
 have HN:=hid hn
 have HA:=hid hA
 have HLE:=hid hle
 have hz66:=fun i=>zr_le 66 (lens.drop i)
 have hzl:=fun i=>zr_len 66 (lens.drop i)
 have hzz:=fun i=>zr_zero 66 (lens.drop i)
 have hzs:=fun i=>zr_stop 66 (lens.drop i)
 have HZ66:=hid hz66
 have HZL:=hid hzl
 have HZZ:=hid hzz
 have HZS:=hid hzs
 clear hn hA htb hle hf hz66 hzl hzz hzs
 have k1:IntKind.u64.wrap ((n:Int)-1)=((n-1:Nat):Int):=by
  have e:((n-1:Nat):Int)=(n:Int)-1:=by omega
  rw [e]
  exact IntWalk.u64_in _ (by omega)
 go_enter Tryz.func135,Tryz.ntmps135
 go_wp2_with fail
 refine hfy.mono ?_
 rintro e w' ⟨rfl,rfl⟩
 go_wp2_with fail
 refine (wput_ok w b F bs (n-1) 10 h (by omega) (by omega) (by omega)).mono ?_
 rintro e w1 ⟨rfl,F1,hwr1,hgr1⟩
 clear h hfy
 go_wp2_with fail
 go_loopg [5,6] n (fun k vi' vz wr=>∃ (i:Nat) (F' bs':List Nat),vi'=.int .i64 i∧i≤n∧n≤i+k∧IsWr wr b F' bs'∧Hid (bs'++bodyFrom lens i=bs++(bitsOf (n-1) 10++bodyFrom lens 0))∧bs'.length≤bs.length+10+11*i∧Grow F F' w wr)
 case atStart=>exact ⟨0,F1,_,rfl,by omega,by omega,hwr1,hid (by rw [List.append_assoc]),by rw [zC,bitsOf_len];omega,hgr1⟩
 case round =>
  clear hwr1 hgr1
  obtain ⟨wk,rfl⟩:∃ wk,wk=wr:=⟨_,rfl⟩
  obtain ⟨i,F',bs',rfl,hin,hik,hwr,Hb,hbl,hgr⟩:=hrel
  by_cases hend:n≤i
  ·obtain rfl:i=n:=by omega
   go_wp2
   go_ret
   refine ⟨rfl,F',?_,hgr⟩
   have h5:=Hb.out
   have e:=bodyFrom_end lens
   rw [←HN.out] at e
   rw [e,List.append_nil] at h5
   rw [←h5]
   exact hwr
  ·rcases gk with _ | ko
   ·omega
   ·have hi:i<n:=by omega
    obtain ⟨Z,hZ⟩:∃ Z,Z=zr 66 (lens.drop i):=⟨_,rfl⟩
    have z1:=HZ66.out i
    have z2:=HZL.out i
    have z3:=HZZ.out i
    have z4:=HZS.out i
    rw [←hZ] at z1 z2 z3 z4
    rw [List.length_drop,←HN.out] at z2 z4
    have hgd:∀ z,(lens.drop i).getD z 0=lenAt lens (i+z):=fun z=>by
     unfold lenAt
     rw [zD,List.getElem?_drop,←zD]
    have hlen0:0<lens.length:=by rw [←HN.out];omega
    obtain ⟨gt,ot,rfl,hgt,hct⟩:=(hc.keep HA.out hgr.chg).ex hlen0
    have hcell:∀ s,s<n→wk.cell? ⟨gt,ot+s,none⟩=some (.int .i64 (lenAt lens s:Int)):=fun s hs=>by
     have:=hct s (lenAt lens s) (by unfold lenAt;rw [zD,zF (by rw [←HN.out];exact hs)];rfl)
     exact this
    have hone:=bodyFrom_one (lens:=lens) (i:=i) (by rw [←HN.out];exact hi)
    have hmany:=bodyFrom_many (lens:=lens) (i:=i) (by rw [←HN.out];exact hi)
    rw [←hZ] at hone hmany
    have hx24:lenAt lens i≤24:=by
     unfold lenAt
     rw [zD,zF (by rw [←HN.out];exact hi)]
     exact HLE.out _ (zG _)
    have HC:=hid hcell
    have HZ:=hid hZ
    have Z3:Hid (∀ z,z<Z→lenAt lens (i+z)=0):=hid fun z hz=>by rw [←hgd];exact z3 z hz
    have Z4:Hid (Z=66∨Z=n-i∨lenAt lens (i+Z)≠0):=hid (by rw [←hgd];exact z4)
    have HONE:=hid hone
    have HMANY:=hid hmany
    have HHI:=hid hin
    clear hcell hZ z3 z4 hgd hct hone hmany hlen0 hend hin
    go_wp2_with fail
    go_loopg [6] Z (fun k vz wz=>∃ z:Nat,vz=.int .i64 z∧z+k=Z∧wz=wk)
    case atStart=>exact ⟨0,rfl,by omega,rfl⟩
    case round =>
     obtain ⟨z,rfl,hzk,hww⟩:=hrel
     obtain rfl:=hww.symm
     clear hww
     rcases gk with _ | j
     ·obtain rfl:z=Z:=by omega
      go_upto_region 7 with fail
      go_cut [38] from 20 to 40 (fun s38 wx=>s38=.bool false∧wx=wk)
      case first =>
       by_cases q1:z=66
       ·have t1:decide ((z:Int)<66)=false:=zA (by omega)
        clear q1
        go_wp2
        go_meet
        case rel=>exact ⟨rfl,rfl⟩
       ·have t1:decide ((z:Int)<66)=true:=zB (by omega)
        by_cases q2:i+z<n
        ·have hnz:lenAt lens (i+z)≠0:=by
          rcases Z4.out with h | h | h
          ·omega
          ·omega
          ·exact h
         have cz:=HC.out (i+z) q2
         obtain ⟨q,hq⟩:∃ q,q=i+z:=⟨_,rfl⟩
         rw [←hq] at cz q2 hnz
         have hqI:(i:Int)+(z:Int)=(q:Int):=by omega
         have t2:decide ((q:Int)<(n:Int))=true:=zB (by omega)
         have t3:((lenAt lens q:Int)==0)=false:=by rw [beq_eq_false_iff_ne];omega
         have hb0:(0:Int)≤(q:Int):=by omega
         generalize lenAt lens q=L at *
         clear hq q1
         go_wp2
         go_meet
         case rel=>exact ⟨rfl,rfl⟩
        ·have t2:decide ((i:Int)+(z:Int)<(n:Int))=false:=zA (by omega)
         clear q1
         go_wp2
         go_meet
         case rel=>exact ⟨rfl,rfl⟩
      case rest =>
       obtain ⟨rfl,h9⟩:=hcut
       obtain rfl:=h9.symm
       clear h9
       by_cases hz3:z<3
       ·have t1:decide ((z:Int)<3)=true:=zB (by omega)
        have hone:=HONE.out hz3
        have ci:=HC.out i hi
        have hx32:lenAt lens i<2^5:=by omega
        have hx63:lenAt lens i<32:=by omega
        generalize lenAt lens i=x at *
        have hb0:(0:Int)≤(i:Int):=by omega
        have hb1:(i:Int)<(n:Int):=by omega
        have HO:=hid hone
        have HX:=hid hx32
        clear hone hz3 hx32
        go_wp2_with fail
        refine (wput_ok wk b F' bs' x 5 hwr (by omega) HX.out (by omega)).mono ?_
        rintro e w5 ⟨rfl,F5,hwr5,hgr5⟩
        go_wp2_with fail
        go_roundg ko
        case measure=>omega
        case rel =>
         refine ⟨i+1,F5,_,by go_num,by omega,by omega,hwr5,hid ?_,?_,hgr.trans hgr5⟩
         ·rw [←Hb.out,HO.out,List.append_assoc]
         ·rw [zC,bitsOf_len];omega
       ·have t1:decide ((z:Int)<3)=false:=zA (by omega)
        have hmany:=HMANY.out hz3
        obtain ⟨y,hy⟩:∃ y,y=z-3:=⟨_,rfl⟩
        rw [←hy] at hmany
        have hyI:(z:Int)-3=(y:Int):=by omega
        have hyw:IntKind.u64.wrap (y:Int)=(y:Int):=IntWalk.u64_in _ (by omega)
        have hy6:y<2^6:=by omega
        have HO:=hid hmany
        have HY:=hid hy6
        have hy63:y≤63:=by omega
        have hz3':3≤z:=by omega
        have hzin:i+z≤n:=by omega
        clear hmany hz3 hy6 hy
        go_wp2_with fail
        refine (wput_ok wk b F' bs' 31 5 hwr (by omega) (by omega) (by omega)).mono ?_
        rintro e w5 ⟨rfl,F5,hwr5,hgr5⟩
        go_wp2_with fail
        refine (wput_ok w5 b F5 _ y 6 hwr5 (by omega) HY.out (by rw [zC,bitsOf_len];omega)).mono ?_
        rintro e w6 ⟨rfl,F6,hwr6,hgr6⟩
        go_wp2_with fail
        go_roundg ko
        case measure=>omega
        case rel =>
         refine ⟨i+z,F6,_,by go_num,by omega,by omega,hwr6,hid ?_,?_,(hgr.trans hgr5).trans hgr6⟩
         ·rw [←Hb.out,HO.out];simp only [List.append_assoc]
         ·rw [zC,zC,bitsOf_len,bitsOf_len];omega
     ·have hzZ:z<Z:=by omega
      have t1:decide ((z:Int)<66)=true:=zB (by omega)
      have hzn:i+z<n:=by omega
      have cz:=HC.out (i+z) hzn
      rw [Z3.out z hzZ] at cz
      obtain ⟨q,hq⟩:∃ q,q=i+z:=⟨_,rfl⟩
      rw [←hq] at cz hzn
      have hqI:(i:Int)+(z:Int)=(q:Int):=by omega
      have t2:decide ((q:Int)<(n:Int))=true:=zB (by omega)
      have hb0:(0:Int)≤(q:Int):=by omega
      clear hq
      go_wp2_with fail
      go_roundg j
      case measure=>omega
      case rel=>exact ⟨z+1,by go_num,by omega,rfl⟩
theorem maxOf_nat (ns:List Nat) (h:ns≠[]):Lib.maxOf (ns.map Int.ofNat)=((maxN ns:Nat):Int):=by
 have key:∀ (l:List Nat) (a:Nat),(l.map Int.ofNat).foldl max (a:Int)=((l.foldl max a:Nat):Int):=by
  intro l
  induction l with
  | nil=>intro a;rfl
  | cons x l ih =>
   intro a
   have e:max (a:Int) (Int.ofNat x)=((max a x:Nat):Int):=by
    show max (a:Int) (x:Int)=_
    omega
   simp only [List.map_cons,List.foldl_cons]
   rw [e,ih]
 cases ns with
 | nil=>exact absurd rfl h
 | cons x l =>
  unfold Lib.maxOf maxN
  show ((x::l).map Int.ofNat).foldl max (x:Int)=_
  rw [key]
  simp
def freqL (f:List Nat):List Nat:=(List.range (maxN f+1)).map fun v=>f.count v
def freqTo (m:Nat) (f:List Nat):List Nat:=(List.range m).map fun v=>f.count v
theorem freqTo_len (m:Nat) (f:List Nat):(freqTo m f).length=m:=by simp [freqTo]
theorem freqTo_nil (m:Nat):freqTo m []=List.replicate m 0:=by
 apply List.ext_getElem
 ·simp [freqTo]
 ·intro i h1 h2;simp [freqTo]
theorem freqTo_at {m v:Nat} (f:List Nat) (h:v<m):(freqTo m f)[v]?=some (f.count v):=by simp [freqTo,h]
theorem freqTo_snoc {m x:Nat} (f:List Nat) (h:x<m):freqTo m (f++[x])=(freqTo m f).set x (f.count x+1):=by
 apply List.ext_getElem?
 intro i
 rw [List.getElem?_set,freqTo_len]
 by_cases hi:i<m
 ·rw [freqTo_at _ hi]
  by_cases e:x=i
  ·subst e
   rw [if_pos rfl,if_pos h,List.count_append]
   simp
  ·rw [if_neg e,freqTo_at _ hi,List.count_append]
   have:List.count i [x]=0:=by
    rw [List.count_eq_zero]
    simp
    omega
   rw [this];rfl
 ·have e1:(freqTo m (f++[x]))[i]?=none:=List.getElem?_eq_none (by rw [freqTo_len];omega)
  rw [e1]
  by_cases e:x=i
  ·omega
  ·rw [if_neg e]
   exact (List.getElem?_eq_none (by rw [freqTo_len];omega)).symm
theorem freqL_len (f:List Nat):(freqL f).length=maxN f+1:=by simp [freqL]
theorem freqL_getD {f:List Nat} {v:Nat} (h:v≤maxN f):(freqL f).getD v 0=f.count v:=by
 simp [freqL,zD,show v<maxN f+1 by omega]
theorem freqL_le (f:List Nat):∀ x∈freqL f,x≤f.length:=by
 intro x hx
 obtain ⟨v,_,rfl⟩:=List.mem_map.1 hx
 exact List.count_le_length
theorem freqL_coins {f:List Nat} (h:f≠[]):0<(coinsTo (freqL f) (freqL f).length).length:=by
 cases f with
 | nil=>exact absurd rfl h
 | cons x l =>
  have hx:x≤maxN (x::l):=maxN_ge (by simp)
  have h1:=coinsOf_to (freqL (x::l)) x (freqL (x::l)).length
  rw [freqL_len,freqL_getD hx,if_pos ⟨by omega,by simp⟩] at h1
  rw [freqL_len]
  have h2:0<coinsOf x (coinsTo (freqL (x::l)) (maxN (x::l)+1)):=by omega
  obtain ⟨w,hw⟩:=coinsOf_pos.1 h2
  exact List.length_pos_of_mem hw
def prefLens (l:List Int) (W d:Nat):List Nat:=lensFn (freqL (foldedN l W d))
def prefBits (l:List Int) (W d:Nat):List Nat:=tableBits (prefLens l W d)++symsBits (prefLens l W d) (foldedN l W d)
theorem foldedL_vi (l:List Int) (W d:Nat):(foldedL l W d).map vi=(foldedN l W d).map i64:=by
 unfold foldedL
 rw [List.map_map]
 rfl
theorem putPrefixed_ok (w:World) (b:Nat) (F bs:List Nat) (l:List Int) (A:Option Addr) (cap W d:Nat) (h:IsWr w b F bs) (hw0:1≤W) (hw1:W≤16) (h0:1≤d) (h1:d≤16) (hl0:0<l.length) (hl:l.length≤256) (hlW:l.length≤64*W) (hs:SmpOk d l) (hc:Cells vi w A l) (hA:Apt A l F) (hmx:maxN (foldedN l W d)<256) (hbs:bs.length<68719476736) :
  Calls Tryz.prog 94 #[.pointer (some ⟨b,0,none⟩),.slice A l.length cap,.int .i64 W,.int .i64 d] w fun e w'=>e=.returned (.tuple #[])∧∃ F',IsWr w' b F' (bs++prefBits l W d)∧Grow F F' w w':=by
 have hfo:=folded_ok l A cap W d w h0 h1 hw0 (by omega) hlW hs hc (by omega)
 have hfl:=foldedN_len l W d
 rw [foldedL_vi] at hfo
 have hpb:prefBits l W d=tableBits (lensFn (freqL (foldedN l W d)))++symsBits (lensFn (freqL (foldedN l W d))) (foldedN l W d):=rfl
 rw [hpb]
 obtain ⟨f,hf⟩:∃ f,f=foldedN l W d:=⟨_,rfl⟩
 rw [←hf] at hfo hfl hmx ⊢
 obtain ⟨n,hn⟩:∃ n,n=l.length:=⟨_,rfl⟩
 rw [←hn] at hfo hfl hl0 hl ⊢
 obtain ⟨M,hM⟩:∃ M,M=maxN f:=⟨_,rfl⟩
 rw [←hM] at hmx
 have hfne:f≠[]:=by intro e;rw [e] at hfl;simp at hfl;omega
 have hfM:∀ x∈f,x≤M:=fun x hx=>by rw [hM];exact maxN_ge hx
 have hmk:=run_make1 (P:=Tryz.prog) int_elem rfl .i64 .i64 (M+1) (by omega) (by omega)
 have hlt:=h.lt
 have HFL:=hid hfl
 have HFM:=hid hfM
 have HM:=hid hM
 have HNE:=hid hfne
 have HLT:=hid hlt
 clear hf hn hM hfl hfM hfne hlt hs hA hc hpb
 go_enter Tryz.func94,Tryz.ntmps94
 go_wp2_with fail
 refine hfo.mono ?_
 rintro e w1 ⟨fv,fg,rfl,hrow,ch1,hfg⟩
 obtain ⟨fc,rfl,hfc,hfcm,_,_⟩:=hrow.open_map
 rw [HFL.out] at hfc ⊢
 have hcI:Cells vi w1 (some ⟨fg,0,none⟩) (f.map Int.ofNat):=by
  have e:f.map i64=(f.map Int.ofNat).map vi:=by rw [List.map_map];rfl
  have h9:=hrow
  rw [e] at h9
  exact h9.toOwn.cells
 have hcN:Cells i64 w1 (some ⟨fg,0,none⟩) f:=hrow.toOwn.cells
 have hfl':(f.map Int.ofNat).length=n:=by rw [zE];exact HFL.out
 have hmax:=Tryz.slices_Max_int fg 0 n fc (f.map Int.ofNat) w1 hl0 (by rw [hfl'];exact Nat.le_refl _) (by omega) (Cells.getD_ hcI)
 rw [List.take_of_length_le (by rw [hfl'];exact Nat.le_refl _),maxOf_nat f HNE.out,←HM.out] at hmax
 have hs1:=ch1.size
 have hfgl:=hrow.lt
 clear hfo hcI hfl'
 obtain ⟨M1,hM1⟩:∃ M1,M1=M+1:=⟨_,rfl⟩
 have hM1I:(M:Int)+1=(M1:Int):=by omega
 rw [←hM1] at hmk
 go_wp2_with fail
 refine hmax.mono ?_
 rintro e w' ⟨rfl,rfl⟩
 obtain ⟨B,hB⟩:∃ B,B=w'.heap.size:=⟨_,rfl⟩
 obtain ⟨w2,hw2⟩:∃ w2,w2=w'.alloc (.cells (Array.replicate M1 (Value.int .i64 0)) 3):=⟨_,rfl⟩
 have hrz:Row w2 3 (.slice (some ⟨B,0,none⟩) M1 M1) B ((freqTo M1 (f.take 0)).map i64):=by
  rw [hw2,hB,List.take_zero,freqTo_nil]
  exact Row.zerosN w' M1 (by omega)
 have ch2:Chg [] w' w2:=by rw [hw2];exact (Chg.refl [] w').alloc _
 have hcN2:=hcN.same ch2
 have ch12:=ch1.trans_same ch2
 have HW2:=hid hw2
 have HB:=hid hB
 have hBfg:fg≠B:=by omega
 have hBl:=hrz.lt
 have HM1:=hid hM1
 have hM256:M1≤256:=by omega
 clear hmax hw2 hB hM1 hrow hcN ch1
 go_wp2_with fail
 rw [←HW2.out,←HB.out]
 go_loopg [11,24] n (fun j v11 iv wr=>∃ (i:Nat),iv=.int .i64 i∧i+j=n∧Row wr 3 (.slice (some ⟨B,0,none⟩) M1 M1) B ((freqTo M1 (f.take i)).map i64)∧Chg [B] w2 wr)
 case atStart=>exact ⟨0,rfl,by omega,hrz,Chg.refl _ _⟩
 case round =>
  clear hrz
  obtain ⟨wk,rfl⟩:∃ wk,wk=wr:=⟨_,rfl⟩
  obtain ⟨i,rfl,hij,hrow,hch⟩:=hrel
  have hcN3:=hcN2.keep (fun _ ad e hm=>by
   injection e with e
   subst e
   simp at hm
   exact hBfg hm) hch
  rcases gk with _ | j
  ·obtain rfl:i=n:=by omega
   have hfq:freqTo M1 (f.take i)=freqL f:=by
    rw [List.take_of_length_le (by rw [HFL.out];exact Nat.le_refl _),HM1.out,HM.out];rfl
   rw [hfq] at hrow
   have hcq:Cells i64 wk (some ⟨B,0,none⟩) (freqL f):=hrow.toOwn.cells
   have hql:(freqL f).length=M1:=by rw [freqL_len,←HM.out,HM1.out]
   have hle:=lengths_ok wk (freqL f) (some ⟨B,0,none⟩) M1 (by omega) (by omega) (fun x hx=>by have:=freqL_le f x hx;rw [HFL.out] at this;omega) (freqL_coins HNE.out) hcq
   rw [hql] at hle
   have chk:Chg [] w wk:=ch12.trans hch (fun x hx=>by rw [List.mem_singleton.1 hx];right;have:=HB.out;omega)
   have hwr:=h.same chk
   have HQL:=hid hql
   have hws:=chk.size
   have hwks:=hch.size
   clear hcq hrow hfq hql h hch
   go_wp2_with fail
   refine hle.mono ?_
   rintro e w3 ⟨lv,lg,rfl,lrow,lok,ch3,hlg⟩
   obtain ⟨lc,rfl,hlc,hlcm,_,_⟩:=lrow.open_map
   have hcl3:Cells i64 w3 (some ⟨lg,0,none⟩) (lensFn (freqL f)):=lrow.toOwn.cells
   have hsym:∀ s∈f,s<(lensFn (freqL f)).length∧0<lenAt (lensFn (freqL f)) s:=fun s hs=>by
    have hsM:=HFM.out s hs
    have hsl:s<(freqL f).length:=by rw [HQL.out,HM1.out];omega
    refine ⟨by rw [lok.len];exact hsl,(lok.used s hsl).2 ?_⟩
    rw [freqL_getD (by rw [←HM.out];exact hsM)]
    exact List.count_pos_iff.2 hs
   have hfull:=lok.full
   have hapl:Apt (some ⟨lg,0,none⟩) (lensFn (freqL f)) F:=fun _ ad e hm=>by
    injection e with e
    subst e
    have:=HLT.out _ hm
    simp at this
    omega
   have hapf:Apt (some ⟨fg,0,none⟩) f F:=fun _ ad e hm=>by
    injection e with e
    subst e
    have:=HLT.out _ hm
    simp at this
    omega
   have hcf3:=hcN3.same ch3
   have hwr3:=hwr.same ch3
   have chk3:=chk.trans_same ch3
   have HSYM:=hid hsym
   have HFULL:=hid hfull
   have HLL:Hid ((lensFn (freqL f)).length≤1024):=hid hfull.n2
   obtain ⟨lens,hlens⟩:∃ lens,lens=lensFn (freqL f):=⟨_,rfl⟩
   have HLENS:=hid hlens
   rw [←hlens] at hcl3 HSYM HFULL hapl hlc HLL ⊢
   have hpt:=putTable_ok w3 b F bs lens (some ⟨lg,0,none⟩) lc hwr3 HFULL.out hcl3 hapl (by omega)
   clear hle lrow lok hsym hfull hlens hcN3
   go_wp2_with fail
   refine hpt.mono ?_
   rintro e w4 ⟨rfl,F4,hwr4,hgr4⟩
   have htl:=tableBits_len lens
   have hpp:=pfput_ok w4 b F4 _ lens f (some ⟨lg,0,none⟩) (some ⟨fg,0,none⟩) lc fc hwr4 HFULL.out (hcl3.keep hapl hgr4.chg) (hapl.grow hcl3 hgr4) (by rw [HFL.out];omega) (hcf3.keep hapf hgr4.chg) (hapf.grow hcf3 hgr4) HSYM.out (by rw [zC];have:=HLL.out;omega)
   rw [HFL.out] at hpp
   clear hpt htl
   go_wp2_with fail
   refine hpp.mono ?_
   rintro e w5 ⟨rfl,F5,hwr5,hgr5⟩
   go_wp2_with fail
   go_end0
   refine ⟨rfl,F5,?_,(Grow.pre chk3 hgr4).trans hgr5⟩
   rw [←List.append_assoc,←HLENS.out]
   exact hwr5
  ·have hin:i<n:=by omega
   have hil:i<f.length:=by rw [HFL.out];exact hin
   obtain ⟨g9,o9,e9,cl⟩:=nat_at hcN3 hil
   injection e9 with e9
   injection e9 with e9 e10 _
   subst e9
   subst e10
   rw [Nat.zero_add] at cl
   have hxM:=HFM.out f[i] (zG hil)
   have htk:=take_snoc' f hil
   obtain ⟨x,hx⟩:∃ x,x=f[i]:=⟨_,rfl⟩
   rw [←hx] at cl hxM htk
   have hx1:x<M1:=by have:=HM1.out;omega
   have hsn:=freqTo_snoc (f.take i) hx1
   rw [←htk] at hsn
   have hcnt:(f.take i).count x≤256:=Nat.le_trans List.count_le_length (by rw [List.length_take];omega)
   obtain ⟨cp9,ee,_,_,hcell,hfro⟩:=hrow.open_map
   have cq:=hcell x ((f.take i).count x) (freqTo_at _ hx1)
   have fq:=hfro x
   have hset:=hrow.set_ (i:=x) (by rw [zE,freqTo_len];exact hx1) (i64 ((f.take i).count x+1))
   rw [←List.map_set,←hsn] at hset
   generalize (f.take i).count x=c at *
   have cq':wk.cell? ⟨B,x,none⟩=some (.int .i64 c):=cq
   have hset':Row (wk.setCell ⟨B,x,none⟩ (.int .i64 ((c+1:Nat):Int))) 3 (.slice (some ⟨B,0,none⟩) M1 M1) B ((freqTo M1 (f.take (i+1))).map i64):=hset
   have e2:((c+1:Nat):Int)=(c:Int)+1:=by simp
   rw [e2] at hset'
   have HSET:=hid hset'
   have hb0:(0:Int)≤(i:Int):=by omega
   have hb1:(i:Int)<(n:Int):=by omega
   have hb2:(0:Int)≤(x:Int):=by omega
   have hb3:(x:Int)<(M1:Int):=by omega
   clear ee hcell hfro hset hset' hsn htk hx hil cq e2 hrow
   go_wp2_with fail
   go_roundg j
   case measure=>omega
   case rel=>exact ⟨i+1,by go_num,by omega,HSET.out,hch.setCell (.inl (by simp)) _⟩
def mayB (k:Nat) (l:List Int) (W d:Nat):Bool :=
 if k=0 then decide ((diffL l).length=1) else if k≤5 then true else if k=6 then decide ((diffL l).length≤16) else if k=7 then decide (maxN (foldedN l W d)<256) else false
structure Tile (w:World) (l:List Int) (A:Option Addr) (W H d:Nat):Prop where
 w0:1≤W
 w1:W≤16
 h0:1≤H
 h1:H≤16
 d0:1≤d
 d1:d≤16
 len:l.length=W*H
 smp:SmpOk d l
 cells:Cells vi w A l
theorem Tile.pos {w:World} {l:List Int} {A:Option Addr} {W H d:Nat} (t:Tile w l A W H d):0<l.length:=by rw [t.len];exact Nat.mul_pos t.w0 t.h0
theorem Tile.le {w:World} {l:List Int} {A:Option Addr} {W H d:Nat} (t:Tile w l A W H d):l.length≤256:=by rw [t.len];exact Nat.mul_le_mul t.w1 t.h1
theorem Tile.leW {w:World} {l:List Int} {A:Option Addr} {W H d:Nat} (t:Tile w l A W H d):l.length≤64*W:=by
 rw [t.len,Nat.mul_comm]
 exact Nat.mul_le_mul_right W (Nat.le_trans t.h1 (by decide))
theorem Tile.chg {w w':World} {l:List Int} {A:Option Addr} {W H d:Nat} {F:List Nat} (t:Tile w l A W H d) (hA:Apt A l F) (hc:Chg F w w'):Tile w' l A W H d :=
 { t with cells:=t.cells.keep hA hc }
theorem Tile.same {w w':World} {l:List Int} {A:Option Addr} {W H d:Nat} (t:Tile w l A W H d) (hc:Chg [] w w'):Tile w' l A W H d :=
 { t with cells:=t.cells.same hc }
def MayPost (k:Nat) (w:World) (l:List Int) (W d:Nat) (e:Ending) (w':World):Prop:=e=.returned (.bool (mayB k l W d))∧Chg [] w w'
section
variable {w:World} {l:List Int} {A:Option Addr} {W H d:Nat} (cap:Nat) (t:Tile w l A W H d)
include t
theorem may_plain (k:Nat) (hk0:1≤k) (hk:k≤5):Calls Tryz.prog 69 #[.int .i64 k,.slice A l.length cap,.int .i64 W,.int .i64 H,.int .i64 d] w (MayPost k w l W d):=by
 have hty:=isTile_yes l A cap W H d w t.w0 t.w1 t.h0 t.h1 t.d0 t.d1 t.len t.smp t.cells
 have hm:mayB k l W d=true:=by unfold mayB;rw [if_neg (by omega),if_pos hk]
 unfold MayPost
 rw [hm]
 rcases (by omega:k=1∨k=2∨k=3∨k=4∨k=5) with rfl | rfl | rfl | rfl | rfl
 all_goals
  clear t hm
  go_enter Tryz.func69,Tryz.ntmps69
  go_wp2_with (go_at_call 68;refine hty.mono ?_;rintro e w' ⟨rfl,rfl⟩)
  go_ret
  exact ⟨rfl,Chg.refl _ _⟩
theorem may_flat:Calls Tryz.prog 69 #[.int .i64 (0:Nat),.slice A l.length cap,.int .i64 W,.int .i64 H,.int .i64 d] w (MayPost 0 w l W d):=by
 have hty:=isTile_yes l A cap W H d w t.w0 t.w1 t.h0 t.h1 t.d0 t.d1 t.len t.smp t.cells
 have hdi:=different_ok l A cap w t.pos (by have:=t.le;omega) t.cells
 have hm:mayB 0 l W d=decide ((diffL l).length=1):=by unfold mayB;rw [if_pos rfl]
 have hb:(((diffL l).length:Int)==1)=decide ((diffL l).length=1):=by
  by_cases h:(diffL l).length=1
  ·rw [h];rfl
  ·rw [zA h,beq_eq_false_iff_ne];omega
 unfold MayPost
 rw [hm]
 generalize (diffL l).length=k at *
 generalize decide (k=1)=bb at *
 clear t hm
 go_enter Tryz.func69,Tryz.ntmps69
 go_wp2_with (first | (go_at_call 68;refine hty.mono ?_;rintro e w' ⟨rfl,rfl⟩) | (go_at_call 83;refine hdi.mono ?_;rintro e w2 ⟨g,c,rfl,_,_,_,_,ch2⟩))
 go_ret
 exact ⟨rfl,ch2⟩
theorem may_coloured:Calls Tryz.prog 69 #[.int .i64 (6:Nat),.slice A l.length cap,.int .i64 W,.int .i64 H,.int .i64 d] w (MayPost 6 w l W d):=by
 have hty:=isTile_yes l A cap W H d w t.w0 t.w1 t.h0 t.h1 t.d0 t.d1 t.len t.smp t.cells
 have hdi:=different_ok l A cap w t.pos (by have:=t.le;omega) t.cells
 have hm:mayB 6 l W d=decide ((diffL l).length≤16):=by unfold mayB;rw [if_neg (by omega),if_neg (by omega),if_pos rfl]
 have hb:decide (((diffL l).length:Int)≤16)=decide ((diffL l).length≤16):=by
  by_cases h:(diffL l).length≤16
  ·rw [zB h];exact zB (by omega)
  ·rw [zA h];exact zA (by omega)
 unfold MayPost
 rw [hm]
 generalize (diffL l).length=k at *
 generalize decide (k≤16)=bb at *
 clear t hm
 go_enter Tryz.func69,Tryz.ntmps69
 go_wp2_with (first | (go_at_call 68;refine hty.mono ?_;rintro e w' ⟨rfl,rfl⟩) | (go_at_call 83;refine hdi.mono ?_;rintro e w2 ⟨g,c,rfl,_,_,_,_,ch2⟩))
 go_ret
 exact ⟨rfl,ch2⟩
theorem may_prefixed:Calls Tryz.prog 69 #[.int .i64 (7:Nat),.slice A l.length cap,.int .i64 W,.int .i64 H,.int .i64 d] w (MayPost 7 w l W d):=by
 have hty:=isTile_yes l A cap W H d w t.w0 t.w1 t.h0 t.h1 t.d0 t.d1 t.len t.smp t.cells
 have hfo:=folded_ok l A cap W d w t.d0 t.d1 t.w0 (by have:=t.w1;omega) t.leW t.smp t.cells (by have:=t.le;omega)
 have hfl:=foldedN_len l W d
 have hp:=t.pos
 have hle:=t.le
 rw [foldedL_vi] at hfo
 have hm:mayB 7 l W d=decide (maxN (foldedN l W d)<256):=by unfold mayB;rw [if_neg (by omega),if_neg (by omega),if_neg (by omega),if_pos rfl]
 unfold MayPost
 rw [hm]
 obtain ⟨f,hf⟩:∃ f,f=foldedN l W d:=⟨_,rfl⟩
 rw [←hf] at hfo hfl ⊢
 have hb:decide (((maxN f:Nat):Int)<256)=decide (maxN f<256):=by
  by_cases h:maxN f<256
  ·rw [zB h];exact zB (by omega)
  ·rw [zA h];exact zA (by omega)
 have hne:f≠[]:=by intro e;rw [e] at hfl;simp at hfl;omega
 have hmo:=maxOf_nat f hne
 generalize maxN f=M at *
 generalize decide (M<256)=bb at *
 obtain ⟨n,hn⟩:∃ n,n=l.length:=⟨_,rfl⟩
 rw [←hn] at hfl hty hfo hp hle ⊢
 have HFL:=hid hfl
 clear t hm hf hn hfl hne
 go_enter Tryz.func69,Tryz.ntmps69
 go_wp2_with (first | (go_at_call 68;refine hty.mono ?_;rintro e w' ⟨rfl,rfl⟩))
 refine hfo.mono ?_
 rintro e w1 ⟨fv,fg,rfl,hrow,ch1,hfg⟩
 obtain ⟨fc,rfl,hfc,hfcm,_,_⟩:=hrow.open_map
 rw [HFL.out] at hfc ⊢
 have hcI:Cells vi w1 (some ⟨fg,0,none⟩) (f.map Int.ofNat):=by
  have e:f.map i64=(f.map Int.ofNat).map vi:=by rw [List.map_map];rfl
  have h9:=hrow
  rw [e] at h9
  exact h9.toOwn.cells
 have hfl':(f.map Int.ofNat).length=n:=by rw [zE];exact HFL.out
 have hmax:=Tryz.slices_Max_int fg 0 n fc (f.map Int.ofNat) w1 hp (by rw [hfl'];exact Nat.le_refl _) (by omega) (Cells.getD_ hcI)
 rw [List.take_of_length_le (by rw [hfl'];exact Nat.le_refl _),hmo] at hmax
 clear hfo hcI hfl' hrow
 go_wp2_with fail
 refine hmax.mono ?_
 rintro e w' ⟨rfl,rfl⟩
 go_wp2
 go_ret
 exact ⟨rfl,ch1⟩
theorem may_all (k:Nat) (hk:k≤7):Calls Tryz.prog 69 #[.int .i64 k,.slice A l.length cap,.int .i64 W,.int .i64 H,.int .i64 d] w (MayPost k w l W d):=by
 rcases (by omega:k=0∨(1≤k∧k≤5)∨k=6∨k=7) with rfl | h | rfl | rfl
 ·exact may_flat cap t
 ·exact may_plain cap t k h.1 h.2
 ·exact may_coloured cap t
 ·exact may_prefixed cap t
end
def copyBits (l:List Int) (W d:Nat):List Nat:=matchBits (leastF l (d+1) 12) W d
def kindBits (k:Nat) (l:List Int) (W H d:Nat):List Nat :=
 if k=0 then bitsOf (l.getD 0 0).toNat d else if k=1 then allOf l d else if k=2 then guessedBits l W H d else if k=3 then modelBits l W d (W*H)
 else if k=4 then copyBits l W d else if k=5 then rangedBits l W d else if k=6 then colouredBits l d else prefBits l W d
def tileBits (k:Nat) (l:List Int) (W H d:Nat):List Nat:=bitsOf k 3++kindBits k l W H d
def PutPost (w:World) (b:Nat) (F bs ts:List Nat) (e:Ending) (w':World):Prop:=e=.returned (.int .i64 0)∧∃ F',IsWr w' b F' (bs++ts)∧Grow F F' w w'
section
variable {w:World} {l:List Int} {A:Option Addr} {W H d:Nat} (cap:Nat) (t:Tile w l A W H d) (b:Nat) (F bs:List Nat) (h:IsWr w b F bs) (hA:Apt A l F) (hp:Pts w) (h0F:0∉F) (hbs:bs.length<34359738368)
include t h hA hp h0F hbs
theorem putBy_flat (hm:mayB 0 l W d=true):Calls Tryz.prog 71 #[.pointer (some ⟨b,0,none⟩),.int .i64 (0:Nat),.slice A l.length cap,.int .i64 W,.int .i64 H,.int .i64 d] w (PutPost w b F bs (tileBits 0 l W H d)):=by
 have hmay:=may_all cap t 0 (by omega)
 unfold MayPost at hmay
 rw [hm] at hmay
 unfold PutPost
 have htb:∀ X:List Nat,bs++(bitsOf 0 3++X)=bs++bitsOf 0 3++X:=fun X=>(List.append_assoc _ _ _).symm
 have htile:tileBits 0 l W H d=bitsOf 0 3++bitsOf (l.getD 0 0).toNat d:=rfl
 rw [htile,htb]
 have HT:=hid t
 have HA:=hid hA
 have hsm:=getD_ok t.smp 0
 have hlp:=t.pos
 obtain ⟨x,hx⟩:∃ x,x=l.getD 0 0:=⟨_,rfl⟩
 rw [←hx] at hsm ⊢
 have hxn:x=((x.toNat:Nat):Int):=(Int.toNat_of_nonneg hsm.1).symm
 have hlt:x.toNat<2^d:=by
  have e2:((2^d:Nat):Int)=(2:Int)^d:=by simp
  omega
 obtain ⟨k,hk⟩:∃ k,k=x.toNat:=⟨_,rfl⟩
 rw [←hk] at hxn hlt ⊢
 have hk16:k<65536:=Nat.lt_of_lt_of_le hlt (by have:=Nat.pow_le_pow_right (n:=2) (by decide) t.d1;exact this)
 have HX:=hid (And.intro hx hxn)
 have HLT:=hid hlt
 have hd16:=t.d1
 clear hx hsm hxn hlt hk
 clear t hA hm htb htile
 go_enter Tryz.func71,Tryz.ntmps71
 go_wp2_with fail
 refine hmay.mono ?_
 rintro e w1 ⟨rfl,ch1⟩
 go_wp2_with fail
 refine (wput_ok w1 b F bs 0 3 (h.same ch1) (by omega) (by omega) (by omega)).mono ?_
 rintro e w2 ⟨rfl,F2,hwr2,hgr2⟩
 have hgrw:=Grow.pre ch1 hgr2
 have ht2:=HT.out.chg HA.out hgrw.chg
 have ha2:=HA.out.grow HT.out.cells hgrw
 have hb2:(bs++bitsOf 0 3).length<68719476736:=by rw [zC,bitsOf_len];omega
 have h02:0∉F2:=hgrw.out hp.lt h0F
 have hp2:=hp.chg hgrw.chg h0F
 obtain ⟨g,o,rfl,cl⟩:=ht2.cells.at_ hlp
 have hx0:l[0]=(k:Int):=by
  rw [←HX.out.2,HX.out.1,zD,zF hlp];rfl
 rw [hx0] at cl
 have cl':w2.cell? ⟨g,o,none⟩=some (.int .i64 k):=cl
 have hl0:(0:Int)<(l.length:Int):=by omega
 have hlen0:¬ ((l.length:Int)≤0):=by omega
 clear cl hx0
 go_wp2_with fail
 refine (wput_ok w2 b F2 _ k d hwr2 (by omega) HLT.out (by omega)).mono ?_
 rintro e w3 ⟨rfl,F3,hwr3,hgr3⟩
 go_wp2_with fail
 go_ret
 exact ⟨rfl,F3,hwr3,hgrw.trans hgr3⟩
theorem putBy_plain (hm:mayB 1 l W d=true):Calls Tryz.prog 71 #[.pointer (some ⟨b,0,none⟩),.int .i64 (1:Nat),.slice A l.length cap,.int .i64 W,.int .i64 H,.int .i64 d] w (PutPost w b F bs (tileBits 1 l W H d)):=by
 have hmay:=may_all cap t 1 (by omega)
 unfold MayPost at hmay
 rw [hm] at hmay
 unfold PutPost
 have htb:∀ X:List Nat,bs++(bitsOf 1 3++X)=bs++bitsOf 1 3++X:=fun X=>(List.append_assoc _ _ _).symm
 have htile:tileBits 1 l W H d=bitsOf 1 3++allOf l d:=rfl
 rw [htile,htb]
 have HT:=hid t
 have HA:=hid hA
 clear t hA hm htb htile
 go_enter Tryz.func71,Tryz.ntmps71
 go_wp2_with fail
 refine hmay.mono ?_
 rintro e w1 ⟨rfl,ch1⟩
 go_wp2_with fail
 refine (wput_ok w1 b F bs 1 3 (h.same ch1) (by omega) (by omega) (by omega)).mono ?_
 rintro e w2 ⟨rfl,F2,hwr2,hgr2⟩
 have hgrw:=Grow.pre ch1 hgr2
 have ht2:=HT.out.chg HA.out hgrw.chg
 have ha2:=HA.out.grow HT.out.cells hgrw
 have hb2:(bs++bitsOf 1 3).length<68719476736:=by rw [zC,bitsOf_len];omega
 have h02:0∉F2:=hgrw.out hp.lt h0F
 have hp2:=hp.chg hgrw.chg h0F
 have hc:=putAll_ok w2 b F2 _ l A cap d hwr2 ht2.d1 (by have:=ht2.le;omega) ht2.smp ht2.cells ha2 (by omega)
 go_wp2_with fail
 refine hc.mono ?_
 rintro e w3 ⟨rfl,F3,hwr3,hgr3⟩
 go_wp2_with fail
 go_ret
 exact ⟨rfl,F3,hwr3,hgrw.trans hgr3⟩
theorem putBy_guessed (hm:mayB 2 l W d=true):Calls Tryz.prog 71 #[.pointer (some ⟨b,0,none⟩),.int .i64 (2:Nat),.slice A l.length cap,.int .i64 W,.int .i64 H,.int .i64 d] w (PutPost w b F bs (tileBits 2 l W H d)):=by
 have hmay:=may_all cap t 2 (by omega)
 unfold MayPost at hmay
 rw [hm] at hmay
 unfold PutPost
 have htb:∀ X:List Nat,bs++(bitsOf 2 3++X)=bs++bitsOf 2 3++X:=fun X=>(List.append_assoc _ _ _).symm
 have htile:tileBits 2 l W H d=bitsOf 2 3++guessedBits l W H d:=rfl
 rw [htile,htb]
 have HT:=hid t
 have HA:=hid hA
 clear t hA hm htb htile
 go_enter Tryz.func71,Tryz.ntmps71
 go_wp2_with fail
 refine hmay.mono ?_
 rintro e w1 ⟨rfl,ch1⟩
 go_wp2_with fail
 refine (wput_ok w1 b F bs 2 3 (h.same ch1) (by omega) (by omega) (by omega)).mono ?_
 rintro e w2 ⟨rfl,F2,hwr2,hgr2⟩
 have hgrw:=Grow.pre ch1 hgr2
 have ht2:=HT.out.chg HA.out hgrw.chg
 have ha2:=HA.out.grow HT.out.cells hgrw
 have hb2:(bs++bitsOf 2 3).length<68719476736:=by rw [zC,bitsOf_len];omega
 have h02:0∉F2:=hgrw.out hp.lt h0F
 have hp2:=hp.chg hgrw.chg h0F
 have hc:=putGuessed_ok w2 b F2 _ l A cap W H d hwr2 ht2.w0 ht2.w1 ht2.h0 ht2.h1 ht2.d0 ht2.d1 ht2.len ht2.smp ht2.cells ha2 hb2
 go_wp2_with fail
 refine hc.mono ?_
 rintro e w3 ⟨rfl,F3,hwr3,hgr3⟩
 go_wp2_with fail
 go_ret
 exact ⟨rfl,F3,hwr3,hgrw.trans hgr3⟩
theorem putBy_modelled (hm:mayB 3 l W d=true):Calls Tryz.prog 71 #[.pointer (some ⟨b,0,none⟩),.int .i64 (3:Nat),.slice A l.length cap,.int .i64 W,.int .i64 H,.int .i64 d] w (PutPost w b F bs (tileBits 3 l W H d)):=by
 have hmay:=may_all cap t 3 (by omega)
 unfold MayPost at hmay
 rw [hm] at hmay
 unfold PutPost
 have htb:∀ X:List Nat,bs++(bitsOf 3 3++X)=bs++bitsOf 3 3++X:=fun X=>(List.append_assoc _ _ _).symm
 have htile:tileBits 3 l W H d=bitsOf 3 3++modelBits l W d (W*H):=rfl
 rw [htile,htb]
 have HT:=hid t
 have HA:=hid hA
 clear t hA hm htb htile
 go_enter Tryz.func71,Tryz.ntmps71
 go_wp2_with fail
 refine hmay.mono ?_
 rintro e w1 ⟨rfl,ch1⟩
 go_wp2_with fail
 refine (wput_ok w1 b F bs 3 3 (h.same ch1) (by omega) (by omega) (by omega)).mono ?_
 rintro e w2 ⟨rfl,F2,hwr2,hgr2⟩
 have hgrw:=Grow.pre ch1 hgr2
 have ht2:=HT.out.chg HA.out hgrw.chg
 have ha2:=HA.out.grow HT.out.cells hgrw
 have hb2:(bs++bitsOf 3 3).length<68719476736:=by rw [zC,bitsOf_len];omega
 have h02:0∉F2:=hgrw.out hp.lt h0F
 have hp2:=hp.chg hgrw.chg h0F
 have hc:=mput_ok w2 b F2 _ l A cap W H d hwr2 ht2.w0 (by have:=ht2.w1;omega) ht2.h0 (by have:=ht2.h1;omega) ht2.d0 ht2.d1 ht2.len ht2.smp ht2.cells ha2 (by omega)
 go_wp2_with fail
 refine hc.mono ?_
 rintro e w3 ⟨rfl,F3,hwr3,hgr3⟩
 go_wp2_with fail
 go_ret
 exact ⟨rfl,F3,hwr3,hgrw.trans hgr3⟩
theorem putBy_copied (hm:mayB 4 l W d=true):Calls Tryz.prog 71 #[.pointer (some ⟨b,0,none⟩),.int .i64 (4:Nat),.slice A l.length cap,.int .i64 W,.int .i64 H,.int .i64 d] w (PutPost w b F bs (tileBits 4 l W H d)):=by
 have hmay:=may_all cap t 4 (by omega)
 unfold MayPost at hmay
 rw [hm] at hmay
 unfold PutPost
 have htb:∀ X:List Nat,bs++(bitsOf 4 3++X)=bs++bitsOf 4 3++X:=fun X=>(List.append_assoc _ _ _).symm
 have htile:tileBits 4 l W H d=bitsOf 4 3++copyBits l W d:=rfl
 rw [htile,htb]
 have HT:=hid t
 have HA:=hid hA
 have hcb:copyBits l W d=matchBits (leastF l (d+1) 12) W d:=rfl
 rw [hcb]
 have hd16:=t.d1
 clear hcb
 clear t hA hm htb htile
 go_enter Tryz.func71,Tryz.ntmps71
 go_wp2_with fail
 refine hmay.mono ?_
 rintro e w1 ⟨rfl,ch1⟩
 go_wp2_with fail
 refine (wput_ok w1 b F bs 4 3 (h.same ch1) (by omega) (by omega) (by omega)).mono ?_
 rintro e w2 ⟨rfl,F2,hwr2,hgr2⟩
 have hgrw:=Grow.pre ch1 hgr2
 have ht2:=HT.out.chg HA.out hgrw.chg
 have ha2:=HA.out.grow HT.out.cells hgrw
 have hb2:(bs++bitsOf 4 3).length<68719476736:=by rw [zC,bitsOf_len];omega
 have h02:0∉F2:=hgrw.out hp.lt h0F
 have hp2:=hp.chg hgrw.chg h0F
 have hls:=least_ok l A cap (d+1) 12 w2 (by have:=ht2.le;omega) ht2.cells (by omega) (by omega) (by omega) (by omega)
 have htl:=leastF_len l (d+1) 12
 have htk:=leastF_tok ht2.smp (d+1) 12
 have e1:((d+1:Nat):Int)=(d:Int)+1:=by simp
 rw [e1] at hls
 obtain ⟨T,hT⟩:∃ T,T=leastF l (d+1) 12:=⟨_,rfl⟩
 rw [←hT] at hls htl htk
 have HTT:=hid hT
 have HTK:=hid htk
 clear hT
 have hlt2:=hid hwr2.lt
 clear htk e1
 go_wp2_with fail
 refine hls.mono ?_
 rintro e w4 ⟨A',cap',rfl,hto,ch4,hnew⟩
 have hpt:=mtput_ok w4 b F2 _ T A' cap' W d (hwr2.same ch4) (hp2.same ch4) h02 ht2.w0 (by have:=ht2.w1;omega) ht2.d0 ht2.d1 (by have:=ht2.le;omega) HTK.out hto (fun ad e hm=>by have:=hnew ad e;have:=hlt2.out _ hm;omega) (by omega)
 clear hls
 go_wp2_with fail
 refine hpt.mono ?_
 rintro e w3 ⟨rfl,F3,hwr3,hgr3'⟩
 have hgr3:=Grow.pre ch4 hgr3'
 rw [HTT.out] at hwr3
 go_wp2_with fail
 go_ret
 exact ⟨rfl,F3,hwr3,hgrw.trans hgr3⟩
theorem putBy_ranged (hm:mayB 5 l W d=true):Calls Tryz.prog 71 #[.pointer (some ⟨b,0,none⟩),.int .i64 (5:Nat),.slice A l.length cap,.int .i64 W,.int .i64 H,.int .i64 d] w (PutPost w b F bs (tileBits 5 l W H d)):=by
 have hmay:=may_all cap t 5 (by omega)
 unfold MayPost at hmay
 rw [hm] at hmay
 unfold PutPost
 have htb:∀ X:List Nat,bs++(bitsOf 5 3++X)=bs++bitsOf 5 3++X:=fun X=>(List.append_assoc _ _ _).symm
 have htile:tileBits 5 l W H d=bitsOf 5 3++rangedBits l W d:=rfl
 rw [htile,htb]
 have HT:=hid t
 have HA:=hid hA
 clear t hA hm htb htile
 go_enter Tryz.func71,Tryz.ntmps71
 go_wp2_with fail
 refine hmay.mono ?_
 rintro e w1 ⟨rfl,ch1⟩
 go_wp2_with fail
 refine (wput_ok w1 b F bs 5 3 (h.same ch1) (by omega) (by omega) (by omega)).mono ?_
 rintro e w2 ⟨rfl,F2,hwr2,hgr2⟩
 have hgrw:=Grow.pre ch1 hgr2
 have ht2:=HT.out.chg HA.out hgrw.chg
 have ha2:=HA.out.grow HT.out.cells hgrw
 have hb2:(bs++bitsOf 5 3).length<68719476736:=by rw [zC,bitsOf_len];omega
 have h02:0∉F2:=hgrw.out hp.lt h0F
 have hp2:=hp.chg hgrw.chg h0F
 have hc:=putRanged_ok w2 b F2 _ l A cap W d hwr2 ht2.w0 ht2.w1 ht2.d0 ht2.d1 ht2.le ht2.leW ht2.smp ht2.cells ha2 hb2
 go_wp2_with fail
 refine hc.mono ?_
 rintro e w3 ⟨rfl,F3,hwr3,hgr3⟩
 go_wp2_with fail
 go_ret
 exact ⟨rfl,F3,hwr3,hgrw.trans hgr3⟩
theorem putBy_coloured (hm:mayB 6 l W d=true):Calls Tryz.prog 71 #[.pointer (some ⟨b,0,none⟩),.int .i64 (6:Nat),.slice A l.length cap,.int .i64 W,.int .i64 H,.int .i64 d] w (PutPost w b F bs (tileBits 6 l W H d)):=by
 have hmay:=may_all cap t 6 (by omega)
 unfold MayPost at hmay
 rw [hm] at hmay
 have hk16:(diffL l).length≤16:=by
  unfold mayB at hm
  rw [if_neg (by omega),if_neg (by omega),if_pos rfl] at hm
  exact of_decide_eq_true hm
 unfold PutPost
 have htb:∀ X:List Nat,bs++(bitsOf 6 3++X)=bs++bitsOf 6 3++X:=fun X=>(List.append_assoc _ _ _).symm
 have htile:tileBits 6 l W H d=bitsOf 6 3++colouredBits l d:=rfl
 rw [htile,htb]
 have HT:=hid t
 have HA:=hid hA
 have HK:=hid hk16
 clear hk16
 clear t hA hm htb htile
 go_enter Tryz.func71,Tryz.ntmps71
 go_wp2_with fail
 refine hmay.mono ?_
 rintro e w1 ⟨rfl,ch1⟩
 go_wp2_with fail
 refine (wput_ok w1 b F bs 6 3 (h.same ch1) (by omega) (by omega) (by omega)).mono ?_
 rintro e w2 ⟨rfl,F2,hwr2,hgr2⟩
 have hgrw:=Grow.pre ch1 hgr2
 have ht2:=HT.out.chg HA.out hgrw.chg
 have ha2:=HA.out.grow HT.out.cells hgrw
 have hb2:(bs++bitsOf 6 3).length<68719476736:=by rw [zC,bitsOf_len];omega
 have h02:0∉F2:=hgrw.out hp.lt h0F
 have hp2:=hp.chg hgrw.chg h0F
 have hc:=putColoured_ok w2 b F2 _ l A cap d hwr2 ht2.d0 ht2.d1 ht2.pos ht2.le ht2.smp ht2.cells ha2 HK.out hb2
 go_wp2_with fail
 refine hc.mono ?_
 rintro e w3 ⟨rfl,F3,hwr3,hgr3⟩
 go_wp2_with fail
 go_ret
 exact ⟨rfl,F3,hwr3,hgrw.trans hgr3⟩
theorem putBy_prefixed (hm:mayB 7 l W d=true):Calls Tryz.prog 71 #[.pointer (some ⟨b,0,none⟩),.int .i64 (7:Nat),.slice A l.length cap,.int .i64 W,.int .i64 H,.int .i64 d] w (PutPost w b F bs (tileBits 7 l W H d)):=by
 have hmay:=may_all cap t 7 (by omega)
 unfold MayPost at hmay
 rw [hm] at hmay
 have hk256:maxN (foldedN l W d)<256:=by
  unfold mayB at hm
  rw [if_neg (by omega),if_neg (by omega),if_neg (by omega),if_pos rfl] at hm
  exact of_decide_eq_true hm
 unfold PutPost
 have htb:∀ X:List Nat,bs++(bitsOf 7 3++X)=bs++bitsOf 7 3++X:=fun X=>(List.append_assoc _ _ _).symm
 have htile:tileBits 7 l W H d=bitsOf 7 3++prefBits l W d:=rfl
 rw [htile,htb]
 have HT:=hid t
 have HA:=hid hA
 have HK:=hid hk256
 clear hk256
 clear t hA hm htb htile
 go_enter Tryz.func71,Tryz.ntmps71
 go_wp2_with fail
 refine hmay.mono ?_
 rintro e w1 ⟨rfl,ch1⟩
 go_wp2_with fail
 refine (wput_ok w1 b F bs 7 3 (h.same ch1) (by omega) (by omega) (by omega)).mono ?_
 rintro e w2 ⟨rfl,F2,hwr2,hgr2⟩
 have hgrw:=Grow.pre ch1 hgr2
 have ht2:=HT.out.chg HA.out hgrw.chg
 have ha2:=HA.out.grow HT.out.cells hgrw
 have hb2:(bs++bitsOf 7 3).length<68719476736:=by rw [zC,bitsOf_len];omega
 have h02:0∉F2:=hgrw.out hp.lt h0F
 have hp2:=hp.chg hgrw.chg h0F
 have hc:=putPrefixed_ok w2 b F2 _ l A cap W d hwr2 ht2.w0 ht2.w1 ht2.d0 ht2.d1 ht2.pos ht2.le ht2.leW ht2.smp ht2.cells ha2 HK.out hb2
 go_wp2_with fail
 refine hc.mono ?_
 rintro e w3 ⟨rfl,F3,hwr3,hgr3⟩
 go_wp2_with fail
 go_ret
 exact ⟨rfl,F3,hwr3,hgrw.trans hgr3⟩
theorem putBy_all (k:Nat) (hk:k≤7) (hm:mayB k l W d=true):Calls Tryz.prog 71 #[.pointer (some ⟨b,0,none⟩),.int .i64 k,.slice A l.length cap,.int .i64 W,.int .i64 H,.int .i64 d] w (PutPost w b F bs (tileBits k l W H d)):=by
 rcases (by omega:k=0∨k=1∨k=2∨k=3∨k=4∨k=5∨k=6∨k=7) with rfl | rfl | rfl | rfl | rfl | rfl | rfl | rfl
 ·exact putBy_flat cap t b F bs h hA hp h0F hbs hm
 ·exact putBy_plain cap t b F bs h hA hp h0F hbs hm
 ·exact putBy_guessed cap t b F bs h hA hp h0F hbs hm
 ·exact putBy_modelled cap t b F bs h hA hp h0F hbs hm
 ·exact putBy_copied cap t b F bs h hA hp h0F hbs hm
 ·exact putBy_ranged cap t b F bs h hA hp h0F hbs hm
 ·exact putBy_coloured cap t b F bs h hA hp h0F hbs hm
 ·exact putBy_prefixed cap t b F bs h hA hp h0F hbs hm
end
def costK (k:Nat) (l:List Int) (W H d:Nat):Nat:=(tileBits k l W H d).length
theorem costK_pos (k:Nat) (l:List Int) (W H d:Nat):3≤costK k l W H d:=by
 unfold costK tileBits
 rw [zC,bitsOf_len]
 omega
def pickK (l:List Int) (W H d:Nat):Nat→Nat × Nat
 | 0=>(1,0)
 | m+1=>if mayB m l W d=true∧((pickK l W H d m).2=0∨costK m l W H d<(pickK l W H d m).2) then (m,costK m l W H d) else pickK l W H d m
def bestKind (l:List Int) (W H d:Nat):Nat:=(pickK l W H d 8).1
theorem mayB_one (l:List Int) (W d:Nat):mayB 1 l W d=true:=by unfold mayB;rw [if_neg (by omega),if_pos (by omega)]
theorem pickK_ok (l:List Int) (W H d:Nat):∀ m,((pickK l W H d m).2=0→(pickK l W H d m).1=1∧∀ k,k<m→mayB k l W d=false)∧((pickK l W H d m).2≠0→(pickK l W H d m).1<m∧mayB (pickK l W H d m).1 l W d=true∧(pickK l W H d m).2=costK (pickK l W H d m).1 l W H d∧∀ k,k<m→mayB k l W d=true→(pickK l W H d m).2≤costK k l W H d)
 | 0=>⟨fun _=>⟨rfl,fun k h=>by omega⟩,fun h=>absurd rfl h⟩
 | m+1=>by
  obtain ⟨h1,h2⟩:=pickK_ok l W H d m
  have hp:=costK_pos m l W H d
  unfold pickK
  generalize pickK l W H d m=s at *
  by_cases hc:mayB m l W d=true∧(s.2=0∨costK m l W H d<s.2)
  ·rw [if_pos hc]
   refine ⟨fun h=>by simp only at h;omega,fun _=>⟨by simp only;omega,hc.1,rfl,fun k hk hm => ?_⟩⟩
   simp only
   by_cases e:k=m
   ·rw [e];exact Nat.le_refl _
   ·rcases hc.2 with h3 | h3
    ·have:=(h1 h3).2 k (by omega)
     rw [hm] at this
     cases this
    ·have:=(h2 (by omega)).2.2.2 k (by omega) hm
     omega
  ·rw [if_neg hc]
   refine ⟨fun h=>⟨(h1 h).1,fun k hk => ?_⟩,fun h => ?_⟩
   ·by_cases e:k=m
    ·subst e
     cases hm:mayB k l W d with
     | false=>rfl
     | true=>exact absurd ⟨hm,.inl h⟩ hc
    ·exact (h1 h).2 k (by omega)
   ·obtain ⟨k1,k2,k3,k4⟩:=h2 h
    refine ⟨by omega,k2,k3,fun k hk hm => ?_⟩
    by_cases e:k=m
    ·subst e
     have:¬ costK k l W H d<s.2:=fun h5=>hc ⟨hm,.inr h5⟩
     omega
    ·exact k4 k (by omega) hm
theorem bestKind_ok (l:List Int) (W H d:Nat):bestKind l W H d≤7∧mayB (bestKind l W H d) l W d=true∧∀ k,k≤7→mayB k l W d=true→costK (bestKind l W H d) l W H d≤costK k l W H d:=by
 obtain ⟨h1,h2⟩:=pickK_ok l W H d 8
 have hne:(pickK l W H d 8).2≠0:=fun h=>by
  have:=(h1 h).2 1 (by omega)
  rw [mayB_one] at this
  cases this
 obtain ⟨k1,k2,k3,k4⟩:=h2 hne
 unfold bestKind
 exact ⟨by omega,k2,fun k hk hm=>by rw [←k3];exact k4 k (by omega) hm⟩
section
variable {w:World} {l:List Int} {A:Option Addr} {W H d:Nat} (cap:Nat) (t:Tile w l A W H d) (hp:Pts w)
include t hp
theorem cost_ok (k:Nat) (hk:k≤7) (hm:mayB k l W d=true):Calls Tryz.prog 70 #[.int .i64 k,.slice A l.length cap,.int .i64 W,.int .i64 H,.int .i64 d] w fun e w'=>e=.returned (.int .i64 (costK k l W H d))∧Chg [] w w':=by
 obtain ⟨w1,hw1⟩:∃ w1,w1=w.alloc (.cells #[.slice none 0 0,.int .i64 0] 59):=⟨_,rfl⟩
 obtain ⟨B,hB⟩:∃ B,B=w.heap.size:=⟨_,rfl⟩
 have hwr:IsWr w1 B [B] []:=by rw [hw1,hB];exact IsWr.new w
 have ch1:Chg [] w w1:=by rw [hw1];exact (Chg.refl [] w).alloc _
 have hp0:=hp.lt
 have hap:Apt A l [B]:=Apt.fresh t.cells (F:=[B]) (by rw [hB];simp)
 have hpb:=putBy_all cap (t.same ch1) B [B] [] hwr hap (hp.same ch1) (by simp;omega) (by simp) k hk hm
 have hck:costK k l W H d=(tileBits k l W H d).length:=rfl
 rw [hck]
 unfold PutPost at hpb
 rw [List.nil_append] at hpb
 generalize tileBits k l W H d=ts at *
 have HB:Hid (∀ x∈[B],w.heap.size≤x):=hid (by intro x hx;rw [List.mem_singleton.1 hx,hB];exact Nat.le_refl _)
 have HW1:=hid hw1
 have HBB:=hid hB
 clear t hp hm hk hw1 hB hwr hap hck hp0
 go_enter Tryz.func70,Tryz.ntmps70
 go_wp2_with fail
 rw [←HW1.out,←HBB.out]
 refine hpb.mono ?_
 rintro e w2 ⟨rfl,F2,hwr2,hgr2⟩
 have hln:=wlen_any w2 B F2 ts hwr2
 go_wp2_with fail
 refine hln.mono ?_
 rintro e w' ⟨rfl,rfl⟩
 go_wp2
 go_ret
 exact ⟨rfl,hgr2.fresh HB.out ch1⟩
variable (b:Nat) (F bs:List Nat) (h:IsWr w b F bs) (hA:Apt A l F) (h0F:0∉F) (hbs:bs.length<34359738368)
include h hA h0F hbs
theorem tput_ok:Calls Tryz.prog 52 #[.pointer (some ⟨b,0,none⟩),.slice A l.length cap,.int .i64 W,.int .i64 H,.int .i64 d] w (PutPost w b F bs (tileBits (bestKind l W H d) l W H d)):=by
 have hty:=isTile_yes l A cap W H d w t.w0 t.w1 t.h0 t.h1 t.d0 t.d1 t.len t.smp t.cells
 have HT:=hid t
 have HP:=hid hp
 have HH:=hid h
 have HA:=hid hA
 have hmay:=fun k (hk:k≤7) w' (hc:Chg [] w w')=>may_all cap (t.same hc) k hk
 have hcost:=fun k (hk:k≤7) (hm:mayB k l W d=true) w' (hc:Chg [] w w')=>cost_ok cap (t.same hc) (hp.same hc) k hk hm
 have hbest:=bestKind_ok l W H d
 have hput:=fun w' (hc:Chg [] w w')=>putBy_all cap (t.same hc) b F bs (h.same hc) hA (hp.same hc) h0F hbs (bestKind l W H d) hbest.1 hbest.2.1
 unfold MayPost at hmay
 unfold PutPost at hput ⊢
 have hbk:bestKind l W H d=(pickK l W H d 8).1:=rfl
 generalize tileBits (bestKind l W H d) l W H d=ts at *
 have HM:=hid hmay
 have HC:=hid hcost
 have HPU:=hid hput
 have HBK:=hid hbk
 clear hmay hcost hput hbest hbk t hp h hA
 go_enter Tryz.func52,Tryz.ntmps52
 go_wp2_with (go_at_call 68;refine hty.mono ?_;rintro e w' ⟨rfl,rfl⟩)
 go_loopg [11,12,13,14,21] 8 (fun j vb vl vk vc iv wr=>∃ (m bk lk:Nat),iv=.int .i64 m∧vb=.int .i64 bk∧vl=.int .i64 lk∧m+j=8∧Hid (pickK l W H d m=(bk,lk))∧Chg [] w wr)
 case atStart=>exact ⟨0,1,0,rfl,rfl,rfl,rfl,hid rfl,Chg.refl _ _⟩
 case round =>
  obtain ⟨m,bk,lk,rfl,rfl,rfl,hmj,HK,hch⟩:=hrel
  rcases gk with _ | j
  ·obtain rfl:m=8:=by omega
   have hpu:=HPU.out wr hch
   have hbk:=HBK.out
   rw [HK.out] at hbk
   have hbk':bestKind l W H d=bk:=hbk
   rw [hbk'] at hpu
   clear hbk hbk'
   go_wp2_with fail
   refine hpu.mono ?_
   rintro e w2 ⟨rfl,F2,hwr2,hgr2⟩
   go_wp2
   go_ret
   exact ⟨rfl,F2,hwr2,Grow.pre hch hgr2⟩
  ·have hm7:m≤7:=by omega
   have hmy:=HM.out m hm7 wr hch
   have hcs:=HC.out m hm7
   have hstep:pickK l W H d (m+1)=if mayB m l W d=true∧((pickK l W H d m).2=0∨costK m l W H d<(pickK l W H d m).2) then (m,costK m l W H d) else pickK l W H d m:=rfl
   rw [HK.out] at hstep
   simp only at hstep
   have HST:=hid hstep
   have hb0:(0:Int)≤(m:Int):=by omega
   clear hstep
   cases hmb:mayB m l W d with
   | false =>
    rw [hmb] at hmy
    have hnx:Hid (pickK l W H d (m+1)=(bk,lk)):=hid (by rw [HST.out,if_neg (by rw [hmb];simp)])
    have HMB:=hid hmb
    clear hmb hcs
    go_wp2_with fail
    refine hmy.mono ?_
    rintro e w1 ⟨rfl,ch1⟩
    go_wp2_with fail
    go_roundg j
    case measure=>omega
    case rel=>exact ⟨m+1,bk,lk,by go_num,rfl,rfl,by omega,hnx,hch.trans_same ch1⟩
   | true =>
    rw [hmb] at hmy
    have hcs':=hcs hmb
    obtain ⟨c,hc⟩:∃ c,c=costK m l W H d:=⟨_,rfl⟩
    rw [←hc] at hcs'
    have HCD:=hid hc
    have HMB:=hid hmb
    clear hmb hcs hc
    go_wp2_with fail
    refine hmy.mono ?_
    rintro e w1 ⟨rfl,ch1⟩
    have hc2:=hcs' w1 (hch.trans_same ch1)
    clear hmy hcs'
    go_wp2_with fail
    refine hc2.mono ?_
    rintro e w2 ⟨rfl,ch2⟩
    have hch2:=(hch.trans_same ch1).trans_same ch2
    clear hc2
    by_cases hl0:lk=0
    ·have t1:((lk:Int)==0)=true:=by rw [beq_iff_eq];omega
     have hnx:Hid (pickK l W H d (m+1)=(m,c)):=hid (by rw [HST.out,if_pos ⟨HMB.out,.inl hl0⟩,HCD.out])
     clear hl0
     go_wp2_with fail
     go_roundg j
     case measure=>omega
     case rel=>exact ⟨m+1,m,c,by go_num,rfl,rfl,by omega,hnx,hch2⟩
    ·have t1:((lk:Int)==0)=false:=by rw [beq_eq_false_iff_ne];omega
     by_cases hlt:c<lk
     ·have t2:decide (c<lk)=true:=zB hlt
      have hnx:Hid (pickK l W H d (m+1)=(m,c)):=hid (by rw [HST.out,if_pos ⟨HMB.out,.inr (by rw [←HCD.out];exact hlt)⟩,HCD.out])
      clear hl0 hlt
      go_wp2_with fail
      go_roundg j
      case measure=>omega
      case rel=>exact ⟨m+1,m,c,by go_num,rfl,rfl,by omega,hnx,hch2⟩
     ·have t2:decide (c<lk)=false:=zA hlt
      have hnx:Hid (pickK l W H d (m+1)=(bk,lk)):=hid (by rw [HST.out,if_neg (by rw [←HCD.out];intro h;rcases h.2 with h | h<;>omega)])
      clear hl0 hlt
      go_wp2_with fail
      go_roundg j
      case measure=>omega
      case rel=>exact ⟨m+1,bk,lk,by go_num,rfl,rfl,by omega,hnx,hch2⟩
end
def In64 (x:Int):Prop:=-9223372036854775808≤x∧x≤9223372036854775807
def withinI (x lo hi:Int):Int:=if lo≤x∧x≤hi then x else if x.tmod (hi-lo+1)<0 then lo+(x.tmod (hi-lo+1)+hi-lo+1) else lo+x.tmod (hi-lo+1)
theorem within_in (x:Int) {lo hi:Int} (h:lo≤hi):lo≤withinI x lo hi∧withinI x lo hi≤hi:=by
 unfold withinI
 have h1:=Int.tmod_lt_of_pos x (show 0<hi-lo+1 by omega)
 have h2:=Int.lt_tmod_of_pos x (show 0<hi-lo+1 by omega)
 split
 ·assumption
 ·split<;>omega
theorem within_ok (x lo hi:Int) (w:World) (hx:In64 x) (h0 : -1099511627776≤lo) (h1:lo≤hi) (h2:hi≤1099511627776) :
  Calls Tryz.prog 16 #[.int .i64 x,.int .i64 lo,.int .i64 hi] w fun e w'=>e=.returned (.int .i64 (withinI x lo hi))∧w=w':=by
 obtain ⟨hx0,hx1⟩:=hx
 by_cases hin:lo≤x∧x≤hi
 ·have t1:decide (lo≤x)=true:=zB hin.1
  have t2:decide (x≤hi)=true:=zB hin.2
  have e:withinI x lo hi=x:=by unfold withinI;rw [if_pos hin]
  rw [e]
  clear hin h0 h1 h2 hx0 hx1 e
  go_enter Tryz.func16,Tryz.ntmps16
  go_wp2
  go_ret
  exact ⟨rfl,rfl⟩
 ·have hw:withinI x lo hi=if x.tmod (hi-lo+1)<0 then lo+(x.tmod (hi-lo+1)+hi-lo+1) else lo+x.tmod (hi-lo+1):=by unfold withinI;rw [if_neg hin]
  obtain ⟨m,hm⟩:∃ m,m=hi-lo+1:=⟨_,rfl⟩
  have hm0:0<m:=by omega
  rw [←hm] at hw
  obtain ⟨q,hq⟩:∃ q,q=x.tmod m:=⟨_,rfl⟩
  have hq1:q<m:=by rw [hq];exact Int.tmod_lt_of_pos x hm0
  have hq0 : -m<q:=by rw [hq];exact Int.lt_tmod_of_pos x hm0
  rw [←hq] at hw
  have e1:hi-lo+1=m:=hm.symm
  have e2:x.tmod m=q:=hq.symm
  have hmne:m≠0:=by omega
  rw [hw]
  clear hm hq hw
  have key:∀ b1 b2,decide (lo≤x)=b1→decide (x≤hi)=b2→(b1&&b2)=false→Calls Tryz.prog 16 #[.int .i64 x,.int .i64 lo,.int .i64 hi] w fun e w'=>e=.returned (.int .i64 (if q<0 then lo+(q+hi-lo+1) else lo+q))∧w=w':=by
   intro b1 b2 t1 t2 hb
   by_cases hneg:q<0
   ·have t3:decide (q<0)=true:=zB hneg
    rw [if_pos hneg]
    cases b1<;>cases b2<;>simp at hb
    all_goals
     clear hin
     go_enter Tryz.func16,Tryz.ntmps16
     go_wp2
     go_ret
     exact ⟨rfl,rfl⟩
   ·have t3:decide (q<0)=false:=zA hneg
    rw [if_neg hneg]
    cases b1<;>cases b2<;>simp at hb
    all_goals
     clear hin
     go_enter Tryz.func16,Tryz.ntmps16
     go_wp2
     go_ret
     exact ⟨rfl,rfl⟩
  refine key _ _ rfl rfl ?_
  cases h:(decide (lo≤x)&&decide (x≤hi)) with
  | false=>rfl
  | true =>
   rw [Bool.and_eq_true,decide_eq_true_eq,decide_eq_true_eq] at h
   exact absurd h hin
structure IsTp (w:World) (b:Nat) (A:Option Addr) (cap:Nat) (L:List Int) (at_:Nat):Prop where
 blk:Blk w b 74 #[.slice A L.length cap,.int .i64 at_]
 cells:Cells vi w A L
 apt:Apt A L [b]
 in64:∀ x∈L,In64 x
 at_le:at_≤L.length
 len:L.length≤9223372036854775807
theorem IsTp.same {w w':World} {b cap at_:Nat} {A:Option Addr} {L:List Int} (h:IsTp w b A cap L at_) {F:List Nat} (hc:Chg F w w') (hb:b∉F) (hA:Apt A L F):IsTp w' b A cap L at_ :=
 { h with blk:=h.blk.chg hc hb,cells:=h.cells.keep hA hc }
theorem tp_turn {w:World} {b cap at_:Nat} {A:Option Addr} {L:List Int} (h:IsTp w b A cap L at_) (hlt:at_<L.length) (n1 n2:Nat) :
  IsTp (((w.drewN n1).setCell ⟨b,1,none⟩ (.int .i64 ((at_:Int)+1))).drewN n2) b A cap L (at_+1)∧Chg [b] w (((w.drewN n1).setCell ⟨b,1,none⟩ (.int .i64 ((at_:Int)+1))).drewN n2):=by
 have hcg:Chg [b] w (((w.drewN n1).setCell ⟨b,1,none⟩ (.int .i64 ((at_:Int)+1))).drewN n2):=(((Chg.refl [b] w).drewN n1).setCell (p:=⟨b,1,none⟩) (.inl (by simp)) (.int .i64 ((at_:Int)+1))).drewN n2
 have hbk:=((h.blk.drewN n1).set_ 1 (.int .i64 ((at_:Int)+1))).drewN n2
 have e:((at_+1:Nat):Int)=(at_:Int)+1:=by simp
 refine ⟨⟨?_,h.cells.keep h.apt hcg,h.apt,h.in64,hlt,h.len⟩,hcg⟩
 rw [e]
 simpa using hbk
theorem next_tp (w:World) (b cap at_ n:Nat) (A:Option Addr) (L:List Int) (h:IsTp w b A cap L at_) (hn0:1≤n) (hn1:n≤1073741824) :
  Calls Tryz.prog 31 #[.pointer (some ⟨b,0,none⟩),.int .i64 n] w fun e w'=>∃ v at':Nat,e=.returned (.int .i64 v)∧v<n∧IsTp w' b A cap L at'∧Chg [b] w w':=by
 have b0:=h.blk.cell 0
 have b1:=h.blk.cell 1
 simp at b0 b1
 have HH:=hid h
 obtain ⟨m,hm⟩:∃ m,m=L.length:=⟨_,rfl⟩
 rw [←hm] at b0
 have t2:decide ((n:Int)<1)=false:=zA (by omega)
 by_cases hend:at_=m
 ·have t1:decide ((m:Int)≤(at_:Int))=true:=zB (by omega)
  have t1':decide (m≤at_)=true:=zB (by omega)
  clear h hm hend
  go_enter Tryz.func31,Tryz.ntmps31
  go_wp2
  go_quiet (fail)
  go_wp2
  go_ret
  exact ⟨0,at_,rfl,by omega,HH.out.same ((Chg.refl [] w).drewN nq) (by simp) (fun _ _ _=>by simp),(Chg.refl [b] w).drewN nq⟩
 ·have hlt:at_<m:=by have:=h.at_le;omega
  have hltL:at_<L.length:=by rw [←hm];exact hlt
  have t1:decide ((m:Int)≤(at_:Int))=false:=zA (by omega)
  have t1':decide (m≤at_)=false:=zA (by omega)
  obtain ⟨g,o,rfl,cl⟩:=h.cells.at_ hltL
  have hx64:=h.in64 L[at_] (zG _)
  have hgb:g≠b:=by
   have:=h.apt (by omega) _ rfl
   simpa using this
  obtain ⟨x,hx⟩:∃ x,x=L[at_]:=⟨_,rfl⟩
  rw [←hx] at cl hx64
  have hwi:=fun w=>within_ok x 0 1073741824 w hx64 (by omega) (by omega) (by omega)
  have hin:=within_in x (show (0:Int)≤1073741824 by omega)
  obtain ⟨y,hy⟩:∃ y,y=withinI x 0 1073741824:=⟨_,rfl⟩
  rw [←hy] at hwi hin
  obtain ⟨k,hk⟩:∃ k:Nat,(k:Int)=y:=⟨y.toNat,Int.toNat_of_nonneg hin.1⟩
  rw [←hk] at hwi hin
  have hkn:k%n<n:=Nat.mod_lt _ (by omega)
  have hbs:=h.blk.set_ 1 (.int .i64 ((at_:Int)+1))
  have hlen:=h.len
  have f1:=h.blk.frozen 1
  have cl':w.cell? ⟨g,o+at_,none⟩=some (.int .i64 x):=cl
  have htm:(k:Int).tmod (n:Int)=((k%n:Nat):Int):=by rw [Int.tmod_eq_emod_of_nonneg (by omega)];simp
  have hnne:(n:Int)≠0:=by omega
  obtain ⟨r,hr⟩:∃ r,r=k%n:=⟨_,rfl⟩
  rw [←hr] at htm hkn
  have HKN:=hid hkn
  have hb0:(0:Int)≤(at_:Int):=by omega
  have hb1:(at_:Int)<(m:Int):=by omega
  have hsub:(at_:Int)+1-1=(at_:Int):=by omega
  have HM:=hid hm
  have HBS:=hid hbs
  clear h hm hend cl hy hk hr hkn hx hbs
  go_enter Tryz.func31,Tryz.ntmps31
  go_wp2
  go_quiet (fail)
  go_wp2
  go_quiet ((go_at_call 16;exact quiet_eq (hwi _)))
  go_wp2
  go_ret
  have e:((at_+1:Nat):Int)=(at_:Int)+1:=by simp
  have hlt':at_<L.length:=by rw [←HM.out];exact hlt
  exact ⟨r,at_+1,rfl,HKN.out,(tp_turn HH.out hlt' _ _).1,(tp_turn HH.out hlt' _ _).2⟩
theorem allOf_cons (x:Int) (l:List Int) (n:Nat):allOf (x::l) n=bitsOf x.toNat n++allOf l n:=rfl
theorem allOf_split (l:List Int) (n:Nat) {m:Nat} (hm:m<l.length):allOf (l.drop m) n=bitsOf (l[m]).toNat n++allOf (l.drop (m+1)) n:=by
 rw [List.drop_eq_getElem_cons hm,allOf_cons]
theorem getAll_ok (w:World) (b:Nat) (F ds:List Nat) (p d:Nat) (l:List Int) (h:IsRd w b F ds p) (hd:d≤16) (hs:SmpOk d l) (hl:l.length≤4096) (ha:Ahead ds p (allOf l d)) :
  Calls Tryz.prog 76 #[.pointer (some ⟨b,0,none⟩),.int .i64 l.length,.int .i64 d] w fun e w'=>∃ v g,e=.returned v∧Row w' 3 v g (l.map vi)∧IsRd w' b F ds (p+(allOf l d).length)∧Chg [b] w w'∧w.heap.size≤g:=by
 have HS:=hid hs
 have HA:=hid ha
 have hbl:=h.lt b h.mem
 have hlt:=h.lt
 obtain ⟨n,hn⟩:∃ n,n=l.length:=⟨_,rfl⟩
 rw [←hn] at hl ⊢
 have hmk:=run_make1 (P:=Tryz.prog) int_elem rfl .i64 .i64 n (by omega) (by omega)
 have HN:=hid hn
 have hrow0:=Row.zeros w n (by omega)
 obtain ⟨B,hB⟩:∃ B,B=w.heap.size:=⟨_,rfl⟩
 have ch0:Chg [] w (w.alloc (.cells (List.replicate n (Value.int .i64 0)).toArray 3)):=(Chg.refl [] w).alloc _
 have hrd0:=h.same ch0
 have hbB:b≠B:=by omega
 have HFB:Hid (∀ y∈F,y∉[B]):=hid (fun y hy hm=>by have:=hlt y hy;simp at hm;omega)
 rw [←hB] at hrow0
 have HB:=hid hB
 clear hn hs ha hB h hlt
 go_enter Tryz.func76,Tryz.ntmps76
 go_wp2_with fail
 rw [←HB.out]
 go_loopg [13] n (fun j iv wr=>∃ (done:List Int) (p':Nat),iv=.int .i64 done.length∧done.length+j=n∧Hid (done=l.take done.length)∧Row wr 3 (.slice (some ⟨B,0,none⟩) n n) B ((fillL done n).map vi)∧IsRd wr b F ds p'∧Hid (Ahead ds p' (allOf (l.drop done.length) d))∧Hid (p'+(allOf (l.drop done.length) d).length=p+(allOf l d).length)∧Hid (Chg [b] w wr))
 case atStart=>exact ⟨[],p,rfl,by simp,hid (by simp),hrow0,hrd0,by simpa using HA,hid (by simp),hid (ch0.mono (by simp))⟩
 case round =>
  clear hrow0 ch0 hrd0
  obtain ⟨done,p',rfl,hdl,Hd,hrow,hrd,Ha,Hp,HCH⟩:=hrel
  obtain ⟨m,hm⟩:∃ m,m=done.length:=⟨_,rfl⟩
  rcases gk with _ | j
  ·rw [←hm] at hdl Ha Hp ⊢
   obtain rfl:m=n:=by omega
   have t1:decide ((m:Int)<(m:Int))=false:=by simp
   have HM:=hid hm
   clear hm hdl
   go_wp2
   go_ret
   have e:done=l:=by rw [Hd.out,←HM.out,HN.out,List.take_length]
   have e2:l.drop m=[]:=by rw [HN.out,List.drop_length]
   have hp:=Hp.out
   rw [e2] at hp
   rw [fillL_full HM.out.symm,e] at hrow
   exact ⟨_,B,rfl,hrow,hrd.cast (by simpa [allOf] using hp),HCH.out,by have:=HB.out;omega⟩
  ·have hml:m<l.length:=by rw [←HN.out];omega
   have hsp:=allOf_split l d hml
   have htk:=take_snoc' l hml
   obtain ⟨x,hx⟩:∃ x,x=l[m]:=⟨_,rfl⟩
   have hxs:=HS.out l[m] (zG _)
   rw [←hx] at hsp hxs htk
   obtain ⟨X,hX⟩:∃ X:Nat,X=x.toNat:=⟨_,rfl⟩
   have hxX:x=(X:Int):=by omega
   have ha1:=Ha.out
   rw [←hm,hsp,←hX] at ha1
   have hXd:X<2^d:=by
    have e:(2:Int)^d=((2^d:Nat):Int):=by simp
    have:=hxs.2
    rw [e,hxX] at this
    omega
   have hX16:X<65536:=Nat.lt_of_lt_of_le hXd (show 2^d≤2^16 from Nat.pow_le_pow_right (by decide) hd)
   have hget:=rget_ahead wr b F ds p' d X hrd (by omega) hXd ha1.left
   have HA2:=hid ha1.right
   have HSP:=hid hsp
   have HTK:=hid htk
   have HX:=hid hX
   have HXX:=hid hxX
   have HROW:=hid hrow
   have HML:=hid hml
   have HM:=hid hm
   have hdl2:m+(j+1)=n:=by omega
   rw [←hm]
   clear hml hsp htk hx hxs ha1 hXd hX hxX hrd hrow hm hdl
   go_wp2_with fail
   refine hget.mono ?_
   rintro e w1 ⟨rfl,hr1,ch1⟩
   have hrow1:=HROW.out.chg ch1 (by simpa using hbB.symm)
   obtain ⟨hce,hfr⟩:=hrow1.fill_cell (by have:=HM.out;omega)
   have hfill:=hrow1.fill (by have:=HM.out;omega) (X:Int)
   rw [←HM.out] at hce hfr hfill
   have HFI:=hid hfill
   have hlen1:(fillL done n).length=n:=fillL_len (by have:=HM.out;omega)
   clear hget hrow1 hfill
   go_wp2
   go_roundg j
   case measure=>omega
   case rel =>
    have hch2:Chg [B] w1 (w1.setCell ⟨B,m,none⟩ (.int .i64 X)):=(Chg.refl _ _).setCell (.inl (by simp)) _
    have hlen:(done++[(X:Int)]).length=m+1:=by rw [zC,List.length_singleton,←HM.out]
    refine ⟨done++[(X:Int)],p'+d,by rw [hlen];go_num,by rw [hlen];omega,?_,HFI.out,hr1.chg hch2 HFB.out,?_,?_,?_⟩
    ·rw [hlen,HTK.out,HXX.out]
     have:=Hd.out
     rw [←HM.out] at this
     rw [←this]
     exact hid rfl
    ·rw [hlen]
     have:=HA2.out
     rw [bitsOf_len] at this
     exact hid this
    ·rw [hlen]
     have h1:=Hp.out
     have h2:=HSP.out
     rw [←HM.out,h2,zC,bitsOf_len] at h1
     exact hid (by omega)
    ·exact hid ((HCH.out.trans_same ch1).trans hch2 fun y hy => .inr (by have:=HB.out;simp at hy;omega))
theorem allOf_cons1 (x:Int) (l:List Int) (n:Nat):allOf (x::l) n=bitsOf x.toNat n++allOf l n:=rfl
theorem all_len (l:List Int) (n:Nat):(allOf l n).length=n*l.length:=by
 induction l with
 | nil=>rfl
 | cons x l ih=>rw [allOf_cons1,zC,bitsOf_len,ih,List.length_cons,Nat.mul_add];omega
theorem maxN_below {l:List Nat} {B:Nat} (h:∀ x∈l,x≤B):maxN l≤B:=by
 unfold maxN
 suffices H:∀ (l:List Nat) (m:Nat),m≤B→(∀ x∈l,x≤B)→l.foldl max m≤B from H l 0 (Nat.zero_le _) h
 intro l
 induction l with
 | nil=>intro m hm _;exact hm
 | cons x l ih=>intro m hm hl;exact ih _ (by have := hl x (by simp);omega) (fun y hy=>hl y (by simp [hy]))
theorem getGuessed_ok (w:World) (b:Nat) (F ds:List Nat) (p:Nat) (l:List Int) (W H d:Nat) (h:IsRd w b F ds p) (hw0:1≤W) (hw1:W≤16) (hh0:1≤H) (hh1:H≤16) (h0:1≤d) (h1:d≤16) (hl:l.length=W*H) (hs:SmpOk d l) (ha:Ahead ds p (guessedBits l W H d)) :
  Calls Tryz.prog 77 #[.pointer (some ⟨b,0,none⟩),.int .i64 W,.int .i64 H,.int .i64 d] w fun e w'=>∃ v g,e=.returned (.tuple #[v,.int .i64 0])∧Row w' 3 v g (l.map vi)∧IsRd w' b F ds (p+(guessedBits l W H d).length)∧Chg [b] w w'∧w.heap.size≤g:=by
 have hgb:guessedBits l W H d=allOf (kindsI l W H d) 4++planBits (foreF l W H d) (W*H):=rfl
 rw [hgb] at ha ⊢
 rw [zC]
 have hki:=kindsI_vi l W H d
 have hkl:=kindsI_len l W H d
 have hko:=kindsI_ok l W H d
 have hka:=fun hr=>getAll_ok w b F ds p 4 (kindsI l W H d) hr (by omega) hko (by rw [hkl];omega) ha.left
 have ha2:=ha.right
 have hfl:=foreF_len l W H d
 have hfw:=foreF_wide l W H d h0 h1
 obtain ⟨m,hm⟩:∃ m,m=W*H:=⟨_,rfl⟩
 have hm1:1≤m:=by rw [hm];exact Nat.mul_pos hw0 hh0
 have hm256:m≤256:=by rw [hm];exact Nat.mul_le_mul hw1 hh1
 have hmI:(W:Int)*(H:Int)=(m:Int):=by rw [hm];simp
 have hEF:foreF l W H d=(foreL l W H d (bestKinds l W H d)).map fun v=>foldI v d:=rfl
 have hEb:=fore_back l W H d (bestKinds l W H d)
 rw [←hEF] at hEb
 have hEo:=foreL_ok l W H d (bestKinds l W H d)
 have hEl:=foreL_len l W H d (bestKinds l W H d)
 have hEa:=fun y x (hy:y<H) (hx:x<W)=>foreL_at l d (bestKinds l W H d) hy hx
 have hfi:∀ x∈foreF l W H d,foldI x d=x:=fun x hx=>by
  rw [hEF] at hx
  obtain ⟨v,_,rfl⟩:=List.mem_map.1 hx
  obtain ⟨r0,r1⟩:=foldI_range v h0
  exact foldI_in h0 r0 r1
 have hbk:=fun A AK cap capk w' (hc:Cells vi w' A (foreL l W H d (bestKinds l W H d))) (hk:Cells i64 w' AK (bestKinds l W H d)) =>
  gback_ok l (foreL l W H d (bestKinds l W H d)) (bestKinds l W H d) A AK cap capk W H d w' hw0 (by omega) hh0 (by omega) h0 h1 hl hs hEl hEo (fun y x hy hx=>hEa y x hy hx) (bestKinds_len l W H d) (bestKinds_ok l W H d) hc hk
 rw [hEl,←hm,bestKinds_len] at hbk
 have hck':∀ Ak w,Cells vi w Ak (kindsI l W H d)→Cells i64 w Ak (bestKinds l W H d):=fun Ak w h=>Cells.map (f:=vi) (k:=Int.ofNat) h
 have hkmx:maxN (bestKinds l W H d)≤9:=maxN_below (fun x hx=>by have:=bestKinds_ok l W H d x hx;omega)
 have hkne:bestKinds l W H d≠[]:=fun e=>by have:=bestKinds_len l W H d;rw [e] at this;simp at this;omega
 have hmxn:=maxOf_nat (bestKinds l W H d) hkne
 have hkI:kindsI l W H d=(bestKinds l W H d).map Int.ofNat:=rfl
 rw [←hkI] at hmxn
 rw [←hm] at ha2 hfl ⊢
 have hpo:=bestPlan_ok (n:=m) (warm:=0) (most:=4) (by omega) (foreF l W H d)
 have hko':=ksOk_best (n:=m) (foreF l W H d)
 have hkl':=ks_len_best (n:=m) (foreF l W H d)
 have hpg:=fun w' (hr:IsRd w' b F ds (p+(allOf (kindsI l W H d) 4).length))=>pget_ok w' b F ds (p+(allOf (kindsI l W H d) 4).length) _ m 0 _ (foreF l W H d) hr hpo.2.1 hm1 (by omega) (by omega) hpo.1.1 hkl' hko' hfl hfw ha2
 have hpe:planBits (foreF l W H d) m=bitsP (bestPlan m 0 4 (foreF l W H d)).order (bestPlan m 0 4 (foreF l W H d)).ks (splitL (sizesL (bestPlan m 0 4 (foreF l W H d)).order m 0) (foreF l W H d)):=rfl
 rw [←hpe] at hpg
 obtain ⟨E,hE⟩:∃ E,E=foreL l W H d (bestKinds l W H d):=⟨_,rfl⟩
 obtain ⟨EF,hEFe⟩:∃ EF,EF=foreF l W H d:=⟨_,rfl⟩
 rw [←hE] at hEb hbk
 rw [←hEFe] at hEb hfi hfl hpg
 rw [←hEFe]
 obtain ⟨K,hK⟩:∃ K,K=kindsI l W H d:=⟨_,rfl⟩
 rw [←hK] at hka hkl hmxn hck' hpg
 rw [←hK]
 obtain ⟨mx,hmx⟩:∃ mx,mx=maxN (bestKinds l W H d):=⟨_,rfl⟩
 rw [←hmx] at hkmx hmxn
 obtain ⟨a1,ha1⟩:∃ a1,a1=(allOf K 4).length:=⟨_,rfl⟩
 obtain ⟨a2,ha2e⟩:∃ a2,a2=(planBits EF m).length:=⟨_,rfl⟩
 rw [←ha1] at hka hpg ⊢
 rw [←ha2e] at hpg ⊢
 rw [hkl] at hka
 generalize (bestPlan m 0 4 EF).order=po at hpg
 have hka1:=hka h
 rw [show ((4:Nat):Int)=4 from rfl] at hka1
 have t9:decide ((9:Int)<(mx:Int))=false:=zA (by omega)
 have hbl:=h.lt b h.mem
 have hlt:=h.lt
 have HKL:=hid hkl
 have HMX:=hid hmxn
 have HCK:=hid hck'
 have HPG:=hid hpg
 have HEB:=hid hEb
 have HFI:=hid hfi
 have HBK:=hid hbk
 have HFL:=hid hfl
 have HLT:=hid hlt
 clear hgb hki hkl hko hka ha ha2 hfl hfw hm hEF hEb hEo hEl hEa hfi hbk hck' hkne hkI hpo hko' hkl' hpg hpe hE hEFe hK hmx ha1 ha2e hmxn hs hl h hlt
 go_enter Tryz.func77,Tryz.ntmps77
 go_wp2_with fail
 refine hka1.mono ?_
 rintro e w1 ⟨vk,gk',rfl,hrowk,hr1,ch1,hgk⟩
 obtain ⟨ck,rfl,hck1,hck2,_,_⟩:=hrowk.open_map
 have hcK:Cells vi w1 (some ⟨gk',0,none⟩) K:=hrowk.toOwn.cells
 have hmax:=Tryz.slices_Max_int gk' 0 H ck K w1 (by omega) (by rw [HKL.out];exact Nat.le_refl _) (by omega) (Cells.getD_ hcK)
 rw [List.take_of_length_le (by rw [HKL.out];exact Nat.le_refl _),HMX.out] at hmax
 rw [HKL.out]
 have hgklt:=hrowk.lt
 have hpg:=HPG.out w1 hr1
 rw [show ((0:Nat):Int)=0 from rfl] at hpg
 clear hka1 hrowk
 go_wp2_with (go_at_call 60;refine (err_ok _ b F ds _ hr1).mono ?_;rintro e w' ⟨rfl,rfl⟩)
 refine hmax.mono ?_
 rintro e w' ⟨rfl,rfl⟩
 clear hmax
 go_wp2_with fail
 refine hpg.mono ?_
 rintro e w2 ⟨Ap,np,cp,v2,G2,rfl,own2,hr2,ch2,hG2⟩
 have hgkb:gk'∉[b]:=by simp;omega
 have hcK2:Cells vi w2 (some ⟨gk',0,none⟩) K:=hcK.keep (fun _ ad e=>by injection e with e;subst e;exact hgkb) ch2
 rcases own2.cases with ⟨_,hnil,_⟩ | ⟨g,row2,rfl⟩
 ·exfalso
  have:=congrArg List.length hnil
  rw [zE,HFL.out] at this
  simp at this
  omega
 obtain ⟨cg,rfl,hcg1,hcg2,_,_⟩:=row2.open_map
 rw [HFL.out] at hcg1 row2 ⊢
 have hg1:=hG2 g (by simp)
 have hch12:=ch1.trans_same ch2
 have hbp:=hr2.lt
 obtain ⟨w3,hw3⟩:∃ w3,w3=w2.alloc (.cells #[.int .i64 po,.slice Ap np cp] 121):=⟨_,rfl⟩
 have ch3:Chg [] w2 w3:=by rw [hw3];exact (Chg.refl [] w2).alloc _
 have hr3:=hr2.same ch3
 have row3:=row2.chg ch3 (by simp)
 have hcK3:=hcK2.same ch3
 have hch3:=hch12.trans ch3 (by simp)
 have hggk:g≠gk':=by omega
 have HW3:=hid hw3
 have hfoldd:=fun v w'=>fold_ok v d w' h0 h1
 have hwrapd:=fun v w'=>wrap_ok v d w' h0 h1
 clear own2 row2 hr2 hcK hcK2 hpg hw3 hch12 ch2 hG2 hr1 ch1
 go_wp2_with fail
 rw [←HW3.out]
 go_loopg [15,16,42] m (fun j va vb iv wr=>∃ (i:Nat),iv=.int .i64 i∧i+j=m∧Row wr 3 (.slice (some ⟨g,0,none⟩) m cg) g ((mixL (fun v=>wrapI v d) EF i).map vi)∧Chg [g] w3 wr)
 case atStart=>exact ⟨0,rfl,by omega,by rw [mixL_zero];exact row3,Chg.refl _ _⟩
 case round =>
  clear row3
  obtain ⟨i,rfl,hij,hrow,hch⟩:=hrel
  rcases gk with _ | j
  ·obtain rfl:m=i:=by omega
   have t1:decide (m<m)=false:=by simp
   rw [←HFL.out,mixL_full,HEB.out,HFL.out] at hrow
   have hcE:Cells vi wr (some ⟨g,0,none⟩) E:=hrow.toOwn.cells
   have hcK4:=HCK.out _ _ (hcK3.chg hch (fun ad e=>by injection e with e;subst e;simp;omega))
   have hbk:=HBK.out _ _ cg ck wr hcE hcK4
   have hr4:=hr3.chg hch (fun x hx hm=>by simp at hm;have:=HLT.out x hx;omega)
   have hch4:=hch3.trans hch (fun x hx=>by simp at hx;right;omega)
   clear hcE hcK4 hcK3 hrow
   go_wp2_with fail
   refine hbk.mono ?_
   rintro e w5 ⟨v5,g5,rfl,hrow5,ch5,hg5⟩
   go_wp2
   go_ret2
   exact ⟨v5,g5,rfl,hrow5,(hr4.same ch5).cast (by omega),hch4.trans ch5 (by simp),by have:=hch4.size;omega⟩
  ·have him:i<m:=by omega
   have t1:decide (i<m)=true:=zB him
   have hiE:i<EF.length:=by rw [HFL.out];exact him
   obtain ⟨cap',heq,_,_,hcell,hfro⟩:=hrow.open_map
   have hce:=hcell i _ (mixL_at (fun v=>wrapI v d) EF hiE)
   have hfr:=hfro i
   have hset:=hrow.set_ (i:=i) (by rw [zE,mixL_len];exact hiE) (vi (wrapI (EF.getD i 0) d))
   rw [←List.map_set,mixL_set (fun v=>wrapI v d) EF hiE] at hset
   have hxf:=HFI.out (EF.getD i 0) (by rw [zD,zF hiE];exact zG hiE)
   have hfd:=fun w=>hfoldd (EF.getD i 0) w
   have hwd:=fun w=>hwrapd (EF.getD i 0) w
   rw [hxf] at hfd
   generalize EF.getD i 0=x at *
   have t2:(x != x)=false:=by simp
   obtain ⟨y,hy⟩:∃ y,y=wrapI x d:=⟨_,rfl⟩
   rw [←hy] at hset hwd
   have hce':wr.cell? ⟨g,i,none⟩=some (.int .i64 x):=hce
   have hset':Row (wr.setCell ⟨g,i,none⟩ (.int .i64 y)) _ _ _ _:=hset
   clear heq hcell hfro hce hset hy hrow hxf
   go_wp2_with (first | (go_at_call 67;refine (hfd _).mono ?_;rintro e w' ⟨rfl,rfl⟩) | (go_at_call 50;refine (hwd _).mono ?_;rintro e w' ⟨rfl,rfl⟩))
   go_roundg j
   case measure=>omega
   case rel=>exact ⟨i+1,by go_num,by omega,hset',hch.setCell (.inl (by simp)) _⟩
def pickD (D:List Int) (v:Int):Int:=D.getD v.toNat 0
theorem idx_back (l:List Int):(idxL l).map (pickD (diffL l))=l:=by
 unfold idxL
 rw [List.map_map]
 refine (List.map_congr_left fun s hs => ?_).trans (List.map_id _)
 have h:=(countP_index (diffL l) (diffL_lt l) ((mem_diffL l s).2 hs)).2
 show pickD (diffL l) ((diffL l).countP (· < s):Int)=s
 unfold pickD
 rw [Int.toNat_natCast,zD,h]
 rfl
theorem getColoured_ok (w:World) (b:Nat) (F ds:List Nat) (p:Nat) (l:List Int) (d:Nat) (h:IsRd w b F ds p) (h0:1≤d) (h1:d≤16) (hl0:0<l.length) (hl:l.length≤256) (hs:SmpOk d l) (hk:(diffL l).length≤16) (ha:Ahead ds p (colouredBits l d)) :
  Calls Tryz.prog 81 #[.pointer (some ⟨b,0,none⟩),.int .i64 l.length,.int .i64 d] w fun e w'=>∃ v g,e=.returned (.tuple #[v,.int .i64 0])∧Row w' 3 v g (l.map vi)∧IsRd w' b F ds (p+(colouredBits l d).length)∧Chg [b] w w'∧w.heap.size≤g:=by
 have hdp:=diffL_pos hl0
 have hdo:=diffL_ok hs
 have hdlt:=diffL_lt l
 have hci:=fun x (hx:x∈l)=>(countP_index (diffL l) (diffL_lt l) ((mem_diffL l x).2 hx)).1
 have hcb:colouredBits l d=bitsOf ((diffL l).length-1) 4++allOf (diffL l) d++allOf (idxL l) (bitsN (diffL l).length):=rfl
 rw [hcb] at ha ⊢
 have hib:=idx_back l
 have hil:=idxL_len l
 obtain ⟨D,hD⟩:∃ D,D=diffL l:=⟨_,rfl⟩
 obtain ⟨k,hkl⟩:∃ k,k=D.length:=⟨_,rfl⟩
 have hio:∀ x∈idxL l,0≤x∧x<(k:Int):=fun x hx=>by
  obtain ⟨s,hss,rfl⟩:=List.mem_map.1 hx
  have:=hci s hss
  rw [hkl,hD]
  show (0:Int)≤_∧((diffL l).countP (· < s):Int)<((diffL l).length:Int)
  omega
 rw [←hD] at hdp hdo hdlt hk hib ha ⊢
 have hbr:=bitsN_room hk
 have hbl:=bitsN_le hk
 have hpb:=fun w=>palBits_ok D.length w hdp (by omega)
 rw [←hkl] at hdp hk hbr hbl hpb ha ⊢
 obtain ⟨q,hq⟩:∃ q,q=bitsN k:=⟨_,rfl⟩
 rw [←hq] at hbr hbl hpb ha ⊢
 obtain ⟨I,hI⟩:∃ I,I=idxL l:=⟨_,rfl⟩
 rw [←hI] at hib hil hio ha ⊢
 obtain ⟨n,hn⟩:∃ n,n=l.length:=⟨_,rfl⟩
 rw [←hn] at hil hl hl0 ⊢
 have hg1:=rget_ahead w b F ds p 4 (k-1) h (by omega) (by omega) ha.left.left
 have ha2:=ha.left.right
 have ha3:=ha.right
 rw [bitsOf_len] at ha2
 rw [zC,bitsOf_len] at ha3
 have hga:=fun w' (hr:IsRd w' b F ds (p+4))=>getAll_ok w' b F ds (p+4) d D hr h1 hdo (by rw [←hkl];omega) ha2
 have hiq:SmpOk q I:=fun x hx=>by
  have:=hio x hx
  have e:(2:Int)^q=((2^q:Nat):Int):=by simp
  rw [e]
  omega
 have hgb:=fun w' (hr:IsRd w' b F ds (p+(4+(allOf D d).length)))=>getAll_ok w' b F ds (p+(4+(allOf D d).length)) q I hr (by omega) hiq (by rw [hil];omega) ha3
 rw [←hkl] at hga
 rw [hil] at hgb
 rw [zC,zC,bitsOf_len]
 generalize (allOf D d).length=a1 at *
 generalize (allOf I q).length=a2 at *
 obtain ⟨k1,hk1⟩:∃ k1,k1=k-1:=⟨_,rfl⟩
 have ek:(k1:Int)+1=(k:Int):=by omega
 rw [←hk1] at hg1
 have hw1:IntKind.i64.wrap (k1:Int)=(k1:Int):=IntWalk.i64_in _ (by omega)
 have hbl':=h.lt b h.mem
 have HKL:=hid hkl
 have HIB:=hid hib
 have HIL:=hid hil
 have HIO:=hid hio
 have HGA:=hid hga
 have HGB:=hid hgb
 have HDLT:=hid hdlt
 have HLT:=hid h.lt
 clear hn hkl hib hil hio hga hgb hdlt hcb hD hI hq hs hci hdo ha ha2 ha3 hiq hk1 hbr h
 go_enter Tryz.func81,Tryz.ntmps81
 go_wp2_with fail
 refine hg1.mono ?_
 rintro e w1 ⟨rfl,hr1,ch1⟩
 clear hg1
 go_wp2_with fail
 refine (HGA.out w1 hr1).mono ?_
 rintro e w2 ⟨vD,gD,rfl,rowD,hr2,ch2,hgD⟩
 obtain ⟨cD,rfl,hcD1,hcD2,_,_⟩:=rowD.open_map
 rw [←HKL.out]
 have hgDlt:=rowD.lt
 go_wp2_with fail
 refine (hpb w2).mono ?_
 rintro e w' ⟨rfl,rfl⟩
 go_wp2_with fail
 refine (HGB.out w2 (hr2.cast (by omega))).mono ?_
 rintro e w3 ⟨vI,gI,rfl,rowI,hr3,ch3,hgI⟩
 obtain ⟨cI,rfl,hcI1,hcI2,_,_⟩:=rowI.open_map
 rw [HIL.out] at hcI1 rowI ⊢
 have rowD3:=rowD.chg ch3 (by have:=ch1.size;simp;omega)
 have hch3:=(ch1.trans_same ch2).trans_same ch3
 have hs2:=(ch1.trans_same ch2).size
 clear rowD hr1 hr2 ch1 ch2 ch3 hpb
 have hgw:w.heap.size≤gI:=by omega
 have hgg:gD<gI:=by omega
 go_wp2_with (go_at_call 60;refine (err_ok _ b F ds _ hr3).mono ?_;rintro e w' ⟨rfl,rfl⟩)
 have HR3:=hid hr3
 have HC3:=hid hch3
 have HRI:=hid rowI
 have HRD:=hid rowD3
 clear hr3 hch3 rowI rowD3
 go_loopg [11] (k-1) (fun j iv wr=>∃ i q':Nat,iv=.int .i64 i∧1≤i∧i+j=k∧wr=w3.drewN q')
 case atStart=>exact ⟨1,0,rfl,Nat.le_refl _,by omega,rfl⟩
 case round =>
  obtain ⟨i,q',rfl,hi1,hij,rfl⟩:=hrel
  rcases gk with _ | j
  ·obtain rfl:k=i:=by omega
   have u1:decide (k<k)=false:=by simp
   have hrow0:=HRI.out.drewN q'
   have hrd0:=HRD.out.drewN q'
   have hr0:=HR3.out.same ((Chg.refl [] w3).drewN q')
   have hch0:=HC3.out.drewN q'
   generalize w3.drewN q'=w4 at *
   go_wp2_with fail
   go_loopg [12,13,50] n (fun j va vb iv wr=>∃ (i:Nat),iv=.int .i64 i∧i+j=n∧Row wr 3 (.slice (some ⟨gI,0,none⟩) n cI) gI ((mixL (pickD D) I i).map vi)∧Chg [gI] w4 wr)
   case atStart=>exact ⟨0,rfl,by omega,by rw [mixL_zero];exact hrow0,Chg.refl _ _⟩
   case round =>
    clear hrow0
    obtain ⟨i,rfl,hij,hrow,hch⟩:=hrel
    rcases gk with _ | j
    ·obtain rfl:n=i:=by omega
     have u2:decide (n<n)=false:=by simp
     rw [←HIL.out,mixL_full,HIB.out,HIL.out] at hrow
     have hr4:=hr0.chg hch (fun x hx hm=>by simp at hm;have:=HLT.out x hx;omega)
     have hch4:=hch0.trans hch (fun x hx=>by simp at hx;right;omega)
     go_wp2_with fail
     go_ret2
     exact ⟨_,gI,rfl,hrow,hr4.cast (by omega),hch4,hgw⟩
    ·have him:i<n:=by omega
     have u2:decide (i<n)=true:=zB him
     have hiI:i<I.length:=by rw [HIL.out];exact him
     obtain ⟨cap',heq,_,_,hcell,hfro⟩:=hrow.open_map
     have hce:=hcell i _ (mixL_at (pickD D) I hiI)
     have hfr:=hfro i
     have hset:=hrow.set_ (i:=i) (by rw [zE,mixL_len];exact hiI) (vi (pickD D (I.getD i 0)))
     rw [←List.map_set,mixL_set (pickD D) I hiI] at hset
     have hxo:=HIO.out (I.getD i 0) (by rw [zD,zF hiI];exact zG hiI)
     generalize I.getD i 0=x at *
     obtain ⟨X,hX⟩:∃ X:Nat,X=x.toNat:=⟨_,rfl⟩
     have hxX:x=(X:Int):=by omega
     have hXk:X<k:=by omega
     have hpk:pickD D x=D.getD X 0:=by unfold pickD;rw [hX]
     obtain ⟨cD',heqD,_,_,hcellD,_⟩:=(hrd0.chg hch (by simp;omega)).open_map
     have hXD:X<D.length:=by rw [←HKL.out];exact hXk
     have hcd:=hcellD X (D.getD X 0) (by rw [zD,zF hXD];rfl)
     rw [hpk] at hset
     generalize D.getD X 0=y at *
     subst hxX
     have u3:decide (k≤X)=false:=zA (by omega)
     have hce':wr.cell? ⟨gI,i,none⟩=some (.int .i64 X):=hce
     have hcd':wr.cell? ⟨gD,X,none⟩=some (.int .i64 y):=hcd
     have hset':Row (wr.setCell ⟨gI,i,none⟩ (.int .i64 y)) _ _ _ _:=hset
     clear heq hcell hfro hce hset hX hrow hxo hpk hcellD heqD hcd
     go_wp2
     go_roundg j
     case measure=>omega
     case rel=>exact ⟨i+1,by go_num,by omega,hset',hch.setCell (.inl (by simp)) _⟩
  ·have hik:i<k:=by omega
   have u1:decide (i<k)=true:=zB hik
   obtain ⟨i0,hi0⟩:∃ i0,i0=i-1:=⟨_,rfl⟩
   have ei:(i:Int)-1=(i0:Int):=by omega
   have hiD:i<D.length:=by rw [←HKL.out];exact hik
   have hlt:=List.pairwise_iff_getElem.1 HDLT.out i0 i (by omega) hiD (by omega)
   obtain ⟨cD',heqD,_,_,hcellD,_⟩:=HRD.out.open_map
   have c1:=hcellD i0 _ (zF (by omega))
   have c2:=hcellD i _ (zF hiD)
   generalize D[i0]=x at *
   generalize D[i]=y at *
   have c1':w3.cell? ⟨gD,i0,none⟩=some (.int .i64 x):=c1
   have c2':w3.cell? ⟨gD,i,none⟩=some (.int .i64 y):=c2
   have u2:decide (y≤x)=false:=zA (by omega)
   have hi0k:i0<k:=by omega
   clear hi0 hcellD heqD c1 c2 hlt hiD
   go_wp2
   go_quiet (fail)
   go_wp2
   go_roundg j
   case measure=>omega
   case rel=>exact ⟨i+1,q'+nq,by go_num,by omega,by omega,by first | rfl | rw [World.drewN_drewN]⟩
theorem fut_first4 {n:Nat} {F:List Nat} (hF:Fut F (newCod n)):valD (F.take 4)≠4294967295:=by
 have:=hF.hi
 simp [newCod,pre,valD] at this
 unfold valD
 simp
 omega
theorem newDec_okT (N:Nat) {F:List Nat} (hd:∀ d∈F,d<256) (h4:4≤F.length) (hF:Fut F (newCod N)):DecOk (newDec F N):=by
 have:=hF.hi
 simp [newCod,pre,valD] at this
 refine ⟨hd,by simp [newDec],by simp [newDec],?_,h4,by simp [newDec]⟩
 simp [newDec,valD]
 omega
theorem fold16 (l:List Int) (W:Nat) {d:Nat} (h0:1≤d) (h1:d≤16) (i:Nat):foldOf l W d i<65536 :=
 Nat.lt_of_lt_of_le (foldOf_lt l W h0 i) (Nat.pow_le_pow_right (n:=2) (by decide) h1)
theorem codR_fit (l:List Int) (W:Nat) {d:Nat} (h0:1≤d) (h1:d≤16):∀ i,CodFit (codR l W d i)
 | 0=>newCod_fit _
 | i+1=>by
  have h:=codR_ok l W h0 h1 i
  have hc:=clsN_le l W d i
  have hf:=fold16 l W h0 h1 i
  exact numL_fit h.1 (codR_fit l W h0 h1 i) (by omega) (by rw [h.2.1];omega)
theorem fut_codR (l:List Int) (W:Nat) {d:Nat} (h0:1≤d) (h1:d≤16) {F:List Nat} (hd:∀ x∈F,x<256):∀ (k i:Nat),Fut F (codR l W d (i+k))→Fut F (codR l W d i)
 | 0,_,h=>h
 | k+1,i,h=>by
  have hk:=codR_ok l W h0 h1 (i+k)
  have hc:=clsN_le l W d (i+k)
  have hf:=fold16 l W h0 h1 (i+k)
  have h':Fut F (numL (codR l W d (i+k)) (33*clsN l W d (i+k)) (foldOf l W d (i+k))):=h
  exact fut_codR l W h0 h1 hd k i (fut_num (v:=foldOf l W d (i+k)) (ctx:=33*clsN l W d (i+k)) hd hk.1 (codR_fit l W h0 h1 _) (by omega) (by rw [hk.2.1];omega) h')
theorem fold_back {l:List Int} {d:Nat} (hs:SmpOk d l) (W i:Nat):wrapI (guessI 7 (nbrAt l W i) d+unfoldI (foldOf l W d i)) d=l.getD i 0:=by
 obtain ⟨h0,h1⟩:=getD_ok hs i
 unfold foldOf
 rw [unfoldI_rfold]
 exact unfold_fold h0 h1
theorem nbr_fillAt {l:List Int} {W i:Nat} (hW:1≤W) (hi:i≤l.length):nbrAt (fillL (l.take i) l.length) W i=nbrAt l W i:=by
 unfold nbrAt
 exact nbr_fill (Nat.mod_lt _ (by omega)) (by rw [Nat.mul_comm];exact Nat.div_add_mod i W) hi
theorem fill_smpT {d:Nat} {l:List Int} (hs:SmpOk d l) (i n:Nat):SmpOk d (fillL (l.take i) n):=by
 intro s h
 unfold fillL at h
 rcases List.mem_append.1 h with h | h
 ·exact hs s (List.mem_of_mem_take h)
 ·rw [List.eq_of_mem_replicate h];exact ⟨Int.le_refl _,two_pow_pos' d⟩
theorem unfolded_ok (g:Int) (f d:Nat) (w:World) (h0:1≤d) (h1:d≤16) (hg0:0≤g) (hg1:g<65536) (hf:f<65536) :
  Calls Tryz.prog 110 #[.int .i64 g,.int .i64 f,.int .i64 d] w fun e w'=>e=.returned (.int .i64 (wrapI (g+unfoldI f) d))∧w=w':=by
 have hu:=unfold_ok f w (by omega)
 have hw1:IntKind.u64.wrap (f:Int)=(f:Int):=IntWalk.u64_in _ (by omega)
 have hub : -65536≤unfoldI f∧unfoldI f≤65536:=by unfold unfoldI;split<;>omega
 have hwp:=wrap_ok (g+unfoldI f) d w h0 h1
 generalize unfoldI f=u at *
 go_enter Tryz.func110,Tryz.ntmps110
 go_wp2_with fail
 refine hu.mono ?_
 rintro e w' ⟨rfl,rfl⟩
 go_wp2_with fail
 refine hwp.mono ?_
 rintro e w' ⟨rfl,rfl⟩
 go_wp2
 go_ret
 exact ⟨rfl,rfl⟩
theorem u8_elT:Elem Tryz.prog 29 5 (.int .u8 0) 1 1:=.mk' Tryz.underlying29 (by kernel_rfl)
def fillB (done:List Nat) (n:Nat):List Nat:=done++List.replicate (n-done.length) 0
theorem fillB_full {l:List Nat} {n:Nat} (h:l.length=n):fillB l n=l:=by simp [fillB,h]
theorem fillB_get {done:List Nat} {n:Nat} (h:done.length<n):(fillB done n)[done.length]?=some 0:=by
 unfold fillB
 rw [List.getElem?_append_right (Nat.le_refl _),Nat.sub_self,List.getElem?_replicate,if_pos (by omega)]
theorem fillB_set {done:List Nat} {n:Nat} (h:done.length<n) (x:Nat):(fillB done n).set done.length x=fillB (done++[x]) n:=by
 unfold fillB
 obtain ⟨k,hk⟩:∃ k,n-done.length=k+1:=⟨n-done.length-1,by omega⟩
 rw [hk,List.set_append_right _ _ (Nat.le_refl _),Nat.sub_self,List.replicate_succ,List.set_cons_zero,zC,List.length_singleton,show n-(done.length+1)=k by omega]
 simp
theorem fillB_len {done:List Nat} {n:Nat} (h:done.length≤n):(fillB done n).length=n:=by simp [fillB];omega
theorem bytes_split (R:List Nat) {m:Nat} (hm:m<R.length):(R.drop m).flatMap (fun x=>bitsOf x 8)=bitsOf R[m] 8++(R.drop (m+1)).flatMap (fun x=>bitsOf x 8):=by
 rw [List.drop_eq_getElem_cons hm,List.flatMap_cons]
theorem getRanged_ok (w:World) (b:Nat) (F ds:List Nat) (p:Nat) (l:List Int) (W H d:Nat) (h:IsRd w b F ds p) (hw0:1≤W) (hw1:W≤16) (hh0:1≤H) (hh1:H≤16) (h0:1≤d) (h1:d≤16) (hl:l.length=W*H) (hs:SmpOk d l) (ha:Ahead ds p (rangedBits l W d)) :
  Calls Tryz.prog 80 #[.pointer (some ⟨b,0,none⟩),.int .i64 W,.int .i64 H,.int .i64 d] w fun e w'=>∃ v g,e=.returned (.tuple #[v,.int .i64 0])∧Row w' 3 v g (l.map vi)∧IsRd w' b F ds (p+(rangedBits l W d).length)∧Chg [b] w w'∧w.heap.size≤g:=by
 have hrb:rangedBits l W d=bitsOf (rangedL l W d).length 16++(rangedL l W d).flatMap fun x=>bitsOf x 8:=rfl
 have hrl:=rangedL_len l W h0 h1
 have hrt:=rangedL_lt l W h0 h1
 have hrd:rangedL l W d=(codR l W d l.length).low:=rfl
 rw [hrb] at ha ⊢
 rw [zC,bitsOf_len]
 obtain ⟨R,hR⟩:∃ R,R=rangedL l W d:=⟨_,rfl⟩
 rw [←hR] at hrl hrt hrd ha ⊢
 obtain ⟨n,hn⟩:∃ n,n=l.length:=⟨_,rfl⟩
 have hn256:n≤256:=by rw [hn,hl];exact Nat.mul_le_mul hw1 hh1
 have hnW:n≤64*W:=by rw [hn,hl,Nat.mul_comm];exact Nat.mul_le_mul_right W (by omega)
 have hnI:(W:Int)*(H:Int)=(n:Int):=by rw [hn,hl];simp
 rw [←hn] at hrl hrd
 have hself:Fut R (codR l W d n):=by rw [hrd];exact fut_self (codR_ok l W h0 h1 n).1
 have hfut:=fun i (hi:i≤n)=>fut_codR l W h0 h1 hrt (n-i) i (by rw [show i+(n-i)=n by omega];exact hself)
 have hf0:Fut R (newCod 429):=hfut 0 (Nat.zero_le _)
 have hR4:4≤R.length:=by rw [hrd];exact (codR_ok l W h0 h1 n).1.len
 have hff:=fut_first4 hf0
 have hdok:=newDec_okT 429 hrt hR4 hf0
 have hcok:=fun i=>codR_ok l W h0 h1 i
 have hcfit:=fun i=>codR_fit l W h0 h1 i
 have hcl:=fun i=>clsN_le l W d i
 have hf16:=fun i=>fold16 l W h0 h1 i
 have hflt:=fun i=>foldOf_lt l W h0 i
 have hfb:=fun i=>fold_back hs W i
 obtain ⟨r,hr⟩:∃ r,r=R.length:=⟨_,rfl⟩
 rw [←hr] at hrl hR4 ha
 have hr16:r<2^16:=by omega
 have hg1:=rget_ahead w b F ds p 16 r h (by omega) hr16 ha.left
 have ha2:=ha.right
 rw [bitsOf_len] at ha2
 have hmkb:=run_make1 (P:=Tryz.prog) u8_elT rfl .i64 .i64 r (by omega) (by omega)
 have hmk:=run_make1 (P:=Tryz.prog) int_elem rfl .i64 .i64 n (by omega) (by omega)
 have hw1':IntKind.i64.wrap (r:Int)=(r:Int):=IntWalk.i64_in _ (by omega)
 have hbl:=h.lt b h.mem
 have HN:=hid hn
 have HR:=hid hr
 have HRT:=hid hrt
 have HRD:=hid hrd
 have HA:=hid ha2
 have HFUT:=hid hfut
 have HFF:=hid hff
 have HDOK:=hid hdok
 have HCOK:=hid hcok
 have HCF:=hid hcfit
 have HCL:=hid hcl
 have HF16:=hid hf16
 have HFLT:=hid hflt
 have HFB:=hid hfb
 have HS:=hid hs
 have HLT:=hid h.lt
 clear hn hr hrt hrd ha ha2 hfut hff hdok hcok hcfit hcl hf16 hflt hfb hs hrb hR hself hf0 hl h
 go_enter Tryz.func80,Tryz.ntmps80
 go_wp2_with fail
 refine hg1.mono ?_
 rintro e w1 ⟨rfl,hr1,ch1⟩
 obtain ⟨B,hB⟩:∃ B,B=w1.heap.size:=⟨_,rfl⟩
 have hwB:w.heap.size≤B:=by rw [hB];exact ch1.size
 have chA:Chg [] w1 (w1.alloc (.cells (List.replicate r (Value.int .u8 0)).toArray 5)):=(Chg.refl [] w1).alloc _
 have hrow0:Row (w1.alloc (.cells (List.replicate r (Value.int .u8 0)).toArray 5)) 5 (.slice (some ⟨B,0,none⟩) r r) B ((fillB [] r).map b8):=by
  have:=Row.made w1 5 (List.replicate r (Value.int .u8 0)) (by simp [maxLen];omega)
  rw [←hB,List.length_replicate] at this
  have e:(fillB [] r).map b8=List.replicate r (Value.int .u8 0):=by simp [fillB,b8]
  rw [e]
  exact this
 have hr1':=hr1.same chA
 have HB:=hid hB
 have ch1A:=(ch1.trans chA (by simp))
 clear hg1 hB hr1 ch1 chA
 go_wp2_with fail
 rw [←HB.out]
 go_loopg [11,27] r (fun j va iv wr=>∃ (i p':Nat),iv=.int .i64 i∧i+j=r∧Row wr 5 (.slice (some ⟨B,0,none⟩) r r) B ((fillB (R.take i) r).map b8)∧IsRd wr b F ds p'∧Hid (Ahead ds p' ((R.drop i).flatMap fun x=>bitsOf x 8))∧Hid (p'+((R.drop i).flatMap fun x=>bitsOf x 8).length=p+(16+(R.flatMap fun x=>bitsOf x 8).length))∧Hid (Chg [b] w wr))
 case atStart=>exact ⟨0,p+16,rfl,by omega,hrow0,hr1',HA,hid (by rw [List.drop_zero];omega),hid ch1A⟩
 case round =>
  clear hrow0 hr1' ch1A
  obtain ⟨i,p',rfl,hij,hrow,hrd,Ha,Hp,HCH⟩:=hrel
  rcases gk with _ | j
  ·obtain rfl:r=i:=by omega
   have u1:decide ((r:Int)<(r:Int))=false:=by simp
   have u1':decide (r<r)=false:=by simp
   have e1:R.take r=R:=by rw [HR.out,List.take_length]
   have e2:R.drop r=[]:=by rw [HR.out,List.drop_length]
   rw [e1,fillB_full HR.out.symm] at hrow
   have hp:=Hp.out
   rw [e2] at hp
   have HP2:Hid (p'=p+(16+(R.flatMap fun x=>bitsOf x 8).length)):=hid (by
    rw [show (([]:List Nat).flatMap fun x=>bitsOf x 8)=[] from rfl,List.length_nil] at hp
    omega)
   obtain ⟨cap',heq,_,_,hcell,_⟩:=hrow.open_map
   have hnd:=newDecoder_ok B r R 429 wr (by decide) (by decide) (by rw [←HR.out];exact Nat.le_refl _) (by omega) hcell HRT.out (by rw [←HR.out];exact hR4) (by rw [←HR.out];omega) HFF.out
   rw [←HR.out,show ((429:Nat):Int)=429 from rfl] at hnd
   clear e1 e2 hp heq hcell Ha Hp hrow
   go_wp2_with (go_at_call 60;refine (err_ok _ b F ds _ hrd).mono ?_;rintro e w' ⟨rfl,rfl⟩)
   refine hnd.mono ?_
   rintro e w3 ⟨db,dg,dh,rfl,hdec,ch3,hdb,hdg,hdh⟩
   have hrow0:=Row.zeros w3 n (by omega)
   obtain ⟨G,hG⟩:∃ G,G=w3.heap.size:=⟨_,rfl⟩
   have chB:Chg [] w3 (w3.alloc (.cells (List.replicate n (Value.int .i64 0)).toArray 3)):=(Chg.refl [] w3).alloc _
   have hdec4:=hdec.same chB
   have hrd4:=(hrd.same ch3).same chB
   have hch4:=(HCH.out.trans ch3 (by simp)).trans chB (by simp)
   rw [←hG] at hrow0
   have hbwr:=hrd.lt b hrd.mem
   have hs3:=ch3.size
   have hltD:=hdec.lt
   rw [←hG] at hltD
   have hwwr:=HCH.out.size
   have hFw:=hrd.lt
   have HFW:=hid hFw
   have HG:=hid hG
   clear hnd hrd hdec ch3 chB hG hFw
   go_wp2_with fail
   rw [←HG.out]
   go_loopg [16,17,18,19,20,56] n (fun j va vb vc vd ve iv w5=>∃ (i:Nat) (D:Dec),iv=.int .i64 i∧i+j=n∧Row w5 3 (.slice (some ⟨G,0,none⟩) n n) G ((fillL (l.take i) n).map vi)∧IsDec 190 w5 db dg dh D∧DecOk D∧Syn D (codR l W d i)∧D.data=R∧IsRd w5 b F ds p'∧Hid (Chg [b] w w5))
   case atStart=>exact ⟨0,newDec R 429,rfl,by omega,by simpa using hrow0,hdec4,HDOK.out,syn_new _ _,rfl,hrd4,hid hch4⟩
   case round =>
    clear hrow0 hdec4 hrd4 hch4
    obtain ⟨i,D,rfl,hij,hrow,hdec,hdk,hsy,hdat,hrd,HCH5⟩:=hrel
    rcases gk with _ | j
    ·obtain rfl:n=i:=by omega
     have u2:decide ((n:Int)<(n:Int))=false:=by simp
     have u2':decide (n<n)=false:=by simp
     have e:fillL (l.take n) n=l:=by
      have:=fill_all l
      rw [←HN.out] at this
      exact this
     rw [e] at hrow
     have hle:=left_any wr db dg dh D hdec hdk.pos
     have hz:D.data.length-D.pos=0:=by rw [hsy.pos,hdat,←HRD.out];omega
     rw [hz] at hle
     clear hdec hdk hsy hdat hz e
     go_wp2_with fail
     refine hle.mono ?_
     rintro e w' ⟨rfl,n6,rfl⟩
     go_wp2_with fail
     go_ret2
     exact ⟨_,G,rfl,hrow.drewN n6,(hrd.same ((Chg.refl [] _).drewN n6)).cast HP2.out,HCH5.out.drewN n6,by have:=HG.out;omega⟩
    ·have hin:i<n:=by omega
     have u2:decide ((i:Int)<(n:Int))=true:=zB (by omega)
     have u2':decide (i<n)=true:=zB hin
     have hil:i<l.length:=by rw [←HN.out];exact hin
     have hnf:=nbr_fillAt (l:=l) hw0 (i:=i) (by omega)
     rw [←HN.out] at hnf
     have hlen:(fillL (l.take i) n).length=n:=fillL_len (by rw [List.length_take];omega)
     have hnr:=tnear_ok (fillL (l.take i) n) (some ⟨G,0,none⟩) n W d i wr h0 h1 hw0 (by omega) (by rw [hlen];omega) (by omega) (fill_smpT HS.out i n) hrow.toOwn.cells (by rw [hlen];omega)
     have hck:=HCOK.out i
     have hcl:=HCL.out i
     have hfb:=HFB.out i
     have hf16:=HF16.out i
     have hflt:=HFLT.out i
     have hnx:codR l W d (i+1)=numL (codR l W d i) (33*clsN l W d i) (foldOf l W d i):=rfl
     have hF1:=HFUT.out (i+1) (by omega)
     rw [hnx] at hF1
     have hp2:2^d≤65536:=Nat.pow_le_pow_right (n:=2) (by decide) h1
     have hp2':=Nat.two_pow_pos d
     have hdnum:=fun w' (hq:IsDec 190 w' db dg dh D)=>dnum_syn w' db dg dh D (codR l W d i) (33*clsN l W d i) (foldOf l W d i) (2^d-1) hq hdk hsy hck.1 (HCF.out i) (by rw [hck.2.1];omega) (by omega) (by omega) (by rw [hdat];exact hF1)
     unfold NumPost at hdnum
     rw [if_pos (by omega:foldOf l W d i≤2^d-1)] at hdnum
     rw [hnf,hlen,←clsN_cast] at hnr
     have hgr:=guessI_ok (d:=d) (g:=nbrAt l W i) (nbr_ok HS.out W _ _) 7
     obtain ⟨gs,hgs⟩:∃ gs,gs=guessI 7 (nbrAt l W i) d:=⟨_,rfl⟩
     rw [←hgs] at hnr hgr hfb
     obtain ⟨f,hf⟩:∃ f,f=foldOf l W d i:=⟨_,rfl⟩
     rw [←hf] at hdnum hfb hf16 hflt hnx
     obtain ⟨cx,hcx⟩:∃ cx,cx=33*clsN l W d i:=⟨_,rfl⟩
     have ecx:(33:Int)*((clsN l W d i:Nat):Int)=(cx:Int):=by rw [hcx];simp
     rw [←hcx] at hdnum hnx
     have hcx5:cx≤500:=by omega
     obtain ⟨cl,hcle⟩:∃ cl,cl=clsN l W d i:=⟨_,rfl⟩
     rw [←hcle] at ecx hnr hcl
     obtain ⟨mo,hmo⟩:∃ mo,mo=2^d-1:=⟨_,rfl⟩
     rw [←hmo] at hdnum
     have hgs65:gs<65536:=by
      have e:((2^d:Nat):Int)=(2:Int)^d:=by simp
      have:=hgr.2
      omega
     have hun:=fun w'=>unfolded_ok gs f d w' h0 h1 hgr.1 hgs65 hf16
     rw [hfb] at hun
     have hfm:f≤mo:=by omega
     have htk:=take_snoc' l hil
     have hxg:l[i]=l.getD i 0:=by rw [zD,zF hil];rfl
     rw [hxg] at htk
     generalize l.getD i 0=xv at *
     have hdl:(l.take i).length=i:=by rw [List.length_take];omega
     have hpI:((2^d:Nat):Int)=(2:Int)^d:=by simp
     have hsh:IntKind.u64.wrap ((2:Int)^d)=(2:Int)^d:=IntWalk.u64_in _ (by omega)
     have hsb:IntKind.u64.wrap ((2:Int)^d-1)=(mo:Int):=by rw [IntWalk.u64_in _ (by omega)];omega
     have hwf:IntKind.i64.wrap (f:Int)=(f:Int):=IntWalk.i64_in _ (by omega)
     have HTK:=hid htk
     have HDL:=hid hdl
     have HDN:=hid hdnum
     have HUN:=hid hun
     have HNX:=hid hnx
     have HROW:=hid hrow
     have HMO:=hid hmo
     have HDAT:=hid hdat
     clear hnf hlen hck hfb hF1 hdnum hgs hf hcx hcle hmo hun htk hxg hdl hnx hrow hdk hsy hdat hil hflt hgr
     go_wp2_with fail
     refine hnr.mono ?_
     rintro e w6 ⟨rfl,ch6⟩
     have hdec6:=hdec.same ch6
     have hrd6:=hrd.same ch6
     have hch6:=HCH5.out.trans ch6 (by simp)
     have hrow6:=HROW.out.chg ch6 (by simp)
     have hdn6:=HDN.out w6 hdec6
     clear hnr hdec hrd
     go_wp2_with fail
     refine hdn6.mono ?_
     rintro e w7 ⟨rfl,D',hdec7,hx7,hdat7,ch7⟩
     rw [if_pos hfm] at hx7
     obtain ⟨hdk7,hsy7⟩:=hx7
     have her:=err_any w7 db dg dh D' hdec7
     rw [hsy7.err,show ((0:Nat):Int)=0 from rfl] at her
     have hnew:∀ z∈F,z∉[db,dh]:=fun z hz hm=>by have:=HFW.out z hz;simp at hm;omega
     have hrd7:=hrd6.chg ch7 hnew
     have hch7:=hch6.trans ch7 (fun z hz => .inr (by simp at hz;omega))
     have hrow7:=hrow6.chg ch7 (by simp;omega)
     obtain ⟨hce,hfr⟩:=hrow7.fill_cell (by rw [HDL.out];exact hin)
     have hfill:=hrow7.fill (by rw [HDL.out];exact hin) xv
     rw [HDL.out] at hce hfr hfill
     have HFI:=hid hfill
     have HDK:=hid hdk7
     have HSY:=hid hsy7
     have hun7:=HUN.out w7
     clear hdn6 hdec6 hrd6 hch6 hrow6 hrow7 hfill hdk7 hsy7 hnew
     go_wp2_with (first | (go_at_call 109;refine her.mono ?_;rintro e w' ⟨rfl,rfl⟩) | (go_at_call 110;refine hun7.mono ?_;rintro e w' ⟨rfl,rfl⟩))
     go_roundg j
     case measure=>omega
     case rel =>
      have hst:Chg [G] w' (w'.setCell ⟨G,i,none⟩ (.int .i64 xv)):=(Chg.refl _ _).setCell (.inl (by simp)) _
      refine ⟨i+1,D',by go_num,by omega,?_,hdec7.chg hst (by simp;omega) (by simp;omega) (by simp;omega),HDK.out,by rw [HNX.out];exact HSY.out,hdat7.trans HDAT.out,hrd7.chg hst (fun z hz hm=>by simp at hm;have:=HFW.out z hz;omega),hid (hch7.trans hst (fun z hz => .inr (by simp at hz;omega)))⟩
      rw [HTK.out]
      exact HFI.out
  ·have hin:i<r:=by omega
   have u1:decide ((i:Int)<(r:Int))=true:=zB (by omega)
   have u1':decide (i<r)=true:=zB hin
   have hml:i<R.length:=by rw [←HR.out];exact hin
   have hsp:=bytes_split R hml
   have htk:=take_snoc' R hml
   have hxl:=HRT.out R[i] (zG _)
   obtain ⟨x,hx⟩:∃ x,x=R[i]:=⟨_,rfl⟩
   rw [←hx] at hsp htk hxl
   have ha1:=Ha.out
   rw [hsp] at ha1
   have hget:=rget_ahead wr b F ds p' 8 x hrd (by omega) (by omega) ha1.left
   have HA2:=hid ha1.right
   have hdn:(R.take i).length=i:=by rw [List.length_take];omega
   have hwx:IntKind.u8.wrap (x:Int)=(x:Int):=by rw [IntKind.wrap_u8];omega
   have HSP:=hid hsp
   have HTK:=hid htk
   have HDN:=hid hdn
   have HROW:=hid hrow
   clear hsp htk hx ha1 hml hdn hrd hrow
   go_wp2_with fail
   refine hget.mono ?_
   rintro e w2 ⟨rfl,hr2,ch2⟩
   have hrow2:=HROW.out.chg ch2 (by simp;omega)
   obtain ⟨cap',heq,_,_,hcell,hfro⟩:=hrow2.open_map
   have hce:=hcell i 0 (by have:=fillB_get (done:=R.take i) (n:=r) (by rw [HDN.out];exact hin);rw [HDN.out] at this;exact this)
   have hce':w2.cell? ⟨B,i,none⟩=some (.int .u8 0):=hce
   have hfr:=hfro i
   have hset:=hrow2.set_ (i:=i) (by rw [zE,fillB_len (by rw [HDN.out];omega)];exact hin) (b8 x)
   rw [←List.map_set] at hset
   have hfs:=fillB_set (done:=R.take i) (n:=r) (by rw [HDN.out];exact hin) x
   rw [HDN.out,←HTK.out] at hfs
   rw [hfs] at hset
   have hset':Row (w2.setCell ⟨B,i,none⟩ (.int .u8 x)) _ _ _ _:=hset
   clear hget hrow2 heq hcell hfro hce hset hfs
   go_wp2_with fail
   go_roundg j
   case measure=>omega
   case rel =>
    have hst:Chg [B] w2 (w2.setCell ⟨B,i,none⟩ (.int .u8 x)):=(Chg.refl _ _).setCell (.inl (by simp)) _
    refine ⟨i+1,p'+8,by go_num,by omega,hset',hr2.chg hst (fun z hz hm=>by simp at hm;have:=HLT.out z hz;omega),hid ?_,hid ?_,hid ((HCH.out.trans_same ch2).trans hst (fun z hz => .inr (by simp at hz;omega)))⟩
    ·have:=HA2.out
     rw [bitsOf_len] at this
     exact this
    ·have:=Hp.out
     rw [HSP.out,zC,bitsOf_len] at this
     omega
def depthL:List Int:=[8,1,2,4,8,10,12,16,5,8]
theorem depthL_ok (k:Nat) (h:k<10):∃ d:Nat,depthL[k]?=some (d:Int)∧1≤d∧d≤16:=by
 rcases (by omega:k=0∨k=1∨k=2∨k=3∨k=4∨k=5∨k=6∨k=7∨k=8∨k=9) with rfl | rfl | rfl | rfl | rfl | rfl | rfl | rfl | rfl | rfl
 ·exact ⟨8,rfl,by omega,by omega⟩
 ·exact ⟨1,rfl,by omega,by omega⟩
 ·exact ⟨2,rfl,by omega,by omega⟩
 ·exact ⟨4,rfl,by omega,by omega⟩
 ·exact ⟨8,rfl,by omega,by omega⟩
 ·exact ⟨10,rfl,by omega,by omega⟩
 ·exact ⟨12,rfl,by omega,by omega⟩
 ·exact ⟨16,rfl,by omega,by omega⟩
 ·exact ⟨5,rfl,by omega,by omega⟩
 ·exact ⟨8,rfl,by omega,by omega⟩
theorem IsTp.fresh {w w':World} {b cap at_:Nat} {A:Option Addr} {L:List Int} (h:IsTp w b A cap L at_) (hc:Chg [] w w'):IsTp w' b A cap L at_:=h.same hc (by simp) (fun _ _ _=>by simp)
theorem depth_tp (w:World) (b cap at_:Nat) (A:Option Addr) (L:List Int) (h:IsTp w b A cap L at_) :
  Calls Tryz.prog 40 #[.pointer (some ⟨b,0,none⟩)] w fun e w'=>∃ d at':Nat,e=.returned (.int .i64 d)∧1≤d∧d≤16∧IsTp w' b A cap L at'∧Chg [b] w w':=by
 obtain ⟨w1,hw1⟩:∃ w1,w1=w.alloc (.cells #[.int .i64 8,.int .i64 1,.int .i64 2,.int .i64 4,.int .i64 8,.int .i64 10,.int .i64 12,.int .i64 16,.int .i64 5,.int .i64 8] 3):=⟨_,rfl⟩
 have hb1:Blk w1 w.heap.size 3 #[.int .i64 8,.int .i64 1,.int .i64 2,.int .i64 4,.int .i64 8,.int .i64 10,.int .i64 12,.int .i64 16,.int .i64 5,.int .i64 8]:=by rw [hw1];exact Blk.new w _ _
 have hc1:Chg [] w w1:=by rw [hw1];exact (Chg.refl [] w).alloc _
 have hn:=next_tp w1 b cap at_ 10 A L (h.fresh hc1) (by omega) (by omega)
 have hbb:w.heap.size≠b:=by have:=h.blk.lt;omega
 have HW1:=hid hw1
 obtain ⟨B,hB⟩:∃ B,B=w.heap.size:=⟨_,rfl⟩
 rw [←hB] at hb1 hbb
 have HB:=hid hB
 clear hw1 h hB
 go_enter Tryz.func40,Tryz.ntmps40
 go_wp2_with fail
 rw [←HW1.out,←HB.out]
 refine hn.mono ?_
 rintro e w2 ⟨k,at',rfl,hk,htp,ch2⟩
 obtain ⟨d,hd,hd0,hd1⟩:=depthL_ok k hk
 have hb2:=hb1.chg ch2 (by simpa using hbb)
 have hcell:w2.cell? ⟨B,k,none⟩=some (.int .i64 d):=by
  rw [hb2.cell k]
  have e:(#[Value.int .i64 8,.int .i64 1,.int .i64 2,.int .i64 4,.int .i64 8,.int .i64 10,.int .i64 12,.int .i64 16,.int .i64 5,.int .i64 8]:Array Value)=(depthL.map vi).toArray:=rfl
  rw [e,List.getElem?_toArray,List.getElem?_map,hd]
  rfl
 have hk0:(0:Int)≤(k:Int):=by omega
 have hk1:(k:Int)<10:=by omega
 have HD:=hid (And.intro hd0 hd1)
 have HCH:Hid (Chg [b] w w2):=hid ((hc1.mono (by simp)).trans_same ch2)
 clear hd hb2 hb1 hn hd0 hd1
 go_wp2_with fail
 go_ret
 exact ⟨d,at',rfl,HD.out.1,HD.out.2,htp,HCH.out⟩
def IsRw (w:World) (b:Nat) (s:Nat):Prop:=Blk w b 101 #[.int .i64 s]∧s<2147483648
theorem and_low64 (x:Int) (m:Nat) (hm:m<9223372036854775808):∃ k:Nat,k≤m∧bits .and .i64 x (m:Int)=(k:Int):=by
 refine ⟨(BitVec.ofInt 64 x &&& BitVec.ofInt 64 (m:Int)).toNat,?_,?_⟩
 ·rw [BitVec.toNat_and]
  have e:(BitVec.ofInt 64 (m:Int)).toNat=m:=by
   rw [BitVec.ofInt_natCast,BitVec.toNat_ofNat]
   exact Nat.mod_eq_of_lt (by omega)
  rw [e]
  exact Nat.and_le_right
 ·show IntKind.i64.wrap ((BitVec.ofInt 64 x &&& BitVec.ofInt 64 (m:Int)).toNat:Int)=_
  have hle:(BitVec.ofInt 64 x &&& BitVec.ofInt 64 (m:Int)).toNat≤m:=by
   rw [BitVec.toNat_and]
   have e:(BitVec.ofInt 64 (m:Int)).toNat=m:=by
    rw [BitVec.ofInt_natCast,BitVec.toNat_ofNat]
    exact Nat.mod_eq_of_lt (by omega)
   rw [e]
   exact Nat.and_le_right
  generalize (BitVec.ofInt 64 x &&& BitVec.ofInt 64 (m:Int)).toNat=q at *
  exact IntWalk.i64_in _ (by omega)
theorem next_rw (w:World) (b s n:Nat) (h:IsRw w b s) (hn0:1≤n) (hn1:n≤1073741824) :
  Calls Tryz.prog 65 #[.pointer (some ⟨b,0,none⟩),.int .i64 n] w fun e w'=>∃ v s':Nat,e=.returned (.int .i64 v)∧v<n∧IsRw w' b s'∧Chg [b] w w':=by
 obtain ⟨hb,hs⟩:=h
 have b0:=hb.cell 0
 have f0:=hb.frozen 0
 simp at b0
 obtain ⟨x,hx⟩:∃ x,x=s*1103515245+12345:=⟨_,rfl⟩
 have hxb:x<4611686018427387904:=by omega
 have hxI:(s:Int)*1103515245+12345=(x:Int):=by omega
 obtain ⟨y,hy,hand'⟩:=and_low64 (x:Int) 2147483647 (by omega)
 have hy1:y<2147483648:=by omega
 have hset:=hb.set_ 0 (.int .i64 y)
 have hand:bits BinOp.and IntKind.i64 (x:Int) 2147483647=(y:Int):=hand'
 obtain ⟨z,hz⟩:∃ z,z=y / 256:=⟨_,rfl⟩
 have hzI:(y:Int) / 256=(z:Int):=by omega
 have hz1:z<8388608:=by omega
 obtain ⟨r,hr⟩:∃ r,r=z%n:=⟨_,rfl⟩
 have hrn:r<n:=by rw [hr];exact Nat.mod_lt _ (by omega)
 have htm:(z:Int).tmod (n:Int)=(r:Int):=by rw [hr,Int.tmod_eq_emod_of_nonneg (by omega)];simp
 have hnne:(n:Int)≠0:=by omega
 have HS:=hid hset
 have HHB:=hid hb
 have HRN:=hid hrn
 clear hset hb hx hy hz hr hrn hand'
 go_enter Tryz.func65,Tryz.ntmps65
 go_wp2
 go_ret
 refine ⟨r,y,rfl,HRN.out,⟨?_,hy1⟩,(Chg.refl [b] w).setCell (.inl (by simp)) _⟩
 simpa using HS.out
end Go.Proofs.YtijpbkakncglgaaGreatDoor
