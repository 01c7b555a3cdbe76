/- package prefix by its contracts, the eighth part: Put, PutTable. -/
import Derived.Test.YtklocammllljiaaGreatDoorMg15
import Derived.Test.YtklocammllljiaaGreatDoorMg28
import Derived.Deep.CutRange
set_option linter.unusedVariables false
set_option linter.unusedSimpArgs false
set_option maxHeartbeats 4000000
set_option maxRecDepth 100000
namespace Go.Proofs.YtklocammllljiaaGreatDoor
open Go.RowKit
theorem pfput_ok (w:World) (b:Nat) (F bs:List Nat) (lens l:List Nat) (A Al:Option Addr) (cap capl:Nat) (h:IsWr w b F bs) (hf:FullL lens) (hc:Cells i64 w A lens) (hA:Apt A lens F) (hl:l.length<=4096) (hcl:Cells i64 w Al l) (hAl:Apt Al l F)
  (hs:∀ s∈l,s<lens.length/\0<lenAt lens s) (hbs:bs.length<137438953472) :
  Calls Tryz.prog 192 #[.pointer (some ⟨b,0,none⟩),.slice A lens.length cap,.slice Al l.length capl] w fun e w'=>e=.returned (.int .i64 0)/\∃ F',IsWr w' b F' (bs++symsBits lens l)/\Grow F F' w w':=by
 have ar:=codes_ok lens A cap w hf hc
 have aC:=h.lt
 obtain ⟨n,hn⟩:=zX (lens.length)
 obtain ⟨m,hm⟩:=zX (l.length)
 have aJ:=hf.n1
 have aO:=hf.n2
 rw [<-hn] at ar hs aJ aO ⊢
 rw [<-hm] at hl ⊢
 have HN:=hid hn
 have HM:=hid hm
 have HS:=hid hs
 have HF:=hid hf
 have HA:=hid hA
 have aQ:=hid hAl
 have aD:=hid aC
 clear hn hm hs hf hA hAl aC
 go_enter Tryz.func192,Tryz.ntmps192
 go_wp2_with fail
 refine ar.mono ?_
 rintro e w1 ⟨vw,gw,rfl,af,ab,aZ⟩
 obtain ⟨cw,rfl,ay,aV,ai,_⟩:=af.open_map
 have aH:(wordsL lens).length=n:=by rw [HN.out];exact wordsTo_len lens _
 rw [aH] at ay ⊢
 have aM:=ab.size
 have aX:=hid ai
 clear ar aH ai
 go_wp2_with fail
 go_loopg [10,23] m (fun j v10 iv wr=>∃ (i:Nat),iv=.int .i64 i/\i+j=m/\wr=w1)
 case atStart=>exact ⟨0,rfl,by omega,rfl⟩
 case round =>
  obtain ⟨i,rfl,a2,aY⟩:=hrel
  obtain rfl:=aY.symm
  rcases gk with _ | j
  ·obtain rfl:i=m:=by omega
   go_wp2_with fail
   go_loopg [12,45] i (fun j v12 iv wr2=>∃ (q:Nat) (F' aj:List Nat),iv=.int .i64 q/\q+j=i/\IsWr wr2 b F' aj/\Hid (aj=bs++symsBits lens (l.take q))/\aj.length<=bs.length+24*q/\Grow F F' w1 wr2)
   case atStart=>exact ⟨0,F,bs,rfl,by omega,h.same ab,hid (by simp [symsBits]),by omega,Grow.refl F _⟩
   case round =>
    obtain ⟨q,F',aj,rfl,a3,aE,Hb,a1,ac⟩:=hrel
    rcases gk with _ | j
    ·obtain rfl:q=i:=by omega
     go_wp2
     go_ret
     refine ⟨rfl,F',?_,Grow.pre ab ac⟩
     have e:l.take q=l:=by rw [HM.out,zN]
     have h5:=Hb.out
     rw [e] at h5
     rw [<-h5]
     exact aE
    ·have aK:q<i:=by omega
     have an:q<l.length:=by rw [<-HM.out];exact aK
     have aa:0<lens.length:=by rw [<-HN.out];omega
     obtain ⟨gl,ol,rfl,cl⟩:=nat_at ((hcl.same ab).keep aQ.out ac.chg) an
     obtain ⟨ad,am⟩:=HS.out l[q] (zG an)
     have ag:=symsBits_snoc lens (l.take q) l[q]
     rw [<-take_snoc' l an] at ag
     obtain ⟨s,ak⟩:=zX (l[q])
     rw [<-ak] at cl ad am ag
     have ae:=wordOf_lt HF.out am
     have aP:lenAt lens s<=24:=by
      unfold lenAt
      rw [zD,zF (by rw [<-HN.out];exact ad)]
      exact HF.out.le _ (zG _)
     have aB:symBits lens s=bitsOf (wordOf lens s) (lenAt lens s):=rfl
     rw [aB] at ag
     -- the cells of the two tables
     have aI:=(hc.same ab).keep HA.out ac.chg
     obtain ⟨gt,ot,rfl,az,ah⟩:=aI.ex aa
     have ct:=ah s (lenAt lens s) (by unfold lenAt;rw [zD,zF (by rw [<-HN.out];exact ad)];rfl)
     have al:=aX.out s (wordOf lens s) (by unfold wordOf;rw [zD,zF (by unfold wordsL;rw [wordsTo_len,<-HN.out];exact ad)];rfl)
     have ap:gw∉F':=ac.out af.lt (fun hm=>by have:=aD.out _ hm;omega)
     have au:gt∉F':=fun hm=>by
      have h8:=(HA.out.grow (hc.same ab) ac) aa _ rfl
      exact h8 hm
     have aL:wr.cell? ⟨gw,s,none⟩=some (.int .u64 (wordOf lens s:Int)):=(World.cell?_of_block (w:=w1) (ac.chg.block gw af.lt (fun hm=>by have:=aD.out _ hm;omega))).trans al
     have aA:wr.cell? ⟨gt,ot+s,none⟩=some (.int .i64 (lenAt lens s:Int)):=ct
     have a0:wr.cell? ⟨gl,ol+q,none⟩=some (.int .i64 s):=cl
     have aG:wordOf lens s<16777216:=Nat.lt_of_lt_of_le ae (Nat.le_trans (Nat.pow_le_pow_right (n:=2) (by decide) aP) (by decide))
     generalize wordOf lens s=wd at *
     generalize lenAt lens s=L at *
     have hS:∀ w',Chg F' wr w'->w'.cell? ⟨gw,s,none⟩=some (.int .u64 wd)/\w'.cell? ⟨gt,ot+s,none⟩=some (.int .i64 L):=fun w' hc' =>
      ⟨(World.cell?_of_block (w:=wr) (hc'.block gw (Nat.lt_of_lt_of_le af.lt ac.size) ap)).trans aL,(World.cell?_of_block (w:=wr) (hc'.block gt az au)).trans aA⟩
     have aF:=hid hS
     have aT:=hid ag
     have ax:=hid ae
     have aS:(0:Int)<=(q:Int):=by omega
     have aN:(q:Int)<(i:Int):=by omega
     have aU:(0:Int)<=(s:Int):=by omega
     have aR:(s:Int)<(n:Int):=by omega
     have a4:=hid af
     clear hS ag ae ah ct cl al ak aB an aa aI af
     go_wp2_with fail
     have av:=fun w9 (hc9:Chg [] wr w9)=>wput_ok w9 b F' aj wd L (aE.same hc9) (by omega) ax.out (by omega)
     go_region_held3 (fun w'=>w'.cell? ⟨gw,s,none⟩=some (.int .u64 wd)/\w'.cell? ⟨gt,ot+s,none⟩=some (.int .i64 L)) (first | (go_keep;done) | exact aF.out _ (((zR F' wr).drew).trans_same (Grow.chg (by assumption))) | exact aF.out _ (Grow.chg (by assumption)))
      (first | (go_at_call 24;refine (av _ (by first | exact zR _ _ | exact (zR [] wr).drew | exact (zR [] wr).drewN _)).mono ?_;rintro e w5 ⟨rfl,F5,ao,aw⟩))
     go_wp2_with fail
     go_roundg j
     case measure=>omega
     case rel =>
      refine ⟨q+1,F5,_,by go_num,by omega,ao,hid ?_,?_,ac.trans (Grow.pre ((zR [] wr).drew) aw)⟩
      ·rw [aT.out,Hb.out];simp only [zH]
      ·rw [zC,bitsOf_len];omega
  ·have aW:i<m:=by omega
   have aq:i<l.length:=by rw [<-HM.out];exact aW
   obtain ⟨gl,ol,rfl,cl⟩:=nat_at (hcl.same ab) aq
   obtain ⟨ad,am⟩:=HS.out l[i] (zG aq)
   have aa:0<lens.length:=by rw [<-HN.out];omega
   obtain ⟨s,ak⟩:=zX (l[i])
   rw [<-ak] at cl ad am
   obtain ⟨gt,ot,rfl,az,ah⟩:=(hc.same ab).ex aa
   have ct:=ah s (lenAt lens s) (by unfold lenAt;rw [zD,zF (by rw [<-HN.out];exact ad)];rfl)
   have aA:w1.cell? ⟨gt,ot+s,none⟩=some (.int .i64 (lenAt lens s:Int)):=ct
   have t1:decide ((s:Int)<0)=false:=zA (by omega)
   have t2:decide ((n:Int)<=(s:Int))=false:=zA (by omega)
   have t3:((lenAt lens s:Int)==0)=false:=by rw [beq_eq_false_iff_ne];omega
   have aS:(0:Int)<=(i:Int):=by omega
   have aN:(i:Int)<(m:Int):=by omega
   have aU:(0:Int)<=(s:Int):=by omega
   have aR:(s:Int)<(n:Int):=by omega
   generalize lenAt lens s=L at *
   clear ct ah ak aq aa
   go_wp2_with fail
   go_roundg j
   case measure=>omega
   case rel=>exact ⟨i+1,by go_num,by omega,rfl⟩
theorem putTable_ok (w:World) (b:Nat) (F bs:List Nat) (lens:List Nat) (A:Option Addr) (cap:Nat) (h:IsWr w b F bs) (hf:FullL lens) (hc:Cells i64 w A lens) (hA:Apt A lens F) (hbs:bs.length<137438953472) :
  Calls Tryz.prog 191 #[.pointer (some ⟨b,0,none⟩),.slice A lens.length cap] w fun e w'=>e=.returned (.int .i64 0)/\∃ F',IsWr w' b F' (bs++tableBits lens)/\Grow F F' w w':=by
 have ao:=full_yes lens A cap w hf hc
 have aI:=hf.n1
 have aO:=hf.n2
 have aD:=hf.le
 have an:=tableBits_eq lens
 obtain ⟨n,hn⟩:=zX (lens.length)
 rw [<-hn] at ao aI aO an ⊢
 rw [an]
 have HN:=hid hn
 have HA:=hid hA
 have aJ:=hid aD
 have aj:=fun i=>zr_le 66 (lens.drop i)
 have ay:=fun i=>zr_len 66 (lens.drop i)
 have aB:=fun i=>zr_zero 66 (lens.drop i)
 have aF:=fun i=>zr_stop 66 (lens.drop i)
 have av:=hid aj
 have aM:=hid ay
 have aK:=hid aB
 have aH:=hid aF
 clear hn hA an aD hf aj ay aB aF
 have k1:IntKind.u64.wrap ((n:Int)-1)=((n-1:Nat):Int):=by
  have e:((n-1:Nat):Int)=(n:Int)-1:=by omega
  rw [e]
  exact IntWalk.u64_in _ (by omega)
 go_enter Tryz.func191,Tryz.ntmps191
 go_wp2_with fail
 refine ao.mono ?_
 rintro e w' ⟨rfl,rfl⟩
 go_wp2_with fail
 refine (wput_ok w b F bs (n-1) 10 h (by omega) (by omega) (by omega)).mono ?_
 rintro e w1 ⟨rfl,F1,ah,ak⟩
 clear h ao
 go_wp2_with fail
 go_loopg [5,6] n (fun k vi' vz wr=>∃ (i:Nat) (F' ag:List Nat),vi'=.int .i64 i/\i<=n/\n<=i+k/\IsWr wr b F' ag/\Hid (ag++bodyFrom lens i=bs++(bitsOf (n-1) 10++bodyFrom lens 0))/\ag.length<=bs.length+10+11*i/\Grow F F' w wr)
 case atStart=>exact ⟨0,F1,_,rfl,by omega,by omega,ah,hid (by rw [zH]),by rw [zC,bitsOf_len];omega,ak⟩
 case round =>
  clear ah ak
  obtain ⟨wk,rfl⟩:=zX (wr)
  obtain ⟨i,F',ag,rfl,aE,a1,aq,Hb,a0,am⟩:=hrel
  by_cases hend:n<=i
  ·obtain rfl:i=n:=by omega
   go_wp2
   go_ret
   refine ⟨rfl,F',?_,am⟩
   have h5:=Hb.out
   have e:=bodyFrom_end lens
   rw [<-HN.out] at e
   rw [e,List.append_nil] at h5
   rw [<-h5]
   exact aq
  ·rcases gk with _ | ko
   ·omega
   ·have hi:i<n:=by omega
    obtain ⟨Z,hZ⟩:=zX (zr 66 (lens.drop i))
    have z1:=av.out i
    have z2:=aM.out i
    have z3:=aK.out i
    have z4:=aH.out i
    rw [<-hZ] at z1 z2 z3 z4
    rw [zO,<-HN.out] at z2 z4
    have au:∀ z,(lens.drop i).getD z 0=lenAt lens (i+z):=fun z=>by
     unfold lenAt
     rw [zD,List.getElem?_drop,<-zD]
    have ac:0<lens.length:=by rw [<-HN.out];omega
    obtain ⟨gt,ot,rfl,aV,ax⟩:=(hc.keep HA.out am.chg).ex ac
    have ad:∀ s,s<n->wk.cell? ⟨gt,ot+s,none⟩=some (.int .i64 (lenAt lens s:Int)):=fun s hs=>by
     have:=ax s (lenAt lens s) (by unfold lenAt;rw [zD,zF (by rw [<-HN.out];exact hs)];rfl)
     exact this
    have ab:=bodyFrom_one (lens:=lens) (i:=i) (by rw [<-HN.out];exact hi)
    have aa:=bodyFrom_many (lens:=lens) (i:=i) (by rw [<-HN.out];exact hi)
    rw [<-hZ] at ab aa
    have aN:lenAt lens i<=24:=by
     unfold lenAt
     rw [zD,zF (by rw [<-HN.out];exact hi)]
     exact aJ.out _ (zG _)
    have HC:=hid ad
    have HZ:=hid hZ
    have Z3:Hid (∀ z,z<Z->lenAt lens (i+z)=0):=hid fun z hz=>by rw [<-au];exact z3 z hz
    have Z4:Hid (Z=66\/Z=n-i\/lenAt lens (i+Z)≠0):=hid (by rw [<-au];exact z4)
    have ar:=hid ab
    have ai:=hid aa
    have a2:=hid aE
    clear ad hZ z3 z4 au ax ab aa ac hend aE
    go_wp2_with fail
    go_loopg [6] Z (fun k vz wz=>∃ z:Nat,vz=.int .i64 z/\z+k=Z/\wz=wk)
    case atStart=>exact ⟨0,rfl,by omega,rfl⟩
    case round =>
     obtain ⟨z,rfl,aX,aG⟩:=hrel
     obtain rfl:=aG.symm
     clear aG
     rcases gk with _ | j
     ·obtain rfl:z=Z:=by omega
      go_upto_region 7 with fail
      go_cut [38] from 20 to 40 (fun s38 wx=>s38=.bool false/\wx=wk)
      case first =>
       by_cases q1:z=66
       ·have t1:decide ((z:Int)<66)=false:=zA (by omega)
        clear q1
        go_wp2
        go_meet
        case rel=>exact ⟨rfl,rfl⟩
       ·have t1:decide ((z:Int)<66)=true:=zB (by omega)
        by_cases q2:i+z<n
        ·have aQ:lenAt lens (i+z)≠0:=by
          rcases Z4.out with h | h | h
          ·omega
          ·omega
          ·exact h
         have cz:=HC.out (i+z) q2
         obtain ⟨q,hq⟩:=zX (i+z)
         rw [<-hq] at cz q2 aQ
         have aS:(i:Int)+(z:Int)=(q:Int):=by omega
         have t2:decide ((q:Int)<(n:Int))=true:=zB (by omega)
         have t3:((lenAt lens q:Int)==0)=false:=by rw [beq_eq_false_iff_ne];omega
         have aC:(0:Int)<=(q:Int):=by omega
         generalize lenAt lens q=L at *
         clear hq q1
         go_wp2
         go_meet
         case rel=>exact ⟨rfl,rfl⟩
        ·have t2:decide ((i:Int)+(z:Int)<(n:Int))=false:=zA (by omega)
         clear q1
         go_wp2
         go_meet
         case rel=>exact ⟨rfl,rfl⟩
      case rest =>
       obtain ⟨rfl,h9⟩:=hcut
       obtain rfl:=h9.symm
       clear h9
       by_cases hz3:z<3
       ·have t1:decide ((z:Int)<3)=true:=zB (by omega)
        have ab:=ar.out hz3
        have ci:=HC.out i hi
        have al:lenAt lens i<2^5:=by omega
        have aL:lenAt lens i<32:=by omega
        generalize lenAt lens i=x at *
        have aC:(0:Int)<=(i:Int):=by omega
        have aZ:(i:Int)<(n:Int):=by omega
        have HO:=hid ab
        have HX:=hid al
        clear ab hz3 al
        go_wp2_with fail
        refine (wput_ok wk b F' ag x 5 aq (by omega) HX.out (by omega)).mono ?_
        rintro e w5 ⟨rfl,F5,ae,af⟩
        go_wp2_with fail
        go_roundg ko
        case measure=>omega
        case rel =>
         refine ⟨i+1,F5,_,by go_num,by omega,by omega,ae,hid ?_,?_,am.trans af⟩
         ·rw [<-Hb.out,HO.out,zH]
         ·rw [zC,bitsOf_len];omega
       ·have t1:decide ((z:Int)<3)=false:=zA (by omega)
        have aa:=ai.out hz3
        obtain ⟨y,hy⟩:=zX (z-3)
        rw [<-hy] at aa
        have aY:(z:Int)-3=(y:Int):=by omega
        have aW:IntKind.u64.wrap (y:Int)=(y:Int):=IntWalk.u64_in _ (by omega)
        have az:y<2^6:=by omega
        have HO:=hid aa
        have HY:=hid az
        have aR:y<=63:=by omega
        have aT:3<=z:=by omega
        have aU:i+z<=n:=by omega
        clear aa hz3 az hy
        go_wp2_with fail
        refine (wput_ok wk b F' ag 31 5 aq (by omega) (by omega) (by omega)).mono ?_
        rintro e w5 ⟨rfl,F5,ae,af⟩
        go_wp2_with fail
        refine (wput_ok w5 b F5 _ y 6 ae (by omega) HY.out (by rw [zC,bitsOf_len];omega)).mono ?_
        rintro e w6 ⟨rfl,F6,ap,aw⟩
        go_wp2_with fail
        go_roundg ko
        case measure=>omega
        case rel =>
         refine ⟨i+z,F6,_,by go_num,by omega,by omega,ap,hid ?_,?_,(am.trans af).trans aw⟩
         ·rw [<-Hb.out,HO.out];simp only [zH]
         ·rw [zC,zC,bitsOf_len,bitsOf_len];omega
     ·have aP:z<Z:=by omega
      have t1:decide ((z:Int)<66)=true:=zB (by omega)
      have aA:i+z<n:=by omega
      have cz:=HC.out (i+z) aA
      rw [Z3.out z aP] at cz
      obtain ⟨q,hq⟩:=zX (i+z)
      rw [<-hq] at cz aA
      have aS:(i:Int)+(z:Int)=(q:Int):=by omega
      have t2:decide ((q:Int)<(n:Int))=true:=zB (by omega)
      have aC:(0:Int)<=(q:Int):=by omega
      clear hq
      go_wp2_with fail
      go_roundg j
      case measure=>omega
      case rel=>exact ⟨z+1,by go_num,by omega,rfl⟩
theorem maxOf_nat (ns:List Nat) (h:ns≠[]):Lib.maxOf (ns.map Int.ofNat)=((maxN ns:Nat):Int):=by
 have aa:∀ (l:List Nat) (a:Nat),(l.map Int.ofNat).foldl max (a:Int)=((l.foldl max a:Nat):Int):=by
  intro l
  induction l with
  | nil=>intro a;rfl
  | cons x l ih =>
   intro a
   have e:max (a:Int) (Int.ofNat x)=((max a x:Nat):Int):=by
    show max (a:Int) (x:Int)=_
    omega
   simp only [List.map_cons,List.foldl_cons]
   rw [e,ih]
 cases ns with
 | nil=>exact absurd rfl h
 | cons x l =>
  unfold Lib.maxOf maxN
  show ((x::l).map Int.ofNat).foldl max (x:Int)=_
  rw [aa]
  simp
def freqL (f:List Nat):List Nat:=(List.range (maxN f+1)).map fun v=>f.count v
def freqTo (m:Nat) (f:List Nat):List Nat:=(List.range m).map fun v=>f.count v
theorem freqTo_len (m:Nat) (f:List Nat):(freqTo m f).length=m:=by simp [freqTo]
theorem freqTo_nil (m:Nat):freqTo m []=List.replicate m 0:=by
 apply List.ext_getElem
 ·simp [freqTo]
 ·intro i h1 h2;simp [freqTo]
theorem freqTo_at {m v:Nat} (f:List Nat) (h:v<m):(freqTo m f)[v]?=some (f.count v):=by simp [freqTo,h]
theorem freqTo_snoc {m x:Nat} (f:List Nat) (h:x<m):freqTo m (f++[x])=(freqTo m f).set x (f.count x+1):=by
 apply List.ext_getElem?
 intro i
 rw [List.getElem?_set,freqTo_len]
 by_cases hi:i<m
 ·rw [freqTo_at _ hi]
  by_cases e:x=i
  ·subst e
   rw [if_pos rfl,if_pos h,List.count_append]
   simp
  ·rw [if_neg e,freqTo_at _ hi,List.count_append]
   have:List.count i [x]=0:=by
    rw [List.count_eq_zero]
    simp
    omega
   rw [this];rfl
 ·have e1:(freqTo m (f++[x]))[i]?=none:=List.getElem?_eq_none (by rw [freqTo_len];omega)
  rw [e1]
  by_cases e:x=i
  ·omega
  ·rw [if_neg e]
   exact (List.getElem?_eq_none (by rw [freqTo_len];omega)).symm
theorem freqL_len (f:List Nat):(freqL f).length=maxN f+1:=by simp [freqL]
theorem freqL_getD {f:List Nat} {v:Nat} (h:v<=maxN f):(freqL f).getD v 0=f.count v:=by
 simp [freqL,zD,show v<maxN f+1 by omega]
theorem freqL_le (f:List Nat):∀ x∈freqL f,x<=f.length:=by
 intro x hx
 obtain ⟨v,_,rfl⟩:=List.mem_map.1 hx
 exact List.count_le_length
theorem freqL_coins {f:List Nat} (h:f≠[]):0<(coinsTo (freqL f) (freqL f).length).length:=by
 cases f with
 | nil=>exact absurd rfl h
 | cons x l =>
  have hx:x<=maxN (x::l):=maxN_ge (by simp)
  have h1:=coinsOf_to (freqL (x::l)) x (freqL (x::l)).length
  rw [freqL_len,freqL_getD hx,if_pos ⟨by omega,by simp⟩] at h1
  rw [freqL_len]
  have h2:0<coinsOf x (coinsTo (freqL (x::l)) (maxN (x::l)+1)):=by omega
  obtain ⟨w,hw⟩:=coinsOf_pos.1 h2
  exact List.length_pos_of_mem hw
def prefLens (l:List Int) (W d:Nat):List Nat:=lensFn (freqL (foldedN l W d))
def prefBits (l:List Int) (W d:Nat):List Nat:=tableBits (prefLens l W d)++symsBits (prefLens l W d) (foldedN l W d)
theorem foldedL_vi (l:List Int) (W d:Nat):(foldedL l W d).map vi=(foldedN l W d).map i64:=by
 unfold foldedL
 rw [List.map_map]
 rfl
theorem putPrefixed_ok (w:World) (b:Nat) (F bs:List Nat) (l:List Int) (A:Option Addr) (cap W d:Nat) (h:IsWr w b F bs) (hw0:1<=W) (hw1:W<=16) (h0:1<=d) (h1:d<=16) (hl0:0<l.length) (hl:l.length<=256) (hlW:l.length<=64*W) (hs:SmpOk d l) (hc:Cells vi w A l) (hA:Apt A l F) (hmx:maxN (foldedN l W d)<256) (hbs:bs.length<68719476736) :
  Calls Tryz.prog 142 #[.pointer (some ⟨b,0,none⟩),.slice A l.length cap,.int .i64 W,.int .i64 d] w fun e w'=>e=.returned (.tuple #[])/\∃ F',IsWr w' b F' (bs++prefBits l W d)/\Grow F F' w w':=by
 have aC:=folded_ok l A cap W d w h0 h1 hw0 (by omega) hlW hs hc (by omega)
 have ar:=foldedN_len l W d
 rw [foldedL_vi] at aC
 have bf:prefBits l W d=tableBits (lensFn (freqL (foldedN l W d)))++symsBits (lensFn (freqL (foldedN l W d))) (foldedN l W d):=rfl
 rw [bf]
 obtain ⟨f,hf⟩:=zX (foldedN l W d)
 rw [<-hf] at aC ar hmx ⊢
 obtain ⟨n,hn⟩:=zX (l.length)
 rw [<-hn] at aC ar hl0 hl ⊢
 obtain ⟨M,hM⟩:=zX (maxN f)
 rw [<-hM] at hmx
 have ax:f≠[]:=by intro e;rw [e] at ar;simp at ar;omega
 have a1:∀ x∈f,x<=M:=fun x hx=>by rw [hM];exact maxN_ge hx
 have bi:=run_make1 (P:=Tryz.prog) int_elem rfl .i64 .i64 (M+1) (by omega) (by omega)
 have a0:=h.lt
 have ak:=hid ar
 have bb:=hid a1
 have HM:=hid hM
 have bc:=hid ax
 have a8:=hid a0
 clear hf hn hM ar a1 ax a0 hs hA hc bf
 go_enter Tryz.func142,Tryz.ntmps142
 go_wp2_with fail
 refine aC.mono ?_
 rintro e w1 ⟨fv,fg,rfl,aa,aN,bC⟩
 obtain ⟨fc,rfl,bu,bw,_,_⟩:=aa.open_map
 rw [ak.out] at bu ⊢
 have ba:Cells vi w1 (some ⟨fg,0,none⟩) (f.map Int.ofNat):=by
  have e:f.map i64=(f.map Int.ofNat).map vi:=by rw [List.map_map];rfl
  have h9:=aa
  rw [e] at h9
  exact h9.toOwn.cells
 have be:Cells i64 w1 (some ⟨fg,0,none⟩) f:=aa.toOwn.cells
 have an:(f.map Int.ofNat).length=n:=by rw [zE];exact ak.out
 have al:=Tryz.slices_Max_int fg 0 n fc (f.map Int.ofNat) w1 hl0 (by rw [an];exact zQ _) (by omega) (Cells.getD_ ba)
 rw [zT (by rw [an];exact zQ _),maxOf_nat f bc.out,<-HM.out] at al
 have bz:=aN.size
 have bl:=aa.lt
 clear aC ba an
 obtain ⟨M1,aU⟩:=zX (M+1)
 have bk:(M:Int)+1=(M1:Int):=by omega
 rw [<-aU] at bi
 go_wp2_with fail
 refine al.mono ?_
 rintro e w' ⟨rfl,rfl⟩
 obtain ⟨B,hB⟩:=zX (w'.heap.size)
 obtain ⟨w2,aE⟩:=zX (w'.alloc (.cells (Array.replicate M1 (Value.int .i64 0)) 3))
 have aH:Row w2 3 (.slice (some ⟨B,0,none⟩) M1 M1) B ((freqTo M1 (f.take 0)).map i64):=by
  rw [aE,hB,List.take_zero,freqTo_nil]
  exact Row.zerosN w' M1 (by omega)
 have a7:Chg [] w' w2:=by rw [aE];exact (zR [] w').alloc _
 have aY:=be.same a7
 have aX:=aN.trans_same a7
 have br:=hid aE
 have HB:=hid hB
 have aZ:fg≠B:=by omega
 have bK:=aH.lt
 have aG:=hid aU
 have bd:M1<=256:=by omega
 clear al aE hB aU aa be aN
 go_wp2_with fail
 rw [<-br.out,<-HB.out]
 go_loopg [11,24] n (fun j v11 iv wr=>∃ (i:Nat),iv=.int .i64 i/\i+j=n/\Row wr 3 (.slice (some ⟨B,0,none⟩) M1 M1) B ((freqTo M1 (f.take i)).map i64)/\Chg [B] w2 wr)
 case atStart=>exact ⟨0,rfl,by omega,aH,zR _ _⟩
 case round =>
  clear aH
  obtain ⟨wk,rfl⟩:=zX (wr)
  obtain ⟨i,rfl,bA,aa,aA⟩:=hrel
  have ap:=aY.keep (fun _ ad e hm=>by
   injection e with e
   subst e
   simp at hm
   exact aZ hm) aA
  rcases gk with _ | j
  ·obtain rfl:i=n:=by omega
   have a9:freqTo M1 (f.take i)=freqL f:=by
    rw [zT (by rw [ak.out];exact zQ _),aG.out,HM.out];rfl
   rw [a9] at aa
   have a6:Cells i64 wk (some ⟨B,0,none⟩) (freqL f):=aa.toOwn.cells
   have aL:(freqL f).length=M1:=by rw [freqL_len,<-HM.out,aG.out]
   have aK:=lengths_ok wk (freqL f) (some ⟨B,0,none⟩) M1 (by omega) (by omega) (fun x hx=>by have:=freqL_le f x hx;rw [ak.out] at this;omega) (freqL_coins bc.out) a6
   rw [aL] at aK
   have aT:Chg [] w wk:=aX.trans aA (fun x hx=>by rw [zU.1 hx];right;have:=HB.out;omega)
   have bp:=h.same aT
   have bh:=hid aL
   have bJ:=aT.size
   have bo:=aA.size
   clear a6 aa a9 aL h aA
   go_wp2_with fail
   refine aK.mono ?_
   rintro e w3 ⟨lv,lg,rfl,ao,aF,aV,bG⟩
   obtain ⟨lc,rfl,bq,bx,_,_⟩:=ao.open_map
   have ah:Cells i64 w3 (some ⟨lg,0,none⟩) (lensFn (freqL f)):=ao.toOwn.cells
   have aw:∀ s∈f,s<(lensFn (freqL f)).length/\0<lenAt (lensFn (freqL f)) s:=fun s hs=>by
    have bj:=bb.out s hs
    have a3:s<(freqL f).length:=by rw [bh.out,aG.out];omega
    refine ⟨by rw [aF.len];exact a3,(aF.used s a3).2 ?_⟩
    rw [freqL_getD (by rw [<-HM.out];exact bj)]
    exact List.count_pos_iff.2 hs
   have ac:=aF.full
   have ai:Apt (some ⟨lg,0,none⟩) (lensFn (freqL f)) F:=fun _ ad e hm=>by
    injection e with e
    subst e
    have:=a8.out _ hm
    simp at this
    omega
   have az:Apt (some ⟨fg,0,none⟩) f F:=fun _ ad e hm=>by
    injection e with e
    subst e
    have:=a8.out _ hm
    simp at this
    omega
   have au:=ap.same aV
   have aW:=bp.same aV
   have aS:=aT.trans_same aV
   have aB:=hid aw
   have ag:=hid ac
   have a4:Hid ((lensFn (freqL f)).length<=1024):=hid ac.n2
   obtain ⟨am,ab⟩:=zX (lensFn (freqL f))
   have ay:=hid ab
   rw [<-ab] at ah aB ag ai bq a4 ⊢
   have a2:=putTable_ok w3 b F bs am (some ⟨lg,0,none⟩) lc aW ag.out ah ai (by omega)
   clear aK ao aF aw ac ab ap
   go_wp2_with fail
   refine a2.mono ?_
   rintro e w4 ⟨rfl,F4,aP,ae⟩
   have bg:=tableBits_len am
   have a5:=pfput_ok w4 b F4 _ am f (some ⟨lg,0,none⟩) (some ⟨fg,0,none⟩) lc fc aP ag.out (ah.keep ai ae.chg) (ai.grow ah ae) (by rw [ak.out];omega) (au.keep az ae.chg) (az.grow au ae) aB.out (by rw [zC];have:=a4.out;omega)
   rw [ak.out] at a5
   clear a2 bg
   go_wp2_with fail
   refine a5.mono ?_
   rintro e w5 ⟨rfl,F5,aO,aJ⟩
   go_wp2_with fail
   go_end0
   refine ⟨rfl,F5,?_,(Grow.pre aS ae).trans aJ⟩
   rw [<-zH,<-ay.out]
   exact aO
  ·have bn:i<n:=by omega
   have aD:i<f.length:=by rw [ak.out];exact bn
   obtain ⟨g9,o9,e9,cl⟩:=nat_at ap aD
   injection e9 with e9
   injection e9 with e9 e10 _
   subst e9
   subst e10
   rw [Nat.zero_add] at cl
   have bv:=bb.out f[i] (zG aD)
   have aM:=take_snoc' f aD
   obtain ⟨x,hx⟩:=zX (f[i])
   rw [<-hx] at cl bv aM
   have aQ:x<M1:=by have:=aG.out;omega
   have aR:=freqTo_snoc (f.take i) aQ
   rw [<-aM] at aR
   have bm:(f.take i).count x<=256:=Nat.le_trans List.count_le_length (by rw [zI];omega)
   obtain ⟨bD,ee,_,_,aj,av⟩:=aa.open_map
   have cq:=aj x ((f.take i).count x) (freqTo_at _ aQ)
   have fq:=av x
   have aq:=aa.set_ (i:=x) (by rw [zE,freqTo_len];exact aQ) (i64 ((f.take i).count x+1))
   rw [<-List.map_set,<-aR] at aq
   generalize (f.take i).count x=c at *
   have bB:wk.cell? ⟨B,x,none⟩=some (.int .i64 c):=cq
   have af:Row (wk.setCell ⟨B,x,none⟩ (.int .i64 ((c+1:Nat):Int))) 3 (.slice (some ⟨B,0,none⟩) M1 M1) B ((freqTo M1 (f.take (i+1))).map i64):=aq
   have e2:((c+1:Nat):Int)=(c:Int)+1:=by simp
   rw [e2] at af
   have aI:=hid af
   have bE:(0:Int)<=(i:Int):=by omega
   have bF:(i:Int)<(n:Int):=by omega
   have bI:(0:Int)<=(x:Int):=by omega
   have bH:(x:Int)<(M1:Int):=by omega
   clear ee aj av aq af aR aM hx aD cq e2 aa
   go_wp2_with fail
   go_roundg j
   case measure=>omega
   case rel=>exact ⟨i+1,by go_num,by omega,aI.out,aA.setCell (.inl (by simp)) _⟩
def mayB (k:Nat) (l:List Int) (W d:Nat):Bool :=
 if k=0 then decide ((diffL l).length=1) else if k<=5 then true else if k=6 then decide ((diffL l).length<=16) else if k=7 then decide (maxN (foldedN l W d)<256) else false
structure Tile (w:World) (l:List Int) (A:Option Addr) (W H d:Nat):Prop where
 w0:1<=W
 w1:W<=16
 h0:1<=H
 h1:H<=16
 d0:1<=d
 d1:d<=16
 len:l.length=W*H
 smp:SmpOk d l
 cells:Cells vi w A l
theorem Tile.pos {w:World} {l:List Int} {A:Option Addr} {W H d:Nat} (t:Tile w l A W H d):0<l.length:=by rw [t.len];exact Nat.mul_pos t.w0 t.h0
theorem Tile.le {w:World} {l:List Int} {A:Option Addr} {W H d:Nat} (t:Tile w l A W H d):l.length<=256:=by rw [t.len];exact zL t.w1 t.h1
theorem Tile.leW {w:World} {l:List Int} {A:Option Addr} {W H d:Nat} (t:Tile w l A W H d):l.length<=64*W:=by
 rw [t.len,zY]
 exact Nat.mul_le_mul_right W (Nat.le_trans t.h1 (by decide))
theorem Tile.chg {w w':World} {l:List Int} {A:Option Addr} {W H d:Nat} {F:List Nat} (t:Tile w l A W H d) (hA:Apt A l F) (hc:Chg F w w'):Tile w' l A W H d :=
 { t with cells:=t.cells.keep hA hc }
theorem Tile.same {w w':World} {l:List Int} {A:Option Addr} {W H d:Nat} (t:Tile w l A W H d) (hc:Chg [] w w'):Tile w' l A W H d :=
 { t with cells:=t.cells.same hc }
def MayPost (k:Nat) (w:World) (l:List Int) (W d:Nat) (e:Ending) (w':World):Prop:=e=.returned (.bool (mayB k l W d))/\Chg [] w w'
section
variable {w:World} {l:List Int} {A:Option Addr} {W H d:Nat} (cap:Nat) (t:Tile w l A W H d)
include t
theorem may_plain (k:Nat) (hk0:1<=k) (hk:k<=5):Calls Tryz.prog 105 #[.int .i64 k,.slice A l.length cap,.int .i64 W,.int .i64 H,.int .i64 d] w (MayPost k w l W d):=by
 have aa:=isTile_yes l A cap W H d w t.w0 t.w1 t.h0 t.h1 t.d0 t.d1 t.len t.smp t.cells
 have hm:mayB k l W d=true:=by unfold mayB;rw [if_neg (by omega),if_pos hk]
 unfold MayPost
 rw [hm]
 rcases (by omega:k=1\/k=2\/k=3\/k=4\/k=5) with rfl | rfl | rfl | rfl | rfl
 all_goals
  clear t hm
  go_enter Tryz.func105,Tryz.ntmps105
  go_wp2_with (go_at_call 104;refine aa.mono ?_;rintro e w' ⟨rfl,rfl⟩)
  go_ret
  exact ⟨rfl,zR _ _⟩
theorem may_flat:Calls Tryz.prog 105 #[.int .i64 (0:Nat),.slice A l.length cap,.int .i64 W,.int .i64 H,.int .i64 d] w (MayPost 0 w l W d):=by
 have aa:=isTile_yes l A cap W H d w t.w0 t.w1 t.h0 t.h1 t.d0 t.d1 t.len t.smp t.cells
 have ab:=different_ok l A cap w t.pos (by have:=t.le;omega) t.cells
 have hm:mayB 0 l W d=decide ((diffL l).length=1):=by unfold mayB;rw [if_pos rfl]
 have hb:(((diffL l).length:Int)==1)=decide ((diffL l).length=1):=by
  by_cases h:(diffL l).length=1
  ·rw [h];rfl
  ·rw [zA h,beq_eq_false_iff_ne];omega
 unfold MayPost
 rw [hm]
 generalize (diffL l).length=k at *
 generalize decide (k=1)=bb at *
 clear t hm
 go_enter Tryz.func105,Tryz.ntmps105
 go_wp2_with (first | (go_at_call 104;refine aa.mono ?_;rintro e w' ⟨rfl,rfl⟩) | (go_at_call 131;refine ab.mono ?_;rintro e w2 ⟨g,c,rfl,_,_,_,_,ac⟩))
 go_ret
 exact ⟨rfl,ac⟩
theorem may_coloured:Calls Tryz.prog 105 #[.int .i64 (6:Nat),.slice A l.length cap,.int .i64 W,.int .i64 H,.int .i64 d] w (MayPost 6 w l W d):=by
 have aa:=isTile_yes l A cap W H d w t.w0 t.w1 t.h0 t.h1 t.d0 t.d1 t.len t.smp t.cells
 have ab:=different_ok l A cap w t.pos (by have:=t.le;omega) t.cells
 have hm:mayB 6 l W d=decide ((diffL l).length<=16):=by unfold mayB;rw [if_neg (by omega),if_neg (by omega),if_pos rfl]
 have hb:decide (((diffL l).length:Int)<=16)=decide ((diffL l).length<=16):=by
  by_cases h:(diffL l).length<=16
  ·rw [zB h];exact zB (by omega)
  ·rw [zA h];exact zA (by omega)
 unfold MayPost
 rw [hm]
 generalize (diffL l).length=k at *
 generalize decide (k<=16)=bb at *
 clear t hm
 go_enter Tryz.func105,Tryz.ntmps105
 go_wp2_with (first | (go_at_call 104;refine aa.mono ?_;rintro e w' ⟨rfl,rfl⟩) | (go_at_call 131;refine ab.mono ?_;rintro e w2 ⟨g,c,rfl,_,_,_,_,ac⟩))
 go_ret
 exact ⟨rfl,ac⟩
theorem may_prefixed:Calls Tryz.prog 105 #[.int .i64 (7:Nat),.slice A l.length cap,.int .i64 W,.int .i64 H,.int .i64 d] w (MayPost 7 w l W d):=by
 have ai:=isTile_yes l A cap W H d w t.w0 t.w1 t.h0 t.h1 t.d0 t.d1 t.len t.smp t.cells
 have ae:=folded_ok l A cap W d w t.d0 t.d1 t.w0 (by have:=t.w1;omega) t.leW t.smp t.cells (by have:=t.le;omega)
 have ac:=foldedN_len l W d
 have hp:=t.pos
 have al:=t.le
 rw [foldedL_vi] at ae
 have hm:mayB 7 l W d=decide (maxN (foldedN l W d)<256):=by unfold mayB;rw [if_neg (by omega),if_neg (by omega),if_neg (by omega),if_pos rfl]
 unfold MayPost
 rw [hm]
 obtain ⟨f,hf⟩:=zX (foldedN l W d)
 rw [<-hf] at ae ac ⊢
 have hb:decide (((maxN f:Nat):Int)<256)=decide (maxN f<256):=by
  by_cases h:maxN f<256
  ·rw [zB h];exact zB (by omega)
  ·rw [zA h];exact zA (by omega)
 have af:f≠[]:=by intro e;rw [e] at ac;simp at ac;omega
 have am:=maxOf_nat f af
 generalize maxN f=M at *
 generalize decide (M<256)=bb at *
 obtain ⟨n,hn⟩:=zX (l.length)
 rw [<-hn] at ac ai ae hp al ⊢
 have ah:=hid ac
 clear t hm hf hn ac af
 go_enter Tryz.func105,Tryz.ntmps105
 go_wp2_with (first | (go_at_call 104;refine ai.mono ?_;rintro e w' ⟨rfl,rfl⟩))
 refine ae.mono ?_
 rintro e w1 ⟨fv,fg,rfl,aa,ak,ao⟩
 obtain ⟨fc,rfl,an,aj,_,_⟩:=aa.open_map
 rw [ah.out] at an ⊢
 have ag:Cells vi w1 (some ⟨fg,0,none⟩) (f.map Int.ofNat):=by
  have e:f.map i64=(f.map Int.ofNat).map vi:=by rw [List.map_map];rfl
  have h9:=aa
  rw [e] at h9
  exact h9.toOwn.cells
 have ab:(f.map Int.ofNat).length=n:=by rw [zE];exact ah.out
 have ad:=Tryz.slices_Max_int fg 0 n fc (f.map Int.ofNat) w1 hp (by rw [ab];exact zQ _) (by omega) (Cells.getD_ ag)
 rw [zT (by rw [ab];exact zQ _),am] at ad
 clear ae ag ab aa
 go_wp2_with fail
 refine ad.mono ?_
 rintro e w' ⟨rfl,rfl⟩
 go_wp2
 go_ret
 exact ⟨rfl,ak⟩
theorem may_all (k:Nat) (hk:k<=7):Calls Tryz.prog 105 #[.int .i64 k,.slice A l.length cap,.int .i64 W,.int .i64 H,.int .i64 d] w (MayPost k w l W d):=by
 rcases (by omega:k=0\/(1<=k/\k<=5)\/k=6\/k=7) with rfl | h | rfl | rfl
 ·exact may_flat cap t
 ·exact may_plain cap t k h.1 h.2
 ·exact may_coloured cap t
 ·exact may_prefixed cap t
end
def copyBits (l:List Int) (W d:Nat):List Nat:=matchBits (leastF l (d+1) 12) W d
def kindBits (k:Nat) (l:List Int) (W H d:Nat):List Nat :=
 if k=0 then bitsOf (l.getD 0 0).toNat d else if k=1 then allOf l d else if k=2 then guessedBits l W H d else if k=3 then modelBits l W d (W*H)
 else if k=4 then copyBits l W d else if k=5 then rangedBits l W d else if k=6 then colouredBits l d else prefBits l W d
def tileBits (k:Nat) (l:List Int) (W H d:Nat):List Nat:=bitsOf k 3++kindBits k l W H d
def PutPost (w:World) (b:Nat) (F bs ts:List Nat) (e:Ending) (w':World):Prop:=e=.returned (.int .i64 0)/\∃ F',IsWr w' b F' (bs++ts)/\Grow F F' w w'
section
variable {w:World} {l:List Int} {A:Option Addr} {W H d:Nat} (cap:Nat) (t:Tile w l A W H d) (b:Nat) (F bs:List Nat) (h:IsWr w b F bs) (hA:Apt A l F) (hp:Pts w) (h0F:0∉F) (hbs:bs.length<34359738368)
include t h hA hp h0F hbs
theorem putBy_flat (hm:mayB 0 l W d=true):Calls Tryz.prog 107 #[.pointer (some ⟨b,0,none⟩),.int .i64 (0:Nat),.slice A l.length cap,.int .i64 W,.int .i64 H,.int .i64 d] w (PutPost w b F bs (tileBits 0 l W H d)):=by
 have ac:=may_all cap t 0 (by omega)
 unfold MayPost at ac
 rw [hm] at ac
 unfold PutPost
 have am:∀ X:List Nat,bs++(bitsOf 0 3++X)=bs++bitsOf 0 3++X:=fun X=>(zH _ _ _).symm
 have ab:tileBits 0 l W H d=bitsOf 0 3++bitsOf (l.getD 0 0).toNat d:=rfl
 rw [ab,am]
 have HT:=hid t
 have HA:=hid hA
 have ae:=getD_ok t.smp 0
 have an:=t.pos
 obtain ⟨x,hx⟩:=zX (l.getD 0 0)
 rw [<-hx] at ae ⊢
 have ag:x=((x.toNat:Nat):Int):=(Int.toNat_of_nonneg ae.1).symm
 have ad:x.toNat<2^d:=by
  have e2:((2^d:Nat):Int)=(2:Int)^d:=by simp
  omega
 obtain ⟨k,hk⟩:=zX (x.toNat)
 rw [<-hk] at ag ad ⊢
 have au:k<65536:=Nat.lt_of_lt_of_le ad (by have:=Nat.pow_le_pow_right (n:=2) (by decide) t.d1;exact this)
 have HX:=hid (And.intro hx ag)
 have ar:=hid ad
 have aq:=t.d1
 clear hx ae ag ad hk
 clear t hA hm am ab
 go_enter Tryz.func107,Tryz.ntmps107
 go_wp2_with fail
 refine ac.mono ?_
 rintro e w1 ⟨rfl,ak⟩
 go_wp2_with fail
 refine (wput_ok w1 b F bs 0 3 (h.same ak) (by omega) (by omega) (by omega)).mono ?_
 rintro e w2 ⟨rfl,F2,af,ai⟩
 have aa:=Grow.pre ak ai
 have ap:=HT.out.chg HA.out aa.chg
 have av:=HA.out.grow HT.out.cells aa
 have aA:(bs++bitsOf 0 3).length<68719476736:=by rw [zC,bitsOf_len];omega
 have ay:0∉F2:=aa.out hp.lt h0F
 have ax:=hp.chg aa.chg h0F
 obtain ⟨g,o,rfl,cl⟩:=ap.cells.at_ an
 have al:l[0]=(k:Int):=by
  rw [<-HX.out.2,HX.out.1,zD,zF an];rfl
 rw [al] at cl
 have aw:w2.cell? ⟨g,o,none⟩=some (.int .i64 k):=cl
 have az:(0:Int)<(l.length:Int):=by omega
 have ao:¬ ((l.length:Int)<=0):=by omega
 clear cl al
 go_wp2_with fail
 refine (wput_ok w2 b F2 _ k d af (by omega) ar.out (by omega)).mono ?_
 rintro e w3 ⟨rfl,F3,ah,aj⟩
 go_wp2_with fail
 go_ret
 exact ⟨rfl,F3,ah,aa.trans aj⟩
theorem putBy_plain (hm:mayB 1 l W d=true):Calls Tryz.prog 107 #[.pointer (some ⟨b,0,none⟩),.int .i64 (1:Nat),.slice A l.length cap,.int .i64 W,.int .i64 H,.int .i64 d] w (PutPost w b F bs (tileBits 1 l W H d)):=by
 have ac:=may_all cap t 1 (by omega)
 unfold MayPost at ac
 rw [hm] at ac
 unfold PutPost
 have aj:∀ X:List Nat,bs++(bitsOf 1 3++X)=bs++bitsOf 1 3++X:=fun X=>(zH _ _ _).symm
 have ab:tileBits 1 l W H d=bitsOf 1 3++allOf l d:=rfl
 rw [ab,aj]
 have HT:=hid t
 have HA:=hid hA
 clear t hA hm aj ab
 go_enter Tryz.func107,Tryz.ntmps107
 go_wp2_with fail
 refine ac.mono ?_
 rintro e w1 ⟨rfl,ai⟩
 go_wp2_with fail
 refine (wput_ok w1 b F bs 1 3 (h.same ai) (by omega) (by omega) (by omega)).mono ?_
 rintro e w2 ⟨rfl,F2,ae,ag⟩
 have aa:=Grow.pre ai ag
 have ad:=HT.out.chg HA.out aa.chg
 have ak:=HA.out.grow HT.out.cells aa
 have an:(bs++bitsOf 1 3).length<68719476736:=by rw [zC,bitsOf_len];omega
 have am:0∉F2:=aa.out hp.lt h0F
 have al:=hp.chg aa.chg h0F
 have hc:=putAll_ok w2 b F2 _ l A cap d ae ad.d1 (by have:=ad.le;omega) ad.smp ad.cells ak (by omega)
 go_wp2_with fail
 refine hc.mono ?_
 rintro e w3 ⟨rfl,F3,af,ah⟩
 go_wp2_with fail
 go_ret
 exact ⟨rfl,F3,af,aa.trans ah⟩
theorem putBy_guessed (hm:mayB 2 l W d=true):Calls Tryz.prog 107 #[.pointer (some ⟨b,0,none⟩),.int .i64 (2:Nat),.slice A l.length cap,.int .i64 W,.int .i64 H,.int .i64 d] w (PutPost w b F bs (tileBits 2 l W H d)):=by
 have ad:=may_all cap t 2 (by omega)
 unfold MayPost at ad
 rw [hm] at ad
 unfold PutPost
 have aj:∀ X:List Nat,bs++(bitsOf 2 3++X)=bs++bitsOf 2 3++X:=fun X=>(zH _ _ _).symm
 have ac:tileBits 2 l W H d=bitsOf 2 3++guessedBits l W H d:=rfl
 rw [ac,aj]
 have HT:=hid t
 have HA:=hid hA
 clear t hA hm aj ac
 go_enter Tryz.func107,Tryz.ntmps107
 go_wp2_with fail
 refine ad.mono ?_
 rintro e w1 ⟨rfl,ai⟩
 go_wp2_with fail
 refine (wput_ok w1 b F bs 2 3 (h.same ai) (by omega) (by omega) (by omega)).mono ?_
 rintro e w2 ⟨rfl,F2,ae,ag⟩
 have aa:=Grow.pre ai ag
 have ab:=HT.out.chg HA.out aa.chg
 have ak:=HA.out.grow HT.out.cells aa
 have al:(bs++bitsOf 2 3).length<68719476736:=by rw [zC,bitsOf_len];omega
 have an:0∉F2:=aa.out hp.lt h0F
 have am:=hp.chg aa.chg h0F
 have hc:=putGuessed_ok w2 b F2 _ l A cap W H d ae ab.w0 ab.w1 ab.h0 ab.h1 ab.d0 ab.d1 ab.len ab.smp ab.cells ak al
 go_wp2_with fail
 refine hc.mono ?_
 rintro e w3 ⟨rfl,F3,af,ah⟩
 go_wp2_with fail
 go_ret
 exact ⟨rfl,F3,af,aa.trans ah⟩
theorem putBy_modelled (hm:mayB 3 l W d=true):Calls Tryz.prog 107 #[.pointer (some ⟨b,0,none⟩),.int .i64 (3:Nat),.slice A l.length cap,.int .i64 W,.int .i64 H,.int .i64 d] w (PutPost w b F bs (tileBits 3 l W H d)):=by
 have ad:=may_all cap t 3 (by omega)
 unfold MayPost at ad
 rw [hm] at ad
 unfold PutPost
 have aj:∀ X:List Nat,bs++(bitsOf 3 3++X)=bs++bitsOf 3 3++X:=fun X=>(zH _ _ _).symm
 have ac:tileBits 3 l W H d=bitsOf 3 3++modelBits l W d (W*H):=rfl
 rw [ac,aj]
 have HT:=hid t
 have HA:=hid hA
 clear t hA hm aj ac
 go_enter Tryz.func107,Tryz.ntmps107
 go_wp2_with fail
 refine ad.mono ?_
 rintro e w1 ⟨rfl,ai⟩
 go_wp2_with fail
 refine (wput_ok w1 b F bs 3 3 (h.same ai) (by omega) (by omega) (by omega)).mono ?_
 rintro e w2 ⟨rfl,F2,ae,ag⟩
 have aa:=Grow.pre ai ag
 have ab:=HT.out.chg HA.out aa.chg
 have ak:=HA.out.grow HT.out.cells aa
 have an:(bs++bitsOf 3 3).length<68719476736:=by rw [zC,bitsOf_len];omega
 have am:0∉F2:=aa.out hp.lt h0F
 have al:=hp.chg aa.chg h0F
 have hc:=mput_ok w2 b F2 _ l A cap W H d ae ab.w0 (by have:=ab.w1;omega) ab.h0 (by have:=ab.h1;omega) ab.d0 ab.d1 ab.len ab.smp ab.cells ak (by omega)
 go_wp2_with fail
 refine hc.mono ?_
 rintro e w3 ⟨rfl,F3,af,ah⟩
 go_wp2_with fail
 go_ret
 exact ⟨rfl,F3,af,aa.trans ah⟩
theorem putBy_copied (hm:mayB 4 l W d=true):Calls Tryz.prog 107 #[.pointer (some ⟨b,0,none⟩),.int .i64 (4:Nat),.slice A l.length cap,.int .i64 W,.int .i64 H,.int .i64 d] w (PutPost w b F bs (tileBits 4 l W H d)):=by
 have ae:=may_all cap t 4 (by omega)
 unfold MayPost at ae
 rw [hm] at ae
 unfold PutPost
 have ar:∀ X:List Nat,bs++(bitsOf 4 3++X)=bs++bitsOf 4 3++X:=fun X=>(zH _ _ _).symm
 have ac:tileBits 4 l W H d=bitsOf 4 3++copyBits l W d:=rfl
 rw [ac,ar]
 have HT:=hid t
 have HA:=hid hA
 have au:copyBits l W d=matchBits (leastF l (d+1) 12) W d:=rfl
 rw [au]
 have aw:=t.d1
 clear au
 clear t hA hm ar ac
 go_enter Tryz.func107,Tryz.ntmps107
 go_wp2_with fail
 refine ae.mono ?_
 rintro e w1 ⟨rfl,aq⟩
 go_wp2_with fail
 refine (wput_ok w1 b F bs 4 3 (h.same aq) (by omega) (by omega) (by omega)).mono ?_
 rintro e w2 ⟨rfl,F2,af,an⟩
 have aa:=Grow.pre aq an
 have ab:=HT.out.chg HA.out aa.chg
 have aD:=HA.out.grow HT.out.cells aa
 have aE:(bs++bitsOf 4 3).length<68719476736:=by rw [zC,bitsOf_len];omega
 have az:0∉F2:=aa.out hp.lt h0F
 have ay:=hp.chg aa.chg h0F
 have ai:=least_ok l A cap (d+1) 12 w2 (by have:=ab.le;omega) ab.cells (by omega) (by omega) (by omega) (by omega)
 have av:=leastF_len l (d+1) 12
 have aj:=leastF_tok ab.smp (d+1) 12
 have e1:((d+1:Nat):Int)=(d:Int)+1:=by simp
 rw [e1] at ai
 obtain ⟨T,hT⟩:=zX (leastF l (d+1) 12)
 rw [<-hT] at ai av aj
 have ax:=hid hT
 have aA:=hid aj
 clear hT
 have ak:=hid af.lt
 clear aj e1
 go_wp2_with fail
 refine ai.mono ?_
 rintro e w4 ⟨A',al,rfl,aC,am,ao⟩
 have aB:=mtput_ok w4 b F2 _ T A' al W d (af.same am) (ay.same am) az ab.w0 (by have:=ab.w1;omega) ab.d0 ab.d1 (by have:=ab.le;omega) aA.out aC (fun ad e hm=>by have:=ao ad e;have:=ak.out _ hm;omega) (by omega)
 clear ai
 go_wp2_with fail
 refine aB.mono ?_
 rintro e w3 ⟨rfl,F3,ag,ah⟩
 have ap:=Grow.pre am ah
 rw [ax.out] at ag
 go_wp2_with fail
 go_ret
 exact ⟨rfl,F3,ag,aa.trans ap⟩
theorem putBy_ranged (hm:mayB 5 l W d=true):Calls Tryz.prog 107 #[.pointer (some ⟨b,0,none⟩),.int .i64 (5:Nat),.slice A l.length cap,.int .i64 W,.int .i64 H,.int .i64 d] w (PutPost w b F bs (tileBits 5 l W H d)):=by
 have ad:=may_all cap t 5 (by omega)
 unfold MayPost at ad
 rw [hm] at ad
 unfold PutPost
 have aj:∀ X:List Nat,bs++(bitsOf 5 3++X)=bs++bitsOf 5 3++X:=fun X=>(zH _ _ _).symm
 have ac:tileBits 5 l W H d=bitsOf 5 3++rangedBits l W d:=rfl
 rw [ac,aj]
 have HT:=hid t
 have HA:=hid hA
 clear t hA hm aj ac
 go_enter Tryz.func107,Tryz.ntmps107
 go_wp2_with fail
 refine ad.mono ?_
 rintro e w1 ⟨rfl,ai⟩
 go_wp2_with fail
 refine (wput_ok w1 b F bs 5 3 (h.same ai) (by omega) (by omega) (by omega)).mono ?_
 rintro e w2 ⟨rfl,F2,ae,ag⟩
 have aa:=Grow.pre ai ag
 have ab:=HT.out.chg HA.out aa.chg
 have ak:=HA.out.grow HT.out.cells aa
 have al:(bs++bitsOf 5 3).length<68719476736:=by rw [zC,bitsOf_len];omega
 have an:0∉F2:=aa.out hp.lt h0F
 have am:=hp.chg aa.chg h0F
 have hc:=putRanged_ok w2 b F2 _ l A cap W d ae ab.w0 ab.w1 ab.d0 ab.d1 ab.le ab.leW ab.smp ab.cells ak al
 go_wp2_with fail
 refine hc.mono ?_
 rintro e w3 ⟨rfl,F3,af,ah⟩
 go_wp2_with fail
 go_ret
 exact ⟨rfl,F3,af,aa.trans ah⟩
theorem putBy_coloured (hm:mayB 6 l W d=true):Calls Tryz.prog 107 #[.pointer (some ⟨b,0,none⟩),.int .i64 (6:Nat),.slice A l.length cap,.int .i64 W,.int .i64 H,.int .i64 d] w (PutPost w b F bs (tileBits 6 l W H d)):=by
 have ac:=may_all cap t 6 (by omega)
 unfold MayPost at ac
 rw [hm] at ac
 have ae:(diffL l).length<=16:=by
  unfold mayB at hm
  rw [if_neg (by omega),if_neg (by omega),if_pos rfl] at hm
  exact of_decide_eq_true hm
 unfold PutPost
 have ak:∀ X:List Nat,bs++(bitsOf 6 3++X)=bs++bitsOf 6 3++X:=fun X=>(zH _ _ _).symm
 have ab:tileBits 6 l W H d=bitsOf 6 3++colouredBits l d:=rfl
 rw [ab,ak]
 have HT:=hid t
 have HA:=hid hA
 have HK:=hid ae
 clear ae
 clear t hA hm ak ab
 go_enter Tryz.func107,Tryz.ntmps107
 go_wp2_with fail
 refine ac.mono ?_
 rintro e w1 ⟨rfl,aj⟩
 go_wp2_with fail
 refine (wput_ok w1 b F bs 6 3 (h.same aj) (by omega) (by omega) (by omega)).mono ?_
 rintro e w2 ⟨rfl,F2,af,ah⟩
 have aa:=Grow.pre aj ah
 have ad:=HT.out.chg HA.out aa.chg
 have al:=HA.out.grow HT.out.cells aa
 have am:(bs++bitsOf 6 3).length<68719476736:=by rw [zC,bitsOf_len];omega
 have ao:0∉F2:=aa.out hp.lt h0F
 have an:=hp.chg aa.chg h0F
 have hc:=putColoured_ok w2 b F2 _ l A cap d af ad.d0 ad.d1 ad.pos ad.le ad.smp ad.cells al HK.out am
 go_wp2_with fail
 refine hc.mono ?_
 rintro e w3 ⟨rfl,F3,ag,ai⟩
 go_wp2_with fail
 go_ret
 exact ⟨rfl,F3,ag,aa.trans ai⟩
theorem putBy_prefixed (hm:mayB 7 l W d=true):Calls Tryz.prog 107 #[.pointer (some ⟨b,0,none⟩),.int .i64 (7:Nat),.slice A l.length cap,.int .i64 W,.int .i64 H,.int .i64 d] w (PutPost w b F bs (tileBits 7 l W H d)):=by
 have ae:=may_all cap t 7 (by omega)
 unfold MayPost at ae
 rw [hm] at ae
 have ac:maxN (foldedN l W d)<256:=by
  unfold mayB at hm
  rw [if_neg (by omega),if_neg (by omega),if_neg (by omega),if_pos rfl] at hm
  exact of_decide_eq_true hm
 unfold PutPost
 have ak:∀ X:List Nat,bs++(bitsOf 7 3++X)=bs++bitsOf 7 3++X:=fun X=>(zH _ _ _).symm
 have ad:tileBits 7 l W H d=bitsOf 7 3++prefBits l W d:=rfl
 rw [ad,ak]
 have HT:=hid t
 have HA:=hid hA
 have HK:=hid ac
 clear ac
 clear t hA hm ak ad
 go_enter Tryz.func107,Tryz.ntmps107
 go_wp2_with fail
 refine ae.mono ?_
 rintro e w1 ⟨rfl,aj⟩
 go_wp2_with fail
 refine (wput_ok w1 b F bs 7 3 (h.same aj) (by omega) (by omega) (by omega)).mono ?_
 rintro e w2 ⟨rfl,F2,af,ah⟩
 have aa:=Grow.pre aj ah
 have ab:=HT.out.chg HA.out aa.chg
 have al:=HA.out.grow HT.out.cells aa
 have am:(bs++bitsOf 7 3).length<68719476736:=by rw [zC,bitsOf_len];omega
 have ao:0∉F2:=aa.out hp.lt h0F
 have an:=hp.chg aa.chg h0F
 have hc:=putPrefixed_ok w2 b F2 _ l A cap W d af ab.w0 ab.w1 ab.d0 ab.d1 ab.pos ab.le ab.leW ab.smp ab.cells al HK.out am
 go_wp2_with fail
 refine hc.mono ?_
 rintro e w3 ⟨rfl,F3,ag,ai⟩
 go_wp2_with fail
 go_ret
 exact ⟨rfl,F3,ag,aa.trans ai⟩
theorem putBy_all (k:Nat) (hk:k<=7) (hm:mayB k l W d=true):Calls Tryz.prog 107 #[.pointer (some ⟨b,0,none⟩),.int .i64 k,.slice A l.length cap,.int .i64 W,.int .i64 H,.int .i64 d] w (PutPost w b F bs (tileBits k l W H d)):=by
 rcases (by omega:k=0\/k=1\/k=2\/k=3\/k=4\/k=5\/k=6\/k=7) with rfl | rfl | rfl | rfl | rfl | rfl | rfl | rfl
 ·exact putBy_flat cap t b F bs h hA hp h0F hbs hm
 ·exact putBy_plain cap t b F bs h hA hp h0F hbs hm
 ·exact putBy_guessed cap t b F bs h hA hp h0F hbs hm
 ·exact putBy_modelled cap t b F bs h hA hp h0F hbs hm
 ·exact putBy_copied cap t b F bs h hA hp h0F hbs hm
 ·exact putBy_ranged cap t b F bs h hA hp h0F hbs hm
 ·exact putBy_coloured cap t b F bs h hA hp h0F hbs hm
 ·exact putBy_prefixed cap t b F bs h hA hp h0F hbs hm
end
def costK (k:Nat) (l:List Int) (W H d:Nat):Nat:=(tileBits k l W H d).length
theorem costK_pos (k:Nat) (l:List Int) (W H d:Nat):3<=costK k l W H d:=by
 unfold costK tileBits
 rw [zC,bitsOf_len]
 omega
def pickK (l:List Int) (W H d:Nat):Nat->Nat × Nat
 | 0=>(1,0)
 | m+1=>if mayB m l W d=true/\((pickK l W H d m).2=0\/costK m l W H d<(pickK l W H d m).2) then (m,costK m l W H d) else pickK l W H d m
def bestKind (l:List Int) (W H d:Nat):Nat:=(pickK l W H d 8).1
theorem mayB_one (l:List Int) (W d:Nat):mayB 1 l W d=true:=by unfold mayB;rw [if_neg (by omega),if_pos (by omega)]
theorem pickK_ok (l:List Int) (W H d:Nat):∀ m,((pickK l W H d m).2=0->(pickK l W H d m).1=1/\∀ k,k<m->mayB k l W d=false)/\((pickK l W H d m).2≠0->(pickK l W H d m).1<m/\mayB (pickK l W H d m).1 l W d=true/\(pickK l W H d m).2=costK (pickK l W H d m).1 l W H d/\∀ k,k<m->mayB k l W d=true->(pickK l W H d m).2<=costK k l W H d)
 | 0=>⟨fun _=>⟨rfl,fun k h=>by omega⟩,fun h=>absurd rfl h⟩
 | m+1=>by
  obtain ⟨h1,h2⟩:=pickK_ok l W H d m
  have hp:=costK_pos m l W H d
  unfold pickK
  generalize pickK l W H d m=s at *
  by_cases hc:mayB m l W d=true/\(s.2=0\/costK m l W H d<s.2)
  ·rw [if_pos hc]
   refine ⟨fun h=>by simp only at h;omega,fun _=>⟨by simp only;omega,hc.1,rfl,fun k hk hm => ?_⟩⟩
   simp only
   by_cases e:k=m
   ·rw [e];exact zQ _
   ·rcases hc.2 with h3 | h3
    ·have:=(h1 h3).2 k (by omega)
     rw [hm] at this
     cases this
    ·have:=(h2 (by omega)).2.2.2 k (by omega) hm
     omega
  ·rw [if_neg hc]
   refine ⟨fun h=>⟨(h1 h).1,fun k hk => ?_⟩,fun h => ?_⟩
   ·by_cases e:k=m
    ·subst e
     cases hm:mayB k l W d with
     | false=>rfl
     | true=>exact absurd ⟨hm,.inl h⟩ hc
    ·exact (h1 h).2 k (by omega)
   ·obtain ⟨k1,k2,k3,k4⟩:=h2 h
    refine ⟨by omega,k2,k3,fun k hk hm => ?_⟩
    by_cases e:k=m
    ·subst e
     have:¬ costK k l W H d<s.2:=fun h5=>hc ⟨hm,.inr h5⟩
     omega
    ·exact k4 k (by omega) hm
theorem bestKind_ok (l:List Int) (W H d:Nat):bestKind l W H d<=7/\mayB (bestKind l W H d) l W d=true/\∀ k,k<=7->mayB k l W d=true->costK (bestKind l W H d) l W H d<=costK k l W H d:=by
 obtain ⟨h1,h2⟩:=pickK_ok l W H d 8
 have aa:(pickK l W H d 8).2≠0:=fun h=>by
  have:=(h1 h).2 1 (by omega)
  rw [mayB_one] at this
  cases this
 obtain ⟨k1,k2,k3,k4⟩:=h2 aa
 unfold bestKind
 exact ⟨by omega,k2,fun k hk hm=>by rw [<-k3];exact k4 k (by omega) hm⟩
section
variable {w:World} {l:List Int} {A:Option Addr} {W H d:Nat} (cap:Nat) (t:Tile w l A W H d) (hp:Pts w)
include t hp
theorem cost_ok (k:Nat) (hk:k<=7) (hm:mayB k l W d=true):Calls Tryz.prog 106 #[.int .i64 k,.slice A l.length cap,.int .i64 W,.int .i64 H,.int .i64 d] w fun e w'=>e=.returned (.int .i64 (costK k l W H d))/\Chg [] w w':=by
 obtain ⟨w1,aa⟩:=zX (w.alloc (.cells #[.slice none 0 0,.int .i64 0] 102))
 obtain ⟨B,hB⟩:=zX (w.heap.size)
 have ah:IsWr w1 B [B] []:=by rw [aa,hB];exact IsWr.new w
 have ad:Chg [] w w1:=by rw [aa];exact (zR [] w).alloc _
 have ak:=hp.lt
 have af:Apt A l [B]:=Apt.fresh t.cells (F:=[B]) (by rw [hB];simp)
 have ac:=putBy_all cap (t.same ad) B [B] [] ah af (hp.same ad) (by simp;omega) (by simp) k hk hm
 have ag:costK k l W H d=(tileBits k l W H d).length:=rfl
 rw [ag]
 unfold PutPost at ac
 rw [List.nil_append] at ac
 generalize tileBits k l W H d=ts at *
 have HB:Hid (∀ x∈[B],w.heap.size<=x):=hid (by intro x hx;rw [zU.1 hx,hB];exact zQ _)
 have al:=hid aa
 have aj:=hid hB
 clear t hp hm hk aa hB ah af ag ak
 go_enter Tryz.func106,Tryz.ntmps106
 go_wp2_with fail
 rw [<-al.out,<-aj.out]
 refine ac.mono ?_
 rintro e w2 ⟨rfl,F2,ab,ae⟩
 have ai:=wlen_any w2 B F2 ts ab
 go_wp2_with fail
 refine ai.mono ?_
 rintro e w' ⟨rfl,rfl⟩
 go_wp2
 go_ret
 exact ⟨rfl,ae.fresh HB.out ad⟩
variable (b:Nat) (F bs:List Nat) (h:IsWr w b F bs) (hA:Apt A l F) (h0F:0∉F) (hbs:bs.length<34359738368)
include h hA h0F hbs
theorem tput_ok:Calls Tryz.prog 63 #[.pointer (some ⟨b,0,none⟩),.slice A l.length cap,.int .i64 W,.int .i64 H,.int .i64 d] w (PutPost w b F bs (tileBits (bestKind l W H d) l W H d)):=by
 have aB:=isTile_yes l A cap W H d w t.w0 t.w1 t.h0 t.h1 t.d0 t.d1 t.len t.smp t.cells
 have HT:=hid t
 have HP:=hid hp
 have HH:=hid h
 have HA:=hid hA
 have ae:=fun k (hk:k<=7) w' (hc:Chg [] w w')=>may_all cap (t.same hc) k hk
 have ac:=fun k (hk:k<=7) (hm:mayB k l W d=true) w' (hc:Chg [] w w')=>cost_ok cap (t.same hc) (hp.same hc) k hk hm
 have ab:=bestKind_ok l W H d
 have af:=fun w' (hc:Chg [] w w')=>putBy_all cap (t.same hc) b F bs (h.same hc) hA (hp.same hc) h0F hbs (bestKind l W H d) ab.1 ab.2.1
 unfold MayPost at ae
 unfold PutPost at af ⊢
 have ai:bestKind l W H d=(pickK l W H d 8).1:=rfl
 generalize tileBits (bestKind l W H d) l W H d=ts at *
 have HM:=hid ae
 have HC:=hid ac
 have ay:=hid af
 have aA:=hid ai
 clear ae ac af ab ai t hp h hA
 go_enter Tryz.func63,Tryz.ntmps63
 go_wp2_with (go_at_call 104;refine aB.mono ?_;rintro e w' ⟨rfl,rfl⟩)
 go_loopg [11,12,13,14,21] 8 (fun j vb vl vk vc iv wr=>∃ (m bk lk:Nat),iv=.int .i64 m/\vb=.int .i64 bk/\vl=.int .i64 lk/\m+j=8/\Hid (pickK l W H d m=(bk,lk))/\Chg [] w wr)
 case atStart=>exact ⟨0,1,0,rfl,rfl,rfl,rfl,hid rfl,zR _ _⟩
 case round =>
  obtain ⟨m,bk,lk,rfl,rfl,rfl,aC,HK,aj⟩:=hrel
  rcases gk with _ | j
  ·obtain rfl:m=8:=by omega
   have aw:=ay.out wr aj
   have ai:=aA.out
   rw [HK.out] at ai
   have ak:bestKind l W H d=bk:=ai
   rw [ak] at aw
   clear ai ak
   go_wp2_with fail
   refine aw.mono ?_
   rintro e w2 ⟨rfl,F2,ap,aq⟩
   go_wp2
   go_ret
   exact ⟨rfl,F2,ap,Grow.pre aj aq⟩
  ·have av:m<=7:=by omega
   have al:=HM.out m av wr aj
   have ar:=HC.out m av
   have aa:pickK l W H d (m+1)=if mayB m l W d=true/\((pickK l W H d m).2=0\/costK m l W H d<(pickK l W H d m).2) then (m,costK m l W H d) else pickK l W H d m:=rfl
   rw [HK.out] at aa
   simp only at aa
   have ao:=hid aa
   have aD:(0:Int)<=(m:Int):=by omega
   clear aa
   cases hmb:mayB m l W d with
   | false =>
    rw [hmb] at al
    have ag:Hid (pickK l W H d (m+1)=(bk,lk)):=hid (by rw [ao.out,if_neg (by rw [hmb];simp)])
    have au:=hid hmb
    clear hmb ar
    go_wp2_with fail
    refine al.mono ?_
    rintro e w1 ⟨rfl,am⟩
    go_wp2_with fail
    go_roundg j
    case measure=>omega
    case rel=>exact ⟨m+1,bk,lk,by go_num,rfl,rfl,by omega,ag,aj.trans_same am⟩
   | true =>
    rw [hmb] at al
    have ad:=ar hmb
    obtain ⟨c,hc⟩:=zX (costK m l W H d)
    rw [<-hc] at ad
    have an:=hid hc
    have au:=hid hmb
    clear hmb ar hc
    go_wp2_with fail
    refine al.mono ?_
    rintro e w1 ⟨rfl,am⟩
    have ax:=ad w1 (aj.trans_same am)
    clear al ad
    go_wp2_with fail
    refine ax.mono ?_
    rintro e w2 ⟨rfl,az⟩
    have ah:=(aj.trans_same am).trans_same az
    clear ax
    by_cases hl0:lk=0
    ·have t1:((lk:Int)==0)=true:=by rw [beq_iff_eq];omega
     have ag:Hid (pickK l W H d (m+1)=(m,c)):=hid (by rw [ao.out,if_pos ⟨au.out,.inl hl0⟩,an.out])
     clear hl0
     go_wp2_with fail
     go_roundg j
     case measure=>omega
     case rel=>exact ⟨m+1,m,c,by go_num,rfl,rfl,by omega,ag,ah⟩
    ·have t1:((lk:Int)==0)=false:=by rw [beq_eq_false_iff_ne];omega
     by_cases hlt:c<lk
     ·have t2:decide (c<lk)=true:=zB hlt
      have ag:Hid (pickK l W H d (m+1)=(m,c)):=hid (by rw [ao.out,if_pos ⟨au.out,.inr (by rw [<-an.out];exact hlt)⟩,an.out])
      clear hl0 hlt
      go_wp2_with fail
      go_roundg j
      case measure=>omega
      case rel=>exact ⟨m+1,m,c,by go_num,rfl,rfl,by omega,ag,ah⟩
     ·have t2:decide (c<lk)=false:=zA hlt
      have ag:Hid (pickK l W H d (m+1)=(bk,lk)):=hid (by rw [ao.out,if_neg (by rw [<-an.out];intro h;rcases h.2 with h | h<;>omega)])
      clear hl0 hlt
      go_wp2_with fail
      go_roundg j
      case measure=>omega
      case rel=>exact ⟨m+1,bk,lk,by go_num,rfl,rfl,by omega,ag,ah⟩
end
def In64 (x:Int):Prop:=-9223372036854775808<=x/\x<=9223372036854775807
def withinI (x lo hi:Int):Int:=if lo<=x/\x<=hi then x else if x.tmod (hi-lo+1)<0 then lo+(x.tmod (hi-lo+1)+hi-lo+1) else lo+x.tmod (hi-lo+1)
theorem within_in (x:Int) {lo hi:Int} (h:lo<=hi):lo<=withinI x lo hi/\withinI x lo hi<=hi:=by
 unfold withinI
 have h1:=Int.tmod_lt_of_pos x (show 0<hi-lo+1 by omega)
 have h2:=Int.lt_tmod_of_pos x (show 0<hi-lo+1 by omega)
 split
 ·assumption
 ·split<;>omega
theorem within_ok (x lo hi:Int) (w:World) (hx:In64 x) (h0 : -1099511627776<=lo) (h1:lo<=hi) (h2:hi<=1099511627776) :
  Calls Tryz.prog 12 #[.int .i64 x,.int .i64 lo,.int .i64 hi] w fun e w'=>e=.returned (.int .i64 (withinI x lo hi))/\w=w':=by
 obtain ⟨ae,ab⟩:=hx
 by_cases hin:lo<=x/\x<=hi
 ·have t1:decide (lo<=x)=true:=zB hin.1
  have t2:decide (x<=hi)=true:=zB hin.2
  have e:withinI x lo hi=x:=by unfold withinI;rw [if_pos hin]
  rw [e]
  clear hin h0 h1 h2 ae ab e
  go_enter Tryz.func12,Tryz.ntmps12
  go_wp2
  go_ret
  exact ⟨rfl,rfl⟩
 ·have hw:withinI x lo hi=if x.tmod (hi-lo+1)<0 then lo+(x.tmod (hi-lo+1)+hi-lo+1) else lo+x.tmod (hi-lo+1):=by unfold withinI;rw [if_neg hin]
  obtain ⟨m,hm⟩:=zX (hi-lo+1)
  have aa:0<m:=by omega
  rw [<-hm] at hw
  obtain ⟨q,hq⟩:=zX (x.tmod m)
  have ag:q<m:=by rw [hq];exact Int.tmod_lt_of_pos x aa
  have af : -m<q:=by rw [hq];exact Int.lt_tmod_of_pos x aa
  rw [<-hq] at hw
  have e1:hi-lo+1=m:=hm.symm
  have e2:x.tmod m=q:=hq.symm
  have ac:m≠0:=by omega
  rw [hw]
  clear hm hq hw
  have ad:∀ b1 b2,decide (lo<=x)=b1->decide (x<=hi)=b2->(b1&&b2)=false->Calls Tryz.prog 12 #[.int .i64 x,.int .i64 lo,.int .i64 hi] w fun e w'=>e=.returned (.int .i64 (if q<0 then lo+(q+hi-lo+1) else lo+q))/\w=w':=by
   intro b1 b2 t1 t2 hb
   by_cases hneg:q<0
   ·have t3:decide (q<0)=true:=zB hneg
    rw [if_pos hneg]
    cases b1<;>cases b2<;>simp at hb
    all_goals
     clear hin
     go_enter Tryz.func12,Tryz.ntmps12
     go_wp2
     go_ret
     exact ⟨rfl,rfl⟩
   ·have t3:decide (q<0)=false:=zA hneg
    rw [if_neg hneg]
    cases b1<;>cases b2<;>simp at hb
    all_goals
     clear hin
     go_enter Tryz.func12,Tryz.ntmps12
     go_wp2
     go_ret
     exact ⟨rfl,rfl⟩
  refine ad _ _ rfl rfl ?_
  cases h:(decide (lo<=x)&&decide (x<=hi)) with
  | false=>rfl
  | true =>
   rw [Bool.and_eq_true,decide_eq_true_eq,decide_eq_true_eq] at h
   exact absurd h hin
structure IsTp (w:World) (b:Nat) (A:Option Addr) (cap:Nat) (L:List Int) (at_:Nat):Prop where
 blk:Blk w b 96 #[.slice A L.length cap,.int .i64 at_]
 cells:Cells vi w A L
 apt:Apt A L [b]
 in64:∀ x∈L,In64 x
 at_le:at_<=L.length
 len:L.length<=9223372036854775807
theorem IsTp.same {w w':World} {b cap at_:Nat} {A:Option Addr} {L:List Int} (h:IsTp w b A cap L at_) {F:List Nat} (hc:Chg F w w') (hb:b∉F) (hA:Apt A L F):IsTp w' b A cap L at_ :=
 { h with blk:=h.blk.chg hc hb,cells:=h.cells.keep hA hc }
theorem tp_turn {w:World} {b cap at_:Nat} {A:Option Addr} {L:List Int} (h:IsTp w b A cap L at_) (hlt:at_<L.length) (n1 n2:Nat) :
  IsTp (((w.drewN n1).setCell ⟨b,1,none⟩ (.int .i64 ((at_:Int)+1))).drewN n2) b A cap L (at_+1)/\Chg [b] w (((w.drewN n1).setCell ⟨b,1,none⟩ (.int .i64 ((at_:Int)+1))).drewN n2):=by
 have aa:Chg [b] w (((w.drewN n1).setCell ⟨b,1,none⟩ (.int .i64 ((at_:Int)+1))).drewN n2):=(((zR [b] w).drewN n1).setCell (p:=⟨b,1,none⟩) (.inl (by simp)) (.int .i64 ((at_:Int)+1))).drewN n2
 have ab:=((h.blk.drewN n1).set_ 1 (.int .i64 ((at_:Int)+1))).drewN n2
 have e:((at_+1:Nat):Int)=(at_:Int)+1:=by simp
 refine ⟨⟨?_,h.cells.keep h.apt aa,h.apt,h.in64,hlt,h.len⟩,aa⟩
 rw [e]
 simpa using ab
theorem next_tp (w:World) (b cap at_ n:Nat) (A:Option Addr) (L:List Int) (h:IsTp w b A cap L at_) (hn0:1<=n) (hn1:n<=1073741824) :
  Calls Tryz.prog 55 #[.pointer (some ⟨b,0,none⟩),.int .i64 n] w fun e w'=>∃ v at':Nat,e=.returned (.int .i64 v)/\v<n/\IsTp w' b A cap L at'/\Chg [b] w w':=by
 have b0:=h.blk.cell 0
 have b1:=h.blk.cell 1
 simp at b0 b1
 have HH:=hid h
 obtain ⟨m,hm⟩:=zX (L.length)
 rw [<-hm] at b0
 have t2:decide ((n:Int)<1)=false:=zA (by omega)
 by_cases hend:at_=m
 ·have t1:decide ((m:Int)<=(at_:Int))=true:=zB (by omega)
  have aj:decide (m<=at_)=true:=zB (by omega)
  clear h hm hend
  go_enter Tryz.func55,Tryz.ntmps55
  go_wp2
  go_quiet (fail)
  go_wp2
  go_ret
  exact ⟨0,at_,rfl,by omega,HH.out.same ((zR [] w).drewN nq) (by simp) (fun _ _ _=>by simp),(zR [b] w).drewN nq⟩
 ·have ag:at_<m:=by have:=h.at_le;omega
  have ac:at_<L.length:=by rw [<-hm];exact ag
  have t1:decide ((m:Int)<=(at_:Int))=false:=zA (by omega)
  have aj:decide (m<=at_)=false:=zA (by omega)
  obtain ⟨g,o,rfl,cl⟩:=h.cells.at_ ac
  have ab:=h.in64 L[at_] (zG _)
  have ao:g≠b:=by
   have:=h.apt (by omega) _ rfl
   simpa using this
  obtain ⟨x,hx⟩:=zX (L[at_])
  rw [<-hx] at cl ab
  have af:=fun w=>within_ok x 0 1073741824 w ab (by omega) (by omega) (by omega)
  have ad:=within_in x (show (0:Int)<=1073741824 by omega)
  obtain ⟨y,hy⟩:=zX (withinI x 0 1073741824)
  rw [<-hy] at af ad
  obtain ⟨k,hk⟩:∃ k:Nat,(k:Int)=y:=⟨y.toNat,Int.toNat_of_nonneg ad.1⟩
  rw [<-hk] at af ad
  have ae:k%n<n:=Nat.mod_lt _ (by omega)
  have hbs:=h.blk.set_ 1 (.int .i64 ((at_:Int)+1))
  have am:=h.len
  have f1:=h.blk.frozen 1
  have ar:w.cell? ⟨g,o+at_,none⟩=some (.int .i64 x):=cl
  have al:(k:Int).tmod (n:Int)=((k%n:Nat):Int):=by rw [Int.tmod_eq_emod_of_nonneg (by omega)];simp
  have ak:(n:Int)≠0:=by omega
  obtain ⟨r,hr⟩:=zX (k%n)
  rw [<-hr] at al ae
  have ah:=hid ae
  have aq:(0:Int)<=(at_:Int):=by omega
  have an:(at_:Int)<(m:Int):=by omega
  have ai:(at_:Int)+1-1=(at_:Int):=by omega
  have HM:=hid hm
  have ap:=hid hbs
  clear h hm hend cl hy hk hr ae hx hbs
  go_enter Tryz.func55,Tryz.ntmps55
  go_wp2
  go_quiet (fail)
  go_wp2
  go_quiet ((go_at_call 12;exact quiet_eq (af _)))
  go_wp2
  go_ret
  have e:((at_+1:Nat):Int)=(at_:Int)+1:=by simp
  have aa:at_<L.length:=by rw [<-HM.out];exact ag
  exact ⟨r,at_+1,rfl,ah.out,(tp_turn HH.out aa _ _).1,(tp_turn HH.out aa _ _).2⟩
theorem allOf_cons (x:Int) (l:List Int) (n:Nat):allOf (x::l) n=bitsOf x.toNat n++allOf l n:=rfl
theorem allOf_split (l:List Int) (n:Nat) {m:Nat} (hm:m<l.length):allOf (l.drop m) n=bitsOf (l[m]).toNat n++allOf (l.drop (m+1)) n:=by
 rw [List.drop_eq_getElem_cons hm,allOf_cons]
theorem getAll_ok (w:World) (b:Nat) (F ds:List Nat) (p d:Nat) (l:List Int) (h:IsRd w b F ds p) (hd:d<=16) (hs:SmpOk d l) (hl:l.length<=4096) (ha:Ahead ds p (allOf l d)) :
  Calls Tryz.prog 159 #[.pointer (some ⟨b,0,none⟩),.int .i64 l.length,.int .i64 d] w fun e w'=>∃ v g,e=.returned v/\Row w' 3 v g (l.map vi)/\IsRd w' b F ds (p+(allOf l d).length)/\Chg [b] w w'/\w.heap.size<=g:=by
 have HS:=hid hs
 have HA:=hid ha
 have aM:=h.lt b h.mem
 have ax:=h.lt
 obtain ⟨n,hn⟩:=zX (l.length)
 rw [<-hn] at hl ⊢
 have aL:=run_make1 (P:=Tryz.prog) int_elem rfl .i64 .i64 n (by omega) (by omega)
 have HN:=hid hn
 have ad:=Row.zeros w n (by omega)
 obtain ⟨B,hB⟩:=zX (w.heap.size)
 have an:Chg [] w (w.alloc (.cells (List.replicate n (Value.int .i64 0)).toArray 3)):=(zR [] w).alloc _
 have af:=h.same an
 have aJ:b≠B:=by omega
 have aB:Hid (∀ y∈F,y∉[B]):=hid (fun y hy hm=>by have:=ax y hy;simp at hm;omega)
 rw [<-hB] at ad
 have HB:=hid hB
 clear hn hs ha hB h ax
 go_enter Tryz.func159,Tryz.ntmps159
 go_wp2_with fail
 rw [<-HB.out]
 go_loopg [13] n (fun j iv wr=>∃ (done:List Int) (p':Nat),iv=.int .i64 done.length/\done.length+j=n/\Hid (done=l.take done.length)/\Row wr 3 (.slice (some ⟨B,0,none⟩) n n) B ((fillL done n).map vi)/\IsRd wr b F ds p'/\Hid (Ahead ds p' (allOf (l.drop done.length) d))/\Hid (p'+(allOf (l.drop done.length) d).length=p+(allOf l d).length)/\Hid (Chg [b] w wr))
 case atStart=>exact ⟨[],p,rfl,by simp,hid (by simp),ad,af,by simpa using HA,hid (by simp),hid (an.mono (by simp))⟩
 case round =>
  clear ad an af
  obtain ⟨done,p',rfl,ar,Hd,ae,ap,Ha,Hp,ay⟩:=hrel
  obtain ⟨m,hm⟩:=zX (done.length)
  rcases gk with _ | j
  ·rw [<-hm] at ar Ha Hp ⊢
   obtain rfl:m=n:=by omega
   have t1:decide ((m:Int)<(m:Int))=false:=by simp
   have HM:=hid hm
   clear hm ar
   go_wp2
   go_ret
   have e:done=l:=by rw [Hd.out,<-HM.out,HN.out,zN]
   have e2:l.drop m=[]:=by rw [HN.out,List.drop_length]
   have hp:=Hp.out
   rw [e2] at hp
   rw [fillL_full HM.out.symm,e] at ae
   exact ⟨_,B,rfl,ae,ap.cast (by simpa [allOf] using hp),ay.out,by have:=HB.out;omega⟩
  ·have aj:m<l.length:=by rw [<-HN.out];omega
   have ak:=allOf_split l d aj
   have al:=take_snoc' l aj
   obtain ⟨x,hx⟩:=zX (l[m])
   have aq:=HS.out l[m] (zG _)
   rw [<-hx] at ak aq al
   obtain ⟨X,hX⟩:∃ X:Nat,X=x.toNat:=⟨_,rfl⟩
   have am:x=(X:Int):=by omega
   have ai:=Ha.out
   rw [<-hm,ak,<-hX] at ai
   have au:X<2^d:=by
    have e:(2:Int)^d=((2^d:Nat):Int):=by simp
    have:=aq.2
    rw [e,am] at this
    omega
   have aD:X<65536:=Nat.lt_of_lt_of_le au (show 2^d<=2^16 from Nat.pow_le_pow_right (by decide) hd)
   have ag:=rget_ahead wr b F ds p' d X ap (by omega) au ai.left
   have aG:=hid ai.right
   have aE:=hid ak
   have aH:=hid al
   have HX:=hid hX
   have aA:=hid am
   have ao:=hid ae
   have aN:=hid aj
   have HM:=hid hm
   have az:m+(j+1)=n:=by omega
   rw [<-hm]
   clear aj ak al hx aq ai au hX am ap ae hm ar
   go_wp2_with fail
   refine ag.mono ?_
   rintro e w1 ⟨rfl,aK,aw⟩
   have aa:=ao.out.chg aw (by simpa using aJ.symm)
   obtain ⟨aF,aC⟩:=aa.fill_cell (by have:=HM.out;omega)
   have ac:=aa.fill (by have:=HM.out;omega) (X:Int)
   rw [<-HM.out] at aF aC ac
   have aI:=hid ac
   have av:(fillL done n).length=n:=fillL_len (by have:=HM.out;omega)
   clear ag aa ac
   go_wp2
   go_roundg j
   case measure=>omega
   case rel =>
    have ah:Chg [B] w1 (w1.setCell ⟨B,m,none⟩ (.int .i64 X)):=(zR _ _).setCell (.inl (by simp)) _
    have ab:(done++[(X:Int)]).length=m+1:=by rw [zC,List.length_singleton,<-HM.out]
    refine ⟨done++[(X:Int)],p'+d,by rw [ab];go_num,by rw [ab];omega,?_,aI.out,aK.chg ah aB.out,?_,?_,?_⟩
    ·rw [ab,aH.out,aA.out]
     have:=Hd.out
     rw [<-HM.out] at this
     rw [<-this]
     exact hid rfl
    ·rw [ab]
     have:=aG.out
     rw [bitsOf_len] at this
     exact hid this
    ·rw [ab]
     have h1:=Hp.out
     have h2:=aE.out
     rw [<-HM.out,h2,zC,bitsOf_len] at h1
     exact hid (by omega)
    ·exact hid ((ay.out.trans_same aw).trans ah fun y hy => .inr (by have:=HB.out;simp at hy;omega))
theorem allOf_cons1 (x:Int) (l:List Int) (n:Nat):allOf (x::l) n=bitsOf x.toNat n++allOf l n:=rfl
theorem all_len (l:List Int) (n:Nat):(allOf l n).length=n*l.length:=by
 induction l with
 | nil=>rfl
 | cons x l ih=>rw [allOf_cons1,zC,bitsOf_len,ih,zK,Nat.mul_add];omega
theorem maxN_below {l:List Nat} {B:Nat} (h:∀ x∈l,x<=B):maxN l<=B:=by
 unfold maxN
 suffices H:∀ (l:List Nat) (m:Nat),m<=B->(∀ x∈l,x<=B)->l.foldl max m<=B from H l 0 (Nat.zero_le _) h
 intro l
 induction l with
 | nil=>intro m hm _;exact hm
 | cons x l ih=>intro m hm hl;exact ih _ (by have := hl x (by simp);omega) (fun y hy=>hl y (by simp [hy]))
theorem getGuessed_ok (w:World) (b:Nat) (F ds:List Nat) (p:Nat) (l:List Int) (W H d:Nat) (h:IsRd w b F ds p) (hw0:1<=W) (hw1:W<=16) (hh0:1<=H) (hh1:H<=16) (h0:1<=d) (h1:d<=16) (hl:l.length=W*H) (hs:SmpOk d l) (ha:Ahead ds p (guessedBits l W H d)) :
  Calls Tryz.prog 160 #[.pointer (some ⟨b,0,none⟩),.int .i64 W,.int .i64 H,.int .i64 d] w fun e w'=>∃ v g,e=.returned (.tuple #[v,.int .i64 0])/\Row w' 3 v g (l.map vi)/\IsRd w' b F ds (p+(guessedBits l W H d).length)/\Chg [b] w w'/\w.heap.size<=g:=by
 have a7:guessedBits l W H d=allOf (kindsI l W H d) 4++planBits (foreF l W H d) (W*H):=rfl
 rw [a7] at ha ⊢
 rw [zC]
 have bw:=kindsI_vi l W H d
 have aw:=kindsI_len l W H d
 have bl:=kindsI_ok l W H d
 have aG:=fun hr=>getAll_ok w b F ds p 4 (kindsI l W H d) hr (by omega) bl (by rw [aw];omega) ha.left
 have aT:=ha.right
 have au:=foreF_len l W H d
 have bg:=foreF_wide l W H d h0 h1
 obtain ⟨m,hm⟩:=zX (W*H)
 have bu:1<=m:=by rw [hm];exact Nat.mul_pos hw0 hh0
 have bj:m<=256:=by rw [hm];exact zL hw1 hh1
 have bQ:(W:Int)*(H:Int)=(m:Int):=by rw [hm];simp
 have aZ:foreF l W H d=(foreL l W H d (bestKinds l W H d)).map fun v=>foldI v d:=rfl
 have ax:=fore_back l W H d (bestKinds l W H d)
 rw [<-aZ] at ax
 have a5:=foreL_ok l W H d (bestKinds l W H d)
 have a0:=foreL_len l W H d (bestKinds l W H d)
 have bp:=fun y x (hy:y<H) (hx:x<W)=>foreL_at l d (bestKinds l W H d) hy hx
 have aY:∀ x∈foreF l W H d,foldI x d=x:=fun x hx=>by
  rw [aZ] at hx
  obtain ⟨v,_,rfl⟩:=List.mem_map.1 hx
  obtain ⟨r0,r1⟩:=foldI_range v h0
  exact foldI_in h0 r0 r1
 have ap:=fun A AK cap capk w' (hc:Cells vi w' A (foreL l W H d (bestKinds l W H d))) (hk:Cells i64 w' AK (bestKinds l W H d)) =>
  gback_ok l (foreL l W H d (bestKinds l W H d)) (bestKinds l W H d) A AK cap capk W H d w' hw0 (by omega) hh0 (by omega) h0 h1 hl hs a0 a5 (fun y x hy hx=>bp y x hy hx) (bestKinds_len l W H d) (bestKinds_ok l W H d) hc hk
 rw [a0,<-hm,bestKinds_len] at ap
 have ao:∀ Ak w,Cells vi w Ak (kindsI l W H d)->Cells i64 w Ak (bestKinds l W H d):=fun Ak w h=>Cells.map (f:=vi) (k:=Int.ofNat) h
 have aW:maxN (bestKinds l W H d)<=9:=maxN_below (fun x hx=>by have:=bestKinds_ok l W H d x hx;omega)
 have aJ:bestKinds l W H d≠[]:=fun e=>by have:=bestKinds_len l W H d;rw [e] at this;simp at this;omega
 have ae:=maxOf_nat (bestKinds l W H d) aJ
 have bc:kindsI l W H d=(bestKinds l W H d).map Int.ofNat:=rfl
 rw [<-bc] at ae
 rw [<-hm] at aT au ⊢
 have aU:=bestPlan_ok (n:=m) (warm:=0) (most:=4) (by omega) (foreF l W H d)
 have aK:=ksOk_best (n:=m) (foreF l W H d)
 have az:=ks_len_best (n:=m) (foreF l W H d)
 have ac:=fun w' (hr:IsRd w' b F ds (p+(allOf (kindsI l W H d) 4).length))=>pget_ok w' b F ds (p+(allOf (kindsI l W H d) 4).length) _ m 0 _ (foreF l W H d) hr aU.2.1 bu (by omega) (by omega) aU.1.1 az aK au bg aT
 have a6:planBits (foreF l W H d) m=bitsP (bestPlan m 0 4 (foreF l W H d)).order (bestPlan m 0 4 (foreF l W H d)).ks (splitL (sizesL (bestPlan m 0 4 (foreF l W H d)).order m 0) (foreF l W H d)):=rfl
 rw [<-a6] at ac
 obtain ⟨E,hE⟩:=zX (foreL l W H d (bestKinds l W H d))
 obtain ⟨EF,am⟩:=zX (foreF l W H d)
 rw [<-hE] at ax ap
 rw [<-am] at ax aY au ac
 rw [<-am]
 obtain ⟨K,hK⟩:=zX (kindsI l W H d)
 rw [<-hK] at aG aw ae ao ac
 rw [<-hK]
 obtain ⟨mx,bn⟩:=zX (maxN (bestKinds l W H d))
 rw [<-bn] at aW ae
 obtain ⟨a1,bf⟩:=zX ((allOf K 4).length)
 obtain ⟨a2,aI⟩:=zX ((planBits EF m).length)
 rw [<-bf] at aG ac ⊢
 rw [<-aI] at ac ⊢
 rw [aw] at aG
 generalize (bestPlan m 0 4 EF).order=po at ac
 have al:=aG h
 rw [show ((4:Nat):Int)=4 from rfl] at al
 have t9:decide ((9:Int)<(mx:Int))=false:=zA (by omega)
 have bP:=h.lt b h.mem
 have a8:=h.lt
 have aO:=hid aw
 have bJ:=hid ae
 have bq:=hid ao
 have bG:=hid ac
 have bC:=hid ax
 have bK:=hid aY
 have bD:=hid ap
 have aq:=hid au
 have bB:=hid a8
 clear a7 bw aw bl aG ha aT au bg hm aZ ax a5 a0 bp aY ap ao aJ bc aU aK az ac a6 hE am hK bn bf aI ae hs hl h a8
 go_enter Tryz.func160,Tryz.ntmps160
 go_wp2_with fail
 refine al.mono ?_
 rintro e w1 ⟨vk,gk',rfl,aa,aX,bb,bS⟩
 obtain ⟨ck,rfl,br,bE,_,_⟩:=aa.open_map
 have aV:Cells vi w1 (some ⟨gk',0,none⟩) K:=aa.toOwn.cells
 have ak:=Tryz.slices_Max_int gk' 0 H ck K w1 (by omega) (by rw [aO.out];exact zQ _) (by omega) (Cells.getD_ aV)
 rw [zT (by rw [aO.out];exact zQ _),bJ.out] at ak
 rw [aO.out]
 have bm:=aa.lt
 have ac:=bG.out w1 aX
 rw [show ((0:Nat):Int)=0 from rfl] at ac
 clear al aa
 go_wp2_with (go_at_call 84;refine (err_ok _ b F ds _ aX).mono ?_;rintro e w' ⟨rfl,rfl⟩)
 refine ak.mono ?_
 rintro e w' ⟨rfl,rfl⟩
 clear ak
 go_wp2_with fail
 refine ac.mono ?_
 rintro e w2 ⟨Ap,np,cp,v2,G2,rfl,aB,a4,aS,bd⟩
 have aR:gk'∉[b]:=by simp;omega
 have aD:Cells vi w2 (some ⟨gk',0,none⟩) K:=aV.keep (fun _ ad e=>by injection e with e;subst e;exact aR) aS
 rcases aB.cases with ⟨_,aN,_⟩ | ⟨g,af,rfl⟩
 ·exfalso
  have:=congrArg List.length aN
  rw [zE,aq.out] at this
  simp at this
  omega
 obtain ⟨cg,rfl,aQ,bA,_,_⟩:=af.open_map
 rw [aq.out] at aQ af ⊢
 have bN:=bd g (by simp)
 have ah:=bb.trans_same aS
 have bR:=a4.lt
 obtain ⟨w3,aP⟩:=zX (w2.alloc (.cells #[.int .i64 po,.slice Ap np cp] 198))
 have aM:Chg [] w2 w3:=by rw [aP];exact (zR [] w2).alloc _
 have bH:=a4.same aM
 have ar:=af.chg aM (by simp)
 have aC:=aD.same aM
 have a3:=ah.trans aM (by simp)
 have bv:g≠gk':=by omega
 have bF:=hid aP
 have an:=fun v w'=>fold_ok v d w' h0 h1
 have aj:=fun v w'=>wrap_ok v d w' h0 h1
 clear aB af a4 aV aD ac aP ah aS bd aX bb
 go_wp2_with fail
 rw [<-bF.out]
 go_loopg [15,16,42] m (fun j va vb iv wr=>∃ (i:Nat),iv=.int .i64 i/\i+j=m/\Row wr 3 (.slice (some ⟨g,0,none⟩) m cg) g ((mixL (fun v=>wrapI v d) EF i).map vi)/\Chg [g] w3 wr)
 case atStart=>exact ⟨0,rfl,by omega,by rw [mixL_zero];exact ar,zR _ _⟩
 case round =>
  clear ar
  obtain ⟨i,rfl,bM,ab,aL⟩:=hrel
  rcases gk with _ | j
  ·obtain rfl:m=i:=by omega
   have t1:decide (m<m)=false:=by simp
   rw [<-aq.out,mixL_full,bC.out,aq.out] at ab
   have bk:Cells vi wr (some ⟨g,0,none⟩) E:=ab.toOwn.cells
   have ay:=bq.out _ _ (aC.chg aL (fun ad e=>by injection e with e;subst e;simp;omega))
   have ap:=bD.out _ _ cg ck wr bk ay
   have bz:=bH.chg aL (fun x hx hm=>by simp at hm;have:=bB.out x hx;omega)
   have aH:=a3.trans aL (fun x hx=>by simp at hx;right;omega)
   clear bk ay aC ab
   go_wp2_with fail
   refine ap.mono ?_
   rintro e w5 ⟨v5,g5,rfl,aE,bi,bL⟩
   go_wp2
   go_ret2
   exact ⟨v5,g5,rfl,aE,(bz.same bi).cast (by omega),aH.trans bi (by simp),by have:=aH.size;omega⟩
  ·have bo:i<m:=by omega
   have t1:decide (i<m)=true:=zB bo
   have av:i<EF.length:=by rw [aq.out];exact bo
   obtain ⟨bx,bs,_,_,ai,aA⟩:=ab.open_map
   have bh:=ai i _ (mixL_at (fun v=>wrapI v d) EF av)
   have bO:=aA i
   have ag:=ab.set_ (i:=i) (by rw [zE,mixL_len];exact av) (vi (wrapI (EF.getD i 0) d))
   rw [<-List.map_set,mixL_set (fun v=>wrapI v d) EF av] at ag
   have be:=bK.out (EF.getD i 0) (by rw [zD,zF av];exact zG av)
   have ba:=fun w=>an (EF.getD i 0) w
   have a9:=fun w=>aj (EF.getD i 0) w
   rw [be] at ba
   generalize EF.getD i 0=x at *
   have t2:(x != x)=false:=by simp
   obtain ⟨y,hy⟩:=zX (wrapI x d)
   rw [<-hy] at ag a9
   have bI:wr.cell? ⟨g,i,none⟩=some (.int .i64 x):=bh
   have aF:Row (wr.setCell ⟨g,i,none⟩ (.int .i64 y)) _ _ _ _:=ag
   clear bs ai aA bh ag hy ab be
   go_wp2_with (first | (go_at_call 103;refine (ba _).mono ?_;rintro e w' ⟨rfl,rfl⟩) | (go_at_call 102;refine (a9 _).mono ?_;rintro e w' ⟨rfl,rfl⟩))
   go_roundg j
   case measure=>omega
   case rel=>exact ⟨i+1,by go_num,by omega,aF,aL.setCell (.inl (by simp)) _⟩
def pickD (D:List Int) (v:Int):Int:=D.getD v.toNat 0
theorem idx_back (l:List Int):(idxL l).map (pickD (diffL l))=l:=by
 unfold idxL
 rw [List.map_map]
 refine (List.map_congr_left fun s hs => ?_).trans (List.map_id _)
 have h:=(countP_index (diffL l) (diffL_lt l) ((mem_diffL l s).2 hs)).2
 show pickD (diffL l) ((diffL l).countP (· < s):Int)=s
 unfold pickD
 rw [Int.toNat_natCast,zD,h]
 rfl
theorem getColoured_ok (w:World) (b:Nat) (F ds:List Nat) (p:Nat) (l:List Int) (d:Nat) (h:IsRd w b F ds p) (h0:1<=d) (h1:d<=16) (hl0:0<l.length) (hl:l.length<=256) (hs:SmpOk d l) (hk:(diffL l).length<=16) (ha:Ahead ds p (colouredBits l d)) :
  Calls Tryz.prog 164 #[.pointer (some ⟨b,0,none⟩),.int .i64 l.length,.int .i64 d] w fun e w'=>∃ v g,e=.returned (.tuple #[v,.int .i64 0])/\Row w' 3 v g (l.map vi)/\IsRd w' b F ds (p+(colouredBits l d).length)/\Chg [b] w w'/\w.heap.size<=g:=by
 have aO:=diffL_pos hl0
 have ax:=diffL_ok hs
 have ah:=diffL_lt l
 have aW:=fun x (hx:x∈l)=>(countP_index (diffL l) (diffL_lt l) ((mem_diffL l x).2 hx)).1
 have aZ:colouredBits l d=bitsOf ((diffL l).length-1) 4++allOf (diffL l) d++allOf (idxL l) (bitsN (diffL l).length):=rfl
 rw [aZ] at ha ⊢
 have ar:=idx_back l
 have aj:=idxL_len l
 obtain ⟨D,hD⟩:=zX (diffL l)
 obtain ⟨k,ak⟩:=zX (D.length)
 have ap:∀ x∈idxL l,0<=x/\x<(k:Int):=fun x hx=>by
  obtain ⟨s,a7,rfl⟩:=List.mem_map.1 hx
  have:=aW s a7
  rw [ak,hD]
  show (0:Int)<=_/\((diffL l).countP (· < s):Int)<((diffL l).length:Int)
  omega
 rw [<-hD] at aO ax ah hk ar ha ⊢
 have aA:=bitsN_room hk
 have aU:=bitsN_le hk
 have aw:=fun w=>palBits_ok D.length w aO (by omega)
 rw [<-ak] at aO hk aA aU aw ha ⊢
 obtain ⟨q,hq⟩:=zX (bitsN k)
 rw [<-hq] at aA aU aw ha ⊢
 obtain ⟨I,hI⟩:=zX (idxL l)
 rw [<-hI] at ar aj ap ha ⊢
 obtain ⟨n,hn⟩:=zX (l.length)
 rw [<-hn] at aj hl hl0 ⊢
 have aC:=rget_ahead w b F ds p 4 (k-1) h (by omega) (by omega) ha.left.left
 have aF:=ha.left.right
 have az:=ha.right
 rw [bitsOf_len] at aF
 rw [zC,bitsOf_len] at az
 have aL:=fun w' (hr:IsRd w' b F ds (p+4))=>getAll_ok w' b F ds (p+4) d D hr h1 ax (by rw [<-ak];omega) aF
 have aT:SmpOk q I:=fun x hx=>by
  have:=ap x hx
  have e:(2:Int)^q=((2^q:Nat):Int):=by simp
  rw [e]
  omega
 have ay:=fun w' (hr:IsRd w' b F ds (p+(4+(allOf D d).length)))=>getAll_ok w' b F ds (p+(4+(allOf D d).length)) q I hr (by omega) aT (by rw [aj];omega) az
 rw [<-ak] at aL
 rw [aj] at ay
 rw [zC,zC,bitsOf_len]
 generalize (allOf D d).length=a1 at *
 generalize (allOf I q).length=a2 at *
 obtain ⟨k1,aR⟩:=zX (k-1)
 have ek:(k1:Int)+1=(k:Int):=by omega
 rw [<-aR] at aC
 have bB:IntKind.i64.wrap (k1:Int)=(k1:Int):=IntWalk.i64_in _ (by omega)
 have bk:=h.lt b h.mem
 have aB:=hid ak
 have bb:=hid ar
 have av:=hid aj
 have ba:=hid ap
 have bn:=hid aL
 have bj:=hid ay
 have aG:=hid ah
 have bf:=hid h.lt
 clear hn ak ar aj ap aL ay ah aZ hD hI hq hs aW ax ha aF az aT aR aA h
 go_enter Tryz.func164,Tryz.ntmps164
 go_wp2_with fail
 refine aC.mono ?_
 rintro e w1 ⟨rfl,aX,aq⟩
 clear aC
 go_wp2_with fail
 refine (bn.out w1 aX).mono ?_
 rintro e w2 ⟨vD,gD,rfl,ad,a4,aE,bH⟩
 obtain ⟨cD,rfl,bi,bg,_,_⟩:=ad.open_map
 rw [<-aB.out]
 have aY:=ad.lt
 go_wp2_with fail
 refine (aw w2).mono ?_
 rintro e w' ⟨rfl,rfl⟩
 go_wp2_with fail
 refine (bj.out w2 (a4.cast (by omega))).mono ?_
 rintro e w3 ⟨vI,gI,rfl,rowI,aM,aI,bD⟩
 obtain ⟨cI,rfl,aH,bc,_,_⟩:=rowI.open_map
 rw [av.out] at aH rowI ⊢
 have af:=ad.chg aI (by have:=aq.size;simp;omega)
 have ao:=(aq.trans_same aE).trans_same aI
 have bG:=(aq.trans_same aE).size
 clear ad aX a4 aq aE aI aw
 have a5:w.heap.size<=gI:=by omega
 have bC:gD<gI:=by omega
 go_wp2_with (go_at_call 84;refine (err_ok _ b F ds _ aM).mono ?_;rintro e w' ⟨rfl,rfl⟩)
 have bp:=hid aM
 have bm:=hid ao
 have br:=hid rowI
 have aS:=hid af
 clear aM ao rowI af
 go_loopg [11] (k-1) (fun j iv wr=>∃ i q':Nat,iv=.int .i64 i/\1<=i/\i+j=k/\wr=w3.drewN q')
 case atStart=>exact ⟨1,0,rfl,zQ _,by omega,rfl⟩
 case round =>
  obtain ⟨i,q',rfl,bF,a9,rfl⟩:=hrel
  rcases gk with _ | j
  ·obtain rfl:k=i:=by omega
   have u1:decide (k<k)=false:=by simp
   have ag:=br.out.drewN q'
   have aJ:=aS.out.drewN q'
   have bs:=bp.out.same ((zR [] w3).drewN q')
   have aN:=bm.out.drewN q'
   generalize w3.drewN q'=w4 at *
   go_wp2_with fail
   go_loopg [12,13,50] n (fun j va vb iv wr=>∃ (i:Nat),iv=.int .i64 i/\i+j=n/\Row wr 3 (.slice (some ⟨gI,0,none⟩) n cI) gI ((mixL (pickD D) I i).map vi)/\Chg [gI] w4 wr)
   case atStart=>exact ⟨0,rfl,by omega,by rw [mixL_zero];exact ag,zR _ _⟩
   case round =>
    clear ag
    obtain ⟨i,rfl,a9,ab,au⟩:=hrel
    rcases gk with _ | j
    ·obtain rfl:n=i:=by omega
     have u2:decide (n<n)=false:=by simp
     rw [<-av.out,mixL_full,bb.out,av.out] at ab
     have be:=bs.chg au (fun x hx hm=>by simp at hm;have:=bf.out x hx;omega)
     have aK:=aN.trans au (fun x hx=>by simp at hx;right;omega)
     go_wp2_with fail
     go_ret2
     exact ⟨_,gI,rfl,ab,be.cast (by omega),aK,a5⟩
    ·have a3:i<n:=by omega
     have u2:decide (i<n)=true:=zB a3
     have al:i<I.length:=by rw [av.out];exact a3
     obtain ⟨bd,a6,_,_,ae,am⟩:=ab.open_map
     have aV:=ae i _ (mixL_at (pickD D) I al)
     have bE:=am i
     have ac:=ab.set_ (i:=i) (by rw [zE,mixL_len];exact al) (vi (pickD D (I.getD i 0)))
     rw [<-List.map_set,mixL_set (pickD D) I al] at ac
     have bx:=ba.out (I.getD i 0) (by rw [zD,zF al];exact zG al)
     generalize I.getD i 0=x at *
     obtain ⟨X,hX⟩:∃ X:Nat,X=x.toNat:=⟨_,rfl⟩
     have bh:x=(X:Int):=by omega
     have bv:X<k:=by omega
     have a0:pickD D x=D.getD X 0:=by unfold pickD;rw [hX]
     obtain ⟨bo,ai,_,_,aa,_⟩:=(aJ.chg au (by simp;omega)).open_map
     have bw:X<D.length:=by rw [<-aB.out];exact bv
     have aP:=aa X (D.getD X 0) (by rw [zD,zF bw];rfl)
     rw [a0] at ac
     generalize D.getD X 0=y at *
     subst bh
     have u3:decide (k<=X)=false:=zA (by omega)
     have bu:wr.cell? ⟨gI,i,none⟩=some (.int .i64 X):=aV
     have bq:wr.cell? ⟨gD,X,none⟩=some (.int .i64 y):=aP
     have an:Row (wr.setCell ⟨gI,i,none⟩ (.int .i64 y)) _ _ _ _:=ac
     clear a6 ae am aV ac hX ab bx a0 aa ai aP
     go_wp2
     go_roundg j
     case measure=>omega
     case rel=>exact ⟨i+1,by go_num,by omega,an,au.setCell (.inl (by simp)) _⟩
  ·have aQ:i<k:=by omega
   have u1:decide (i<k)=true:=zB aQ
   obtain ⟨i0,bl⟩:=zX (i-1)
   have ei:(i:Int)-1=(i0:Int):=by omega
   have aD:i<D.length:=by rw [<-aB.out];exact aQ
   have a8:=List.pairwise_iff_getElem.1 aG.out i0 i (by omega) aD (by omega)
   obtain ⟨bo,ai,_,_,aa,_⟩:=aS.out.open_map
   have c1:=aa i0 _ (zF (by omega))
   have c2:=aa i _ (zF aD)
   generalize D[i0]=x at *
   generalize D[i]=y at *
   have bA:w3.cell? ⟨gD,i0,none⟩=some (.int .i64 x):=c1
   have bI:w3.cell? ⟨gD,i,none⟩=some (.int .i64 y):=c2
   have u2:decide (y<=x)=false:=zA (by omega)
   have bz:i0<k:=by omega
   clear bl aa ai c1 c2 a8 aD
   go_wp2
   go_quiet (fail)
   go_wp2
   go_roundg j
   case measure=>omega
   case rel=>exact ⟨i+1,q'+nq,by go_num,by omega,by omega,by first | rfl | rw [World.drewN_drewN]⟩
theorem fut_first4 {n:Nat} {F:List Nat} (hF:Fut F (newCod n)):valD (F.take 4)≠4294967295:=by
 have:=hF.hi
 simp [newCod,pre,valD] at this
 unfold valD
 simp
 omega
theorem newDec_okT (N:Nat) {F:List Nat} (hd:∀ d∈F,d<256) (h4:4<=F.length) (hF:Fut F (newCod N)):DecOk (newDec F N):=by
 have:=hF.hi
 simp [newCod,pre,valD] at this
 refine ⟨hd,by simp [newDec],by simp [newDec],?_,h4,by simp [newDec]⟩
 simp [newDec,valD]
 omega
theorem fold16 (l:List Int) (W:Nat) {d:Nat} (h0:1<=d) (h1:d<=16) (i:Nat):foldOf l W d i<65536 :=
 Nat.lt_of_lt_of_le (foldOf_lt l W h0 i) (Nat.pow_le_pow_right (n:=2) (by decide) h1)
theorem codR_fit (l:List Int) (W:Nat) {d:Nat} (h0:1<=d) (h1:d<=16):∀ i,CodFit (codR l W d i)
 | 0=>newCod_fit _
 | i+1=>by
  have h:=codR_ok l W h0 h1 i
  have hc:=clsN_le l W d i
  have hf:=fold16 l W h0 h1 i
  exact numL_fit h.1 (codR_fit l W h0 h1 i) (by omega) (by rw [h.2.1];omega)
theorem fut_codR (l:List Int) (W:Nat) {d:Nat} (h0:1<=d) (h1:d<=16) {F:List Nat} (hd:∀ x∈F,x<256):∀ (k i:Nat),Fut F (codR l W d (i+k))->Fut F (codR l W d i)
 | 0,_,h=>h
 | k+1,i,h=>by
  have hk:=codR_ok l W h0 h1 (i+k)
  have hc:=clsN_le l W d (i+k)
  have hf:=fold16 l W h0 h1 (i+k)
  have h':Fut F (numL (codR l W d (i+k)) (33*clsN l W d (i+k)) (foldOf l W d (i+k))):=h
  exact fut_codR l W h0 h1 hd k i (fut_num (v:=foldOf l W d (i+k)) (ctx:=33*clsN l W d (i+k)) hd hk.1 (codR_fit l W h0 h1 _) (by omega) (by rw [hk.2.1];omega) h')
theorem fold_back {l:List Int} {d:Nat} (hs:SmpOk d l) (W i:Nat):wrapI (guessI 7 (nbrAt l W i) d+unfoldI (foldOf l W d i)) d=l.getD i 0:=by
 obtain ⟨h0,h1⟩:=getD_ok hs i
 unfold foldOf
 rw [unfoldI_rfold]
 exact unfold_fold h0 h1
theorem nbr_fillAt {l:List Int} {W i:Nat} (hW:1<=W) (hi:i<=l.length):nbrAt (fillL (l.take i) l.length) W i=nbrAt l W i:=by
 unfold nbrAt
 exact nbr_fill (Nat.mod_lt _ (by omega)) (by rw [zY];exact Nat.div_add_mod i W) hi
theorem fill_smpT {d:Nat} {l:List Int} (hs:SmpOk d l) (i n:Nat):SmpOk d (fillL (l.take i) n):=by
 intro s h
 unfold fillL at h
 rcases zP.1 h with h | h
 ·exact hs s (List.mem_of_mem_take h)
 ·rw [List.eq_of_mem_replicate h];exact ⟨Int.le_refl _,two_pow_pos' d⟩
theorem unfolded_ok (g:Int) (f d:Nat) (w:World) (h0:1<=d) (h1:d<=16) (hg0:0<=g) (hg1:g<65536) (hf:f<65536) :
  Calls Tryz.prog 207 #[.int .i64 g,.int .i64 f,.int .i64 d] w fun e w'=>e=.returned (.int .i64 (wrapI (g+unfoldI f) d))/\w=w':=by
 have hu:=unfold_ok f w (by omega)
 have ac:IntKind.u64.wrap (f:Int)=(f:Int):=IntWalk.u64_in _ (by omega)
 have ab : -65536<=unfoldI f/\unfoldI f<=65536:=by unfold unfoldI;split<;>omega
 have aa:=wrap_ok (g+unfoldI f) d w h0 h1
 generalize unfoldI f=u at *
 go_enter Tryz.func207,Tryz.ntmps207
 go_wp2_with fail
 refine hu.mono ?_
 rintro e w' ⟨rfl,rfl⟩
 go_wp2_with fail
 refine aa.mono ?_
 rintro e w' ⟨rfl,rfl⟩
 go_wp2
 go_ret
 exact ⟨rfl,rfl⟩
theorem u8_elT:Elem Tryz.prog 52 5 (.int .u8 0) 1 1:=.mk' Tryz.underlying52 (by kernel_rfl)
def fillB (done:List Nat) (n:Nat):List Nat:=done++List.replicate (n-done.length) 0
theorem fillB_full {l:List Nat} {n:Nat} (h:l.length=n):fillB l n=l:=by simp [fillB,h]
theorem fillB_get {done:List Nat} {n:Nat} (h:done.length<n):(fillB done n)[done.length]?=some 0:=by
 unfold fillB
 rw [zS (zQ _),Nat.sub_self,List.getElem?_replicate,if_pos (by omega)]
theorem fillB_set {done:List Nat} {n:Nat} (h:done.length<n) (x:Nat):(fillB done n).set done.length x=fillB (done++[x]) n:=by
 unfold fillB
 obtain ⟨k,hk⟩:∃ k,n-done.length=k+1:=⟨n-done.length-1,by omega⟩
 rw [hk,List.set_append_right _ _ (zQ _),Nat.sub_self,List.replicate_succ,List.set_cons_zero,zC,List.length_singleton,show n-(done.length+1)=k by omega]
 simp
theorem fillB_len {done:List Nat} {n:Nat} (h:done.length<=n):(fillB done n).length=n:=by simp [fillB];omega
theorem bytes_split (R:List Nat) {m:Nat} (hm:m<R.length):(R.drop m).flatMap (fun x=>bitsOf x 8)=bitsOf R[m] 8++(R.drop (m+1)).flatMap (fun x=>bitsOf x 8):=by
 rw [List.drop_eq_getElem_cons hm,List.flatMap_cons]
theorem getRanged_ok (w:World) (b:Nat) (F ds:List Nat) (p:Nat) (l:List Int) (W H d:Nat) (h:IsRd w b F ds p) (hw0:1<=W) (hw1:W<=16) (hh0:1<=H) (hh1:H<=16) (h0:1<=d) (h1:d<=16) (hl:l.length=W*H) (hs:SmpOk d l) (ha:Ahead ds p (rangedBits l W d)) :
  Calls Tryz.prog 163 #[.pointer (some ⟨b,0,none⟩),.int .i64 W,.int .i64 H,.int .i64 d] w fun e w'=>∃ v g,e=.returned (.tuple #[v,.int .i64 0])/\Row w' 3 v g (l.map vi)/\IsRd w' b F ds (p+(rangedBits l W d).length)/\Chg [b] w w'/\w.heap.size<=g:=by
 have bV:rangedBits l W d=bitsOf (rangedL l W d).length 16++(rangedL l W d).flatMap fun x=>bitsOf x 8:=rfl
 have ba:=rangedL_len l W h0 h1
 have aE:=rangedL_lt l W h0 h1
 have ad:rangedL l W d=(codR l W d l.length).low:=rfl
 rw [bV] at ha ⊢
 rw [zC,bitsOf_len]
 obtain ⟨R,hR⟩:=zX (rangedL l W d)
 rw [<-hR] at ba aE ad ha ⊢
 obtain ⟨n,hn⟩:=zX (l.length)
 have bX:n<=256:=by rw [hn,hl];exact zL hw1 hh1
 have cu:n<=64*W:=by rw [hn,hl,zY];exact Nat.mul_le_mul_right W (by omega)
 have cD:(W:Int)*(H:Int)=(n:Int):=by rw [hn,hl];simp
 rw [<-hn] at ba ad
 have ap:Fut R (codR l W d n):=by rw [ad];exact fut_self (codR_ok l W h0 h1 n).1
 have ay:=fun i (hi:i<=n)=>fut_codR l W h0 h1 aE (n-i) i (by rw [show i+(n-i)=n by omega];exact ap)
 have bi:Fut R (newCod 429):=ay 0 (Nat.zero_le _)
 have bm:4<=R.length:=by rw [ad];exact (codR_ok l W h0 h1 n).1.len
 have bK:=fut_first4 bi
 have aO:=newDec_okT 429 aE bm bi
 have aL:=fun i=>codR_ok l W h0 h1 i
 have au:=fun i=>codR_fit l W h0 h1 i
 have a5:=fun i=>clsN_le l W d i
 have ak:=fun i=>fold16 l W h0 h1 i
 have aj:=fun i=>foldOf_lt l W h0 i
 have az:=fun i=>fold_back hs W i
 obtain ⟨r,hr⟩:=zX (R.length)
 rw [<-hr] at ba bm ha
 have bh:r<2^16:=by omega
 have bM:=rget_ahead w b F ds p 16 r h (by omega) bh ha.left
 have bz:=ha.right
 rw [bitsOf_len] at bz
 have cj:=run_make1 (P:=Tryz.prog) u8_elT rfl .i64 .i64 r (by omega) (by omega)
 have cw:=run_make1 (P:=Tryz.prog) int_elem rfl .i64 .i64 n (by omega) (by omega)
 have bZ:IntKind.i64.wrap (r:Int)=(r:Int):=IntWalk.i64_in _ (by omega)
 have cy:=h.lt b h.mem
 have HN:=hid hn
 have HR:=hid hr
 have bJ:=hid aE
 have b4:=hid ad
 have HA:=hid bz
 have bd:=hid ay
 have b0:=hid bK
 have bB:=hid aO
 have bj:=hid aL
 have b6:=hid au
 have cs:=hid a5
 have bq:=hid ak
 have bn:=hid aj
 have ck:=hid az
 have HS:=hid hs
 have b9:=hid h.lt
 clear hn hr aE ad ha bz ay bK aO aL au a5 ak aj az hs bV hR ap bi hl h
 go_enter Tryz.func163,Tryz.ntmps163
 go_wp2_with fail
 refine bM.mono ?_
 rintro e w1 ⟨rfl,bW,bk⟩
 obtain ⟨B,hB⟩:=zX (w1.heap.size)
 have cA:w.heap.size<=B:=by rw [hB];exact bk.size
 have bp:Chg [] w1 (w1.alloc (.cells (List.replicate r (Value.int .u8 0)).toArray 5)):=(zR [] w1).alloc _
 have ac:Row (w1.alloc (.cells (List.replicate r (Value.int .u8 0)).toArray 5)) 5 (.slice (some ⟨B,0,none⟩) r r) B ((fillB [] r).map b8):=by
  have:=Row.made w1 5 (List.replicate r (Value.int .u8 0)) (by simp [maxLen];omega)
  rw [<-hB,zV] at this
  have e:(fillB [] r).map b8=List.replicate r (Value.int .u8 0):=by simp [fillB,b8]
  rw [e]
  exact this
 have aP:=bW.same bp
 have HB:=hid hB
 have aN:=(bk.trans bp (by simp))
 clear bM hB bW bk bp
 go_wp2_with fail
 rw [<-HB.out]
 go_loopg [11,27] r (fun j va iv wr=>∃ (i p':Nat),iv=.int .i64 i/\i+j=r/\Row wr 5 (.slice (some ⟨B,0,none⟩) r r) B ((fillB (R.take i) r).map b8)/\IsRd wr b F ds p'/\Hid (Ahead ds p' ((R.drop i).flatMap fun x=>bitsOf x 8))/\Hid (p'+((R.drop i).flatMap fun x=>bitsOf x 8).length=p+(16+(R.flatMap fun x=>bitsOf x 8).length))/\Hid (Chg [b] w wr))
 case atStart=>exact ⟨0,p+16,rfl,by omega,ac,aP,HA,hid (by rw [List.drop_zero];omega),hid aN⟩
 case round =>
  clear ac aP aN
  obtain ⟨i,p',rfl,b2,ab,ad,Ha,Hp,bH⟩:=hrel
  rcases gk with _ | j
  ·obtain rfl:r=i:=by omega
   have u1:decide ((r:Int)<(r:Int))=false:=by simp
   have ci:decide (r<r)=false:=by simp
   have e1:R.take r=R:=by rw [HR.out,zN]
   have e2:R.drop r=[]:=by rw [HR.out,List.drop_length]
   rw [e1,fillB_full HR.out.symm] at ab
   have hp:=Hp.out
   rw [e2] at hp
   have cc:Hid (p'=p+(16+(R.flatMap fun x=>bitsOf x 8).length)):=hid (by
    rw [show (([]:List Nat).flatMap fun x=>bitsOf x 8)=[] from rfl,List.length_nil] at hp
    omega)
   obtain ⟨bl,be,_,_,af,_⟩:=ab.open_map
   have bu:=newDecoder_ok B r R 429 wr (by decide) (by decide) (by rw [<-HR.out];exact zQ _) (by omega) af bJ.out (by rw [<-HR.out];exact bm) (by rw [<-HR.out];omega) b0.out
   rw [<-HR.out,show ((429:Nat):Int)=429 from rfl] at bu
   clear e1 e2 hp be af Ha Hp ab
   go_wp2_with (go_at_call 84;refine (err_ok _ b F ds _ ad).mono ?_;rintro e w' ⟨rfl,rfl⟩)
   refine bu.mono ?_
   rintro e w3 ⟨db,dg,dh,rfl,ae,a6,cC,cH,cz⟩
   have ac:=Row.zeros w3 n (by omega)
   obtain ⟨G,hG⟩:=zX (w3.heap.size)
   have a8:Chg [] w3 (w3.alloc (.cells (List.replicate n (Value.int .i64 0)).toArray 3)):=(zR [] w3).alloc _
   have ar:=ae.same a8
   have aU:=(ad.same a6).same a8
   have aS:=(bH.out.trans a6 (by simp)).trans a8 (by simp)
   rw [<-hG] at ac
   have b7:=ad.lt b ad.mem
   have cJ:=a6.size
   have bG:=ae.lt
   rw [<-hG] at bG
   have co:=bH.out.size
   have bI:=ad.lt
   have bY:=hid bI
   have HG:=hid hG
   clear bu ad ae a6 a8 hG bI
   go_wp2_with fail
   rw [<-HG.out]
   go_loopg [16,17,18,19,20,56] n (fun j va vb vc vd ve iv w5=>∃ (i:Nat) (D:Dec),iv=.int .i64 i/\i+j=n/\Row w5 3 (.slice (some ⟨G,0,none⟩) n n) G ((fillL (l.take i) n).map vi)/\IsDec 288 w5 db dg dh D/\DecOk D/\Syn D (codR l W d i)/\D.data=R/\IsRd w5 b F ds p'/\Hid (Chg [b] w w5))
   case atStart=>exact ⟨0,newDec R 429,rfl,by omega,by simpa using ac,ar,bB.out,syn_new _ _,rfl,aU,hid aS⟩
   case round =>
    clear ac ar aU aS
    obtain ⟨i,D,rfl,b2,ab,ae,a0,a4,ah,ad,aV⟩:=hrel
    rcases gk with _ | j
    ·obtain rfl:n=i:=by omega
     have u2:decide ((n:Int)<(n:Int))=false:=by simp
     have cf:decide (n<n)=false:=by simp
     have e:fillL (l.take n) n=l:=by
      have:=fill_all l
      rw [<-HN.out] at this
      exact this
     rw [e] at ab
     have bL:=left_any wr db dg dh D ae a0.pos
     have hz:D.data.length-D.pos=0:=by rw [a4.pos,ah,<-b4.out];omega
     rw [hz] at bL
     clear ae a0 a4 ah hz e
     go_wp2_with fail
     refine bL.mono ?_
     rintro e w' ⟨rfl,n6,rfl⟩
     go_wp2_with fail
     go_ret2
     exact ⟨_,G,rfl,ab.drewN n6,(ad.same ((zR [] _).drewN n6)).cast cc.out,aV.out.drewN n6,by have:=HG.out;omega⟩
    ·have am:i<n:=by omega
     have u2:decide ((i:Int)<(n:Int))=true:=zB (by omega)
     have cf:decide (i<n)=true:=zB am
     have bc:i<l.length:=by rw [<-HN.out];exact am
     have bF:=nbr_fillAt (l:=l) hw0 (i:=i) (by omega)
     rw [<-HN.out] at bF
     have an:(fillL (l.take i) n).length=n:=fillL_len (by rw [zI];omega)
     have aH:=tnear_ok (fillL (l.take i) n) (some ⟨G,0,none⟩) n W d i wr h0 h1 hw0 (by omega) (by rw [an];omega) (by omega) (fill_smpT HS.out i n) ab.toOwn.cells (by rw [an];omega)
     have bb:=bj.out i
     have a5:=cs.out i
     have az:=ck.out i
     have ak:=bq.out i
     have aj:=bn.out i
     have aI:codR l W d (i+1)=numL (codR l W d i) (33*clsN l W d i) (foldOf l W d i):=rfl
     have bC:=bd.out (i+1) (by omega)
     rw [aI] at bC
     have cF:2^d<=65536:=Nat.pow_le_pow_right (n:=2) (by decide) h1
     have cb:=Nat.two_pow_pos d
     have aa:=fun w' (hq:IsDec 288 w' db dg dh D)=>dnum_syn w' db dg dh D (codR l W d i) (33*clsN l W d i) (foldOf l W d i) (2^d-1) hq a0 a4 bb.1 (b6.out i) (by rw [bb.2.1];omega) (by omega) (by omega) (by rw [ah];exact bC)
     unfold NumPost at aa
     rw [if_pos (by omega:foldOf l W d i<=2^d-1)] at aa
     rw [bF,an,<-clsN_cast] at aH
     have a7:=guessI_ok (d:=d) (g:=nbrAt l W i) (nbr_ok HS.out W _ _) 7
     obtain ⟨gs,bS⟩:=zX (guessI 7 (nbrAt l W i) d)
     rw [<-bS] at aH a7 az
     obtain ⟨f,hf⟩:=zX (foldOf l W d i)
     rw [<-hf] at aa az ak aj aI
     obtain ⟨cx,a9⟩:=zX (33*clsN l W d i)
     have ca:(33:Int)*((clsN l W d i:Nat):Int)=(cx:Int):=by rw [a9];simp
     rw [<-a9] at aa aI
     have cg:cx<=500:=by omega
     obtain ⟨cl,aW⟩:=zX (clsN l W d i)
     rw [<-aW] at ca aH a5
     obtain ⟨mo,bg⟩:=zX (2^d-1)
     rw [<-bg] at aa
     have aX:gs<65536:=by
      have e:((2^d:Nat):Int)=(2:Int)^d:=by simp
      have:=a7.2
      omega
     have br:=fun w'=>unfolded_ok gs f d w' h0 h1 a7.1 aX ak
     rw [az] at br
     have cm:f<=mo:=by omega
     have aA:=take_snoc' l bc
     have bP:l[i]=l.getD i 0:=by rw [zD,zF bc];rfl
     rw [bP] at aA
     generalize l.getD i 0=xv at *
     have bU:(l.take i).length=i:=by rw [zI];omega
     have cv:((2^d:Nat):Int)=(2:Int)^d:=by simp
     have cG:IntKind.u64.wrap ((2:Int)^d)=(2:Int)^d:=IntWalk.u64_in _ (by omega)
     have cE:IntKind.u64.wrap ((2:Int)^d-1)=(mo:Int):=by rw [IntWalk.u64_in _ (by omega)];omega
     have ct:IntKind.i64.wrap (f:Int)=(f:Int):=IntWalk.i64_in _ (by omega)
     have bo:=hid aA
     have bw:=hid bU
     have aB:=hid aa
     have b5:=hid br
     have ce:=hid aI
     have ax:=hid ab
     have cB:=hid bg
     have bE:=hid ah
     clear bF an bb az bC aa bS hf a9 aW bg br aA bP bU aI ab a0 a4 ah bc aj a7
     go_wp2_with fail
     refine aH.mono ?_
     rintro e w6 ⟨rfl,aZ⟩
     have aw:=ae.same aZ
     have aY:=ad.same aZ
     have aJ:=aV.out.trans aZ (by simp)
     have av:=ax.out.chg aZ (by simp)
     have aT:=aB.out w6 aw
     clear aH ae ad
     go_wp2_with fail
     refine aT.mono ?_
     rintro e w7 ⟨rfl,D',aq,bR,aF,bx⟩
     rw [if_pos cm] at bR
     obtain ⟨aK,aC⟩:=bR
     have bT:=err_any w7 db dg dh D' aq
     rw [aC.err,show ((0:Nat):Int)=0 from rfl] at bT
     have aQ:∀ z∈F,z∉[db,dh]:=fun z hz hm=>by have:=bY.out z hz;simp at hm;omega
     have bA:=aY.chg bx aQ
     have bD:=aJ.trans bx (fun z hz => .inr (by simp at hz;omega))
     have al:=av.chg bx (by simp;omega)
     obtain ⟨a2,bN⟩:=al.fill_cell (by rw [bw.out];exact am)
     have ai:=al.fill (by rw [bw.out];exact am) xv
     rw [bw.out] at a2 bN ai
     have cq:=hid ai
     have cd:=hid aK
     have ch:=hid aC
     have bv:=b5.out w7
     clear aT aw aY aJ av al ai aK aC aQ
     go_wp2_with (first | (go_at_call 206;refine bT.mono ?_;rintro e w' ⟨rfl,rfl⟩) | (go_at_call 207;refine bv.mono ?_;rintro e w' ⟨rfl,rfl⟩))
     go_roundg j
     case measure=>omega
     case rel =>
      have aD:Chg [G] w' (w'.setCell ⟨G,i,none⟩ (.int .i64 xv)):=(zR _ _).setCell (.inl (by simp)) _
      refine ⟨i+1,D',by go_num,by omega,?_,aq.chg aD (by simp;omega) (by simp;omega) (by simp;omega),cd.out,by rw [ce.out];exact ch.out,aF.trans bE.out,bA.chg aD (fun z hz hm=>by simp at hm;have:=bY.out z hz;omega),hid (bD.trans aD (fun z hz => .inr (by simp at hz;omega)))⟩
      rw [bo.out]
      exact cq.out
  ·have am:i<r:=by omega
   have u1:decide ((i:Int)<(r:Int))=true:=zB (by omega)
   have ci:decide (i<r)=true:=zB am
   have bs:i<R.length:=by rw [<-HR.out];exact am
   have a3:=bytes_split R bs
   have aA:=take_snoc' R bs
   have cp:=bJ.out R[i] (zG _)
   obtain ⟨x,hx⟩:=zX (R[i])
   rw [<-hx] at a3 aA cp
   have a1:=Ha.out
   rw [a3] at a1
   have aG:=rget_ahead wr b F ds p' 8 x ad (by omega) (by omega) a1.left
   have b3:=hid a1.right
   have bQ:(R.take i).length=i:=by rw [zI];omega
   have cI:IntKind.u8.wrap (x:Int)=(x:Int):=by rw [IntKind.wrap_u8];omega
   have b1:=hid a3
   have bo:=hid aA
   have aB:=hid bQ
   have ax:=hid ab
   clear a3 aA hx a1 bs bQ ad ab
   go_wp2_with fail
   refine aG.mono ?_
   rintro e w2 ⟨rfl,cr,bO⟩
   have ag:=ax.out.chg bO (by simp;omega)
   obtain ⟨bl,be,_,_,af,aM⟩:=ag.open_map
   have a2:=af i 0 (by have:=fillB_get (done:=R.take i) (n:=r) (by rw [aB.out];exact am);rw [aB.out] at this;exact this)
   have cn:w2.cell? ⟨B,i,none⟩=some (.int .u8 0):=a2
   have bN:=aM i
   have ao:=ag.set_ (i:=i) (by rw [zE,fillB_len (by rw [aB.out];omega)];exact am) (b8 x)
   rw [<-List.map_set] at ao
   have bf:=fillB_set (done:=R.take i) (n:=r) (by rw [aB.out];exact am) x
   rw [aB.out,<-bo.out] at bf
   rw [bf] at ao
   have aR:Row (w2.setCell ⟨B,i,none⟩ (.int .u8 x)) _ _ _ _:=ao
   clear aG ag be af aM a2 ao bf
   go_wp2_with fail
   go_roundg j
   case measure=>omega
   case rel =>
    have aD:Chg [B] w2 (w2.setCell ⟨B,i,none⟩ (.int .u8 x)):=(zR _ _).setCell (.inl (by simp)) _
    refine ⟨i+1,p'+8,by go_num,by omega,aR,cr.chg aD (fun z hz hm=>by simp at hm;have:=b9.out z hz;omega),hid ?_,hid ?_,hid ((bH.out.trans_same bO).trans aD (fun z hz => .inr (by simp at hz;omega)))⟩
    ·have:=b3.out
     rw [bitsOf_len] at this
     exact this
    ·have:=Hp.out
     rw [b1.out,zC,bitsOf_len] at this
     omega
def depthL:List Int:=[8,1,2,4,8,10,12,16,5,8]
theorem depthL_ok (k:Nat) (h:k<10):∃ d:Nat,depthL[k]?=some (d:Int)/\1<=d/\d<=16:=by
 rcases (by omega:k=0\/k=1\/k=2\/k=3\/k=4\/k=5\/k=6\/k=7\/k=8\/k=9) with rfl | rfl | rfl | rfl | rfl | rfl | rfl | rfl | rfl | rfl
 ·exact ⟨8,rfl,by omega,by omega⟩
 ·exact ⟨1,rfl,by omega,by omega⟩
 ·exact ⟨2,rfl,by omega,by omega⟩
 ·exact ⟨4,rfl,by omega,by omega⟩
 ·exact ⟨8,rfl,by omega,by omega⟩
 ·exact ⟨10,rfl,by omega,by omega⟩
 ·exact ⟨12,rfl,by omega,by omega⟩
 ·exact ⟨16,rfl,by omega,by omega⟩
 ·exact ⟨5,rfl,by omega,by omega⟩
 ·exact ⟨8,rfl,by omega,by omega⟩
theorem IsTp.fresh {w w':World} {b cap at_:Nat} {A:Option Addr} {L:List Int} (h:IsTp w b A cap L at_) (hc:Chg [] w w'):IsTp w' b A cap L at_:=h.same hc (by simp) (fun _ _ _=>by simp)
theorem depth_tp (w:World) (b cap at_:Nat) (A:Option Addr) (L:List Int) (h:IsTp w b A cap L at_) :
  Calls Tryz.prog 56 #[.pointer (some ⟨b,0,none⟩)] w fun e w'=>∃ d at':Nat,e=.returned (.int .i64 d)/\1<=d/\d<=16/\IsTp w' b A cap L at'/\Chg [b] w w':=by
 obtain ⟨w1,aa⟩:=zX (w.alloc (.cells #[.int .i64 8,.int .i64 1,.int .i64 2,.int .i64 4,.int .i64 8,.int .i64 10,.int .i64 12,.int .i64 16,.int .i64 5,.int .i64 8] 3))
 have ab:Blk w1 w.heap.size 3 #[.int .i64 8,.int .i64 1,.int .i64 2,.int .i64 4,.int .i64 8,.int .i64 10,.int .i64 12,.int .i64 16,.int .i64 5,.int .i64 8]:=by rw [aa];exact Blk.new w _ _
 have ag:Chg [] w w1:=by rw [aa];exact (zR [] w).alloc _
 have hn:=next_tp w1 b cap at_ 10 A L (h.fresh ag) (by omega) (by omega)
 have af:w.heap.size≠b:=by have:=h.blk.lt;omega
 have al:=hid aa
 obtain ⟨B,hB⟩:=zX (w.heap.size)
 rw [<-hB] at ab af
 have HB:=hid hB
 clear aa h hB
 go_enter Tryz.func56,Tryz.ntmps56
 go_wp2_with fail
 rw [<-al.out,<-HB.out]
 refine hn.mono ?_
 rintro e w2 ⟨k,at',rfl,hk,ak,ae⟩
 obtain ⟨d,hd,ad,ac⟩:=depthL_ok k hk
 have ah:=ab.chg ae (by simpa using af)
 have ai:w2.cell? ⟨B,k,none⟩=some (.int .i64 d):=by
  rw [ah.cell k]
  have e:(#[Value.int .i64 8,.int .i64 1,.int .i64 2,.int .i64 4,.int .i64 8,.int .i64 10,.int .i64 12,.int .i64 16,.int .i64 5,.int .i64 8]:Array Value)=(depthL.map vi).toArray:=rfl
  rw [e,List.getElem?_toArray,zW,hd]
  rfl
 have an:(0:Int)<=(k:Int):=by omega
 have am:(k:Int)<10:=by omega
 have HD:=hid (And.intro ad ac)
 have aj:Hid (Chg [b] w w2):=hid ((ag.mono (by simp)).trans_same ae)
 clear hd ah ab hn ad ac
 go_wp2_with fail
 go_ret
 exact ⟨d,at',rfl,HD.out.1,HD.out.2,ak,aj.out⟩
def IsRw (w:World) (b:Nat) (s:Nat):Prop:=Blk w b 144 #[.int .i64 s]/\s<2147483648
theorem and_low64 (x:Int) (m:Nat) (hm:m<9223372036854775808):∃ k:Nat,k<=m/\bits .and .i64 x (m:Int)=(k:Int):=by
 refine ⟨(BitVec.ofInt 64 x &&& BitVec.ofInt 64 (m:Int)).toNat,?_,?_⟩
 ·rw [BitVec.toNat_and]
  have e:(BitVec.ofInt 64 (m:Int)).toNat=m:=by
   rw [BitVec.ofInt_natCast,BitVec.toNat_ofNat]
   exact Nat.mod_eq_of_lt (by omega)
  rw [e]
  exact Nat.and_le_right
 ·show IntKind.i64.wrap ((BitVec.ofInt 64 x &&& BitVec.ofInt 64 (m:Int)).toNat:Int)=_
  have aa:(BitVec.ofInt 64 x &&& BitVec.ofInt 64 (m:Int)).toNat<=m:=by
   rw [BitVec.toNat_and]
   have e:(BitVec.ofInt 64 (m:Int)).toNat=m:=by
    rw [BitVec.ofInt_natCast,BitVec.toNat_ofNat]
    exact Nat.mod_eq_of_lt (by omega)
   rw [e]
   exact Nat.and_le_right
  generalize (BitVec.ofInt 64 x &&& BitVec.ofInt 64 (m:Int)).toNat=q at *
  exact IntWalk.i64_in _ (by omega)
theorem next_rw (w:World) (b s n:Nat) (h:IsRw w b s) (hn0:1<=n) (hn1:n<=1073741824) :
  Calls Tryz.prog 100 #[.pointer (some ⟨b,0,none⟩),.int .i64 n] w fun e w'=>∃ v s':Nat,e=.returned (.int .i64 v)/\v<n/\IsRw w' b s'/\Chg [b] w w':=by
 obtain ⟨hb,hs⟩:=h
 have b0:=hb.cell 0
 have f0:=hb.frozen 0
 simp at b0
 obtain ⟨x,hx⟩:=zX (s*1103515245+12345)
 have ak:x<4611686018427387904:=by omega
 have al:(s:Int)*1103515245+12345=(x:Int):=by omega
 obtain ⟨y,hy,aa⟩:=and_low64 (x:Int) 2147483647 (by omega)
 have ag:y<2147483648:=by omega
 have ab:=hb.set_ 0 (.int .i64 y)
 have af:bits BinOp.and IntKind.i64 (x:Int) 2147483647=(y:Int):=aa
 obtain ⟨z,hz⟩:=zX (y / 256)
 have aj:(y:Int) / 256=(z:Int):=by omega
 have ah:z<8388608:=by omega
 obtain ⟨r,hr⟩:=zX (z%n)
 have ac:r<n:=by rw [hr];exact Nat.mod_lt _ (by omega)
 have ai:(z:Int).tmod (n:Int)=(r:Int):=by rw [hr,Int.tmod_eq_emod_of_nonneg (by omega)];simp
 have ae:(n:Int)≠0:=by omega
 have HS:=hid ab
 have am:=hid hb
 have ad:=hid ac
 clear ab hb hx hy hz hr ac aa
 go_enter Tryz.func100,Tryz.ntmps100
 go_wp2
 go_ret
 refine ⟨r,y,rfl,ad.out,⟨?_,ag⟩,(zR [b] w).setCell (.inl (by simp)) _⟩
 simpa using HS.out
end Go.Proofs.YtklocammllljiaaGreatDoor
