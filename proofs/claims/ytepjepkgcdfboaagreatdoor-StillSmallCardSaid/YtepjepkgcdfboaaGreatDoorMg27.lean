/- package prefix by its contracts, the eighth part: Put, PutTable. -/
import Derived.Test.YtepjepkgcdfboaaGreatDoorMg15
import Derived.Test.YtepjepkgcdfboaaGreatDoorMg26
import Derived.Deep.CutRange
set_option linter.unusedVariables false
set_option linter.unusedSimpArgs false
set_option maxHeartbeats 4000000
set_option maxRecDepth 100000
namespace Go.Proofs.YtepjepkgcdfboaaGreatDoor
open Go.RowKit
theorem pfput_ok (w:World) (b:Nat) (F bs:List Nat) (lens l:List Nat) (A Al:Option Addr) (cap capl:Nat) (h:IsWr w b F bs) (hf:FullL lens) (hc:Cells i64 w A lens) (hA:Apt A lens F) (hl:l.length<=4096) (hcl:Cells i64 w Al l) (hAl:Apt Al l F)
  (hs:∀ s∈l,s<lens.length/\0<lenAt lens s) (hbs:bs.length<137438953472) :
  Calls Tryz.prog 170 #[.pointer (some ⟨b,0,none⟩),.slice A lens.length cap,.slice Al l.length capl] w fun e w'=>e=.returned (.int .i64 0)/\∃ F',IsWr w' b F' (bs++symsBits lens l)/\Grow F F' w w':=by
 have au:=codes_ok lens A cap w hf hc
 have aA:=h.lt
 obtain ⟨n,hn⟩:=zX (lens.length)
 obtain ⟨m,hm⟩:=zX (l.length)
 have aR:=hf.n1
 have aY:=hf.n2
 rw [<-hn] at au hs aR aY ⊢
 rw [<-hm] at hl ⊢
 have HN:=hid hn
 have HM:=hid hm
 have HS:=hid hs
 have HF:=hid hf
 have HA:=hid hA
 have aO:=hid hAl
 have aB:=hid aA
 clear hn hm hs hf hA hAl aA
 go_enter Tryz.func170,Tryz.ntmps170
 go_wp2_with fail
 refine au.mono ?_
 rintro e w1 ⟨vw,gw,rfl,af,ac,a3⟩
 obtain ⟨cw,rfl,aw,aX,ai,_⟩:=af.open_map
 have az:(wordsL lens).length=n:=by rw [HN.out];exact wordsTo_len lens _
 rw [az] at aw ⊢
 have aS:=ac.size
 have aP:=hid ai
 clear au az ai
 go_wp2_with fail
 go_loopg [10,23] m (fun j v10 iv wr=>∃ (i:Nat),iv=.int .i64 i/\i+j=m/\wr=w1)
 case atStart=>exact ⟨0,rfl,by omega,rfl⟩
 case round =>
  obtain ⟨i,rfl,a4,aU⟩:=hrel
  obtain rfl:=aU.symm
  rcases gk with _ | j
  ·obtain rfl:i=m:=by omega
   go_wp2_with fail
   go_loopg [12,45] i (fun j v12 iv wr2=>∃ (q:Nat) (F' al:List Nat),iv=.int .i64 q/\q+j=i/\IsWr wr2 b F' al/\Hid (al=bs++symsBits lens (l.take q))/\al.length<=bs.length+24*q/\Grow F F' w1 wr2)
   case atStart=>exact ⟨0,F,bs,rfl,by omega,h.same ac,hid (by simp [symsBits]),by omega,Grow.refl F _⟩
   case round =>
    obtain ⟨q,F',al,rfl,aZ,aG,Hb,a1,ab⟩:=hrel
    rcases gk with _ | j
    ·obtain rfl:q=i:=by omega
     go_wp2
     go_ret
     refine ⟨rfl,F',?_,Grow.pre ac ab⟩
     have e:l.take q=l:=by rw [HM.out,zN]
     have h5:=Hb.out
     rw [e] at h5
     rw [<-h5]
     exact aG
    ·have aN:q<i:=by omega
     have am:q<l.length:=by rw [<-HM.out];exact aN
     have aa:0<lens.length:=by rw [<-HN.out];omega
     obtain ⟨gl,ol,rfl,cl⟩:=nat_at ((hcl.same ac).keep aO.out ab.chg) am
     obtain ⟨ae,an⟩:=HS.out l[q] (zG am)
     have aj:=symsBits_snoc lens (l.take q) l[q]
     rw [<-take_snoc' l am] at aj
     obtain ⟨s,ag⟩:=zX (l[q])
     rw [<-ag] at cl ae an aj
     have ad:=wordOf_lt HF.out an
     have aQ:lenAt lens s<=24:=by
      unfold lenAt
      rw [zD,zF (by rw [<-HN.out];exact ae)]
      exact HF.out.le _ (zG _)
     have aE:symBits lens s=bitsOf (wordOf lens s) (lenAt lens s):=rfl
     rw [aE] at aj
     -- the cells of the two tables
     have aH:=(hc.same ac).keep HA.out ab.chg
     obtain ⟨gt,ot,rfl,aC,ak⟩:=aH.ex aa
     have ct:=ak s (lenAt lens s) (by unfold lenAt;rw [zD,zF (by rw [<-HN.out];exact ae)];rfl)
     have ah:=aP.out s (wordOf lens s) (by unfold wordOf;rw [zD,zF (by unfold wordsL;rw [wordsTo_len,<-HN.out];exact ae)];rfl)
     have ap:gw∉F':=ab.out af.lt (fun hm=>by have:=aB.out _ hm;omega)
     have ay:gt∉F':=fun hm=>by
      have h8:=(HA.out.grow (hc.same ac) ab) aa _ rfl
      exact h8 hm
     have aV:wr.cell? ⟨gw,s,none⟩=some (.int .u64 (wordOf lens s:Int)):=(World.cell?_of_block (w:=w1) (ab.chg.block gw af.lt (fun hm=>by have:=aB.out _ hm;omega))).trans ah
     have aI:wr.cell? ⟨gt,ot+s,none⟩=some (.int .i64 (lenAt lens s:Int)):=ct
     have a2:wr.cell? ⟨gl,ol+q,none⟩=some (.int .i64 s):=cl
     have aD:wordOf lens s<16777216:=Nat.lt_of_lt_of_le ad (Nat.le_trans (Nat.pow_le_pow_right (n:=2) (by decide) aQ) (by decide))
     generalize wordOf lens s=wd at *
     generalize lenAt lens s=L at *
     have hS:∀ w',Chg F' wr w'->w'.cell? ⟨gw,s,none⟩=some (.int .u64 wd)/\w'.cell? ⟨gt,ot+s,none⟩=some (.int .i64 L):=fun w' hc' =>
      ⟨(World.cell?_of_block (w:=wr) (hc'.block gw (Nat.lt_of_lt_of_le af.lt ab.size) ap)).trans aV,(World.cell?_of_block (w:=wr) (hc'.block gt aC ay)).trans aI⟩
     have aF:=hid hS
     have aT:=hid aj
     have ao:=hid ad
     have aJ:(0:Int)<=(q:Int):=by omega
     have aK:(q:Int)<(i:Int):=by omega
     have aL:(0:Int)<=(s:Int):=by omega
     have aW:(s:Int)<(n:Int):=by omega
     have a0:=hid af
     clear hS aj ad ak ct cl ah ag aE am aa aH af
     go_wp2_with fail
     have ax:=fun w9 (hc9:Chg [] wr w9)=>wput_ok w9 b F' al wd L (aG.same hc9) (by omega) ao.out (by omega)
     go_region_held3 (fun w'=>w'.cell? ⟨gw,s,none⟩=some (.int .u64 wd)/\w'.cell? ⟨gt,ot+s,none⟩=some (.int .i64 L)) (first | (go_keep;done) | exact aF.out _ (((zR F' wr).drew).trans_same (Grow.chg (by assumption))) | exact aF.out _ (Grow.chg (by assumption)))
      (first | (go_at_call 15;refine (ax _ (by first | exact zR _ _ | exact (zR [] wr).drew | exact (zR [] wr).drewN _)).mono ?_;rintro e w5 ⟨rfl,F5,ar,aq⟩))
     go_wp2_with fail
     go_roundg j
     case measure=>omega
     case rel =>
      refine ⟨q+1,F5,_,by go_num,by omega,ar,hid ?_,?_,ab.trans (Grow.pre ((zR [] wr).drew) aq)⟩
      ·rw [aT.out,Hb.out];simp only [zH]
      ·rw [zC,bitsOf_len];omega
  ·have aM:i<m:=by omega
   have av:i<l.length:=by rw [<-HM.out];exact aM
   obtain ⟨gl,ol,rfl,cl⟩:=nat_at (hcl.same ac) av
   obtain ⟨ae,an⟩:=HS.out l[i] (zG av)
   have aa:0<lens.length:=by rw [<-HN.out];omega
   obtain ⟨s,ag⟩:=zX (l[i])
   rw [<-ag] at cl ae an
   obtain ⟨gt,ot,rfl,aC,ak⟩:=(hc.same ac).ex aa
   have ct:=ak s (lenAt lens s) (by unfold lenAt;rw [zD,zF (by rw [<-HN.out];exact ae)];rfl)
   have aI:w1.cell? ⟨gt,ot+s,none⟩=some (.int .i64 (lenAt lens s:Int)):=ct
   have t1:decide ((s:Int)<0)=false:=zA (by omega)
   have t2:decide ((n:Int)<=(s:Int))=false:=zA (by omega)
   have t3:((lenAt lens s:Int)==0)=false:=by rw [beq_eq_false_iff_ne];omega
   have aJ:(0:Int)<=(i:Int):=by omega
   have aK:(i:Int)<(m:Int):=by omega
   have aL:(0:Int)<=(s:Int):=by omega
   have aW:(s:Int)<(n:Int):=by omega
   generalize lenAt lens s=L at *
   clear ct ak ag av aa
   go_wp2_with fail
   go_roundg j
   case measure=>omega
   case rel=>exact ⟨i+1,by go_num,by omega,rfl⟩
theorem putTable_ok (w:World) (b:Nat) (F bs:List Nat) (lens:List Nat) (A:Option Addr) (cap:Nat) (h:IsWr w b F bs) (hf:FullL lens) (hc:Cells i64 w A lens) (hA:Apt A lens F) (hbs:bs.length<137438953472) :
  Calls Tryz.prog 169 #[.pointer (some ⟨b,0,none⟩),.slice A lens.length cap] w fun e w'=>e=.returned (.int .i64 0)/\∃ F',IsWr w' b F' (bs++tableBits lens)/\Grow F F' w w':=by
 have ar:=full_yes lens A cap w hf hc
 have aN:=hf.n1
 have aU:=hf.n2
 have aD:=hf.le
 have an:=tableBits_eq lens
 obtain ⟨n,hn⟩:=zX (lens.length)
 rw [<-hn] at ar aN aU an ⊢
 rw [an]
 have HN:=hid hn
 have HA:=hid hA
 have aM:=hid aD
 have al:=fun i=>zr_le 66 (lens.drop i)
 have az:=fun i=>zr_len 66 (lens.drop i)
 have aB:=fun i=>zr_zero 66 (lens.drop i)
 have aG:=fun i=>zr_stop 66 (lens.drop i)
 have aw:=hid al
 have aP:=hid az
 have aH:=hid aB
 have aT:=hid aG
 clear hn hA an aD hf al az aB aG
 have k1:IntKind.u64.wrap ((n:Int)-1)=((n-1:Nat):Int):=by
  have e:((n-1:Nat):Int)=(n:Int)-1:=by omega
  rw [e]
  exact IntWalk.u64_in _ (by omega)
 go_enter Tryz.func169,Tryz.ntmps169
 go_wp2_with fail
 refine ar.mono ?_
 rintro e w' ⟨rfl,rfl⟩
 go_wp2_with fail
 refine (wput_ok w b F bs (n-1) 10 h (by omega) (by omega) (by omega)).mono ?_
 rintro e w1 ⟨rfl,F1,ah,ai⟩
 clear h ar
 go_wp2_with fail
 go_loopg [5,6] n (fun k vi' vz wr=>∃ (i:Nat) (F' ag:List Nat),vi'=.int .i64 i/\i<=n/\n<=i+k/\IsWr wr b F' ag/\Hid (ag++bodyFrom lens i=bs++(bitsOf (n-1) 10++bodyFrom lens 0))/\ag.length<=bs.length+10+11*i/\Grow F F' w wr)
 case atStart=>exact ⟨0,F1,_,rfl,by omega,by omega,ah,hid (by rw [zH]),by rw [zC,bitsOf_len];omega,ai⟩
 case round =>
  clear ah ai
  obtain ⟨wk,rfl⟩:=zX (wr)
  obtain ⟨i,F',ag,rfl,aA,aY,ao,Hb,a0,am⟩:=hrel
  by_cases hend:n<=i
  ·obtain rfl:i=n:=by omega
   go_wp2
   go_ret
   refine ⟨rfl,F',?_,am⟩
   have h5:=Hb.out
   have e:=bodyFrom_end lens
   rw [<-HN.out] at e
   rw [e,List.append_nil] at h5
   rw [<-h5]
   exact ao
  ·rcases gk with _ | ko
   ·omega
   ·have hi:i<n:=by omega
    obtain ⟨Z,hZ⟩:=zX (zr 66 (lens.drop i))
    have z1:=aw.out i
    have z2:=aP.out i
    have z3:=aH.out i
    have z4:=aT.out i
    rw [<-hZ] at z1 z2 z3 z4
    rw [zO,<-HN.out] at z2 z4
    have au:∀ z,(lens.drop i).getD z 0=lenAt lens (i+z):=fun z=>by
     unfold lenAt
     rw [zD,List.getElem?_drop,<-zD]
    have ac:0<lens.length:=by rw [<-HN.out];omega
    obtain ⟨gt,ot,rfl,aW,aE⟩:=(hc.keep HA.out am.chg).ex ac
    have ad:∀ s,s<n->wk.cell? ⟨gt,ot+s,none⟩=some (.int .i64 (lenAt lens s:Int)):=fun s hs=>by
     have:=aE s (lenAt lens s) (by unfold lenAt;rw [zD,zF (by rw [<-HN.out];exact hs)];rfl)
     exact this
    have ab:=bodyFrom_one (lens:=lens) (i:=i) (by rw [<-HN.out];exact hi)
    have aa:=bodyFrom_many (lens:=lens) (i:=i) (by rw [<-HN.out];exact hi)
    rw [<-hZ] at ab aa
    have aO:lenAt lens i<=24:=by
     unfold lenAt
     rw [zD,zF (by rw [<-HN.out];exact hi)]
     exact aM.out _ (zG _)
    have HC:=hid ad
    have HZ:=hid hZ
    have Z3:Hid (∀ z,z<Z->lenAt lens (i+z)=0):=hid fun z hz=>by rw [<-au];exact z3 z hz
    have Z4:Hid (Z=66\/Z=n-i\/lenAt lens (i+Z)≠0):=hid (by rw [<-au];exact z4)
    have av:=hid ab
    have ak:=hid aa
    have a2:=hid aA
    clear ad hZ z3 z4 au aE ab aa ac hend aA
    go_wp2_with fail
    go_loopg [6] Z (fun k vz wz=>∃ z:Nat,vz=.int .i64 z/\z+k=Z/\wz=wk)
    case atStart=>exact ⟨0,rfl,by omega,rfl⟩
    case round =>
     obtain ⟨z,rfl,aX,aF⟩:=hrel
     obtain rfl:=aF.symm
     clear aF
     rcases gk with _ | j
     ·obtain rfl:z=Z:=by omega
      go_upto_region 7 with fail
      go_cut [38] from 20 to 40 (fun s38 wx=>s38=.bool false/\wx=wk)
      case first =>
       by_cases q1:z=66
       ·have t1:decide ((z:Int)<66)=false:=zA (by omega)
        clear q1
        go_wp2
        go_meet
        case rel=>exact ⟨rfl,rfl⟩
       ·have t1:decide ((z:Int)<66)=true:=zB (by omega)
        by_cases q2:i+z<n
        ·have aS:lenAt lens (i+z)≠0:=by
          rcases Z4.out with h | h | h
          ·omega
          ·omega
          ·exact h
         have cz:=HC.out (i+z) q2
         obtain ⟨q,hq⟩:=zX (i+z)
         rw [<-hq] at cz q2 aS
         have aQ:(i:Int)+(z:Int)=(q:Int):=by omega
         have t2:decide ((q:Int)<(n:Int))=true:=zB (by omega)
         have t3:((lenAt lens q:Int)==0)=false:=by rw [beq_eq_false_iff_ne];omega
         have ay:(0:Int)<=(q:Int):=by omega
         generalize lenAt lens q=L at *
         clear hq q1
         go_wp2
         go_meet
         case rel=>exact ⟨rfl,rfl⟩
        ·have t2:decide ((i:Int)+(z:Int)<(n:Int))=false:=zA (by omega)
         clear q1
         go_wp2
         go_meet
         case rel=>exact ⟨rfl,rfl⟩
      case rest =>
       obtain ⟨rfl,h9⟩:=hcut
       obtain rfl:=h9.symm
       clear h9
       by_cases hz3:z<3
       ·have t1:decide ((z:Int)<3)=true:=zB (by omega)
        have ab:=av.out hz3
        have ci:=HC.out i hi
        have aj:lenAt lens i<2^5:=by omega
        have aR:lenAt lens i<32:=by omega
        generalize lenAt lens i=x at *
        have ay:(0:Int)<=(i:Int):=by omega
        have aV:(i:Int)<(n:Int):=by omega
        have HO:=hid ab
        have HX:=hid aj
        clear ab hz3 aj
        go_wp2_with fail
        refine (wput_ok wk b F' ag x 5 ao (by omega) HX.out (by omega)).mono ?_
        rintro e w5 ⟨rfl,F5,af,ae⟩
        go_wp2_with fail
        go_roundg ko
        case measure=>omega
        case rel =>
         refine ⟨i+1,F5,_,by go_num,by omega,by omega,af,hid ?_,?_,am.trans ae⟩
         ·rw [<-Hb.out,HO.out,zH]
         ·rw [zC,bitsOf_len];omega
       ·have t1:decide ((z:Int)<3)=false:=zA (by omega)
        have aa:=ak.out hz3
        obtain ⟨y,hy⟩:=zX (z-3)
        rw [<-hy] at aa
        have aZ:(z:Int)-3=(y:Int):=by omega
        have a1:IntKind.u64.wrap (y:Int)=(y:Int):=IntWalk.u64_in _ (by omega)
        have aC:y<2^6:=by omega
        have HO:=hid aa
        have HY:=hid aC
        have aK:y<=63:=by omega
        have aL:3<=z:=by omega
        have aJ:i+z<=n:=by omega
        clear aa hz3 aC hy
        go_wp2_with fail
        refine (wput_ok wk b F' ag 31 5 ao (by omega) (by omega) (by omega)).mono ?_
        rintro e w5 ⟨rfl,F5,af,ae⟩
        go_wp2_with fail
        refine (wput_ok w5 b F5 _ y 6 af (by omega) HY.out (by rw [zC,bitsOf_len];omega)).mono ?_
        rintro e w6 ⟨rfl,F6,ap,aq⟩
        go_wp2_with fail
        go_roundg ko
        case measure=>omega
        case rel =>
         refine ⟨i+z,F6,_,by go_num,by omega,by omega,ap,hid ?_,?_,(am.trans ae).trans aq⟩
         ·rw [<-Hb.out,HO.out];simp only [zH]
         ·rw [zC,zC,bitsOf_len,bitsOf_len];omega
     ·have aI:z<Z:=by omega
      have t1:decide ((z:Int)<66)=true:=zB (by omega)
      have ax:i+z<n:=by omega
      have cz:=HC.out (i+z) ax
      rw [Z3.out z aI] at cz
      obtain ⟨q,hq⟩:=zX (i+z)
      rw [<-hq] at cz ax
      have aQ:(i:Int)+(z:Int)=(q:Int):=by omega
      have t2:decide ((q:Int)<(n:Int))=true:=zB (by omega)
      have ay:(0:Int)<=(q:Int):=by omega
      clear hq
      go_wp2_with fail
      go_roundg j
      case measure=>omega
      case rel=>exact ⟨z+1,by go_num,by omega,rfl⟩
theorem maxOf_nat (ns:List Nat) (h:ns≠[]):Lib.maxOf (ns.map Int.ofNat)=((maxN ns:Nat):Int):=by
 have aa:∀ (l:List Nat) (a:Nat),(l.map Int.ofNat).foldl max (a:Int)=((l.foldl max a:Nat):Int):=by
  intro l
  induction l with
  | nil=>intro a;rfl
  | cons x l ih =>
   intro a
   have e:max (a:Int) (Int.ofNat x)=((max a x:Nat):Int):=by
    show max (a:Int) (x:Int)=_
    omega
   simp only [List.map_cons,List.foldl_cons]
   rw [e,ih]
 cases ns with
 | nil=>exact absurd rfl h
 | cons x l =>
  unfold Lib.maxOf maxN
  show ((x::l).map Int.ofNat).foldl max (x:Int)=_
  rw [aa]
  simp
def freqL (f:List Nat):List Nat:=(List.range (maxN f+1)).map fun v=>f.count v
def freqTo (m:Nat) (f:List Nat):List Nat:=(List.range m).map fun v=>f.count v
theorem freqTo_len (m:Nat) (f:List Nat):(freqTo m f).length=m:=by simp [freqTo]
theorem freqTo_nil (m:Nat):freqTo m []=List.replicate m 0:=by
 apply List.ext_getElem
 ·simp [freqTo]
 ·intro i h1 h2;simp [freqTo]
theorem freqTo_at {m v:Nat} (f:List Nat) (h:v<m):(freqTo m f)[v]?=some (f.count v):=by simp [freqTo,h]
theorem freqTo_snoc {m x:Nat} (f:List Nat) (h:x<m):freqTo m (f++[x])=(freqTo m f).set x (f.count x+1):=by
 apply List.ext_getElem?
 intro i
 rw [List.getElem?_set,freqTo_len]
 by_cases hi:i<m
 ·rw [freqTo_at _ hi]
  by_cases e:x=i
  ·subst e
   rw [if_pos rfl,if_pos h,List.count_append]
   simp
  ·rw [if_neg e,freqTo_at _ hi,List.count_append]
   have:List.count i [x]=0:=by
    rw [List.count_eq_zero]
    simp
    omega
   rw [this];rfl
 ·have e1:(freqTo m (f++[x]))[i]?=none:=List.getElem?_eq_none (by rw [freqTo_len];omega)
  rw [e1]
  by_cases e:x=i
  ·omega
  ·rw [if_neg e]
   exact (List.getElem?_eq_none (by rw [freqTo_len];omega)).symm
theorem freqL_len (f:List Nat):(freqL f).length=maxN f+1:=by simp [freqL]
theorem freqL_getD {f:List Nat} {v:Nat} (h:v<=maxN f):(freqL f).getD v 0=f.count v:=by
 simp [freqL,zD,show v<maxN f+1 by omega]
theorem freqL_le (f:List Nat):∀ x∈freqL f,x<=f.length:=by
 intro x hx
 obtain ⟨v,_,rfl⟩:=List.mem_map.1 hx
 exact List.count_le_length
theorem freqL_coins {f:List Nat} (h:f≠[]):0<(coinsTo (freqL f) (freqL f).length).length:=by
 cases f with
 | nil=>exact absurd rfl h
 | cons x l =>
  have hx:x<=maxN (x::l):=maxN_ge (by simp)
  have h1:=coinsOf_to (freqL (x::l)) x (freqL (x::l)).length
  rw [freqL_len,freqL_getD hx,if_pos ⟨by omega,by simp⟩] at h1
  rw [freqL_len]
  have h2:0<coinsOf x (coinsTo (freqL (x::l)) (maxN (x::l)+1)):=by omega
  obtain ⟨w,hw⟩:=coinsOf_pos.1 h2
  exact List.length_pos_of_mem hw
def prefLens (l:List Int) (W d:Nat):List Nat:=lensFn (freqL (foldedN l W d))
def prefBits (l:List Int) (W d:Nat):List Nat:=tableBits (prefLens l W d)++symsBits (prefLens l W d) (foldedN l W d)
theorem foldedL_vi (l:List Int) (W d:Nat):(foldedL l W d).map vi=(foldedN l W d).map i64:=by
 unfold foldedL
 rw [List.map_map]
 rfl
theorem putPrefixed_ok (w:World) (b:Nat) (F bs:List Nat) (l:List Int) (A:Option Addr) (cap W d:Nat) (h:IsWr w b F bs) (hw0:1<=W) (hw1:W<=16) (h0:1<=d) (h1:d<=16) (hl0:0<l.length) (hl:l.length<=256) (hlW:l.length<=64*W) (hs:SmpOk d l) (hc:Cells vi w A l) (hA:Apt A l F) (hmx:maxN (foldedN l W d)<256) (hbs:bs.length<68719476736) :
  Calls Tryz.prog 121 #[.pointer (some ⟨b,0,none⟩),.slice A l.length cap,.int .i64 W,.int .i64 d] w fun e w'=>e=.returned (.tuple #[])/\∃ F',IsWr w' b F' (bs++prefBits l W d)/\Grow F F' w w':=by
 have av:=folded_ok l A cap W d w h0 h1 hw0 (by omega) hlW hs hc (by omega)
 have ar:=foldedN_len l W d
 rw [foldedL_vi] at av
 have bf:prefBits l W d=tableBits (lensFn (freqL (foldedN l W d)))++symsBits (lensFn (freqL (foldedN l W d))) (foldedN l W d):=rfl
 rw [bf]
 obtain ⟨f,hf⟩:=zX (foldedN l W d)
 rw [<-hf] at av ar hmx ⊢
 obtain ⟨n,hn⟩:=zX (l.length)
 rw [<-hn] at av ar hl0 hl ⊢
 obtain ⟨M,hM⟩:=zX (maxN f)
 rw [<-hM] at hmx
 have az:f≠[]:=by intro e;rw [e] at ar;simp at ar;omega
 have a2:∀ x∈f,x<=M:=fun x hx=>by rw [hM];exact maxN_ge hx
 have bq:=run_make1 (P:=Tryz.prog) int_elem rfl .i64 .i64 (M+1) (by omega) (by omega)
 have a1:=h.lt
 have ao:=hid ar
 have a3:=hid a2
 have HM:=hid hM
 have a4:=hid az
 have bb:=hid a1
 clear hf hn hM ar a2 az a1 hs hA hc bf
 go_enter Tryz.func121,Tryz.ntmps121
 go_wp2_with fail
 refine av.mono ?_
 rintro e w1 ⟨fv,fg,rfl,aa,aM,bF⟩
 obtain ⟨fc,rfl,bo,bj,_,_⟩:=aa.open_map
 rw [ao.out] at bo ⊢
 have a7:Cells vi w1 (some ⟨fg,0,none⟩) (f.map Int.ofNat):=by
  have e:f.map i64=(f.map Int.ofNat).map vi:=by rw [List.map_map];rfl
  have h9:=aa
  rw [e] at h9
  exact h9.toOwn.cells
 have be:Cells i64 w1 (some ⟨fg,0,none⟩) f:=aa.toOwn.cells
 have am:(f.map Int.ofNat).length=n:=by rw [zE];exact ao.out
 have ak:=Tryz.slices_Max_int fg 0 n fc (f.map Int.ofNat) w1 hl0 (by rw [am];exact zQ _) (by omega) (Cells.getD_ a7)
 rw [zT (by rw [am];exact zQ _),maxOf_nat f a4.out,<-HM.out] at ak
 have bI:=aM.size
 have bu:=aa.lt
 clear av a7 am
 obtain ⟨M1,aZ⟩:=zX (M+1)
 have bh:(M:Int)+1=(M1:Int):=by omega
 rw [<-aZ] at bq
 go_wp2_with fail
 refine ak.mono ?_
 rintro e w' ⟨rfl,rfl⟩
 obtain ⟨B,hB⟩:=zX (w'.heap.size)
 obtain ⟨w2,aD⟩:=zX (w'.alloc (.cells (Array.replicate M1 (Value.int .i64 0)) 3))
 have aQ:Row w2 3 (.slice (some ⟨B,0,none⟩) M1 M1) B ((freqTo M1 (f.take 0)).map i64):=by
  rw [aD,hB,List.take_zero,freqTo_nil]
  exact Row.zerosN w' M1 (by omega)
 have a5:Chg [] w' w2:=by rw [aD];exact (zR [] w').alloc _
 have aV:=be.same a5
 have aX:=aM.trans_same a5
 have bp:=hid aD
 have HB:=hid hB
 have aR:fg≠B:=by omega
 have bB:=aQ.lt
 have aF:=hid aZ
 have bc:M1<=256:=by omega
 clear ak aD hB aZ aa be aM
 go_wp2_with fail
 rw [<-bp.out,<-HB.out]
 go_loopg [11,24] n (fun j v11 iv wr=>∃ (i:Nat),iv=.int .i64 i/\i+j=n/\Row wr 3 (.slice (some ⟨B,0,none⟩) M1 M1) B ((freqTo M1 (f.take i)).map i64)/\Chg [B] w2 wr)
 case atStart=>exact ⟨0,rfl,by omega,aQ,zR _ _⟩
 case round =>
  clear aQ
  obtain ⟨wk,rfl⟩:=zX (wr)
  obtain ⟨i,rfl,bK,aa,aA⟩:=hrel
  have an:=aV.keep (fun _ ad e hm=>by
   injection e with e
   subst e
   simp at hm
   exact aR hm) aA
  rcases gk with _ | j
  ·obtain rfl:i=n:=by omega
   have a9:freqTo M1 (f.take i)=freqL f:=by
    rw [zT (by rw [ao.out];exact zQ _),aF.out,HM.out];rfl
   rw [a9] at aa
   have a0:Cells i64 wk (some ⟨B,0,none⟩) (freqL f):=aa.toOwn.cells
   have aJ:(freqL f).length=M1:=by rw [freqL_len,<-HM.out,aF.out]
   have aK:=lengths_ok wk (freqL f) (some ⟨B,0,none⟩) M1 (by omega) (by omega) (fun x hx=>by have:=freqL_le f x hx;rw [ao.out] at this;omega) (freqL_coins a4.out) a0
   rw [aJ] at aK
   have aY:Chg [] w wk:=aX.trans aA (fun x hx=>by rw [zU.1 hx];right;have:=HB.out;omega)
   have bx:=h.same aY
   have bn:=hid aJ
   have bG:=aY.size
   have bk:=aA.size
   clear a0 aa a9 aJ h aA
   go_wp2_with fail
   refine aK.mono ?_
   rintro e w3 ⟨lv,lg,rfl,al,aE,aW,bD⟩
   obtain ⟨lc,rfl,bw,bg,_,_⟩:=al.open_map
   have ah:Cells i64 w3 (some ⟨lg,0,none⟩) (lensFn (freqL f)):=al.toOwn.cells
   have aC:∀ s∈f,s<(lensFn (freqL f)).length/\0<lenAt (lensFn (freqL f)) s:=fun s hs=>by
    have br:=a3.out s hs
    have a6:s<(freqL f).length:=by rw [bn.out,aF.out];omega
    refine ⟨by rw [aE.len];exact a6,(aE.used s a6).2 ?_⟩
    rw [freqL_getD (by rw [<-HM.out];exact br)]
    exact List.count_pos_iff.2 hs
   have ab:=aE.full
   have ai:Apt (some ⟨lg,0,none⟩) (lensFn (freqL f)) F:=fun _ ad e hm=>by
    injection e with e
    subst e
    have:=bb.out _ hm
    simp at this
    omega
   have aB:Apt (some ⟨fg,0,none⟩) f F:=fun _ ad e hm=>by
    injection e with e
    subst e
    have:=bb.out _ hm
    simp at this
    omega
   have au:=an.same aW
   have aU:=bx.same aW
   have aO:=aY.trans_same aW
   have ax:=hid aC
   have ac:=hid ab
   have a8:Hid ((lensFn (freqL f)).length<=1024):=hid ab.n2
   obtain ⟨ap,ag⟩:=zX (lensFn (freqL f))
   have ay:=hid ag
   rw [<-ag] at ah ax ac ai bw a8 ⊢
   have bd:=putTable_ok w3 b F bs ap (some ⟨lg,0,none⟩) lc aU ac.out ah ai (by omega)
   clear aK al aE aC ab ag an
   go_wp2_with fail
   refine bd.mono ?_
   rintro e w4 ⟨rfl,F4,aT,ae⟩
   have bm:=tableBits_len ap
   have ba:=pfput_ok w4 b F4 _ ap f (some ⟨lg,0,none⟩) (some ⟨fg,0,none⟩) lc fc aT ac.out (ah.keep ai ae.chg) (ai.grow ah ae) (by rw [ao.out];omega) (au.keep aB ae.chg) (aB.grow au ae) ax.out (by rw [zC];have:=a8.out;omega)
   rw [ao.out] at ba
   clear bd bm
   go_wp2_with fail
   refine ba.mono ?_
   rintro e w5 ⟨rfl,F5,aH,aP⟩
   go_wp2_with fail
   go_end0
   refine ⟨rfl,F5,?_,(Grow.pre aO ae).trans aP⟩
   rw [<-zH,<-ay.out]
   exact aH
  ·have bi:i<n:=by omega
   have aG:i<f.length:=by rw [ao.out];exact bi
   obtain ⟨g9,o9,e9,cl⟩:=nat_at an aG
   injection e9 with e9
   injection e9 with e9 e10 _
   subst e9
   subst e10
   rw [Nat.zero_add] at cl
   have bv:=a3.out f[i] (zG aG)
   have aI:=take_snoc' f aG
   obtain ⟨x,hx⟩:=zX (f[i])
   rw [<-hx] at cl bv aI
   have aL:x<M1:=by have:=aF.out;omega
   have aN:=freqTo_snoc (f.take i) aL
   rw [<-aI] at aN
   have bl:(f.take i).count x<=256:=Nat.le_trans List.count_le_length (by rw [zI];omega)
   obtain ⟨bJ,ee,_,_,aj,aw⟩:=aa.open_map
   have cq:=aj x ((f.take i).count x) (freqTo_at _ aL)
   have fq:=aw x
   have aq:=aa.set_ (i:=x) (by rw [zE,freqTo_len];exact aL) (i64 ((f.take i).count x+1))
   rw [<-List.map_set,<-aN] at aq
   generalize (f.take i).count x=c at *
   have bE:wk.cell? ⟨B,x,none⟩=some (.int .i64 c):=cq
   have af:Row (wk.setCell ⟨B,x,none⟩ (.int .i64 ((c+1:Nat):Int))) 3 (.slice (some ⟨B,0,none⟩) M1 M1) B ((freqTo M1 (f.take (i+1))).map i64):=aq
   have e2:((c+1:Nat):Int)=(c:Int)+1:=by simp
   rw [e2] at af
   have aS:=hid af
   have bz:(0:Int)<=(i:Int):=by omega
   have bA:(i:Int)<(n:Int):=by omega
   have bC:(0:Int)<=(x:Int):=by omega
   have bH:(x:Int)<(M1:Int):=by omega
   clear ee aj aw aq af aN aI hx aG cq e2 aa
   go_wp2_with fail
   go_roundg j
   case measure=>omega
   case rel=>exact ⟨i+1,by go_num,by omega,aS.out,aA.setCell (.inl (by simp)) _⟩
def mayB (k:Nat) (l:List Int) (W d:Nat):Bool :=
 if k=0 then decide ((diffL l).length=1) else if k<=5 then true else if k=6 then decide ((diffL l).length<=16) else if k=7 then decide (maxN (foldedN l W d)<256) else false
structure Tile (w:World) (l:List Int) (A:Option Addr) (W H d:Nat):Prop where
 w0:1<=W
 w1:W<=16
 h0:1<=H
 h1:H<=16
 d0:1<=d
 d1:d<=16
 len:l.length=W*H
 smp:SmpOk d l
 cells:Cells vi w A l
theorem Tile.pos {w:World} {l:List Int} {A:Option Addr} {W H d:Nat} (t:Tile w l A W H d):0<l.length:=by rw [t.len];exact Nat.mul_pos t.w0 t.h0
theorem Tile.le {w:World} {l:List Int} {A:Option Addr} {W H d:Nat} (t:Tile w l A W H d):l.length<=256:=by rw [t.len];exact zL t.w1 t.h1
theorem Tile.leW {w:World} {l:List Int} {A:Option Addr} {W H d:Nat} (t:Tile w l A W H d):l.length<=64*W:=by
 rw [t.len,zY]
 exact Nat.mul_le_mul_right W (Nat.le_trans t.h1 (by decide))
theorem Tile.chg {w w':World} {l:List Int} {A:Option Addr} {W H d:Nat} {F:List Nat} (t:Tile w l A W H d) (hA:Apt A l F) (hc:Chg F w w'):Tile w' l A W H d :=
 { t with cells:=t.cells.keep hA hc }
theorem Tile.same {w w':World} {l:List Int} {A:Option Addr} {W H d:Nat} (t:Tile w l A W H d) (hc:Chg [] w w'):Tile w' l A W H d :=
 { t with cells:=t.cells.same hc }
def MayPost (k:Nat) (w:World) (l:List Int) (W d:Nat) (e:Ending) (w':World):Prop:=e=.returned (.bool (mayB k l W d))/\Chg [] w w'
section
variable {w:World} {l:List Int} {A:Option Addr} {W H d:Nat} (cap:Nat) (t:Tile w l A W H d)
include t
theorem may_plain (k:Nat) (hk0:1<=k) (hk:k<=5):Calls Tryz.prog 86 #[.int .i64 k,.slice A l.length cap,.int .i64 W,.int .i64 H,.int .i64 d] w (MayPost k w l W d):=by
 have aa:=isTile_yes l A cap W H d w t.w0 t.w1 t.h0 t.h1 t.d0 t.d1 t.len t.smp t.cells
 have hm:mayB k l W d=true:=by unfold mayB;rw [if_neg (by omega),if_pos hk]
 unfold MayPost
 rw [hm]
 rcases (by omega:k=1\/k=2\/k=3\/k=4\/k=5) with rfl | rfl | rfl | rfl | rfl
 all_goals
  clear t hm
  go_enter Tryz.func86,Tryz.ntmps86
  go_wp2_with (go_at_call 85;refine aa.mono ?_;rintro e w' ⟨rfl,rfl⟩)
  go_ret
  exact ⟨rfl,zR _ _⟩
theorem may_flat:Calls Tryz.prog 86 #[.int .i64 (0:Nat),.slice A l.length cap,.int .i64 W,.int .i64 H,.int .i64 d] w (MayPost 0 w l W d):=by
 have ac:=isTile_yes l A cap W H d w t.w0 t.w1 t.h0 t.h1 t.d0 t.d1 t.len t.smp t.cells
 have aa:=different_ok l A cap w t.pos (by have:=t.le;omega) t.cells
 have hm:mayB 0 l W d=decide ((diffL l).length=1):=by unfold mayB;rw [if_pos rfl]
 have hb:(((diffL l).length:Int)==1)=decide ((diffL l).length=1):=by
  by_cases h:(diffL l).length=1
  ·rw [h];rfl
  ·rw [zA h,beq_eq_false_iff_ne];omega
 unfold MayPost
 rw [hm]
 generalize (diffL l).length=k at *
 generalize decide (k=1)=bb at *
 clear t hm
 go_enter Tryz.func86,Tryz.ntmps86
 go_wp2_with (first | (go_at_call 85;refine ac.mono ?_;rintro e w' ⟨rfl,rfl⟩) | (go_at_call 110;refine aa.mono ?_;rintro e w2 ⟨g,c,rfl,_,_,_,_,ab⟩))
 go_ret
 exact ⟨rfl,ab⟩
theorem may_coloured:Calls Tryz.prog 86 #[.int .i64 (6:Nat),.slice A l.length cap,.int .i64 W,.int .i64 H,.int .i64 d] w (MayPost 6 w l W d):=by
 have ac:=isTile_yes l A cap W H d w t.w0 t.w1 t.h0 t.h1 t.d0 t.d1 t.len t.smp t.cells
 have aa:=different_ok l A cap w t.pos (by have:=t.le;omega) t.cells
 have hm:mayB 6 l W d=decide ((diffL l).length<=16):=by unfold mayB;rw [if_neg (by omega),if_neg (by omega),if_pos rfl]
 have hb:decide (((diffL l).length:Int)<=16)=decide ((diffL l).length<=16):=by
  by_cases h:(diffL l).length<=16
  ·rw [zB h];exact zB (by omega)
  ·rw [zA h];exact zA (by omega)
 unfold MayPost
 rw [hm]
 generalize (diffL l).length=k at *
 generalize decide (k<=16)=bb at *
 clear t hm
 go_enter Tryz.func86,Tryz.ntmps86
 go_wp2_with (first | (go_at_call 85;refine ac.mono ?_;rintro e w' ⟨rfl,rfl⟩) | (go_at_call 110;refine aa.mono ?_;rintro e w2 ⟨g,c,rfl,_,_,_,_,ab⟩))
 go_ret
 exact ⟨rfl,ab⟩
theorem may_prefixed:Calls Tryz.prog 86 #[.int .i64 (7:Nat),.slice A l.length cap,.int .i64 W,.int .i64 H,.int .i64 d] w (MayPost 7 w l W d):=by
 have ag:=isTile_yes l A cap W H d w t.w0 t.w1 t.h0 t.h1 t.d0 t.d1 t.len t.smp t.cells
 have ae:=folded_ok l A cap W d w t.d0 t.d1 t.w0 (by have:=t.w1;omega) t.leW t.smp t.cells (by have:=t.le;omega)
 have ac:=foldedN_len l W d
 have hp:=t.pos
 have al:=t.le
 rw [foldedL_vi] at ae
 have hm:mayB 7 l W d=decide (maxN (foldedN l W d)<256):=by unfold mayB;rw [if_neg (by omega),if_neg (by omega),if_neg (by omega),if_pos rfl]
 unfold MayPost
 rw [hm]
 obtain ⟨f,hf⟩:=zX (foldedN l W d)
 rw [<-hf] at ae ac ⊢
 have hb:decide (((maxN f:Nat):Int)<256)=decide (maxN f<256):=by
  by_cases h:maxN f<256
  ·rw [zB h];exact zB (by omega)
  ·rw [zA h];exact zA (by omega)
 have af:f≠[]:=by intro e;rw [e] at ac;simp at ac;omega
 have an:=maxOf_nat f af
 generalize maxN f=M at *
 generalize decide (M<256)=bb at *
 obtain ⟨n,hn⟩:=zX (l.length)
 rw [<-hn] at ac ag ae hp al ⊢
 have ai:=hid ac
 clear t hm hf hn ac af
 go_enter Tryz.func86,Tryz.ntmps86
 go_wp2_with (first | (go_at_call 85;refine ag.mono ?_;rintro e w' ⟨rfl,rfl⟩))
 refine ae.mono ?_
 rintro e w1 ⟨fv,fg,rfl,ab,am,ao⟩
 obtain ⟨fc,rfl,aj,ak,_,_⟩:=ab.open_map
 rw [ai.out] at aj ⊢
 have ah:Cells vi w1 (some ⟨fg,0,none⟩) (f.map Int.ofNat):=by
  have e:f.map i64=(f.map Int.ofNat).map vi:=by rw [List.map_map];rfl
  have h9:=ab
  rw [e] at h9
  exact h9.toOwn.cells
 have aa:(f.map Int.ofNat).length=n:=by rw [zE];exact ai.out
 have ad:=Tryz.slices_Max_int fg 0 n fc (f.map Int.ofNat) w1 hp (by rw [aa];exact zQ _) (by omega) (Cells.getD_ ah)
 rw [zT (by rw [aa];exact zQ _),an] at ad
 clear ae ah aa ab
 go_wp2_with fail
 refine ad.mono ?_
 rintro e w' ⟨rfl,rfl⟩
 go_wp2
 go_ret
 exact ⟨rfl,am⟩
theorem may_all (k:Nat) (hk:k<=7):Calls Tryz.prog 86 #[.int .i64 k,.slice A l.length cap,.int .i64 W,.int .i64 H,.int .i64 d] w (MayPost k w l W d):=by
 rcases (by omega:k=0\/(1<=k/\k<=5)\/k=6\/k=7) with rfl | h | rfl | rfl
 ·exact may_flat cap t
 ·exact may_plain cap t k h.1 h.2
 ·exact may_coloured cap t
 ·exact may_prefixed cap t
end
def copyBits (l:List Int) (W d:Nat):List Nat:=matchBits (leastF l (d+1) 12) W d
def kindBits (k:Nat) (l:List Int) (W H d:Nat):List Nat :=
 if k=0 then bitsOf (l.getD 0 0).toNat d else if k=1 then allOf l d else if k=2 then guessedBits l W H d else if k=3 then modelBits l W d (W*H)
 else if k=4 then copyBits l W d else if k=5 then rangedBits l W d else if k=6 then colouredBits l d else prefBits l W d
def tileBits (k:Nat) (l:List Int) (W H d:Nat):List Nat:=bitsOf k 3++kindBits k l W H d
def PutPost (w:World) (b:Nat) (F bs ts:List Nat) (e:Ending) (w':World):Prop:=e=.returned (.int .i64 0)/\∃ F',IsWr w' b F' (bs++ts)/\Grow F F' w w'
section
variable {w:World} {l:List Int} {A:Option Addr} {W H d:Nat} (cap:Nat) (t:Tile w l A W H d) (b:Nat) (F bs:List Nat) (h:IsWr w b F bs) (hA:Apt A l F) (hp:Pts w) (h0F:0∉F) (hbs:bs.length<34359738368)
include t h hA hp h0F hbs
theorem putBy_flat (hm:mayB 0 l W d=true):Calls Tryz.prog 88 #[.pointer (some ⟨b,0,none⟩),.int .i64 (0:Nat),.slice A l.length cap,.int .i64 W,.int .i64 H,.int .i64 d] w (PutPost w b F bs (tileBits 0 l W H d)):=by
 have ac:=may_all cap t 0 (by omega)
 unfold MayPost at ac
 rw [hm] at ac
 unfold PutPost
 have an:∀ X:List Nat,bs++(bitsOf 0 3++X)=bs++bitsOf 0 3++X:=fun X=>(zH _ _ _).symm
 have ab:tileBits 0 l W H d=bitsOf 0 3++bitsOf (l.getD 0 0).toNat d:=rfl
 rw [ab,an]
 have HT:=hid t
 have HA:=hid hA
 have ai:=getD_ok t.smp 0
 have al:=t.pos
 obtain ⟨x,hx⟩:=zX (l.getD 0 0)
 rw [<-hx] at ai ⊢
 have af:x=((x.toNat:Nat):Int):=(Int.toNat_of_nonneg ai.1).symm
 have ad:x.toNat<2^d:=by
  have e2:((2^d:Nat):Int)=(2:Int)^d:=by simp
  omega
 obtain ⟨k,hk⟩:=zX (x.toNat)
 rw [<-hk] at af ad ⊢
 have au:k<65536:=Nat.lt_of_lt_of_le ad (by have:=Nat.pow_le_pow_right (n:=2) (by decide) t.d1;exact this)
 have HX:=hid (And.intro hx af)
 have aq:=hid ad
 have ap:=t.d1
 clear hx ai af ad hk
 clear t hA hm an ab
 go_enter Tryz.func88,Tryz.ntmps88
 go_wp2_with fail
 refine ac.mono ?_
 rintro e w1 ⟨rfl,ao⟩
 go_wp2_with fail
 refine (wput_ok w1 b F bs 0 3 (h.same ao) (by omega) (by omega) (by omega)).mono ?_
 rintro e w2 ⟨rfl,F2,ah,aj⟩
 have aa:=Grow.pre ao aj
 have ar:=HT.out.chg HA.out aa.chg
 have aw:=HA.out.grow HT.out.cells aa
 have av:(bs++bitsOf 0 3).length<68719476736:=by rw [zC,bitsOf_len];omega
 have az:0∉F2:=aa.out hp.lt h0F
 have aA:=hp.chg aa.chg h0F
 obtain ⟨g,o,rfl,cl⟩:=ar.cells.at_ al
 have am:l[0]=(k:Int):=by
  rw [<-HX.out.2,HX.out.1,zD,zF al];rfl
 rw [am] at cl
 have ay:w2.cell? ⟨g,o,none⟩=some (.int .i64 k):=cl
 have ax:(0:Int)<(l.length:Int):=by omega
 have ak:¬ ((l.length:Int)<=0):=by omega
 clear cl am
 go_wp2_with fail
 refine (wput_ok w2 b F2 _ k d ah (by omega) aq.out (by omega)).mono ?_
 rintro e w3 ⟨rfl,F3,ae,ag⟩
 go_wp2_with fail
 go_ret
 exact ⟨rfl,F3,ae,aa.trans ag⟩
theorem putBy_plain (hm:mayB 1 l W d=true):Calls Tryz.prog 88 #[.pointer (some ⟨b,0,none⟩),.int .i64 (1:Nat),.slice A l.length cap,.int .i64 W,.int .i64 H,.int .i64 d] w (PutPost w b F bs (tileBits 1 l W H d)):=by
 have ac:=may_all cap t 1 (by omega)
 unfold MayPost at ac
 rw [hm] at ac
 unfold PutPost
 have ai:∀ X:List Nat,bs++(bitsOf 1 3++X)=bs++bitsOf 1 3++X:=fun X=>(zH _ _ _).symm
 have ab:tileBits 1 l W H d=bitsOf 1 3++allOf l d:=rfl
 rw [ab,ai]
 have HT:=hid t
 have HA:=hid hA
 clear t hA hm ai ab
 go_enter Tryz.func88,Tryz.ntmps88
 go_wp2_with fail
 refine ac.mono ?_
 rintro e w1 ⟨rfl,aj⟩
 go_wp2_with fail
 refine (wput_ok w1 b F bs 1 3 (h.same aj) (by omega) (by omega) (by omega)).mono ?_
 rintro e w2 ⟨rfl,F2,af,ag⟩
 have aa:=Grow.pre aj ag
 have ad:=HT.out.chg HA.out aa.chg
 have ak:=HA.out.grow HT.out.cells aa
 have am:(bs++bitsOf 1 3).length<68719476736:=by rw [zC,bitsOf_len];omega
 have an:0∉F2:=aa.out hp.lt h0F
 have al:=hp.chg aa.chg h0F
 have hc:=putAll_ok w2 b F2 _ l A cap d af ad.d1 (by have:=ad.le;omega) ad.smp ad.cells ak (by omega)
 go_wp2_with fail
 refine hc.mono ?_
 rintro e w3 ⟨rfl,F3,ae,ah⟩
 go_wp2_with fail
 go_ret
 exact ⟨rfl,F3,ae,aa.trans ah⟩
theorem putBy_guessed (hm:mayB 2 l W d=true):Calls Tryz.prog 88 #[.pointer (some ⟨b,0,none⟩),.int .i64 (2:Nat),.slice A l.length cap,.int .i64 W,.int .i64 H,.int .i64 d] w (PutPost w b F bs (tileBits 2 l W H d)):=by
 have ad:=may_all cap t 2 (by omega)
 unfold MayPost at ad
 rw [hm] at ad
 unfold PutPost
 have ai:∀ X:List Nat,bs++(bitsOf 2 3++X)=bs++bitsOf 2 3++X:=fun X=>(zH _ _ _).symm
 have ac:tileBits 2 l W H d=bitsOf 2 3++guessedBits l W H d:=rfl
 rw [ac,ai]
 have HT:=hid t
 have HA:=hid hA
 clear t hA hm ai ac
 go_enter Tryz.func88,Tryz.ntmps88
 go_wp2_with fail
 refine ad.mono ?_
 rintro e w1 ⟨rfl,aj⟩
 go_wp2_with fail
 refine (wput_ok w1 b F bs 2 3 (h.same aj) (by omega) (by omega) (by omega)).mono ?_
 rintro e w2 ⟨rfl,F2,af,ag⟩
 have aa:=Grow.pre aj ag
 have ab:=HT.out.chg HA.out aa.chg
 have ak:=HA.out.grow HT.out.cells aa
 have al:(bs++bitsOf 2 3).length<68719476736:=by rw [zC,bitsOf_len];omega
 have an:0∉F2:=aa.out hp.lt h0F
 have am:=hp.chg aa.chg h0F
 have hc:=putGuessed_ok w2 b F2 _ l A cap W H d af ab.w0 ab.w1 ab.h0 ab.h1 ab.d0 ab.d1 ab.len ab.smp ab.cells ak al
 go_wp2_with fail
 refine hc.mono ?_
 rintro e w3 ⟨rfl,F3,ae,ah⟩
 go_wp2_with fail
 go_ret
 exact ⟨rfl,F3,ae,aa.trans ah⟩
theorem putBy_modelled (hm:mayB 3 l W d=true):Calls Tryz.prog 88 #[.pointer (some ⟨b,0,none⟩),.int .i64 (3:Nat),.slice A l.length cap,.int .i64 W,.int .i64 H,.int .i64 d] w (PutPost w b F bs (tileBits 3 l W H d)):=by
 have ad:=may_all cap t 3 (by omega)
 unfold MayPost at ad
 rw [hm] at ad
 unfold PutPost
 have ai:∀ X:List Nat,bs++(bitsOf 3 3++X)=bs++bitsOf 3 3++X:=fun X=>(zH _ _ _).symm
 have ac:tileBits 3 l W H d=bitsOf 3 3++modelBits l W d (W*H):=rfl
 rw [ac,ai]
 have HT:=hid t
 have HA:=hid hA
 clear t hA hm ai ac
 go_enter Tryz.func88,Tryz.ntmps88
 go_wp2_with fail
 refine ad.mono ?_
 rintro e w1 ⟨rfl,aj⟩
 go_wp2_with fail
 refine (wput_ok w1 b F bs 3 3 (h.same aj) (by omega) (by omega) (by omega)).mono ?_
 rintro e w2 ⟨rfl,F2,af,ag⟩
 have aa:=Grow.pre aj ag
 have ab:=HT.out.chg HA.out aa.chg
 have ak:=HA.out.grow HT.out.cells aa
 have am:(bs++bitsOf 3 3).length<68719476736:=by rw [zC,bitsOf_len];omega
 have an:0∉F2:=aa.out hp.lt h0F
 have al:=hp.chg aa.chg h0F
 have hc:=mput_ok w2 b F2 _ l A cap W H d af ab.w0 (by have:=ab.w1;omega) ab.h0 (by have:=ab.h1;omega) ab.d0 ab.d1 ab.len ab.smp ab.cells ak (by omega)
 go_wp2_with fail
 refine hc.mono ?_
 rintro e w3 ⟨rfl,F3,ae,ah⟩
 go_wp2_with fail
 go_ret
 exact ⟨rfl,F3,ae,aa.trans ah⟩
theorem putBy_copied (hm:mayB 4 l W d=true):Calls Tryz.prog 88 #[.pointer (some ⟨b,0,none⟩),.int .i64 (4:Nat),.slice A l.length cap,.int .i64 W,.int .i64 H,.int .i64 d] w (PutPost w b F bs (tileBits 4 l W H d)):=by
 have ae:=may_all cap t 4 (by omega)
 unfold MayPost at ae
 rw [hm] at ae
 unfold PutPost
 have ar:∀ X:List Nat,bs++(bitsOf 4 3++X)=bs++bitsOf 4 3++X:=fun X=>(zH _ _ _).symm
 have ab:tileBits 4 l W H d=bitsOf 4 3++copyBits l W d:=rfl
 rw [ab,ar]
 have HT:=hid t
 have HA:=hid hA
 have aq:copyBits l W d=matchBits (leastF l (d+1) 12) W d:=rfl
 rw [aq]
 have ax:=t.d1
 clear aq
 clear t hA hm ar ab
 go_enter Tryz.func88,Tryz.ntmps88
 go_wp2_with fail
 refine ae.mono ?_
 rintro e w1 ⟨rfl,au⟩
 go_wp2_with fail
 refine (wput_ok w1 b F bs 4 3 (h.same au) (by omega) (by omega) (by omega)).mono ?_
 rintro e w2 ⟨rfl,F2,ah,ao⟩
 have aa:=Grow.pre au ao
 have ac:=HT.out.chg HA.out aa.chg
 have aE:=HA.out.grow HT.out.cells aa
 have aD:(bs++bitsOf 4 3).length<68719476736:=by rw [zC,bitsOf_len];omega
 have aA:0∉F2:=aa.out hp.lt h0F
 have aB:=hp.chg aa.chg h0F
 have ai:=least_ok l A cap (d+1) 12 w2 (by have:=ac.le;omega) ac.cells (by omega) (by omega) (by omega) (by omega)
 have ay:=leastF_len l (d+1) 12
 have ak:=leastF_tok ac.smp (d+1) 12
 have e1:((d+1:Nat):Int)=(d:Int)+1:=by simp
 rw [e1] at ai
 obtain ⟨T,hT⟩:=zX (leastF l (d+1) 12)
 rw [<-hT] at ai ay ak
 have aC:=hid hT
 have az:=hid ak
 clear hT
 have al:=hid ah.lt
 clear ak e1
 go_wp2_with fail
 refine ai.mono ?_
 rintro e w4 ⟨A',an,rfl,av,am,ap⟩
 have aw:=mtput_ok w4 b F2 _ T A' an W d (ah.same am) (aB.same am) aA ac.w0 (by have:=ac.w1;omega) ac.d0 ac.d1 (by have:=ac.le;omega) az.out av (fun ad e hm=>by have:=ap ad e;have:=al.out _ hm;omega) (by omega)
 clear ai
 go_wp2_with fail
 refine aw.mono ?_
 rintro e w3 ⟨rfl,F3,af,ag⟩
 have aj:=Grow.pre am ag
 rw [aC.out] at af
 go_wp2_with fail
 go_ret
 exact ⟨rfl,F3,af,aa.trans aj⟩
theorem putBy_ranged (hm:mayB 5 l W d=true):Calls Tryz.prog 88 #[.pointer (some ⟨b,0,none⟩),.int .i64 (5:Nat),.slice A l.length cap,.int .i64 W,.int .i64 H,.int .i64 d] w (PutPost w b F bs (tileBits 5 l W H d)):=by
 have ad:=may_all cap t 5 (by omega)
 unfold MayPost at ad
 rw [hm] at ad
 unfold PutPost
 have ai:∀ X:List Nat,bs++(bitsOf 5 3++X)=bs++bitsOf 5 3++X:=fun X=>(zH _ _ _).symm
 have ab:tileBits 5 l W H d=bitsOf 5 3++rangedBits l W d:=rfl
 rw [ab,ai]
 have HT:=hid t
 have HA:=hid hA
 clear t hA hm ai ab
 go_enter Tryz.func88,Tryz.ntmps88
 go_wp2_with fail
 refine ad.mono ?_
 rintro e w1 ⟨rfl,aj⟩
 go_wp2_with fail
 refine (wput_ok w1 b F bs 5 3 (h.same aj) (by omega) (by omega) (by omega)).mono ?_
 rintro e w2 ⟨rfl,F2,af,ag⟩
 have aa:=Grow.pre aj ag
 have ac:=HT.out.chg HA.out aa.chg
 have ak:=HA.out.grow HT.out.cells aa
 have al:(bs++bitsOf 5 3).length<68719476736:=by rw [zC,bitsOf_len];omega
 have an:0∉F2:=aa.out hp.lt h0F
 have am:=hp.chg aa.chg h0F
 have hc:=putRanged_ok w2 b F2 _ l A cap W d af ac.w0 ac.w1 ac.d0 ac.d1 ac.le ac.leW ac.smp ac.cells ak al
 go_wp2_with fail
 refine hc.mono ?_
 rintro e w3 ⟨rfl,F3,ae,ah⟩
 go_wp2_with fail
 go_ret
 exact ⟨rfl,F3,ae,aa.trans ah⟩
theorem putBy_coloured (hm:mayB 6 l W d=true):Calls Tryz.prog 88 #[.pointer (some ⟨b,0,none⟩),.int .i64 (6:Nat),.slice A l.length cap,.int .i64 W,.int .i64 H,.int .i64 d] w (PutPost w b F bs (tileBits 6 l W H d)):=by
 have ac:=may_all cap t 6 (by omega)
 unfold MayPost at ac
 rw [hm] at ac
 have ae:(diffL l).length<=16:=by
  unfold mayB at hm
  rw [if_neg (by omega),if_neg (by omega),if_pos rfl] at hm
  exact of_decide_eq_true hm
 unfold PutPost
 have aj:∀ X:List Nat,bs++(bitsOf 6 3++X)=bs++bitsOf 6 3++X:=fun X=>(zH _ _ _).symm
 have ab:tileBits 6 l W H d=bitsOf 6 3++colouredBits l d:=rfl
 rw [ab,aj]
 have HT:=hid t
 have HA:=hid hA
 have HK:=hid ae
 clear ae
 clear t hA hm aj ab
 go_enter Tryz.func88,Tryz.ntmps88
 go_wp2_with fail
 refine ac.mono ?_
 rintro e w1 ⟨rfl,ak⟩
 go_wp2_with fail
 refine (wput_ok w1 b F bs 6 3 (h.same ak) (by omega) (by omega) (by omega)).mono ?_
 rintro e w2 ⟨rfl,F2,ag,ah⟩
 have aa:=Grow.pre ak ah
 have ad:=HT.out.chg HA.out aa.chg
 have al:=HA.out.grow HT.out.cells aa
 have am:(bs++bitsOf 6 3).length<68719476736:=by rw [zC,bitsOf_len];omega
 have ao:0∉F2:=aa.out hp.lt h0F
 have an:=hp.chg aa.chg h0F
 have hc:=putColoured_ok w2 b F2 _ l A cap d ag ad.d0 ad.d1 ad.pos ad.le ad.smp ad.cells al HK.out am
 go_wp2_with fail
 refine hc.mono ?_
 rintro e w3 ⟨rfl,F3,af,ai⟩
 go_wp2_with fail
 go_ret
 exact ⟨rfl,F3,af,aa.trans ai⟩
theorem putBy_prefixed (hm:mayB 7 l W d=true):Calls Tryz.prog 88 #[.pointer (some ⟨b,0,none⟩),.int .i64 (7:Nat),.slice A l.length cap,.int .i64 W,.int .i64 H,.int .i64 d] w (PutPost w b F bs (tileBits 7 l W H d)):=by
 have ae:=may_all cap t 7 (by omega)
 unfold MayPost at ae
 rw [hm] at ae
 have ad:maxN (foldedN l W d)<256:=by
  unfold mayB at hm
  rw [if_neg (by omega),if_neg (by omega),if_neg (by omega),if_pos rfl] at hm
  exact of_decide_eq_true hm
 unfold PutPost
 have aj:∀ X:List Nat,bs++(bitsOf 7 3++X)=bs++bitsOf 7 3++X:=fun X=>(zH _ _ _).symm
 have ac:tileBits 7 l W H d=bitsOf 7 3++prefBits l W d:=rfl
 rw [ac,aj]
 have HT:=hid t
 have HA:=hid hA
 have HK:=hid ad
 clear ad
 clear t hA hm aj ac
 go_enter Tryz.func88,Tryz.ntmps88
 go_wp2_with fail
 refine ae.mono ?_
 rintro e w1 ⟨rfl,ak⟩
 go_wp2_with fail
 refine (wput_ok w1 b F bs 7 3 (h.same ak) (by omega) (by omega) (by omega)).mono ?_
 rintro e w2 ⟨rfl,F2,ag,ah⟩
 have aa:=Grow.pre ak ah
 have ab:=HT.out.chg HA.out aa.chg
 have al:=HA.out.grow HT.out.cells aa
 have am:(bs++bitsOf 7 3).length<68719476736:=by rw [zC,bitsOf_len];omega
 have ao:0∉F2:=aa.out hp.lt h0F
 have an:=hp.chg aa.chg h0F
 have hc:=putPrefixed_ok w2 b F2 _ l A cap W d ag ab.w0 ab.w1 ab.d0 ab.d1 ab.pos ab.le ab.leW ab.smp ab.cells al HK.out am
 go_wp2_with fail
 refine hc.mono ?_
 rintro e w3 ⟨rfl,F3,af,ai⟩
 go_wp2_with fail
 go_ret
 exact ⟨rfl,F3,af,aa.trans ai⟩
theorem putBy_all (k:Nat) (hk:k<=7) (hm:mayB k l W d=true):Calls Tryz.prog 88 #[.pointer (some ⟨b,0,none⟩),.int .i64 k,.slice A l.length cap,.int .i64 W,.int .i64 H,.int .i64 d] w (PutPost w b F bs (tileBits k l W H d)):=by
 rcases (by omega:k=0\/k=1\/k=2\/k=3\/k=4\/k=5\/k=6\/k=7) with rfl | rfl | rfl | rfl | rfl | rfl | rfl | rfl
 ·exact putBy_flat cap t b F bs h hA hp h0F hbs hm
 ·exact putBy_plain cap t b F bs h hA hp h0F hbs hm
 ·exact putBy_guessed cap t b F bs h hA hp h0F hbs hm
 ·exact putBy_modelled cap t b F bs h hA hp h0F hbs hm
 ·exact putBy_copied cap t b F bs h hA hp h0F hbs hm
 ·exact putBy_ranged cap t b F bs h hA hp h0F hbs hm
 ·exact putBy_coloured cap t b F bs h hA hp h0F hbs hm
 ·exact putBy_prefixed cap t b F bs h hA hp h0F hbs hm
end
def costK (k:Nat) (l:List Int) (W H d:Nat):Nat:=(tileBits k l W H d).length
theorem costK_pos (k:Nat) (l:List Int) (W H d:Nat):3<=costK k l W H d:=by
 unfold costK tileBits
 rw [zC,bitsOf_len]
 omega
def pickK (l:List Int) (W H d:Nat):Nat->Nat × Nat
 | 0=>(1,0)
 | m+1=>if mayB m l W d=true/\((pickK l W H d m).2=0\/costK m l W H d<(pickK l W H d m).2) then (m,costK m l W H d) else pickK l W H d m
def bestKind (l:List Int) (W H d:Nat):Nat:=(pickK l W H d 8).1
theorem mayB_one (l:List Int) (W d:Nat):mayB 1 l W d=true:=by unfold mayB;rw [if_neg (by omega),if_pos (by omega)]
theorem pickK_ok (l:List Int) (W H d:Nat):∀ m,((pickK l W H d m).2=0->(pickK l W H d m).1=1/\∀ k,k<m->mayB k l W d=false)/\((pickK l W H d m).2≠0->(pickK l W H d m).1<m/\mayB (pickK l W H d m).1 l W d=true/\(pickK l W H d m).2=costK (pickK l W H d m).1 l W H d/\∀ k,k<m->mayB k l W d=true->(pickK l W H d m).2<=costK k l W H d)
 | 0=>⟨fun _=>⟨rfl,fun k h=>by omega⟩,fun h=>absurd rfl h⟩
 | m+1=>by
  obtain ⟨h1,h2⟩:=pickK_ok l W H d m
  have hp:=costK_pos m l W H d
  unfold pickK
  generalize pickK l W H d m=s at *
  by_cases hc:mayB m l W d=true/\(s.2=0\/costK m l W H d<s.2)
  ·rw [if_pos hc]
   refine ⟨fun h=>by simp only at h;omega,fun _=>⟨by simp only;omega,hc.1,rfl,fun k hk hm => ?_⟩⟩
   simp only
   by_cases e:k=m
   ·rw [e];exact zQ _
   ·rcases hc.2 with h3 | h3
    ·have:=(h1 h3).2 k (by omega)
     rw [hm] at this
     cases this
    ·have:=(h2 (by omega)).2.2.2 k (by omega) hm
     omega
  ·rw [if_neg hc]
   refine ⟨fun h=>⟨(h1 h).1,fun k hk => ?_⟩,fun h => ?_⟩
   ·by_cases e:k=m
    ·subst e
     cases hm:mayB k l W d with
     | false=>rfl
     | true=>exact absurd ⟨hm,.inl h⟩ hc
    ·exact (h1 h).2 k (by omega)
   ·obtain ⟨k1,k2,k3,k4⟩:=h2 h
    refine ⟨by omega,k2,k3,fun k hk hm => ?_⟩
    by_cases e:k=m
    ·subst e
     have:¬ costK k l W H d<s.2:=fun h5=>hc ⟨hm,.inr h5⟩
     omega
    ·exact k4 k (by omega) hm
theorem bestKind_ok (l:List Int) (W H d:Nat):bestKind l W H d<=7/\mayB (bestKind l W H d) l W d=true/\∀ k,k<=7->mayB k l W d=true->costK (bestKind l W H d) l W H d<=costK k l W H d:=by
 obtain ⟨h1,h2⟩:=pickK_ok l W H d 8
 have aa:(pickK l W H d 8).2≠0:=fun h=>by
  have:=(h1 h).2 1 (by omega)
  rw [mayB_one] at this
  cases this
 obtain ⟨k1,k2,k3,k4⟩:=h2 aa
 unfold bestKind
 exact ⟨by omega,k2,fun k hk hm=>by rw [<-k3];exact k4 k (by omega) hm⟩
section
variable {w:World} {l:List Int} {A:Option Addr} {W H d:Nat} (cap:Nat) (t:Tile w l A W H d) (hp:Pts w)
include t hp
theorem cost_ok (k:Nat) (hk:k<=7) (hm:mayB k l W d=true):Calls Tryz.prog 87 #[.int .i64 k,.slice A l.length cap,.int .i64 W,.int .i64 H,.int .i64 d] w fun e w'=>e=.returned (.int .i64 (costK k l W H d))/\Chg [] w w':=by
 obtain ⟨w1,aa⟩:=zX (w.alloc (.cells #[.slice none 0 0,.int .i64 0] 89))
 obtain ⟨B,hB⟩:=zX (w.heap.size)
 have af:IsWr w1 B [B] []:=by rw [aa,hB];exact IsWr.new w
 have ad:Chg [] w w1:=by rw [aa];exact (zR [] w).alloc _
 have aj:=hp.lt
 have ag:Apt A l [B]:=Apt.fresh t.cells (F:=[B]) (by rw [hB];simp)
 have ae:=putBy_all cap (t.same ad) B [B] [] af ag (hp.same ad) (by simp;omega) (by simp) k hk hm
 have ah:costK k l W H d=(tileBits k l W H d).length:=rfl
 rw [ah]
 unfold PutPost at ae
 rw [List.nil_append] at ae
 generalize tileBits k l W H d=ts at *
 have HB:Hid (∀ x∈[B],w.heap.size<=x):=hid (by intro x hx;rw [zU.1 hx,hB];exact zQ _)
 have al:=hid aa
 have ak:=hid hB
 clear t hp hm hk aa hB af ag ah aj
 go_enter Tryz.func87,Tryz.ntmps87
 go_wp2_with fail
 rw [<-al.out,<-ak.out]
 refine ae.mono ?_
 rintro e w2 ⟨rfl,F2,ab,ac⟩
 have ai:=wlen_any w2 B F2 ts ab
 go_wp2_with fail
 refine ai.mono ?_
 rintro e w' ⟨rfl,rfl⟩
 go_wp2
 go_ret
 exact ⟨rfl,ac.fresh HB.out ad⟩
variable (b:Nat) (F bs:List Nat) (h:IsWr w b F bs) (hA:Apt A l F) (h0F:0∉F) (hbs:bs.length<34359738368)
include h hA h0F hbs
theorem tput_ok:Calls Tryz.prog 48 #[.pointer (some ⟨b,0,none⟩),.slice A l.length cap,.int .i64 W,.int .i64 H,.int .i64 d] w (PutPost w b F bs (tileBits (bestKind l W H d) l W H d)):=by
 have ay:=isTile_yes l A cap W H d w t.w0 t.w1 t.h0 t.h1 t.d0 t.d1 t.len t.smp t.cells
 have HT:=hid t
 have HP:=hid hp
 have HH:=hid h
 have HA:=hid hA
 have ad:=fun k (hk:k<=7) w' (hc:Chg [] w w')=>may_all cap (t.same hc) k hk
 have ac:=fun k (hk:k<=7) (hm:mayB k l W d=true) w' (hc:Chg [] w w')=>cost_ok cap (t.same hc) (hp.same hc) k hk hm
 have ab:=bestKind_ok l W H d
 have ae:=fun w' (hc:Chg [] w w')=>putBy_all cap (t.same hc) b F bs (h.same hc) hA (hp.same hc) h0F hbs (bestKind l W H d) ab.1 ab.2.1
 unfold MayPost at ad
 unfold PutPost at ae ⊢
 have aj:bestKind l W H d=(pickK l W H d 8).1:=rfl
 generalize tileBits (bestKind l W H d) l W H d=ts at *
 have HM:=hid ad
 have HC:=hid ac
 have aB:=hid ae
 have aA:=hid aj
 clear ad ac ae ab aj t hp h hA
 go_enter Tryz.func48,Tryz.ntmps48
 go_wp2_with (go_at_call 85;refine ay.mono ?_;rintro e w' ⟨rfl,rfl⟩)
 go_loopg [11,12,13,14,21] 8 (fun j vb vl vk vc iv wr=>∃ (m bk lk:Nat),iv=.int .i64 m/\vb=.int .i64 bk/\vl=.int .i64 lk/\m+j=8/\Hid (pickK l W H d m=(bk,lk))/\Chg [] w wr)
 case atStart=>exact ⟨0,1,0,rfl,rfl,rfl,rfl,hid rfl,zR _ _⟩
 case round =>
  obtain ⟨m,bk,lk,rfl,rfl,rfl,aD,HK,ai⟩:=hrel
  rcases gk with _ | j
  ·obtain rfl:m=8:=by omega
   have aw:=aB.out wr ai
   have aj:=aA.out
   rw [HK.out] at aj
   have al:bestKind l W H d=bk:=aj
   rw [al] at aw
   clear aj al
   go_wp2_with fail
   refine aw.mono ?_
   rintro e w2 ⟨rfl,F2,aq,au⟩
   go_wp2
   go_ret
   exact ⟨rfl,F2,aq,Grow.pre ai au⟩
  ·have av:m<=7:=by omega
   have ak:=HM.out m av wr ai
   have ar:=HC.out m av
   have aa:pickK l W H d (m+1)=if mayB m l W d=true/\((pickK l W H d m).2=0\/costK m l W H d<(pickK l W H d m).2) then (m,costK m l W H d) else pickK l W H d m:=rfl
   rw [HK.out] at aa
   simp only at aa
   have an:=hid aa
   have aC:(0:Int)<=(m:Int):=by omega
   clear aa
   cases hmb:mayB m l W d with
   | false =>
    rw [hmb] at ak
    have ah:Hid (pickK l W H d (m+1)=(bk,lk)):=hid (by rw [an.out,if_neg (by rw [hmb];simp)])
    have ap:=hid hmb
    clear hmb ar
    go_wp2_with fail
    refine ak.mono ?_
    rintro e w1 ⟨rfl,ao⟩
    go_wp2_with fail
    go_roundg j
    case measure=>omega
    case rel=>exact ⟨m+1,bk,lk,by go_num,rfl,rfl,by omega,ah,ai.trans_same ao⟩
   | true =>
    rw [hmb] at ak
    have af:=ar hmb
    obtain ⟨c,hc⟩:=zX (costK m l W H d)
    rw [<-hc] at af
    have am:=hid hc
    have ap:=hid hmb
    clear hmb ar hc
    go_wp2_with fail
    refine ak.mono ?_
    rintro e w1 ⟨rfl,ao⟩
    have ax:=af w1 (ai.trans_same ao)
    clear ak af
    go_wp2_with fail
    refine ax.mono ?_
    rintro e w2 ⟨rfl,az⟩
    have ag:=(ai.trans_same ao).trans_same az
    clear ax
    by_cases hl0:lk=0
    ·have t1:((lk:Int)==0)=true:=by rw [beq_iff_eq];omega
     have ah:Hid (pickK l W H d (m+1)=(m,c)):=hid (by rw [an.out,if_pos ⟨ap.out,.inl hl0⟩,am.out])
     clear hl0
     go_wp2_with fail
     go_roundg j
     case measure=>omega
     case rel=>exact ⟨m+1,m,c,by go_num,rfl,rfl,by omega,ah,ag⟩
    ·have t1:((lk:Int)==0)=false:=by rw [beq_eq_false_iff_ne];omega
     by_cases hlt:c<lk
     ·have t2:decide (c<lk)=true:=zB hlt
      have ah:Hid (pickK l W H d (m+1)=(m,c)):=hid (by rw [an.out,if_pos ⟨ap.out,.inr (by rw [<-am.out];exact hlt)⟩,am.out])
      clear hl0 hlt
      go_wp2_with fail
      go_roundg j
      case measure=>omega
      case rel=>exact ⟨m+1,m,c,by go_num,rfl,rfl,by omega,ah,ag⟩
     ·have t2:decide (c<lk)=false:=zA hlt
      have ah:Hid (pickK l W H d (m+1)=(bk,lk)):=hid (by rw [an.out,if_neg (by rw [<-am.out];intro h;rcases h.2 with h | h<;>omega)])
      clear hl0 hlt
      go_wp2_with fail
      go_roundg j
      case measure=>omega
      case rel=>exact ⟨m+1,bk,lk,by go_num,rfl,rfl,by omega,ah,ag⟩
end
def In64 (x:Int):Prop:=-9223372036854775808<=x/\x<=9223372036854775807
def withinI (x lo hi:Int):Int:=if lo<=x/\x<=hi then x else if x.tmod (hi-lo+1)<0 then lo+(x.tmod (hi-lo+1)+hi-lo+1) else lo+x.tmod (hi-lo+1)
theorem within_in (x:Int) {lo hi:Int} (h:lo<=hi):lo<=withinI x lo hi/\withinI x lo hi<=hi:=by
 unfold withinI
 have h1:=Int.tmod_lt_of_pos x (show 0<hi-lo+1 by omega)
 have h2:=Int.lt_tmod_of_pos x (show 0<hi-lo+1 by omega)
 split
 ·assumption
 ·split<;>omega
theorem within_ok (x lo hi:Int) (w:World) (hx:In64 x) (h0 : -1099511627776<=lo) (h1:lo<=hi) (h2:hi<=1099511627776) :
  Calls Tryz.prog 11 #[.int .i64 x,.int .i64 lo,.int .i64 hi] w fun e w'=>e=.returned (.int .i64 (withinI x lo hi))/\w=w':=by
 obtain ⟨ae,ac⟩:=hx
 by_cases hin:lo<=x/\x<=hi
 ·have t1:decide (lo<=x)=true:=zB hin.1
  have t2:decide (x<=hi)=true:=zB hin.2
  have e:withinI x lo hi=x:=by unfold withinI;rw [if_pos hin]
  rw [e]
  clear hin h0 h1 h2 ae ac e
  go_enter Tryz.func11,Tryz.ntmps11
  go_wp2
  go_ret
  exact ⟨rfl,rfl⟩
 ·have hw:withinI x lo hi=if x.tmod (hi-lo+1)<0 then lo+(x.tmod (hi-lo+1)+hi-lo+1) else lo+x.tmod (hi-lo+1):=by unfold withinI;rw [if_neg hin]
  obtain ⟨m,hm⟩:=zX (hi-lo+1)
  have aa:0<m:=by omega
  rw [<-hm] at hw
  obtain ⟨q,hq⟩:=zX (x.tmod m)
  have af:q<m:=by rw [hq];exact Int.tmod_lt_of_pos x aa
  have ag : -m<q:=by rw [hq];exact Int.lt_tmod_of_pos x aa
  rw [<-hq] at hw
  have e1:hi-lo+1=m:=hm.symm
  have e2:x.tmod m=q:=hq.symm
  have ab:m≠0:=by omega
  rw [hw]
  clear hm hq hw
  have ad:∀ b1 b2,decide (lo<=x)=b1->decide (x<=hi)=b2->(b1&&b2)=false->Calls Tryz.prog 11 #[.int .i64 x,.int .i64 lo,.int .i64 hi] w fun e w'=>e=.returned (.int .i64 (if q<0 then lo+(q+hi-lo+1) else lo+q))/\w=w':=by
   intro b1 b2 t1 t2 hb
   by_cases hneg:q<0
   ·have t3:decide (q<0)=true:=zB hneg
    rw [if_pos hneg]
    cases b1<;>cases b2<;>simp at hb
    all_goals
     clear hin
     go_enter Tryz.func11,Tryz.ntmps11
     go_wp2
     go_ret
     exact ⟨rfl,rfl⟩
   ·have t3:decide (q<0)=false:=zA hneg
    rw [if_neg hneg]
    cases b1<;>cases b2<;>simp at hb
    all_goals
     clear hin
     go_enter Tryz.func11,Tryz.ntmps11
     go_wp2
     go_ret
     exact ⟨rfl,rfl⟩
  refine ad _ _ rfl rfl ?_
  cases h:(decide (lo<=x)&&decide (x<=hi)) with
  | false=>rfl
  | true =>
   rw [Bool.and_eq_true,decide_eq_true_eq,decide_eq_true_eq] at h
   exact absurd h hin
structure IsTp (w:World) (b:Nat) (A:Option Addr) (cap:Nat) (L:List Int) (at_:Nat):Prop where
 blk:Blk w b 82 #[.slice A L.length cap,.int .i64 at_]
 cells:Cells vi w A L
 apt:Apt A L [b]
 in64:∀ x∈L,In64 x
 at_le:at_<=L.length
 len:L.length<=9223372036854775807
theorem IsTp.same {w w':World} {b cap at_:Nat} {A:Option Addr} {L:List Int} (h:IsTp w b A cap L at_) {F:List Nat} (hc:Chg F w w') (hb:b∉F) (hA:Apt A L F):IsTp w' b A cap L at_ :=
 { h with blk:=h.blk.chg hc hb,cells:=h.cells.keep hA hc }
theorem tp_turn {w:World} {b cap at_:Nat} {A:Option Addr} {L:List Int} (h:IsTp w b A cap L at_) (hlt:at_<L.length) (n1 n2:Nat) :
  IsTp (((w.drewN n1).setCell ⟨b,1,none⟩ (.int .i64 ((at_:Int)+1))).drewN n2) b A cap L (at_+1)/\Chg [b] w (((w.drewN n1).setCell ⟨b,1,none⟩ (.int .i64 ((at_:Int)+1))).drewN n2):=by
 have aa:Chg [b] w (((w.drewN n1).setCell ⟨b,1,none⟩ (.int .i64 ((at_:Int)+1))).drewN n2):=(((zR [b] w).drewN n1).setCell (p:=⟨b,1,none⟩) (.inl (by simp)) (.int .i64 ((at_:Int)+1))).drewN n2
 have ab:=((h.blk.drewN n1).set_ 1 (.int .i64 ((at_:Int)+1))).drewN n2
 have e:((at_+1:Nat):Int)=(at_:Int)+1:=by simp
 refine ⟨⟨?_,h.cells.keep h.apt aa,h.apt,h.in64,hlt,h.len⟩,aa⟩
 rw [e]
 simpa using ab
theorem next_tp (w:World) (b cap at_ n:Nat) (A:Option Addr) (L:List Int) (h:IsTp w b A cap L at_) (hn0:1<=n) (hn1:n<=1073741824) :
  Calls Tryz.prog 39 #[.pointer (some ⟨b,0,none⟩),.int .i64 n] w fun e w'=>∃ v at':Nat,e=.returned (.int .i64 v)/\v<n/\IsTp w' b A cap L at'/\Chg [b] w w':=by
 have b0:=h.blk.cell 0
 have b1:=h.blk.cell 1
 simp at b0 b1
 have HH:=hid h
 obtain ⟨m,hm⟩:=zX (L.length)
 rw [<-hm] at b0
 have t2:decide ((n:Int)<1)=false:=zA (by omega)
 by_cases hend:at_=m
 ·have t1:decide ((m:Int)<=(at_:Int))=true:=zB (by omega)
  have aj:decide (m<=at_)=true:=zB (by omega)
  clear h hm hend
  go_enter Tryz.func39,Tryz.ntmps39
  go_wp2
  go_quiet (fail)
  go_wp2
  go_ret
  exact ⟨0,at_,rfl,by omega,HH.out.same ((zR [] w).drewN nq) (by simp) (fun _ _ _=>by simp),(zR [b] w).drewN nq⟩
 ·have ag:at_<m:=by have:=h.at_le;omega
  have ac:at_<L.length:=by rw [<-hm];exact ag
  have t1:decide ((m:Int)<=(at_:Int))=false:=zA (by omega)
  have aj:decide (m<=at_)=false:=zA (by omega)
  obtain ⟨g,o,rfl,cl⟩:=h.cells.at_ ac
  have aa:=h.in64 L[at_] (zG _)
  have aq:g≠b:=by
   have:=h.apt (by omega) _ rfl
   simpa using this
  obtain ⟨x,hx⟩:=zX (L[at_])
  rw [<-hx] at cl aa
  have ae:=fun w=>within_ok x 0 1073741824 w aa (by omega) (by omega) (by omega)
  have ad:=within_in x (show (0:Int)<=1073741824 by omega)
  obtain ⟨y,hy⟩:=zX (withinI x 0 1073741824)
  rw [<-hy] at ae ad
  obtain ⟨k,hk⟩:∃ k:Nat,(k:Int)=y:=⟨y.toNat,Int.toNat_of_nonneg ad.1⟩
  rw [<-hk] at ae ad
  have af:k%n<n:=Nat.mod_lt _ (by omega)
  have hbs:=h.blk.set_ 1 (.int .i64 ((at_:Int)+1))
  have ak:=h.len
  have f1:=h.blk.frozen 1
  have ar:w.cell? ⟨g,o+at_,none⟩=some (.int .i64 x):=cl
  have ai:(k:Int).tmod (n:Int)=((k%n:Nat):Int):=by rw [Int.tmod_eq_emod_of_nonneg (by omega)];simp
  have ah:(n:Int)≠0:=by omega
  obtain ⟨r,hr⟩:=zX (k%n)
  rw [<-hr] at ai af
  have al:=hid af
  have ao:(0:Int)<=(at_:Int):=by omega
  have ap:(at_:Int)<(m:Int):=by omega
  have am:(at_:Int)+1-1=(at_:Int):=by omega
  have HM:=hid hm
  have an:=hid hbs
  clear h hm hend cl hy hk hr af hx hbs
  go_enter Tryz.func39,Tryz.ntmps39
  go_wp2
  go_quiet (fail)
  go_wp2
  go_quiet ((go_at_call 11;exact quiet_eq (ae _)))
  go_wp2
  go_ret
  have e:((at_+1:Nat):Int)=(at_:Int)+1:=by simp
  have ab:at_<L.length:=by rw [<-HM.out];exact ag
  exact ⟨r,at_+1,rfl,al.out,(tp_turn HH.out ab _ _).1,(tp_turn HH.out ab _ _).2⟩
theorem allOf_cons (x:Int) (l:List Int) (n:Nat):allOf (x::l) n=bitsOf x.toNat n++allOf l n:=rfl
theorem allOf_split (l:List Int) (n:Nat) {m:Nat} (hm:m<l.length):allOf (l.drop m) n=bitsOf (l[m]).toNat n++allOf (l.drop (m+1)) n:=by
 rw [List.drop_eq_getElem_cons hm,allOf_cons]
theorem getAll_ok (w:World) (b:Nat) (F ds:List Nat) (p d:Nat) (l:List Int) (h:IsRd w b F ds p) (hd:d<=16) (hs:SmpOk d l) (hl:l.length<=4096) (ha:Ahead ds p (allOf l d)) :
  Calls Tryz.prog 177 #[.pointer (some ⟨b,0,none⟩),.int .i64 l.length,.int .i64 d] w fun e w'=>∃ v g,e=.returned v/\Row w' 3 v g (l.map vi)/\IsRd w' b F ds (p+(allOf l d).length)/\Chg [b] w w'/\w.heap.size<=g:=by
 have HS:=hid hs
 have HA:=hid ha
 have aM:=h.lt b h.mem
 have av:=h.lt
 obtain ⟨n,hn⟩:=zX (l.length)
 rw [<-hn] at hl ⊢
 have aN:=run_make1 (P:=Tryz.prog) int_elem rfl .i64 .i64 n (by omega) (by omega)
 have HN:=hid hn
 have aa:=Row.zeros w n (by omega)
 obtain ⟨B,hB⟩:=zX (w.heap.size)
 have an:Chg [] w (w.alloc (.cells (List.replicate n (Value.int .i64 0)).toArray 3)):=(zR [] w).alloc _
 have af:=h.same an
 have aF:b≠B:=by omega
 have aH:Hid (∀ y∈F,y∉[B]):=hid (fun y hy hm=>by have:=av y hy;simp at hm;omega)
 rw [<-hB] at aa
 have HB:=hid hB
 clear hn hs ha hB h av
 go_enter Tryz.func177,Tryz.ntmps177
 go_wp2_with fail
 rw [<-HB.out]
 go_loopg [13] n (fun j iv wr=>∃ (done:List Int) (p':Nat),iv=.int .i64 done.length/\done.length+j=n/\Hid (done=l.take done.length)/\Row wr 3 (.slice (some ⟨B,0,none⟩) n n) B ((fillL done n).map vi)/\IsRd wr b F ds p'/\Hid (Ahead ds p' (allOf (l.drop done.length) d))/\Hid (p'+(allOf (l.drop done.length) d).length=p+(allOf l d).length)/\Hid (Chg [b] w wr))
 case atStart=>exact ⟨[],p,rfl,by simp,hid (by simp),aa,af,by simpa using HA,hid (by simp),hid (an.mono (by simp))⟩
 case round =>
  clear aa an af
  obtain ⟨done,p',rfl,au,Hd,ae,al,Ha,Hp,ay⟩:=hrel
  obtain ⟨m,hm⟩:=zX (done.length)
  rcases gk with _ | j
  ·rw [<-hm] at au Ha Hp ⊢
   obtain rfl:m=n:=by omega
   have t1:decide ((m:Int)<(m:Int))=false:=by simp
   have HM:=hid hm
   clear hm au
   go_wp2
   go_ret
   have e:done=l:=by rw [Hd.out,<-HM.out,HN.out,zN]
   have e2:l.drop m=[]:=by rw [HN.out,List.drop_length]
   have hp:=Hp.out
   rw [e2] at hp
   rw [fillL_full HM.out.symm,e] at ae
   exact ⟨_,B,rfl,ae,al.cast (by simpa [allOf] using hp),ay.out,by have:=HB.out;omega⟩
  ·have ai:m<l.length:=by rw [<-HN.out];omega
   have ak:=allOf_split l d ai
   have aq:=take_snoc' l ai
   obtain ⟨x,hx⟩:=zX (l[m])
   have ao:=HS.out l[m] (zG _)
   rw [<-hx] at ak ao aq
   obtain ⟨X,hX⟩:∃ X:Nat,X=x.toNat:=⟨_,rfl⟩
   have am:x=(X:Int):=by omega
   have aj:=Ha.out
   rw [<-hm,ak,<-hX] at aj
   have ap:X<2^d:=by
    have e:(2:Int)^d=((2^d:Nat):Int):=by simp
    have:=ao.2
    rw [e,am] at this
    omega
   have aI:X<65536:=Nat.lt_of_lt_of_le ap (show 2^d<=2^16 from Nat.pow_le_pow_right (by decide) hd)
   have ag:=rget_ahead wr b F ds p' d X al (by omega) ap aj.left
   have aA:=hid aj.right
   have aJ:=hid ak
   have aE:=hid aq
   have HX:=hid hX
   have aK:=hid am
   have ar:=hid ae
   have aL:=hid ai
   have HM:=hid hm
   have aB:m+(j+1)=n:=by omega
   rw [<-hm]
   clear ai ak aq hx ao aj ap hX am al ae hm au
   go_wp2_with fail
   refine ag.mono ?_
   rintro e w1 ⟨rfl,az,ax⟩
   have ad:=ar.out.chg ax (by simpa using aF.symm)
   obtain ⟨aC,aG⟩:=ad.fill_cell (by have:=HM.out;omega)
   have ab:=ad.fill (by have:=HM.out;omega) (X:Int)
   rw [<-HM.out] at aC aG ab
   have aD:=hid ab
   have aw:(fillL done n).length=n:=fillL_len (by have:=HM.out;omega)
   clear ag ad ab
   go_wp2
   go_roundg j
   case measure=>omega
   case rel =>
    have ah:Chg [B] w1 (w1.setCell ⟨B,m,none⟩ (.int .i64 X)):=(zR _ _).setCell (.inl (by simp)) _
    have ac:(done++[(X:Int)]).length=m+1:=by rw [zC,List.length_singleton,<-HM.out]
    refine ⟨done++[(X:Int)],p'+d,by rw [ac];go_num,by rw [ac];omega,?_,aD.out,az.chg ah aH.out,?_,?_,?_⟩
    ·rw [ac,aE.out,aK.out]
     have:=Hd.out
     rw [<-HM.out] at this
     rw [<-this]
     exact hid rfl
    ·rw [ac]
     have:=aA.out
     rw [bitsOf_len] at this
     exact hid this
    ·rw [ac]
     have h1:=Hp.out
     have h2:=aJ.out
     rw [<-HM.out,h2,zC,bitsOf_len] at h1
     exact hid (by omega)
    ·exact hid ((ay.out.trans_same ax).trans ah fun y hy => .inr (by have:=HB.out;simp at hy;omega))
theorem diff_const {l:List Int} {v:Int} (hl:0<l.length) (h:∀ x∈l,x=v):(diffL l).length=1:=by
 have h1:∀ x∈diffL l,x=v:=fun x hx=>h x ((mem_diffL l x).1 hx)
 have h2:=diffL_lt l
 have h3:v∈diffL l:=(mem_diffL l v).2 (by
  have:=h _ (zG hl)
  rw [<-this]
  exact zG hl)
 generalize diffL l=D at *
 match D,h1,h2,h3 with
 | [],_,_,h3=>simp at h3
 | [_],_,_,_=>rfl
 | a::b::D,h1,h2,_ =>
  have ha:=h1 a (by simp)
  have hb:=h1 b (by simp)
  have:=(List.pairwise_cons.1 h2).1 b (by simp)
  omega
theorem flat_may {l:List Int} {v:Int} (W d:Nat) (hl:0<l.length) (h:∀ x∈l,x=v):mayB 0 l W d=true:=by
 unfold mayB
 rw [if_pos rfl,zB (diff_const hl h)]
theorem flat_cost (l:List Int) (W H d:Nat):costK 0 l W H d=3+d:=by
 unfold costK tileBits
 rw [zC,bitsOf_len]
 show 3+(bitsOf _ d).length=_
 rw [bitsOf_len]
theorem allOf_cons1 (x:Int) (l:List Int) (n:Nat):allOf (x::l) n=bitsOf x.toNat n++allOf l n:=rfl
theorem all_len (l:List Int) (n:Nat):(allOf l n).length=n*l.length:=by
 induction l with
 | nil=>rfl
 | cons x l ih=>rw [allOf_cons1,zC,bitsOf_len,ih,zK,Nat.mul_add];omega
theorem plain_cost (l:List Int) (W H d:Nat):costK 1 l W H d=3+d*l.length:=by
 unfold costK tileBits
 rw [zC,bitsOf_len]
 show 3+(allOf l d).length=_
 rw [all_len]
theorem maxN_below {l:List Nat} {B:Nat} (h:∀ x∈l,x<=B):maxN l<=B:=by
 unfold maxN
 suffices H:∀ (l:List Nat) (m:Nat),m<=B->(∀ x∈l,x<=B)->l.foldl max m<=B from H l 0 (Nat.zero_le _) h
 intro l
 induction l with
 | nil=>intro m hm _;exact hm
 | cons x l ih=>intro m hm hl;exact ih _ (by have := hl x (by simp);omega) (fun y hy=>hl y (by simp [hy]))
theorem getGuessed_ok (w:World) (b:Nat) (F ds:List Nat) (p:Nat) (l:List Int) (W H d:Nat) (h:IsRd w b F ds p) (hw0:1<=W) (hw1:W<=16) (hh0:1<=H) (hh1:H<=16) (h0:1<=d) (h1:d<=16) (hl:l.length=W*H) (hs:SmpOk d l) (ha:Ahead ds p (guessedBits l W H d)) :
  Calls Tryz.prog 178 #[.pointer (some ⟨b,0,none⟩),.int .i64 W,.int .i64 H,.int .i64 d] w fun e w'=>∃ v g,e=.returned (.tuple #[v,.int .i64 0])/\Row w' 3 v g (l.map vi)/\IsRd w' b F ds (p+(guessedBits l W H d).length)/\Chg [b] w w'/\w.heap.size<=g:=by
 have a6:guessedBits l W H d=allOf (kindsI l W H d) 4++planBits (foreF l W H d) (W*H):=rfl
 rw [a6] at ha ⊢
 rw [zC]
 have bu:=kindsI_vi l W H d
 have aw:=kindsI_len l W H d
 have bg:=kindsI_ok l W H d
 have az:=fun hr=>getAll_ok w b F ds p 4 (kindsI l W H d) hr (by omega) bg (by rw [aw];omega) ha.left
 have aQ:=ha.right
 have aF:=foreF_len l W H d
 have bi:=foreF_wide l W H d h0 h1
 obtain ⟨m,hm⟩:=zX (W*H)
 have bs:1<=m:=by rw [hm];exact Nat.mul_pos hw0 hh0
 have bl:m<=256:=by rw [hm];exact zL hw1 hh1
 have bL:(W:Int)*(H:Int)=(m:Int):=by rw [hm];simp
 have aU:foreF l W H d=(foreL l W H d (bestKinds l W H d)).map fun v=>foldI v d:=rfl
 have aG:=fore_back l W H d (bestKinds l W H d)
 rw [<-aU] at aG
 have bd:=foreL_ok l W H d (bestKinds l W H d)
 have aN:=foreL_len l W H d (bestKinds l W H d)
 have a7:=fun y x (hy:y<H) (hx:x<W)=>foreL_at l d (bestKinds l W H d) hy hx
 have a4:∀ x∈foreF l W H d,foldI x d=x:=fun x hx=>by
  rw [aU] at hx
  obtain ⟨v,_,rfl⟩:=List.mem_map.1 hx
  obtain ⟨r0,r1⟩:=foldI_range v h0
  exact foldI_in h0 r0 r1
 have ap:=fun A AK cap capk w' (hc:Cells vi w' A (foreL l W H d (bestKinds l W H d))) (hk:Cells i64 w' AK (bestKinds l W H d)) =>
  gback_ok l (foreL l W H d (bestKinds l W H d)) (bestKinds l W H d) A AK cap capk W H d w' hw0 (by omega) hh0 (by omega) h0 h1 hl hs aN bd (fun y x hy hx=>a7 y x hy hx) (bestKinds_len l W H d) (bestKinds_ok l W H d) hc hk
 rw [aN,<-hm,bestKinds_len] at ap
 have ao:∀ Ak w,Cells vi w Ak (kindsI l W H d)->Cells i64 w Ak (bestKinds l W H d):=fun Ak w h=>Cells.map (f:=vi) (k:=Int.ofNat) h
 have aO:maxN (bestKinds l W H d)<=9:=maxN_below (fun x hx=>by have:=bestKinds_ok l W H d x hx;omega)
 have av:bestKinds l W H d≠[]:=fun e=>by have:=bestKinds_len l W H d;rw [e] at this;simp at this;omega
 have ae:=maxOf_nat (bestKinds l W H d) av
 have bh:kindsI l W H d=(bestKinds l W H d).map Int.ofNat:=rfl
 rw [<-bh] at ae
 rw [<-hm] at aQ aF ⊢
 have aV:=bestPlan_ok (n:=m) (warm:=0) (most:=4) (by omega) (foreF l W H d)
 have ax:=ksOk_best (n:=m) (foreF l W H d)
 have ar:=ks_len_best (n:=m) (foreF l W H d)
 have ac:=fun w' (hr:IsRd w' b F ds (p+(allOf (kindsI l W H d) 4).length))=>pget_ok w' b F ds (p+(allOf (kindsI l W H d) 4).length) _ m 0 _ (foreF l W H d) hr aV.2.1 bs (by omega) (by omega) aV.1.1 ar ax aF bi aQ
 have bp:planBits (foreF l W H d) m=bitsP (bestPlan m 0 4 (foreF l W H d)).order (bestPlan m 0 4 (foreF l W H d)).ks (splitL (sizesL (bestPlan m 0 4 (foreF l W H d)).order m 0) (foreF l W H d)):=rfl
 rw [<-bp] at ac
 obtain ⟨E,hE⟩:=zX (foreL l W H d (bestKinds l W H d))
 obtain ⟨EF,an⟩:=zX (foreF l W H d)
 rw [<-hE] at aG ap
 rw [<-an] at aG a4 aF ac
 rw [<-an]
 obtain ⟨K,hK⟩:=zX (kindsI l W H d)
 rw [<-hK] at az aw ae ao ac
 rw [<-hK]
 obtain ⟨mx,bc⟩:=zX (maxN (bestKinds l W H d))
 rw [<-bc] at aO ae
 obtain ⟨a1,a8⟩:=zX ((allOf K 4).length)
 obtain ⟨a2,aK⟩:=zX ((planBits EF m).length)
 rw [<-a8] at az ac ⊢
 rw [<-aK] at ac ⊢
 rw [aw] at az
 generalize (bestPlan m 0 4 EF).order=po at ac
 have am:=az h
 rw [show ((4:Nat):Int)=4 from rfl] at am
 have t9:decide ((9:Int)<(mx:Int))=false:=zA (by omega)
 have bN:=h.lt b h.mem
 have a5:=h.lt
 have aS:=hid aw
 have bH:=hid ae
 have bA:=hid ao
 have bD:=hid ac
 have bz:=hid aG
 have br:=hid a4
 have bq:=hid ap
 have aH:=hid aF
 have bC:=hid a5
 clear a6 bu aw bg az ha aQ aF bi hm aU aG bd aN a7 a4 ap ao av bh aV ax ar ac bp hE an hK bc a8 aK ae hs hl h a5
 go_enter Tryz.func178,Tryz.ntmps178
 go_wp2_with fail
 refine am.mono ?_
 rintro e w1 ⟨vk,gk',rfl,aa,aW,bb,bQ⟩
 obtain ⟨ck,rfl,bF,bI,_,_⟩:=aa.open_map
 have aY:Cells vi w1 (some ⟨gk',0,none⟩) K:=aa.toOwn.cells
 have aj:=Tryz.slices_Max_int gk' 0 H ck K w1 (by omega) (by rw [aS.out];exact zQ _) (by omega) (Cells.getD_ aY)
 rw [zT (by rw [aS.out];exact zQ _),bH.out] at aj
 rw [aS.out]
 have bm:=aa.lt
 have ac:=bD.out w1 aW
 rw [show ((0:Nat):Int)=0 from rfl] at ac
 clear am aa
 go_wp2_with (go_at_call 69;refine (err_ok _ b F ds _ aW).mono ?_;rintro e w' ⟨rfl,rfl⟩)
 refine aj.mono ?_
 rintro e w' ⟨rfl,rfl⟩
 clear aj
 go_wp2_with fail
 refine ac.mono ?_
 rintro e w2 ⟨Ap,np,cp,v2,G2,rfl,aA,a0,aT,bj⟩
 have aX:gk'∉[b]:=by simp;omega
 have ay:Cells vi w2 (some ⟨gk',0,none⟩) K:=aY.keep (fun _ ad e=>by injection e with e;subst e;exact aX) aT
 rcases aA.cases with ⟨_,aZ,_⟩ | ⟨g,af,rfl⟩
 ·exfalso
  have:=congrArg List.length aZ
  rw [zE,aH.out] at this
  simp at this
  omega
 obtain ⟨cg,rfl,aP,bx,_,_⟩:=af.open_map
 rw [aH.out] at aP af ⊢
 have bP:=bj g (by simp)
 have ah:=bb.trans_same aT
 have bM:=a0.lt
 obtain ⟨w3,a3⟩:=zX (w2.alloc (.cells #[.int .i64 po,.slice Ap np cp] 188))
 have aM:Chg [] w2 w3:=by rw [a3];exact (zR [] w2).alloc _
 have bJ:=a0.same aM
 have aB:=af.chg aM (by simp)
 have aq:=ay.same aM
 have aR:=ah.trans aM (by simp)
 have bv:g≠gk':=by omega
 have bG:=hid a3
 have al:=fun v w'=>fold_ok v d w' h0 h1
 have ak:=fun v w'=>wrap_ok v d w' h0 h1
 clear aA af a0 aY ay ac a3 ah aT bj aW bb
 go_wp2_with fail
 rw [<-bG.out]
 go_loopg [15,16,42] m (fun j va vb iv wr=>∃ (i:Nat),iv=.int .i64 i/\i+j=m/\Row wr 3 (.slice (some ⟨g,0,none⟩) m cg) g ((mixL (fun v=>wrapI v d) EF i).map vi)/\Chg [g] w3 wr)
 case atStart=>exact ⟨0,rfl,by omega,by rw [mixL_zero];exact aB,zR _ _⟩
 case round =>
  clear aB
  obtain ⟨i,rfl,bS,ab,aL⟩:=hrel
  rcases gk with _ | j
  ·obtain rfl:m=i:=by omega
   have t1:decide (m<m)=false:=by simp
   rw [<-aH.out,mixL_full,bz.out,aH.out] at ab
   have be:Cells vi wr (some ⟨g,0,none⟩) E:=ab.toOwn.cells
   have aE:=bA.out _ _ (aq.chg aL (fun ad e=>by injection e with e;subst e;simp;omega))
   have ap:=bq.out _ _ cg ck wr be aE
   have bE:=bJ.chg aL (fun x hx hm=>by simp at hm;have:=bC.out x hx;omega)
   have aI:=aR.trans aL (fun x hx=>by simp at hx;right;omega)
   clear be aE aq ab
   go_wp2_with fail
   refine ap.mono ?_
   rintro e w5 ⟨v5,g5,rfl,aJ,bk,bR⟩
   go_wp2
   go_ret2
   exact ⟨v5,g5,rfl,aJ,(bE.same bk).cast (by omega),aI.trans bk (by simp),by have:=aI.size;omega⟩
  ·have bo:i<m:=by omega
   have t1:decide (i<m)=true:=zB bo
   have aC:i<EF.length:=by rw [aH.out];exact bo
   obtain ⟨bK,bw,_,_,ai,au⟩:=ab.open_map
   have bf:=ai i _ (mixL_at (fun v=>wrapI v d) EF aC)
   have bO:=au i
   have ag:=ab.set_ (i:=i) (by rw [zE,mixL_len];exact aC) (vi (wrapI (EF.getD i 0) d))
   rw [<-List.map_set,mixL_set (fun v=>wrapI v d) EF aC] at ag
   have bn:=br.out (EF.getD i 0) (by rw [zD,zF aC];exact zG aC)
   have a9:=fun w=>al (EF.getD i 0) w
   have ba:=fun w=>ak (EF.getD i 0) w
   rw [bn] at a9
   generalize EF.getD i 0=x at *
   have t2:(x != x)=false:=by simp
   obtain ⟨y,hy⟩:=zX (wrapI x d)
   rw [<-hy] at ag ba
   have bB:wr.cell? ⟨g,i,none⟩=some (.int .i64 x):=bf
   have aD:Row (wr.setCell ⟨g,i,none⟩ (.int .i64 y)) _ _ _ _:=ag
   clear bw ai au bf ag hy ab bn
   go_wp2_with (first | (go_at_call 84;refine (a9 _).mono ?_;rintro e w' ⟨rfl,rfl⟩) | (go_at_call 83;refine (ba _).mono ?_;rintro e w' ⟨rfl,rfl⟩))
   go_roundg j
   case measure=>omega
   case rel=>exact ⟨i+1,by go_num,by omega,aD,aL.setCell (.inl (by simp)) _⟩
def pickD (D:List Int) (v:Int):Int:=D.getD v.toNat 0
theorem idx_back (l:List Int):(idxL l).map (pickD (diffL l))=l:=by
 unfold idxL
 rw [List.map_map]
 refine (List.map_congr_left fun s hs => ?_).trans (List.map_id _)
 have h:=(countP_index (diffL l) (diffL_lt l) ((mem_diffL l s).2 hs)).2
 show pickD (diffL l) ((diffL l).countP (· < s):Int)=s
 unfold pickD
 rw [Int.toNat_natCast,zD,h]
 rfl
theorem getColoured_ok (w:World) (b:Nat) (F ds:List Nat) (p:Nat) (l:List Int) (d:Nat) (h:IsRd w b F ds p) (h0:1<=d) (h1:d<=16) (hl0:0<l.length) (hl:l.length<=256) (hs:SmpOk d l) (hk:(diffL l).length<=16) (ha:Ahead ds p (colouredBits l d)) :
  Calls Tryz.prog 182 #[.pointer (some ⟨b,0,none⟩),.int .i64 l.length,.int .i64 d] w fun e w'=>∃ v g,e=.returned (.tuple #[v,.int .i64 0])/\Row w' 3 v g (l.map vi)/\IsRd w' b F ds (p+(colouredBits l d).length)/\Chg [b] w w'/\w.heap.size<=g:=by
 have ax:=diffL_pos hl0
 have aO:=diffL_ok hs
 have ai:=diffL_lt l
 have aP:=fun x (hx:x∈l)=>(countP_index (diffL l) (diffL_lt l) ((mem_diffL l x).2 hx)).1
 have aZ:colouredBits l d=bitsOf ((diffL l).length-1) 4++allOf (diffL l) d++allOf (idxL l) (bitsN (diffL l).length):=rfl
 rw [aZ] at ha ⊢
 have au:=idx_back l
 have ak:=idxL_len l
 obtain ⟨D,hD⟩:=zX (diffL l)
 obtain ⟨k,aj⟩:=zX (D.length)
 have av:∀ x∈idxL l,0<=x/\x<(k:Int):=fun x hx=>by
  obtain ⟨s,bm,rfl⟩:=List.mem_map.1 hx
  have:=aP s bm
  rw [aj,hD]
  show (0:Int)<=_/\((diffL l).countP (· < s):Int)<((diffL l).length:Int)
  omega
 rw [<-hD] at ax aO ai hk au ha ⊢
 have ay:=bitsN_room hk
 have aS:=bitsN_le hk
 have aw:=fun w=>palBits_ok D.length w ax (by omega)
 rw [<-aj] at ax hk ay aS aw ha ⊢
 obtain ⟨q,hq⟩:=zX (bitsN k)
 rw [<-hq] at ay aS aw ha ⊢
 obtain ⟨I,hI⟩:=zX (idxL l)
 rw [<-hI] at au ak av ha ⊢
 obtain ⟨n,hn⟩:=zX (l.length)
 rw [<-hn] at ak hl hl0 ⊢
 have aK:=rget_ahead w b F ds p 4 (k-1) h (by omega) (by omega) ha.left.left
 have aA:=ha.left.right
 have aH:=ha.right
 rw [bitsOf_len] at aA
 rw [zC,bitsOf_len] at aH
 have aC:=fun w' (hr:IsRd w' b F ds (p+4))=>getAll_ok w' b F ds (p+4) d D hr h1 aO (by rw [<-aj];omega) aA
 have aV:SmpOk q I:=fun x hx=>by
  have:=av x hx
  have e:(2:Int)^q=((2^q:Nat):Int):=by simp
  rw [e]
  omega
 have az:=fun w' (hr:IsRd w' b F ds (p+(4+(allOf D d).length)))=>getAll_ok w' b F ds (p+(4+(allOf D d).length)) q I hr (by omega) aV (by rw [ak];omega) aH
 rw [<-aj] at aC
 rw [ak] at az
 rw [zC,zC,bitsOf_len]
 generalize (allOf D d).length=a1 at *
 generalize (allOf I q).length=a2 at *
 obtain ⟨k1,aQ⟩:=zX (k-1)
 have ek:(k1:Int)+1=(k:Int):=by omega
 rw [<-aQ] at aK
 have bA:IntKind.i64.wrap (k1:Int)=(k1:Int):=IntWalk.i64_in _ (by omega)
 have bd:=h.lt b h.mem
 have aE:=hid aj
 have br:=hid au
 have ap:=hid ak
 have bz:=hid av
 have bf:=hid aC
 have bu:=hid az
 have aB:=hid ai
 have bi:=hid h.lt
 clear hn aj au ak av aC az ai aZ hD hI hq hs aP aO ha aA aH aV aQ ay h
 go_enter Tryz.func182,Tryz.ntmps182
 go_wp2_with fail
 refine aK.mono ?_
 rintro e w1 ⟨rfl,aY,aq⟩
 clear aK
 go_wp2_with fail
 refine (bf.out w1 aY).mono ?_
 rintro e w2 ⟨vD,gD,rfl,ac,a4,aG,bE⟩
 obtain ⟨cD,rfl,a8,bj,_,_⟩:=ac.open_map
 rw [<-aE.out]
 have aT:=ac.lt
 go_wp2_with fail
 refine (aw w2).mono ?_
 rintro e w' ⟨rfl,rfl⟩
 go_wp2_with fail
 refine (bu.out w2 (a4.cast (by omega))).mono ?_
 rintro e w3 ⟨vI,gI,rfl,rowI,aM,aL,bI⟩
 obtain ⟨cI,rfl,aJ,bo,_,_⟩:=rowI.open_map
 rw [ap.out] at aJ rowI ⊢
 have ae:=ac.chg aL (by have:=aq.size;simp;omega)
 have al:=(aq.trans_same aG).trans_same aL
 have bG:=(aq.trans_same aG).size
 clear ac aY a4 aq aG aL aw
 have bn:w.heap.size<=gI:=by omega
 have bB:gD<gI:=by omega
 go_wp2_with (go_at_call 69;refine (err_ok _ b F ds _ aM).mono ?_;rintro e w' ⟨rfl,rfl⟩)
 have ba:=hid aM
 have bq:=hid al
 have a7:=hid rowI
 have aU:=hid ae
 clear aM al rowI ae
 go_loopg [11] (k-1) (fun j iv wr=>∃ i q':Nat,iv=.int .i64 i/\1<=i/\i+j=k/\wr=w3.drewN q')
 case atStart=>exact ⟨1,0,rfl,zQ _,by omega,rfl⟩
 case round =>
  obtain ⟨i,q',rfl,bH,bx,rfl⟩:=hrel
  rcases gk with _ | j
  ·obtain rfl:k=i:=by omega
   have u1:decide (k<k)=false:=by simp
   have af:=a7.out.drewN q'
   have aF:=aU.out.drewN q'
   have bw:=ba.out.same ((zR [] w3).drewN q')
   have aD:=bq.out.drewN q'
   generalize w3.drewN q'=w4 at *
   go_wp2_with fail
   go_loopg [12,13,50] n (fun j va vb iv wr=>∃ (i:Nat),iv=.int .i64 i/\i+j=n/\Row wr 3 (.slice (some ⟨gI,0,none⟩) n cI) gI ((mixL (pickD D) I i).map vi)/\Chg [gI] w4 wr)
   case atStart=>exact ⟨0,rfl,by omega,by rw [mixL_zero];exact af,zR _ _⟩
   case round =>
    clear af
    obtain ⟨i,rfl,bx,ab,ar⟩:=hrel
    rcases gk with _ | j
    ·obtain rfl:n=i:=by omega
     have u2:decide (n<n)=false:=by simp
     rw [<-ap.out,mixL_full,br.out,ap.out] at ab
     have bl:=bw.chg ar (fun x hx hm=>by simp at hm;have:=bi.out x hx;omega)
     have aN:=aD.trans ar (fun x hx=>by simp at hx;right;omega)
     go_wp2_with fail
     go_ret2
     exact ⟨_,gI,rfl,ab,bl.cast (by omega),aN,bn⟩
    ·have a3:i<n:=by omega
     have u2:decide (i<n)=true:=zB a3
     have an:i<I.length:=by rw [ap.out];exact a3
     obtain ⟨bv,bb,_,_,ag,am⟩:=ab.open_map
     have a0:=ag i _ (mixL_at (pickD D) I an)
     have bC:=am i
     have ad:=ab.set_ (i:=i) (by rw [zE,mixL_len];exact an) (vi (pickD D (I.getD i 0)))
     rw [<-List.map_set,mixL_set (pickD D) I an] at ad
     have bp:=bz.out (I.getD i 0) (by rw [zD,zF an];exact zG an)
     generalize I.getD i 0=x at *
     obtain ⟨X,hX⟩:∃ X:Nat,X=x.toNat:=⟨_,rfl⟩
     have a6:x=(X:Int):=by omega
     have be:X<k:=by omega
     have aX:pickD D x=D.getD X 0:=by unfold pickD;rw [hX]
     obtain ⟨a9,ah,_,_,aa,_⟩:=(aF.chg ar (by simp;omega)).open_map
     have bs:X<D.length:=by rw [<-aE.out];exact be
     have aW:=aa X (D.getD X 0) (by rw [zD,zF bs];rfl)
     rw [aX] at ad
     generalize D.getD X 0=y at *
     subst a6
     have u3:decide (k<=X)=false:=zA (by omega)
     have bh:wr.cell? ⟨gI,i,none⟩=some (.int .i64 X):=a0
     have bk:wr.cell? ⟨gD,X,none⟩=some (.int .i64 y):=aW
     have ao:Row (wr.setCell ⟨gI,i,none⟩ (.int .i64 y)) _ _ _ _:=ad
     clear bb ag am a0 ad hX ab bp aX aa ah aW
     go_wp2
     go_roundg j
     case measure=>omega
     case rel=>exact ⟨i+1,by go_num,by omega,ao,ar.setCell (.inl (by simp)) _⟩
  ·have aR:i<k:=by omega
   have u1:decide (i<k)=true:=zB aR
   obtain ⟨i0,bg⟩:=zX (i-1)
   have ei:(i:Int)-1=(i0:Int):=by omega
   have aI:i<D.length:=by rw [<-aE.out];exact aR
   have a5:=List.pairwise_iff_getElem.1 aB.out i0 i (by omega) aI (by omega)
   obtain ⟨a9,ah,_,_,aa,_⟩:=aU.out.open_map
   have c1:=aa i0 _ (zF (by omega))
   have c2:=aa i _ (zF aI)
   generalize D[i0]=x at *
   generalize D[i]=y at *
   have bD:w3.cell? ⟨gD,i0,none⟩=some (.int .i64 x):=c1
   have bF:w3.cell? ⟨gD,i,none⟩=some (.int .i64 y):=c2
   have u2:decide (y<=x)=false:=zA (by omega)
   have bc:i0<k:=by omega
   clear bg aa ah c1 c2 a5 aI
   go_wp2
   go_quiet (fail)
   go_wp2
   go_roundg j
   case measure=>omega
   case rel=>exact ⟨i+1,q'+nq,by go_num,by omega,by omega,by first | rfl | rw [World.drewN_drewN]⟩
theorem fut_first4 {n:Nat} {F:List Nat} (hF:Fut F (newCod n)):valD (F.take 4)≠4294967295:=by
 have:=hF.hi
 simp [newCod,pre,valD] at this
 unfold valD
 simp
 omega
theorem newDec_okT (N:Nat) {F:List Nat} (hd:∀ d∈F,d<256) (h4:4<=F.length) (hF:Fut F (newCod N)):DecOk (newDec F N):=by
 have:=hF.hi
 simp [newCod,pre,valD] at this
 refine ⟨hd,by simp [newDec],by simp [newDec],?_,h4,by simp [newDec]⟩
 simp [newDec,valD]
 omega
theorem fold16 (l:List Int) (W:Nat) {d:Nat} (h0:1<=d) (h1:d<=16) (i:Nat):foldOf l W d i<65536 :=
 Nat.lt_of_lt_of_le (foldOf_lt l W h0 i) (Nat.pow_le_pow_right (n:=2) (by decide) h1)
theorem codR_fit (l:List Int) (W:Nat) {d:Nat} (h0:1<=d) (h1:d<=16):∀ i,CodFit (codR l W d i)
 | 0=>newCod_fit _
 | i+1=>by
  have h:=codR_ok l W h0 h1 i
  have hc:=clsN_le l W d i
  have hf:=fold16 l W h0 h1 i
  exact numL_fit h.1 (codR_fit l W h0 h1 i) (by omega) (by rw [h.2.1];omega)
theorem fut_codR (l:List Int) (W:Nat) {d:Nat} (h0:1<=d) (h1:d<=16) {F:List Nat} (hd:∀ x∈F,x<256):∀ (k i:Nat),Fut F (codR l W d (i+k))->Fut F (codR l W d i)
 | 0,_,h=>h
 | k+1,i,h=>by
  have hk:=codR_ok l W h0 h1 (i+k)
  have hc:=clsN_le l W d (i+k)
  have hf:=fold16 l W h0 h1 (i+k)
  have h':Fut F (numL (codR l W d (i+k)) (33*clsN l W d (i+k)) (foldOf l W d (i+k))):=h
  exact fut_codR l W h0 h1 hd k i (fut_num (v:=foldOf l W d (i+k)) (ctx:=33*clsN l W d (i+k)) hd hk.1 (codR_fit l W h0 h1 _) (by omega) (by rw [hk.2.1];omega) h')
theorem fold_back {l:List Int} {d:Nat} (hs:SmpOk d l) (W i:Nat):wrapI (guessI 7 (nbrAt l W i) d+unfoldI (foldOf l W d i)) d=l.getD i 0:=by
 obtain ⟨h0,h1⟩:=getD_ok hs i
 unfold foldOf
 rw [unfoldI_rfold]
 exact unfold_fold h0 h1
theorem nbr_fillAt {l:List Int} {W i:Nat} (hW:1<=W) (hi:i<=l.length):nbrAt (fillL (l.take i) l.length) W i=nbrAt l W i:=by
 unfold nbrAt
 exact nbr_fill (Nat.mod_lt _ (by omega)) (by rw [zY];exact Nat.div_add_mod i W) hi
theorem fill_smpT {d:Nat} {l:List Int} (hs:SmpOk d l) (i n:Nat):SmpOk d (fillL (l.take i) n):=by
 intro s h
 unfold fillL at h
 rcases zP.1 h with h | h
 ·exact hs s (List.mem_of_mem_take h)
 ·rw [List.eq_of_mem_replicate h];exact ⟨Int.le_refl _,two_pow_pos' d⟩
theorem unfolded_ok (g:Int) (f d:Nat) (w:World) (h0:1<=d) (h1:d<=16) (hg0:0<=g) (hg1:g<65536) (hf:f<65536) :
  Calls Tryz.prog 233 #[.int .i64 g,.int .i64 f,.int .i64 d] w fun e w'=>e=.returned (.int .i64 (wrapI (g+unfoldI f) d))/\w=w':=by
 have hu:=unfold_ok f w (by omega)
 have ab:IntKind.u64.wrap (f:Int)=(f:Int):=IntWalk.u64_in _ (by omega)
 have ac : -65536<=unfoldI f/\unfoldI f<=65536:=by unfold unfoldI;split<;>omega
 have aa:=wrap_ok (g+unfoldI f) d w h0 h1
 generalize unfoldI f=u at *
 go_enter Tryz.func233,Tryz.ntmps233
 go_wp2_with fail
 refine hu.mono ?_
 rintro e w' ⟨rfl,rfl⟩
 go_wp2_with fail
 refine aa.mono ?_
 rintro e w' ⟨rfl,rfl⟩
 go_wp2
 go_ret
 exact ⟨rfl,rfl⟩
theorem u8_elT:Elem Tryz.prog 39 5 (.int .u8 0) 1 1:=.mk' Tryz.underlying39 (by kernel_rfl)
def fillB (done:List Nat) (n:Nat):List Nat:=done++List.replicate (n-done.length) 0
theorem fillB_full {l:List Nat} {n:Nat} (h:l.length=n):fillB l n=l:=by simp [fillB,h]
theorem fillB_get {done:List Nat} {n:Nat} (h:done.length<n):(fillB done n)[done.length]?=some 0:=by
 unfold fillB
 rw [zS (zQ _),Nat.sub_self,List.getElem?_replicate,if_pos (by omega)]
theorem fillB_set {done:List Nat} {n:Nat} (h:done.length<n) (x:Nat):(fillB done n).set done.length x=fillB (done++[x]) n:=by
 unfold fillB
 obtain ⟨k,hk⟩:∃ k,n-done.length=k+1:=⟨n-done.length-1,by omega⟩
 rw [hk,List.set_append_right _ _ (zQ _),Nat.sub_self,List.replicate_succ,List.set_cons_zero,zC,List.length_singleton,show n-(done.length+1)=k by omega]
 simp
theorem fillB_len {done:List Nat} {n:Nat} (h:done.length<=n):(fillB done n).length=n:=by simp [fillB];omega
theorem bytes_split (R:List Nat) {m:Nat} (hm:m<R.length):(R.drop m).flatMap (fun x=>bitsOf x 8)=bitsOf R[m] 8++(R.drop (m+1)).flatMap (fun x=>bitsOf x 8):=by
 rw [List.drop_eq_getElem_cons hm,List.flatMap_cons]
theorem getRanged_ok (w:World) (b:Nat) (F ds:List Nat) (p:Nat) (l:List Int) (W H d:Nat) (h:IsRd w b F ds p) (hw0:1<=W) (hw1:W<=16) (hh0:1<=H) (hh1:H<=16) (h0:1<=d) (h1:d<=16) (hl:l.length=W*H) (hs:SmpOk d l) (ha:Ahead ds p (rangedBits l W d)) :
  Calls Tryz.prog 181 #[.pointer (some ⟨b,0,none⟩),.int .i64 W,.int .i64 H,.int .i64 d] w fun e w'=>∃ v g,e=.returned (.tuple #[v,.int .i64 0])/\Row w' 3 v g (l.map vi)/\IsRd w' b F ds (p+(rangedBits l W d).length)/\Chg [b] w w'/\w.heap.size<=g:=by
 have bT:rangedBits l W d=bitsOf (rangedL l W d).length 16++(rangedL l W d).flatMap fun x=>bitsOf x 8:=rfl
 have bq:=rangedL_len l W h0 h1
 have aM:=rangedL_lt l W h0 h1
 have ad:rangedL l W d=(codR l W d l.length).low:=rfl
 rw [bT] at ha ⊢
 rw [zC,bitsOf_len]
 obtain ⟨R,hR⟩:=zX (rangedL l W d)
 rw [<-hR] at bq aM ad ha ⊢
 obtain ⟨n,hn⟩:=zX (l.length)
 have bP:n<=256:=by rw [hn,hl];exact zL hw1 hh1
 have ct:n<=64*W:=by rw [hn,hl,zY];exact Nat.mul_le_mul_right W (by omega)
 have cz:(W:Int)*(H:Int)=(n:Int):=by rw [hn,hl];simp
 rw [<-hn] at bq ad
 have aq:Fut R (codR l W d n):=by rw [ad];exact fut_self (codR_ok l W h0 h1 n).1
 have az:=fun i (hi:i<=n)=>fut_codR l W h0 h1 aM (n-i) i (by rw [show i+(n-i)=n by omega];exact aq)
 have bG:Fut R (newCod 429):=az 0 (Nat.zero_le _)
 have br:4<=R.length:=by rw [ad];exact (codR_ok l W h0 h1 n).1.len
 have bY:=fut_first4 bG
 have aI:=newDec_okT 429 aM br bG
 have aE:=fun i=>codR_ok l W h0 h1 i
 have aw:=fun i=>codR_fit l W h0 h1 i
 have a6:=fun i=>clsN_le l W d i
 have ag:=fun i=>fold16 l W h0 h1 i
 have aj:=fun i=>foldOf_lt l W h0 i
 have aB:=fun i=>fold_back hs W i
 obtain ⟨r,hr⟩:=zX (R.length)
 rw [<-hr] at bq br ha
 have bE:r<2^16:=by omega
 have bV:=rget_ahead w b F ds p 16 r h (by omega) bE ha.left
 have bb:=ha.right
 rw [bitsOf_len] at bb
 have cg:=run_make1 (P:=Tryz.prog) u8_elT rfl .i64 .i64 r (by omega) (by omega)
 have cC:=run_make1 (P:=Tryz.prog) int_elem rfl .i64 .i64 n (by omega) (by omega)
 have cj:IntKind.i64.wrap (r:Int)=(r:Int):=IntWalk.i64_in _ (by omega)
 have cu:=h.lt b h.mem
 have HN:=hid hn
 have HR:=hid hr
 have bN:=hid aM
 have b0:=hid ad
 have HA:=hid bb
 have bz:=hid az
 have ck:=hid bY
 have bp:=hid aI
 have bu:=hid aE
 have b7:=hid aw
 have co:=hid a6
 have ba:=hid ag
 have bC:=hid aj
 have cd:=hid aB
 have HS:=hid hs
 have ca:=hid h.lt
 clear hn hr aM ad ha bb az bY aI aE aw a6 ag aj aB hs bT hR aq bG hl h
 go_enter Tryz.func181,Tryz.ntmps181
 go_wp2_with fail
 refine bV.mono ?_
 rintro e w1 ⟨rfl,bR,bf⟩
 obtain ⟨B,hB⟩:=zX (w1.heap.size)
 have cJ:w.heap.size<=B:=by rw [hB];exact bf.size
 have bk:Chg [] w1 (w1.alloc (.cells (List.replicate r (Value.int .u8 0)).toArray 5)):=(zR [] w1).alloc _
 have ac:Row (w1.alloc (.cells (List.replicate r (Value.int .u8 0)).toArray 5)) 5 (.slice (some ⟨B,0,none⟩) r r) B ((fillB [] r).map b8):=by
  have:=Row.made w1 5 (List.replicate r (Value.int .u8 0)) (by simp [maxLen];omega)
  rw [<-hB,zV] at this
  have e:(fillB [] r).map b8=List.replicate r (Value.int .u8 0):=by simp [fillB,b8]
  rw [e]
  exact this
 have aF:=bR.same bk
 have HB:=hid hB
 have aN:=(bf.trans bk (by simp))
 clear bV hB bR bf bk
 go_wp2_with fail
 rw [<-HB.out]
 go_loopg [11,27] r (fun j va iv wr=>∃ (i p':Nat),iv=.int .i64 i/\i+j=r/\Row wr 5 (.slice (some ⟨B,0,none⟩) r r) B ((fillB (R.take i) r).map b8)/\IsRd wr b F ds p'/\Hid (Ahead ds p' ((R.drop i).flatMap fun x=>bitsOf x 8))/\Hid (p'+((R.drop i).flatMap fun x=>bitsOf x 8).length=p+(16+(R.flatMap fun x=>bitsOf x 8).length))/\Hid (Chg [b] w wr))
 case atStart=>exact ⟨0,p+16,rfl,by omega,ac,aF,HA,hid (by rw [List.drop_zero];omega),hid aN⟩
 case round =>
  clear ac aF aN
  obtain ⟨i,p',rfl,cq,ab,ad,Ha,Hp,bH⟩:=hrel
  rcases gk with _ | j
  ·obtain rfl:r=i:=by omega
   have u1:decide ((r:Int)<(r:Int))=false:=by simp
   have b3:decide (r<r)=false:=by simp
   have e1:R.take r=R:=by rw [HR.out,zN]
   have e2:R.drop r=[]:=by rw [HR.out,List.drop_length]
   rw [e1,fillB_full HR.out.symm] at ab
   have hp:=Hp.out
   rw [e2] at hp
   have b2:Hid (p'=p+(16+(R.flatMap fun x=>bitsOf x 8).length)):=hid (by
    rw [show (([]:List Nat).flatMap fun x=>bitsOf x 8)=[] from rfl,List.length_nil] at hp
    omega)
   obtain ⟨bA,bh,_,_,af,_⟩:=ab.open_map
   have bd:=newDecoder_ok B r R 429 wr (by decide) (by decide) (by rw [<-HR.out];exact zQ _) (by omega) af bN.out (by rw [<-HR.out];exact br) (by rw [<-HR.out];omega) ck.out
   rw [<-HR.out,show ((429:Nat):Int)=429 from rfl] at bd
   clear e1 e2 hp bh af Ha Hp ab
   go_wp2_with (go_at_call 69;refine (err_ok _ b F ds _ ad).mono ?_;rintro e w' ⟨rfl,rfl⟩)
   refine bd.mono ?_
   rintro e w3 ⟨db,dg,dh,rfl,ae,a8,cw,cv,cD⟩
   have ac:=Row.zeros w3 n (by omega)
   obtain ⟨G,hG⟩:=zX (w3.heap.size)
   have a1:Chg [] w3 (w3.alloc (.cells (List.replicate n (Value.int .i64 0)).toArray 3)):=(zR [] w3).alloc _
   have ar:=ae.same a1
   have aO:=(ad.same a8).same a1
   have aV:=(bH.out.trans a8 (by simp)).trans a1 (by simp)
   rw [<-hG] at ac
   have cr:=ad.lt b ad.mem
   have cB:=a8.size
   have bm:=ae.lt
   rw [<-hG] at bm
   have cf:=bH.out.size
   have bM:=ad.lt
   have bW:=hid bM
   have HG:=hid hG
   clear bd ad ae a8 a1 hG bM
   go_wp2_with fail
   rw [<-HG.out]
   go_loopg [16,17,18,19,20,56] n (fun j va vb vc vd ve iv w5=>∃ (i:Nat) (D:Dec),iv=.int .i64 i/\i+j=n/\Row w5 3 (.slice (some ⟨G,0,none⟩) n n) G ((fillL (l.take i) n).map vi)/\IsDec 296 w5 db dg dh D/\DecOk D/\Syn D (codR l W d i)/\D.data=R/\IsRd w5 b F ds p'/\Hid (Chg [b] w w5))
   case atStart=>exact ⟨0,newDec R 429,rfl,by omega,by simpa using ac,ar,bp.out,syn_new _ _,rfl,aO,hid aV⟩
   case round =>
    clear ac ar aO aV
    obtain ⟨i,D,rfl,cq,ab,ae,a4,a7,al,ad,aH⟩:=hrel
    rcases gk with _ | j
    ·obtain rfl:n=i:=by omega
     have u2:decide ((n:Int)<(n:Int))=false:=by simp
     have cc:decide (n<n)=false:=by simp
     have e:fillL (l.take n) n=l:=by
      have:=fill_all l
      rw [<-HN.out] at this
      exact this
     rw [e] at ab
     have bJ:=left_any wr db dg dh D ae a4.pos
     have hz:D.data.length-D.pos=0:=by rw [a7.pos,al,<-b0.out];omega
     rw [hz] at bJ
     clear ae a4 a7 al hz e
     go_wp2_with fail
     refine bJ.mono ?_
     rintro e w' ⟨rfl,n6,rfl⟩
     go_wp2_with fail
     go_ret2
     exact ⟨_,G,rfl,ab.drewN n6,(ad.same ((zR [] _).drewN n6)).cast b2.out,aH.out.drewN n6,by have:=HG.out;omega⟩
    ·have am:i<n:=by omega
     have u2:decide ((i:Int)<(n:Int))=true:=zB (by omega)
     have cc:decide (i<n)=true:=zB am
     have bo:i<l.length:=by rw [<-HN.out];exact am
     have bn:=nbr_fillAt (l:=l) hw0 (i:=i) (by omega)
     rw [<-HN.out] at bn
     have an:(fillL (l.take i) n).length=n:=fillL_len (by rw [zI];omega)
     have aT:=tnear_ok (fillL (l.take i) n) (some ⟨G,0,none⟩) n W d i wr h0 h1 hw0 (by omega) (by rw [an];omega) (by omega) (fill_smpT HS.out i n) ab.toOwn.cells (by rw [an];omega)
     have bs:=bu.out i
     have a6:=co.out i
     have aB:=cd.out i
     have ag:=ba.out i
     have aj:=bC.out i
     have aR:codR l W d (i+1)=numL (codR l W d i) (33*clsN l W d i) (foldOf l W d i):=rfl
     have a9:=bz.out (i+1) (by omega)
     rw [aR] at a9
     have cy:2^d<=65536:=Nat.pow_le_pow_right (n:=2) (by decide) h1
     have ce:=Nat.two_pow_pos d
     have aa:=fun w' (hq:IsDec 296 w' db dg dh D)=>dnum_syn w' db dg dh D (codR l W d i) (33*clsN l W d i) (foldOf l W d i) (2^d-1) hq a4 a7 bs.1 (b7.out i) (by rw [bs.2.1];omega) (by omega) (by omega) (by rw [al];exact a9)
     unfold NumPost at aa
     rw [if_pos (by omega:foldOf l W d i<=2^d-1)] at aa
     rw [bn,an,<-clsN_cast] at aT
     have a0:=guessI_ok (d:=d) (g:=nbrAt l W i) (nbr_ok HS.out W _ _) 7
     obtain ⟨gs,bX⟩:=zX (guessI 7 (nbrAt l W i) d)
     rw [<-bX] at aT a0 aB
     obtain ⟨f,hf⟩:=zX (foldOf l W d i)
     rw [<-hf] at aa aB ag aj aR
     obtain ⟨cx,bD⟩:=zX (33*clsN l W d i)
     have cb:(33:Int)*((clsN l W d i:Nat):Int)=(cx:Int):=by rw [bD];simp
     rw [<-bD] at aa aR
     have b6:cx<=500:=by omega
     obtain ⟨cl,aK⟩:=zX (clsN l W d i)
     rw [<-aK] at cb aT a6
     obtain ⟨mo,be⟩:=zX (2^d-1)
     rw [<-be] at aa
     have aX:gs<65536:=by
      have e:((2^d:Nat):Int)=(2:Int)^d:=by simp
      have:=a0.2
      omega
     have bw:=fun w'=>unfolded_ok gs f d w' h0 h1 a0.1 aX ag
     rw [aB] at bw
     have cm:f<=mo:=by omega
     have ax:=take_snoc' l bo
     have bQ:l[i]=l.getD i 0:=by rw [zD,zF bo];rfl
     rw [bQ] at ax
     generalize l.getD i 0=xv at *
     have bI:(l.take i).length=i:=by rw [zI];omega
     have cI:((2^d:Nat):Int)=(2:Int)^d:=by simp
     have cE:IntKind.u64.wrap ((2:Int)^d)=(2:Int)^d:=IntWalk.u64_in _ (by omega)
     have cF:IntKind.u64.wrap ((2:Int)^d-1)=(mo:Int):=by rw [IntWalk.u64_in _ (by omega)];omega
     have cH:IntKind.i64.wrap (f:Int)=(f:Int):=IntWalk.i64_in _ (by omega)
     have bB:=hid ax
     have bj:=hid bI
     have aC:=hid aa
     have ci:=hid bw
     have ch:=hid aR
     have ay:=hid ab
     have cA:=hid be
     have bg:=hid al
     clear bn an bs aB a9 aa bX hf bD aK be bw ax bQ bI aR ab a4 a7 al bo aj a0
     go_wp2_with fail
     refine aT.mono ?_
     rintro e w6 ⟨rfl,a2⟩
     have au:=ae.same a2
     have aS:=ad.same a2
     have aP:=aH.out.trans a2 (by simp)
     have ap:=ay.out.chg a2 (by simp)
     have aG:=aC.out w6 au
     clear aT ae ad
     go_wp2_with fail
     refine aG.mono ?_
     rintro e w7 ⟨rfl,D',av,bU,aL,bl⟩
     rw [if_pos cm] at bU
     obtain ⟨aW,aA⟩:=bU
     have bL:=err_any w7 db dg dh D' av
     rw [aA.err,show ((0:Nat):Int)=0 from rfl] at bL
     have aY:∀ z∈F,z∉[db,dh]:=fun z hz hm=>by have:=bW.out z hz;simp at hm;omega
     have bc:=aS.chg bl aY
     have bF:=aP.trans bl (fun z hz => .inr (by simp at hz;omega))
     have ai:=ap.chg bl (by simp;omega)
     obtain ⟨a5,bK⟩:=ai.fill_cell (by rw [bj.out];exact am)
     have ak:=ai.fill (by rw [bj.out];exact am) xv
     rw [bj.out] at a5 bK ak
     have bZ:=hid ak
     have cn:=hid aW
     have b4:=hid aA
     have bx:=ci.out w7
     clear aG au aS aP ap ai ak aW aA aY
     go_wp2_with (first | (go_at_call 232;refine bL.mono ?_;rintro e w' ⟨rfl,rfl⟩) | (go_at_call 233;refine bx.mono ?_;rintro e w' ⟨rfl,rfl⟩))
     go_roundg j
     case measure=>omega
     case rel =>
      have aD:Chg [G] w' (w'.setCell ⟨G,i,none⟩ (.int .i64 xv)):=(zR _ _).setCell (.inl (by simp)) _
      refine ⟨i+1,D',by go_num,by omega,?_,av.chg aD (by simp;omega) (by simp;omega) (by simp;omega),cn.out,by rw [ch.out];exact b4.out,aL.trans bg.out,bc.chg aD (fun z hz hm=>by simp at hm;have:=bW.out z hz;omega),hid (bF.trans aD (fun z hz => .inr (by simp at hz;omega)))⟩
      rw [bB.out]
      exact bZ.out
  ·have am:i<r:=by omega
   have u1:decide ((i:Int)<(r:Int))=true:=zB (by omega)
   have b3:decide (i<r)=true:=zB am
   have bi:i<R.length:=by rw [<-HR.out];exact am
   have a3:=bytes_split R bi
   have ax:=take_snoc' R bi
   have cs:=bN.out R[i] (zG _)
   obtain ⟨x,hx⟩:=zX (R[i])
   rw [<-hx] at a3 ax cs
   have aZ:=Ha.out
   rw [a3] at aZ
   have aU:=rget_ahead wr b F ds p' 8 x ad (by omega) (by omega) aZ.left
   have b1:=hid aZ.right
   have bS:(R.take i).length=i:=by rw [zI];omega
   have cG:IntKind.u8.wrap (x:Int)=(x:Int):=by rw [IntKind.wrap_u8];omega
   have b5:=hid a3
   have bB:=hid ax
   have aC:=hid bS
   have ay:=hid ab
   clear a3 ax hx aZ bi bS ad ab
   go_wp2_with fail
   refine aU.mono ?_
   rintro e w2 ⟨rfl,cp,bO⟩
   have ah:=ay.out.chg bO (by simp;omega)
   obtain ⟨bA,bh,_,_,af,aJ⟩:=ah.open_map
   have a5:=af i 0 (by have:=fillB_get (done:=R.take i) (n:=r) (by rw [aC.out];exact am);rw [aC.out] at this;exact this)
   have b9:w2.cell? ⟨B,i,none⟩=some (.int .u8 0):=a5
   have bK:=aJ i
   have ao:=ah.set_ (i:=i) (by rw [zE,fillB_len (by rw [aC.out];omega)];exact am) (b8 x)
   rw [<-List.map_set] at ao
   have bv:=fillB_set (done:=R.take i) (n:=r) (by rw [aC.out];exact am) x
   rw [aC.out,<-bB.out] at bv
   rw [bv] at ao
   have aQ:Row (w2.setCell ⟨B,i,none⟩ (.int .u8 x)) _ _ _ _:=ao
   clear aU ah bh af aJ a5 ao bv
   go_wp2_with fail
   go_roundg j
   case measure=>omega
   case rel =>
    have aD:Chg [B] w2 (w2.setCell ⟨B,i,none⟩ (.int .u8 x)):=(zR _ _).setCell (.inl (by simp)) _
    refine ⟨i+1,p'+8,by go_num,by omega,aQ,cp.chg aD (fun z hz hm=>by simp at hm;have:=ca.out z hz;omega),hid ?_,hid ?_,hid ((bH.out.trans_same bO).trans aD (fun z hz => .inr (by simp at hz;omega)))⟩
    ·have:=b1.out
     rw [bitsOf_len] at this
     exact this
    ·have:=Hp.out
     rw [b5.out,zC,bitsOf_len] at this
     omega
def depthL:List Int:=[8,1,2,4,8,10,12,16,5,8]
theorem depthL_ok (k:Nat) (h:k<10):∃ d:Nat,depthL[k]?=some (d:Int)/\1<=d/\d<=16:=by
 rcases (by omega:k=0\/k=1\/k=2\/k=3\/k=4\/k=5\/k=6\/k=7\/k=8\/k=9) with rfl | rfl | rfl | rfl | rfl | rfl | rfl | rfl | rfl | rfl
 ·exact ⟨8,rfl,by omega,by omega⟩
 ·exact ⟨1,rfl,by omega,by omega⟩
 ·exact ⟨2,rfl,by omega,by omega⟩
 ·exact ⟨4,rfl,by omega,by omega⟩
 ·exact ⟨8,rfl,by omega,by omega⟩
 ·exact ⟨10,rfl,by omega,by omega⟩
 ·exact ⟨12,rfl,by omega,by omega⟩
 ·exact ⟨16,rfl,by omega,by omega⟩
 ·exact ⟨5,rfl,by omega,by omega⟩
 ·exact ⟨8,rfl,by omega,by omega⟩
theorem IsTp.fresh {w w':World} {b cap at_:Nat} {A:Option Addr} {L:List Int} (h:IsTp w b A cap L at_) (hc:Chg [] w w'):IsTp w' b A cap L at_:=h.same hc (by simp) (fun _ _ _=>by simp)
theorem depth_tp (w:World) (b cap at_:Nat) (A:Option Addr) (L:List Int) (h:IsTp w b A cap L at_) :
  Calls Tryz.prog 40 #[.pointer (some ⟨b,0,none⟩)] w fun e w'=>∃ d at':Nat,e=.returned (.int .i64 d)/\1<=d/\d<=16/\IsTp w' b A cap L at'/\Chg [b] w w':=by
 obtain ⟨w1,aa⟩:=zX (w.alloc (.cells #[.int .i64 8,.int .i64 1,.int .i64 2,.int .i64 4,.int .i64 8,.int .i64 10,.int .i64 12,.int .i64 16,.int .i64 5,.int .i64 8] 3))
 have ab:Blk w1 w.heap.size 3 #[.int .i64 8,.int .i64 1,.int .i64 2,.int .i64 4,.int .i64 8,.int .i64 10,.int .i64 12,.int .i64 16,.int .i64 5,.int .i64 8]:=by rw [aa];exact Blk.new w _ _
 have ai:Chg [] w w1:=by rw [aa];exact (zR [] w).alloc _
 have hn:=next_tp w1 b cap at_ 10 A L (h.fresh ai) (by omega) (by omega)
 have af:w.heap.size≠b:=by have:=h.blk.lt;omega
 have aj:=hid aa
 obtain ⟨B,hB⟩:=zX (w.heap.size)
 rw [<-hB] at ab af
 have HB:=hid hB
 clear aa h hB
 go_enter Tryz.func40,Tryz.ntmps40
 go_wp2_with fail
 rw [<-aj.out,<-HB.out]
 refine hn.mono ?_
 rintro e w2 ⟨k,at',rfl,hk,ak,ae⟩
 obtain ⟨d,hd,ah,ad⟩:=depthL_ok k hk
 have ag:=ab.chg ae (by simpa using af)
 have ac:w2.cell? ⟨B,k,none⟩=some (.int .i64 d):=by
  rw [ag.cell k]
  have e:(#[Value.int .i64 8,.int .i64 1,.int .i64 2,.int .i64 4,.int .i64 8,.int .i64 10,.int .i64 12,.int .i64 16,.int .i64 5,.int .i64 8]:Array Value)=(depthL.map vi).toArray:=rfl
  rw [e,List.getElem?_toArray,zW,hd]
  rfl
 have am:(0:Int)<=(k:Int):=by omega
 have an:(k:Int)<10:=by omega
 have HD:=hid (And.intro ah ad)
 have al:Hid (Chg [b] w w2):=hid ((ai.mono (by simp)).trans_same ae)
 clear hd ag ab hn ah ad
 go_wp2_with fail
 go_ret
 exact ⟨d,at',rfl,HD.out.1,HD.out.2,ak,al.out⟩
def IsRw (w:World) (b:Nat) (s:Nat):Prop:=Blk w b 128 #[.int .i64 s]/\s<2147483648
theorem and_low64 (x:Int) (m:Nat) (hm:m<9223372036854775808):∃ k:Nat,k<=m/\bits .and .i64 x (m:Int)=(k:Int):=by
 refine ⟨(BitVec.ofInt 64 x &&& BitVec.ofInt 64 (m:Int)).toNat,?_,?_⟩
 ·rw [BitVec.toNat_and]
  have e:(BitVec.ofInt 64 (m:Int)).toNat=m:=by
   rw [BitVec.ofInt_natCast,BitVec.toNat_ofNat]
   exact Nat.mod_eq_of_lt (by omega)
  rw [e]
  exact Nat.and_le_right
 ·show IntKind.i64.wrap ((BitVec.ofInt 64 x &&& BitVec.ofInt 64 (m:Int)).toNat:Int)=_
  have aa:(BitVec.ofInt 64 x &&& BitVec.ofInt 64 (m:Int)).toNat<=m:=by
   rw [BitVec.toNat_and]
   have e:(BitVec.ofInt 64 (m:Int)).toNat=m:=by
    rw [BitVec.ofInt_natCast,BitVec.toNat_ofNat]
    exact Nat.mod_eq_of_lt (by omega)
   rw [e]
   exact Nat.and_le_right
  generalize (BitVec.ofInt 64 x &&& BitVec.ofInt 64 (m:Int)).toNat=q at *
  exact IntWalk.i64_in _ (by omega)
theorem next_rw (w:World) (b s n:Nat) (h:IsRw w b s) (hn0:1<=n) (hn1:n<=1073741824) :
  Calls Tryz.prog 81 #[.pointer (some ⟨b,0,none⟩),.int .i64 n] w fun e w'=>∃ v s':Nat,e=.returned (.int .i64 v)/\v<n/\IsRw w' b s'/\Chg [b] w w':=by
 obtain ⟨hb,hs⟩:=h
 have b0:=hb.cell 0
 have f0:=hb.frozen 0
 simp at b0
 obtain ⟨x,hx⟩:=zX (s*1103515245+12345)
 have am:x<4611686018427387904:=by omega
 have ah:(s:Int)*1103515245+12345=(x:Int):=by omega
 obtain ⟨y,hy,aa⟩:=and_low64 (x:Int) 2147483647 (by omega)
 have ae:y<2147483648:=by omega
 have ab:=hb.set_ 0 (.int .i64 y)
 have ag:bits BinOp.and IntKind.i64 (x:Int) 2147483647=(y:Int):=aa
 obtain ⟨z,hz⟩:=zX (y / 256)
 have ak:(y:Int) / 256=(z:Int):=by omega
 have al:z<8388608:=by omega
 obtain ⟨r,hr⟩:=zX (z%n)
 have ac:r<n:=by rw [hr];exact Nat.mod_lt _ (by omega)
 have aj:(z:Int).tmod (n:Int)=(r:Int):=by rw [hr,Int.tmod_eq_emod_of_nonneg (by omega)];simp
 have ad:(n:Int)≠0:=by omega
 have HS:=hid ab
 have ai:=hid hb
 have af:=hid ac
 clear ab hb hx hy hz hr ac aa
 go_enter Tryz.func81,Tryz.ntmps81
 go_wp2
 go_ret
 refine ⟨r,y,rfl,af.out,⟨?_,ae⟩,(zR [b] w).setCell (.inl (by simp)) _⟩
 simpa using HS.out
theorem plane_round {w3 wx w4:World} {b cap a2 d P r i j n rb s:Nat} {A:Option Addr} {L:List Int} {l:List Int} {F:List Nat} {g2 cap2:Nat} {o:Obj}
  (hrw:IsRw wx rb s) (htp:IsTp wx b A cap L a2) (hch:Chg [rb] w3 wx) (hF:∀ x∈F,rb<x) (hll:l.length=i) (hsm:SmpOk d l) (hrP:r<P) (hP:P=2^d)
  (hsz:w3.heap.size<=wx.heap.size) (hs3:w3.heap.size=rb+1) (hb:b<rb) (hap:Apt A L F) (hij:i+(j+1)=n)
  (hr4:Row w4 3 (.slice (some ⟨g2,0,none⟩) (i+1) cap2) g2 (l.map vi++[.int .i64 r])) (gr4:Grow F [g2] (wx.alloc o) w4) :
  ∃ (i' s':Nat) (l':List Int) (F':List Nat),Value.int .i64 ((i:Int)+1)=.int .i64 i'/\i'+j=n/\Own w4 3 (.slice (some ⟨g2,0,none⟩) (i+1) cap2) F' (l'.map vi)/\l'.length=i'/\Hid (SmpOk d l')/\IsRw w4 rb s'/\(∀ x∈F',rb<x)/\IsTp w4 b A cap L a2/\Chg [rb] w3 w4:=by
 have aa:Chg F wx w4:=((zR [] wx).alloc o).mono (by simp) |>.trans_same gr4.chg
 have ab:rb∉F:=fun hm=>by have:=hF rb hm;omega
 have ac:b∉F:=fun hm=>by have:=hF b hm;omega
 refine ⟨i+1,s,l++[(r:Int)],[g2],by simp,by omega,?_,by simp [hll],?_,⟨hrw.1.chg aa ab,hrw.2⟩,?_,?_,?_⟩
 ·have:=hr4.toOwn
  simpa [vi] using this
 ·refine hid ?_
  intro z hz
  rcases zP.1 hz with h1 | h1
  ·exact hsm z h1
  ·simp at h1
   subst h1
   have e:(2:Int)^d=(P:Int):=by rw [hP];simp
   rw [e]
   omega
 ·intro y hy
  simp at hy
  subst hy
  rcases gr4.new y (by simp) with h1 | h1
  ·exact hF y h1
  ·simp at h1
   omega
 ·exact htp.same aa ac hap
 ·exact hch.trans aa fun x hx => .inr (by have:=hF x hx;omega)
theorem plane_tp (w:World) (b cap at_ W H d:Nat) (A:Option Addr) (L:List Int) (h:IsTp w b A cap L at_) (hw0:1<=W) (hw1:W<=64) (hh0:1<=H) (hh1:H<=64) (h0:1<=d) (h1:d<=16) :
  Calls Tryz.prog 41 #[.pointer (some ⟨b,0,none⟩),.int .i64 W,.int .i64 H,.int .i64 d] w fun e w'=>∃ (v:Value) (g:Nat) (l:List Int) (at':Nat),e=.returned v/\Row w' 3 v g (l.map vi)/\l.length=W*H/\SmpOk d l/\IsTp w' b A cap L at'/\Chg [b] w w'/\w.heap.size<=g:=by
 have bc:=next_tp w b cap at_ 7 A L h (by omega) (by omega)
 obtain ⟨n,hn⟩:=zX (W*H)
 have bH:(W:Int)*(H:Int)=(n:Int):=by rw [hn];simp
 have bM:n<=4096:=by rw [hn];exact zL hw1 hh1
 have bF:1<=n:=by rw [hn];exact Nat.mul_pos hw0 hh0
 have bB:n<=64*W:=by rw [hn,zY];exact Nat.mul_le_mul_right W hh1
 obtain ⟨P,hP⟩:=zX (2^d)
 have bQ:(2:Int)^d=(P:Int):=by rw [hP];simp
 have bC:1<=P:=by rw [hP];exact Nat.two_pow_pos d
 have bL:P<=65536:=by rw [hP];exact Nat.pow_le_pow_right (n:=2) (by decide) h1
 have br:(P:Int)≠0:=by omega
 have bu:(W:Int)≠0:=by omega
 have HP:=hid hP
 have HN:=hid hn
 have bE:=h.blk.lt
 rw [<-hn]
 clear hn hP h
 go_enter Tryz.func41,Tryz.ntmps41
 go_wp2_with fail
 refine bc.mono ?_
 rintro e w1 ⟨kd,a1,rfl,bR,aO,aB⟩
 have aR:=next_tp w1 b cap a1 1048576 A L aO (by omega) (by omega)
 clear bc aO
 go_wp2_with fail
 refine aR.mono ?_
 rintro e w2 ⟨sd,a2,rfl,bT,ab,a8⟩
 obtain ⟨rb,aT⟩:=zX (w2.heap.size)
 obtain ⟨w3,aK⟩:=zX (w2.alloc (.cells #[.int .i64 sd] 128))
 have aI:IsRw w3 rb sd:=⟨by rw [aK,aT];exact Blk.new w2 _ _,by omega⟩
 have aD:Hid (∀ F:List Nat,(∀ x∈F,rb<x)->Apt A L F):=hid (fun F hF=>Apt.fresh ab.cells (fun x hx=>by have:=hF x hx;omega))
 have aE:Hid (Apt A L [rb]):=hid (Apt.fresh ab.cells (by simp;omega))
 have aL:IsTp w3 b A cap L a2:=ab.fresh (by rw [aK];exact (zR [] w2).alloc _)
 have aH:=aB.trans_same a8
 have bK:=aH.size
 have aY:Chg [b] w w3:=by rw [aK];exact aH.alloc _
 have an:rb≠b:=by have:=ab.blk.lt;omega
 have am:Hid (b<rb):=hid (by have:=ab.blk.lt;omega)
 have a7:w3.heap.size=rb+1:=by rw [aK,aT];simp
 have bs:=hid aK
 have bn:=hid aT
 have aF:=hid a7
 have a3:w.heap.size<=rb:=by omega
 clear aR ab aB a8 aH aK aT a7
 go_wp2_with fail
 rw [<-bs.out,<-bn.out]
 go_loopg [13,14,15,16,17] n (fun j vo vi' v15 v16 v17 wr=>∃ (i s:Nat) (l:List Int) (F:List Nat),vi'=.int .i64 i/\i+j=n/\Own wr 3 vo F (l.map vi)/\l.length=i/\Hid (SmpOk d l)/\IsRw wr rb s/\(∀ x∈F,rb<x)/\IsTp wr b A cap L a2/\Chg [rb] w3 wr)
 case atStart=>exact ⟨0,sd,[],[],rfl,by omega,Own.nil _ _,rfl,hid (by intro s hs;simp at hs),aI,by simp,aL,zR _ _⟩
 case round =>
  clear aI aL
  obtain ⟨i,s,l,F,rfl,bS,az,aG,aC,aI,hF,aZ,a0⟩:=hrel
  obtain ⟨Ao,co,rfl,bp,bl,_⟩:=az.open_map
  rcases gk with _ | j
  ·obtain rfl:i=n:=by omega
   have a4:Chg [b] w wr:=aY.trans a0 (fun x hx=>by rw [zU.1 hx];exact .inr a3)
   rcases az.cases with ⟨_,a5,_⟩ | ⟨g,a6,rfl⟩
   ·exfalso
    have:=congrArg List.length a5
    rw [zE] at this
    simp at this
    rw [this] at aG
    simp at aG
    omega
   have bA:=hF g (by simp)
   clear az hF
   go_wp2
   go_ret
   exact ⟨_,g,l,a2,rfl,a6,aG,aC.out,aZ,a4,by omega⟩
  ·have bD:i<n:=by omega
   obtain ⟨x,hx⟩:=zX (i%W)
   obtain ⟨y,hy⟩:=zX (i / W)
   have aM:x<64:=by have:=Nat.mod_lt i (show W>0 by omega);omega
   have aN:y<64:=by rw [hy];exact Nat.div_lt_of_lt_mul (by rw [zY];omega)
   have bv:(i:Int)%(W:Int)=(x:Int):=by rw [hx];simp
   have bo:(i:Int) / (W:Int)=(y:Int):=by rw [hy];simp
   have bO:(i:Int).tmod (W:Int)=(x:Int):=by rw [Int.tmod_eq_emod_of_nonneg (by omega)];exact bv
   have bN:(i:Int).tdiv (W:Int)=(y:Int):=by rw [Int.tdiv_eq_ediv_of_nonneg (by omega)];exact bo
   have ba:=fun n (a:1<=n) (b:n<=1073741824) w' (hc:Chg [] wr w')=>next_rw w' rb s n ⟨aI.1.chg hc (by simp),aI.2⟩ a b
   have bb:=hid ba
   have ap:=hid aZ
   have aX:=hid aI
   have ae:Hid (Own wr 3 (.slice Ao i co) F (l.map vi)):=hid (by rw [<-aG];exact az)
   rw [aG]
   have af:=hid aG
   have aj:=hid hF
   have ao:=hid a0
   clear hx hy ba aZ aI az hF a0 aG bp
   go_wp2
   go_quiet (fail)
   obtain ⟨p3,bg⟩:=zX (x / 3)
   obtain ⟨p4,bw⟩:=zX (y / 4)
   have bi:p3<64:=by omega
   have bz:p4<64:=by omega
   have x3:(x:Int) / 3=(p3:Int):=by omega
   have y4:(y:Int) / 4=(p4:Int):=by omega
   have bJ:(x:Int).tdiv 3=(p3:Int):=by rw [Int.tdiv_eq_ediv_of_nonneg (by omega)];exact x3
   have bP:(y:Int).tdiv 4=(p4:Int):=by rw [Int.tdiv_eq_ediv_of_nonneg (by omega)];exact y4
   obtain ⟨xx,aW⟩:=zX (x*x)
   obtain ⟨yy,aV⟩:=zX (y*y)
   have bh:xx<=4096:=by rw [aW];exact zL (Nat.le_of_lt aM) (Nat.le_of_lt aM)
   have bf:yy<=4096:=by rw [aV];exact zL (Nat.le_of_lt aN) (Nat.le_of_lt aN)
   have bq:(x:Int)*(x:Int)=(xx:Int):=by rw [aW];simp
   have bx:(y:Int)*(y:Int)=(yy:Int):=by rw [aV];simp
   obtain ⟨p2,bj⟩:=zX (yy / 2)
   have bm:p2<=4096:=by omega
   have y2:(yy:Int) / 2=(p2:Int):=by omega
   have bG:(yy:Int).tdiv 2=(p2:Int):=by rw [Int.tdiv_eq_ediv_of_nonneg (by omega)];exact y2
   obtain ⟨mm,bd⟩:=zX ((x+3*y)%5)
   have bI:mm<5:=by omega
   have be:((x:Int)+3*(y:Int))%5=(mm:Int):=by omega
   have bk:((x:Int)+3*(y:Int)).tmod 5=(mm:Int):=by rw [Int.tmod_eq_emod_of_nonneg (by omega)];exact be
   clear aW aV bd bj bg bw
   obtain ⟨wy,aQ⟩:=zX (wr.drewN nq)
   have HQ:Hid (Chg [rb] wr wy):=hid (by rw [aQ];exact ((zR [] wr).drewN nq).mono (by simp))
   have a9:=fun n a b=>bb.out n a b wy (by rw [aQ];exact (zR [] wr).drewN nq)
   have ay:Hid (IsRw wy rb s):=hid (by rw [aQ];exact ⟨aX.out.1.drewN _,aX.out.2⟩)
   have aA:=hid a9
   rw [<-aQ]
   clear bb aX a9 aQ
   rcases (by omega:kd=0\/kd=1\/kd=2\/kd=3\/kd=4\/kd=5\/kd=6) with rfl | rfl | rfl | rfl | rfl | rfl | rfl
   ·obtain ⟨v,rfl⟩:=zX (sd)
    obtain ⟨r,hr⟩:=zX (v%P)
    have ak:r<P:=by rw [hr];exact Nat.mod_lt _ (by omega)
    have aw:(v:Int)%(P:Int)=(r:Int):=by rw [hr];simp
    have aJ:(v:Int).tmod (P:Int)=(r:Int):=by rw [Int.tmod_eq_emod_of_nonneg (by omega)];exact aw
    have aa:Chg [rb] wr wy:=HQ.out
    have ad:Own wy 3 (.slice Ao i co) F (l.map vi):=ae.out.chg aa (fun y hy=>by have:=aj.out y hy;simp;omega)
    have ag:=ay
    have ac:=ao.out.trans_same aa
    have ab:=ap.out.same aa (by simpa using an.symm) aE.out
    have ah:=hid ab
    have ai:=hid ac
    have av:=hid ak
    have au:=hid ac.size
    clear hr ak ab aa ac aA ap ae ao HQ ay
    go_wp2_with (at_builtin;refine wpList_append_o1 rfl rfl int_elem rfl rfl (ad.alloc _) (.int .i64 r) rfl ?c1 ?c2 ?c3 ?c4 ?_)
    case c1=>simp [go_sem]
    case c2=>rfl
    case c3=>rw [zE,af.out];omega
    case c4=>rw [zE,af.out];omega
    intro g2 ar w4 al aq
    rw [af.out] at al ⊢
    go_wp2_with fail
    go_roundg j
    case measure=>omega
    case rel=>exact plane_round ag.out ah.out ai.out aj.out af.out aC.out av.out HP.out au.out aF.out am.out (aD.out F aj.out) (by omega) al aq
   ·have ax:=aA.out 65536 (by omega) (by omega)
    rw [show ((65536:Nat):Int)=65536 from rfl] at ax
    go_wp2_with fail
    refine ax.mono ?_
    rintro e wz ⟨q,s1,rfl,hq,aP,aB⟩
    clear ax
    obtain ⟨v,rfl⟩:=zX (q)
    obtain ⟨r,hr⟩:=zX (v%P)
    have ak:r<P:=by rw [hr];exact Nat.mod_lt _ (by omega)
    have aw:(v:Int)%(P:Int)=(r:Int):=by rw [hr];simp
    have aJ:(v:Int).tmod (P:Int)=(r:Int):=by rw [Int.tmod_eq_emod_of_nonneg (by omega)];exact aw
    have aa:Chg [rb] wr wz:=HQ.out.trans_same aB
    have ad:Own wz 3 (.slice Ao i co) F (l.map vi):=ae.out.chg aa (fun y hy=>by have:=aj.out y hy;simp;omega)
    have ag:=hid aP
    have ac:=ao.out.trans_same aa
    have ab:=ap.out.same aa (by simpa using an.symm) aE.out
    have ah:=hid ab
    have ai:=hid ac
    have av:=hid ak
    have au:=hid ac.size
    clear hr ak ab aa ac aA ap ae ao HQ ay
    go_wp2_with (at_builtin;refine wpList_append_o1 rfl rfl int_elem rfl rfl (ad.alloc _) (.int .i64 r) rfl ?c1 ?c2 ?c3 ?c4 ?_)
    case c1=>simp [go_sem]
    case c2=>rfl
    case c3=>rw [zE,af.out];omega
    case c4=>rw [zE,af.out];omega
    intro g2 ar w4 al aq
    rw [af.out] at al ⊢
    go_wp2_with fail
    go_roundg j
    case measure=>omega
    case rel=>exact plane_round ag.out ah.out ai.out aj.out af.out aC.out av.out HP.out au.out aF.out am.out (aD.out F aj.out) (by omega) al aq
   ·have ax:=aA.out 3 (by omega) (by omega)
    rw [show ((3:Nat):Int)=3 from rfl] at ax
    go_wp2_with fail
    refine ax.mono ?_
    rintro e wz ⟨q,s1,rfl,hq,aP,aB⟩
    clear ax
    obtain ⟨v,hv⟩:=zX (sd+3*x+2*y+q)
    have aU:(sd:Int)+3*(x:Int)+2*(y:Int)+(q:Int)=(v:Int):=by omega
    have aS:v<1073741824:=by omega
    clear hv
    obtain ⟨r,hr⟩:=zX (v%P)
    have ak:r<P:=by rw [hr];exact Nat.mod_lt _ (by omega)
    have aw:(v:Int)%(P:Int)=(r:Int):=by rw [hr];simp
    have aJ:(v:Int).tmod (P:Int)=(r:Int):=by rw [Int.tmod_eq_emod_of_nonneg (by omega)];exact aw
    have aa:Chg [rb] wr wz:=HQ.out.trans_same aB
    have ad:Own wz 3 (.slice Ao i co) F (l.map vi):=ae.out.chg aa (fun y hy=>by have:=aj.out y hy;simp;omega)
    have ag:=hid aP
    have ac:=ao.out.trans_same aa
    have ab:=ap.out.same aa (by simpa using an.symm) aE.out
    have ah:=hid ab
    have ai:=hid ac
    have av:=hid ak
    have au:=hid ac.size
    clear hr ak ab aa ac aA ap ae ao HQ ay
    go_wp2_with (at_builtin;refine wpList_append_o1 rfl rfl int_elem rfl rfl (ad.alloc _) (.int .i64 r) rfl ?c1 ?c2 ?c3 ?c4 ?_)
    case c1=>simp [go_sem]
    case c2=>rfl
    case c3=>rw [zE,af.out];omega
    case c4=>rw [zE,af.out];omega
    intro g2 ar w4 al aq
    rw [af.out] at al ⊢
    go_wp2_with fail
    go_roundg j
    case measure=>omega
    case rel=>exact plane_round ag.out ah.out ai.out aj.out af.out aC.out av.out HP.out au.out aF.out am.out (aD.out F aj.out) (by omega) al aq
   ·have ax:=aA.out 5 (by omega) (by omega)
    rw [show ((5:Nat):Int)=5 from rfl] at ax
    go_wp2_with fail
    refine ax.mono ?_
    rintro e wz ⟨q,s1,rfl,hq,aP,aB⟩
    clear ax
    obtain ⟨v,hv⟩:=zX (sd+q*7)
    have aU:(sd:Int)+(q:Int)*7=(v:Int):=by omega
    have aS:v<1073741824:=by omega
    clear hv
    obtain ⟨r,hr⟩:=zX (v%P)
    have ak:r<P:=by rw [hr];exact Nat.mod_lt _ (by omega)
    have aw:(v:Int)%(P:Int)=(r:Int):=by rw [hr];simp
    have aJ:(v:Int).tmod (P:Int)=(r:Int):=by rw [Int.tmod_eq_emod_of_nonneg (by omega)];exact aw
    have aa:Chg [rb] wr wz:=HQ.out.trans_same aB
    have ad:Own wz 3 (.slice Ao i co) F (l.map vi):=ae.out.chg aa (fun y hy=>by have:=aj.out y hy;simp;omega)
    have ag:=hid aP
    have ac:=ao.out.trans_same aa
    have ab:=ap.out.same aa (by simpa using an.symm) aE.out
    have ah:=hid ab
    have ai:=hid ac
    have av:=hid ak
    have au:=hid ac.size
    clear hr ak ab aa ac aA ap ae ao HQ ay
    go_wp2_with (at_builtin;refine wpList_append_o1 rfl rfl int_elem rfl rfl (ad.alloc _) (.int .i64 r) rfl ?c1 ?c2 ?c3 ?c4 ?_)
    case c1=>simp [go_sem]
    case c2=>rfl
    case c3=>rw [zE,af.out];omega
    case c4=>rw [zE,af.out];omega
    intro g2 ar w4 al aq
    rw [af.out] at al ⊢
    go_wp2_with fail
    go_roundg j
    case measure=>omega
    case rel=>exact plane_round ag.out ah.out ai.out aj.out af.out aC.out av.out HP.out au.out aF.out am.out (aD.out F aj.out) (by omega) al aq
   ·obtain ⟨v,hv⟩:=zX (sd+p3*11+p4)
    have aU:(sd:Int)+(p3:Int)*11+(p4:Int)=(v:Int):=by omega
    have aS:v<1073741824:=by omega
    clear hv
    obtain ⟨r,hr⟩:=zX (v%P)
    have ak:r<P:=by rw [hr];exact Nat.mod_lt _ (by omega)
    have aw:(v:Int)%(P:Int)=(r:Int):=by rw [hr];simp
    have aJ:(v:Int).tmod (P:Int)=(r:Int):=by rw [Int.tmod_eq_emod_of_nonneg (by omega)];exact aw
    have aa:Chg [rb] wr wy:=HQ.out
    have ad:Own wy 3 (.slice Ao i co) F (l.map vi):=ae.out.chg aa (fun y hy=>by have:=aj.out y hy;simp;omega)
    have ag:=ay
    have ac:=ao.out.trans_same aa
    have ab:=ap.out.same aa (by simpa using an.symm) aE.out
    have ah:=hid ab
    have ai:=hid ac
    have av:=hid ak
    have au:=hid ac.size
    clear hr ak ab aa ac aA ap ae ao HQ ay
    go_wp2_with (at_builtin;refine wpList_append_o1 rfl rfl int_elem rfl rfl (ad.alloc _) (.int .i64 r) rfl ?c1 ?c2 ?c3 ?c4 ?_)
    case c1=>simp [go_sem]
    case c2=>rfl
    case c3=>rw [zE,af.out];omega
    case c4=>rw [zE,af.out];omega
    intro g2 ar w4 al aq
    rw [af.out] at al ⊢
    go_wp2_with fail
    go_roundg j
    case measure=>omega
    case rel=>exact plane_round ag.out ah.out ai.out aj.out af.out aC.out av.out HP.out au.out aF.out am.out (aD.out F aj.out) (by omega) al aq
   ·obtain ⟨v,hv⟩:=zX (sd+xx+p2)
    have aU:(sd:Int)+(xx:Int)+(p2:Int)=(v:Int):=by omega
    have aS:v<1073741824:=by omega
    clear hv
    obtain ⟨r,hr⟩:=zX (v%P)
    have ak:r<P:=by rw [hr];exact Nat.mod_lt _ (by omega)
    have aw:(v:Int)%(P:Int)=(r:Int):=by rw [hr];simp
    have aJ:(v:Int).tmod (P:Int)=(r:Int):=by rw [Int.tmod_eq_emod_of_nonneg (by omega)];exact aw
    have aa:Chg [rb] wr wy:=HQ.out
    have ad:Own wy 3 (.slice Ao i co) F (l.map vi):=ae.out.chg aa (fun y hy=>by have:=aj.out y hy;simp;omega)
    have ag:=ay
    have ac:=ao.out.trans_same aa
    have ab:=ap.out.same aa (by simpa using an.symm) aE.out
    have ah:=hid ab
    have ai:=hid ac
    have av:=hid ak
    have au:=hid ac.size
    clear hr ak ab aa ac aA ap ae ao HQ ay
    go_wp2_with (at_builtin;refine wpList_append_o1 rfl rfl int_elem rfl rfl (ad.alloc _) (.int .i64 r) rfl ?c1 ?c2 ?c3 ?c4 ?_)
    case c1=>simp [go_sem]
    case c2=>rfl
    case c3=>rw [zE,af.out];omega
    case c4=>rw [zE,af.out];omega
    intro g2 ar w4 al aq
    rw [af.out] at al ⊢
    go_wp2_with fail
    go_roundg j
    case measure=>omega
    case rel=>exact plane_round ag.out ah.out ai.out aj.out af.out aC.out av.out HP.out au.out aF.out am.out (aD.out F aj.out) (by omega) al aq
   ·obtain ⟨v,hv⟩:=zX (sd+mm*9)
    have aU:(sd:Int)+(mm:Int)*9=(v:Int):=by omega
    have aS:v<1073741824:=by omega
    clear hv
    obtain ⟨r,hr⟩:=zX (v%P)
    have ak:r<P:=by rw [hr];exact Nat.mod_lt _ (by omega)
    have aw:(v:Int)%(P:Int)=(r:Int):=by rw [hr];simp
    have aJ:(v:Int).tmod (P:Int)=(r:Int):=by rw [Int.tmod_eq_emod_of_nonneg (by omega)];exact aw
    have aa:Chg [rb] wr wy:=HQ.out
    have ad:Own wy 3 (.slice Ao i co) F (l.map vi):=ae.out.chg aa (fun y hy=>by have:=aj.out y hy;simp;omega)
    have ag:=ay
    have ac:=ao.out.trans_same aa
    have ab:=ap.out.same aa (by simpa using an.symm) aE.out
    have ah:=hid ab
    have ai:=hid ac
    have av:=hid ak
    have au:=hid ac.size
    clear hr ak ab aa ac aA ap ae ao HQ ay
    go_wp2_with (at_builtin;refine wpList_append_o1 rfl rfl int_elem rfl rfl (ad.alloc _) (.int .i64 r) rfl ?c1 ?c2 ?c3 ?c4 ?_)
    case c1=>simp [go_sem]
    case c2=>rfl
    case c3=>rw [zE,af.out];omega
    case c4=>rw [zE,af.out];omega
    intro g2 ar w4 al aq
    rw [af.out] at al ⊢
    go_wp2_with fail
    go_roundg j
    case measure=>omega
    case rel=>exact plane_round ag.out ah.out ai.out aj.out af.out aC.out av.out HP.out au.out aF.out am.out (aD.out F aj.out) (by omega) al aq
theorem depth24_yes (c:Nat) (w:World) (h0:1<=c) (h1:c<=16):Calls Tryz.prog 74 #[.int .i64 c] w fun e w'=>e=.returned (.bool true)/\w=w':=by
 have t1:decide ((1:Int)<=(c:Int))=true:=zB (by omega)
 have t2:decide ((c:Int)<=16)=true:=zB (by omega)
 go_enter Tryz.func74,Tryz.ntmps74
 go_wp2
 go_ret
 exact ⟨rfl,rfl⟩
theorem wrap24_ok (v:Int) (d:Nat) (w:World) (h0:1<=d) (h1:d<=16):Calls Tryz.prog 29 #[.int .i64 v,.int .i64 d] w fun e w'=>e=.returned (.int .i64 (wrapI v d))/\w=w':=by
 obtain ⟨ac,ab⟩:=pow_d h0 h1
 have hm:=band_mask v (i:=d) (by omega)
 have aa:=depth24_yes d w h0 h1
 have HM:=hid hm
 clear hm
 go_enter Tryz.func29,Tryz.ntmps29
 go_wp2_with fail
 refine aa.mono ?_
 rintro e w1 ⟨rfl,rfl⟩
 go_wp2
 go_ret
 exact ⟨congrArg (fun z=>Ending.returned (.int .i64 z)) HM.out,rfl⟩
theorem tape_new (w:World) (A:Option Addr) (cap:Nat) (L:List Int) (hc:Cells vi w A L) (hin:∀ x∈L,In64 x) (hlen:L.length<=9223372036854775807) :
  Calls Tryz.prog 9 #[.slice A L.length cap] w fun e w'=>∃ b,e=.returned (.pointer (some ⟨b,0,none⟩))/\IsTp w' b A cap L 0/\Chg [] w w'/\w.heap.size<=b:=by
 have HC:=hid hc
 have HI:=hid hin
 clear hc hin
 go_enter Tryz.func9,Tryz.ntmps9
 go_wp2
 go_ret
 have ch:Chg [] w (w.alloc (.cells #[.slice A L.length cap,.int .i64 0] 82)):=(zR [] w).alloc _
 exact ⟨w.heap.size,rfl,⟨Blk.new w _ _,HC.out.chg ch (by simp),Apt.fresh HC.out (by simp),HI.out,Nat.zero_le _,hlen⟩,ch,zQ _⟩
theorem ints_ok (w:World) (A B:Option Addr) (ca cb:Nat) (la lb:List Int) (hA:Cells vi w A la) (hB:Cells vi w B lb) (ha:la.length<=4096) (hb:lb.length<=4611686018427387904) :
  Calls Tryz.prog 104 #[.slice A la.length ca,.slice B lb.length cb] w fun e w'=>e=.returned (.bool (decide (la=lb)))/\∃ q,w'=w.drewN q:=by
 by_cases hne:la.length=lb.length
 ·obtain ⟨n,hn⟩:=zX (la.length)
  have ac:lb.length=n:=by rw [hn,hne]
  rw [ac]
  rw [<-hn] at ha ⊢
  have HA:=hid hn
  have HB:=hid ac
  clear hn ac hne hb
  have t1:((n:Int)==(n:Int))=true:=by simp
  have t2:((n:Int) != (n:Int))=false:=by simp
  go_enter Tryz.func104,Tryz.ntmps104
  go_wp2_with fail
  go_loopg [5] n (fun j iv wr=>∃ i q:Nat,iv=.int .i64 i/\i+j=n/\Hid (la.take i=lb.take i)/\wr=w.drewN q)
  case atStart=>exact ⟨0,0,rfl,by omega,hid rfl,rfl⟩
  case round =>
   obtain ⟨i,q,rfl,aj,HT,rfl⟩:=hrel
   rcases gk with _ | j
   ·obtain rfl:i=n:=by omega
    have ht:=HT.out
    rw [zT (by rw [<-HA.out];exact zQ _),zT (by rw [HB.out];exact zQ _)] at ht
    have hE:Hid (decide (la=lb)=true):=hid (zB ht)
    clear ht
    go_wp2
    go_ret
    exact ⟨by rw [hE.out];rfl,q,rfl⟩
   ·have ad:i<n:=by omega
    have af:i<la.length:=by rw [<-HA.out];exact ad
    have ae:i<lb.length:=by rw [HB.out];exact ad
    obtain ⟨ga,oa,rfl,aa⟩:=hA.at_ af
    obtain ⟨gb,ob,rfl,ab⟩:=hB.at_ ae
    obtain ⟨x,hx⟩:=zX (la[i])
    obtain ⟨y,hy⟩:=zX (lb[i])
    rw [<-hx] at aa
    rw [<-hy] at ab
    have cA:w.cell? ⟨ga,oa+i,none⟩=some (.int .i64 x):=aa
    have cB:w.cell? ⟨gb,ob+i,none⟩=some (.int .i64 y):=ab
    have HX:=hid hx
    have HY:=hid hy
    have ah:=hid af
    have ag:=hid ae
    have ai:=hid hA
    have ak:=hid hB
    clear hx hy aa ab hA hB
    go_wp2
    go_quiet (fail)
    by_cases hxy:x=y
    ·subst hxy
     have t5:(x != x)=false:=by simp
     go_wp2
     go_roundg j
     case measure=>omega
     case rel =>
      refine ⟨i+1,q+nq,by go_num,by omega,hid ?_,by first | rfl | rw [World.drewN_drewN]⟩
      rw [List.take_succ_eq_append_getElem ah.out,List.take_succ_eq_append_getElem ag.out,HT.out,<-HX.out,<-HY.out]
    ·have t5:(x != y)=true:=by simpa using hxy
     have hd:decide (la=lb)=false:=zA fun e=>hxy (by rw [HX.out,HY.out];subst e;rfl)
     have HD:=hid hd
     clear hd
     go_wp2
     go_ret
     exact ⟨by rw [HD.out];rfl,q+nq,by first | rfl | rw [World.drewN_drewN]⟩
 ·have hd:decide (la=lb)=false:=zA fun e=>hne (by rw [e])
  rw [hd]
  have t1:((la.length:Int)==(lb.length:Int))=false:=by simpa using (by omega:¬ (la.length:Int)=lb.length)
  have t2:(la.length==lb.length)=false:=by simpa using hne
  go_enter Tryz.func104,Tryz.ntmps104
  go_wp2
  go_ret
  exact ⟨rfl,0,rfl⟩
theorem small_flat {c:Int} {n d W H:Nat} (hn:0<n):costK (bestKind (List.replicate n c) W H d) (List.replicate n c) W H d<=3+d:=by
 have hm:mayB 0 (List.replicate n c) W d=true:=flat_may W d (by simpa using hn) (fun x hx=>List.eq_of_mem_replicate hx)
 have:=(bestKind_ok (List.replicate n c) W H d).2.2 0 (by omega) hm
 rw [flat_cost] at this
 exact this
theorem small_any (l:List Int) (W H d:Nat):costK (bestKind l W H d) l W H d<=3+d*l.length:=by
 have:=(bestKind_ok l W H d).2.2 1 (by omega) (mayB_one _ _ _)
 rw [plain_cost] at this
 exact this
theorem rows24_ok {w:World} {p q:PicD} {g o:Nat} {B:Nat->Option Addr} {c:Nat->Nat} {G:List Nat} (cap:Nat) (h:PicAt w p g o B c G)
  {g' o':Nat} {B':Nat->Option Addr} {c':Nat->Nat} {G':List Nat} (cap':Nat) (h':PicAt w q g' o' B' c' G') (hP:p.P=q.P) (hW:p.W=q.W) (hH:p.H=q.H) :
  Calls Tryz.prog 73 #[.slice (some ⟨g,o,none⟩) p.P.length cap,.slice (some ⟨g',o',none⟩) q.P.length cap'] w fun e w'=>e=.returned (.bool true)/\Chg [] w w':=by
 have ac:=h.ok
 obtain ⟨N,hN⟩:=zX (p.W*p.H)
 have aa:∀ wr,Chg [] w wr->∀ i,i<p.P.length->wr.cell? ⟨g,o+i,none⟩=some (.slice (B i) N (c i))/\wr.cell? ⟨g',o'+i,none⟩=some (.slice (B' i) N (c' i))/\∀ wz,Chg [] w wz->Calls Tryz.prog 104 #[.slice (B i) N (c i),.slice (B' i) N (c' i)] wz fun e w'=>e=.returned (.bool true)/\∃ q,w'=wz.drewN q:=by
  intro wr hc i hi
  have h1:=(h.same hc).cell i hi
  have h2:=(h'.same hc).cell i (by rw [<-hP];exact hi)
  rw [<-hN] at h1
  rw [<-hW,<-hH,<-hN] at h2
  refine ⟨h1,h2,fun wz hz => ?_⟩
  have e1:=h.len hi
  have e2:=h'.len (i:=i) (by rw [<-hP];exact hi)
  have k1:=(h.same hz).cells i hi
  have k2:=(h'.same hz).cells i (by rw [<-hP];exact hi)
  rw [<-hP] at k2 e2
  have h3:=ints_ok wz (B i) (B' i) (c i) (c' i) _ _ k1 k2 (by rw [e1];exact ac.area) (by rw [e1];have:=ac.area;omega)
  rw [e1,<-hN] at h3
  simpa using h3
 rw [<-hP]
 obtain ⟨n,hn⟩:=zX (p.P.length)
 have ae:n<=4:=by rw [hn];exact ac.n1
 rw [<-hn] at aa ⊢
 have HC:=hid aa
 have t0:((n:Int) != (n:Int))=false:=by simp
 clear aa hn ac h h' hP hW hH hN
 go_enter Tryz.func73,Tryz.ntmps73
 go_wp2_with fail
 go_loopg [5] n (fun j v5 wr=>∃ i:Nat,v5=.int .i64 i/\i+j=n/\Hid (Chg [] w wr))
 case atStart=>exact ⟨0,rfl,by omega,hid (zR _ _)⟩
 case round =>
  obtain ⟨i,rfl,af,ab⟩:=hrel
  rcases gk with _ | j
  ·obtain rfl:i=n:=by omega
   have t1:decide (i<i)=false:=by simp
   go_wp2
   go_ret
   exact ⟨rfl,ab.out⟩
  ·have hi:i<n:=by omega
   have t1:decide (i<n)=true:=zB hi
   obtain ⟨c1,c2,ad⟩:=HC.out wr ab.out i hi
   have HI:Hid (∀ k,Calls Tryz.prog 104 #[.slice (B i) N (c i),.slice (B' i) N (c' i)] (wr.drewN k) fun e w'=>e=.returned (.bool true)/\∃ q,w'=wr.drewN q):=hid (fun k=>(ad (wr.drewN k) (ab.out.drewN k)).mono fun e w' h=>by
    obtain ⟨h1,q,h2⟩:=h
    exact ⟨h1,k+q,by rw [h2,World.drewN_drewN]⟩)
   clear ad
   go_wp2_with fail
   go_quiet ((go_at_call 104;exact HI.out _))
   go_wp2_with fail
   go_roundg j
   case measure=>omega
   case rel=>exact ⟨i+1,by go_num,by omega,hid (ab.out.drewN nq)⟩
theorem picSame_ok {w:World} {p q:PicD} {g o:Nat} {B:Nat->Option Addr} {c:Nat->Nat} {G:List Nat} (cap:Nat) (h:PicAt w p g o B c G)
  {g' o':Nat} {B':Nat->Option Addr} {c':Nat->Nat} {G':List Nat} (cap':Nat) (h':PicAt w q g' o' B' c' G') (hP:p.P=q.P) (hW:p.W=q.W) (hH:p.H=q.H) (hd:p.d=q.d) :
  Calls Tryz.prog 26 #[picV p g o cap,picV q g' o' cap'] w fun e w'=>e=.returned (.bool true)/\Chg [] w w':=by
 have hr:=fun w' (hc:Chg [] w w')=>rows24_ok cap (h.same hc) cap' (h'.same hc) hP hW hH
 unfold picV
 rw [<-hW,<-hH,<-hd]
 have ac:Blk (w.alloc (.cells #[.int .i64 p.W,.int .i64 p.H,.int .i64 p.d,.slice (some ⟨g,o,none⟩) p.P.length cap] 27)) w.heap.size 27 #[.int .i64 p.W,.int .i64 p.H,.int .i64 p.d,.slice (some ⟨g,o,none⟩) p.P.length cap]:=Blk.new w _ _
 have aa:Chg [] w ((w.alloc (.cells #[.int .i64 p.W,.int .i64 p.H,.int .i64 p.d,.slice (some ⟨g,o,none⟩) p.P.length cap] 27)).alloc (.cells #[.int .i64 p.W,.int .i64 p.H,.int .i64 p.d,.slice (some ⟨g',o',none⟩) q.P.length cap'] 27)):=((zR [] w).alloc _).alloc _
 have ab:=hr _ aa
 have HR:=hid ab
 have HC:=hid aa
 clear hr ab ac aa h h' hW hH hd hP
 go_enter Tryz.func26,Tryz.ntmps26
 go_wp2_with fail
 refine HR.out.mono ?_
 rintro e w2 ⟨rfl,ad⟩
 go_wp2
 go_ret
 exact ⟨rfl,HC.out.trans_same ad⟩
end Go.Proofs.YtepjepkgcdfboaaGreatDoor
