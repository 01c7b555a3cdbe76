/- package prefix by its contracts, the eighth part: Put, PutTable. -/
import Derived.Test.YtepjepkgcdfboaaGreatDoorMg15
import Derived.Test.YtepjepkgcdfboaaGreatDoorMg26
import Derived.Deep.CutRange
set_option linter.unusedVariables false
set_option linter.unusedSimpArgs false
set_option maxHeartbeats 4000000
set_option maxRecDepth 100000
namespace Go.Proofs.YtepjepkgcdfboaaGreatDoor
open Go.RowKit
theorem e9l (w:World) (b:Nat) (F bs:List Nat) (lens l:List Nat) (A Al:Option Addr) (cap capl:Nat) (h:a2n w b F bs) (hf:b3p lens) (hc:a0d i64 w A lens) (hA:Apt A lens F) (hl:l.length<=4096) (hcl:a0d i64 w Al l) (hAl:Apt Al l F)
  (hs:∀ s∈l,s<lens.length/\0<a0g lens s) (hbs:bs.length<137438953472) :
  Calls Tryz.prog 170 #[.pointer (some ⟨b,0,none⟩),.slice A lens.length cap,.slice Al l.length capl] w fun e w'=>e=.returned (.int .i64 0)/\∃ F',a2n w' b F' (bs++a1z lens l)/\a0u F F' w w':=by
 have aq:=d5j lens A cap w hf hc
 have aC:=h.lt
 obtain ⟨n,hn⟩:=zX (lens.length)
 obtain ⟨m,hm⟩:=zX (l.length)
 have aT:=hf.n1
 have aS:=hf.n2
 rw [<-hn] at aq hs aT aS ⊢
 rw [<-hm] at hl ⊢
 have HN:=hid hn
 have HM:=hid hm
 have HS:=hid hs
 have HF:=hid hf
 have HA:=hid hA
 have aX:=hid hAl
 have az:=hid aC
 clear hn hm hs hf hA hAl aC
 go_enter Tryz.func170,Tryz.ntmps170
 go_wp2_with fail
 refine aq.mono ?_
 rintro e w1 ⟨vw,gw,rfl,af,ab,a2⟩
 obtain ⟨cw,rfl,av,aU,ah,_⟩:=af.oq
 have aD:(b0d lens).length=n:=by rw [HN.out];exact a3s lens _
 rw [aD] at av ⊢
 have aO:=ab.size
 have aW:=hid ah
 clear aq aD ah
 go_wp2_with fail
 go_loopg [10,23] m (fun j v10 iv wr=>∃ (i:Nat),iv=.int .i64 i/\i+j=m/\wr=w1)
 case atStart=>exact ⟨0,rfl,by omega,rfl⟩
 case round =>
  obtain ⟨i,rfl,a1,aM⟩:=hrel
  obtain rfl:=aM.symm
  rcases gk with _ | j
  ·obtain rfl:i=m:=by omega
   go_wp2_with fail
   go_loopg [12,45] i (fun j v12 iv wr2=>∃ (q:Nat) (F' ak:List Nat),iv=.int .i64 q/\q+j=i/\a2n wr2 b F' ak/\Hid (ak=bs++a1z lens (l.take q))/\ak.length<=bs.length+24*q/\a0u F F' w1 wr2)
   case atStart=>exact ⟨0,F,bs,rfl,by omega,h.same ab,hid (by simp [a1z]),by omega,a0u.refl F _⟩
   case round =>
    obtain ⟨q,F',ak,rfl,a3,aE,Hb,a4,ac⟩:=hrel
    rcases gk with _ | j
    ·obtain rfl:q=i:=by omega
     go_wp2
     go_ret
     refine ⟨rfl,F',?_,a0u.pre ab ac⟩
     have e:l.take q=l:=by rw [HM.out,zN]
     have h5:=Hb.out
     rw [e] at h5
     rw [<-h5]
     exact aE
    ·have aL:q<i:=by omega
     have an:q<l.length:=by rw [<-HM.out];exact aL
     have aa:0<lens.length:=by rw [<-HN.out];omega
     obtain ⟨gl,ol,rfl,cl⟩:=d1d ((hcl.same ab).keep aX.out ac.chg) an
     obtain ⟨ad,am⟩:=HS.out l[q] (zG an)
     have ag:=c8n lens (l.take q) l[q]
     rw [<-a0o l an] at ag
     obtain ⟨s,al⟩:=zX (l[q])
     rw [<-al] at cl ad am ag
     have ae:=d2h HF.out am
     have aJ:a0g lens s<=24:=by
      unfold a0g
      rw [zD,zF (by rw [<-HN.out];exact ad)]
      exact HF.out.le _ (zG _)
     have aH:b2f lens s=a0b (a5i lens s) (a0g lens s):=rfl
     rw [aH] at ag
     -- the cells of the two tables
     have aG:=(hc.same ab).keep HA.out ac.chg
     obtain ⟨gt,ot,rfl,aA,ai⟩:=aG.ex aa
     have ct:=ai s (a0g lens s) (by unfold a0g;rw [zD,zF (by rw [<-HN.out];exact ad)];rfl)
     have aj:=aW.out s (a5i lens s) (by unfold a5i;rw [zD,zF (by unfold b0d;rw [a3s,<-HN.out];exact ad)];rfl)
     have ax:gw∉F':=ac.out af.lt (fun hm=>by have:=az.out _ hm;omega)
     have au:gt∉F':=fun hm=>by
      have h8:=(HA.out.grow (hc.same ab) ac) aa _ rfl
      exact h8 hm
     have aY:wr.cell? ⟨gw,s,none⟩=some (.int .u64 (a5i lens s:Int)):=(World.cell?_of_block (w:=w1) (ac.chg.block gw af.lt (fun hm=>by have:=az.out _ hm;omega))).trans aj
     have aF:wr.cell? ⟨gt,ot+s,none⟩=some (.int .i64 (a0g lens s:Int)):=ct
     have aZ:wr.cell? ⟨gl,ol+q,none⟩=some (.int .i64 s):=cl
     have aI:a5i lens s<16777216:=Nat.lt_of_lt_of_le ae (Nat.le_trans (Nat.pow_le_pow_right (n:=2) (by decide) aJ) (by decide))
     generalize a5i lens s=wd at *
     generalize a0g lens s=L at *
     have hS:∀ w',Chg F' wr w'->w'.cell? ⟨gw,s,none⟩=some (.int .u64 wd)/\w'.cell? ⟨gt,ot+s,none⟩=some (.int .i64 L):=fun w' hc' =>
      ⟨(World.cell?_of_block (w:=wr) (hc'.block gw (Nat.lt_of_lt_of_le af.lt ac.size) ax)).trans aY,(World.cell?_of_block (w:=wr) (hc'.block gt aA au)).trans aF⟩
     have aB:=hid hS
     have aK:=hid ag
     have ao:=hid ae
     have aR:(0:Int)<=(q:Int):=by omega
     have aQ:(q:Int)<(i:Int):=by omega
     have aV:(0:Int)<=(s:Int):=by omega
     have aP:(s:Int)<(n:Int):=by omega
     have a0:=hid af
     clear hS ag ae ai ct cl aj al aH an aa aG af
     go_wp2_with fail
     have ar:=fun w9 (hc9:Chg [] wr w9)=>a0t w9 b F' ak wd L (aE.same hc9) (by omega) ao.out (by omega)
     go_region_held3 (fun w'=>w'.cell? ⟨gw,s,none⟩=some (.int .u64 wd)/\w'.cell? ⟨gt,ot+s,none⟩=some (.int .i64 L)) (first | (go_keep;done) | exact aB.out _ (((zR F' wr).drew).tq (a0u.chg (by assumption))) | exact aB.out _ (a0u.chg (by assumption)))
      (first | (go_at_call 15;refine (ar _ (by first | exact zR _ _ | exact (zR [] wr).drew | exact (zR [] wr).drewN _)).mono ?_;rintro e w5 ⟨rfl,F5,ap,aw⟩))
     go_wp2_with fail
     go_roundg j
     case measure=>omega
     case rel =>
      refine ⟨q+1,F5,_,by go_num,by omega,ap,hid ?_,?_,ac.trans (a0u.pre ((zR [] wr).drew) aw)⟩
      ·rw [aK.out,Hb.out];simp only [zH]
      ·rw [zC,a0a];omega
  ·have aN:i<m:=by omega
   have ay:i<l.length:=by rw [<-HM.out];exact aN
   obtain ⟨gl,ol,rfl,cl⟩:=d1d (hcl.same ab) ay
   obtain ⟨ad,am⟩:=HS.out l[i] (zG ay)
   have aa:0<lens.length:=by rw [<-HN.out];omega
   obtain ⟨s,al⟩:=zX (l[i])
   rw [<-al] at cl ad am
   obtain ⟨gt,ot,rfl,aA,ai⟩:=(hc.same ab).ex aa
   have ct:=ai s (a0g lens s) (by unfold a0g;rw [zD,zF (by rw [<-HN.out];exact ad)];rfl)
   have aF:w1.cell? ⟨gt,ot+s,none⟩=some (.int .i64 (a0g lens s:Int)):=ct
   have t1:decide ((s:Int)<0)=false:=zA (by omega)
   have t2:decide ((n:Int)<=(s:Int))=false:=zA (by omega)
   have t3:((a0g lens s:Int)==0)=false:=by rw [beq_eq_false_iff_ne];omega
   have aR:(0:Int)<=(i:Int):=by omega
   have aQ:(i:Int)<(m:Int):=by omega
   have aV:(0:Int)<=(s:Int):=by omega
   have aP:(s:Int)<(n:Int):=by omega
   generalize a0g lens s=L at *
   clear ct ai al ay aa
   go_wp2_with fail
   go_roundg j
   case measure=>omega
   case rel=>exact ⟨i+1,by go_num,by omega,rfl⟩
theorem c2l (w:World) (b:Nat) (F bs:List Nat) (lens:List Nat) (A:Option Addr) (cap:Nat) (h:a2n w b F bs) (hf:b3p lens) (hc:a0d i64 w A lens) (hA:Apt A lens F) (hbs:bs.length<137438953472) :
  Calls Tryz.prog 169 #[.pointer (some ⟨b,0,none⟩),.slice A lens.length cap] w fun e w'=>e=.returned (.int .i64 0)/\∃ F',a2n w' b F' (bs++a3u lens)/\a0u F F' w w':=by
 have ar:=d5x lens A cap w hf hc
 have aP:=hf.n1
 have aO:=hf.n2
 have aF:=hf.le
 have av:=b8q lens
 obtain ⟨n,hn⟩:=zX (lens.length)
 rw [<-hn] at ar aP aO av ⊢
 rw [av]
 have HN:=hid hn
 have HA:=hid hA
 have aJ:=hid aF
 have al:=fun i=>f4s 66 (lens.drop i)
 have aE:=fun i=>d2j 66 (lens.drop i)
 have aC:=fun i=>e6n 66 (lens.drop i)
 have aA:=fun i=>f3d 66 (lens.drop i)
 have au:=hid al
 have aT:=hid aE
 have aH:=hid aC
 have aU:=hid aA
 clear hn hA av aF hf al aE aC aA
 have k1:IntKind.u64.wrap ((n:Int)-1)=((n-1:Nat):Int):=by
  have e:((n-1:Nat):Int)=(n:Int)-1:=by omega
  rw [e]
  exact IntWalk.u64_in _ (by omega)
 go_enter Tryz.func169,Tryz.ntmps169
 go_wp2_with fail
 refine ar.mono ?_
 rintro e w' ⟨rfl,rfl⟩
 go_wp2_with fail
 refine (a0t w b F bs (n-1) 10 h (by omega) (by omega) (by omega)).mono ?_
 rintro e w1 ⟨rfl,F1,ai,ak⟩
 clear h ar
 go_wp2_with fail
 go_loopg [5,6] n (fun k vi' vz wr=>∃ (i:Nat) (F' ag:List Nat),vi'=.int .i64 i/\i<=n/\n<=i+k/\a2n wr b F' ag/\Hid (ag++a3m lens i=bs++(a0b (n-1) 10++a3m lens 0))/\ag.length<=bs.length+10+11*i/\a0u F F' w wr)
 case atStart=>exact ⟨0,F1,_,rfl,by omega,by omega,ai,hid (by rw [zH]),by rw [zC,a0a];omega,ak⟩
 case round =>
  clear ai ak
  obtain ⟨wk,rfl⟩:=zX (wr)
  obtain ⟨i,F',ag,rfl,az,a1,aq,Hb,a0,am⟩:=hrel
  by_cases hend:n<=i
  ·obtain rfl:i=n:=by omega
   go_wp2
   go_ret
   refine ⟨rfl,F',?_,am⟩
   have h5:=Hb.out
   have e:=b7x lens
   rw [<-HN.out] at e
   rw [e,List.append_nil] at h5
   rw [<-h5]
   exact aq
  ·rcases gk with _ | ko
   ·omega
   ·have hi:i<n:=by omega
    obtain ⟨Z,hZ⟩:=zX (zr 66 (lens.drop i))
    have z1:=au.out i
    have z2:=aT.out i
    have z3:=aH.out i
    have z4:=aU.out i
    rw [<-hZ] at z1 z2 z3 z4
    rw [zO,<-HN.out] at z2 z4
    have aw:∀ z,(lens.drop i).getD z 0=a0g lens (i+z):=fun z=>by
     unfold a0g
     rw [zD,List.getElem?_drop,<-zD]
    have ad:0<lens.length:=by rw [<-HN.out];omega
    obtain ⟨gt,ot,rfl,aV,ax⟩:=(hc.keep HA.out am.chg).ex ad
    have ac:∀ s,s<n->wk.cell? ⟨gt,ot+s,none⟩=some (.int .i64 (a0g lens s:Int)):=fun s hs=>by
     have:=ax s (a0g lens s) (by unfold a0g;rw [zD,zF (by rw [<-HN.out];exact hs)];rfl)
     exact this
    have ab:=b7y (lens:=lens) (i:=i) (by rw [<-HN.out];exact hi)
    have aa:=b4w (lens:=lens) (i:=i) (by rw [<-HN.out];exact hi)
    rw [<-hZ] at ab aa
    have aN:a0g lens i<=24:=by
     unfold a0g
     rw [zD,zF (by rw [<-HN.out];exact hi)]
     exact aJ.out _ (zG _)
    have HC:=hid ac
    have HZ:=hid hZ
    have Z3:Hid (∀ z,z<Z->a0g lens (i+z)=0):=hid fun z hz=>by rw [<-aw];exact z3 z hz
    have Z4:Hid (Z=66\/Z=n-i\/a0g lens (i+Z)≠0):=hid (by rw [<-aw];exact z4)
    have ao:=hid ab
    have aj:=hid aa
    have aX:=hid az
    clear ac hZ z3 z4 aw ax ab aa ad hend az
    go_wp2_with fail
    go_loopg [6] Z (fun k vz wz=>∃ z:Nat,vz=.int .i64 z/\z+k=Z/\wz=wk)
    case atStart=>exact ⟨0,rfl,by omega,rfl⟩
    case round =>
     obtain ⟨z,rfl,aZ,ay⟩:=hrel
     obtain rfl:=ay.symm
     clear ay
     rcases gk with _ | j
     ·obtain rfl:z=Z:=by omega
      go_upto_region 7 with fail
      go_cut [38] from 20 to 40 (fun s38 wx=>s38=.bool false/\wx=wk)
      case first =>
       by_cases q1:z=66
       ·have t1:decide ((z:Int)<66)=false:=zA (by omega)
        clear q1
        go_wp2
        go_meet
        case rel=>exact ⟨rfl,rfl⟩
       ·have t1:decide ((z:Int)<66)=true:=zB (by omega)
        by_cases q2:i+z<n
        ·have aR:a0g lens (i+z)≠0:=by
          rcases Z4.out with h | h | h
          ·omega
          ·omega
          ·exact h
         have cz:=HC.out (i+z) q2
         obtain ⟨q,hq⟩:=zX (i+z)
         rw [<-hq] at cz q2 aR
         have aS:(i:Int)+(z:Int)=(q:Int):=by omega
         have t2:decide ((q:Int)<(n:Int))=true:=zB (by omega)
         have t3:((a0g lens q:Int)==0)=false:=by rw [beq_eq_false_iff_ne];omega
         have aB:(0:Int)<=(q:Int):=by omega
         generalize a0g lens q=L at *
         clear hq q1
         go_wp2
         go_meet
         case rel=>exact ⟨rfl,rfl⟩
        ·have t2:decide ((i:Int)+(z:Int)<(n:Int))=false:=zA (by omega)
         clear q1
         go_wp2
         go_meet
         case rel=>exact ⟨rfl,rfl⟩
      case rest =>
       obtain ⟨rfl,h9⟩:=hcut
       obtain rfl:=h9.symm
       clear h9
       by_cases hz3:z<3
       ·have t1:decide ((z:Int)<3)=true:=zB (by omega)
        have ab:=ao.out hz3
        have ci:=HC.out i hi
        have ah:a0g lens i<2^5:=by omega
        have aQ:a0g lens i<32:=by omega
        generalize a0g lens i=x at *
        have aB:(0:Int)<=(i:Int):=by omega
        have aY:(i:Int)<(n:Int):=by omega
        have HO:=hid ab
        have HX:=hid ah
        clear ab hz3 ah
        go_wp2_with fail
        refine (a0t wk b F' ag x 5 aq (by omega) HX.out (by omega)).mono ?_
        rintro e w5 ⟨rfl,F5,ae,af⟩
        go_wp2_with fail
        go_roundg ko
        case measure=>omega
        case rel =>
         refine ⟨i+1,F5,_,by go_num,by omega,by omega,ae,hid ?_,?_,am.trans af⟩
         ·rw [<-Hb.out,HO.out,zH]
         ·rw [zC,a0a];omega
       ·have t1:decide ((z:Int)<3)=false:=zA (by omega)
        have aa:=aj.out hz3
        obtain ⟨y,hy⟩:=zX (z-3)
        rw [<-hy] at aa
        have a2:(z:Int)-3=(y:Int):=by omega
        have aW:IntKind.u64.wrap (y:Int)=(y:Int):=IntWalk.u64_in _ (by omega)
        have aG:y<2^6:=by omega
        have HO:=hid aa
        have HY:=hid aG
        have aK:y<=63:=by omega
        have aI:3<=z:=by omega
        have aM:i+z<=n:=by omega
        clear aa hz3 aG hy
        go_wp2_with fail
        refine (a0t wk b F' ag 31 5 aq (by omega) (by omega) (by omega)).mono ?_
        rintro e w5 ⟨rfl,F5,ae,af⟩
        go_wp2_with fail
        refine (a0t w5 b F5 _ y 6 ae (by omega) HY.out (by rw [zC,a0a];omega)).mono ?_
        rintro e w6 ⟨rfl,F6,ap,an⟩
        go_wp2_with fail
        go_roundg ko
        case measure=>omega
        case rel =>
         refine ⟨i+z,F6,_,by go_num,by omega,by omega,ap,hid ?_,?_,(am.trans af).trans an⟩
         ·rw [<-Hb.out,HO.out];simp only [zH]
         ·rw [zC,zC,a0a,a0a];omega
     ·have aL:z<Z:=by omega
      have t1:decide ((z:Int)<66)=true:=zB (by omega)
      have aD:i+z<n:=by omega
      have cz:=HC.out (i+z) aD
      rw [Z3.out z aL] at cz
      obtain ⟨q,hq⟩:=zX (i+z)
      rw [<-hq] at cz aD
      have aS:(i:Int)+(z:Int)=(q:Int):=by omega
      have t2:decide ((q:Int)<(n:Int))=true:=zB (by omega)
      have aB:(0:Int)<=(q:Int):=by omega
      clear hq
      go_wp2_with fail
      go_roundg j
      case measure=>omega
      case rel=>exact ⟨z+1,by go_num,by omega,rfl⟩
theorem c1o (ns:List Nat) (h:ns≠[]):Lib.maxOf (ns.map Int.ofNat)=((b3k ns:Nat):Int):=by
 have aa:∀ (l:List Nat) (a:Nat),(l.map Int.ofNat).foldl max (a:Int)=((l.foldl max a:Nat):Int):=by
  intro l
  induction l with
  | nil=>intro a;rfl
  | cons x l ih =>
   intro a
   have e:max (a:Int) (Int.ofNat x)=((max a x:Nat):Int):=by
    show max (a:Int) (x:Int)=_
    omega
   simp only [List.map_cons,List.foldl_cons]
   rw [e,ih]
 cases ns with
 | nil=>exact absurd rfl h
 | cons x l =>
  unfold Lib.maxOf b3k
  show ((x::l).map Int.ofNat).foldl max (x:Int)=_
  rw [aa]
  simp
def a6o (f:List Nat):List Nat:=(List.range (b3k f+1)).map fun v=>f.count v
def a8n (m:Nat) (f:List Nat):List Nat:=(List.range m).map fun v=>f.count v
theorem b2u (m:Nat) (f:List Nat):(a8n m f).length=m:=by simp [a8n]
theorem d8v (m:Nat):a8n m []=List.replicate m 0:=by
 apply List.ext_getElem
 ·simp [a8n]
 ·intro i h1 h2;simp [a8n]
theorem c0x {m v:Nat} (f:List Nat) (h:v<m):(a8n m f)[v]?=some (f.count v):=by simp [a8n,h]
theorem d3j {m x:Nat} (f:List Nat) (h:x<m):a8n m (f++[x])=(a8n m f).set x (f.count x+1):=by
 apply List.ext_getElem?
 intro i
 rw [List.getElem?_set,b2u]
 by_cases hi:i<m
 ·rw [c0x _ hi]
  by_cases e:x=i
  ·subst e
   rw [if_pos rfl,if_pos h,List.count_append]
   simp
  ·rw [if_neg e,c0x _ hi,List.count_append]
   have:List.count i [x]=0:=by
    rw [List.count_eq_zero]
    simp
    omega
   rw [this];rfl
 ·have e1:(a8n m (f++[x]))[i]?=none:=List.getElem?_eq_none (by rw [b2u];omega)
  rw [e1]
  by_cases e:x=i
  ·omega
  ·rw [if_neg e]
   exact (List.getElem?_eq_none (by rw [b2u];omega)).symm
theorem b1r (f:List Nat):(a6o f).length=b3k f+1:=by simp [a6o]
theorem b6w {f:List Nat} {v:Nat} (h:v<=b3k f):(a6o f).getD v 0=f.count v:=by
 simp [a6o,zD,show v<b3k f+1 by omega]
theorem e7p (f:List Nat):∀ x∈a6o f,x<=f.length:=by
 intro x hx
 obtain ⟨v,_,rfl⟩:=List.mem_map.1 hx
 exact List.count_le_length
theorem c0w {f:List Nat} (h:f≠[]):0<(a0v (a6o f) (a6o f).length).length:=by
 cases f with
 | nil=>exact absurd rfl h
 | cons x l =>
  have hx:x<=b3k (x::l):=c1n (by simp)
  have h1:=a9j (a6o (x::l)) x (a6o (x::l)).length
  rw [b1r,b6w hx,if_pos ⟨by omega,by simp⟩] at h1
  rw [b1r]
  have h2:0<a0m x (a0v (a6o (x::l)) (b3k (x::l)+1)):=by omega
  obtain ⟨w,hw⟩:=a3n.1 h2
  exact List.length_pos_of_mem hw
def a6i (l:List Int) (W d:Nat):List Nat:=a7d (a6o (a1w l W d))
def a6h (l:List Int) (W d:Nat):List Nat:=a3u (a6i l W d)++a1z (a6i l W d) (a1w l W d)
theorem c5e (l:List Int) (W d:Nat):(a8v l W d).map vi=(a1w l W d).map i64:=by
 unfold a8v
 rw [List.map_map]
 rfl
theorem c4c (w:World) (b:Nat) (F bs:List Nat) (l:List Int) (A:Option Addr) (cap W d:Nat) (h:a2n w b F bs) (hw0:1<=W) (hw1:W<=16) (h0:1<=d) (h1:d<=16) (hl0:0<l.length) (hl:l.length<=256) (hlW:l.length<=64*W) (hs:a1u d l) (hc:a0d vi w A l) (hA:Apt A l F) (hmx:b3k (a1w l W d)<256) (hbs:bs.length<68719476736) :
  Calls Tryz.prog 121 #[.pointer (some ⟨b,0,none⟩),.slice A l.length cap,.int .i64 W,.int .i64 d] w fun e w'=>e=.returned (.tuple #[])/\∃ F',a2n w' b F' (bs++a6h l W d)/\a0u F F' w w':=by
 have ay:=c0t l A cap W d w h0 h1 hw0 (by omega) hlW hs hc (by omega)
 have ar:=a7y l W d
 rw [c5e] at ay
 have a9:a6h l W d=a3u (a7d (a6o (a1w l W d)))++a1z (a7d (a6o (a1w l W d))) (a1w l W d):=rfl
 rw [a9]
 obtain ⟨f,hf⟩:=zX (a1w l W d)
 rw [<-hf] at ay ar hmx ⊢
 obtain ⟨n,hn⟩:=zX (l.length)
 rw [<-hn] at ay ar hl0 hl ⊢
 obtain ⟨M,hM⟩:=zX (b3k f)
 rw [<-hM] at hmx
 have az:f≠[]:=by intro e;rw [e] at ar;simp at ar;omega
 have a1:∀ x∈f,x<=M:=fun x hx=>by rw [hM];exact c1n hx
 have bu:=a1p (P:=Tryz.prog) a0p rfl .i64 .i64 (M+1) (by omega) (by omega)
 have bb:=h.lt
 have an:=hid ar
 have bc:=hid a1
 have HM:=hid hM
 have a0:=hid az
 have a4:=hid bb
 clear hf hn hM ar a1 az bb hs hA hc a9
 go_enter Tryz.func121,Tryz.ntmps121
 go_wp2_with fail
 refine ay.mono ?_
 rintro e w1 ⟨fv,fg,rfl,aa,aW,bK⟩
 obtain ⟨fc,rfl,bh,bx,_,_⟩:=aa.oq
 rw [an.out] at bh ⊢
 have a5:a0d vi w1 (some ⟨fg,0,none⟩) (f.map Int.ofNat):=by
  have e:f.map i64=(f.map Int.ofNat).map vi:=by rw [List.map_map];rfl
  have h9:=aa
  rw [e] at h9
  exact h9.toOwn.cells
 have a7:a0d i64 w1 (some ⟨fg,0,none⟩) f:=aa.toOwn.cells
 have ao:(f.map Int.ofNat).length=n:=by rw [zE];exact an.out
 have al:=Tryz.slices_Max_int fg 0 n fc (f.map Int.ofNat) w1 hl0 (by rw [ao];exact zQ _) (by omega) (a0d.getD_ a5)
 rw [zT (by rw [ao];exact zQ _),c1o f a0.out,<-HM.out] at al
 have bC:=aW.size
 have bj:=aa.lt
 clear ay a5 ao
 obtain ⟨M1,aM⟩:=zX (M+1)
 have bg:(M:Int)+1=(M1:Int):=by omega
 rw [<-aM] at bu
 go_wp2_with fail
 refine al.mono ?_
 rintro e w' ⟨rfl,rfl⟩
 obtain ⟨B,hB⟩:=zX (w'.heap.size)
 obtain ⟨w2,aF⟩:=zX (w'.alloc (.cells (Array.replicate M1 (Value.int .i64 0)) 3))
 have aR:Row w2 3 (.slice (some ⟨B,0,none⟩) M1 M1) B ((a8n M1 (f.take 0)).map i64):=by
  rw [aF,hB,List.take_zero,d8v]
  exact Row.zerosN w' M1 (by omega)
 have a8:Chg [] w' w2:=by rw [aF];exact (zR [] w').alloc _
 have aP:=a7.same a8
 have aH:=aW.tq a8
 have bo:=hid aF
 have HB:=hid hB
 have aQ:fg≠B:=by omega
 have bE:=aR.lt
 have aD:=hid aM
 have bf:M1<=256:=by omega
 clear al aF hB aM aa a7 aW
 go_wp2_with fail
 rw [<-bo.out,<-HB.out]
 go_loopg [11,24] n (fun j v11 iv wr=>∃ (i:Nat),iv=.int .i64 i/\i+j=n/\Row wr 3 (.slice (some ⟨B,0,none⟩) M1 M1) B ((a8n M1 (f.take i)).map i64)/\Chg [B] w2 wr)
 case atStart=>exact ⟨0,rfl,by omega,aR,zR _ _⟩
 case round =>
  clear aR
  obtain ⟨wk,rfl⟩:=zX (wr)
  obtain ⟨i,rfl,bF,aa,av⟩:=hrel
  have ak:=aP.keep (fun _ ad e hm=>by
   injection e with e
   subst e
   simp at hm
   exact aQ hm) av
  rcases gk with _ | j
  ·obtain rfl:i=n:=by omega
   have a3:a8n M1 (f.take i)=a6o f:=by
    rw [zT (by rw [an.out];exact zQ _),aD.out,HM.out];rfl
   rw [a3] at aa
   have ba:a0d i64 wk (some ⟨B,0,none⟩) (a6o f):=aa.toOwn.cells
   have aK:(a6o f).length=M1:=by rw [b1r,<-HM.out,aD.out]
   have aN:=d9j wk (a6o f) (some ⟨B,0,none⟩) M1 (by omega) (by omega) (fun x hx=>by have:=e7p f x hx;rw [an.out] at this;omega) (c0w a0.out) ba
   rw [aK] at aN
   have aY:Chg [] w wk:=aH.trans av (fun x hx=>by rw [zU.1 hx];right;have:=HB.out;omega)
   have bw:=h.same aY
   have bq:=hid aK
   have bD:=aY.size
   have bl:=av.size
   clear ba aa a3 aK h av
   go_wp2_with fail
   refine aN.mono ?_
   rintro e w3 ⟨lv,lg,rfl,ap,aE,aO,bJ⟩
   obtain ⟨lc,rfl,br,bk,_,_⟩:=ap.oq
   have ai:a0d i64 w3 (some ⟨lg,0,none⟩) (a7d (a6o f)):=ap.toOwn.cells
   have ax:∀ s∈f,s<(a7d (a6o f)).length/\0<a0g (a7d (a6o f)) s:=fun s hs=>by
    have bv:=bc.out s hs
    have a2:s<(a6o f).length:=by rw [bq.out,aD.out];omega
    refine ⟨by rw [aE.len];exact a2,(aE.used s a2).2 ?_⟩
    rw [b6w (by rw [<-HM.out];exact bv)]
    exact List.count_pos_iff.2 hs
   have af:=aE.full
   have ah:Apt (some ⟨lg,0,none⟩) (a7d (a6o f)) F:=fun _ ad e hm=>by
    injection e with e
    subst e
    have:=a4.out _ hm
    simp at this
    omega
   have aC:Apt (some ⟨fg,0,none⟩) f F:=fun _ ad e hm=>by
    injection e with e
    subst e
    have:=a4.out _ hm
    simp at this
    omega
   have aB:=ak.same aO
   have aU:=bw.same aO
   have aX:=aY.tq aO
   have aA:=hid ax
   have ae:=hid af
   have bd:Hid ((a7d (a6o f)).length<=1024):=hid af.n2
   obtain ⟨aq,ab⟩:=zX (a7d (a6o f))
   have aw:=hid ab
   rw [<-ab] at ai aA ae ah br bd ⊢
   have a6:=c2l w3 b F bs aq (some ⟨lg,0,none⟩) lc aU ae.out ai ah (by omega)
   clear aN ap aE ax af ab ak
   go_wp2_with fail
   refine a6.mono ?_
   rintro e w4 ⟨rfl,F4,aZ,ac⟩
   have bm:=b0s aq
   have be:=e9l w4 b F4 _ aq f (some ⟨lg,0,none⟩) (some ⟨fg,0,none⟩) lc fc aZ ae.out (ai.keep ah ac.chg) (ah.grow ai ac) (by rw [an.out];omega) (aB.keep aC ac.chg) (aC.grow aB ac) aA.out (by rw [zC];have:=bd.out;omega)
   rw [an.out] at be
   clear a6 bm
   go_wp2_with fail
   refine be.mono ?_
   rintro e w5 ⟨rfl,F5,aJ,aS⟩
   go_wp2_with fail
   go_end0
   refine ⟨rfl,F5,?_,(a0u.pre aX ac).trans aS⟩
   rw [<-zH,<-aw.out]
   exact aJ
  ·have bn:i<n:=by omega
   have aG:i<f.length:=by rw [an.out];exact bn
   obtain ⟨g9,o9,e9,cl⟩:=d1d ak aG
   injection e9 with e9
   injection e9 with e9 e10 _
   subst e9
   subst e10
   rw [Nat.zero_add] at cl
   have bp:=bc.out f[i] (zG aG)
   have aV:=a0o f aG
   obtain ⟨x,hx⟩:=zX (f[i])
   rw [<-hx] at cl bp aV
   have aL:x<M1:=by have:=aD.out;omega
   have aT:=d3j (f.take i) aL
   rw [<-aV] at aT
   have bi:(f.take i).count x<=256:=Nat.le_trans List.count_le_length (by rw [zI];omega)
   obtain ⟨bB,ee,_,_,aj,au⟩:=aa.oq
   have cq:=aj x ((f.take i).count x) (c0x _ aL)
   have fq:=au x
   have am:=aa.set_ (i:=x) (by rw [zE,b2u];exact aL) (i64 ((f.take i).count x+1))
   rw [<-List.map_set,<-aT] at am
   generalize (f.take i).count x=c at *
   have bG:wk.cell? ⟨B,x,none⟩=some (.int .i64 c):=cq
   have ag:Row (wk.setCell ⟨B,x,none⟩ (.int .i64 ((c+1:Nat):Int))) 3 (.slice (some ⟨B,0,none⟩) M1 M1) B ((a8n M1 (f.take (i+1))).map i64):=am
   have e2:((c+1:Nat):Int)=(c:Int)+1:=by simp
   rw [e2] at ag
   have aI:=hid ag
   have bI:(0:Int)<=(i:Int):=by omega
   have bz:(i:Int)<(n:Int):=by omega
   have bA:(0:Int)<=(x:Int):=by omega
   have bH:(x:Int)<(M1:Int):=by omega
   clear ee aj au am ag aT aV hx aG cq e2 aa
   go_wp2_with fail
   go_roundg j
   case measure=>omega
   case rel=>exact ⟨i+1,by go_num,by omega,aI.out,av.setCell (.inl (by simp)) _⟩
def a7a (k:Nat) (l:List Int) (W d:Nat):Bool :=
 if k=0 then decide ((a2g l).length=1) else if k<=5 then true else if k=6 then decide ((a2g l).length<=16) else if k=7 then decide (b3k (a1w l W d)<256) else false
structure c9d (w:World) (l:List Int) (A:Option Addr) (W H d:Nat):Prop where
 w0:1<=W
 w1:W<=16
 h0:1<=H
 h1:H<=16
 d0:1<=d
 d1:d<=16
 len:l.length=W*H
 smp:a1u d l
 cells:a0d vi w A l
theorem c9d.pos {w:World} {l:List Int} {A:Option Addr} {W H d:Nat} (t:c9d w l A W H d):0<l.length:=by rw [t.len];exact Nat.mul_pos t.w0 t.h0
theorem c9d.le {w:World} {l:List Int} {A:Option Addr} {W H d:Nat} (t:c9d w l A W H d):l.length<=256:=by rw [t.len];exact zL t.w1 t.h1
theorem c9d.leW {w:World} {l:List Int} {A:Option Addr} {W H d:Nat} (t:c9d w l A W H d):l.length<=64*W:=by
 rw [t.len,zY]
 exact Nat.mul_le_mul_right W (Nat.le_trans t.h1 (by decide))
theorem c9d.chg {w w':World} {l:List Int} {A:Option Addr} {W H d:Nat} {F:List Nat} (t:c9d w l A W H d) (hA:Apt A l F) (hc:Chg F w w'):c9d w' l A W H d :=
 { t with cells:=t.cells.keep hA hc }
theorem c9d.same {w w':World} {l:List Int} {A:Option Addr} {W H d:Nat} (t:c9d w l A W H d) (hc:Chg [] w w'):c9d w' l A W H d :=
 { t with cells:=t.cells.same hc }
def a3l (k:Nat) (w:World) (l:List Int) (W d:Nat) (e:Ending) (w':World):Prop:=e=.returned (.bool (a7a k l W d))/\Chg [] w w'
section
variable {w:World} {l:List Int} {A:Option Addr} {W H d:Nat} (cap:Nat) (t:c9d w l A W H d)
include t
theorem e3r (k:Nat) (hk0:1<=k) (hk:k<=5):Calls Tryz.prog 86 #[.int .i64 k,.slice A l.length cap,.int .i64 W,.int .i64 H,.int .i64 d] w (a3l k w l W d):=by
 have aa:=a9s l A cap W H d w t.w0 t.w1 t.h0 t.h1 t.d0 t.d1 t.len t.smp t.cells
 have hm:a7a k l W d=true:=by unfold a7a;rw [if_neg (by omega),if_pos hk]
 unfold a3l
 rw [hm]
 rcases (by omega:k=1\/k=2\/k=3\/k=4\/k=5) with rfl | rfl | rfl | rfl | rfl
 all_goals
  clear t hm
  go_enter Tryz.func86,Tryz.ntmps86
  go_wp2_with (go_at_call 85;refine aa.mono ?_;rintro e w' ⟨rfl,rfl⟩)
  go_ret
  exact ⟨rfl,zR _ _⟩
theorem e8o:Calls Tryz.prog 86 #[.int .i64 (0:Nat),.slice A l.length cap,.int .i64 W,.int .i64 H,.int .i64 d] w (a3l 0 w l W d):=by
 have ac:=a9s l A cap W H d w t.w0 t.w1 t.h0 t.h1 t.d0 t.d1 t.len t.smp t.cells
 have ab:=b1p l A cap w t.pos (by have:=t.le;omega) t.cells
 have hm:a7a 0 l W d=decide ((a2g l).length=1):=by unfold a7a;rw [if_pos rfl]
 have hb:(((a2g l).length:Int)==1)=decide ((a2g l).length=1):=by
  by_cases h:(a2g l).length=1
  ·rw [h];rfl
  ·rw [zA h,beq_eq_false_iff_ne];omega
 unfold a3l
 rw [hm]
 generalize (a2g l).length=k at *
 generalize decide (k=1)=bb at *
 clear t hm
 go_enter Tryz.func86,Tryz.ntmps86
 go_wp2_with (first | (go_at_call 85;refine ac.mono ?_;rintro e w' ⟨rfl,rfl⟩) | (go_at_call 110;refine ab.mono ?_;rintro e w2 ⟨g,c,rfl,_,_,_,_,aa⟩))
 go_ret
 exact ⟨rfl,aa⟩
theorem d0y:Calls Tryz.prog 86 #[.int .i64 (6:Nat),.slice A l.length cap,.int .i64 W,.int .i64 H,.int .i64 d] w (a3l 6 w l W d):=by
 have ac:=a9s l A cap W H d w t.w0 t.w1 t.h0 t.h1 t.d0 t.d1 t.len t.smp t.cells
 have ab:=b1p l A cap w t.pos (by have:=t.le;omega) t.cells
 have hm:a7a 6 l W d=decide ((a2g l).length<=16):=by unfold a7a;rw [if_neg (by omega),if_neg (by omega),if_pos rfl]
 have hb:decide (((a2g l).length:Int)<=16)=decide ((a2g l).length<=16):=by
  by_cases h:(a2g l).length<=16
  ·rw [zB h];exact zB (by omega)
  ·rw [zA h];exact zA (by omega)
 unfold a3l
 rw [hm]
 generalize (a2g l).length=k at *
 generalize decide (k<=16)=bb at *
 clear t hm
 go_enter Tryz.func86,Tryz.ntmps86
 go_wp2_with (first | (go_at_call 85;refine ac.mono ?_;rintro e w' ⟨rfl,rfl⟩) | (go_at_call 110;refine ab.mono ?_;rintro e w2 ⟨g,c,rfl,_,_,_,_,aa⟩))
 go_ret
 exact ⟨rfl,aa⟩
theorem d0z:Calls Tryz.prog 86 #[.int .i64 (7:Nat),.slice A l.length cap,.int .i64 W,.int .i64 H,.int .i64 d] w (a3l 7 w l W d):=by
 have ag:=a9s l A cap W H d w t.w0 t.w1 t.h0 t.h1 t.d0 t.d1 t.len t.smp t.cells
 have ae:=c0t l A cap W d w t.d0 t.d1 t.w0 (by have:=t.w1;omega) t.leW t.smp t.cells (by have:=t.le;omega)
 have ac:=a7y l W d
 have hp:=t.pos
 have an:=t.le
 rw [c5e] at ae
 have hm:a7a 7 l W d=decide (b3k (a1w l W d)<256):=by unfold a7a;rw [if_neg (by omega),if_neg (by omega),if_neg (by omega),if_pos rfl]
 unfold a3l
 rw [hm]
 obtain ⟨f,hf⟩:=zX (a1w l W d)
 rw [<-hf] at ae ac ⊢
 have hb:decide (((b3k f:Nat):Int)<256)=decide (b3k f<256):=by
  by_cases h:b3k f<256
  ·rw [zB h];exact zB (by omega)
  ·rw [zA h];exact zA (by omega)
 have ah:f≠[]:=by intro e;rw [e] at ac;simp at ac;omega
 have ak:=c1o f ah
 generalize b3k f=M at *
 generalize decide (M<256)=bb at *
 obtain ⟨n,hn⟩:=zX (l.length)
 rw [<-hn] at ac ag ae hp an ⊢
 have ai:=hid ac
 clear t hm hf hn ac ah
 go_enter Tryz.func86,Tryz.ntmps86
 go_wp2_with (first | (go_at_call 85;refine ag.mono ?_;rintro e w' ⟨rfl,rfl⟩))
 refine ae.mono ?_
 rintro e w1 ⟨fv,fg,rfl,aa,aj,ao⟩
 obtain ⟨fc,rfl,am,al,_,_⟩:=aa.oq
 rw [ai.out] at am ⊢
 have af:a0d vi w1 (some ⟨fg,0,none⟩) (f.map Int.ofNat):=by
  have e:f.map i64=(f.map Int.ofNat).map vi:=by rw [List.map_map];rfl
  have h9:=aa
  rw [e] at h9
  exact h9.toOwn.cells
 have ab:(f.map Int.ofNat).length=n:=by rw [zE];exact ai.out
 have ad:=Tryz.slices_Max_int fg 0 n fc (f.map Int.ofNat) w1 hp (by rw [ab];exact zQ _) (by omega) (a0d.getD_ af)
 rw [zT (by rw [ab];exact zQ _),ak] at ad
 clear ae af ab aa
 go_wp2_with fail
 refine ad.mono ?_
 rintro e w' ⟨rfl,rfl⟩
 go_wp2
 go_ret
 exact ⟨rfl,aj⟩
theorem a9a (k:Nat) (hk:k<=7):Calls Tryz.prog 86 #[.int .i64 k,.slice A l.length cap,.int .i64 W,.int .i64 H,.int .i64 d] w (a3l k w l W d):=by
 rcases (by omega:k=0\/(1<=k/\k<=5)\/k=6\/k=7) with rfl | h | rfl | rfl
 ·exact e8o cap t
 ·exact e3r cap t k h.1 h.2
 ·exact d0y cap t
 ·exact d0z cap t
end
def c6m (l:List Int) (W d:Nat):List Nat:=a3h (a5z l (d+1) 12) W d
def e8g (k:Nat) (l:List Int) (W H d:Nat):List Nat :=
 if k=0 then a0b (l.getD 0 0).toNat d else if k=1 then a1v l d else if k=2 then a2z l W H d else if k=3 then a1c l W d (W*H)
 else if k=4 then c6m l W d else if k=5 then a3w l W d else if k=6 then a2r l d else a6h l W d
def a0e (k:Nat) (l:List Int) (W H d:Nat):List Nat:=a0b k 3++e8g k l W H d
def a2w (w:World) (b:Nat) (F bs ts:List Nat) (e:Ending) (w':World):Prop:=e=.returned (.int .i64 0)/\∃ F',a2n w' b F' (bs++ts)/\a0u F F' w w'
section
variable {w:World} {l:List Int} {A:Option Addr} {W H d:Nat} (cap:Nat) (t:c9d w l A W H d) (b:Nat) (F bs:List Nat) (h:a2n w b F bs) (hA:Apt A l F) (hp:Pts w) (h0F:0∉F) (hbs:bs.length<34359738368)
include t h hA hp h0F hbs
theorem e0f (hm:a7a 0 l W d=true):Calls Tryz.prog 88 #[.pointer (some ⟨b,0,none⟩),.int .i64 (0:Nat),.slice A l.length cap,.int .i64 W,.int .i64 H,.int .i64 d] w (a2w w b F bs (a0e 0 l W H d)):=by
 have ac:=a9a cap t 0 (by omega)
 unfold a3l at ac
 rw [hm] at ac
 unfold a2w
 have an:∀ X:List Nat,bs++(a0b 0 3++X)=bs++a0b 0 3++X:=fun X=>(zH _ _ _).symm
 have ab:a0e 0 l W H d=a0b 0 3++a0b (l.getD 0 0).toNat d:=rfl
 rw [ab,an]
 have HT:=hid t
 have HA:=hid hA
 have ag:=a5d t.smp 0
 have al:=t.pos
 obtain ⟨x,hx⟩:=zX (l.getD 0 0)
 rw [<-hx] at ag ⊢
 have ae:x=((x.toNat:Nat):Int):=(Int.toNat_of_nonneg ag.1).symm
 have ad:x.toNat<2^d:=by
  have e2:((2^d:Nat):Int)=(2:Int)^d:=by simp
  omega
 obtain ⟨k,hk⟩:=zX (x.toNat)
 rw [<-hk] at ae ad ⊢
 have ar:k<65536:=Nat.lt_of_lt_of_le ad (by have:=Nat.pow_le_pow_right (n:=2) (by decide) t.d1;exact this)
 have HX:=hid (And.intro hx ae)
 have ap:=hid ad
 have au:=t.d1
 clear hx ag ae ad hk
 clear t hA hm an ab
 go_enter Tryz.func88,Tryz.ntmps88
 go_wp2_with fail
 refine ac.mono ?_
 rintro e w1 ⟨rfl,ak⟩
 go_wp2_with fail
 refine (a0t w1 b F bs 0 3 (h.same ak) (by omega) (by omega) (by omega)).mono ?_
 rintro e w2 ⟨rfl,F2,ai,ah⟩
 have aa:=a0u.pre ak ah
 have aq:=HT.out.chg HA.out aa.chg
 have ay:=HA.out.grow HT.out.cells aa
 have aA:(bs++a0b 0 3).length<68719476736:=by rw [zC,a0a];omega
 have av:0∉F2:=aa.out hp.lt h0F
 have ax:=hp.chg aa.chg h0F
 obtain ⟨g,o,rfl,cl⟩:=aq.cells.at_ al
 have ao:l[0]=(k:Int):=by
  rw [<-HX.out.2,HX.out.1,zD,zF al];rfl
 rw [ao] at cl
 have aw:w2.cell? ⟨g,o,none⟩=some (.int .i64 k):=cl
 have az:(0:Int)<(l.length:Int):=by omega
 have am:¬ ((l.length:Int)<=0):=by omega
 clear cl ao
 go_wp2_with fail
 refine (a0t w2 b F2 _ k d ai (by omega) ap.out (by omega)).mono ?_
 rintro e w3 ⟨rfl,F3,aj,af⟩
 go_wp2_with fail
 go_ret
 exact ⟨rfl,F3,aj,aa.trans af⟩
theorem d4h (hm:a7a 1 l W d=true):Calls Tryz.prog 88 #[.pointer (some ⟨b,0,none⟩),.int .i64 (1:Nat),.slice A l.length cap,.int .i64 W,.int .i64 H,.int .i64 d] w (a2w w b F bs (a0e 1 l W H d)):=by
 have ac:=a9a cap t 1 (by omega)
 unfold a3l at ac
 rw [hm] at ac
 unfold a2w
 have aj:∀ X:List Nat,bs++(a0b 1 3++X)=bs++a0b 1 3++X:=fun X=>(zH _ _ _).symm
 have ab:a0e 1 l W H d=a0b 1 3++a1v l d:=rfl
 rw [ab,aj]
 have HT:=hid t
 have HA:=hid hA
 clear t hA hm aj ab
 go_enter Tryz.func88,Tryz.ntmps88
 go_wp2_with fail
 refine ac.mono ?_
 rintro e w1 ⟨rfl,ai⟩
 go_wp2_with fail
 refine (a0t w1 b F bs 1 3 (h.same ai) (by omega) (by omega) (by omega)).mono ?_
 rintro e w2 ⟨rfl,F2,ah,ag⟩
 have aa:=a0u.pre ai ag
 have ad:=HT.out.chg HA.out aa.chg
 have ak:=HA.out.grow HT.out.cells aa
 have an:(bs++a0b 1 3).length<68719476736:=by rw [zC,a0a];omega
 have al:0∉F2:=aa.out hp.lt h0F
 have am:=hp.chg aa.chg h0F
 have hc:=c2i w2 b F2 _ l A cap d ah ad.d1 (by have:=ad.le;omega) ad.smp ad.cells ak (by omega)
 go_wp2_with fail
 refine hc.mono ?_
 rintro e w3 ⟨rfl,F3,ae,af⟩
 go_wp2_with fail
 go_ret
 exact ⟨rfl,F3,ae,aa.trans af⟩
theorem c7u (hm:a7a 2 l W d=true):Calls Tryz.prog 88 #[.pointer (some ⟨b,0,none⟩),.int .i64 (2:Nat),.slice A l.length cap,.int .i64 W,.int .i64 H,.int .i64 d] w (a2w w b F bs (a0e 2 l W H d)):=by
 have ad:=a9a cap t 2 (by omega)
 unfold a3l at ad
 rw [hm] at ad
 unfold a2w
 have aj:∀ X:List Nat,bs++(a0b 2 3++X)=bs++a0b 2 3++X:=fun X=>(zH _ _ _).symm
 have ac:a0e 2 l W H d=a0b 2 3++a2z l W H d:=rfl
 rw [ac,aj]
 have HT:=hid t
 have HA:=hid hA
 clear t hA hm aj ac
 go_enter Tryz.func88,Tryz.ntmps88
 go_wp2_with fail
 refine ad.mono ?_
 rintro e w1 ⟨rfl,ai⟩
 go_wp2_with fail
 refine (a0t w1 b F bs 2 3 (h.same ai) (by omega) (by omega) (by omega)).mono ?_
 rintro e w2 ⟨rfl,F2,ah,ag⟩
 have aa:=a0u.pre ai ag
 have ab:=HT.out.chg HA.out aa.chg
 have ak:=HA.out.grow HT.out.cells aa
 have al:(bs++a0b 2 3).length<68719476736:=by rw [zC,a0a];omega
 have am:0∉F2:=aa.out hp.lt h0F
 have an:=hp.chg aa.chg h0F
 have hc:=c7w w2 b F2 _ l A cap W H d ah ab.w0 ab.w1 ab.h0 ab.h1 ab.d0 ab.d1 ab.len ab.smp ab.cells ak al
 go_wp2_with fail
 refine hc.mono ?_
 rintro e w3 ⟨rfl,F3,ae,af⟩
 go_wp2_with fail
 go_ret
 exact ⟨rfl,F3,ae,aa.trans af⟩
theorem c3z (hm:a7a 3 l W d=true):Calls Tryz.prog 88 #[.pointer (some ⟨b,0,none⟩),.int .i64 (3:Nat),.slice A l.length cap,.int .i64 W,.int .i64 H,.int .i64 d] w (a2w w b F bs (a0e 3 l W H d)):=by
 have ad:=a9a cap t 3 (by omega)
 unfold a3l at ad
 rw [hm] at ad
 unfold a2w
 have aj:∀ X:List Nat,bs++(a0b 3 3++X)=bs++a0b 3 3++X:=fun X=>(zH _ _ _).symm
 have ac:a0e 3 l W H d=a0b 3 3++a1c l W d (W*H):=rfl
 rw [ac,aj]
 have HT:=hid t
 have HA:=hid hA
 clear t hA hm aj ac
 go_enter Tryz.func88,Tryz.ntmps88
 go_wp2_with fail
 refine ad.mono ?_
 rintro e w1 ⟨rfl,ai⟩
 go_wp2_with fail
 refine (a0t w1 b F bs 3 3 (h.same ai) (by omega) (by omega) (by omega)).mono ?_
 rintro e w2 ⟨rfl,F2,ah,ag⟩
 have aa:=a0u.pre ai ag
 have ab:=HT.out.chg HA.out aa.chg
 have ak:=HA.out.grow HT.out.cells aa
 have an:(bs++a0b 3 3).length<68719476736:=by rw [zC,a0a];omega
 have al:0∉F2:=aa.out hp.lt h0F
 have am:=hp.chg aa.chg h0F
 have hc:=f1v w2 b F2 _ l A cap W H d ah ab.w0 (by have:=ab.w1;omega) ab.h0 (by have:=ab.h1;omega) ab.d0 ab.d1 ab.len ab.smp ab.cells ak (by omega)
 go_wp2_with fail
 refine hc.mono ?_
 rintro e w3 ⟨rfl,F3,ae,af⟩
 go_wp2_with fail
 go_ret
 exact ⟨rfl,F3,ae,aa.trans af⟩
theorem d1m (hm:a7a 4 l W d=true):Calls Tryz.prog 88 #[.pointer (some ⟨b,0,none⟩),.int .i64 (4:Nat),.slice A l.length cap,.int .i64 W,.int .i64 H,.int .i64 d] w (a2w w b F bs (a0e 4 l W H d)):=by
 have ae:=a9a cap t 4 (by omega)
 unfold a3l at ae
 rw [hm] at ae
 unfold a2w
 have au:∀ X:List Nat,bs++(a0b 4 3++X)=bs++a0b 4 3++X:=fun X=>(zH _ _ _).symm
 have ac:a0e 4 l W H d=a0b 4 3++c6m l W d:=rfl
 rw [ac,au]
 have HT:=hid t
 have HA:=hid hA
 have ar:c6m l W d=a3h (a5z l (d+1) 12) W d:=rfl
 rw [ar]
 have aC:=t.d1
 clear ar
 clear t hA hm au ac
 go_enter Tryz.func88,Tryz.ntmps88
 go_wp2_with fail
 refine ae.mono ?_
 rintro e w1 ⟨rfl,aq⟩
 go_wp2_with fail
 refine (a0t w1 b F bs 4 3 (h.same aq) (by omega) (by omega) (by omega)).mono ?_
 rintro e w2 ⟨rfl,F2,ag,ap⟩
 have aa:=a0u.pre aq ap
 have ab:=HT.out.chg HA.out aa.chg
 have aD:=HA.out.grow HT.out.cells aa
 have aE:(bs++a0b 4 3).length<68719476736:=by rw [zC,a0a];omega
 have aw:0∉F2:=aa.out hp.lt h0F
 have ax:=hp.chg aa.chg h0F
 have ai:=e8l l A cap (d+1) 12 w2 (by have:=ab.le;omega) ab.cells (by omega) (by omega) (by omega) (by omega)
 have aA:=b7c l (d+1) 12
 have aj:=c5h ab.smp (d+1) 12
 have e1:((d+1:Nat):Int)=(d:Int)+1:=by simp
 rw [e1] at ai
 obtain ⟨T,hT⟩:=zX (a5z l (d+1) 12)
 rw [<-hT] at ai aA aj
 have az:=hid hT
 have av:=hid aj
 clear hT
 have ak:=hid ag.lt
 clear aj e1
 go_wp2_with fail
 refine ai.mono ?_
 rintro e w4 ⟨A',ao,rfl,ay,am,al⟩
 have aB:=e8v w4 b F2 _ T A' ao W d (ag.same am) (ax.same am) aw ab.w0 (by have:=ab.w1;omega) ab.d0 ab.d1 (by have:=ab.le;omega) av.out ay (fun ad e hm=>by have:=al ad e;have:=ak.out _ hm;omega) (by omega)
 clear ai
 go_wp2_with fail
 refine aB.mono ?_
 rintro e w3 ⟨rfl,F3,ah,af⟩
 have an:=a0u.pre am af
 rw [az.out] at ah
 go_wp2_with fail
 go_ret
 exact ⟨rfl,F3,ah,aa.trans an⟩
theorem d1n (hm:a7a 5 l W d=true):Calls Tryz.prog 88 #[.pointer (some ⟨b,0,none⟩),.int .i64 (5:Nat),.slice A l.length cap,.int .i64 W,.int .i64 H,.int .i64 d] w (a2w w b F bs (a0e 5 l W H d)):=by
 have ad:=a9a cap t 5 (by omega)
 unfold a3l at ad
 rw [hm] at ad
 unfold a2w
 have aj:∀ X:List Nat,bs++(a0b 5 3++X)=bs++a0b 5 3++X:=fun X=>(zH _ _ _).symm
 have ab:a0e 5 l W H d=a0b 5 3++a3w l W d:=rfl
 rw [ab,aj]
 have HT:=hid t
 have HA:=hid hA
 clear t hA hm aj ab
 go_enter Tryz.func88,Tryz.ntmps88
 go_wp2_with fail
 refine ad.mono ?_
 rintro e w1 ⟨rfl,ai⟩
 go_wp2_with fail
 refine (a0t w1 b F bs 5 3 (h.same ai) (by omega) (by omega) (by omega)).mono ?_
 rintro e w2 ⟨rfl,F2,ah,ag⟩
 have aa:=a0u.pre ai ag
 have ac:=HT.out.chg HA.out aa.chg
 have ak:=HA.out.grow HT.out.cells aa
 have al:(bs++a0b 5 3).length<68719476736:=by rw [zC,a0a];omega
 have am:0∉F2:=aa.out hp.lt h0F
 have an:=hp.chg aa.chg h0F
 have hc:=d1o w2 b F2 _ l A cap W d ah ac.w0 ac.w1 ac.d0 ac.d1 ac.le ac.leW ac.smp ac.cells ak al
 go_wp2_with fail
 refine hc.mono ?_
 rintro e w3 ⟨rfl,F3,ae,af⟩
 go_wp2_with fail
 go_ret
 exact ⟨rfl,F3,ae,aa.trans af⟩
theorem c3y (hm:a7a 6 l W d=true):Calls Tryz.prog 88 #[.pointer (some ⟨b,0,none⟩),.int .i64 (6:Nat),.slice A l.length cap,.int .i64 W,.int .i64 H,.int .i64 d] w (a2w w b F bs (a0e 6 l W H d)):=by
 have ac:=a9a cap t 6 (by omega)
 unfold a3l at ac
 rw [hm] at ac
 have ae:(a2g l).length<=16:=by
  unfold a7a at hm
  rw [if_neg (by omega),if_neg (by omega),if_pos rfl] at hm
  exact of_decide_eq_true hm
 unfold a2w
 have ak:∀ X:List Nat,bs++(a0b 6 3++X)=bs++a0b 6 3++X:=fun X=>(zH _ _ _).symm
 have ab:a0e 6 l W H d=a0b 6 3++a2r l d:=rfl
 rw [ab,ak]
 have HT:=hid t
 have HA:=hid hA
 have HK:=hid ae
 clear ae
 clear t hA hm ak ab
 go_enter Tryz.func88,Tryz.ntmps88
 go_wp2_with fail
 refine ac.mono ?_
 rintro e w1 ⟨rfl,aj⟩
 go_wp2_with fail
 refine (a0t w1 b F bs 6 3 (h.same aj) (by omega) (by omega) (by omega)).mono ?_
 rintro e w2 ⟨rfl,F2,ai,ah⟩
 have aa:=a0u.pre aj ah
 have ad:=HT.out.chg HA.out aa.chg
 have al:=HA.out.grow HT.out.cells aa
 have am:(bs++a0b 6 3).length<68719476736:=by rw [zC,a0a];omega
 have an:0∉F2:=aa.out hp.lt h0F
 have ao:=hp.chg aa.chg h0F
 have hc:=c4b w2 b F2 _ l A cap d ai ad.d0 ad.d1 ad.pos ad.le ad.smp ad.cells al HK.out am
 go_wp2_with fail
 refine hc.mono ?_
 rintro e w3 ⟨rfl,F3,af,ag⟩
 go_wp2_with fail
 go_ret
 exact ⟨rfl,F3,af,aa.trans ag⟩
theorem c4a (hm:a7a 7 l W d=true):Calls Tryz.prog 88 #[.pointer (some ⟨b,0,none⟩),.int .i64 (7:Nat),.slice A l.length cap,.int .i64 W,.int .i64 H,.int .i64 d] w (a2w w b F bs (a0e 7 l W H d)):=by
 have ae:=a9a cap t 7 (by omega)
 unfold a3l at ae
 rw [hm] at ae
 have ac:b3k (a1w l W d)<256:=by
  unfold a7a at hm
  rw [if_neg (by omega),if_neg (by omega),if_neg (by omega),if_pos rfl] at hm
  exact of_decide_eq_true hm
 unfold a2w
 have ak:∀ X:List Nat,bs++(a0b 7 3++X)=bs++a0b 7 3++X:=fun X=>(zH _ _ _).symm
 have ad:a0e 7 l W H d=a0b 7 3++a6h l W d:=rfl
 rw [ad,ak]
 have HT:=hid t
 have HA:=hid hA
 have HK:=hid ac
 clear ac
 clear t hA hm ak ad
 go_enter Tryz.func88,Tryz.ntmps88
 go_wp2_with fail
 refine ae.mono ?_
 rintro e w1 ⟨rfl,aj⟩
 go_wp2_with fail
 refine (a0t w1 b F bs 7 3 (h.same aj) (by omega) (by omega) (by omega)).mono ?_
 rintro e w2 ⟨rfl,F2,ai,ah⟩
 have aa:=a0u.pre aj ah
 have ab:=HT.out.chg HA.out aa.chg
 have al:=HA.out.grow HT.out.cells aa
 have am:(bs++a0b 7 3).length<68719476736:=by rw [zC,a0a];omega
 have an:0∉F2:=aa.out hp.lt h0F
 have ao:=hp.chg aa.chg h0F
 have hc:=c4c w2 b F2 _ l A cap W d ai ab.w0 ab.w1 ab.d0 ab.d1 ab.pos ab.le ab.leW ab.smp ab.cells al HK.out am
 go_wp2_with fail
 refine hc.mono ?_
 rintro e w3 ⟨rfl,F3,af,ag⟩
 go_wp2_with fail
 go_ret
 exact ⟨rfl,F3,af,aa.trans ag⟩
theorem c2j (k:Nat) (hk:k<=7) (hm:a7a k l W d=true):Calls Tryz.prog 88 #[.pointer (some ⟨b,0,none⟩),.int .i64 k,.slice A l.length cap,.int .i64 W,.int .i64 H,.int .i64 d] w (a2w w b F bs (a0e k l W H d)):=by
 rcases (by omega:k=0\/k=1\/k=2\/k=3\/k=4\/k=5\/k=6\/k=7) with rfl | rfl | rfl | rfl | rfl | rfl | rfl | rfl
 ·exact e0f cap t b F bs h hA hp h0F hbs hm
 ·exact d4h cap t b F bs h hA hp h0F hbs hm
 ·exact c7u cap t b F bs h hA hp h0F hbs hm
 ·exact c3z cap t b F bs h hA hp h0F hbs hm
 ·exact d1m cap t b F bs h hA hp h0F hbs hm
 ·exact d1n cap t b F bs h hA hp h0F hbs hm
 ·exact c3y cap t b F bs h hA hp h0F hbs hm
 ·exact c4a cap t b F bs h hA hp h0F hbs hm
end
def b3w (k:Nat) (l:List Int) (W H d:Nat):Nat:=(a0e k l W H d).length
theorem e1s (k:Nat) (l:List Int) (W H d:Nat):3<=b3w k l W H d:=by
 unfold b3w a0e
 rw [zC,a0a]
 omega
def a7b (l:List Int) (W H d:Nat):Nat->Nat × Nat
 | 0=>(1,0)
 | m+1=>if a7a m l W d=true/\((a7b l W H d m).2=0\/b3w m l W H d<(a7b l W H d m).2) then (m,b3w m l W H d) else a7b l W H d m
def a5n (l:List Int) (W H d:Nat):Nat:=(a7b l W H d 8).1
theorem e8n (l:List Int) (W d:Nat):a7a 1 l W d=true:=by unfold a7a;rw [if_neg (by omega),if_pos (by omega)]
theorem d7e (l:List Int) (W H d:Nat):∀ m,((a7b l W H d m).2=0->(a7b l W H d m).1=1/\∀ k,k<m->a7a k l W d=false)/\((a7b l W H d m).2≠0->(a7b l W H d m).1<m/\a7a (a7b l W H d m).1 l W d=true/\(a7b l W H d m).2=b3w (a7b l W H d m).1 l W H d/\∀ k,k<m->a7a k l W d=true->(a7b l W H d m).2<=b3w k l W H d)
 | 0=>⟨fun _=>⟨rfl,fun k h=>by omega⟩,fun h=>absurd rfl h⟩
 | m+1=>by
  obtain ⟨h1,h2⟩:=d7e l W H d m
  have hp:=e1s m l W H d
  unfold a7b
  generalize a7b l W H d m=s at *
  by_cases hc:a7a m l W d=true/\(s.2=0\/b3w m l W H d<s.2)
  ·rw [if_pos hc]
   refine ⟨fun h=>by simp only at h;omega,fun _=>⟨by simp only;omega,hc.1,rfl,fun k hk hm => ?_⟩⟩
   simp only
   by_cases e:k=m
   ·rw [e];exact zQ _
   ·rcases hc.2 with h3 | h3
    ·have:=(h1 h3).2 k (by omega)
     rw [hm] at this
     cases this
    ·have:=(h2 (by omega)).2.2.2 k (by omega) hm
     omega
  ·rw [if_neg hc]
   refine ⟨fun h=>⟨(h1 h).1,fun k hk => ?_⟩,fun h => ?_⟩
   ·by_cases e:k=m
    ·subst e
     cases hm:a7a k l W d with
     | false=>rfl
     | true=>exact absurd ⟨hm,.inl h⟩ hc
    ·exact (h1 h).2 k (by omega)
   ·obtain ⟨k1,k2,k3,k4⟩:=h2 h
    refine ⟨by omega,k2,k3,fun k hk hm => ?_⟩
    by_cases e:k=m
    ·subst e
     have:¬ b3w k l W H d<s.2:=fun h5=>hc ⟨hm,.inr h5⟩
     omega
    ·exact k4 k (by omega) hm
theorem b3r (l:List Int) (W H d:Nat):a5n l W H d<=7/\a7a (a5n l W H d) l W d=true/\∀ k,k<=7->a7a k l W d=true->b3w (a5n l W H d) l W H d<=b3w k l W H d:=by
 obtain ⟨h1,h2⟩:=d7e l W H d 8
 have aa:(a7b l W H d 8).2≠0:=fun h=>by
  have:=(h1 h).2 1 (by omega)
  rw [e8n] at this
  cases this
 obtain ⟨k1,k2,k3,k4⟩:=h2 aa
 unfold a5n
 exact ⟨by omega,k2,fun k hk hm=>by rw [<-k3];exact k4 k (by omega) hm⟩
section
variable {w:World} {l:List Int} {A:Option Addr} {W H d:Nat} (cap:Nat) (t:c9d w l A W H d) (hp:Pts w)
include t hp
theorem f1h (k:Nat) (hk:k<=7) (hm:a7a k l W d=true):Calls Tryz.prog 87 #[.int .i64 k,.slice A l.length cap,.int .i64 W,.int .i64 H,.int .i64 d] w fun e w'=>e=.returned (.int .i64 (b3w k l W H d))/\Chg [] w w':=by
 obtain ⟨w1,aa⟩:=zX (w.alloc (.cells #[.slice none 0 0,.int .i64 0] 89))
 obtain ⟨B,hB⟩:=zX (w.heap.size)
 have ag:a2n w1 B [B] []:=by rw [aa,hB];exact a2n.new w
 have ab:Chg [] w w1:=by rw [aa];exact (zR [] w).alloc _
 have ak:=hp.lt
 have ah:Apt A l [B]:=Apt.fresh t.cells (F:=[B]) (by rw [hB];simp)
 have ac:=c2j cap (t.same ab) B [B] [] ag ah (hp.same ab) (by simp;omega) (by simp) k hk hm
 have af:b3w k l W H d=(a0e k l W H d).length:=rfl
 rw [af]
 unfold a2w at ac
 rw [List.nil_append] at ac
 generalize a0e k l W H d=ts at *
 have HB:Hid (∀ x∈[B],w.heap.size<=x):=hid (by intro x hx;rw [zU.1 hx,hB];exact zQ _)
 have al:=hid aa
 have ai:=hid hB
 clear t hp hm hk aa hB ag ah af ak
 go_enter Tryz.func87,Tryz.ntmps87
 go_wp2_with fail
 rw [<-al.out,<-ai.out]
 refine ac.mono ?_
 rintro e w2 ⟨rfl,F2,ae,ad⟩
 have aj:=c8t w2 B F2 ts ae
 go_wp2_with fail
 refine aj.mono ?_
 rintro e w' ⟨rfl,rfl⟩
 go_wp2
 go_ret
 exact ⟨rfl,ad.fresh HB.out ab⟩
variable (b:Nat) (F bs:List Nat) (h:a2n w b F bs) (hA:Apt A l F) (h0F:0∉F) (hbs:bs.length<34359738368)
include h hA h0F hbs
theorem f3a:Calls Tryz.prog 48 #[.pointer (some ⟨b,0,none⟩),.slice A l.length cap,.int .i64 W,.int .i64 H,.int .i64 d] w (a2w w b F bs (a0e (a5n l W H d) l W H d)):=by
 have aB:=a9s l A cap W H d w t.w0 t.w1 t.h0 t.h1 t.d0 t.d1 t.len t.smp t.cells
 have HT:=hid t
 have HP:=hid hp
 have HH:=hid h
 have HA:=hid hA
 have ad:=fun k (hk:k<=7) w' (hc:Chg [] w w')=>a9a cap (t.same hc) k hk
 have ac:=fun k (hk:k<=7) (hm:a7a k l W d=true) w' (hc:Chg [] w w')=>f1h cap (t.same hc) (hp.same hc) k hk hm
 have ab:=b3r l W H d
 have af:=fun w' (hc:Chg [] w w')=>c2j cap (t.same hc) b F bs (h.same hc) hA (hp.same hc) h0F hbs (a5n l W H d) ab.1 ab.2.1
 unfold a3l at ad
 unfold a2w at af ⊢
 have aj:a5n l W H d=(a7b l W H d 8).1:=rfl
 generalize a0e (a5n l W H d) l W H d=ts at *
 have HM:=hid ad
 have HC:=hid ac
 have az:=hid af
 have ay:=hid aj
 clear ad ac af ab aj t hp h hA
 go_enter Tryz.func48,Tryz.ntmps48
 go_wp2_with (go_at_call 85;refine aB.mono ?_;rintro e w' ⟨rfl,rfl⟩)
 go_loopg [11,12,13,14,21] 8 (fun j vb vl vk vc iv wr=>∃ (m bk lk:Nat),iv=.int .i64 m/\vb=.int .i64 bk/\vl=.int .i64 lk/\m+j=8/\Hid (a7b l W H d m=(bk,lk))/\Chg [] w wr)
 case atStart=>exact ⟨0,1,0,rfl,rfl,rfl,rfl,hid rfl,zR _ _⟩
 case round =>
  obtain ⟨m,bk,lk,rfl,rfl,rfl,aD,HK,ai⟩:=hrel
  rcases gk with _ | j
  ·obtain rfl:m=8:=by omega
   have ax:=az.out wr ai
   have aj:=ay.out
   rw [HK.out] at aj
   have al:a5n l W H d=bk:=aj
   rw [al] at ax
   clear aj al
   go_wp2_with fail
   refine ax.mono ?_
   rintro e w2 ⟨rfl,F2,ar,aq⟩
   go_wp2
   go_ret
   exact ⟨rfl,F2,ar,a0u.pre ai aq⟩
  ·have aw:m<=7:=by omega
   have ak:=HM.out m aw wr ai
   have ap:=HC.out m aw
   have aa:a7b l W H d (m+1)=if a7a m l W d=true/\((a7b l W H d m).2=0\/b3w m l W H d<(a7b l W H d m).2) then (m,b3w m l W H d) else a7b l W H d m:=rfl
   rw [HK.out] at aa
   simp only at aa
   have an:=hid aa
   have aC:(0:Int)<=(m:Int):=by omega
   clear aa
   cases hmb:a7a m l W d with
   | false =>
    rw [hmb] at ak
    have ag:Hid (a7b l W H d (m+1)=(bk,lk)):=hid (by rw [an.out,if_neg (by rw [hmb];simp)])
    have au:=hid hmb
    clear hmb ap
    go_wp2_with fail
    refine ak.mono ?_
    rintro e w1 ⟨rfl,am⟩
    go_wp2_with fail
    go_roundg j
    case measure=>omega
    case rel=>exact ⟨m+1,bk,lk,by go_num,rfl,rfl,by omega,ag,ai.tq am⟩
   | true =>
    rw [hmb] at ak
    have ae:=ap hmb
    obtain ⟨c,hc⟩:=zX (b3w m l W H d)
    rw [<-hc] at ae
    have ao:=hid hc
    have au:=hid hmb
    clear hmb ap hc
    go_wp2_with fail
    refine ak.mono ?_
    rintro e w1 ⟨rfl,am⟩
    have av:=ae w1 (ai.tq am)
    clear ak ae
    go_wp2_with fail
    refine av.mono ?_
    rintro e w2 ⟨rfl,aA⟩
    have ah:=(ai.tq am).tq aA
    clear av
    by_cases hl0:lk=0
    ·have t1:((lk:Int)==0)=true:=by rw [beq_iff_eq];omega
     have ag:Hid (a7b l W H d (m+1)=(m,c)):=hid (by rw [an.out,if_pos ⟨au.out,.inl hl0⟩,ao.out])
     clear hl0
     go_wp2_with fail
     go_roundg j
     case measure=>omega
     case rel=>exact ⟨m+1,m,c,by go_num,rfl,rfl,by omega,ag,ah⟩
    ·have t1:((lk:Int)==0)=false:=by rw [beq_eq_false_iff_ne];omega
     by_cases hlt:c<lk
     ·have t2:decide (c<lk)=true:=zB hlt
      have ag:Hid (a7b l W H d (m+1)=(m,c)):=hid (by rw [an.out,if_pos ⟨au.out,.inr (by rw [<-ao.out];exact hlt)⟩,ao.out])
      clear hl0 hlt
      go_wp2_with fail
      go_roundg j
      case measure=>omega
      case rel=>exact ⟨m+1,m,c,by go_num,rfl,rfl,by omega,ag,ah⟩
     ·have t2:decide (c<lk)=false:=zA hlt
      have ag:Hid (a7b l W H d (m+1)=(bk,lk)):=hid (by rw [an.out,if_neg (by rw [<-ao.out];intro h;rcases h.2 with h | h<;>omega)])
      clear hl0 hlt
      go_wp2_with fail
      go_roundg j
      case measure=>omega
      case rel=>exact ⟨m+1,bk,lk,by go_num,rfl,rfl,by omega,ag,ah⟩
end
def c9b (x:Int):Prop:=-9223372036854775808<=x/\x<=9223372036854775807
def a9f (x lo hi:Int):Int:=if lo<=x/\x<=hi then x else if x.tmod (hi-lo+1)<0 then lo+(x.tmod (hi-lo+1)+hi-lo+1) else lo+x.tmod (hi-lo+1)
theorem d2e (x:Int) {lo hi:Int} (h:lo<=hi):lo<=a9f x lo hi/\a9f x lo hi<=hi:=by
 unfold a9f
 have h1:=Int.tmod_lt_of_pos x (show 0<hi-lo+1 by omega)
 have h2:=Int.lt_tmod_of_pos x (show 0<hi-lo+1 by omega)
 split
 ·assumption
 ·split<;>omega
theorem d2f (x lo hi:Int) (w:World) (hx:c9b x) (h0 : -1099511627776<=lo) (h1:lo<=hi) (h2:hi<=1099511627776) :
  Calls Tryz.prog 11 #[.int .i64 x,.int .i64 lo,.int .i64 hi] w fun e w'=>e=.returned (.int .i64 (a9f x lo hi))/\w=w':=by
 obtain ⟨ad,ae⟩:=hx
 by_cases hin:lo<=x/\x<=hi
 ·have t1:decide (lo<=x)=true:=zB hin.1
  have t2:decide (x<=hi)=true:=zB hin.2
  have e:a9f x lo hi=x:=by unfold a9f;rw [if_pos hin]
  rw [e]
  clear hin h0 h1 h2 ad ae e
  go_enter Tryz.func11,Tryz.ntmps11
  go_wp2
  go_ret
  exact ⟨rfl,rfl⟩
 ·have hw:a9f x lo hi=if x.tmod (hi-lo+1)<0 then lo+(x.tmod (hi-lo+1)+hi-lo+1) else lo+x.tmod (hi-lo+1):=by unfold a9f;rw [if_neg hin]
  obtain ⟨m,hm⟩:=zX (hi-lo+1)
  have aa:0<m:=by omega
  rw [<-hm] at hw
  obtain ⟨q,hq⟩:=zX (x.tmod m)
  have ag:q<m:=by rw [hq];exact Int.tmod_lt_of_pos x aa
  have af : -m<q:=by rw [hq];exact Int.lt_tmod_of_pos x aa
  rw [<-hq] at hw
  have e1:hi-lo+1=m:=hm.symm
  have e2:x.tmod m=q:=hq.symm
  have ab:m≠0:=by omega
  rw [hw]
  clear hm hq hw
  have ac:∀ b1 b2,decide (lo<=x)=b1->decide (x<=hi)=b2->(b1&&b2)=false->Calls Tryz.prog 11 #[.int .i64 x,.int .i64 lo,.int .i64 hi] w fun e w'=>e=.returned (.int .i64 (if q<0 then lo+(q+hi-lo+1) else lo+q))/\w=w':=by
   intro b1 b2 t1 t2 hb
   by_cases hneg:q<0
   ·have t3:decide (q<0)=true:=zB hneg
    rw [if_pos hneg]
    cases b1<;>cases b2<;>simp at hb
    all_goals
     clear hin
     go_enter Tryz.func11,Tryz.ntmps11
     go_wp2
     go_ret
     exact ⟨rfl,rfl⟩
   ·have t3:decide (q<0)=false:=zA hneg
    rw [if_neg hneg]
    cases b1<;>cases b2<;>simp at hb
    all_goals
     clear hin
     go_enter Tryz.func11,Tryz.ntmps11
     go_wp2
     go_ret
     exact ⟨rfl,rfl⟩
  refine ac _ _ rfl rfl ?_
  cases h:(decide (lo<=x)&&decide (x<=hi)) with
  | false=>rfl
  | true =>
   rw [Bool.and_eq_true,decide_eq_true_eq,decide_eq_true_eq] at h
   exact absurd h hin
structure b9r (w:World) (b:Nat) (A:Option Addr) (cap:Nat) (L:List Int) (at_:Nat):Prop where
 blk:Blk w b 82 #[.slice A L.length cap,.int .i64 at_]
 cells:a0d vi w A L
 apt:Apt A L [b]
 in64:∀ x∈L,c9b x
 at_le:at_<=L.length
 len:L.length<=9223372036854775807
theorem b9r.same {w w':World} {b cap at_:Nat} {A:Option Addr} {L:List Int} (h:b9r w b A cap L at_) {F:List Nat} (hc:Chg F w w') (hb:b∉F) (hA:Apt A L F):b9r w' b A cap L at_ :=
 { h with blk:=h.blk.chg hc hb,cells:=h.cells.keep hA hc }
theorem e6c {w:World} {b cap at_:Nat} {A:Option Addr} {L:List Int} (h:b9r w b A cap L at_) (hlt:at_<L.length) (n1 n2:Nat) :
  b9r (((w.drewN n1).setCell ⟨b,1,none⟩ (.int .i64 ((at_:Int)+1))).drewN n2) b A cap L (at_+1)/\Chg [b] w (((w.drewN n1).setCell ⟨b,1,none⟩ (.int .i64 ((at_:Int)+1))).drewN n2):=by
 have aa:Chg [b] w (((w.drewN n1).setCell ⟨b,1,none⟩ (.int .i64 ((at_:Int)+1))).drewN n2):=(((zR [b] w).drewN n1).setCell (p:=⟨b,1,none⟩) (.inl (by simp)) (.int .i64 ((at_:Int)+1))).drewN n2
 have ab:=((h.blk.drewN n1).set_ 1 (.int .i64 ((at_:Int)+1))).drewN n2
 have e:((at_+1:Nat):Int)=(at_:Int)+1:=by simp
 refine ⟨⟨?_,h.cells.keep h.apt aa,h.apt,h.in64,hlt,h.len⟩,aa⟩
 rw [e]
 simpa using ab
theorem b7d (w:World) (b cap at_ n:Nat) (A:Option Addr) (L:List Int) (h:b9r w b A cap L at_) (hn0:1<=n) (hn1:n<=1073741824) :
  Calls Tryz.prog 39 #[.pointer (some ⟨b,0,none⟩),.int .i64 n] w fun e w'=>∃ v at':Nat,e=.returned (.int .i64 v)/\v<n/\b9r w' b A cap L at'/\Chg [b] w w':=by
 have b0:=h.blk.cell 0
 have b1:=h.blk.cell 1
 simp at b0 b1
 have HH:=hid h
 obtain ⟨m,hm⟩:=zX (L.length)
 rw [<-hm] at b0
 have t2:decide ((n:Int)<1)=false:=zA (by omega)
 by_cases hend:at_=m
 ·have t1:decide ((m:Int)<=(at_:Int))=true:=zB (by omega)
  have ah:decide (m<=at_)=true:=zB (by omega)
  clear h hm hend
  go_enter Tryz.func39,Tryz.ntmps39
  go_wp2
  go_quiet (fail)
  go_wp2
  go_ret
  exact ⟨0,at_,rfl,by omega,HH.out.same ((zR [] w).drewN nq) (by simp) (fun _ _ _=>by simp),(zR [b] w).drewN nq⟩
 ·have ag:at_<m:=by have:=h.at_le;omega
  have af:at_<L.length:=by rw [<-hm];exact ag
  have t1:decide ((m:Int)<=(at_:Int))=false:=zA (by omega)
  have ah:decide (m<=at_)=false:=zA (by omega)
  obtain ⟨g,o,rfl,cl⟩:=h.cells.at_ af
  have ab:=h.in64 L[at_] (zG _)
  have an:g≠b:=by
   have:=h.apt (by omega) _ rfl
   simpa using this
  obtain ⟨x,hx⟩:=zX (L[at_])
  rw [<-hx] at cl ab
  have ac:=fun w=>d2f x 0 1073741824 w ab (by omega) (by omega) (by omega)
  have ad:=d2e x (show (0:Int)<=1073741824 by omega)
  obtain ⟨y,hy⟩:=zX (a9f x 0 1073741824)
  rw [<-hy] at ac ad
  obtain ⟨k,hk⟩:∃ k:Nat,(k:Int)=y:=⟨y.toNat,Int.toNat_of_nonneg ad.1⟩
  rw [<-hk] at ac ad
  have ae:k%n<n:=Nat.mod_lt _ (by omega)
  have hbs:=h.blk.set_ 1 (.int .i64 ((at_:Int)+1))
  have am:=h.len
  have f1:=h.blk.frozen 1
  have ao:w.cell? ⟨g,o+at_,none⟩=some (.int .i64 x):=cl
  have ak:(k:Int).tmod (n:Int)=((k%n:Nat):Int):=by rw [Int.tmod_eq_emod_of_nonneg (by omega)];simp
  have aj:(n:Int)≠0:=by omega
  obtain ⟨r,hr⟩:=zX (k%n)
  rw [<-hr] at ak ae
  have ai:=hid ae
  have ar:(0:Int)<=(at_:Int):=by omega
  have ap:(at_:Int)<(m:Int):=by omega
  have al:(at_:Int)+1-1=(at_:Int):=by omega
  have HM:=hid hm
  have aq:=hid hbs
  clear h hm hend cl hy hk hr ae hx hbs
  go_enter Tryz.func39,Tryz.ntmps39
  go_wp2
  go_quiet (fail)
  go_wp2
  go_quiet ((go_at_call 11;exact b3c (ac _)))
  go_wp2
  go_ret
  have e:((at_+1:Nat):Int)=(at_:Int)+1:=by simp
  have aa:at_<L.length:=by rw [<-HM.out];exact ag
  exact ⟨r,at_+1,rfl,ai.out,(e6c HH.out aa _ _).1,(e6c HH.out aa _ _).2⟩
theorem d8c (x:Int) (l:List Int) (n:Nat):a1v (x::l) n=a0b x.toNat n++a1v l n:=rfl
theorem d2r (l:List Int) (n:Nat) {m:Nat} (hm:m<l.length):a1v (l.drop m) n=a0b (l[m]).toNat n++a1v (l.drop (m+1)) n:=by
 rw [List.drop_eq_getElem_cons hm,d8c]
theorem b5k (w:World) (b:Nat) (F ds:List Nat) (p d:Nat) (l:List Int) (h:a1r w b F ds p) (hd:d<=16) (hs:a1u d l) (hl:l.length<=4096) (ha:a0y ds p (a1v l d)) :
  Calls Tryz.prog 177 #[.pointer (some ⟨b,0,none⟩),.int .i64 l.length,.int .i64 d] w fun e w'=>∃ v g,e=.returned v/\Row w' 3 v g (l.map vi)/\a1r w' b F ds (p+(a1v l d).length)/\Chg [b] w w'/\w.heap.size<=g:=by
 have HS:=hid hs
 have HA:=hid ha
 have aN:=h.lt b h.mem
 have ax:=h.lt
 obtain ⟨n,hn⟩:=zX (l.length)
 rw [<-hn] at hl ⊢
 have aM:=a1p (P:=Tryz.prog) a0p rfl .i64 .i64 n (by omega) (by omega)
 have HN:=hid hn
 have ad:=Row.zeros w n (by omega)
 obtain ⟨B,hB⟩:=zX (w.heap.size)
 have au:Chg [] w (w.alloc (.cells (List.replicate n (Value.int .i64 0)).toArray 3)):=(zR [] w).alloc _
 have af:=h.same au
 have aD:b≠B:=by omega
 have aB:Hid (∀ y∈F,y∉[B]):=hid (fun y hy hm=>by have:=ax y hy;simp at hm;omega)
 rw [<-hB] at ad
 have HB:=hid hB
 clear hn hs ha hB h ax
 go_enter Tryz.func177,Tryz.ntmps177
 go_wp2_with fail
 rw [<-HB.out]
 go_loopg [13] n (fun j iv wr=>∃ (done:List Int) (p':Nat),iv=.int .i64 done.length/\done.length+j=n/\Hid (done=l.take done.length)/\Row wr 3 (.slice (some ⟨B,0,none⟩) n n) B ((a1a done n).map vi)/\a1r wr b F ds p'/\Hid (a0y ds p' (a1v (l.drop done.length) d))/\Hid (p'+(a1v (l.drop done.length) d).length=p+(a1v l d).length)/\Hid (Chg [b] w wr))
 case atStart=>exact ⟨[],p,rfl,by simp,hid (by simp),ad,af,by simpa using HA,hid (by simp),hid (au.mono (by simp))⟩
 case round =>
  clear ad au af
  obtain ⟨done,p',rfl,ar,Hd,ae,an,Ha,Hp,aw⟩:=hrel
  obtain ⟨m,hm⟩:=zX (done.length)
  rcases gk with _ | j
  ·rw [<-hm] at ar Ha Hp ⊢
   obtain rfl:m=n:=by omega
   have t1:decide ((m:Int)<(m:Int))=false:=by simp
   have HM:=hid hm
   clear hm ar
   go_wp2
   go_ret
   have e:done=l:=by rw [Hd.out,<-HM.out,HN.out,zN]
   have e2:l.drop m=[]:=by rw [HN.out,List.drop_length]
   have hp:=Hp.out
   rw [e2] at hp
   rw [a7l HM.out.symm,e] at ae
   exact ⟨_,B,rfl,ae,an.cast (by simpa [a1v] using hp),aw.out,by have:=HB.out;omega⟩
  ·have ak:m<l.length:=by rw [<-HN.out];omega
   have ai:=d2r l d ak
   have al:=a0o l ak
   obtain ⟨x,hx⟩:=zX (l[m])
   have ap:=HS.out l[m] (zG _)
   rw [<-hx] at ai ap al
   obtain ⟨X,hX⟩:∃ X:Nat,X=x.toNat:=⟨_,rfl⟩
   have am:x=(X:Int):=by omega
   have aj:=Ha.out
   rw [<-hm,ai,<-hX] at aj
   have ao:X<2^d:=by
    have e:(2:Int)^d=((2^d:Nat):Int):=by simp
    have:=ap.2
    rw [e,am] at this
    omega
   have aF:X<65536:=Nat.lt_of_lt_of_le ao (show 2^d<=2^16 from Nat.pow_le_pow_right (by decide) hd)
   have ag:=a0j wr b F ds p' d X an (by omega) ao aj.left
   have aK:=hid aj.right
   have aE:=hid ai
   have aA:=hid al
   have HX:=hid hX
   have aG:=hid am
   have aq:=hid ae
   have aL:=hid ak
   have HM:=hid hm
   have aI:m+(j+1)=n:=by omega
   rw [<-hm]
   clear ak ai al hx ap aj ao hX am an ae hm ar
   go_wp2_with fail
   refine ag.mono ?_
   rintro e w1 ⟨rfl,az,av⟩
   have aa:=aq.out.chg av (by simpa using aD.symm)
   obtain ⟨aC,aJ⟩:=aa.fill_cell (by have:=HM.out;omega)
   have ab:=aa.fill (by have:=HM.out;omega) (X:Int)
   rw [<-HM.out] at aC aJ ab
   have aH:=hid ab
   have ay:(a1a done n).length=n:=a4g (by have:=HM.out;omega)
   clear ag aa ab
   go_wp2
   go_roundg j
   case measure=>omega
   case rel =>
    have ah:Chg [B] w1 (w1.setCell ⟨B,m,none⟩ (.int .i64 X)):=(zR _ _).setCell (.inl (by simp)) _
    have ac:(done++[(X:Int)]).length=m+1:=by rw [zC,List.length_singleton,<-HM.out]
    refine ⟨done++[(X:Int)],p'+d,by rw [ac];go_num,by rw [ac];omega,?_,aH.out,az.chg ah aB.out,?_,?_,?_⟩
    ·rw [ac,aA.out,aG.out]
     have:=Hd.out
     rw [<-HM.out] at this
     rw [<-this]
     exact hid rfl
    ·rw [ac]
     have:=aK.out
     rw [a0a] at this
     exact hid this
    ·rw [ac]
     have h1:=Hp.out
     have h2:=aE.out
     rw [<-HM.out,h2,zC,a0a] at h1
     exact hid (by omega)
    ·exact hid ((aw.out.tq av).trans ah fun y hy => .inr (by have:=HB.out;simp at hy;omega))
theorem d2q (x:Int) (l:List Int) (n:Nat):a1v (x::l) n=a0b x.toNat n++a1v l n:=rfl
theorem c6c (l:List Int) (n:Nat):(a1v l n).length=n*l.length:=by
 induction l with
 | nil=>rfl
 | cons x l ih=>rw [d2q,zC,a0a,ih,zK,Nat.mul_add];omega
theorem d9p {l:List Nat} {B:Nat} (h:∀ x∈l,x<=B):b3k l<=B:=by
 unfold b3k
 suffices H:∀ (l:List Nat) (m:Nat),m<=B->(∀ x∈l,x<=B)->l.foldl max m<=B from H l 0 (Nat.zero_le _) h
 intro l
 induction l with
 | nil=>intro m hm _;exact hm
 | cons x l ih=>intro m hm hl;exact ih _ (by have := hl x (by simp);omega) (fun y hy=>hl y (by simp [hy]))
theorem c6y (w:World) (b:Nat) (F ds:List Nat) (p:Nat) (l:List Int) (W H d:Nat) (h:a1r w b F ds p) (hw0:1<=W) (hw1:W<=16) (hh0:1<=H) (hh1:H<=16) (h0:1<=d) (h1:d<=16) (hl:l.length=W*H) (hs:a1u d l) (ha:a0y ds p (a2z l W H d)) :
  Calls Tryz.prog 178 #[.pointer (some ⟨b,0,none⟩),.int .i64 W,.int .i64 H,.int .i64 d] w fun e w'=>∃ v g,e=.returned (.tuple #[v,.int .i64 0])/\Row w' 3 v g (l.map vi)/\a1r w' b F ds (p+(a2z l W H d).length)/\Chg [b] w w'/\w.heap.size<=g:=by
 have bk:a2z l W H d=a1v (a6p l W H d) 4++a7j (a8w l W H d) (W*H):=rfl
 rw [bk] at ha ⊢
 rw [zC]
 have bK:=d0u l W H d
 have az:=b7a l W H d
 have bg:=d0t l W H d
 have aI:=fun hr=>b5k w b F ds p 4 (a6p l W H d) hr (by omega) bg (by rw [az];omega) ha.left
 have aY:=ha.right
 have au:=c0u l W H d
 have a9:=b6v l W H d h0 h1
 obtain ⟨m,hm⟩:=zX (W*H)
 have bE:1<=m:=by rw [hm];exact Nat.mul_pos hw0 hh0
 have be:m<=256:=by rw [hm];exact zL hw1 hh1
 have bN:(W:Int)*(H:Int)=(m:Int):=by rw [hm];simp
 have aT:a8w l W H d=(b3y l W H d (a0s l W H d)).map fun v=>a1b v d:=rfl
 have aE:=e2o l W H d (a0s l W H d)
 rw [<-aT] at aE
 have a5:=d5w l W H d (a0s l W H d)
 have aP:=c0v l W H d (a0s l W H d)
 have bi:=fun y x (hy:y<H) (hx:x<W)=>e7n l d (a0s l W H d) hy hx
 have aO:∀ x∈a8w l W H d,a1b x d=x:=fun x hx=>by
  rw [aT] at hx
  obtain ⟨v,_,rfl⟩:=List.mem_map.1 hx
  obtain ⟨r0,r1⟩:=a2s v h0
  exact d5v h0 r0 r1
 have ap:=fun A AK cap capk w' (hc:a0d vi w' A (b3y l W H d (a0s l W H d))) (hk:a0d i64 w' AK (a0s l W H d)) =>
  e7r l (b3y l W H d (a0s l W H d)) (a0s l W H d) A AK cap capk W H d w' hw0 (by omega) hh0 (by omega) h0 h1 hl hs aP a5 (fun y x hy hx=>bi y x hy hx) (a4m l W H d) (a8l l W H d) hc hk
 rw [aP,<-hm,a4m] at ap
 have an:∀ Ak w,a0d vi w Ak (a6p l W H d)->a0d i64 w Ak (a0s l W H d):=fun Ak w h=>a0d.map (f:=vi) (k:=Int.ofNat) h
 have a3:b3k (a0s l W H d)<=9:=d9p (fun x hx=>by have:=a8l l W H d x hx;omega)
 have aC:a0s l W H d≠[]:=fun e=>by have:=a4m l W H d;rw [e] at this;simp at this;omega
 have ae:=c1o (a0s l W H d) aC
 have bb:a6p l W H d=(a0s l W H d).map Int.ofNat:=rfl
 rw [<-bb] at ae
 rw [<-hm] at aY au ⊢
 have aQ:=a7u (n:=m) (warm:=0) (most:=4) (by omega) (a8w l W H d)
 have ax:=c1e (n:=m) (a8w l W H d)
 have aB:=c1f (n:=m) (a8w l W H d)
 have ac:=fun w' (hr:a1r w' b F ds (p+(a1v (a6p l W H d) 4).length))=>f2e w' b F ds (p+(a1v (a6p l W H d) 4).length) _ m 0 _ (a8w l W H d) hr aQ.2.1 bE (by omega) (by omega) aQ.1.1 aB ax au a9 aY
 have a7:a7j (a8w l W H d) m=b3t (a1f m 0 4 (a8w l W H d)).order (a1f m 0 4 (a8w l W H d)).ks (a1k (a1q (a1f m 0 4 (a8w l W H d)).order m 0) (a8w l W H d)):=rfl
 rw [<-a7] at ac
 obtain ⟨E,hE⟩:=zX (b3y l W H d (a0s l W H d))
 obtain ⟨EF,aj⟩:=zX (a8w l W H d)
 rw [<-hE] at aE ap
 rw [<-aj] at aE aO au ac
 rw [<-aj]
 obtain ⟨K,hK⟩:=zX (a6p l W H d)
 rw [<-hK] at aI az ae an ac
 rw [<-hK]
 obtain ⟨mx,ba⟩:=zX (b3k (a0s l W H d))
 rw [<-ba] at a3 ae
 obtain ⟨a1,bf⟩:=zX ((a1v K 4).length)
 obtain ⟨a2,ay⟩:=zX ((a7j EF m).length)
 rw [<-bf] at aI ac ⊢
 rw [<-ay] at ac ⊢
 rw [az] at aI
 generalize (a1f m 0 4 EF).order=po at ac
 have ao:=aI h
 rw [show ((4:Nat):Int)=4 from rfl] at ao
 have t9:decide ((9:Int)<(mx:Int))=false:=zA (by omega)
 have bQ:=h.lt b h.mem
 have bh:=h.lt
 have aV:=hid az
 have bA:=hid ae
 have bG:=hid an
 have bB:=hid ac
 have bI:=hid aE
 have br:=hid aO
 have bH:=hid ap
 have aD:=hid au
 have bx:=hid bh
 clear bk bK az bg aI ha aY au a9 hm aT aE a5 aP bi aO ap an aC bb aQ ax aB ac a7 hE aj hK ba bf ay ae hs hl h bh
 go_enter Tryz.func178,Tryz.ntmps178
 go_wp2_with fail
 refine ao.mono ?_
 rintro e w1 ⟨vk,gk',rfl,aa,aR,bl,bS⟩
 obtain ⟨ck,rfl,bJ,bv,_,_⟩:=aa.oq
 have aZ:a0d vi w1 (some ⟨gk',0,none⟩) K:=aa.toOwn.cells
 have al:=Tryz.slices_Max_int gk' 0 H ck K w1 (by omega) (by rw [aV.out];exact zQ _) (by omega) (a0d.getD_ aZ)
 rw [zT (by rw [aV.out];exact zQ _),bA.out] at al
 rw [aV.out]
 have a8:=aa.lt
 have ac:=bB.out w1 aR
 rw [show ((0:Nat):Int)=0 from rfl] at ac
 clear ao aa
 go_wp2_with (go_at_call 69;refine (a2b _ b F ds _ aR).mono ?_;rintro e w' ⟨rfl,rfl⟩)
 refine al.mono ?_
 rintro e w' ⟨rfl,rfl⟩
 clear al
 go_wp2_with fail
 refine ac.mono ?_
 rintro e w2 ⟨Ap,np,cp,v2,G2,rfl,aA,a4,aU,bd⟩
 have aN:gk'∉[b]:=by simp;omega
 have aF:a0d vi w2 (some ⟨gk',0,none⟩) K:=aZ.keep (fun _ ad e=>by injection e with e;subst e;exact aN) aU
 rcases aA.cases with ⟨_,aS,_⟩ | ⟨g,ag,rfl⟩
 ·exfalso
  have:=congrArg List.length aS
  rw [zE,aD.out] at this
  simp at this
  omega
 obtain ⟨cg,rfl,a0,bz,_,_⟩:=ag.oq
 rw [aD.out] at a0 ag ⊢
 have bL:=bd g (by simp)
 have ah:=bl.tq aU
 have bR:=a4.lt
 obtain ⟨w3,aX⟩:=zX (w2.alloc (.cells #[.int .i64 po,.slice Ap np cp] 188))
 have aM:Chg [] w2 w3:=by rw [aX];exact (zR [] w2).alloc _
 have bu:=a4.same aM
 have aG:=ag.chg aM (by simp)
 have av:=aF.same aM
 have aW:=ah.trans aM (by simp)
 have bw:g≠gk':=by omega
 have bC:=hid aX
 have ak:=fun v w'=>a7x v d w' h0 h1
 have am:=fun v w'=>b2n v d w' h0 h1
 clear aA ag a4 aZ aF ac aX ah aU bd aR bl
 go_wp2_with fail
 rw [<-bC.out]
 go_loopg [15,16,42] m (fun j va vb iv wr=>∃ (i:Nat),iv=.int .i64 i/\i+j=m/\Row wr 3 (.slice (some ⟨g,0,none⟩) m cg) g ((d6w (fun v=>a0k v d) EF i).map vi)/\Chg [g] w3 wr)
 case atStart=>exact ⟨0,rfl,by omega,by rw [c1r];exact aG,zR _ _⟩
 case round =>
  clear aG
  obtain ⟨i,rfl,bO,ab,aL⟩:=hrel
  rcases gk with _ | j
  ·obtain rfl:m=i:=by omega
   have t1:decide (m<m)=false:=by simp
   rw [<-aD.out,c1q,bI.out,aD.out] at ab
   have bm:a0d vi wr (some ⟨g,0,none⟩) E:=ab.toOwn.cells
   have aH:=bG.out _ _ (av.chg aL (fun ad e=>by injection e with e;subst e;simp;omega))
   have ap:=bH.out _ _ cg ck wr bm aH
   have bs:=bu.chg aL (fun x hx hm=>by simp at hm;have:=bx.out x hx;omega)
   have aw:=aW.trans aL (fun x hx=>by simp at hx;right;omega)
   clear bm aH av ab
   go_wp2_with fail
   refine ap.mono ?_
   rintro e w5 ⟨v5,g5,rfl,aJ,bp,bP⟩
   go_wp2
   go_ret2
   exact ⟨v5,g5,rfl,aJ,(bs.same bp).cast (by omega),aw.trans bp (by simp),by have:=aw.size;omega⟩
  ·have a6:i<m:=by omega
   have t1:decide (i<m)=true:=zB a6
   have ar:i<EF.length:=by rw [aD.out];exact a6
   obtain ⟨bD,bq,_,_,ai,aq⟩:=ab.oq
   have bc:=ai i _ (d3x (fun v=>a0k v d) EF ar)
   have bM:=aq i
   have af:=ab.set_ (i:=i) (by rw [zE,c7h];exact ar) (vi (a0k (EF.getD i 0) d))
   rw [<-List.map_set,c7i (fun v=>a0k v d) EF ar] at af
   have bn:=br.out (EF.getD i 0) (by rw [zD,zF ar];exact zG ar)
   have bo:=fun w=>ak (EF.getD i 0) w
   have bj:=fun w=>am (EF.getD i 0) w
   rw [bn] at bo
   generalize EF.getD i 0=x at *
   have t2:(x != x)=false:=by simp
   obtain ⟨y,hy⟩:=zX (a0k x d)
   rw [<-hy] at af bj
   have bF:wr.cell? ⟨g,i,none⟩=some (.int .i64 x):=bc
   have aK:Row (wr.setCell ⟨g,i,none⟩ (.int .i64 y)) _ _ _ _:=af
   clear bq ai aq bc af hy ab bn
   go_wp2_with (first | (go_at_call 84;refine (bo _).mono ?_;rintro e w' ⟨rfl,rfl⟩) | (go_at_call 83;refine (bj _).mono ?_;rintro e w' ⟨rfl,rfl⟩))
   go_roundg j
   case measure=>omega
   case rel=>exact ⟨i+1,by go_num,by omega,aK,aL.setCell (.inl (by simp)) _⟩
def c7o (D:List Int) (v:Int):Int:=D.getD v.toNat 0
theorem e8d (l:List Int):(e0y l).map (c7o (a2g l))=l:=by
 unfold e0y
 rw [List.map_map]
 refine (List.map_congr_left fun s hs => ?_).trans (List.map_id _)
 have h:=(b1n (a2g l) (b5e l) ((a9u l s).2 hs)).2
 show c7o (a2g l) ((a2g l).countP (· < s):Int)=s
 unfold c7o
 rw [Int.toNat_natCast,zD,h]
 rfl
theorem c3r (w:World) (b:Nat) (F ds:List Nat) (p:Nat) (l:List Int) (d:Nat) (h:a1r w b F ds p) (h0:1<=d) (h1:d<=16) (hl0:0<l.length) (hl:l.length<=256) (hs:a1u d l) (hk:(a2g l).length<=16) (ha:a0y ds p (a2r l d)) :
  Calls Tryz.prog 182 #[.pointer (some ⟨b,0,none⟩),.int .i64 l.length,.int .i64 d] w fun e w'=>∃ v g,e=.returned (.tuple #[v,.int .i64 0])/\Row w' 3 v g (l.map vi)/\a1r w' b F ds (p+(a2r l d).length)/\Chg [b] w w'/\w.heap.size<=g:=by
 have aI:=d0c hl0
 have aH:=d5o hs
 have ai:=b5e l
 have aQ:=fun x (hx:x∈l)=>(b1n (a2g l) (b5e l) ((a9u l x).2 hx)).1
 have a4:a2r l d=a0b ((a2g l).length-1) 4++a1v (a2g l) d++a1v (e0y l) (a9i (a2g l).length):=rfl
 rw [a4] at ha ⊢
 have aq:=e8d l
 have ak:=d6g l
 obtain ⟨D,hD⟩:=zX (a2g l)
 obtain ⟨k,aj⟩:=zX (D.length)
 have aw:∀ x∈e0y l,0<=x/\x<(k:Int):=fun x hx=>by
  obtain ⟨s,bs,rfl⟩:=List.mem_map.1 hx
  have:=aQ s bs
  rw [aj,hD]
  show (0:Int)<=_/\((a2g l).countP (· < s):Int)<((a2g l).length:Int)
  omega
 rw [<-hD] at aI aH ai hk aq ha ⊢
 have aD:=c4t hk
 have aX:=c6g hk
 have ar:=fun w=>c5n D.length w aI (by omega)
 rw [<-aj] at aI hk aD aX ar ha ⊢
 obtain ⟨q,hq⟩:=zX (a9i k)
 rw [<-hq] at aD aX ar ha ⊢
 obtain ⟨I,hI⟩:=zX (e0y l)
 rw [<-hI] at aq ak aw ha ⊢
 obtain ⟨n,hn⟩:=zX (l.length)
 rw [<-hn] at ak hl hl0 ⊢
 have ax:=a0j w b F ds p 4 (k-1) h (by omega) (by omega) ha.left.left
 have aL:=ha.left.right
 have aN:=ha.right
 rw [a0a] at aL
 rw [zC,a0a] at aN
 have ay:=fun w' (hr:a1r w' b F ds (p+4))=>b5k w' b F ds (p+4) d D hr h1 aH (by rw [<-aj];omega) aL
 have a0:a1u q I:=fun x hx=>by
  have:=aw x hx
  have e:(2:Int)^q=((2^q:Nat):Int):=by simp
  rw [e]
  omega
 have aK:=fun w' (hr:a1r w' b F ds (p+(4+(a1v D d).length)))=>b5k w' b F ds (p+(4+(a1v D d).length)) q I hr (by omega) a0 (by rw [ak];omega) aN
 rw [<-aj] at ay
 rw [ak] at aK
 rw [zC,zC,a0a]
 generalize (a1v D d).length=a1 at *
 generalize (a1v I q).length=a2 at *
 obtain ⟨k1,aW⟩:=zX (k-1)
 have ek:(k1:Int)+1=(k:Int):=by omega
 rw [<-aW] at ax
 have bI:IntKind.i64.wrap (k1:Int)=(k1:Int):=IntWalk.i64_in _ (by omega)
 have bq:=h.lt b h.mem
 have aF:=hid aj
 have bx:=hid aq
 have au:=hid ak
 have bw:=hid aw
 have bj:=hid ay
 have bn:=hid aK
 have aB:=hid ai
 have bd:=hid h.lt
 clear hn aj aq ak aw ay aK ai a4 hD hI hq hs aQ aH ha aL aN a0 aW aD h
 go_enter Tryz.func182,Tryz.ntmps182
 go_wp2_with fail
 refine ax.mono ?_
 rintro e w1 ⟨rfl,aR,av⟩
 clear ax
 go_wp2_with fail
 refine (bj.out w1 aR).mono ?_
 rintro e w2 ⟨vD,gD,rfl,ad,a3,aE,bE⟩
 obtain ⟨cD,rfl,be,br,_,_⟩:=ad.oq
 rw [<-aF.out]
 have aY:=ad.lt
 go_wp2_with fail
 refine (ar w2).mono ?_
 rintro e w' ⟨rfl,rfl⟩
 go_wp2_with fail
 refine (bn.out w2 (a3.cast (by omega))).mono ?_
 rintro e w3 ⟨vI,gI,rfl,f3h,aA,aG,bA⟩
 obtain ⟨cI,rfl,aO,bc,_,_⟩:=f3h.oq
 rw [au.out] at aO f3h ⊢
 have af:=ad.chg aG (by have:=av.size;simp;omega)
 have an:=(av.tq aE).tq aG
 have bF:=(av.tq aE).size
 clear ad aR a3 av aE aG ar
 have a8:w.heap.size<=gI:=by omega
 have bD:gD<gI:=by omega
 go_wp2_with (go_at_call 69;refine (a2b _ b F ds _ aA).mono ?_;rintro e w' ⟨rfl,rfl⟩)
 have bb:=hid aA
 have ba:=hid an
 have bz:=hid f3h
 have aV:=hid af
 clear aA an f3h af
 go_loopg [11] (k-1) (fun j iv wr=>∃ i q':Nat,iv=.int .i64 i/\1<=i/\i+j=k/\wr=w3.drewN q')
 case atStart=>exact ⟨1,0,rfl,zQ _,by omega,rfl⟩
 case round =>
  obtain ⟨i,q',rfl,bG,bo,rfl⟩:=hrel
  rcases gk with _ | j
  ·obtain rfl:k=i:=by omega
   have u1:decide (k<k)=false:=by simp
   have ae:=bz.out.drewN q'
   have aM:=aV.out.drewN q'
   have bv:=bb.out.same ((zR [] w3).drewN q')
   have aC:=ba.out.drewN q'
   generalize w3.drewN q'=w4 at *
   go_wp2_with fail
   go_loopg [12,13,50] n (fun j va vb iv wr=>∃ (i:Nat),iv=.int .i64 i/\i+j=n/\Row wr 3 (.slice (some ⟨gI,0,none⟩) n cI) gI ((d6w (c7o D) I i).map vi)/\Chg [gI] w4 wr)
   case atStart=>exact ⟨0,rfl,by omega,by rw [c1r];exact ae,zR _ _⟩
   case round =>
    clear ae
    obtain ⟨i,rfl,bo,ab,ap⟩:=hrel
    rcases gk with _ | j
    ·obtain rfl:n=i:=by omega
     have u2:decide (n<n)=false:=by simp
     rw [<-au.out,c1q,bx.out,au.out] at ab
     have a9:=bv.chg ap (fun x hx hm=>by simp at hm;have:=bd.out x hx;omega)
     have az:=aC.trans ap (fun x hx=>by simp at hx;right;omega)
     go_wp2_with fail
     go_ret2
     exact ⟨_,gI,rfl,ab,a9.cast (by omega),az,a8⟩
    ·have aP:i<n:=by omega
     have u2:decide (i<n)=true:=zB aP
     have am:i<I.length:=by rw [au.out];exact aP
     obtain ⟨bf,a7,_,_,ag,al⟩:=ab.oq
     have aU:=ag i _ (d3x (c7o D) I am)
     have bC:=al i
     have ac:=ab.set_ (i:=i) (by rw [zE,c7h];exact am) (vi (c7o D (I.getD i 0)))
     rw [<-List.map_set,c7i (c7o D) I am] at ac
     have a6:=bw.out (I.getD i 0) (by rw [zD,zF am];exact zG am)
     generalize I.getD i 0=x at *
     obtain ⟨X,hX⟩:∃ X:Nat,X=x.toNat:=⟨_,rfl⟩
     have bu:x=(X:Int):=by omega
     have bi:X<k:=by omega
     have aT:c7o D x=D.getD X 0:=by unfold c7o;rw [hX]
     obtain ⟨a5,ah,_,_,aa,_⟩:=(aM.chg ap (by simp;omega)).oq
     have bg:X<D.length:=by rw [<-aF.out];exact bi
     have aS:=aa X (D.getD X 0) (by rw [zD,zF bg];rfl)
     rw [aT] at ac
     generalize D.getD X 0=y at *
     subst bu
     have u3:decide (k<=X)=false:=zA (by omega)
     have bm:wr.cell? ⟨gI,i,none⟩=some (.int .i64 X):=aU
     have bl:wr.cell? ⟨gD,X,none⟩=some (.int .i64 y):=aS
     have ao:Row (wr.setCell ⟨gI,i,none⟩ (.int .i64 y)) _ _ _ _:=ac
     clear a7 ag al aU ac hX ab a6 aT aa ah aS
     go_wp2
     go_roundg j
     case measure=>omega
     case rel=>exact ⟨i+1,by go_num,by omega,ao,ap.setCell (.inl (by simp)) _⟩
  ·have aZ:i<k:=by omega
   have u1:decide (i<k)=true:=zB aZ
   obtain ⟨i0,bh⟩:=zX (i-1)
   have ei:(i:Int)-1=(i0:Int):=by omega
   have aJ:i<D.length:=by rw [<-aF.out];exact aZ
   have bk:=List.pairwise_iff_getElem.1 aB.out i0 i (by omega) aJ (by omega)
   obtain ⟨a5,ah,_,_,aa,_⟩:=aV.out.oq
   have c1:=aa i0 _ (zF (by omega))
   have c2:=aa i _ (zF aJ)
   generalize D[i0]=x at *
   generalize D[i]=y at *
   have bB:w3.cell? ⟨gD,i0,none⟩=some (.int .i64 x):=c1
   have bH:w3.cell? ⟨gD,i,none⟩=some (.int .i64 y):=c2
   have u2:decide (y<=x)=false:=zA (by omega)
   have bp:i0<k:=by omega
   clear bh aa ah c1 c2 bk aJ
   go_wp2
   go_quiet (fail)
   go_wp2
   go_roundg j
   case measure=>omega
   case rel=>exact ⟨i+1,q'+nq,by go_num,by omega,by omega,by first | rfl | rw [World.drewN_drewN]⟩
theorem d8w {n:Nat} {F:List Nat} (hF:Fut F (a6r n)):a8r (F.take 4)≠4294967295:=by
 have:=hF.hi
 simp [a6r,pre,a8r] at this
 unfold a8r
 simp
 omega
theorem d9v (N:Nat) {F:List Nat} (hd:∀ d∈F,d<256) (h4:4<=F.length) (hF:Fut F (a6r N)):a9g (b3m F N):=by
 have:=hF.hi
 simp [a6r,pre,a8r] at this
 refine ⟨hd,by simp [b3m],by simp [b3m],?_,h4,by simp [b3m]⟩
 simp [b3m,a8r]
 omega
theorem e2m (l:List Int) (W:Nat) {d:Nat} (h0:1<=d) (h1:d<=16) (i:Nat):a3c l W d i<65536 :=
 Nat.lt_of_lt_of_le (a9o l W h0 i) (Nat.pow_le_pow_right (n:=2) (by decide) h1)
theorem c6k (l:List Int) (W:Nat) {d:Nat} (h0:1<=d) (h1:d<=16):∀ i,a2c (c0h l W d i)
 | 0=>d9u _
 | i+1=>by
  have h:=b0f l W h0 h1 i
  have hc:=c0g l W d i
  have hf:=e2m l W h0 h1 i
  exact e8y h.1 (c6k l W h0 h1 i) (by omega) (by rw [h.2.1];omega)
theorem d5y (l:List Int) (W:Nat) {d:Nat} (h0:1<=d) (h1:d<=16) {F:List Nat} (hd:∀ x∈F,x<256):∀ (k i:Nat),Fut F (c0h l W d (i+k))->Fut F (c0h l W d i)
 | 0,_,h=>h
 | k+1,i,h=>by
  have hk:=b0f l W h0 h1 (i+k)
  have hc:=c0g l W d (i+k)
  have hf:=e2m l W h0 h1 (i+k)
  have h':Fut F (c8x (c0h l W d (i+k)) (33*d2y l W d (i+k)) (a3c l W d (i+k))):=h
  exact d5y l W h0 h1 hd k i (f1l (v:=a3c l W d (i+k)) (ctx:=33*d2y l W d (i+k)) hd hk.1 (c6k l W h0 h1 _) (by omega) (by rw [hk.2.1];omega) h')
theorem d0i {l:List Int} {d:Nat} (hs:a1u d l) (W i:Nat):a0k (a3d 7 (a8a l W i) d+a1l (a3c l W d i)) d=l.getD i 0:=by
 obtain ⟨h0,h1⟩:=a5d hs i
 unfold a3c
 rw [b6h]
 exact c3a h0 h1
theorem c5m {l:List Int} {W i:Nat} (hW:1<=W) (hi:i<=l.length):a8a (a1a (l.take i) l.length) W i=a8a l W i:=by
 unfold a8a
 exact c7k (Nat.mod_lt _ (by omega)) (by rw [zY];exact Nat.div_add_mod i W) hi
theorem d0h {d:Nat} {l:List Int} (hs:a1u d l) (i n:Nat):a1u d (a1a (l.take i) n):=by
 intro s h
 unfold a1a at h
 rcases zP.1 h with h | h
 ·exact hs s (List.mem_of_mem_take h)
 ·rw [List.eq_of_mem_replicate h];exact ⟨Int.le_refl _,a0i d⟩
theorem c3b (g:Int) (f d:Nat) (w:World) (h0:1<=d) (h1:d<=16) (hg0:0<=g) (hg1:g<65536) (hf:f<65536) :
  Calls Tryz.prog 233 #[.int .i64 g,.int .i64 f,.int .i64 d] w fun e w'=>e=.returned (.int .i64 (a0k (g+a1l f) d))/\w=w':=by
 have hu:=b2j f w (by omega)
 have ab:IntKind.u64.wrap (f:Int)=(f:Int):=IntWalk.u64_in _ (by omega)
 have ac : -65536<=a1l f/\a1l f<=65536:=by unfold a1l;split<;>omega
 have aa:=b2n (g+a1l f) d w h0 h1
 generalize a1l f=u at *
 go_enter Tryz.func233,Tryz.ntmps233
 go_wp2_with fail
 refine hu.mono ?_
 rintro e w' ⟨rfl,rfl⟩
 go_wp2_with fail
 refine aa.mono ?_
 rintro e w' ⟨rfl,rfl⟩
 go_wp2
 go_ret
 exact ⟨rfl,rfl⟩
theorem f4q:b6m Tryz.prog 39 5 (.int .u8 0) 1 1:=.mk' Tryz.underlying39 (by kernel_rfl)
def b6u (done:List Nat) (n:Nat):List Nat:=done++List.replicate (n-done.length) 0
theorem d8q {l:List Nat} {n:Nat} (h:l.length=n):b6u l n=l:=by simp [b6u,h]
theorem e2f {done:List Nat} {n:Nat} (h:done.length<n):(b6u done n)[done.length]?=some 0:=by
 unfold b6u
 rw [zS (zQ _),Nat.sub_self,List.getElem?_replicate,if_pos (by omega)]
theorem e2h {done:List Nat} {n:Nat} (h:done.length<n) (x:Nat):(b6u done n).set done.length x=b6u (done++[x]) n:=by
 unfold b6u
 obtain ⟨k,hk⟩:∃ k,n-done.length=k+1:=⟨n-done.length-1,by omega⟩
 rw [hk,List.set_append_right _ _ (zQ _),Nat.sub_self,List.replicate_succ,List.set_cons_zero,zC,List.length_singleton,show n-(done.length+1)=k by omega]
 simp
theorem e2g {done:List Nat} {n:Nat} (h:done.length<=n):(b6u done n).length=n:=by simp [b6u];omega
theorem d2x (R:List Nat) {m:Nat} (hm:m<R.length):(R.drop m).flatMap (fun x=>a0b x 8)=a0b R[m] 8++(R.drop (m+1)).flatMap (fun x=>a0b x 8):=by
 rw [List.drop_eq_getElem_cons hm,List.flatMap_cons]
theorem d0k (w:World) (b:Nat) (F ds:List Nat) (p:Nat) (l:List Int) (W H d:Nat) (h:a1r w b F ds p) (hw0:1<=W) (hw1:W<=16) (hh0:1<=H) (hh1:H<=16) (h0:1<=d) (h1:d<=16) (hl:l.length=W*H) (hs:a1u d l) (ha:a0y ds p (a3w l W d)) :
  Calls Tryz.prog 181 #[.pointer (some ⟨b,0,none⟩),.int .i64 W,.int .i64 H,.int .i64 d] w fun e w'=>∃ v g,e=.returned (.tuple #[v,.int .i64 0])/\Row w' 3 v g (l.map vi)/\a1r w' b F ds (p+(a3w l W d).length)/\Chg [b] w w'/\w.heap.size<=g:=by
 have bX:a3w l W d=a0b (a5w l W d).length 16++(a5w l W d).flatMap fun x=>a0b x 8:=rfl
 have bw:=b4i l W h0 h1
 have aW:=c5q l W h0 h1
 have ad:a5w l W d=(c0h l W d l.length).low:=rfl
 rw [bX] at ha ⊢
 rw [zC,a0a]
 obtain ⟨R,hR⟩:=zX (a5w l W d)
 rw [<-hR] at bw aW ad ha ⊢
 obtain ⟨n,hn⟩:=zX (l.length)
 have bY:n<=256:=by rw [hn,hl];exact zL hw1 hh1
 have cA:n<=64*W:=by rw [hn,hl,zY];exact Nat.mul_le_mul_right W (by omega)
 have cG:(W:Int)*(H:Int)=(n:Int):=by rw [hn,hl];simp
 rw [<-hn] at bw ad
 have au:Fut R (c0h l W d n):=by rw [ad];exact e7q (b0f l W h0 h1 n).1
 have ax:=fun i (hi:i<=n)=>d5y l W h0 h1 aW (n-i) i (by rw [show i+(n-i)=n by omega];exact au)
 have a9:Fut R (a6r 429):=ax 0 (Nat.zero_le _)
 have bd:4<=R.length:=by rw [ad];exact (b0f l W h0 h1 n).1.len
 have bV:=d8w a9
 have aI:=d9v 429 aW bd a9
 have aN:=fun i=>b0f l W h0 h1 i
 have ap:=fun i=>c6k l W h0 h1 i
 have a1:=fun i=>c0g l W d i
 have aj:=fun i=>e2m l W h0 h1 i
 have ag:=fun i=>a9o l W h0 i
 have aB:=fun i=>d0i hs W i
 obtain ⟨r,hr⟩:=zX (R.length)
 rw [<-hr] at bw bd ha
 have bp:r<2^16:=by omega
 have bI:=a0j w b F ds p 16 r h (by omega) bp ha.left
 have bB:=ha.right
 rw [a0a] at bB
 have b7:=a1p (P:=Tryz.prog) f4q rfl .i64 .i64 r (by omega) (by omega)
 have cC:=a1p (P:=Tryz.prog) a0p rfl .i64 .i64 n (by omega) (by omega)
 have cp:IntKind.i64.wrap (r:Int)=(r:Int):=IntWalk.i64_in _ (by omega)
 have cD:=h.lt b h.mem
 have HN:=hid hn
 have HR:=hid hr
 have bP:=hid aW
 have b9:=hid ad
 have HA:=hid bB
 have bf:=hid ax
 have ci:=hid bV
 have bc:=hid aI
 have bH:=hid aN
 have cg:=hid ap
 have cd:=hid a1
 have bl:=hid aj
 have br:=hid ag
 have ce:=hid aB
 have HS:=hid hs
 have b5:=hid h.lt
 clear hn hr aW ad ha bB ax bV aI aN ap a1 aj ag aB hs bX hR au a9 hl h
 go_enter Tryz.func181,Tryz.ntmps181
 go_wp2_with fail
 refine bI.mono ?_
 rintro e w1 ⟨rfl,bL,bx⟩
 obtain ⟨B,hB⟩:=zX (w1.heap.size)
 have cw:w.heap.size<=B:=by rw [hB];exact bx.size
 have bn:Chg [] w1 (w1.alloc (.cells (List.replicate r (Value.int .u8 0)).toArray 5)):=(zR [] w1).alloc _
 have ac:Row (w1.alloc (.cells (List.replicate r (Value.int .u8 0)).toArray 5)) 5 (.slice (some ⟨B,0,none⟩) r r) B ((b6u [] r).map b8):=by
  have:=Row.made w1 5 (List.replicate r (Value.int .u8 0)) (by simp [maxLen];omega)
  rw [<-hB,zV] at this
  have e:(b6u [] r).map b8=List.replicate r (Value.int .u8 0):=by simp [b6u,b8]
  rw [e]
  exact this
 have aQ:=bL.same bn
 have HB:=hid hB
 have aT:=(bx.trans bn (by simp))
 clear bI hB bL bx bn
 go_wp2_with fail
 rw [<-HB.out]
 go_loopg [11,27] r (fun j va iv wr=>∃ (i p':Nat),iv=.int .i64 i/\i+j=r/\Row wr 5 (.slice (some ⟨B,0,none⟩) r r) B ((b6u (R.take i) r).map b8)/\a1r wr b F ds p'/\Hid (a0y ds p' ((R.drop i).flatMap fun x=>a0b x 8))/\Hid (p'+((R.drop i).flatMap fun x=>a0b x 8).length=p+(16+(R.flatMap fun x=>a0b x 8).length))/\Hid (Chg [b] w wr))
 case atStart=>exact ⟨0,p+16,rfl,by omega,ac,aQ,HA,hid (by rw [List.drop_zero];omega),hid aT⟩
 case round =>
  clear ac aQ aT
  obtain ⟨i,p',rfl,ch,ab,ad,Ha,Hp,bA⟩:=hrel
  rcases gk with _ | j
  ·obtain rfl:r=i:=by omega
   have u1:decide ((r:Int)<(r:Int))=false:=by simp
   have b3:decide (r<r)=false:=by simp
   have e1:R.take r=R:=by rw [HR.out,zN]
   have e2:R.drop r=[]:=by rw [HR.out,List.drop_length]
   rw [e1,d8q HR.out.symm] at ab
   have hp:=Hp.out
   rw [e2] at hp
   have b0:Hid (p'=p+(16+(R.flatMap fun x=>a0b x 8).length)):=hid (by
    rw [show (([]:List Nat).flatMap fun x=>a0b x 8)=[] from rfl,List.length_nil] at hp
    omega)
   obtain ⟨bi,bb,_,_,af,_⟩:=ab.oq
   have bs:=c7m B r R 429 wr (by decide) (by decide) (by rw [<-HR.out];exact zQ _) (by omega) af bP.out (by rw [<-HR.out];exact bd) (by rw [<-HR.out];omega) ci.out
   rw [<-HR.out,show ((429:Nat):Int)=429 from rfl] at bs
   clear e1 e2 hp bb af Ha Hp ab
   go_wp2_with (go_at_call 69;refine (a2b _ b F ds _ ad).mono ?_;rintro e w' ⟨rfl,rfl⟩)
   refine bs.mono ?_
   rintro e w3 ⟨db,dg,dh,rfl,ae,a6,cJ,cH,ct⟩
   have ac:=Row.zeros w3 n (by omega)
   obtain ⟨G,hG⟩:=zX (w3.heap.size)
   have a3:Chg [] w3 (w3.alloc (.cells (List.replicate n (Value.int .i64 0)).toArray 3)):=(zR [] w3).alloc _
   have aq:=ae.same a3
   have aR:=(ad.same a6).same a3
   have aH:=(bA.out.trans a6 (by simp)).trans a3 (by simp)
   rw [<-hG] at ac
   have cb:=ad.lt b ad.mem
   have cE:=a6.size
   have bz:=ae.lt
   rw [<-hG] at bz
   have ck:=bA.out.size
   have bR:=ad.lt
   have bQ:=hid bR
   have HG:=hid hG
   clear bs ad ae a6 a3 hG bR
   go_wp2_with fail
   rw [<-HG.out]
   go_loopg [16,17,18,19,20,56] n (fun j va vb vc vd ve iv w5=>∃ (i:Nat) (D:Dec),iv=.int .i64 i/\i+j=n/\Row w5 3 (.slice (some ⟨G,0,none⟩) n n) G ((a1a (l.take i) n).map vi)/\a7f 296 w5 db dg dh D/\a9g D/\Syn D (c0h l W d i)/\D.data=R/\a1r w5 b F ds p'/\Hid (Chg [b] w w5))
   case atStart=>exact ⟨0,b3m R 429,rfl,by omega,by simpa using ac,aq,bc.out,f2w _ _,rfl,aR,hid aH⟩
   case round =>
    clear ac aq aR aH
    obtain ⟨i,D,rfl,ch,ab,ae,a0,a8,ai,ad,aP⟩:=hrel
    rcases gk with _ | j
    ·obtain rfl:n=i:=by omega
     have u2:decide ((n:Int)<(n:Int))=false:=by simp
     have co:decide (n<n)=false:=by simp
     have e:a1a (l.take n) n=l:=by
      have:=b5h l
      rw [<-HN.out] at this
      exact this
     rw [e] at ab
     have bT:=e8m wr db dg dh D ae a0.pos
     have hz:D.data.length-D.pos=0:=by rw [a8.pos,ai,<-b9.out];omega
     rw [hz] at bT
     clear ae a0 a8 ai hz e
     go_wp2_with fail
     refine bT.mono ?_
     rintro e w' ⟨rfl,n6,rfl⟩
     go_wp2_with fail
     go_ret2
     exact ⟨_,G,rfl,ab.drewN n6,(ad.same ((zR [] _).drewN n6)).cast b0.out,aP.out.drewN n6,by have:=HG.out;omega⟩
    ·have am:i<n:=by omega
     have u2:decide ((i:Int)<(n:Int))=true:=zB (by omega)
     have co:decide (i<n)=true:=zB am
     have bu:i<l.length:=by rw [<-HN.out];exact am
     have bF:=c5m (l:=l) hw0 (i:=i) (by omega)
     rw [<-HN.out] at bF
     have ao:(a1a (l.take i) n).length=n:=a4g (by rw [zI];omega)
     have aX:=b9q (a1a (l.take i) n) (some ⟨G,0,none⟩) n W d i wr h0 h1 hw0 (by omega) (by rw [ao];omega) (by omega) (d0h HS.out i n) ab.toOwn.cells (by rw [ao];omega)
     have be:=bH.out i
     have a1:=cd.out i
     have aB:=ce.out i
     have aj:=bl.out i
     have ag:=br.out i
     have aV:c0h l W d (i+1)=c8x (c0h l W d i) (33*d2y l W d i) (a3c l W d i):=rfl
     have bq:=bf.out (i+1) (by omega)
     rw [aV] at bq
     have cy:2^d<=65536:=Nat.pow_le_pow_right (n:=2) (by decide) h1
     have b2:=Nat.two_pow_pos d
     have aa:=fun w' (hq:a7f 296 w' db dg dh D)=>e7g w' db dg dh D (c0h l W d i) (33*d2y l W d i) (a3c l W d i) (2^d-1) hq a0 a8 be.1 (cg.out i) (by rw [be.2.1];omega) (by omega) (by omega) (by rw [ai];exact bq)
     unfold b6o at aa
     rw [if_pos (by omega:a3c l W d i<=2^d-1)] at aa
     rw [bF,ao,<-c9s] at aX
     have a7:=a9p (d:=d) (g:=a8a l W i) (b5s HS.out W _ _) 7
     obtain ⟨gs,bN⟩:=zX (a3d 7 (a8a l W i) d)
     rw [<-bN] at aX a7 aB
     obtain ⟨f,hf⟩:=zX (a3c l W d i)
     rw [<-hf] at aa aB aj ag aV
     obtain ⟨cx,bj⟩:=zX (33*d2y l W d i)
     have cr:(33:Int)*((d2y l W d i:Nat):Int)=(cx:Int):=by rw [bj];simp
     rw [<-bj] at aa aV
     have cn:cx<=500:=by omega
     obtain ⟨cl,aL⟩:=zX (d2y l W d i)
     rw [<-aL] at cr aX a1
     obtain ⟨mo,bD⟩:=zX (2^d-1)
     rw [<-bD] at aa
     have aJ:gs<65536:=by
      have e:((2^d:Nat):Int)=(2:Int)^d:=by simp
      have:=a7.2
      omega
     have bo:=fun w'=>c3b gs f d w' h0 h1 a7.1 aJ aj
     rw [aB] at bo
     have cq:f<=mo:=by omega
     have az:=a0o l bu
     have bM:l[i]=l.getD i 0:=by rw [zD,zF bu];rfl
     rw [bM] at az
     generalize l.getD i 0=xv at *
     have bU:(l.take i).length=i:=by rw [zI];omega
     have cB:((2^d:Nat):Int)=(2:Int)^d:=by simp
     have cv:IntKind.u64.wrap ((2:Int)^d)=(2:Int)^d:=IntWalk.u64_in _ (by omega)
     have cu:IntKind.u64.wrap ((2:Int)^d-1)=(mo:Int):=by rw [IntWalk.u64_in _ (by omega)];omega
     have cF:IntKind.i64.wrap (f:Int)=(f:Int):=IntWalk.i64_in _ (by omega)
     have ba:=hid az
     have bE:=hid bU
     have ay:=hid aa
     have cj:=hid bo
     have cm:=hid aV
     have aA:=hid ab
     have cz:=hid bD
     have bk:=hid ai
     clear bF ao be aB bq aa bN hf bj aL bD bo az bM bU aV ab a0 a8 ai bu ag a7
     go_wp2_with fail
     refine aX.mono ?_
     rintro e w6 ⟨rfl,a4⟩
     have av:=ae.same a4
     have aK:=ad.same a4
     have aG:=aP.out.trans a4 (by simp)
     have ar:=aA.out.chg a4 (by simp)
     have aY:=ay.out w6 av
     clear aX ae ad
     go_wp2_with fail
     refine aY.mono ?_
     rintro e w7 ⟨rfl,D',aw,bK,aO,bv⟩
     rw [if_pos cq] at bK
     obtain ⟨aM,aC⟩:=bK
     have bW:=f1j w7 db dg dh D' aw
     rw [aC.err,show ((0:Nat):Int)=0 from rfl] at bW
     have aF:∀ z∈F,z∉[db,dh]:=fun z hz hm=>by have:=bQ.out z hz;simp at hm;omega
     have bh:=aK.chg bv aF
     have bg:=aG.trans bv (fun z hz => .inr (by simp at hz;omega))
     have ah:=ar.chg bv (by simp;omega)
     obtain ⟨a2,bJ⟩:=ah.fill_cell (by rw [bE.out];exact am)
     have al:=ah.fill (by rw [bE.out];exact am) xv
     rw [bE.out] at a2 bJ al
     have b1:=hid al
     have ca:=hid aM
     have bZ:=hid aC
     have bC:=cj.out w7
     clear aY av aK aG ar ah al aM aC aF
     go_wp2_with (first | (go_at_call 232;refine bW.mono ?_;rintro e w' ⟨rfl,rfl⟩) | (go_at_call 233;refine bC.mono ?_;rintro e w' ⟨rfl,rfl⟩))
     go_roundg j
     case measure=>omega
     case rel =>
      have aD:Chg [G] w' (w'.setCell ⟨G,i,none⟩ (.int .i64 xv)):=(zR _ _).setCell (.inl (by simp)) _
      refine ⟨i+1,D',by go_num,by omega,?_,aw.chg aD (by simp;omega) (by simp;omega) (by simp;omega),ca.out,by rw [cm.out];exact bZ.out,aO.trans bk.out,bh.chg aD (fun z hz hm=>by simp at hm;have:=bQ.out z hz;omega),hid (bg.trans aD (fun z hz => .inr (by simp at hz;omega)))⟩
      rw [ba.out]
      exact b1.out
  ·have am:i<r:=by omega
   have u1:decide ((i:Int)<(r:Int))=true:=zB (by omega)
   have b3:decide (i<r)=true:=zB am
   have bm:i<R.length:=by rw [<-HR.out];exact am
   have aZ:=d2x R bm
   have az:=a0o R bm
   have b4:=bP.out R[i] (zG _)
   obtain ⟨x,hx⟩:=zX (R[i])
   rw [<-hx] at aZ az b4
   have a5:=Ha.out
   rw [aZ] at a5
   have aU:=a0j wr b F ds p' 8 x ad (by omega) (by omega) a5.left
   have cc:=hid a5.right
   have bO:(R.take i).length=i:=by rw [zI];omega
   have cI:IntKind.u8.wrap (x:Int)=(x:Int):=by rw [IntKind.wrap_u8];omega
   have b6:=hid aZ
   have ba:=hid az
   have ay:=hid bO
   have aA:=hid ab
   clear aZ az hx a5 bm bO ad ab
   go_wp2_with fail
   refine aU.mono ?_
   rintro e w2 ⟨rfl,cs,bS⟩
   have ak:=aA.out.chg bS (by simp;omega)
   obtain ⟨bi,bb,_,_,af,aE⟩:=ak.oq
   have a2:=af i 0 (by have:=e2f (done:=R.take i) (n:=r) (by rw [ay.out];exact am);rw [ay.out] at this;exact this)
   have cf:w2.cell? ⟨B,i,none⟩=some (.int .u8 0):=a2
   have bJ:=aE i
   have an:=ak.set_ (i:=i) (by rw [zE,e2g (by rw [ay.out];omega)];exact am) (b8 x)
   rw [<-List.map_set] at an
   have bG:=e2h (done:=R.take i) (n:=r) (by rw [ay.out];exact am) x
   rw [ay.out,<-ba.out] at bG
   rw [bG] at an
   have aS:Row (w2.setCell ⟨B,i,none⟩ (.int .u8 x)) _ _ _ _:=an
   clear aU ak bb af aE a2 an bG
   go_wp2_with fail
   go_roundg j
   case measure=>omega
   case rel =>
    have aD:Chg [B] w2 (w2.setCell ⟨B,i,none⟩ (.int .u8 x)):=(zR _ _).setCell (.inl (by simp)) _
    refine ⟨i+1,p'+8,by go_num,by omega,aS,cs.chg aD (fun z hz hm=>by simp at hm;have:=b5.out z hz;omega),hid ?_,hid ?_,hid ((bA.out.tq bS).trans aD (fun z hz => .inr (by simp at hz;omega)))⟩
    ·have:=cc.out
     rw [a0a] at this
     exact this
    ·have:=Hp.out
     rw [b6.out,zC,a0a] at this
     omega
def f0r:List Int:=[8,1,2,4,8,10,12,16,5,8]
theorem e2c (k:Nat) (h:k<10):∃ d:Nat,f0r[k]?=some (d:Int)/\1<=d/\d<=16:=by
 rcases (by omega:k=0\/k=1\/k=2\/k=3\/k=4\/k=5\/k=6\/k=7\/k=8\/k=9) with rfl | rfl | rfl | rfl | rfl | rfl | rfl | rfl | rfl | rfl
 ·exact ⟨8,rfl,by omega,by omega⟩
 ·exact ⟨1,rfl,by omega,by omega⟩
 ·exact ⟨2,rfl,by omega,by omega⟩
 ·exact ⟨4,rfl,by omega,by omega⟩
 ·exact ⟨8,rfl,by omega,by omega⟩
 ·exact ⟨10,rfl,by omega,by omega⟩
 ·exact ⟨12,rfl,by omega,by omega⟩
 ·exact ⟨16,rfl,by omega,by omega⟩
 ·exact ⟨5,rfl,by omega,by omega⟩
 ·exact ⟨8,rfl,by omega,by omega⟩
theorem b9r.fresh {w w':World} {b cap at_:Nat} {A:Option Addr} {L:List Int} (h:b9r w b A cap L at_) (hc:Chg [] w w'):b9r w' b A cap L at_:=h.same hc (by simp) (fun _ _ _=>by simp)
theorem e7c (w:World) (b cap at_:Nat) (A:Option Addr) (L:List Int) (h:b9r w b A cap L at_) :
  Calls Tryz.prog 40 #[.pointer (some ⟨b,0,none⟩)] w fun e w'=>∃ d at':Nat,e=.returned (.int .i64 d)/\1<=d/\d<=16/\b9r w' b A cap L at'/\Chg [b] w w':=by
 obtain ⟨w1,aa⟩:=zX (w.alloc (.cells #[.int .i64 8,.int .i64 1,.int .i64 2,.int .i64 4,.int .i64 8,.int .i64 10,.int .i64 12,.int .i64 16,.int .i64 5,.int .i64 8] 3))
 have ab:Blk w1 w.heap.size 3 #[.int .i64 8,.int .i64 1,.int .i64 2,.int .i64 4,.int .i64 8,.int .i64 10,.int .i64 12,.int .i64 16,.int .i64 5,.int .i64 8]:=by rw [aa];exact Blk.new w _ _
 have ah:Chg [] w w1:=by rw [aa];exact (zR [] w).alloc _
 have hn:=b7d w1 b cap at_ 10 A L (h.fresh ah) (by omega) (by omega)
 have ag:w.heap.size≠b:=by have:=h.blk.lt;omega
 have al:=hid aa
 obtain ⟨B,hB⟩:=zX (w.heap.size)
 rw [<-hB] at ab ag
 have HB:=hid hB
 clear aa h hB
 go_enter Tryz.func40,Tryz.ntmps40
 go_wp2_with fail
 rw [<-al.out,<-HB.out]
 refine hn.mono ?_
 rintro e w2 ⟨k,at',rfl,hk,aj,ad⟩
 obtain ⟨d,hd,ac,ai⟩:=e2c k hk
 have af:=ab.chg ad (by simpa using ag)
 have ae:w2.cell? ⟨B,k,none⟩=some (.int .i64 d):=by
  rw [af.cell k]
  have e:(#[Value.int .i64 8,.int .i64 1,.int .i64 2,.int .i64 4,.int .i64 8,.int .i64 10,.int .i64 12,.int .i64 16,.int .i64 5,.int .i64 8]:Array Value)=(f0r.map vi).toArray:=rfl
  rw [e,List.getElem?_toArray,zW,hd]
  rfl
 have am:(0:Int)<=(k:Int):=by omega
 have an:(k:Int)<10:=by omega
 have HD:=hid (And.intro ac ai)
 have ak:Hid (Chg [b] w w2):=hid ((ah.mono (by simp)).tq ad)
 clear hd af ab hn ac ai
 go_wp2_with fail
 go_ret
 exact ⟨d,at',rfl,HD.out.1,HD.out.2,aj,ak.out⟩
def f1b (w:World) (b:Nat) (s:Nat):Prop:=Blk w b 128 #[.int .i64 s]/\s<2147483648
theorem e1f (x:Int) (m:Nat) (hm:m<9223372036854775808):∃ k:Nat,k<=m/\bits .and .i64 x (m:Int)=(k:Int):=by
 refine ⟨(BitVec.ofInt 64 x &&& BitVec.ofInt 64 (m:Int)).toNat,?_,?_⟩
 ·rw [BitVec.toNat_and]
  have e:(BitVec.ofInt 64 (m:Int)).toNat=m:=by
   rw [BitVec.ofInt_natCast,BitVec.toNat_ofNat]
   exact Nat.mod_eq_of_lt (by omega)
  rw [e]
  exact Nat.and_le_right
 ·show IntKind.i64.wrap ((BitVec.ofInt 64 x &&& BitVec.ofInt 64 (m:Int)).toNat:Int)=_
  have aa:(BitVec.ofInt 64 x &&& BitVec.ofInt 64 (m:Int)).toNat<=m:=by
   rw [BitVec.toNat_and]
   have e:(BitVec.ofInt 64 (m:Int)).toNat=m:=by
    rw [BitVec.ofInt_natCast,BitVec.toNat_ofNat]
    exact Nat.mod_eq_of_lt (by omega)
   rw [e]
   exact Nat.and_le_right
  generalize (BitVec.ofInt 64 x &&& BitVec.ofInt 64 (m:Int)).toNat=q at *
  exact IntWalk.i64_in _ (by omega)
theorem f1x (w:World) (b s n:Nat) (h:f1b w b s) (hn0:1<=n) (hn1:n<=1073741824) :
  Calls Tryz.prog 81 #[.pointer (some ⟨b,0,none⟩),.int .i64 n] w fun e w'=>∃ v s':Nat,e=.returned (.int .i64 v)/\v<n/\f1b w' b s'/\Chg [b] w w':=by
 obtain ⟨hb,hs⟩:=h
 have b0:=hb.cell 0
 have f0:=hb.frozen 0
 simp at b0
 obtain ⟨x,hx⟩:=zX (s*1103515245+12345)
 have ak:x<4611686018427387904:=by omega
 have ai:(s:Int)*1103515245+12345=(x:Int):=by omega
 obtain ⟨y,hy,aa⟩:=e1f (x:Int) 2147483647 (by omega)
 have ad:y<2147483648:=by omega
 have ab:=hb.set_ 0 (.int .i64 y)
 have ae:bits BinOp.and IntKind.i64 (x:Int) 2147483647=(y:Int):=aa
 obtain ⟨z,hz⟩:=zX (y / 256)
 have am:(y:Int) / 256=(z:Int):=by omega
 have aj:z<8388608:=by omega
 obtain ⟨r,hr⟩:=zX (z%n)
 have ac:r<n:=by rw [hr];exact Nat.mod_lt _ (by omega)
 have al:(z:Int).tmod (n:Int)=(r:Int):=by rw [hr,Int.tmod_eq_emod_of_nonneg (by omega)];simp
 have ag:(n:Int)≠0:=by omega
 have HS:=hid ab
 have ah:=hid hb
 have af:=hid ac
 clear ab hb hx hy hz hr ac aa
 go_enter Tryz.func81,Tryz.ntmps81
 go_wp2
 go_ret
 refine ⟨r,y,rfl,af.out,⟨?_,ad⟩,(zR [b] w).setCell (.inl (by simp)) _⟩
 simpa using HS.out
theorem a5e {w3 wx w4:World} {b cap a2 d P r i j n rb s:Nat} {A:Option Addr} {L:List Int} {l:List Int} {F:List Nat} {g2 cap2:Nat} {o:Obj}
  (hrw:f1b wx rb s) (htp:b9r wx b A cap L a2) (hch:Chg [rb] w3 wx) (hF:∀ x∈F,rb<x) (hll:l.length=i) (hsm:a1u d l) (hrP:r<P) (hP:P=2^d)
  (hsz:w3.heap.size<=wx.heap.size) (hs3:w3.heap.size=rb+1) (hb:b<rb) (hap:Apt A L F) (hij:i+(j+1)=n)
  (hr4:Row w4 3 (.slice (some ⟨g2,0,none⟩) (i+1) cap2) g2 (l.map vi++[.int .i64 r])) (gr4:a0u F [g2] (wx.alloc o) w4) :
  ∃ (i' s':Nat) (l':List Int) (F':List Nat),Value.int .i64 ((i:Int)+1)=.int .i64 i'/\i'+j=n/\Own w4 3 (.slice (some ⟨g2,0,none⟩) (i+1) cap2) F' (l'.map vi)/\l'.length=i'/\Hid (a1u d l')/\f1b w4 rb s'/\(∀ x∈F',rb<x)/\b9r w4 b A cap L a2/\Chg [rb] w3 w4:=by
 have aa:Chg F wx w4:=((zR [] wx).alloc o).mono (by simp) |>.tq gr4.chg
 have ab:rb∉F:=fun hm=>by have:=hF rb hm;omega
 have ac:b∉F:=fun hm=>by have:=hF b hm;omega
 refine ⟨i+1,s,l++[(r:Int)],[g2],by simp,by omega,?_,by simp [hll],?_,⟨hrw.1.chg aa ab,hrw.2⟩,?_,?_,?_⟩
 ·have:=hr4.toOwn
  simpa [vi] using this
 ·refine hid ?_
  intro z hz
  rcases zP.1 hz with h1 | h1
  ·exact hsm z h1
  ·simp at h1
   subst h1
   have e:(2:Int)^d=(P:Int):=by rw [hP];simp
   rw [e]
   omega
 ·intro y hy
  simp at hy
  subst hy
  rcases gr4.new y (by simp) with h1 | h1
  ·exact hF y h1
  ·simp at h1
   omega
 ·exact htp.same aa ac hap
 ·exact hch.trans aa fun x hx => .inr (by have:=hF x hx;omega)
theorem e9n (w:World) (b cap at_ W H d:Nat) (A:Option Addr) (L:List Int) (h:b9r w b A cap L at_) (hw0:1<=W) (hw1:W<=64) (hh0:1<=H) (hh1:H<=64) (h0:1<=d) (h1:d<=16) :
  Calls Tryz.prog 41 #[.pointer (some ⟨b,0,none⟩),.int .i64 W,.int .i64 H,.int .i64 d] w fun e w'=>∃ (v:Value) (g:Nat) (l:List Int) (at':Nat),e=.returned v/\Row w' 3 v g (l.map vi)/\l.length=W*H/\a1u d l/\b9r w' b A cap L at'/\Chg [b] w w'/\w.heap.size<=g:=by
 have ba:=b7d w b cap at_ 7 A L h (by omega) (by omega)
 obtain ⟨n,hn⟩:=zX (W*H)
 have bQ:(W:Int)*(H:Int)=(n:Int):=by rw [hn];simp
 have bE:n<=4096:=by rw [hn];exact zL hw1 hh1
 have bN:1<=n:=by rw [hn];exact Nat.mul_pos hw0 hh0
 have bM:n<=64*W:=by rw [hn,zY];exact Nat.mul_le_mul_right W hh1
 obtain ⟨P,hP⟩:=zX (2^d)
 have bK:(2:Int)^d=(P:Int):=by rw [hP];simp
 have bR:1<=P:=by rw [hP];exact Nat.two_pow_pos d
 have bD:P<=65536:=by rw [hP];exact Nat.pow_le_pow_right (n:=2) (by decide) h1
 have be:(P:Int)≠0:=by omega
 have bz:(W:Int)≠0:=by omega
 have HP:=hid hP
 have HN:=hid hn
 have bO:=h.blk.lt
 rw [<-hn]
 clear hn hP h
 go_enter Tryz.func41,Tryz.ntmps41
 go_wp2_with fail
 refine ba.mono ?_
 rintro e w1 ⟨kd,a1,rfl,bI,aR,aC⟩
 have aM:=b7d w1 b cap a1 1048576 A L aR (by omega) (by omega)
 clear ba aR
 go_wp2_with fail
 refine aM.mono ?_
 rintro e w2 ⟨sd,a2,rfl,bA,ab,a8⟩
 obtain ⟨rb,aT⟩:=zX (w2.heap.size)
 obtain ⟨w3,aK⟩:=zX (w2.alloc (.cells #[.int .i64 sd] 128))
 have aG:f1b w3 rb sd:=⟨by rw [aK,aT];exact Blk.new w2 _ _,by omega⟩
 have aF:Hid (∀ F:List Nat,(∀ x∈F,rb<x)->Apt A L F):=hid (fun F hF=>Apt.fresh ab.cells (fun x hx=>by have:=hF x hx;omega))
 have aI:Hid (Apt A L [rb]):=hid (Apt.fresh ab.cells (by simp;omega))
 have aQ:b9r w3 b A cap L a2:=ab.fresh (by rw [aK];exact (zR [] w2).alloc _)
 have aD:=aC.tq a8
 have bC:=aD.size
 have a0:Chg [b] w w3:=by rw [aK];exact aD.alloc _
 have am:rb≠b:=by have:=ab.blk.lt;omega
 have an:Hid (b<rb):=hid (by have:=ab.blk.lt;omega)
 have bb:w3.heap.size=rb+1:=by rw [aK,aT];simp
 have bk:=hid aK
 have bx:=hid aT
 have aH:=hid bb
 have a5:w.heap.size<=rb:=by omega
 clear aM ab aC a8 aD aK aT bb
 go_wp2_with fail
 rw [<-bk.out,<-bx.out]
 go_loopg [13,14,15,16,17] n (fun j vo vi' v15 v16 v17 wr=>∃ (i s:Nat) (l:List Int) (F:List Nat),vi'=.int .i64 i/\i+j=n/\Own wr 3 vo F (l.map vi)/\l.length=i/\Hid (a1u d l)/\f1b wr rb s/\(∀ x∈F,rb<x)/\b9r wr b A cap L a2/\Chg [rb] w3 wr)
 case atStart=>exact ⟨0,sd,[],[],rfl,by omega,Own.nil _ _,rfl,hid (by intro s hs;simp at hs),aG,by simp,aQ,zR _ _⟩
 case round =>
  clear aG aQ
  obtain ⟨i,s,l,F,rfl,bL,az,aE,aB,aG,hF,aX,aV⟩:=hrel
  obtain ⟨Ao,co,rfl,bi,bm,_⟩:=az.oq
  rcases gk with _ | j
  ·obtain rfl:i=n:=by omega
   have a6:Chg [b] w wr:=a0.trans aV (fun x hx=>by rw [zU.1 hx];exact .inr a5)
   rcases az.cases with ⟨_,aW,_⟩ | ⟨g,a3,rfl⟩
   ·exfalso
    have:=congrArg List.length aW
    rw [zE] at this
    simp at this
    rw [this] at aE
    simp at aE
    omega
   have bS:=hF g (by simp)
   clear az hF
   go_wp2
   go_ret
   exact ⟨_,g,l,a2,rfl,a3,aE,aB.out,aX,a6,by omega⟩
  ·have bF:i<n:=by omega
   obtain ⟨x,hx⟩:=zX (i%W)
   obtain ⟨y,hy⟩:=zX (i / W)
   have aN:x<64:=by have:=Nat.mod_lt i (show W>0 by omega);omega
   have aO:y<64:=by rw [hy];exact Nat.div_lt_of_lt_mul (by rw [zY];omega)
   have bq:(i:Int)%(W:Int)=(x:Int):=by rw [hx];simp
   have bl:(i:Int) / (W:Int)=(y:Int):=by rw [hy];simp
   have bH:(i:Int).tmod (W:Int)=(x:Int):=by rw [Int.tmod_eq_emod_of_nonneg (by omega)];exact bq
   have bJ:(i:Int).tdiv (W:Int)=(y:Int):=by rw [Int.tdiv_eq_ediv_of_nonneg (by omega)];exact bl
   have bc:=fun n (a:1<=n) (b:n<=1073741824) w' (hc:Chg [] wr w')=>f1x w' rb s n ⟨aG.1.chg hc (by simp),aG.2⟩ a b
   have a9:=hid bc
   have ap:=hid aX
   have aY:=hid aG
   have ae:Hid (Own wr 3 (.slice Ao i co) F (l.map vi)):=hid (by rw [<-aE];exact az)
   rw [aE]
   have af:=hid aE
   have aj:=hid hF
   have ao:=hid aV
   clear hx hy bc aX aG az hF aV aE bi
   go_wp2
   go_quiet (fail)
   obtain ⟨p3,bh⟩:=zX (x / 3)
   obtain ⟨p4,bv⟩:=zX (y / 4)
   have bu:p3<64:=by omega
   have bn:p4<64:=by omega
   have x3:(x:Int) / 3=(p3:Int):=by omega
   have y4:(y:Int) / 4=(p4:Int):=by omega
   have bP:(x:Int).tdiv 3=(p3:Int):=by rw [Int.tdiv_eq_ediv_of_nonneg (by omega)];exact x3
   have bG:(y:Int).tdiv 4=(p4:Int):=by rw [Int.tdiv_eq_ediv_of_nonneg (by omega)];exact y4
   obtain ⟨xx,aZ⟩:=zX (x*x)
   obtain ⟨yy,a4⟩:=zX (y*y)
   have bw:xx<=4096:=by rw [aZ];exact zL (Nat.le_of_lt aN) (Nat.le_of_lt aN)
   have bs:yy<=4096:=by rw [a4];exact zL (Nat.le_of_lt aO) (Nat.le_of_lt aO)
   have bo:(x:Int)*(x:Int)=(xx:Int):=by rw [aZ];simp
   have br:(y:Int)*(y:Int)=(yy:Int):=by rw [a4];simp
   obtain ⟨p2,bp⟩:=zX (yy / 2)
   have bf:p2<=4096:=by omega
   have y2:(yy:Int) / 2=(p2:Int):=by omega
   have bT:(yy:Int).tdiv 2=(p2:Int):=by rw [Int.tdiv_eq_ediv_of_nonneg (by omega)];exact y2
   obtain ⟨mm,bd⟩:=zX ((x+3*y)%5)
   have bB:mm<5:=by omega
   have bj:((x:Int)+3*(y:Int))%5=(mm:Int):=by omega
   have bg:((x:Int)+3*(y:Int)).tmod 5=(mm:Int):=by rw [Int.tmod_eq_emod_of_nonneg (by omega)];exact bj
   clear aZ a4 bd bp bh bv
   obtain ⟨wy,aP⟩:=zX (wr.drewN nq)
   have HQ:Hid (Chg [rb] wr wy):=hid (by rw [aP];exact ((zR [] wr).drewN nq).mono (by simp))
   have a7:=fun n a b=>a9.out n a b wy (by rw [aP];exact (zR [] wr).drewN nq)
   have ay:Hid (f1b wy rb s):=hid (by rw [aP];exact ⟨aY.out.1.drewN _,aY.out.2⟩)
   have aA:=hid a7
   rw [<-aP]
   clear a9 aY a7 aP
   rcases (by omega:kd=0\/kd=1\/kd=2\/kd=3\/kd=4\/kd=5\/kd=6) with rfl | rfl | rfl | rfl | rfl | rfl | rfl
   ·obtain ⟨v,rfl⟩:=zX (sd)
    obtain ⟨r,hr⟩:=zX (v%P)
    have al:r<P:=by rw [hr];exact Nat.mod_lt _ (by omega)
    have ar:(v:Int)%(P:Int)=(r:Int):=by rw [hr];simp
    have aJ:(v:Int).tmod (P:Int)=(r:Int):=by rw [Int.tmod_eq_emod_of_nonneg (by omega)];exact ar
    have aa:Chg [rb] wr wy:=HQ.out
    have ad:Own wy 3 (.slice Ao i co) F (l.map vi):=ae.out.chg aa (fun y hy=>by have:=aj.out y hy;simp;omega)
    have ah:=ay
    have ac:=ao.out.tq aa
    have ab:=ap.out.same aa (by simpa using am.symm) aI.out
    have ag:=hid ab
    have ai:=hid ac
    have aq:=hid al
    have av:=hid ac.size
    clear hr al ab aa ac aA ap ae ao HQ ay
    go_wp2_with (at_builtin;refine a0f rfl rfl a0p rfl rfl (ad.alloc _) (.int .i64 r) rfl ?c1 ?c2 ?c3 ?c4 ?_)
    case c1=>simp [go_sem]
    case c2=>rfl
    case c3=>rw [zE,af.out];omega
    case c4=>rw [zE,af.out];omega
    intro g2 aw w4 ak au
    rw [af.out] at ak ⊢
    go_wp2_with fail
    go_roundg j
    case measure=>omega
    case rel=>exact a5e ah.out ag.out ai.out aj.out af.out aB.out aq.out HP.out av.out aH.out an.out (aF.out F aj.out) (by omega) ak au
   ·have ax:=aA.out 65536 (by omega) (by omega)
    rw [show ((65536:Nat):Int)=65536 from rfl] at ax
    go_wp2_with fail
    refine ax.mono ?_
    rintro e wz ⟨q,s1,rfl,hq,aL,aC⟩
    clear ax
    obtain ⟨v,rfl⟩:=zX (q)
    obtain ⟨r,hr⟩:=zX (v%P)
    have al:r<P:=by rw [hr];exact Nat.mod_lt _ (by omega)
    have ar:(v:Int)%(P:Int)=(r:Int):=by rw [hr];simp
    have aJ:(v:Int).tmod (P:Int)=(r:Int):=by rw [Int.tmod_eq_emod_of_nonneg (by omega)];exact ar
    have aa:Chg [rb] wr wz:=HQ.out.tq aC
    have ad:Own wz 3 (.slice Ao i co) F (l.map vi):=ae.out.chg aa (fun y hy=>by have:=aj.out y hy;simp;omega)
    have ah:=hid aL
    have ac:=ao.out.tq aa
    have ab:=ap.out.same aa (by simpa using am.symm) aI.out
    have ag:=hid ab
    have ai:=hid ac
    have aq:=hid al
    have av:=hid ac.size
    clear hr al ab aa ac aA ap ae ao HQ ay
    go_wp2_with (at_builtin;refine a0f rfl rfl a0p rfl rfl (ad.alloc _) (.int .i64 r) rfl ?c1 ?c2 ?c3 ?c4 ?_)
    case c1=>simp [go_sem]
    case c2=>rfl
    case c3=>rw [zE,af.out];omega
    case c4=>rw [zE,af.out];omega
    intro g2 aw w4 ak au
    rw [af.out] at ak ⊢
    go_wp2_with fail
    go_roundg j
    case measure=>omega
    case rel=>exact a5e ah.out ag.out ai.out aj.out af.out aB.out aq.out HP.out av.out aH.out an.out (aF.out F aj.out) (by omega) ak au
   ·have ax:=aA.out 3 (by omega) (by omega)
    rw [show ((3:Nat):Int)=3 from rfl] at ax
    go_wp2_with fail
    refine ax.mono ?_
    rintro e wz ⟨q,s1,rfl,hq,aL,aC⟩
    clear ax
    obtain ⟨v,hv⟩:=zX (sd+3*x+2*y+q)
    have aS:(sd:Int)+3*(x:Int)+2*(y:Int)+(q:Int)=(v:Int):=by omega
    have aU:v<1073741824:=by omega
    clear hv
    obtain ⟨r,hr⟩:=zX (v%P)
    have al:r<P:=by rw [hr];exact Nat.mod_lt _ (by omega)
    have ar:(v:Int)%(P:Int)=(r:Int):=by rw [hr];simp
    have aJ:(v:Int).tmod (P:Int)=(r:Int):=by rw [Int.tmod_eq_emod_of_nonneg (by omega)];exact ar
    have aa:Chg [rb] wr wz:=HQ.out.tq aC
    have ad:Own wz 3 (.slice Ao i co) F (l.map vi):=ae.out.chg aa (fun y hy=>by have:=aj.out y hy;simp;omega)
    have ah:=hid aL
    have ac:=ao.out.tq aa
    have ab:=ap.out.same aa (by simpa using am.symm) aI.out
    have ag:=hid ab
    have ai:=hid ac
    have aq:=hid al
    have av:=hid ac.size
    clear hr al ab aa ac aA ap ae ao HQ ay
    go_wp2_with (at_builtin;refine a0f rfl rfl a0p rfl rfl (ad.alloc _) (.int .i64 r) rfl ?c1 ?c2 ?c3 ?c4 ?_)
    case c1=>simp [go_sem]
    case c2=>rfl
    case c3=>rw [zE,af.out];omega
    case c4=>rw [zE,af.out];omega
    intro g2 aw w4 ak au
    rw [af.out] at ak ⊢
    go_wp2_with fail
    go_roundg j
    case measure=>omega
    case rel=>exact a5e ah.out ag.out ai.out aj.out af.out aB.out aq.out HP.out av.out aH.out an.out (aF.out F aj.out) (by omega) ak au
   ·have ax:=aA.out 5 (by omega) (by omega)
    rw [show ((5:Nat):Int)=5 from rfl] at ax
    go_wp2_with fail
    refine ax.mono ?_
    rintro e wz ⟨q,s1,rfl,hq,aL,aC⟩
    clear ax
    obtain ⟨v,hv⟩:=zX (sd+q*7)
    have aS:(sd:Int)+(q:Int)*7=(v:Int):=by omega
    have aU:v<1073741824:=by omega
    clear hv
    obtain ⟨r,hr⟩:=zX (v%P)
    have al:r<P:=by rw [hr];exact Nat.mod_lt _ (by omega)
    have ar:(v:Int)%(P:Int)=(r:Int):=by rw [hr];simp
    have aJ:(v:Int).tmod (P:Int)=(r:Int):=by rw [Int.tmod_eq_emod_of_nonneg (by omega)];exact ar
    have aa:Chg [rb] wr wz:=HQ.out.tq aC
    have ad:Own wz 3 (.slice Ao i co) F (l.map vi):=ae.out.chg aa (fun y hy=>by have:=aj.out y hy;simp;omega)
    have ah:=hid aL
    have ac:=ao.out.tq aa
    have ab:=ap.out.same aa (by simpa using am.symm) aI.out
    have ag:=hid ab
    have ai:=hid ac
    have aq:=hid al
    have av:=hid ac.size
    clear hr al ab aa ac aA ap ae ao HQ ay
    go_wp2_with (at_builtin;refine a0f rfl rfl a0p rfl rfl (ad.alloc _) (.int .i64 r) rfl ?c1 ?c2 ?c3 ?c4 ?_)
    case c1=>simp [go_sem]
    case c2=>rfl
    case c3=>rw [zE,af.out];omega
    case c4=>rw [zE,af.out];omega
    intro g2 aw w4 ak au
    rw [af.out] at ak ⊢
    go_wp2_with fail
    go_roundg j
    case measure=>omega
    case rel=>exact a5e ah.out ag.out ai.out aj.out af.out aB.out aq.out HP.out av.out aH.out an.out (aF.out F aj.out) (by omega) ak au
   ·obtain ⟨v,hv⟩:=zX (sd+p3*11+p4)
    have aS:(sd:Int)+(p3:Int)*11+(p4:Int)=(v:Int):=by omega
    have aU:v<1073741824:=by omega
    clear hv
    obtain ⟨r,hr⟩:=zX (v%P)
    have al:r<P:=by rw [hr];exact Nat.mod_lt _ (by omega)
    have ar:(v:Int)%(P:Int)=(r:Int):=by rw [hr];simp
    have aJ:(v:Int).tmod (P:Int)=(r:Int):=by rw [Int.tmod_eq_emod_of_nonneg (by omega)];exact ar
    have aa:Chg [rb] wr wy:=HQ.out
    have ad:Own wy 3 (.slice Ao i co) F (l.map vi):=ae.out.chg aa (fun y hy=>by have:=aj.out y hy;simp;omega)
    have ah:=ay
    have ac:=ao.out.tq aa
    have ab:=ap.out.same aa (by simpa using am.symm) aI.out
    have ag:=hid ab
    have ai:=hid ac
    have aq:=hid al
    have av:=hid ac.size
    clear hr al ab aa ac aA ap ae ao HQ ay
    go_wp2_with (at_builtin;refine a0f rfl rfl a0p rfl rfl (ad.alloc _) (.int .i64 r) rfl ?c1 ?c2 ?c3 ?c4 ?_)
    case c1=>simp [go_sem]
    case c2=>rfl
    case c3=>rw [zE,af.out];omega
    case c4=>rw [zE,af.out];omega
    intro g2 aw w4 ak au
    rw [af.out] at ak ⊢
    go_wp2_with fail
    go_roundg j
    case measure=>omega
    case rel=>exact a5e ah.out ag.out ai.out aj.out af.out aB.out aq.out HP.out av.out aH.out an.out (aF.out F aj.out) (by omega) ak au
   ·obtain ⟨v,hv⟩:=zX (sd+xx+p2)
    have aS:(sd:Int)+(xx:Int)+(p2:Int)=(v:Int):=by omega
    have aU:v<1073741824:=by omega
    clear hv
    obtain ⟨r,hr⟩:=zX (v%P)
    have al:r<P:=by rw [hr];exact Nat.mod_lt _ (by omega)
    have ar:(v:Int)%(P:Int)=(r:Int):=by rw [hr];simp
    have aJ:(v:Int).tmod (P:Int)=(r:Int):=by rw [Int.tmod_eq_emod_of_nonneg (by omega)];exact ar
    have aa:Chg [rb] wr wy:=HQ.out
    have ad:Own wy 3 (.slice Ao i co) F (l.map vi):=ae.out.chg aa (fun y hy=>by have:=aj.out y hy;simp;omega)
    have ah:=ay
    have ac:=ao.out.tq aa
    have ab:=ap.out.same aa (by simpa using am.symm) aI.out
    have ag:=hid ab
    have ai:=hid ac
    have aq:=hid al
    have av:=hid ac.size
    clear hr al ab aa ac aA ap ae ao HQ ay
    go_wp2_with (at_builtin;refine a0f rfl rfl a0p rfl rfl (ad.alloc _) (.int .i64 r) rfl ?c1 ?c2 ?c3 ?c4 ?_)
    case c1=>simp [go_sem]
    case c2=>rfl
    case c3=>rw [zE,af.out];omega
    case c4=>rw [zE,af.out];omega
    intro g2 aw w4 ak au
    rw [af.out] at ak ⊢
    go_wp2_with fail
    go_roundg j
    case measure=>omega
    case rel=>exact a5e ah.out ag.out ai.out aj.out af.out aB.out aq.out HP.out av.out aH.out an.out (aF.out F aj.out) (by omega) ak au
   ·obtain ⟨v,hv⟩:=zX (sd+mm*9)
    have aS:(sd:Int)+(mm:Int)*9=(v:Int):=by omega
    have aU:v<1073741824:=by omega
    clear hv
    obtain ⟨r,hr⟩:=zX (v%P)
    have al:r<P:=by rw [hr];exact Nat.mod_lt _ (by omega)
    have ar:(v:Int)%(P:Int)=(r:Int):=by rw [hr];simp
    have aJ:(v:Int).tmod (P:Int)=(r:Int):=by rw [Int.tmod_eq_emod_of_nonneg (by omega)];exact ar
    have aa:Chg [rb] wr wy:=HQ.out
    have ad:Own wy 3 (.slice Ao i co) F (l.map vi):=ae.out.chg aa (fun y hy=>by have:=aj.out y hy;simp;omega)
    have ah:=ay
    have ac:=ao.out.tq aa
    have ab:=ap.out.same aa (by simpa using am.symm) aI.out
    have ag:=hid ab
    have ai:=hid ac
    have aq:=hid al
    have av:=hid ac.size
    clear hr al ab aa ac aA ap ae ao HQ ay
    go_wp2_with (at_builtin;refine a0f rfl rfl a0p rfl rfl (ad.alloc _) (.int .i64 r) rfl ?c1 ?c2 ?c3 ?c4 ?_)
    case c1=>simp [go_sem]
    case c2=>rfl
    case c3=>rw [zE,af.out];omega
    case c4=>rw [zE,af.out];omega
    intro g2 aw w4 ak au
    rw [af.out] at ak ⊢
    go_wp2_with fail
    go_roundg j
    case measure=>omega
    case rel=>exact a5e ah.out ag.out ai.out aj.out af.out aB.out aq.out HP.out av.out aH.out an.out (aF.out F aj.out) (by omega) ak au
theorem f0c (w:World) (A:Option Addr) (cap:Nat) (L:List Int) (hc:a0d vi w A L) (hin:∀ x∈L,c9b x) (hlen:L.length<=9223372036854775807) :
  Calls Tryz.prog 9 #[.slice A L.length cap] w fun e w'=>∃ b,e=.returned (.pointer (some ⟨b,0,none⟩))/\b9r w' b A cap L 0/\Chg [] w w'/\w.heap.size<=b:=by
 have HC:=hid hc
 have HI:=hid hin
 clear hc hin
 go_enter Tryz.func9,Tryz.ntmps9
 go_wp2
 go_ret
 have ch:Chg [] w (w.alloc (.cells #[.slice A L.length cap,.int .i64 0] 82)):=(zR [] w).alloc _
 exact ⟨w.heap.size,rfl,⟨Blk.new w _ _,HC.out.chg ch (by simp),Apt.fresh HC.out (by simp),HI.out,Nat.zero_le _,hlen⟩,ch,zQ _⟩
theorem f1o (w:World) (A B:Option Addr) (ca cb:Nat) (la lb:List Int) (hA:a0d vi w A la) (hB:a0d vi w B lb) (ha:la.length<=4096) (hb:lb.length<=4611686018427387904) :
  Calls Tryz.prog 104 #[.slice A la.length ca,.slice B lb.length cb] w fun e w'=>e=.returned (.bool (decide (la=lb)))/\∃ q,w'=w.drewN q:=by
 by_cases hne:la.length=lb.length
 ·obtain ⟨n,hn⟩:=zX (la.length)
  have aa:lb.length=n:=by rw [hn,hne]
  rw [aa]
  rw [<-hn] at ha ⊢
  have HA:=hid hn
  have HB:=hid aa
  clear hn aa hne hb
  have t1:((n:Int)==(n:Int))=true:=by simp
  have t2:((n:Int) != (n:Int))=false:=by simp
  go_enter Tryz.func104,Tryz.ntmps104
  go_wp2_with fail
  go_loopg [5] n (fun j iv wr=>∃ i q:Nat,iv=.int .i64 i/\i+j=n/\Hid (la.take i=lb.take i)/\wr=w.drewN q)
  case atStart=>exact ⟨0,0,rfl,by omega,hid rfl,rfl⟩
  case round =>
   obtain ⟨i,q,rfl,aj,HT,rfl⟩:=hrel
   rcases gk with _ | j
   ·obtain rfl:i=n:=by omega
    have ht:=HT.out
    rw [zT (by rw [<-HA.out];exact zQ _),zT (by rw [HB.out];exact zQ _)] at ht
    have hE:Hid (decide (la=lb)=true):=hid (zB ht)
    clear ht
    go_wp2
    go_ret
    exact ⟨by rw [hE.out];rfl,q,rfl⟩
   ·have ad:i<n:=by omega
    have af:i<la.length:=by rw [<-HA.out];exact ad
    have ae:i<lb.length:=by rw [HB.out];exact ad
    obtain ⟨ga,oa,rfl,ab⟩:=hA.at_ af
    obtain ⟨gb,ob,rfl,ac⟩:=hB.at_ ae
    obtain ⟨x,hx⟩:=zX (la[i])
    obtain ⟨y,hy⟩:=zX (lb[i])
    rw [<-hx] at ab
    rw [<-hy] at ac
    have cA:w.cell? ⟨ga,oa+i,none⟩=some (.int .i64 x):=ab
    have cB:w.cell? ⟨gb,ob+i,none⟩=some (.int .i64 y):=ac
    have HX:=hid hx
    have HY:=hid hy
    have ag:=hid af
    have ah:=hid ae
    have ai:=hid hA
    have ak:=hid hB
    clear hx hy ab ac hA hB
    go_wp2
    go_quiet (fail)
    by_cases hxy:x=y
    ·subst hxy
     have t5:(x != x)=false:=by simp
     go_wp2
     go_roundg j
     case measure=>omega
     case rel =>
      refine ⟨i+1,q+nq,by go_num,by omega,hid ?_,by first | rfl | rw [World.drewN_drewN]⟩
      rw [List.take_succ_eq_append_getElem ag.out,List.take_succ_eq_append_getElem ah.out,HT.out,<-HX.out,<-HY.out]
    ·have t5:(x != y)=true:=by simpa using hxy
     have hd:decide (la=lb)=false:=zA fun e=>hxy (by rw [HX.out,HY.out];subst e;rfl)
     have HD:=hid hd
     clear hd
     go_wp2
     go_ret
     exact ⟨by rw [HD.out];rfl,q+nq,by first | rfl | rw [World.drewN_drewN]⟩
 ·have hd:decide (la=lb)=false:=zA fun e=>hne (by rw [e])
  rw [hd]
  have t1:((la.length:Int)==(lb.length:Int))=false:=by simpa using (by omega:¬ (la.length:Int)=lb.length)
  have t2:(la.length==lb.length)=false:=by simpa using hne
  go_enter Tryz.func104,Tryz.ntmps104
  go_wp2
  go_ret
  exact ⟨rfl,0,rfl⟩
theorem e5k {w:World} {p q:a2a} {g o:Nat} {B:Nat->Option Addr} {c:Nat->Nat} {G:List Nat} (cap:Nat) (h:a4l w p g o B c G)
  {g' o':Nat} {B':Nat->Option Addr} {c':Nat->Nat} {G':List Nat} (cap':Nat) (h':a4l w q g' o' B' c' G') (hP:p.P=q.P) (hW:p.W=q.W) (hH:p.H=q.H) :
  Calls Tryz.prog 73 #[.slice (some ⟨g,o,none⟩) p.P.length cap,.slice (some ⟨g',o',none⟩) q.P.length cap'] w fun e w'=>e=.returned (.bool true)/\Chg [] w w':=by
 have ab:=h.ok
 obtain ⟨N,hN⟩:=zX (p.W*p.H)
 have aa:∀ wr,Chg [] w wr->∀ i,i<p.P.length->wr.cell? ⟨g,o+i,none⟩=some (.slice (B i) N (c i))/\wr.cell? ⟨g',o'+i,none⟩=some (.slice (B' i) N (c' i))/\∀ wz,Chg [] w wz->Calls Tryz.prog 104 #[.slice (B i) N (c i),.slice (B' i) N (c' i)] wz fun e w'=>e=.returned (.bool true)/\∃ q,w'=wz.drewN q:=by
  intro wr hc i hi
  have h1:=(h.same hc).cell i hi
  have h2:=(h'.same hc).cell i (by rw [<-hP];exact hi)
  rw [<-hN] at h1
  rw [<-hW,<-hH,<-hN] at h2
  refine ⟨h1,h2,fun wz hz => ?_⟩
  have e1:=h.len hi
  have e2:=h'.len (i:=i) (by rw [<-hP];exact hi)
  have k1:=(h.same hz).cells i hi
  have k2:=(h'.same hz).cells i (by rw [<-hP];exact hi)
  rw [<-hP] at k2 e2
  have h3:=f1o wz (B i) (B' i) (c i) (c' i) _ _ k1 k2 (by rw [e1];exact ab.area) (by rw [e1];have:=ab.area;omega)
  rw [e1,<-hN] at h3
  simpa using h3
 rw [<-hP]
 obtain ⟨n,hn⟩:=zX (p.P.length)
 have ae:n<=4:=by rw [hn];exact ab.n1
 rw [<-hn] at aa ⊢
 have HC:=hid aa
 have t0:((n:Int) != (n:Int))=false:=by simp
 clear aa hn ab h h' hP hW hH hN
 go_enter Tryz.func73,Tryz.ntmps73
 go_wp2_with fail
 go_loopg [5] n (fun j v5 wr=>∃ i:Nat,v5=.int .i64 i/\i+j=n/\Hid (Chg [] w wr))
 case atStart=>exact ⟨0,rfl,by omega,hid (zR _ _)⟩
 case round =>
  obtain ⟨i,rfl,af,ac⟩:=hrel
  rcases gk with _ | j
  ·obtain rfl:i=n:=by omega
   have t1:decide (i<i)=false:=by simp
   go_wp2
   go_ret
   exact ⟨rfl,ac.out⟩
  ·have hi:i<n:=by omega
   have t1:decide (i<n)=true:=zB hi
   obtain ⟨c1,c2,ad⟩:=HC.out wr ac.out i hi
   have HI:Hid (∀ k,Calls Tryz.prog 104 #[.slice (B i) N (c i),.slice (B' i) N (c' i)] (wr.drewN k) fun e w'=>e=.returned (.bool true)/\∃ q,w'=wr.drewN q):=hid (fun k=>(ad (wr.drewN k) (ac.out.drewN k)).mono fun e w' h=>by
    obtain ⟨h1,q,h2⟩:=h
    exact ⟨h1,k+q,by rw [h2,World.drewN_drewN]⟩)
   clear ad
   go_wp2_with fail
   go_quiet ((go_at_call 104;exact HI.out _))
   go_wp2_with fail
   go_roundg j
   case measure=>omega
   case rel=>exact ⟨i+1,by go_num,by omega,hid (ac.out.drewN nq)⟩
theorem e0c {w:World} {p q:a2a} {g o:Nat} {B:Nat->Option Addr} {c:Nat->Nat} {G:List Nat} (cap:Nat) (h:a4l w p g o B c G)
  {g' o':Nat} {B':Nat->Option Addr} {c':Nat->Nat} {G':List Nat} (cap':Nat) (h':a4l w q g' o' B' c' G') (hP:p.P=q.P) (hW:p.W=q.W) (hH:p.H=q.H) (hd:p.d=q.d) :
  Calls Tryz.prog 26 #[a6y p g o cap,a6y q g' o' cap'] w fun e w'=>e=.returned (.bool true)/\Chg [] w w':=by
 have hr:=fun w' (hc:Chg [] w w')=>e5k cap (h.same hc) cap' (h'.same hc) hP hW hH
 unfold a6y
 rw [<-hW,<-hH,<-hd]
 have ac:Blk (w.alloc (.cells #[.int .i64 p.W,.int .i64 p.H,.int .i64 p.d,.slice (some ⟨g,o,none⟩) p.P.length cap] 27)) w.heap.size 27 #[.int .i64 p.W,.int .i64 p.H,.int .i64 p.d,.slice (some ⟨g,o,none⟩) p.P.length cap]:=Blk.new w _ _
 have aa:Chg [] w ((w.alloc (.cells #[.int .i64 p.W,.int .i64 p.H,.int .i64 p.d,.slice (some ⟨g,o,none⟩) p.P.length cap] 27)).alloc (.cells #[.int .i64 p.W,.int .i64 p.H,.int .i64 p.d,.slice (some ⟨g',o',none⟩) q.P.length cap'] 27)):=((zR [] w).alloc _).alloc _
 have ab:=hr _ aa
 have HR:=hid ab
 have HC:=hid aa
 clear hr ab ac aa h h' hW hH hd hP
 go_enter Tryz.func26,Tryz.ntmps26
 go_wp2_with fail
 refine HR.out.mono ?_
 rintro e w2 ⟨rfl,ad⟩
 go_wp2
 go_ret
 exact ⟨rfl,HC.out.tq ad⟩
end Go.Proofs.YtepjepkgcdfboaaGreatDoor
