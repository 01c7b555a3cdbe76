/- package prefix by its contracts, the eighth part: Put, PutTable. -/
import Derived.Test.YtepjepkgcdfboaaGreatDoorMg15
import Derived.Test.YtepjepkgcdfboaaGreatDoorMg26
import Derived.Deep.CutRange
set_option linter.unusedVariables false
set_option linter.unusedSimpArgs false
set_option maxHeartbeats 4000000
set_option maxRecDepth 100000
namespace Go.Proofs.YtepjepkgcdfboaaGreatDoor
open Go.RowKit
theorem e9l (w:World) (b:Nat) (F bs:List Nat) (lens l:List Nat) (A Al:Option Addr) (cap capl:Nat) (h:a2n w b F bs) (hf:b3p lens) (hc:a0d i64 w A lens) (hA:Apt A lens F) (hl:l.length<=4096) (hcl:a0d i64 w Al l) (hAl:Apt Al l F)
  (hs:∀ s∈l,s<lens.length/\0<a0g lens s) (hbs:bs.length<137438953472) :
  Calls Tryz.prog 170 #[.pointer (some ⟨b,0,none⟩),.slice A lens.length cap,.slice Al l.length capl] w fun e w'=>e=.returned (.int .i64 0)/\∃ F',a2n w' b F' (bs++a1z lens l)/\a0u F F' w w':=by
 have ao:=d5j lens A cap w hf hc
 have aC:=h.lt
 obtain ⟨n,hn⟩:=zX (lens.length)
 obtain ⟨m,hm⟩:=zX (l.length)
 have aY:=hf.n1
 have aR:=hf.n2
 rw [<-hn] at ao hs aY aR ⊢
 rw [<-hm] at hl ⊢
 have HN:=hid hn
 have HM:=hid hm
 have HS:=hid hs
 have HF:=hid hf
 have HA:=hid hA
 have aP:=hid hAl
 have aA:=hid aC
 clear hn hm hs hf hA hAl aC
 go_enter Tryz.func170,Tryz.ntmps170
 go_wp2_with fail
 refine ao.mono ?_
 rintro e w1 ⟨vw,gw,rfl,af,ac,a4⟩
 obtain ⟨cw,rfl,ap,aK,al,_⟩:=af.oq
 have aF:(b0d lens).length=n:=by rw [HN.out];exact a3s lens _
 rw [aF] at ap ⊢
 have aU:=ac.size
 have aM:=hid al
 clear ao aF al
 go_wp2_with fail
 go_loopg [10,23] m (fun j v10 iv wr=>∃ (i:Nat),iv=.int .i64 i/\i+j=m/\wr=w1)
 case atStart=>exact ⟨0,rfl,by omega,rfl⟩
 case round =>
  obtain ⟨i,rfl,a2,aQ⟩:=hrel
  obtain rfl:=aQ.symm
  rcases gk with _ | j
  ·obtain rfl:i=m:=by omega
   go_wp2_with fail
   go_loopg [12,45] i (fun j v12 iv wr2=>∃ (q:Nat) (F' ah:List Nat),iv=.int .i64 q/\q+j=i/\a2n wr2 b F' ah/\Hid (ah=bs++a1z lens (l.take q))/\ah.length<=bs.length+24*q/\a0u F F' w1 wr2)
   case atStart=>exact ⟨0,F,bs,rfl,by omega,h.same ac,hid (by simp [a1z]),by omega,a0u.refl F _⟩
   case round =>
    obtain ⟨q,F',ah,rfl,a3,aE,Hb,a1,ab⟩:=hrel
    rcases gk with _ | j
    ·obtain rfl:q=i:=by omega
     go_wp2
     go_ret
     refine ⟨rfl,F',?_,a0u.pre ac ab⟩
     have e:l.take q=l:=by rw [HM.out,zN]
     have h5:=Hb.out
     rw [e] at h5
     rw [<-h5]
     exact aE
    ·have aS:q<i:=by omega
     have an:q<l.length:=by rw [<-HM.out];exact aS
     have aa:0<lens.length:=by rw [<-HN.out];omega
     obtain ⟨gl,ol,rfl,cl⟩:=d1d ((hcl.same ac).keep aP.out ab.chg) an
     obtain ⟨ad,am⟩:=HS.out l[q] (zG an)
     have ak:=c8n lens (l.take q) l[q]
     rw [<-a0o l an] at ak
     obtain ⟨s,ag⟩:=zX (l[q])
     rw [<-ag] at cl ad am ak
     have ae:=d2h HF.out am
     have aT:a0g lens s<=24:=by
      unfold a0g
      rw [zD,zF (by rw [<-HN.out];exact ad)]
      exact HF.out.le _ (zG _)
     have aG:b2f lens s=a0b (a5i lens s) (a0g lens s):=rfl
     rw [aG] at ak
     -- the cells of the two tables
     have az:=(hc.same ac).keep HA.out ab.chg
     obtain ⟨gt,ot,rfl,aH,ai⟩:=az.ex aa
     have ct:=ai s (a0g lens s) (by unfold a0g;rw [zD,zF (by rw [<-HN.out];exact ad)];rfl)
     have aj:=aM.out s (a5i lens s) (by unfold a5i;rw [zD,zF (by unfold b0d;rw [a3s,<-HN.out];exact ad)];rfl)
     have ar:gw∉F':=ab.out af.lt (fun hm=>by have:=aA.out _ hm;omega)
     have au:gt∉F':=fun hm=>by
      have h8:=(HA.out.grow (hc.same ac) ab) aa _ rfl
      exact h8 hm
     have aL:wr.cell? ⟨gw,s,none⟩=some (.int .u64 (a5i lens s:Int)):=(World.cell?_of_block (w:=w1) (ab.chg.block gw af.lt (fun hm=>by have:=aA.out _ hm;omega))).trans aj
     have aI:wr.cell? ⟨gt,ot+s,none⟩=some (.int .i64 (a0g lens s:Int)):=ct
     have a0:wr.cell? ⟨gl,ol+q,none⟩=some (.int .i64 s):=cl
     have aD:a5i lens s<16777216:=Nat.lt_of_lt_of_le ae (Nat.le_trans (Nat.pow_le_pow_right (n:=2) (by decide) aT) (by decide))
     generalize a5i lens s=wd at *
     generalize a0g lens s=L at *
     have hS:∀ w',Chg F' wr w'->w'.cell? ⟨gw,s,none⟩=some (.int .u64 wd)/\w'.cell? ⟨gt,ot+s,none⟩=some (.int .i64 L):=fun w' hc' =>
      ⟨(World.cell?_of_block (w:=wr) (hc'.block gw (Nat.lt_of_lt_of_le af.lt ab.size) ar)).trans aL,(World.cell?_of_block (w:=wr) (hc'.block gt aH au)).trans aI⟩
     have aB:=hid hS
     have aV:=hid ak
     have aw:=hid ae
     have aJ:(0:Int)<=(q:Int):=by omega
     have aO:(q:Int)<(i:Int):=by omega
     have aW:(0:Int)<=(s:Int):=by omega
     have aN:(s:Int)<(n:Int):=by omega
     have aZ:=hid af
     clear hS ak ae ai ct cl aj ag aG an aa az af
     go_wp2_with fail
     have aq:=fun w9 (hc9:Chg [] wr w9)=>a0t w9 b F' ah wd L (aE.same hc9) (by omega) aw.out (by omega)
     go_region_held3 (fun w'=>w'.cell? ⟨gw,s,none⟩=some (.int .u64 wd)/\w'.cell? ⟨gt,ot+s,none⟩=some (.int .i64 L)) (first | (go_keep;done) | exact aB.out _ (((zR F' wr).drew).tq (a0u.chg (by assumption))) | exact aB.out _ (a0u.chg (by assumption)))
      (first | (go_at_call 15;refine (aq _ (by first | exact zR _ _ | exact (zR [] wr).drew | exact (zR [] wr).drewN _)).mono ?_;rintro e w5 ⟨rfl,F5,av,ax⟩))
     go_wp2_with fail
     go_roundg j
     case measure=>omega
     case rel =>
      refine ⟨q+1,F5,_,by go_num,by omega,av,hid ?_,?_,ab.trans (a0u.pre ((zR [] wr).drew) ax)⟩
      ·rw [aV.out,Hb.out];simp only [zH]
      ·rw [zC,a0a];omega
  ·have aX:i<m:=by omega
   have ay:i<l.length:=by rw [<-HM.out];exact aX
   obtain ⟨gl,ol,rfl,cl⟩:=d1d (hcl.same ac) ay
   obtain ⟨ad,am⟩:=HS.out l[i] (zG ay)
   have aa:0<lens.length:=by rw [<-HN.out];omega
   obtain ⟨s,ag⟩:=zX (l[i])
   rw [<-ag] at cl ad am
   obtain ⟨gt,ot,rfl,aH,ai⟩:=(hc.same ac).ex aa
   have ct:=ai s (a0g lens s) (by unfold a0g;rw [zD,zF (by rw [<-HN.out];exact ad)];rfl)
   have aI:w1.cell? ⟨gt,ot+s,none⟩=some (.int .i64 (a0g lens s:Int)):=ct
   have t1:decide ((s:Int)<0)=false:=zA (by omega)
   have t2:decide ((n:Int)<=(s:Int))=false:=zA (by omega)
   have t3:((a0g lens s:Int)==0)=false:=by rw [beq_eq_false_iff_ne];omega
   have aJ:(0:Int)<=(i:Int):=by omega
   have aO:(i:Int)<(m:Int):=by omega
   have aW:(0:Int)<=(s:Int):=by omega
   have aN:(s:Int)<(n:Int):=by omega
   generalize a0g lens s=L at *
   clear ct ai ag ay aa
   go_wp2_with fail
   go_roundg j
   case measure=>omega
   case rel=>exact ⟨i+1,by go_num,by omega,rfl⟩
theorem c2l (w:World) (b:Nat) (F bs:List Nat) (lens:List Nat) (A:Option Addr) (cap:Nat) (h:a2n w b F bs) (hf:b3p lens) (hc:a0d i64 w A lens) (hA:Apt A lens F) (hbs:bs.length<137438953472) :
  Calls Tryz.prog 169 #[.pointer (some ⟨b,0,none⟩),.slice A lens.length cap] w fun e w'=>e=.returned (.int .i64 0)/\∃ F',a2n w' b F' (bs++a3u lens)/\a0u F F' w w':=by
 have aq:=d5x lens A cap w hf hc
 have aS:=hf.n1
 have aN:=hf.n2
 have aF:=hf.le
 have an:=b8q lens
 obtain ⟨n,hn⟩:=zX (lens.length)
 rw [<-hn] at aq aS aN an ⊢
 rw [an]
 have HN:=hid hn
 have HA:=hid hA
 have aQ:=hid aF
 have ah:=fun i=>f4s 66 (lens.drop i)
 have aB:=fun i=>d2j 66 (lens.drop i)
 have aA:=fun i=>e6n 66 (lens.drop i)
 have az:=fun i=>f3d 66 (lens.drop i)
 have aw:=hid ah
 have aU:=hid aB
 have aL:=hid aA
 have aM:=hid az
 clear hn hA an aF hf ah aB aA az
 have k1:IntKind.u64.wrap ((n:Int)-1)=((n-1:Nat):Int):=by
  have e:((n-1:Nat):Int)=(n:Int)-1:=by omega
  rw [e]
  exact IntWalk.u64_in _ (by omega)
 go_enter Tryz.func169,Tryz.ntmps169
 go_wp2_with fail
 refine aq.mono ?_
 rintro e w' ⟨rfl,rfl⟩
 go_wp2_with fail
 refine (a0t w b F bs (n-1) 10 h (by omega) (by omega) (by omega)).mono ?_
 rintro e w1 ⟨rfl,F1,ai,aj⟩
 clear h aq
 go_wp2_with fail
 go_loopg [5,6] n (fun k vi' vz wr=>∃ (i:Nat) (F' ag:List Nat),vi'=.int .i64 i/\i<=n/\n<=i+k/\a2n wr b F' ag/\Hid (ag++a3m lens i=bs++(a0b (n-1) 10++a3m lens 0))/\ag.length<=bs.length+10+11*i/\a0u F F' w wr)
 case atStart=>exact ⟨0,F1,_,rfl,by omega,by omega,ai,hid (by rw [zH]),by rw [zC,a0a];omega,aj⟩
 case round =>
  clear ai aj
  obtain ⟨wk,rfl⟩:=zX (wr)
  obtain ⟨i,F',ag,rfl,aG,a2,au,Hb,aX,am⟩:=hrel
  by_cases hend:n<=i
  ·obtain rfl:i=n:=by omega
   go_wp2
   go_ret
   refine ⟨rfl,F',?_,am⟩
   have h5:=Hb.out
   have e:=b7x lens
   rw [<-HN.out] at e
   rw [e,List.append_nil] at h5
   rw [<-h5]
   exact au
  ·rcases gk with _ | ko
   ·omega
   ·have hi:i<n:=by omega
    obtain ⟨Z,hZ⟩:=zX (zr 66 (lens.drop i))
    have z1:=aw.out i
    have z2:=aU.out i
    have z3:=aL.out i
    have z4:=aM.out i
    rw [<-hZ] at z1 z2 z3 z4
    rw [zO,<-HN.out] at z2 z4
    have ar:∀ z,(lens.drop i).getD z 0=a0g lens (i+z):=fun z=>by
     unfold a0g
     rw [zD,List.getElem?_drop,<-zD]
    have ac:0<lens.length:=by rw [<-HN.out];omega
    obtain ⟨gt,ot,rfl,a0,aD⟩:=(hc.keep HA.out am.chg).ex ac
    have ad:∀ s,s<n->wk.cell? ⟨gt,ot+s,none⟩=some (.int .i64 (a0g lens s:Int)):=fun s hs=>by
     have:=aD s (a0g lens s) (by unfold a0g;rw [zD,zF (by rw [<-HN.out];exact hs)];rfl)
     exact this
    have ab:=b7y (lens:=lens) (i:=i) (by rw [<-HN.out];exact hi)
    have aa:=b4w (lens:=lens) (i:=i) (by rw [<-HN.out];exact hi)
    rw [<-hZ] at ab aa
    have aH:a0g lens i<=24:=by
     unfold a0g
     rw [zD,zF (by rw [<-HN.out];exact hi)]
     exact aQ.out _ (zG _)
    have HC:=hid ad
    have HZ:=hid hZ
    have Z3:Hid (∀ z,z<Z->a0g lens (i+z)=0):=hid fun z hz=>by rw [<-ar];exact z3 z hz
    have Z4:Hid (Z=66\/Z=n-i\/a0g lens (i+Z)≠0):=hid (by rw [<-ar];exact z4)
    have av:=hid ab
    have al:=hid aa
    have aY:=hid aG
    clear ad hZ z3 z4 ar aD ab aa ac hend aG
    go_wp2_with fail
    go_loopg [6] Z (fun k vz wz=>∃ z:Nat,vz=.int .i64 z/\z+k=Z/\wz=wk)
    case atStart=>exact ⟨0,rfl,by omega,rfl⟩
    case round =>
     obtain ⟨z,rfl,aZ,aC⟩:=hrel
     obtain rfl:=aC.symm
     clear aC
     rcases gk with _ | j
     ·obtain rfl:z=Z:=by omega
      go_upto_region 7 with fail
      go_cut [38] from 20 to 40 (fun s38 wx=>s38=.bool false/\wx=wk)
      case first =>
       by_cases q1:z=66
       ·have t1:decide ((z:Int)<66)=false:=zA (by omega)
        clear q1
        go_wp2
        go_meet
        case rel=>exact ⟨rfl,rfl⟩
       ·have t1:decide ((z:Int)<66)=true:=zB (by omega)
        by_cases q2:i+z<n
        ·have aT:a0g lens (i+z)≠0:=by
          rcases Z4.out with h | h | h
          ·omega
          ·omega
          ·exact h
         have cz:=HC.out (i+z) q2
         obtain ⟨q,hq⟩:=zX (i+z)
         rw [<-hq] at cz q2 aT
         have aK:(i:Int)+(z:Int)=(q:Int):=by omega
         have t2:decide ((q:Int)<(n:Int))=true:=zB (by omega)
         have t3:((a0g lens q:Int)==0)=false:=by rw [beq_eq_false_iff_ne];omega
         have ax:(0:Int)<=(q:Int):=by omega
         generalize a0g lens q=L at *
         clear hq q1
         go_wp2
         go_meet
         case rel=>exact ⟨rfl,rfl⟩
        ·have t2:decide ((i:Int)+(z:Int)<(n:Int))=false:=zA (by omega)
         clear q1
         go_wp2
         go_meet
         case rel=>exact ⟨rfl,rfl⟩
      case rest =>
       obtain ⟨rfl,h9⟩:=hcut
       obtain rfl:=h9.symm
       clear h9
       by_cases hz3:z<3
       ·have t1:decide ((z:Int)<3)=true:=zB (by omega)
        have ab:=av.out hz3
        have ci:=HC.out i hi
        have ak:a0g lens i<2^5:=by omega
        have aR:a0g lens i<32:=by omega
        generalize a0g lens i=x at *
        have ax:(0:Int)<=(i:Int):=by omega
        have aW:(i:Int)<(n:Int):=by omega
        have HO:=hid ab
        have HX:=hid ak
        clear ab hz3 ak
        go_wp2_with fail
        refine (a0t wk b F' ag x 5 au (by omega) HX.out (by omega)).mono ?_
        rintro e w5 ⟨rfl,F5,ae,af⟩
        go_wp2_with fail
        go_roundg ko
        case measure=>omega
        case rel =>
         refine ⟨i+1,F5,_,by go_num,by omega,by omega,ae,hid ?_,?_,am.trans af⟩
         ·rw [<-Hb.out,HO.out,zH]
         ·rw [zC,a0a];omega
       ·have t1:decide ((z:Int)<3)=false:=zA (by omega)
        have aa:=al.out hz3
        obtain ⟨y,hy⟩:=zX (z-3)
        rw [<-hy] at aa
        have aV:(z:Int)-3=(y:Int):=by omega
        have a1:IntKind.u64.wrap (y:Int)=(y:Int):=IntWalk.u64_in _ (by omega)
        have ay:y<2^6:=by omega
        have HO:=hid aa
        have HY:=hid ay
        have aJ:y<=63:=by omega
        have aP:3<=z:=by omega
        have aI:i+z<=n:=by omega
        clear aa hz3 ay hy
        go_wp2_with fail
        refine (a0t wk b F' ag 31 5 au (by omega) (by omega) (by omega)).mono ?_
        rintro e w5 ⟨rfl,F5,ae,af⟩
        go_wp2_with fail
        refine (a0t w5 b F5 _ y 6 ae (by omega) HY.out (by rw [zC,a0a];omega)).mono ?_
        rintro e w6 ⟨rfl,F6,ap,ao⟩
        go_wp2_with fail
        go_roundg ko
        case measure=>omega
        case rel =>
         refine ⟨i+z,F6,_,by go_num,by omega,by omega,ap,hid ?_,?_,(am.trans af).trans ao⟩
         ·rw [<-Hb.out,HO.out];simp only [zH]
         ·rw [zC,zC,a0a,a0a];omega
     ·have aO:z<Z:=by omega
      have t1:decide ((z:Int)<66)=true:=zB (by omega)
      have aE:i+z<n:=by omega
      have cz:=HC.out (i+z) aE
      rw [Z3.out z aO] at cz
      obtain ⟨q,hq⟩:=zX (i+z)
      rw [<-hq] at cz aE
      have aK:(i:Int)+(z:Int)=(q:Int):=by omega
      have t2:decide ((q:Int)<(n:Int))=true:=zB (by omega)
      have ax:(0:Int)<=(q:Int):=by omega
      clear hq
      go_wp2_with fail
      go_roundg j
      case measure=>omega
      case rel=>exact ⟨z+1,by go_num,by omega,rfl⟩
theorem c1o (ns:List Nat) (h:ns≠[]):Lib.maxOf (ns.map Int.ofNat)=((b3k ns:Nat):Int):=by
 have aa:∀ (l:List Nat) (a:Nat),(l.map Int.ofNat).foldl max (a:Int)=((l.foldl max a:Nat):Int):=by
  intro l
  induction l with
  | nil=>intro a;rfl
  | cons x l ih =>
   intro a
   have e:max (a:Int) (Int.ofNat x)=((max a x:Nat):Int):=by
    show max (a:Int) (x:Int)=_
    omega
   simp only [List.map_cons,List.foldl_cons]
   rw [e,ih]
 cases ns with
 | nil=>exact absurd rfl h
 | cons x l =>
  unfold Lib.maxOf b3k
  show ((x::l).map Int.ofNat).foldl max (x:Int)=_
  rw [aa]
  simp
def a6o (f:List Nat):List Nat:=(List.range (b3k f+1)).map fun v=>f.count v
def a8n (m:Nat) (f:List Nat):List Nat:=(List.range m).map fun v=>f.count v
theorem b2u (m:Nat) (f:List Nat):(a8n m f).length=m:=by simp [a8n]
theorem d8v (m:Nat):a8n m []=List.replicate m 0:=by
 apply List.ext_getElem
 ·simp [a8n]
 ·intro i h1 h2;simp [a8n]
theorem c0x {m v:Nat} (f:List Nat) (h:v<m):(a8n m f)[v]?=some (f.count v):=by simp [a8n,h]
theorem d3j {m x:Nat} (f:List Nat) (h:x<m):a8n m (f++[x])=(a8n m f).set x (f.count x+1):=by
 apply List.ext_getElem?
 intro i
 rw [List.getElem?_set,b2u]
 by_cases hi:i<m
 ·rw [c0x _ hi]
  by_cases e:x=i
  ·subst e
   rw [if_pos rfl,if_pos h,List.count_append]
   simp
  ·rw [if_neg e,c0x _ hi,List.count_append]
   have:List.count i [x]=0:=by
    rw [List.count_eq_zero]
    simp
    omega
   rw [this];rfl
 ·have e1:(a8n m (f++[x]))[i]?=none:=List.getElem?_eq_none (by rw [b2u];omega)
  rw [e1]
  by_cases e:x=i
  ·omega
  ·rw [if_neg e]
   exact (List.getElem?_eq_none (by rw [b2u];omega)).symm
theorem b1r (f:List Nat):(a6o f).length=b3k f+1:=by simp [a6o]
theorem b6w {f:List Nat} {v:Nat} (h:v<=b3k f):(a6o f).getD v 0=f.count v:=by
 simp [a6o,zD,show v<b3k f+1 by omega]
theorem e7p (f:List Nat):∀ x∈a6o f,x<=f.length:=by
 intro x hx
 obtain ⟨v,_,rfl⟩:=List.mem_map.1 hx
 exact List.count_le_length
theorem c0w {f:List Nat} (h:f≠[]):0<(a0v (a6o f) (a6o f).length).length:=by
 cases f with
 | nil=>exact absurd rfl h
 | cons x l =>
  have hx:x<=b3k (x::l):=c1n (by simp)
  have h1:=a9j (a6o (x::l)) x (a6o (x::l)).length
  rw [b1r,b6w hx,if_pos ⟨by omega,by simp⟩] at h1
  rw [b1r]
  have h2:0<a0m x (a0v (a6o (x::l)) (b3k (x::l)+1)):=by omega
  obtain ⟨w,hw⟩:=a3n.1 h2
  exact List.length_pos_of_mem hw
def a6i (l:List Int) (W d:Nat):List Nat:=a7d (a6o (a1w l W d))
def a6h (l:List Int) (W d:Nat):List Nat:=a3u (a6i l W d)++a1z (a6i l W d) (a1w l W d)
theorem c5e (l:List Int) (W d:Nat):(a8v l W d).map vi=(a1w l W d).map i64:=by
 unfold a8v
 rw [List.map_map]
 rfl
theorem c4c (w:World) (b:Nat) (F bs:List Nat) (l:List Int) (A:Option Addr) (cap W d:Nat) (h:a2n w b F bs) (hw0:1<=W) (hw1:W<=16) (h0:1<=d) (h1:d<=16) (hl0:0<l.length) (hl:l.length<=256) (hlW:l.length<=64*W) (hs:a1u d l) (hc:a0d vi w A l) (hA:Apt A l F) (hmx:b3k (a1w l W d)<256) (hbs:bs.length<68719476736) :
  Calls Tryz.prog 121 #[.pointer (some ⟨b,0,none⟩),.slice A l.length cap,.int .i64 W,.int .i64 d] w fun e w'=>e=.returned (.tuple #[])/\∃ F',a2n w' b F' (bs++a6h l W d)/\a0u F F' w w':=by
 have aw:=c0t l A cap W d w h0 h1 hw0 (by omega) hlW hs hc (by omega)
 have ar:=a7y l W d
 rw [c5e] at aw
 have a4:a6h l W d=a3u (a7d (a6o (a1w l W d)))++a1z (a7d (a6o (a1w l W d))) (a1w l W d):=rfl
 rw [a4]
 obtain ⟨f,hf⟩:=zX (a1w l W d)
 rw [<-hf] at aw ar hmx ⊢
 obtain ⟨n,hn⟩:=zX (l.length)
 rw [<-hn] at aw ar hl0 hl ⊢
 obtain ⟨M,hM⟩:=zX (b3k f)
 rw [<-hM] at hmx
 have av:f≠[]:=by intro e;rw [e] at ar;simp at ar;omega
 have a8:∀ x∈f,x<=M:=fun x hx=>by rw [hM];exact c1n hx
 have bl:=a1p (P:=Tryz.prog) a0p rfl .i64 .i64 (M+1) (by omega) (by omega)
 have a7:=h.lt
 have ap:=hid ar
 have bd:=hid a8
 have HM:=hid hM
 have a3:=hid av
 have a6:=hid a7
 clear hf hn hM ar a8 av a7 hs hA hc a4
 go_enter Tryz.func121,Tryz.ntmps121
 go_wp2_with fail
 refine aw.mono ?_
 rintro e w1 ⟨fv,fg,rfl,aa,aM,bI⟩
 obtain ⟨fc,rfl,bp,bx,_,_⟩:=aa.oq
 rw [ap.out] at bp ⊢
 have bf:a0d vi w1 (some ⟨fg,0,none⟩) (f.map Int.ofNat):=by
  have e:f.map i64=(f.map Int.ofNat).map vi:=by rw [List.map_map];rfl
  have h9:=aa
  rw [e] at h9
  exact h9.toOwn.cells
 have a0:a0d i64 w1 (some ⟨fg,0,none⟩) f:=aa.toOwn.cells
 have ak:(f.map Int.ofNat).length=n:=by rw [zE];exact ap.out
 have aq:=Tryz.slices_Max_int fg 0 n fc (f.map Int.ofNat) w1 hl0 (by rw [ak];exact zQ _) (by omega) (a0d.getD_ bf)
 rw [zT (by rw [ak];exact zQ _),c1o f a3.out,<-HM.out] at aq
 have bJ:=aM.size
 have bm:=aa.lt
 clear aw bf ak
 obtain ⟨M1,aY⟩:=zX (M+1)
 have bo:(M:Int)+1=(M1:Int):=by omega
 rw [<-aY] at bl
 go_wp2_with fail
 refine aq.mono ?_
 rintro e w' ⟨rfl,rfl⟩
 obtain ⟨B,hB⟩:=zX (w'.heap.size)
 obtain ⟨w2,aE⟩:=zX (w'.alloc (.cells (Array.replicate M1 (Value.int .i64 0)) 3))
 have aN:Row w2 3 (.slice (some ⟨B,0,none⟩) M1 M1) B ((a8n M1 (f.take 0)).map i64):=by
  rw [aE,hB,List.take_zero,d8v]
  exact Row.zerosN w' M1 (by omega)
 have be:Chg [] w' w2:=by rw [aE];exact (zR [] w').alloc _
 have aT:=a0.same be
 have aR:=aM.tq be
 have br:=hid aE
 have HB:=hid hB
 have aZ:fg≠B:=by omega
 have bG:=aN.lt
 have aF:=hid aY
 have bc:M1<=256:=by omega
 clear aq aE hB aY aa a0 aM
 go_wp2_with fail
 rw [<-br.out,<-HB.out]
 go_loopg [11,24] n (fun j v11 iv wr=>∃ (i:Nat),iv=.int .i64 i/\i+j=n/\Row wr 3 (.slice (some ⟨B,0,none⟩) M1 M1) B ((a8n M1 (f.take i)).map i64)/\Chg [B] w2 wr)
 case atStart=>exact ⟨0,rfl,by omega,aN,zR _ _⟩
 case round =>
  clear aN
  obtain ⟨wk,rfl⟩:=zX (wr)
  obtain ⟨i,rfl,bK,aa,aC⟩:=hrel
  have al:=aT.keep (fun _ ad e hm=>by
   injection e with e
   subst e
   simp at hm
   exact aZ hm) aC
  rcases gk with _ | j
  ·obtain rfl:i=n:=by omega
   have a2:a8n M1 (f.take i)=a6o f:=by
    rw [zT (by rw [ap.out];exact zQ _),aF.out,HM.out];rfl
   rw [a2] at aa
   have a5:a0d i64 wk (some ⟨B,0,none⟩) (a6o f):=aa.toOwn.cells
   have aK:(a6o f).length=M1:=by rw [b1r,<-HM.out,aF.out]
   have aV:=d9j wk (a6o f) (some ⟨B,0,none⟩) M1 (by omega) (by omega) (fun x hx=>by have:=e7p f x hx;rw [ap.out] at this;omega) (c0w a3.out) a5
   rw [aK] at aV
   have aS:Chg [] w wk:=aR.trans aC (fun x hx=>by rw [zU.1 hx];right;have:=HB.out;omega)
   have bv:=h.same aS
   have bj:=hid aK
   have bC:=aS.size
   have bi:=aC.size
   clear a5 aa a2 aK h aC
   go_wp2_with fail
   refine aV.mono ?_
   rintro e w3 ⟨lv,lg,rfl,am,aD,aO,bE⟩
   obtain ⟨lc,rfl,bg,bn,_,_⟩:=am.oq
   have ai:a0d i64 w3 (some ⟨lg,0,none⟩) (a7d (a6o f)):=am.toOwn.cells
   have aA:∀ s∈f,s<(a7d (a6o f)).length/\0<a0g (a7d (a6o f)) s:=fun s hs=>by
    have bw:=bd.out s hs
    have ba:s<(a6o f).length:=by rw [bj.out,aF.out];omega
    refine ⟨by rw [aD.len];exact ba,(aD.used s ba).2 ?_⟩
    rw [b6w (by rw [<-HM.out];exact bw)]
    exact List.count_pos_iff.2 hs
   have ac:=aD.full
   have ah:Apt (some ⟨lg,0,none⟩) (a7d (a6o f)) F:=fun _ ad e hm=>by
    injection e with e
    subst e
    have:=a6.out _ hm
    simp at this
    omega
   have ax:Apt (some ⟨fg,0,none⟩) f F:=fun _ ad e hm=>by
    injection e with e
    subst e
    have:=a6.out _ hm
    simp at this
    omega
   have az:=al.same aO
   have aP:=bv.same aO
   have aQ:=aS.tq aO
   have ay:=hid aA
   have ab:=hid ac
   have a1:Hid ((a7d (a6o f)).length<=1024):=hid ac.n2
   obtain ⟨ao,ag⟩:=zX (a7d (a6o f))
   have au:=hid ag
   rw [<-ag] at ai ay ab ah bg a1 ⊢
   have bb:=c2l w3 b F bs ao (some ⟨lg,0,none⟩) lc aP ab.out ai ah (by omega)
   clear aV am aD aA ac ag al
   go_wp2_with fail
   refine bb.mono ?_
   rintro e w4 ⟨rfl,F4,aI,ae⟩
   have bq:=b0s ao
   have a9:=e9l w4 b F4 _ ao f (some ⟨lg,0,none⟩) (some ⟨fg,0,none⟩) lc fc aI ab.out (ai.keep ah ae.chg) (ah.grow ai ae) (by rw [ap.out];omega) (az.keep ax ae.chg) (ax.grow az ae) ay.out (by rw [zC];have:=a1.out;omega)
   rw [ap.out] at a9
   clear bb bq
   go_wp2_with fail
   refine a9.mono ?_
   rintro e w5 ⟨rfl,F5,aJ,aL⟩
   go_wp2_with fail
   go_end0
   refine ⟨rfl,F5,?_,(a0u.pre aQ ae).trans aL⟩
   rw [<-zH,<-au.out]
   exact aJ
  ·have bh:i<n:=by omega
   have aG:i<f.length:=by rw [ap.out];exact bh
   obtain ⟨g9,o9,e9,cl⟩:=d1d al aG
   injection e9 with e9
   injection e9 with e9 e10 _
   subst e9
   subst e10
   rw [Nat.zero_add] at cl
   have bu:=bd.out f[i] (zG aG)
   have aU:=a0o f aG
   obtain ⟨x,hx⟩:=zX (f[i])
   rw [<-hx] at cl bu aU
   have aW:x<M1:=by have:=aF.out;omega
   have aH:=d3j (f.take i) aW
   rw [<-aU] at aH
   have bk:(f.take i).count x<=256:=Nat.le_trans List.count_le_length (by rw [zI];omega)
   obtain ⟨bD,ee,_,_,aj,aB⟩:=aa.oq
   have cq:=aj x ((f.take i).count x) (c0x _ aW)
   have fq:=aB x
   have an:=aa.set_ (i:=x) (by rw [zE,b2u];exact aW) (i64 ((f.take i).count x+1))
   rw [<-List.map_set,<-aH] at an
   generalize (f.take i).count x=c at *
   have bF:wk.cell? ⟨B,x,none⟩=some (.int .i64 c):=cq
   have af:Row (wk.setCell ⟨B,x,none⟩ (.int .i64 ((c+1:Nat):Int))) 3 (.slice (some ⟨B,0,none⟩) M1 M1) B ((a8n M1 (f.take (i+1))).map i64):=an
   have e2:((c+1:Nat):Int)=(c:Int)+1:=by simp
   rw [e2] at af
   have aX:=hid af
   have bz:(0:Int)<=(i:Int):=by omega
   have bH:(i:Int)<(n:Int):=by omega
   have bB:(0:Int)<=(x:Int):=by omega
   have bA:(x:Int)<(M1:Int):=by omega
   clear ee aj aB an af aH aU hx aG cq e2 aa
   go_wp2_with fail
   go_roundg j
   case measure=>omega
   case rel=>exact ⟨i+1,by go_num,by omega,aX.out,aC.setCell (.inl (by simp)) _⟩
def a7a (k:Nat) (l:List Int) (W d:Nat):Bool :=
 if k=0 then decide ((a2g l).length=1) else if k<=5 then true else if k=6 then decide ((a2g l).length<=16) else if k=7 then decide (b3k (a1w l W d)<256) else false
structure c9d (w:World) (l:List Int) (A:Option Addr) (W H d:Nat):Prop where
 w0:1<=W
 w1:W<=16
 h0:1<=H
 h1:H<=16
 d0:1<=d
 d1:d<=16
 len:l.length=W*H
 smp:a1u d l
 cells:a0d vi w A l
theorem c9d.pos {w:World} {l:List Int} {A:Option Addr} {W H d:Nat} (t:c9d w l A W H d):0<l.length:=by rw [t.len];exact Nat.mul_pos t.w0 t.h0
theorem c9d.le {w:World} {l:List Int} {A:Option Addr} {W H d:Nat} (t:c9d w l A W H d):l.length<=256:=by rw [t.len];exact zL t.w1 t.h1
theorem c9d.leW {w:World} {l:List Int} {A:Option Addr} {W H d:Nat} (t:c9d w l A W H d):l.length<=64*W:=by
 rw [t.len,zY]
 exact Nat.mul_le_mul_right W (Nat.le_trans t.h1 (by decide))
theorem c9d.chg {w w':World} {l:List Int} {A:Option Addr} {W H d:Nat} {F:List Nat} (t:c9d w l A W H d) (hA:Apt A l F) (hc:Chg F w w'):c9d w' l A W H d :=
 { t with cells:=t.cells.keep hA hc }
theorem c9d.same {w w':World} {l:List Int} {A:Option Addr} {W H d:Nat} (t:c9d w l A W H d) (hc:Chg [] w w'):c9d w' l A W H d :=
 { t with cells:=t.cells.same hc }
def a3l (k:Nat) (w:World) (l:List Int) (W d:Nat) (e:Ending) (w':World):Prop:=e=.returned (.bool (a7a k l W d))/\Chg [] w w'
section
variable {w:World} {l:List Int} {A:Option Addr} {W H d:Nat} (cap:Nat) (t:c9d w l A W H d)
include t
theorem e3r (k:Nat) (hk0:1<=k) (hk:k<=5):Calls Tryz.prog 86 #[.int .i64 k,.slice A l.length cap,.int .i64 W,.int .i64 H,.int .i64 d] w (a3l k w l W d):=by
 have aa:=a9s l A cap W H d w t.w0 t.w1 t.h0 t.h1 t.d0 t.d1 t.len t.smp t.cells
 have hm:a7a k l W d=true:=by unfold a7a;rw [if_neg (by omega),if_pos hk]
 unfold a3l
 rw [hm]
 rcases (by omega:k=1\/k=2\/k=3\/k=4\/k=5) with rfl | rfl | rfl | rfl | rfl
 all_goals
  clear t hm
  go_enter Tryz.func86,Tryz.ntmps86
  go_wp2_with (go_at_call 85;refine aa.mono ?_;rintro e w' ⟨rfl,rfl⟩)
  go_ret
  exact ⟨rfl,zR _ _⟩
theorem e8o:Calls Tryz.prog 86 #[.int .i64 (0:Nat),.slice A l.length cap,.int .i64 W,.int .i64 H,.int .i64 d] w (a3l 0 w l W d):=by
 have ab:=a9s l A cap W H d w t.w0 t.w1 t.h0 t.h1 t.d0 t.d1 t.len t.smp t.cells
 have aa:=b1p l A cap w t.pos (by have:=t.le;omega) t.cells
 have hm:a7a 0 l W d=decide ((a2g l).length=1):=by unfold a7a;rw [if_pos rfl]
 have hb:(((a2g l).length:Int)==1)=decide ((a2g l).length=1):=by
  by_cases h:(a2g l).length=1
  ·rw [h];rfl
  ·rw [zA h,beq_eq_false_iff_ne];omega
 unfold a3l
 rw [hm]
 generalize (a2g l).length=k at *
 generalize decide (k=1)=bb at *
 clear t hm
 go_enter Tryz.func86,Tryz.ntmps86
 go_wp2_with (first | (go_at_call 85;refine ab.mono ?_;rintro e w' ⟨rfl,rfl⟩) | (go_at_call 110;refine aa.mono ?_;rintro e w2 ⟨g,c,rfl,_,_,_,_,ac⟩))
 go_ret
 exact ⟨rfl,ac⟩
theorem d0y:Calls Tryz.prog 86 #[.int .i64 (6:Nat),.slice A l.length cap,.int .i64 W,.int .i64 H,.int .i64 d] w (a3l 6 w l W d):=by
 have ab:=a9s l A cap W H d w t.w0 t.w1 t.h0 t.h1 t.d0 t.d1 t.len t.smp t.cells
 have aa:=b1p l A cap w t.pos (by have:=t.le;omega) t.cells
 have hm:a7a 6 l W d=decide ((a2g l).length<=16):=by unfold a7a;rw [if_neg (by omega),if_neg (by omega),if_pos rfl]
 have hb:decide (((a2g l).length:Int)<=16)=decide ((a2g l).length<=16):=by
  by_cases h:(a2g l).length<=16
  ·rw [zB h];exact zB (by omega)
  ·rw [zA h];exact zA (by omega)
 unfold a3l
 rw [hm]
 generalize (a2g l).length=k at *
 generalize decide (k<=16)=bb at *
 clear t hm
 go_enter Tryz.func86,Tryz.ntmps86
 go_wp2_with (first | (go_at_call 85;refine ab.mono ?_;rintro e w' ⟨rfl,rfl⟩) | (go_at_call 110;refine aa.mono ?_;rintro e w2 ⟨g,c,rfl,_,_,_,_,ac⟩))
 go_ret
 exact ⟨rfl,ac⟩
theorem d0z:Calls Tryz.prog 86 #[.int .i64 (7:Nat),.slice A l.length cap,.int .i64 W,.int .i64 H,.int .i64 d] w (a3l 7 w l W d):=by
 have af:=a9s l A cap W H d w t.w0 t.w1 t.h0 t.h1 t.d0 t.d1 t.len t.smp t.cells
 have ae:=c0t l A cap W d w t.d0 t.d1 t.w0 (by have:=t.w1;omega) t.leW t.smp t.cells (by have:=t.le;omega)
 have ac:=a7y l W d
 have hp:=t.pos
 have ak:=t.le
 rw [c5e] at ae
 have hm:a7a 7 l W d=decide (b3k (a1w l W d)<256):=by unfold a7a;rw [if_neg (by omega),if_neg (by omega),if_neg (by omega),if_pos rfl]
 unfold a3l
 rw [hm]
 obtain ⟨f,hf⟩:=zX (a1w l W d)
 rw [<-hf] at ae ac ⊢
 have hb:decide (((b3k f:Nat):Int)<256)=decide (b3k f<256):=by
  by_cases h:b3k f<256
  ·rw [zB h];exact zB (by omega)
  ·rw [zA h];exact zA (by omega)
 have ag:f≠[]:=by intro e;rw [e] at ac;simp at ac;omega
 have am:=c1o f ag
 generalize b3k f=M at *
 generalize decide (M<256)=bb at *
 obtain ⟨n,hn⟩:=zX (l.length)
 rw [<-hn] at ac af ae hp ak ⊢
 have ah:=hid ac
 clear t hm hf hn ac ag
 go_enter Tryz.func86,Tryz.ntmps86
 go_wp2_with (first | (go_at_call 85;refine af.mono ?_;rintro e w' ⟨rfl,rfl⟩))
 refine ae.mono ?_
 rintro e w1 ⟨fv,fg,rfl,ab,al,ao⟩
 obtain ⟨fc,rfl,an,aj,_,_⟩:=ab.oq
 rw [ah.out] at an ⊢
 have ai:a0d vi w1 (some ⟨fg,0,none⟩) (f.map Int.ofNat):=by
  have e:f.map i64=(f.map Int.ofNat).map vi:=by rw [List.map_map];rfl
  have h9:=ab
  rw [e] at h9
  exact h9.toOwn.cells
 have aa:(f.map Int.ofNat).length=n:=by rw [zE];exact ah.out
 have ad:=Tryz.slices_Max_int fg 0 n fc (f.map Int.ofNat) w1 hp (by rw [aa];exact zQ _) (by omega) (a0d.getD_ ai)
 rw [zT (by rw [aa];exact zQ _),am] at ad
 clear ae ai aa ab
 go_wp2_with fail
 refine ad.mono ?_
 rintro e w' ⟨rfl,rfl⟩
 go_wp2
 go_ret
 exact ⟨rfl,al⟩
theorem a9a (k:Nat) (hk:k<=7):Calls Tryz.prog 86 #[.int .i64 k,.slice A l.length cap,.int .i64 W,.int .i64 H,.int .i64 d] w (a3l k w l W d):=by
 rcases (by omega:k=0\/(1<=k/\k<=5)\/k=6\/k=7) with rfl | h | rfl | rfl
 ·exact e8o cap t
 ·exact e3r cap t k h.1 h.2
 ·exact d0y cap t
 ·exact d0z cap t
end
def c6m (l:List Int) (W d:Nat):List Nat:=a3h (a5z l (d+1) 12) W d
def e8g (k:Nat) (l:List Int) (W H d:Nat):List Nat :=
 if k=0 then a0b (l.getD 0 0).toNat d else if k=1 then a1v l d else if k=2 then a2z l W H d else if k=3 then a1c l W d (W*H)
 else if k=4 then c6m l W d else if k=5 then a3w l W d else if k=6 then a2r l d else a6h l W d
def a0e (k:Nat) (l:List Int) (W H d:Nat):List Nat:=a0b k 3++e8g k l W H d
def a2w (w:World) (b:Nat) (F bs ts:List Nat) (e:Ending) (w':World):Prop:=e=.returned (.int .i64 0)/\∃ F',a2n w' b F' (bs++ts)/\a0u F F' w w'
section
variable {w:World} {l:List Int} {A:Option Addr} {W H d:Nat} (cap:Nat) (t:c9d w l A W H d) (b:Nat) (F bs:List Nat) (h:a2n w b F bs) (hA:Apt A l F) (hp:Pts w) (h0F:0∉F) (hbs:bs.length<34359738368)
include t h hA hp h0F hbs
theorem e0f (hm:a7a 0 l W d=true):Calls Tryz.prog 88 #[.pointer (some ⟨b,0,none⟩),.int .i64 (0:Nat),.slice A l.length cap,.int .i64 W,.int .i64 H,.int .i64 d] w (a2w w b F bs (a0e 0 l W H d)):=by
 have ac:=a9a cap t 0 (by omega)
 unfold a3l at ac
 rw [hm] at ac
 unfold a2w
 have ak:∀ X:List Nat,bs++(a0b 0 3++X)=bs++a0b 0 3++X:=fun X=>(zH _ _ _).symm
 have ab:a0e 0 l W H d=a0b 0 3++a0b (l.getD 0 0).toNat d:=rfl
 rw [ab,ak]
 have HT:=hid t
 have HA:=hid hA
 have aj:=a5d t.smp 0
 have al:=t.pos
 obtain ⟨x,hx⟩:=zX (l.getD 0 0)
 rw [<-hx] at aj ⊢
 have ag:x=((x.toNat:Nat):Int):=(Int.toNat_of_nonneg aj.1).symm
 have ad:x.toNat<2^d:=by
  have e2:((2^d:Nat):Int)=(2:Int)^d:=by simp
  omega
 obtain ⟨k,hk⟩:=zX (x.toNat)
 rw [<-hk] at ag ad ⊢
 have ar:k<65536:=Nat.lt_of_lt_of_le ad (by have:=Nat.pow_le_pow_right (n:=2) (by decide) t.d1;exact this)
 have HX:=hid (And.intro hx ag)
 have aq:=hid ad
 have au:=t.d1
 clear hx aj ag ad hk
 clear t hA hm ak ab
 go_enter Tryz.func88,Tryz.ntmps88
 go_wp2_with fail
 refine ac.mono ?_
 rintro e w1 ⟨rfl,ao⟩
 go_wp2_with fail
 refine (a0t w1 b F bs 0 3 (h.same ao) (by omega) (by omega) (by omega)).mono ?_
 rintro e w2 ⟨rfl,F2,ae,ah⟩
 have aa:=a0u.pre ao ah
 have ap:=HT.out.chg HA.out aa.chg
 have ax:=HA.out.grow HT.out.cells aa
 have az:(bs++a0b 0 3).length<68719476736:=by rw [zC,a0a];omega
 have ay:0∉F2:=aa.out hp.lt h0F
 have aA:=hp.chg aa.chg h0F
 obtain ⟨g,o,rfl,cl⟩:=ap.cells.at_ al
 have am:l[0]=(k:Int):=by
  rw [<-HX.out.2,HX.out.1,zD,zF al];rfl
 rw [am] at cl
 have aw:w2.cell? ⟨g,o,none⟩=some (.int .i64 k):=cl
 have av:(0:Int)<(l.length:Int):=by omega
 have an:¬ ((l.length:Int)<=0):=by omega
 clear cl am
 go_wp2_with fail
 refine (a0t w2 b F2 _ k d ae (by omega) aq.out (by omega)).mono ?_
 rintro e w3 ⟨rfl,F3,af,ai⟩
 go_wp2_with fail
 go_ret
 exact ⟨rfl,F3,af,aa.trans ai⟩
theorem d4h (hm:a7a 1 l W d=true):Calls Tryz.prog 88 #[.pointer (some ⟨b,0,none⟩),.int .i64 (1:Nat),.slice A l.length cap,.int .i64 W,.int .i64 H,.int .i64 d] w (a2w w b F bs (a0e 1 l W H d)):=by
 have ac:=a9a cap t 1 (by omega)
 unfold a3l at ac
 rw [hm] at ac
 unfold a2w
 have ai:∀ X:List Nat,bs++(a0b 1 3++X)=bs++a0b 1 3++X:=fun X=>(zH _ _ _).symm
 have ab:a0e 1 l W H d=a0b 1 3++a1v l d:=rfl
 rw [ab,ai]
 have HT:=hid t
 have HA:=hid hA
 clear t hA hm ai ab
 go_enter Tryz.func88,Tryz.ntmps88
 go_wp2_with fail
 refine ac.mono ?_
 rintro e w1 ⟨rfl,aj⟩
 go_wp2_with fail
 refine (a0t w1 b F bs 1 3 (h.same aj) (by omega) (by omega) (by omega)).mono ?_
 rintro e w2 ⟨rfl,F2,af,ag⟩
 have aa:=a0u.pre aj ag
 have ad:=HT.out.chg HA.out aa.chg
 have ak:=HA.out.grow HT.out.cells aa
 have al:(bs++a0b 1 3).length<68719476736:=by rw [zC,a0a];omega
 have an:0∉F2:=aa.out hp.lt h0F
 have am:=hp.chg aa.chg h0F
 have hc:=c2i w2 b F2 _ l A cap d af ad.d1 (by have:=ad.le;omega) ad.smp ad.cells ak (by omega)
 go_wp2_with fail
 refine hc.mono ?_
 rintro e w3 ⟨rfl,F3,ae,ah⟩
 go_wp2_with fail
 go_ret
 exact ⟨rfl,F3,ae,aa.trans ah⟩
theorem c7u (hm:a7a 2 l W d=true):Calls Tryz.prog 88 #[.pointer (some ⟨b,0,none⟩),.int .i64 (2:Nat),.slice A l.length cap,.int .i64 W,.int .i64 H,.int .i64 d] w (a2w w b F bs (a0e 2 l W H d)):=by
 have ad:=a9a cap t 2 (by omega)
 unfold a3l at ad
 rw [hm] at ad
 unfold a2w
 have ai:∀ X:List Nat,bs++(a0b 2 3++X)=bs++a0b 2 3++X:=fun X=>(zH _ _ _).symm
 have ac:a0e 2 l W H d=a0b 2 3++a2z l W H d:=rfl
 rw [ac,ai]
 have HT:=hid t
 have HA:=hid hA
 clear t hA hm ai ac
 go_enter Tryz.func88,Tryz.ntmps88
 go_wp2_with fail
 refine ad.mono ?_
 rintro e w1 ⟨rfl,aj⟩
 go_wp2_with fail
 refine (a0t w1 b F bs 2 3 (h.same aj) (by omega) (by omega) (by omega)).mono ?_
 rintro e w2 ⟨rfl,F2,af,ag⟩
 have aa:=a0u.pre aj ag
 have ab:=HT.out.chg HA.out aa.chg
 have al:=HA.out.grow HT.out.cells aa
 have ak:(bs++a0b 2 3).length<68719476736:=by rw [zC,a0a];omega
 have an:0∉F2:=aa.out hp.lt h0F
 have am:=hp.chg aa.chg h0F
 have hc:=c7w w2 b F2 _ l A cap W H d af ab.w0 ab.w1 ab.h0 ab.h1 ab.d0 ab.d1 ab.len ab.smp ab.cells al ak
 go_wp2_with fail
 refine hc.mono ?_
 rintro e w3 ⟨rfl,F3,ae,ah⟩
 go_wp2_with fail
 go_ret
 exact ⟨rfl,F3,ae,aa.trans ah⟩
theorem c3z (hm:a7a 3 l W d=true):Calls Tryz.prog 88 #[.pointer (some ⟨b,0,none⟩),.int .i64 (3:Nat),.slice A l.length cap,.int .i64 W,.int .i64 H,.int .i64 d] w (a2w w b F bs (a0e 3 l W H d)):=by
 have ad:=a9a cap t 3 (by omega)
 unfold a3l at ad
 rw [hm] at ad
 unfold a2w
 have ai:∀ X:List Nat,bs++(a0b 3 3++X)=bs++a0b 3 3++X:=fun X=>(zH _ _ _).symm
 have ac:a0e 3 l W H d=a0b 3 3++a1c l W d (W*H):=rfl
 rw [ac,ai]
 have HT:=hid t
 have HA:=hid hA
 clear t hA hm ai ac
 go_enter Tryz.func88,Tryz.ntmps88
 go_wp2_with fail
 refine ad.mono ?_
 rintro e w1 ⟨rfl,aj⟩
 go_wp2_with fail
 refine (a0t w1 b F bs 3 3 (h.same aj) (by omega) (by omega) (by omega)).mono ?_
 rintro e w2 ⟨rfl,F2,af,ag⟩
 have aa:=a0u.pre aj ag
 have ab:=HT.out.chg HA.out aa.chg
 have ak:=HA.out.grow HT.out.cells aa
 have al:(bs++a0b 3 3).length<68719476736:=by rw [zC,a0a];omega
 have an:0∉F2:=aa.out hp.lt h0F
 have am:=hp.chg aa.chg h0F
 have hc:=f1v w2 b F2 _ l A cap W H d af ab.w0 (by have:=ab.w1;omega) ab.h0 (by have:=ab.h1;omega) ab.d0 ab.d1 ab.len ab.smp ab.cells ak (by omega)
 go_wp2_with fail
 refine hc.mono ?_
 rintro e w3 ⟨rfl,F3,ae,ah⟩
 go_wp2_with fail
 go_ret
 exact ⟨rfl,F3,ae,aa.trans ah⟩
theorem d1m (hm:a7a 4 l W d=true):Calls Tryz.prog 88 #[.pointer (some ⟨b,0,none⟩),.int .i64 (4:Nat),.slice A l.length cap,.int .i64 W,.int .i64 H,.int .i64 d] w (a2w w b F bs (a0e 4 l W H d)):=by
 have ae:=a9a cap t 4 (by omega)
 unfold a3l at ae
 rw [hm] at ae
 unfold a2w
 have aq:∀ X:List Nat,bs++(a0b 4 3++X)=bs++a0b 4 3++X:=fun X=>(zH _ _ _).symm
 have ac:a0e 4 l W H d=a0b 4 3++c6m l W d:=rfl
 rw [ac,aq]
 have HT:=hid t
 have HA:=hid hA
 have ar:c6m l W d=a3h (a5z l (d+1) 12) W d:=rfl
 rw [ar]
 have aC:=t.d1
 clear ar
 clear t hA hm aq ac
 go_enter Tryz.func88,Tryz.ntmps88
 go_wp2_with fail
 refine ae.mono ?_
 rintro e w1 ⟨rfl,au⟩
 go_wp2_with fail
 refine (a0t w1 b F bs 4 3 (h.same au) (by omega) (by omega) (by omega)).mono ?_
 rintro e w2 ⟨rfl,F2,af,al⟩
 have aa:=a0u.pre au al
 have ab:=HT.out.chg HA.out aa.chg
 have aD:=HA.out.grow HT.out.cells aa
 have aE:(bs++a0b 4 3).length<68719476736:=by rw [zC,a0a];omega
 have ay:0∉F2:=aa.out hp.lt h0F
 have aB:=hp.chg aa.chg h0F
 have ai:=e8l l A cap (d+1) 12 w2 (by have:=ab.le;omega) ab.cells (by omega) (by omega) (by omega) (by omega)
 have aA:=b7c l (d+1) 12
 have ak:=c5h ab.smp (d+1) 12
 have e1:((d+1:Nat):Int)=(d:Int)+1:=by simp
 rw [e1] at ai
 obtain ⟨T,hT⟩:=zX (a5z l (d+1) 12)
 rw [<-hT] at ai aA ak
 have aw:=hid hT
 have ax:=hid ak
 clear hT
 have ap:=hid af.lt
 clear ak e1
 go_wp2_with fail
 refine ai.mono ?_
 rintro e w4 ⟨A',am,rfl,az,ao,aj⟩
 have av:=e8v w4 b F2 _ T A' am W d (af.same ao) (aB.same ao) ay ab.w0 (by have:=ab.w1;omega) ab.d0 ab.d1 (by have:=ab.le;omega) ax.out az (fun ad e hm=>by have:=aj ad e;have:=ap.out _ hm;omega) (by omega)
 clear ai
 go_wp2_with fail
 refine av.mono ?_
 rintro e w3 ⟨rfl,F3,ag,ah⟩
 have an:=a0u.pre ao ah
 rw [aw.out] at ag
 go_wp2_with fail
 go_ret
 exact ⟨rfl,F3,ag,aa.trans an⟩
theorem d1n (hm:a7a 5 l W d=true):Calls Tryz.prog 88 #[.pointer (some ⟨b,0,none⟩),.int .i64 (5:Nat),.slice A l.length cap,.int .i64 W,.int .i64 H,.int .i64 d] w (a2w w b F bs (a0e 5 l W H d)):=by
 have ad:=a9a cap t 5 (by omega)
 unfold a3l at ad
 rw [hm] at ad
 unfold a2w
 have ai:∀ X:List Nat,bs++(a0b 5 3++X)=bs++a0b 5 3++X:=fun X=>(zH _ _ _).symm
 have ac:a0e 5 l W H d=a0b 5 3++a3w l W d:=rfl
 rw [ac,ai]
 have HT:=hid t
 have HA:=hid hA
 clear t hA hm ai ac
 go_enter Tryz.func88,Tryz.ntmps88
 go_wp2_with fail
 refine ad.mono ?_
 rintro e w1 ⟨rfl,aj⟩
 go_wp2_with fail
 refine (a0t w1 b F bs 5 3 (h.same aj) (by omega) (by omega) (by omega)).mono ?_
 rintro e w2 ⟨rfl,F2,af,ag⟩
 have aa:=a0u.pre aj ag
 have ab:=HT.out.chg HA.out aa.chg
 have al:=HA.out.grow HT.out.cells aa
 have ak:(bs++a0b 5 3).length<68719476736:=by rw [zC,a0a];omega
 have an:0∉F2:=aa.out hp.lt h0F
 have am:=hp.chg aa.chg h0F
 have hc:=d1o w2 b F2 _ l A cap W d af ab.w0 ab.w1 ab.d0 ab.d1 ab.le ab.leW ab.smp ab.cells al ak
 go_wp2_with fail
 refine hc.mono ?_
 rintro e w3 ⟨rfl,F3,ae,ah⟩
 go_wp2_with fail
 go_ret
 exact ⟨rfl,F3,ae,aa.trans ah⟩
theorem c3y (hm:a7a 6 l W d=true):Calls Tryz.prog 88 #[.pointer (some ⟨b,0,none⟩),.int .i64 (6:Nat),.slice A l.length cap,.int .i64 W,.int .i64 H,.int .i64 d] w (a2w w b F bs (a0e 6 l W H d)):=by
 have ac:=a9a cap t 6 (by omega)
 unfold a3l at ac
 rw [hm] at ac
 have ae:(a2g l).length<=16:=by
  unfold a7a at hm
  rw [if_neg (by omega),if_neg (by omega),if_pos rfl] at hm
  exact of_decide_eq_true hm
 unfold a2w
 have aj:∀ X:List Nat,bs++(a0b 6 3++X)=bs++a0b 6 3++X:=fun X=>(zH _ _ _).symm
 have ab:a0e 6 l W H d=a0b 6 3++a2r l d:=rfl
 rw [ab,aj]
 have HT:=hid t
 have HA:=hid hA
 have HK:=hid ae
 clear ae
 clear t hA hm aj ab
 go_enter Tryz.func88,Tryz.ntmps88
 go_wp2_with fail
 refine ac.mono ?_
 rintro e w1 ⟨rfl,ak⟩
 go_wp2_with fail
 refine (a0t w1 b F bs 6 3 (h.same ak) (by omega) (by omega) (by omega)).mono ?_
 rintro e w2 ⟨rfl,F2,ag,ah⟩
 have aa:=a0u.pre ak ah
 have ad:=HT.out.chg HA.out aa.chg
 have am:=HA.out.grow HT.out.cells aa
 have al:(bs++a0b 6 3).length<68719476736:=by rw [zC,a0a];omega
 have ao:0∉F2:=aa.out hp.lt h0F
 have an:=hp.chg aa.chg h0F
 have hc:=c4b w2 b F2 _ l A cap d ag ad.d0 ad.d1 ad.pos ad.le ad.smp ad.cells am HK.out al
 go_wp2_with fail
 refine hc.mono ?_
 rintro e w3 ⟨rfl,F3,af,ai⟩
 go_wp2_with fail
 go_ret
 exact ⟨rfl,F3,af,aa.trans ai⟩
theorem c4a (hm:a7a 7 l W d=true):Calls Tryz.prog 88 #[.pointer (some ⟨b,0,none⟩),.int .i64 (7:Nat),.slice A l.length cap,.int .i64 W,.int .i64 H,.int .i64 d] w (a2w w b F bs (a0e 7 l W H d)):=by
 have ae:=a9a cap t 7 (by omega)
 unfold a3l at ae
 rw [hm] at ae
 have ac:b3k (a1w l W d)<256:=by
  unfold a7a at hm
  rw [if_neg (by omega),if_neg (by omega),if_neg (by omega),if_pos rfl] at hm
  exact of_decide_eq_true hm
 unfold a2w
 have aj:∀ X:List Nat,bs++(a0b 7 3++X)=bs++a0b 7 3++X:=fun X=>(zH _ _ _).symm
 have ad:a0e 7 l W H d=a0b 7 3++a6h l W d:=rfl
 rw [ad,aj]
 have HT:=hid t
 have HA:=hid hA
 have HK:=hid ac
 clear ac
 clear t hA hm aj ad
 go_enter Tryz.func88,Tryz.ntmps88
 go_wp2_with fail
 refine ae.mono ?_
 rintro e w1 ⟨rfl,ak⟩
 go_wp2_with fail
 refine (a0t w1 b F bs 7 3 (h.same ak) (by omega) (by omega) (by omega)).mono ?_
 rintro e w2 ⟨rfl,F2,ag,ah⟩
 have aa:=a0u.pre ak ah
 have ab:=HT.out.chg HA.out aa.chg
 have am:=HA.out.grow HT.out.cells aa
 have al:(bs++a0b 7 3).length<68719476736:=by rw [zC,a0a];omega
 have ao:0∉F2:=aa.out hp.lt h0F
 have an:=hp.chg aa.chg h0F
 have hc:=c4c w2 b F2 _ l A cap W d ag ab.w0 ab.w1 ab.d0 ab.d1 ab.pos ab.le ab.leW ab.smp ab.cells am HK.out al
 go_wp2_with fail
 refine hc.mono ?_
 rintro e w3 ⟨rfl,F3,af,ai⟩
 go_wp2_with fail
 go_ret
 exact ⟨rfl,F3,af,aa.trans ai⟩
theorem c2j (k:Nat) (hk:k<=7) (hm:a7a k l W d=true):Calls Tryz.prog 88 #[.pointer (some ⟨b,0,none⟩),.int .i64 k,.slice A l.length cap,.int .i64 W,.int .i64 H,.int .i64 d] w (a2w w b F bs (a0e k l W H d)):=by
 rcases (by omega:k=0\/k=1\/k=2\/k=3\/k=4\/k=5\/k=6\/k=7) with rfl | rfl | rfl | rfl | rfl | rfl | rfl | rfl
 ·exact e0f cap t b F bs h hA hp h0F hbs hm
 ·exact d4h cap t b F bs h hA hp h0F hbs hm
 ·exact c7u cap t b F bs h hA hp h0F hbs hm
 ·exact c3z cap t b F bs h hA hp h0F hbs hm
 ·exact d1m cap t b F bs h hA hp h0F hbs hm
 ·exact d1n cap t b F bs h hA hp h0F hbs hm
 ·exact c3y cap t b F bs h hA hp h0F hbs hm
 ·exact c4a cap t b F bs h hA hp h0F hbs hm
end
def b3w (k:Nat) (l:List Int) (W H d:Nat):Nat:=(a0e k l W H d).length
theorem e1s (k:Nat) (l:List Int) (W H d:Nat):3<=b3w k l W H d:=by
 unfold b3w a0e
 rw [zC,a0a]
 omega
def a7b (l:List Int) (W H d:Nat):Nat->Nat × Nat
 | 0=>(1,0)
 | m+1=>if a7a m l W d=true/\((a7b l W H d m).2=0\/b3w m l W H d<(a7b l W H d m).2) then (m,b3w m l W H d) else a7b l W H d m
def a5n (l:List Int) (W H d:Nat):Nat:=(a7b l W H d 8).1
theorem e8n (l:List Int) (W d:Nat):a7a 1 l W d=true:=by unfold a7a;rw [if_neg (by omega),if_pos (by omega)]
theorem d7e (l:List Int) (W H d:Nat):∀ m,((a7b l W H d m).2=0->(a7b l W H d m).1=1/\∀ k,k<m->a7a k l W d=false)/\((a7b l W H d m).2≠0->(a7b l W H d m).1<m/\a7a (a7b l W H d m).1 l W d=true/\(a7b l W H d m).2=b3w (a7b l W H d m).1 l W H d/\∀ k,k<m->a7a k l W d=true->(a7b l W H d m).2<=b3w k l W H d)
 | 0=>⟨fun _=>⟨rfl,fun k h=>by omega⟩,fun h=>absurd rfl h⟩
 | m+1=>by
  obtain ⟨h1,h2⟩:=d7e l W H d m
  have hp:=e1s m l W H d
  unfold a7b
  generalize a7b l W H d m=s at *
  by_cases hc:a7a m l W d=true/\(s.2=0\/b3w m l W H d<s.2)
  ·rw [if_pos hc]
   refine ⟨fun h=>by simp only at h;omega,fun _=>⟨by simp only;omega,hc.1,rfl,fun k hk hm => ?_⟩⟩
   simp only
   by_cases e:k=m
   ·rw [e];exact zQ _
   ·rcases hc.2 with h3 | h3
    ·have:=(h1 h3).2 k (by omega)
     rw [hm] at this
     cases this
    ·have:=(h2 (by omega)).2.2.2 k (by omega) hm
     omega
  ·rw [if_neg hc]
   refine ⟨fun h=>⟨(h1 h).1,fun k hk => ?_⟩,fun h => ?_⟩
   ·by_cases e:k=m
    ·subst e
     cases hm:a7a k l W d with
     | false=>rfl
     | true=>exact absurd ⟨hm,.inl h⟩ hc
    ·exact (h1 h).2 k (by omega)
   ·obtain ⟨k1,k2,k3,k4⟩:=h2 h
    refine ⟨by omega,k2,k3,fun k hk hm => ?_⟩
    by_cases e:k=m
    ·subst e
     have:¬ b3w k l W H d<s.2:=fun h5=>hc ⟨hm,.inr h5⟩
     omega
    ·exact k4 k (by omega) hm
theorem b3r (l:List Int) (W H d:Nat):a5n l W H d<=7/\a7a (a5n l W H d) l W d=true/\∀ k,k<=7->a7a k l W d=true->b3w (a5n l W H d) l W H d<=b3w k l W H d:=by
 obtain ⟨h1,h2⟩:=d7e l W H d 8
 have aa:(a7b l W H d 8).2≠0:=fun h=>by
  have:=(h1 h).2 1 (by omega)
  rw [e8n] at this
  cases this
 obtain ⟨k1,k2,k3,k4⟩:=h2 aa
 unfold a5n
 exact ⟨by omega,k2,fun k hk hm=>by rw [<-k3];exact k4 k (by omega) hm⟩
section
variable {w:World} {l:List Int} {A:Option Addr} {W H d:Nat} (cap:Nat) (t:c9d w l A W H d) (hp:Pts w)
include t hp
theorem f1h (k:Nat) (hk:k<=7) (hm:a7a k l W d=true):Calls Tryz.prog 87 #[.int .i64 k,.slice A l.length cap,.int .i64 W,.int .i64 H,.int .i64 d] w fun e w'=>e=.returned (.int .i64 (b3w k l W H d))/\Chg [] w w':=by
 obtain ⟨w1,aa⟩:=zX (w.alloc (.cells #[.slice none 0 0,.int .i64 0] 89))
 obtain ⟨B,hB⟩:=zX (w.heap.size)
 have ag:a2n w1 B [B] []:=by rw [aa,hB];exact a2n.new w
 have ad:Chg [] w w1:=by rw [aa];exact (zR [] w).alloc _
 have ai:=hp.lt
 have ah:Apt A l [B]:=Apt.fresh t.cells (F:=[B]) (by rw [hB];simp)
 have ae:=c2j cap (t.same ad) B [B] [] ag ah (hp.same ad) (by simp;omega) (by simp) k hk hm
 have af:b3w k l W H d=(a0e k l W H d).length:=rfl
 rw [af]
 unfold a2w at ae
 rw [List.nil_append] at ae
 generalize a0e k l W H d=ts at *
 have HB:Hid (∀ x∈[B],w.heap.size<=x):=hid (by intro x hx;rw [zU.1 hx,hB];exact zQ _)
 have aj:=hid aa
 have al:=hid hB
 clear t hp hm hk aa hB ag ah af ai
 go_enter Tryz.func87,Tryz.ntmps87
 go_wp2_with fail
 rw [<-aj.out,<-al.out]
 refine ae.mono ?_
 rintro e w2 ⟨rfl,F2,ab,ac⟩
 have ak:=c8t w2 B F2 ts ab
 go_wp2_with fail
 refine ak.mono ?_
 rintro e w' ⟨rfl,rfl⟩
 go_wp2
 go_ret
 exact ⟨rfl,ac.fresh HB.out ad⟩
variable (b:Nat) (F bs:List Nat) (h:a2n w b F bs) (hA:Apt A l F) (h0F:0∉F) (hbs:bs.length<34359738368)
include h hA h0F hbs
theorem f3a:Calls Tryz.prog 48 #[.pointer (some ⟨b,0,none⟩),.slice A l.length cap,.int .i64 W,.int .i64 H,.int .i64 d] w (a2w w b F bs (a0e (a5n l W H d) l W H d)):=by
 have ay:=a9s l A cap W H d w t.w0 t.w1 t.h0 t.h1 t.d0 t.d1 t.len t.smp t.cells
 have HT:=hid t
 have HP:=hid hp
 have HH:=hid h
 have HA:=hid hA
 have ad:=fun k (hk:k<=7) w' (hc:Chg [] w w')=>a9a cap (t.same hc) k hk
 have ac:=fun k (hk:k<=7) (hm:a7a k l W d=true) w' (hc:Chg [] w w')=>f1h cap (t.same hc) (hp.same hc) k hk hm
 have ab:=b3r l W H d
 have af:=fun w' (hc:Chg [] w w')=>c2j cap (t.same hc) b F bs (h.same hc) hA (hp.same hc) h0F hbs (a5n l W H d) ab.1 ab.2.1
 unfold a3l at ad
 unfold a2w at af ⊢
 have aj:a5n l W H d=(a7b l W H d 8).1:=rfl
 generalize a0e (a5n l W H d) l W H d=ts at *
 have HM:=hid ad
 have HC:=hid ac
 have az:=hid af
 have aB:=hid aj
 clear ad ac af ab aj t hp h hA
 go_enter Tryz.func48,Tryz.ntmps48
 go_wp2_with (go_at_call 85;refine ay.mono ?_;rintro e w' ⟨rfl,rfl⟩)
 go_loopg [11,12,13,14,21] 8 (fun j vb vl vk vc iv wr=>∃ (m bk lk:Nat),iv=.int .i64 m/\vb=.int .i64 bk/\vl=.int .i64 lk/\m+j=8/\Hid (a7b l W H d m=(bk,lk))/\Chg [] w wr)
 case atStart=>exact ⟨0,1,0,rfl,rfl,rfl,rfl,hid rfl,zR _ _⟩
 case round =>
  obtain ⟨m,bk,lk,rfl,rfl,rfl,aD,HK,ai⟩:=hrel
  rcases gk with _ | j
  ·obtain rfl:m=8:=by omega
   have ax:=az.out wr ai
   have aj:=aB.out
   rw [HK.out] at aj
   have ak:a5n l W H d=bk:=aj
   rw [ak] at ax
   clear aj ak
   go_wp2_with fail
   refine ax.mono ?_
   rintro e w2 ⟨rfl,F2,ap,ar⟩
   go_wp2
   go_ret
   exact ⟨rfl,F2,ap,a0u.pre ai ar⟩
  ·have aw:m<=7:=by omega
   have al:=HM.out m aw wr ai
   have au:=HC.out m aw
   have aa:a7b l W H d (m+1)=if a7a m l W d=true/\((a7b l W H d m).2=0\/b3w m l W H d<(a7b l W H d m).2) then (m,b3w m l W H d) else a7b l W H d m:=rfl
   rw [HK.out] at aa
   simp only at aa
   have an:=hid aa
   have aC:(0:Int)<=(m:Int):=by omega
   clear aa
   cases hmb:a7a m l W d with
   | false =>
    rw [hmb] at al
    have ag:Hid (a7b l W H d (m+1)=(bk,lk)):=hid (by rw [an.out,if_neg (by rw [hmb];simp)])
    have aq:=hid hmb
    clear hmb au
    go_wp2_with fail
    refine al.mono ?_
    rintro e w1 ⟨rfl,ao⟩
    go_wp2_with fail
    go_roundg j
    case measure=>omega
    case rel=>exact ⟨m+1,bk,lk,by go_num,rfl,rfl,by omega,ag,ai.tq ao⟩
   | true =>
    rw [hmb] at al
    have ah:=au hmb
    obtain ⟨c,hc⟩:=zX (b3w m l W H d)
    rw [<-hc] at ah
    have am:=hid hc
    have aq:=hid hmb
    clear hmb au hc
    go_wp2_with fail
    refine al.mono ?_
    rintro e w1 ⟨rfl,ao⟩
    have av:=ah w1 (ai.tq ao)
    clear al ah
    go_wp2_with fail
    refine av.mono ?_
    rintro e w2 ⟨rfl,aA⟩
    have ae:=(ai.tq ao).tq aA
    clear av
    by_cases hl0:lk=0
    ·have t1:((lk:Int)==0)=true:=by rw [beq_iff_eq];omega
     have ag:Hid (a7b l W H d (m+1)=(m,c)):=hid (by rw [an.out,if_pos ⟨aq.out,.inl hl0⟩,am.out])
     clear hl0
     go_wp2_with fail
     go_roundg j
     case measure=>omega
     case rel=>exact ⟨m+1,m,c,by go_num,rfl,rfl,by omega,ag,ae⟩
    ·have t1:((lk:Int)==0)=false:=by rw [beq_eq_false_iff_ne];omega
     by_cases hlt:c<lk
     ·have t2:decide (c<lk)=true:=zB hlt
      have ag:Hid (a7b l W H d (m+1)=(m,c)):=hid (by rw [an.out,if_pos ⟨aq.out,.inr (by rw [<-am.out];exact hlt)⟩,am.out])
      clear hl0 hlt
      go_wp2_with fail
      go_roundg j
      case measure=>omega
      case rel=>exact ⟨m+1,m,c,by go_num,rfl,rfl,by omega,ag,ae⟩
     ·have t2:decide (c<lk)=false:=zA hlt
      have ag:Hid (a7b l W H d (m+1)=(bk,lk)):=hid (by rw [an.out,if_neg (by rw [<-am.out];intro h;rcases h.2 with h | h<;>omega)])
      clear hl0 hlt
      go_wp2_with fail
      go_roundg j
      case measure=>omega
      case rel=>exact ⟨m+1,bk,lk,by go_num,rfl,rfl,by omega,ag,ae⟩
end
def c9b (x:Int):Prop:=-9223372036854775808<=x/\x<=9223372036854775807
def a9f (x lo hi:Int):Int:=if lo<=x/\x<=hi then x else if x.tmod (hi-lo+1)<0 then lo+(x.tmod (hi-lo+1)+hi-lo+1) else lo+x.tmod (hi-lo+1)
theorem d2e (x:Int) {lo hi:Int} (h:lo<=hi):lo<=a9f x lo hi/\a9f x lo hi<=hi:=by
 unfold a9f
 have h1:=Int.tmod_lt_of_pos x (show 0<hi-lo+1 by omega)
 have h2:=Int.lt_tmod_of_pos x (show 0<hi-lo+1 by omega)
 split
 ·assumption
 ·split<;>omega
theorem d2f (x lo hi:Int) (w:World) (hx:c9b x) (h0 : -1099511627776<=lo) (h1:lo<=hi) (h2:hi<=1099511627776) :
  Calls Tryz.prog 11 #[.int .i64 x,.int .i64 lo,.int .i64 hi] w fun e w'=>e=.returned (.int .i64 (a9f x lo hi))/\w=w':=by
 obtain ⟨ad,ab⟩:=hx
 by_cases hin:lo<=x/\x<=hi
 ·have t1:decide (lo<=x)=true:=zB hin.1
  have t2:decide (x<=hi)=true:=zB hin.2
  have e:a9f x lo hi=x:=by unfold a9f;rw [if_pos hin]
  rw [e]
  clear hin h0 h1 h2 ad ab e
  go_enter Tryz.func11,Tryz.ntmps11
  go_wp2
  go_ret
  exact ⟨rfl,rfl⟩
 ·have hw:a9f x lo hi=if x.tmod (hi-lo+1)<0 then lo+(x.tmod (hi-lo+1)+hi-lo+1) else lo+x.tmod (hi-lo+1):=by unfold a9f;rw [if_neg hin]
  obtain ⟨m,hm⟩:=zX (hi-lo+1)
  have aa:0<m:=by omega
  rw [<-hm] at hw
  obtain ⟨q,hq⟩:=zX (x.tmod m)
  have af:q<m:=by rw [hq];exact Int.tmod_lt_of_pos x aa
  have ag : -m<q:=by rw [hq];exact Int.lt_tmod_of_pos x aa
  rw [<-hq] at hw
  have e1:hi-lo+1=m:=hm.symm
  have e2:x.tmod m=q:=hq.symm
  have ac:m≠0:=by omega
  rw [hw]
  clear hm hq hw
  have ae:∀ b1 b2,decide (lo<=x)=b1->decide (x<=hi)=b2->(b1&&b2)=false->Calls Tryz.prog 11 #[.int .i64 x,.int .i64 lo,.int .i64 hi] w fun e w'=>e=.returned (.int .i64 (if q<0 then lo+(q+hi-lo+1) else lo+q))/\w=w':=by
   intro b1 b2 t1 t2 hb
   by_cases hneg:q<0
   ·have t3:decide (q<0)=true:=zB hneg
    rw [if_pos hneg]
    cases b1<;>cases b2<;>simp at hb
    all_goals
     clear hin
     go_enter Tryz.func11,Tryz.ntmps11
     go_wp2
     go_ret
     exact ⟨rfl,rfl⟩
   ·have t3:decide (q<0)=false:=zA hneg
    rw [if_neg hneg]
    cases b1<;>cases b2<;>simp at hb
    all_goals
     clear hin
     go_enter Tryz.func11,Tryz.ntmps11
     go_wp2
     go_ret
     exact ⟨rfl,rfl⟩
  refine ae _ _ rfl rfl ?_
  cases h:(decide (lo<=x)&&decide (x<=hi)) with
  | false=>rfl
  | true =>
   rw [Bool.and_eq_true,decide_eq_true_eq,decide_eq_true_eq] at h
   exact absurd h hin
structure b9r (w:World) (b:Nat) (A:Option Addr) (cap:Nat) (L:List Int) (at_:Nat):Prop where
 blk:Blk w b 82 #[.slice A L.length cap,.int .i64 at_]
 cells:a0d vi w A L
 apt:Apt A L [b]
 in64:∀ x∈L,c9b x
 at_le:at_<=L.length
 len:L.length<=9223372036854775807
theorem b9r.same {w w':World} {b cap at_:Nat} {A:Option Addr} {L:List Int} (h:b9r w b A cap L at_) {F:List Nat} (hc:Chg F w w') (hb:b∉F) (hA:Apt A L F):b9r w' b A cap L at_ :=
 { h with blk:=h.blk.chg hc hb,cells:=h.cells.keep hA hc }
theorem e6c {w:World} {b cap at_:Nat} {A:Option Addr} {L:List Int} (h:b9r w b A cap L at_) (hlt:at_<L.length) (n1 n2:Nat) :
  b9r (((w.drewN n1).setCell ⟨b,1,none⟩ (.int .i64 ((at_:Int)+1))).drewN n2) b A cap L (at_+1)/\Chg [b] w (((w.drewN n1).setCell ⟨b,1,none⟩ (.int .i64 ((at_:Int)+1))).drewN n2):=by
 have aa:Chg [b] w (((w.drewN n1).setCell ⟨b,1,none⟩ (.int .i64 ((at_:Int)+1))).drewN n2):=(((zR [b] w).drewN n1).setCell (p:=⟨b,1,none⟩) (.inl (by simp)) (.int .i64 ((at_:Int)+1))).drewN n2
 have ab:=((h.blk.drewN n1).set_ 1 (.int .i64 ((at_:Int)+1))).drewN n2
 have e:((at_+1:Nat):Int)=(at_:Int)+1:=by simp
 refine ⟨⟨?_,h.cells.keep h.apt aa,h.apt,h.in64,hlt,h.len⟩,aa⟩
 rw [e]
 simpa using ab
theorem b7d (w:World) (b cap at_ n:Nat) (A:Option Addr) (L:List Int) (h:b9r w b A cap L at_) (hn0:1<=n) (hn1:n<=1073741824) :
  Calls Tryz.prog 39 #[.pointer (some ⟨b,0,none⟩),.int .i64 n] w fun e w'=>∃ v at':Nat,e=.returned (.int .i64 v)/\v<n/\b9r w' b A cap L at'/\Chg [b] w w':=by
 have b0:=h.blk.cell 0
 have b1:=h.blk.cell 1
 simp at b0 b1
 have HH:=hid h
 obtain ⟨m,hm⟩:=zX (L.length)
 rw [<-hm] at b0
 have t2:decide ((n:Int)<1)=false:=zA (by omega)
 by_cases hend:at_=m
 ·have t1:decide ((m:Int)<=(at_:Int))=true:=zB (by omega)
  have ai:decide (m<=at_)=true:=zB (by omega)
  clear h hm hend
  go_enter Tryz.func39,Tryz.ntmps39
  go_wp2
  go_quiet (fail)
  go_wp2
  go_ret
  exact ⟨0,at_,rfl,by omega,HH.out.same ((zR [] w).drewN nq) (by simp) (fun _ _ _=>by simp),(zR [b] w).drewN nq⟩
 ·have ag:at_<m:=by have:=h.at_le;omega
  have ad:at_<L.length:=by rw [<-hm];exact ag
  have t1:decide ((m:Int)<=(at_:Int))=false:=zA (by omega)
  have ai:decide (m<=at_)=false:=zA (by omega)
  obtain ⟨g,o,rfl,cl⟩:=h.cells.at_ ad
  have ab:=h.in64 L[at_] (zG _)
  have an:g≠b:=by
   have:=h.apt (by omega) _ rfl
   simpa using this
  obtain ⟨x,hx⟩:=zX (L[at_])
  rw [<-hx] at cl ab
  have ae:=fun w=>d2f x 0 1073741824 w ab (by omega) (by omega) (by omega)
  have af:=d2e x (show (0:Int)<=1073741824 by omega)
  obtain ⟨y,hy⟩:=zX (a9f x 0 1073741824)
  rw [<-hy] at ae af
  obtain ⟨k,hk⟩:∃ k:Nat,(k:Int)=y:=⟨y.toNat,Int.toNat_of_nonneg af.1⟩
  rw [<-hk] at ae af
  have ac:k%n<n:=Nat.mod_lt _ (by omega)
  have hbs:=h.blk.set_ 1 (.int .i64 ((at_:Int)+1))
  have al:=h.len
  have f1:=h.blk.frozen 1
  have ar:w.cell? ⟨g,o+at_,none⟩=some (.int .i64 x):=cl
  have ak:(k:Int).tmod (n:Int)=((k%n:Nat):Int):=by rw [Int.tmod_eq_emod_of_nonneg (by omega)];simp
  have ah:(n:Int)≠0:=by omega
  obtain ⟨r,hr⟩:=zX (k%n)
  rw [<-hr] at ak ac
  have aj:=hid ac
  have aq:(0:Int)<=(at_:Int):=by omega
  have ao:(at_:Int)<(m:Int):=by omega
  have am:(at_:Int)+1-1=(at_:Int):=by omega
  have HM:=hid hm
  have ap:=hid hbs
  clear h hm hend cl hy hk hr ac hx hbs
  go_enter Tryz.func39,Tryz.ntmps39
  go_wp2
  go_quiet (fail)
  go_wp2
  go_quiet ((go_at_call 11;exact b3c (ae _)))
  go_wp2
  go_ret
  have e:((at_+1:Nat):Int)=(at_:Int)+1:=by simp
  have aa:at_<L.length:=by rw [<-HM.out];exact ag
  exact ⟨r,at_+1,rfl,aj.out,(e6c HH.out aa _ _).1,(e6c HH.out aa _ _).2⟩
theorem d8c (x:Int) (l:List Int) (n:Nat):a1v (x::l) n=a0b x.toNat n++a1v l n:=rfl
theorem d2r (l:List Int) (n:Nat) {m:Nat} (hm:m<l.length):a1v (l.drop m) n=a0b (l[m]).toNat n++a1v (l.drop (m+1)) n:=by
 rw [List.drop_eq_getElem_cons hm,d8c]
theorem b5k (w:World) (b:Nat) (F ds:List Nat) (p d:Nat) (l:List Int) (h:a1r w b F ds p) (hd:d<=16) (hs:a1u d l) (hl:l.length<=4096) (ha:a0y ds p (a1v l d)) :
  Calls Tryz.prog 177 #[.pointer (some ⟨b,0,none⟩),.int .i64 l.length,.int .i64 d] w fun e w'=>∃ v g,e=.returned v/\Row w' 3 v g (l.map vi)/\a1r w' b F ds (p+(a1v l d).length)/\Chg [b] w w'/\w.heap.size<=g:=by
 have HS:=hid hs
 have HA:=hid ha
 have aL:=h.lt b h.mem
 have aw:=h.lt
 obtain ⟨n,hn⟩:=zX (l.length)
 rw [<-hn] at hl ⊢
 have aN:=a1p (P:=Tryz.prog) a0p rfl .i64 .i64 n (by omega) (by omega)
 have HN:=hid hn
 have ac:=Row.zeros w n (by omega)
 obtain ⟨B,hB⟩:=zX (w.heap.size)
 have an:Chg [] w (w.alloc (.cells (List.replicate n (Value.int .i64 0)).toArray 3)):=(zR [] w).alloc _
 have ag:=h.same an
 have aE:b≠B:=by omega
 have aF:Hid (∀ y∈F,y∉[B]):=hid (fun y hy hm=>by have:=aw y hy;simp at hm;omega)
 rw [<-hB] at ac
 have HB:=hid hB
 clear hn hs ha hB h aw
 go_enter Tryz.func177,Tryz.ntmps177
 go_wp2_with fail
 rw [<-HB.out]
 go_loopg [13] n (fun j iv wr=>∃ (done:List Int) (p':Nat),iv=.int .i64 done.length/\done.length+j=n/\Hid (done=l.take done.length)/\Row wr 3 (.slice (some ⟨B,0,none⟩) n n) B ((a1a done n).map vi)/\a1r wr b F ds p'/\Hid (a0y ds p' (a1v (l.drop done.length) d))/\Hid (p'+(a1v (l.drop done.length) d).length=p+(a1v l d).length)/\Hid (Chg [b] w wr))
 case atStart=>exact ⟨[],p,rfl,by simp,hid (by simp),ac,ag,by simpa using HA,hid (by simp),hid (an.mono (by simp))⟩
 case round =>
  clear ac an ag
  obtain ⟨done,p',rfl,au,Hd,ae,al,Ha,Hp,ax⟩:=hrel
  obtain ⟨m,hm⟩:=zX (done.length)
  rcases gk with _ | j
  ·rw [<-hm] at au Ha Hp ⊢
   obtain rfl:m=n:=by omega
   have t1:decide ((m:Int)<(m:Int))=false:=by simp
   have HM:=hid hm
   clear hm au
   go_wp2
   go_ret
   have e:done=l:=by rw [Hd.out,<-HM.out,HN.out,zN]
   have e2:l.drop m=[]:=by rw [HN.out,List.drop_length]
   have hp:=Hp.out
   rw [e2] at hp
   rw [a7l HM.out.symm,e] at ae
   exact ⟨_,B,rfl,ae,al.cast (by simpa [a1v] using hp),ax.out,by have:=HB.out;omega⟩
  ·have aj:m<l.length:=by rw [<-HN.out];omega
   have ai:=d2r l d aj
   have ar:=a0o l aj
   obtain ⟨x,hx⟩:=zX (l[m])
   have aq:=HS.out l[m] (zG _)
   rw [<-hx] at ai aq ar
   obtain ⟨X,hX⟩:∃ X:Nat,X=x.toNat:=⟨_,rfl⟩
   have am:x=(X:Int):=by omega
   have ak:=Ha.out
   rw [<-hm,ai,<-hX] at ak
   have ap:X<2^d:=by
    have e:(2:Int)^d=((2^d:Nat):Int):=by simp
    have:=aq.2
    rw [e,am] at this
    omega
   have az:X<65536:=Nat.lt_of_lt_of_le ap (show 2^d<=2^16 from Nat.pow_le_pow_right (by decide) hd)
   have ah:=a0j wr b F ds p' d X al (by omega) ap ak.left
   have aB:=hid ak.right
   have aA:=hid ai
   have aI:=hid ar
   have HX:=hid hX
   have aD:=hid am
   have ao:=hid ae
   have aM:=hid aj
   have HM:=hid hm
   have aG:m+(j+1)=n:=by omega
   rw [<-hm]
   clear aj ai ar hx aq ak ap hX am al ae hm au
   go_wp2_with fail
   refine ah.mono ?_
   rintro e w1 ⟨rfl,aH,ay⟩
   have ad:=ao.out.chg ay (by simpa using aE.symm)
   obtain ⟨aC,aJ⟩:=ad.fill_cell (by have:=HM.out;omega)
   have aa:=ad.fill (by have:=HM.out;omega) (X:Int)
   rw [<-HM.out] at aC aJ aa
   have aK:=hid aa
   have av:(a1a done n).length=n:=a4g (by have:=HM.out;omega)
   clear ah ad aa
   go_wp2
   go_roundg j
   case measure=>omega
   case rel =>
    have af:Chg [B] w1 (w1.setCell ⟨B,m,none⟩ (.int .i64 X)):=(zR _ _).setCell (.inl (by simp)) _
    have ab:(done++[(X:Int)]).length=m+1:=by rw [zC,List.length_singleton,<-HM.out]
    refine ⟨done++[(X:Int)],p'+d,by rw [ab];go_num,by rw [ab];omega,?_,aK.out,aH.chg af aF.out,?_,?_,?_⟩
    ·rw [ab,aI.out,aD.out]
     have:=Hd.out
     rw [<-HM.out] at this
     rw [<-this]
     exact hid rfl
    ·rw [ab]
     have:=aB.out
     rw [a0a] at this
     exact hid this
    ·rw [ab]
     have h1:=Hp.out
     have h2:=aA.out
     rw [<-HM.out,h2,zC,a0a] at h1
     exact hid (by omega)
    ·exact hid ((ax.out.tq ay).trans af fun y hy => .inr (by have:=HB.out;simp at hy;omega))
theorem d2q (x:Int) (l:List Int) (n:Nat):a1v (x::l) n=a0b x.toNat n++a1v l n:=rfl
theorem c6c (l:List Int) (n:Nat):(a1v l n).length=n*l.length:=by
 induction l with
 | nil=>rfl
 | cons x l ih=>rw [d2q,zC,a0a,ih,zK,Nat.mul_add];omega
theorem d9p {l:List Nat} {B:Nat} (h:∀ x∈l,x<=B):b3k l<=B:=by
 unfold b3k
 suffices H:∀ (l:List Nat) (m:Nat),m<=B->(∀ x∈l,x<=B)->l.foldl max m<=B from H l 0 (Nat.zero_le _) h
 intro l
 induction l with
 | nil=>intro m hm _;exact hm
 | cons x l ih=>intro m hm hl;exact ih _ (by have := hl x (by simp);omega) (fun y hy=>hl y (by simp [hy]))
theorem c6y (w:World) (b:Nat) (F ds:List Nat) (p:Nat) (l:List Int) (W H d:Nat) (h:a1r w b F ds p) (hw0:1<=W) (hw1:W<=16) (hh0:1<=H) (hh1:H<=16) (h0:1<=d) (h1:d<=16) (hl:l.length=W*H) (hs:a1u d l) (ha:a0y ds p (a2z l W H d)) :
  Calls Tryz.prog 178 #[.pointer (some ⟨b,0,none⟩),.int .i64 W,.int .i64 H,.int .i64 d] w fun e w'=>∃ v g,e=.returned (.tuple #[v,.int .i64 0])/\Row w' 3 v g (l.map vi)/\a1r w' b F ds (p+(a2z l W H d).length)/\Chg [b] w w'/\w.heap.size<=g:=by
 have bc:a2z l W H d=a1v (a6p l W H d) 4++a7j (a8w l W H d) (W*H):=rfl
 rw [bc] at ha ⊢
 rw [zC]
 have br:=d0u l W H d
 have ar:=b7a l W H d
 have bk:=d0t l W H d
 have aq:=fun hr=>b5k w b F ds p 4 (a6p l W H d) hr (by omega) bk (by rw [ar];omega) ha.left
 have aR:=ha.right
 have aC:=c0u l W H d
 have bm:=b6v l W H d h0 h1
 obtain ⟨m,hm⟩:=zX (W*H)
 have bC:1<=m:=by rw [hm];exact Nat.mul_pos hw0 hh0
 have bp:m<=256:=by rw [hm];exact zL hw1 hh1
 have bO:(W:Int)*(H:Int)=(m:Int):=by rw [hm];simp
 have aV:a8w l W H d=(b3y l W H d (a0s l W H d)).map fun v=>a1b v d:=rfl
 have aD:=e2o l W H d (a0s l W H d)
 rw [<-aV] at aD
 have a6:=d5w l W H d (a0s l W H d)
 have aW:=c0v l W H d (a0s l W H d)
 have a7:=fun y x (hy:y<H) (hx:x<W)=>e7n l d (a0s l W H d) hy hx
 have aN:∀ x∈a8w l W H d,a1b x d=x:=fun x hx=>by
  rw [aV] at hx
  obtain ⟨v,_,rfl⟩:=List.mem_map.1 hx
  obtain ⟨r0,r1⟩:=a2s v h0
  exact d5v h0 r0 r1
 have ap:=fun A AK cap capk w' (hc:a0d vi w' A (b3y l W H d (a0s l W H d))) (hk:a0d i64 w' AK (a0s l W H d)) =>
  e7r l (b3y l W H d (a0s l W H d)) (a0s l W H d) A AK cap capk W H d w' hw0 (by omega) hh0 (by omega) h0 h1 hl hs aW a6 (fun y x hy hx=>a7 y x hy hx) (a4m l W H d) (a8l l W H d) hc hk
 rw [aW,<-hm,a4m] at ap
 have an:∀ Ak w,a0d vi w Ak (a6p l W H d)->a0d i64 w Ak (a0s l W H d):=fun Ak w h=>a0d.map (f:=vi) (k:=Int.ofNat) h
 have aU:b3k (a0s l W H d)<=9:=d9p (fun x hx=>by have:=a8l l W H d x hx;omega)
 have aB:a0s l W H d≠[]:=fun e=>by have:=a4m l W H d;rw [e] at this;simp at this;omega
 have ae:=c1o (a0s l W H d) aB
 have bb:a6p l W H d=(a0s l W H d).map Int.ofNat:=rfl
 rw [<-bb] at ae
 rw [<-hm] at aR aC ⊢
 have aZ:=a7u (n:=m) (warm:=0) (most:=4) (by omega) (a8w l W H d)
 have aK:=c1e (n:=m) (a8w l W H d)
 have aJ:=c1f (n:=m) (a8w l W H d)
 have ac:=fun w' (hr:a1r w' b F ds (p+(a1v (a6p l W H d) 4).length))=>f2e w' b F ds (p+(a1v (a6p l W H d) 4).length) _ m 0 _ (a8w l W H d) hr aZ.2.1 bC (by omega) (by omega) aZ.1.1 aJ aK aC bm aR
 have bf:a7j (a8w l W H d) m=b3t (a1f m 0 4 (a8w l W H d)).order (a1f m 0 4 (a8w l W H d)).ks (a1k (a1q (a1f m 0 4 (a8w l W H d)).order m 0) (a8w l W H d)):=rfl
 rw [<-bf] at ac
 obtain ⟨E,hE⟩:=zX (b3y l W H d (a0s l W H d))
 obtain ⟨EF,al⟩:=zX (a8w l W H d)
 rw [<-hE] at aD ap
 rw [<-al] at aD aN aC ac
 rw [<-al]
 obtain ⟨K,hK⟩:=zX (a6p l W H d)
 rw [<-hK] at aq ar ae an ac
 rw [<-hK]
 obtain ⟨mx,bh⟩:=zX (b3k (a0s l W H d))
 rw [<-bh] at aU ae
 obtain ⟨a1,a8⟩:=zX ((a1v K 4).length)
 obtain ⟨a2,ax⟩:=zX ((a7j EF m).length)
 rw [<-a8] at aq ac ⊢
 rw [<-ax] at ac ⊢
 rw [ar] at aq
 generalize (a1f m 0 4 EF).order=po at ac
 have ak:=aq h
 rw [show ((4:Nat):Int)=4 from rfl] at ak
 have t9:decide ((9:Int)<(mx:Int))=false:=zA (by omega)
 have bQ:=h.lt b h.mem
 have ba:=h.lt
 have aX:=hid ar
 have bD:=hid ae
 have bx:=hid an
 have bI:=hid ac
 have bA:=hid aD
 have bK:=hid aN
 have bq:=hid ap
 have aI:=hid aC
 have bz:=hid ba
 clear bc br ar bk aq ha aR aC bm hm aV aD a6 aW a7 aN ap an aB bb aZ aK aJ ac bf hE al hK bh a8 ax ae hs hl h ba
 go_enter Tryz.func178,Tryz.ntmps178
 go_wp2_with fail
 refine ak.mono ?_
 rintro e w1 ⟨vk,gk',rfl,aa,aT,a9,bL⟩
 obtain ⟨ck,rfl,bB,bH,_,_⟩:=aa.oq
 have aY:a0d vi w1 (some ⟨gk',0,none⟩) K:=aa.toOwn.cells
 have ao:=Tryz.slices_Max_int gk' 0 H ck K w1 (by omega) (by rw [aX.out];exact zQ _) (by omega) (a0d.getD_ aY)
 rw [zT (by rw [aX.out];exact zQ _),bD.out] at ao
 rw [aX.out]
 have bg:=aa.lt
 have ac:=bI.out w1 aT
 rw [show ((0:Nat):Int)=0 from rfl] at ac
 clear ak aa
 go_wp2_with (go_at_call 69;refine (a2b _ b F ds _ aT).mono ?_;rintro e w' ⟨rfl,rfl⟩)
 refine ao.mono ?_
 rintro e w' ⟨rfl,rfl⟩
 clear ao
 go_wp2_with fail
 refine ac.mono ?_
 rintro e w2 ⟨Ap,np,cp,v2,G2,rfl,aG,aO,a3,bd⟩
 have a0:gk'∉[b]:=by simp;omega
 have aA:a0d vi w2 (some ⟨gk',0,none⟩) K:=aY.keep (fun _ ad e=>by injection e with e;subst e;exact a0) a3
 rcases aG.cases with ⟨_,aP,_⟩ | ⟨g,af,rfl⟩
 ·exfalso
  have:=congrArg List.length aP
  rw [zE,aI.out] at this
  simp at this
  omega
 obtain ⟨cg,rfl,a4,bF,_,_⟩:=af.oq
 rw [aI.out] at a4 af ⊢
 have bN:=bd g (by simp)
 have ah:=a9.tq a3
 have bP:=aO.lt
 obtain ⟨w3,aS⟩:=zX (w2.alloc (.cells #[.int .i64 po,.slice Ap np cp] 188))
 have aL:Chg [] w2 w3:=by rw [aS];exact (zR [] w2).alloc _
 have bG:=aO.same aL
 have az:=af.chg aL (by simp)
 have av:=aA.same aL
 have aQ:=ah.trans aL (by simp)
 have bE:g≠gk':=by omega
 have bw:=hid aS
 have aj:=fun v w'=>a7x v d w' h0 h1
 have am:=fun v w'=>b2n v d w' h0 h1
 clear aG af aO aY aA ac aS ah a3 bd aT a9
 go_wp2_with fail
 rw [<-bw.out]
 go_loopg [15,16,42] m (fun j va vb iv wr=>∃ (i:Nat),iv=.int .i64 i/\i+j=m/\Row wr 3 (.slice (some ⟨g,0,none⟩) m cg) g ((d6w (fun v=>a0k v d) EF i).map vi)/\Chg [g] w3 wr)
 case atStart=>exact ⟨0,rfl,by omega,by rw [c1r];exact az,zR _ _⟩
 case round =>
  clear az
  obtain ⟨i,rfl,bR,ab,aM⟩:=hrel
  rcases gk with _ | j
  ·obtain rfl:m=i:=by omega
   have t1:decide (m<m)=false:=by simp
   rw [<-aI.out,c1q,bA.out,aI.out] at ab
   have bl:a0d vi wr (some ⟨g,0,none⟩) E:=ab.toOwn.cells
   have ay:=bx.out _ _ (av.chg aM (fun ad e=>by injection e with e;subst e;simp;omega))
   have ap:=bq.out _ _ cg ck wr bl ay
   have bv:=bG.chg aM (fun x hx hm=>by simp at hm;have:=bz.out x hx;omega)
   have aH:=aQ.trans aM (fun x hx=>by simp at hx;right;omega)
   clear bl ay av ab
   go_wp2_with fail
   refine ap.mono ?_
   rintro e w5 ⟨v5,g5,rfl,aE,bn,bS⟩
   go_wp2
   go_ret2
   exact ⟨v5,g5,rfl,aE,(bv.same bn).cast (by omega),aH.trans bn (by simp),by have:=aH.size;omega⟩
  ·have bj:i<m:=by omega
   have t1:decide (i<m)=true:=zB bj
   have au:i<EF.length:=by rw [aI.out];exact bj
   obtain ⟨bu,bs,_,_,ai,aF⟩:=ab.oq
   have bo:=ai i _ (d3x (fun v=>a0k v d) EF au)
   have bM:=aF i
   have ag:=ab.set_ (i:=i) (by rw [zE,c7h];exact au) (vi (a0k (EF.getD i 0) d))
   rw [<-List.map_set,c7i (fun v=>a0k v d) EF au] at ag
   have bi:=bK.out (EF.getD i 0) (by rw [zD,zF au];exact zG au)
   have be:=fun w=>aj (EF.getD i 0) w
   have a5:=fun w=>am (EF.getD i 0) w
   rw [bi] at be
   generalize EF.getD i 0=x at *
   have t2:(x != x)=false:=by simp
   obtain ⟨y,hy⟩:=zX (a0k x d)
   rw [<-hy] at ag a5
   have bJ:wr.cell? ⟨g,i,none⟩=some (.int .i64 x):=bo
   have aw:Row (wr.setCell ⟨g,i,none⟩ (.int .i64 y)) _ _ _ _:=ag
   clear bs ai aF bo ag hy ab bi
   go_wp2_with (first | (go_at_call 84;refine (be _).mono ?_;rintro e w' ⟨rfl,rfl⟩) | (go_at_call 83;refine (a5 _).mono ?_;rintro e w' ⟨rfl,rfl⟩))
   go_roundg j
   case measure=>omega
   case rel=>exact ⟨i+1,by go_num,by omega,aw,aM.setCell (.inl (by simp)) _⟩
def c7o (D:List Int) (v:Int):Int:=D.getD v.toNat 0
theorem e8d (l:List Int):(e0y l).map (c7o (a2g l))=l:=by
 unfold e0y
 rw [List.map_map]
 refine (List.map_congr_left fun s hs => ?_).trans (List.map_id _)
 have h:=(b1n (a2g l) (b5e l) ((a9u l s).2 hs)).2
 show c7o (a2g l) ((a2g l).countP (· < s):Int)=s
 unfold c7o
 rw [Int.toNat_natCast,zD,h]
 rfl
theorem c3r (w:World) (b:Nat) (F ds:List Nat) (p:Nat) (l:List Int) (d:Nat) (h:a1r w b F ds p) (h0:1<=d) (h1:d<=16) (hl0:0<l.length) (hl:l.length<=256) (hs:a1u d l) (hk:(a2g l).length<=16) (ha:a0y ds p (a2r l d)) :
  Calls Tryz.prog 182 #[.pointer (some ⟨b,0,none⟩),.int .i64 l.length,.int .i64 d] w fun e w'=>∃ v g,e=.returned (.tuple #[v,.int .i64 0])/\Row w' 3 v g (l.map vi)/\a1r w' b F ds (p+(a2r l d).length)/\Chg [b] w w'/\w.heap.size<=g:=by
 have aB:=d0c hl0
 have aI:=d5o hs
 have ai:=b5e l
 have aQ:=fun x (hx:x∈l)=>(b1n (a2g l) (b5e l) ((a9u l x).2 hx)).1
 have aV:a2r l d=a0b ((a2g l).length-1) 4++a1v (a2g l) d++a1v (e0y l) (a9i (a2g l).length):=rfl
 rw [aV] at ha ⊢
 have au:=e8d l
 have ak:=d6g l
 obtain ⟨D,hD⟩:=zX (a2g l)
 obtain ⟨k,aj⟩:=zX (D.length)
 have ap:∀ x∈e0y l,0<=x/\x<(k:Int):=fun x hx=>by
  obtain ⟨s,ba,rfl⟩:=List.mem_map.1 hx
  have:=aQ s ba
  rw [aj,hD]
  show (0:Int)<=_/\((a2g l).countP (· < s):Int)<((a2g l).length:Int)
  omega
 rw [<-hD] at aB aI ai hk au ha ⊢
 have aO:=c4t hk
 have a3:=c6g hk
 have ar:=fun w=>c5n D.length w aB (by omega)
 rw [<-aj] at aB hk aO a3 ar ha ⊢
 obtain ⟨q,hq⟩:=zX (a9i k)
 rw [<-hq] at aO a3 ar ha ⊢
 obtain ⟨I,hI⟩:=zX (e0y l)
 rw [<-hI] at au ak ap ha ⊢
 obtain ⟨n,hn⟩:=zX (l.length)
 rw [<-hn] at ak hl hl0 ⊢
 have aF:=a0j w b F ds p 4 (k-1) h (by omega) (by omega) ha.left.left
 have az:=ha.left.right
 have ax:=ha.right
 rw [a0a] at az
 rw [zC,a0a] at ax
 have ay:=fun w' (hr:a1r w' b F ds (p+4))=>b5k w' b F ds (p+4) d D hr h1 aI (by rw [<-aj];omega) az
 have a4:a1u q I:=fun x hx=>by
  have:=ap x hx
  have e:(2:Int)^q=((2^q:Nat):Int):=by simp
  rw [e]
  omega
 have aE:=fun w' (hr:a1r w' b F ds (p+(4+(a1v D d).length)))=>b5k w' b F ds (p+(4+(a1v D d).length)) q I hr (by omega) a4 (by rw [ak];omega) ax
 rw [<-aj] at ay
 rw [ak] at aE
 rw [zC,zC,a0a]
 generalize (a1v D d).length=a1 at *
 generalize (a1v I q).length=a2 at *
 obtain ⟨k1,aU⟩:=zX (k-1)
 have ek:(k1:Int)+1=(k:Int):=by omega
 rw [<-aU] at aF
 have bA:IntKind.i64.wrap (k1:Int)=(k1:Int):=IntWalk.i64_in _ (by omega)
 have a5:=h.lt b h.mem
 have aK:=hid aj
 have bl:=hid au
 have aw:=hid ak
 have bu:=hid ap
 have a9:=hid ay
 have bs:=hid aE
 have aA:=hid ai
 have be:=hid h.lt
 clear hn aj au ak ap ay aE ai aV hD hI hq hs aQ aI ha az ax a4 aU aO h
 go_enter Tryz.func182,Tryz.ntmps182
 go_wp2_with fail
 refine aF.mono ?_
 rintro e w1 ⟨rfl,aR,aq⟩
 clear aF
 go_wp2_with fail
 refine (a9.out w1 aR).mono ?_
 rintro e w2 ⟨vD,gD,rfl,ad,aP,aN,bE⟩
 obtain ⟨cD,rfl,bi,a8,_,_⟩:=ad.oq
 rw [<-aK.out]
 have aZ:=ad.lt
 go_wp2_with fail
 refine (ar w2).mono ?_
 rintro e w' ⟨rfl,rfl⟩
 go_wp2_with fail
 refine (bs.out w2 (aP.cast (by omega))).mono ?_
 rintro e w3 ⟨vI,gI,rfl,f3h,aG,aC,bF⟩
 obtain ⟨cI,rfl,aJ,bp,_,_⟩:=f3h.oq
 rw [aw.out] at aJ f3h ⊢
 have af:=ad.chg aC (by have:=aq.size;simp;omega)
 have al:=(aq.tq aN).tq aC
 have bG:=(aq.tq aN).size
 clear ad aR aP aq aN aC ar
 have bb:w.heap.size<=gI:=by omega
 have bI:gD<gI:=by omega
 go_wp2_with (go_at_call 69;refine (a2b _ b F ds _ aG).mono ?_;rintro e w' ⟨rfl,rfl⟩)
 have bm:=hid aG
 have bk:=hid al
 have bn:=hid f3h
 have aY:=hid af
 clear aG al f3h af
 go_loopg [11] (k-1) (fun j iv wr=>∃ i q':Nat,iv=.int .i64 i/\1<=i/\i+j=k/\wr=w3.drewN q')
 case atStart=>exact ⟨1,0,rfl,zQ _,by omega,rfl⟩
 case round =>
  obtain ⟨i,q',rfl,bH,bx,rfl⟩:=hrel
  rcases gk with _ | j
  ·obtain rfl:k=i:=by omega
   have u1:decide (k<k)=false:=by simp
   have ae:=bn.out.drewN q'
   have aL:=aY.out.drewN q'
   have bh:=bm.out.same ((zR [] w3).drewN q')
   have aD:=bk.out.drewN q'
   generalize w3.drewN q'=w4 at *
   go_wp2_with fail
   go_loopg [12,13,50] n (fun j va vb iv wr=>∃ (i:Nat),iv=.int .i64 i/\i+j=n/\Row wr 3 (.slice (some ⟨gI,0,none⟩) n cI) gI ((d6w (c7o D) I i).map vi)/\Chg [gI] w4 wr)
   case atStart=>exact ⟨0,rfl,by omega,by rw [c1r];exact ae,zR _ _⟩
   case round =>
    clear ae
    obtain ⟨i,rfl,bx,ab,av⟩:=hrel
    rcases gk with _ | j
    ·obtain rfl:n=i:=by omega
     have u2:decide (n<n)=false:=by simp
     rw [<-aw.out,c1q,bl.out,aw.out] at ab
     have bc:=bh.chg av (fun x hx hm=>by simp at hm;have:=be.out x hx;omega)
     have aM:=aD.trans av (fun x hx=>by simp at hx;right;omega)
     go_wp2_with fail
     go_ret2
     exact ⟨_,gI,rfl,ab,bc.cast (by omega),aM,bb⟩
    ·have aW:i<n:=by omega
     have u2:decide (i<n)=true:=zB aW
     have an:i<I.length:=by rw [aw.out];exact aW
     obtain ⟨a7,a6,_,_,ag,ao⟩:=ab.oq
     have a0:=ag i _ (d3x (c7o D) I an)
     have bB:=ao i
     have ac:=ab.set_ (i:=i) (by rw [zE,c7h];exact an) (vi (c7o D (I.getD i 0)))
     rw [<-List.map_set,c7i (c7o D) I an] at ac
     have bv:=bu.out (I.getD i 0) (by rw [zD,zF an];exact zG an)
     generalize I.getD i 0=x at *
     obtain ⟨X,hX⟩:∃ X:Nat,X=x.toNat:=⟨_,rfl⟩
     have bj:x=(X:Int):=by omega
     have bo:X<k:=by omega
     have aT:c7o D x=D.getD X 0:=by unfold c7o;rw [hX]
     obtain ⟨bd,ah,_,_,aa,_⟩:=(aL.chg av (by simp;omega)).oq
     have bz:X<D.length:=by rw [<-aK.out];exact bo
     have aX:=aa X (D.getD X 0) (by rw [zD,zF bz];rfl)
     rw [aT] at ac
     generalize D.getD X 0=y at *
     subst bj
     have u3:decide (k<=X)=false:=zA (by omega)
     have bw:wr.cell? ⟨gI,i,none⟩=some (.int .i64 X):=a0
     have br:wr.cell? ⟨gD,X,none⟩=some (.int .i64 y):=aX
     have am:Row (wr.setCell ⟨gI,i,none⟩ (.int .i64 y)) _ _ _ _:=ac
     clear a6 ag ao a0 ac hX ab bv aT aa ah aX
     go_wp2
     go_roundg j
     case measure=>omega
     case rel=>exact ⟨i+1,by go_num,by omega,am,av.setCell (.inl (by simp)) _⟩
  ·have aS:i<k:=by omega
   have u1:decide (i<k)=true:=zB aS
   obtain ⟨i0,bf⟩:=zX (i-1)
   have ei:(i:Int)-1=(i0:Int):=by omega
   have aH:i<D.length:=by rw [<-aK.out];exact aS
   have bg:=List.pairwise_iff_getElem.1 aA.out i0 i (by omega) aH (by omega)
   obtain ⟨bd,ah,_,_,aa,_⟩:=aY.out.oq
   have c1:=aa i0 _ (zF (by omega))
   have c2:=aa i _ (zF aH)
   generalize D[i0]=x at *
   generalize D[i]=y at *
   have bD:w3.cell? ⟨gD,i0,none⟩=some (.int .i64 x):=c1
   have bC:w3.cell? ⟨gD,i,none⟩=some (.int .i64 y):=c2
   have u2:decide (y<=x)=false:=zA (by omega)
   have bq:i0<k:=by omega
   clear bf aa ah c1 c2 bg aH
   go_wp2
   go_quiet (fail)
   go_wp2
   go_roundg j
   case measure=>omega
   case rel=>exact ⟨i+1,q'+nq,by go_num,by omega,by omega,by first | rfl | rw [World.drewN_drewN]⟩
theorem d8w {n:Nat} {F:List Nat} (hF:Fut F (a6r n)):a8r (F.take 4)≠4294967295:=by
 have:=hF.hi
 simp [a6r,pre,a8r] at this
 unfold a8r
 simp
 omega
theorem d9v (N:Nat) {F:List Nat} (hd:∀ d∈F,d<256) (h4:4<=F.length) (hF:Fut F (a6r N)):a9g (b3m F N):=by
 have:=hF.hi
 simp [a6r,pre,a8r] at this
 refine ⟨hd,by simp [b3m],by simp [b3m],?_,h4,by simp [b3m]⟩
 simp [b3m,a8r]
 omega
theorem e2m (l:List Int) (W:Nat) {d:Nat} (h0:1<=d) (h1:d<=16) (i:Nat):a3c l W d i<65536 :=
 Nat.lt_of_lt_of_le (a9o l W h0 i) (Nat.pow_le_pow_right (n:=2) (by decide) h1)
theorem c6k (l:List Int) (W:Nat) {d:Nat} (h0:1<=d) (h1:d<=16):∀ i,a2c (c0h l W d i)
 | 0=>d9u _
 | i+1=>by
  have h:=b0f l W h0 h1 i
  have hc:=c0g l W d i
  have hf:=e2m l W h0 h1 i
  exact e8y h.1 (c6k l W h0 h1 i) (by omega) (by rw [h.2.1];omega)
theorem d5y (l:List Int) (W:Nat) {d:Nat} (h0:1<=d) (h1:d<=16) {F:List Nat} (hd:∀ x∈F,x<256):∀ (k i:Nat),Fut F (c0h l W d (i+k))->Fut F (c0h l W d i)
 | 0,_,h=>h
 | k+1,i,h=>by
  have hk:=b0f l W h0 h1 (i+k)
  have hc:=c0g l W d (i+k)
  have hf:=e2m l W h0 h1 (i+k)
  have h':Fut F (c8x (c0h l W d (i+k)) (33*d2y l W d (i+k)) (a3c l W d (i+k))):=h
  exact d5y l W h0 h1 hd k i (f1l (v:=a3c l W d (i+k)) (ctx:=33*d2y l W d (i+k)) hd hk.1 (c6k l W h0 h1 _) (by omega) (by rw [hk.2.1];omega) h')
theorem d0i {l:List Int} {d:Nat} (hs:a1u d l) (W i:Nat):a0k (a3d 7 (a8a l W i) d+a1l (a3c l W d i)) d=l.getD i 0:=by
 obtain ⟨h0,h1⟩:=a5d hs i
 unfold a3c
 rw [b6h]
 exact c3a h0 h1
theorem c5m {l:List Int} {W i:Nat} (hW:1<=W) (hi:i<=l.length):a8a (a1a (l.take i) l.length) W i=a8a l W i:=by
 unfold a8a
 exact c7k (Nat.mod_lt _ (by omega)) (by rw [zY];exact Nat.div_add_mod i W) hi
theorem d0h {d:Nat} {l:List Int} (hs:a1u d l) (i n:Nat):a1u d (a1a (l.take i) n):=by
 intro s h
 unfold a1a at h
 rcases zP.1 h with h | h
 ·exact hs s (List.mem_of_mem_take h)
 ·rw [List.eq_of_mem_replicate h];exact ⟨Int.le_refl _,a0i d⟩
theorem c3b (g:Int) (f d:Nat) (w:World) (h0:1<=d) (h1:d<=16) (hg0:0<=g) (hg1:g<65536) (hf:f<65536) :
  Calls Tryz.prog 233 #[.int .i64 g,.int .i64 f,.int .i64 d] w fun e w'=>e=.returned (.int .i64 (a0k (g+a1l f) d))/\w=w':=by
 have hu:=b2j f w (by omega)
 have ac:IntKind.u64.wrap (f:Int)=(f:Int):=IntWalk.u64_in _ (by omega)
 have ab : -65536<=a1l f/\a1l f<=65536:=by unfold a1l;split<;>omega
 have aa:=b2n (g+a1l f) d w h0 h1
 generalize a1l f=u at *
 go_enter Tryz.func233,Tryz.ntmps233
 go_wp2_with fail
 refine hu.mono ?_
 rintro e w' ⟨rfl,rfl⟩
 go_wp2_with fail
 refine aa.mono ?_
 rintro e w' ⟨rfl,rfl⟩
 go_wp2
 go_ret
 exact ⟨rfl,rfl⟩
theorem f4q:b6m Tryz.prog 39 5 (.int .u8 0) 1 1:=.mk' Tryz.underlying39 (by kernel_rfl)
def b6u (done:List Nat) (n:Nat):List Nat:=done++List.replicate (n-done.length) 0
theorem d8q {l:List Nat} {n:Nat} (h:l.length=n):b6u l n=l:=by simp [b6u,h]
theorem e2f {done:List Nat} {n:Nat} (h:done.length<n):(b6u done n)[done.length]?=some 0:=by
 unfold b6u
 rw [zS (zQ _),Nat.sub_self,List.getElem?_replicate,if_pos (by omega)]
theorem e2h {done:List Nat} {n:Nat} (h:done.length<n) (x:Nat):(b6u done n).set done.length x=b6u (done++[x]) n:=by
 unfold b6u
 obtain ⟨k,hk⟩:∃ k,n-done.length=k+1:=⟨n-done.length-1,by omega⟩
 rw [hk,List.set_append_right _ _ (zQ _),Nat.sub_self,List.replicate_succ,List.set_cons_zero,zC,List.length_singleton,show n-(done.length+1)=k by omega]
 simp
theorem e2g {done:List Nat} {n:Nat} (h:done.length<=n):(b6u done n).length=n:=by simp [b6u];omega
theorem d2x (R:List Nat) {m:Nat} (hm:m<R.length):(R.drop m).flatMap (fun x=>a0b x 8)=a0b R[m] 8++(R.drop (m+1)).flatMap (fun x=>a0b x 8):=by
 rw [List.drop_eq_getElem_cons hm,List.flatMap_cons]
theorem d0k (w:World) (b:Nat) (F ds:List Nat) (p:Nat) (l:List Int) (W H d:Nat) (h:a1r w b F ds p) (hw0:1<=W) (hw1:W<=16) (hh0:1<=H) (hh1:H<=16) (h0:1<=d) (h1:d<=16) (hl:l.length=W*H) (hs:a1u d l) (ha:a0y ds p (a3w l W d)) :
  Calls Tryz.prog 181 #[.pointer (some ⟨b,0,none⟩),.int .i64 W,.int .i64 H,.int .i64 d] w fun e w'=>∃ v g,e=.returned (.tuple #[v,.int .i64 0])/\Row w' 3 v g (l.map vi)/\a1r w' b F ds (p+(a3w l W d).length)/\Chg [b] w w'/\w.heap.size<=g:=by
 have bJ:a3w l W d=a0b (a5w l W d).length 16++(a5w l W d).flatMap fun x=>a0b x 8:=rfl
 have bE:=b4i l W h0 h1
 have aO:=c5q l W h0 h1
 have ad:a5w l W d=(c0h l W d l.length).low:=rfl
 rw [bJ] at ha ⊢
 rw [zC,a0a]
 obtain ⟨R,hR⟩:=zX (a5w l W d)
 rw [<-hR] at bE aO ad ha ⊢
 obtain ⟨n,hn⟩:=zX (l.length)
 have bO:n<=256:=by rw [hn,hl];exact zL hw1 hh1
 have cD:n<=64*W:=by rw [hn,hl,zY];exact Nat.mul_le_mul_right W (by omega)
 have cH:(W:Int)*(H:Int)=(n:Int):=by rw [hn,hl];simp
 rw [<-hn] at bE ad
 have au:Fut R (c0h l W d n):=by rw [ad];exact e7q (b0f l W h0 h1 n).1
 have aC:=fun i (hi:i<=n)=>d5y l W h0 h1 aO (n-i) i (by rw [show i+(n-i)=n by omega];exact au)
 have bC:Fut R (a6r 429):=aC 0 (Nat.zero_le _)
 have ba:4<=R.length:=by rw [ad];exact (b0f l W h0 h1 n).1.len
 have bW:=d8w bC
 have aR:=d9v 429 aO ba bC
 have aX:=fun i=>b0f l W h0 h1 i
 have av:=fun i=>c6k l W h0 h1 i
 have a5:=fun i=>c0g l W d i
 have al:=fun i=>e2m l W h0 h1 i
 have ak:=fun i=>a9o l W h0 i
 have aB:=fun i=>d0i hs W i
 obtain ⟨r,hr⟩:=zX (R.length)
 rw [<-hr] at bE ba ha
 have a9:r<2^16:=by omega
 have bS:=a0j w b F ds p 16 r h (by omega) a9 ha.left
 have bf:=ha.right
 rw [a0a] at bf
 have b5:=a1p (P:=Tryz.prog) f4q rfl .i64 .i64 r (by omega) (by omega)
 have cB:=a1p (P:=Tryz.prog) a0p rfl .i64 .i64 n (by omega) (by omega)
 have cc:IntKind.i64.wrap (r:Int)=(r:Int):=IntWalk.i64_in _ (by omega)
 have cG:=h.lt b h.mem
 have HN:=hid hn
 have HR:=hid hr
 have bI:=hid aO
 have ch:=hid ad
 have HA:=hid bf
 have bs:=hid aC
 have b0:=hid bW
 have bB:=hid aR
 have bw:=hid aX
 have cb:=hid av
 have cs:=hid a5
 have bD:=hid al
 have bh:=hid ak
 have cm:=hid aB
 have HS:=hid hs
 have b6:=hid h.lt
 clear hn hr aO ad ha bf aC bW aR aX av a5 al ak aB hs bJ hR au bC hl h
 go_enter Tryz.func181,Tryz.ntmps181
 go_wp2_with fail
 refine bS.mono ?_
 rintro e w1 ⟨rfl,bP,bi⟩
 obtain ⟨B,hB⟩:=zX (w1.heap.size)
 have cz:w.heap.size<=B:=by rw [hB];exact bi.size
 have bu:Chg [] w1 (w1.alloc (.cells (List.replicate r (Value.int .u8 0)).toArray 5)):=(zR [] w1).alloc _
 have ac:Row (w1.alloc (.cells (List.replicate r (Value.int .u8 0)).toArray 5)) 5 (.slice (some ⟨B,0,none⟩) r r) B ((b6u [] r).map b8):=by
  have:=Row.made w1 5 (List.replicate r (Value.int .u8 0)) (by simp [maxLen];omega)
  rw [<-hB,zV] at this
  have e:(b6u [] r).map b8=List.replicate r (Value.int .u8 0):=by simp [b6u,b8]
  rw [e]
  exact this
 have aY:=bP.same bu
 have HB:=hid hB
 have aG:=(bi.trans bu (by simp))
 clear bS hB bP bi bu
 go_wp2_with fail
 rw [<-HB.out]
 go_loopg [11,27] r (fun j va iv wr=>∃ (i p':Nat),iv=.int .i64 i/\i+j=r/\Row wr 5 (.slice (some ⟨B,0,none⟩) r r) B ((b6u (R.take i) r).map b8)/\a1r wr b F ds p'/\Hid (a0y ds p' ((R.drop i).flatMap fun x=>a0b x 8))/\Hid (p'+((R.drop i).flatMap fun x=>a0b x 8).length=p+(16+(R.flatMap fun x=>a0b x 8).length))/\Hid (Chg [b] w wr))
 case atStart=>exact ⟨0,p+16,rfl,by omega,ac,aY,HA,hid (by rw [List.drop_zero];omega),hid aG⟩
 case round =>
  clear ac aY aG
  obtain ⟨i,p',rfl,cn,aa,ad,Ha,Hp,bH⟩:=hrel
  rcases gk with _ | j
  ·obtain rfl:r=i:=by omega
   have u1:decide ((r:Int)<(r:Int))=false:=by simp
   have cf:decide (r<r)=false:=by simp
   have e1:R.take r=R:=by rw [HR.out,zN]
   have e2:R.drop r=[]:=by rw [HR.out,List.drop_length]
   rw [e1,d8q HR.out.symm] at aa
   have hp:=Hp.out
   rw [e2] at hp
   have b4:Hid (p'=p+(16+(R.flatMap fun x=>a0b x 8).length)):=hid (by
    rw [show (([]:List Nat).flatMap fun x=>a0b x 8)=[] from rfl,List.length_nil] at hp
    omega)
   obtain ⟨be,bc,_,_,af,_⟩:=aa.oq
   have bj:=c7m B r R 429 wr (by decide) (by decide) (by rw [<-HR.out];exact zQ _) (by omega) af bI.out (by rw [<-HR.out];exact ba) (by rw [<-HR.out];omega) b0.out
   rw [<-HR.out,show ((429:Nat):Int)=429 from rfl] at bj
   clear e1 e2 hp bc af Ha Hp aa
   go_wp2_with (go_at_call 69;refine (a2b _ b F ds _ ad).mono ?_;rintro e w' ⟨rfl,rfl⟩)
   refine bj.mono ?_
   rintro e w3 ⟨db,dg,dh,rfl,ae,a2,cC,cy,ct⟩
   have ac:=Row.zeros w3 n (by omega)
   obtain ⟨G,hG⟩:=zX (w3.heap.size)
   have a6:Chg [] w3 (w3.alloc (.cells (List.replicate n (Value.int .i64 0)).toArray 3)):=(zR [] w3).alloc _
   have aq:=ae.same a6
   have aQ:=(ad.same a2).same a6
   have aU:=(bH.out.trans a2 (by simp)).trans a6 (by simp)
   rw [<-hG] at ac
   have cg:=ad.lt b ad.mem
   have cv:=a2.size
   have bG:=ae.lt
   rw [<-hG] at bG
   have co:=bH.out.size
   have bN:=ad.lt
   have bL:=hid bN
   have HG:=hid hG
   clear bj ad ae a2 a6 hG bN
   go_wp2_with fail
   rw [<-HG.out]
   go_loopg [16,17,18,19,20,56] n (fun j va vb vc vd ve iv w5=>∃ (i:Nat) (D:Dec),iv=.int .i64 i/\i+j=n/\Row w5 3 (.slice (some ⟨G,0,none⟩) n n) G ((a1a (l.take i) n).map vi)/\a7f 296 w5 db dg dh D/\a9g D/\Syn D (c0h l W d i)/\D.data=R/\a1r w5 b F ds p'/\Hid (Chg [b] w w5))
   case atStart=>exact ⟨0,b3m R 429,rfl,by omega,by simpa using ac,aq,bB.out,f2w _ _,rfl,aQ,hid aU⟩
   case round =>
    clear ac aq aQ aU
    obtain ⟨i,D,rfl,cn,aa,ae,a3,a8,ai,ad,aE⟩:=hrel
    rcases gk with _ | j
    ·obtain rfl:n=i:=by omega
     have u2:decide ((n:Int)<(n:Int))=false:=by simp
     have b7:decide (n<n)=false:=by simp
     have e:a1a (l.take n) n=l:=by
      have:=b5h l
      rw [<-HN.out] at this
      exact this
     rw [e] at aa
     have bT:=e8m wr db dg dh D ae a3.pos
     have hz:D.data.length-D.pos=0:=by rw [a8.pos,ai,<-ch.out];omega
     rw [hz] at bT
     clear ae a3 a8 ai hz e
     go_wp2_with fail
     refine bT.mono ?_
     rintro e w' ⟨rfl,n6,rfl⟩
     go_wp2_with fail
     go_ret2
     exact ⟨_,G,rfl,aa.drewN n6,(ad.same ((zR [] _).drewN n6)).cast b4.out,aE.out.drewN n6,by have:=HG.out;omega⟩
    ·have am:i<n:=by omega
     have u2:decide ((i:Int)<(n:Int))=true:=zB (by omega)
     have b7:decide (i<n)=true:=zB am
     have bq:i<l.length:=by rw [<-HN.out];exact am
     have bm:=c5m (l:=l) hw0 (i:=i) (by omega)
     rw [<-HN.out] at bm
     have ao:(a1a (l.take i) n).length=n:=a4g (by rw [zI];omega)
     have aW:=b9q (a1a (l.take i) n) (some ⟨G,0,none⟩) n W d i wr h0 h1 hw0 (by omega) (by rw [ao];omega) (by omega) (d0h HS.out i n) aa.toOwn.cells (by rw [ao];omega)
     have bo:=bw.out i
     have a5:=cs.out i
     have aB:=cm.out i
     have al:=bD.out i
     have ak:=bh.out i
     have aP:c0h l W d (i+1)=c8x (c0h l W d i) (33*d2y l W d i) (a3c l W d i):=rfl
     have bF:=bs.out (i+1) (by omega)
     rw [aP] at bF
     have cw:2^d<=65536:=Nat.pow_le_pow_right (n:=2) (by decide) h1
     have cq:=Nat.two_pow_pos d
     have ab:=fun w' (hq:a7f 296 w' db dg dh D)=>e7g w' db dg dh D (c0h l W d i) (33*d2y l W d i) (a3c l W d i) (2^d-1) hq a3 a8 bo.1 (cb.out i) (by rw [bo.2.1];omega) (by omega) (by omega) (by rw [ai];exact bF)
     unfold b6o at ab
     rw [if_pos (by omega:a3c l W d i<=2^d-1)] at ab
     rw [bm,ao,<-c9s] at aW
     have aZ:=a9p (d:=d) (g:=a8a l W i) (b5s HS.out W _ _) 7
     obtain ⟨gs,bQ⟩:=zX (a3d 7 (a8a l W i) d)
     rw [<-bQ] at aW aZ aB
     obtain ⟨f,hf⟩:=zX (a3c l W d i)
     rw [<-hf] at ab aB al ak aP
     obtain ⟨cx,bb⟩:=zX (33*d2y l W d i)
     have cj:(33:Int)*((d2y l W d i:Nat):Int)=(cx:Int):=by rw [bb];simp
     rw [<-bb] at ab aP
     have b1:cx<=500:=by omega
     obtain ⟨cl,aK⟩:=zX (d2y l W d i)
     rw [<-aK] at cj aW a5
     obtain ⟨mo,bl⟩:=zX (2^d-1)
     rw [<-bl] at ab
     have aV:gs<65536:=by
      have e:((2^d:Nat):Int)=(2:Int)^d:=by simp
      have:=aZ.2
      omega
     have bd:=fun w'=>c3b gs f d w' h0 h1 aZ.1 aV al
     rw [aB] at bd
     have ce:f<=mo:=by omega
     have aA:=a0o l bq
     have bU:l[i]=l.getD i 0:=by rw [zD,zF bq];rfl
     rw [bU] at aA
     generalize l.getD i 0=xv at *
     have bV:(l.take i).length=i:=by rw [zI];omega
     have cA:((2^d:Nat):Int)=(2:Int)^d:=by simp
     have cu:IntKind.u64.wrap ((2:Int)^d)=(2:Int)^d:=IntWalk.u64_in _ (by omega)
     have cJ:IntKind.u64.wrap ((2:Int)^d-1)=(mo:Int):=by rw [IntWalk.u64_in _ (by omega)];omega
     have cF:IntKind.i64.wrap (f:Int)=(f:Int):=IntWalk.i64_in _ (by omega)
     have bx:=hid aA
     have bp:=hid bV
     have ay:=hid ab
     have ci:=hid bd
     have cp:=hid aP
     have az:=hid aa
     have cI:=hid bl
     have bn:=hid ai
     clear bm ao bo aB bF ab bQ hf bb aK bl bd aA bU bV aP aa a3 a8 ai bq ak aZ
     go_wp2_with fail
     refine aW.mono ?_
     rintro e w6 ⟨rfl,a4⟩
     have aw:=ae.same a4
     have aJ:=ad.same a4
     have aI:=aE.out.trans a4 (by simp)
     have ap:=az.out.chg a4 (by simp)
     have aT:=ay.out w6 aw
     clear aW ae ad
     go_wp2_with fail
     refine aT.mono ?_
     rintro e w7 ⟨rfl,D',ar,bR,aN,bA⟩
     rw [if_pos ce] at bR
     obtain ⟨aL,ax⟩:=bR
     have bK:=f1j w7 db dg dh D' ar
     rw [ax.err,show ((0:Nat):Int)=0 from rfl] at bK
     have aF:∀ z∈F,z∉[db,dh]:=fun z hz hm=>by have:=bL.out z hz;simp at hm;omega
     have bv:=aJ.chg bA aF
     have bg:=aI.trans bA (fun z hz => .inr (by simp at hz;omega))
     have ah:=ap.chg bA (by simp;omega)
     obtain ⟨a7,bM⟩:=ah.fill_cell (by rw [bp.out];exact am)
     have aj:=ah.fill (by rw [bp.out];exact am) xv
     rw [bp.out] at a7 bM aj
     have cr:=hid aj
     have cd:=hid aL
     have ca:=hid ax
     have br:=ci.out w7
     clear aT aw aJ aI ap ah aj aL ax aF
     go_wp2_with (first | (go_at_call 232;refine bK.mono ?_;rintro e w' ⟨rfl,rfl⟩) | (go_at_call 233;refine br.mono ?_;rintro e w' ⟨rfl,rfl⟩))
     go_roundg j
     case measure=>omega
     case rel =>
      have aD:Chg [G] w' (w'.setCell ⟨G,i,none⟩ (.int .i64 xv)):=(zR _ _).setCell (.inl (by simp)) _
      refine ⟨i+1,D',by go_num,by omega,?_,ar.chg aD (by simp;omega) (by simp;omega) (by simp;omega),cd.out,by rw [cp.out];exact ca.out,aN.trans bn.out,bv.chg aD (fun z hz hm=>by simp at hm;have:=bL.out z hz;omega),hid (bg.trans aD (fun z hz => .inr (by simp at hz;omega)))⟩
      rw [bx.out]
      exact cr.out
  ·have am:i<r:=by omega
   have u1:decide ((i:Int)<(r:Int))=true:=zB (by omega)
   have cf:decide (i<r)=true:=zB am
   have bz:i<R.length:=by rw [<-HR.out];exact am
   have a0:=d2x R bz
   have aA:=a0o R bz
   have bZ:=bI.out R[i] (zG _)
   obtain ⟨x,hx⟩:=zX (R[i])
   rw [<-hx] at a0 aA bZ
   have a1:=Ha.out
   rw [a0] at a1
   have aH:=a0j wr b F ds p' 8 x ad (by omega) (by omega) a1.left
   have b9:=hid a1.right
   have bY:(R.take i).length=i:=by rw [zI];omega
   have cE:IntKind.u8.wrap (x:Int)=(x:Int):=by rw [IntKind.wrap_u8];omega
   have b2:=hid a0
   have bx:=hid aA
   have ay:=hid bY
   have az:=hid aa
   clear a0 aA hx a1 bz bY ad aa
   go_wp2_with fail
   refine aH.mono ?_
   rintro e w2 ⟨rfl,b3,bX⟩
   have ag:=az.out.chg bX (by simp;omega)
   obtain ⟨be,bc,_,_,af,aS⟩:=ag.oq
   have a7:=af i 0 (by have:=e2f (done:=R.take i) (n:=r) (by rw [ay.out];exact am);rw [ay.out] at this;exact this)
   have ck:w2.cell? ⟨B,i,none⟩=some (.int .u8 0):=a7
   have bM:=aS i
   have an:=ag.set_ (i:=i) (by rw [zE,e2g (by rw [ay.out];omega)];exact am) (b8 x)
   rw [<-List.map_set] at an
   have bk:=e2h (done:=R.take i) (n:=r) (by rw [ay.out];exact am) x
   rw [ay.out,<-bx.out] at bk
   rw [bk] at an
   have aM:Row (w2.setCell ⟨B,i,none⟩ (.int .u8 x)) _ _ _ _:=an
   clear aH ag bc af aS a7 an bk
   go_wp2_with fail
   go_roundg j
   case measure=>omega
   case rel =>
    have aD:Chg [B] w2 (w2.setCell ⟨B,i,none⟩ (.int .u8 x)):=(zR _ _).setCell (.inl (by simp)) _
    refine ⟨i+1,p'+8,by go_num,by omega,aM,b3.chg aD (fun z hz hm=>by simp at hm;have:=b6.out z hz;omega),hid ?_,hid ?_,hid ((bH.out.tq bX).trans aD (fun z hz => .inr (by simp at hz;omega)))⟩
    ·have:=b9.out
     rw [a0a] at this
     exact this
    ·have:=Hp.out
     rw [b2.out,zC,a0a] at this
     omega
def f0r:List Int:=[8,1,2,4,8,10,12,16,5,8]
theorem e2c (k:Nat) (h:k<10):∃ d:Nat,f0r[k]?=some (d:Int)/\1<=d/\d<=16:=by
 rcases (by omega:k=0\/k=1\/k=2\/k=3\/k=4\/k=5\/k=6\/k=7\/k=8\/k=9) with rfl | rfl | rfl | rfl | rfl | rfl | rfl | rfl | rfl | rfl
 ·exact ⟨8,rfl,by omega,by omega⟩
 ·exact ⟨1,rfl,by omega,by omega⟩
 ·exact ⟨2,rfl,by omega,by omega⟩
 ·exact ⟨4,rfl,by omega,by omega⟩
 ·exact ⟨8,rfl,by omega,by omega⟩
 ·exact ⟨10,rfl,by omega,by omega⟩
 ·exact ⟨12,rfl,by omega,by omega⟩
 ·exact ⟨16,rfl,by omega,by omega⟩
 ·exact ⟨5,rfl,by omega,by omega⟩
 ·exact ⟨8,rfl,by omega,by omega⟩
theorem b9r.fresh {w w':World} {b cap at_:Nat} {A:Option Addr} {L:List Int} (h:b9r w b A cap L at_) (hc:Chg [] w w'):b9r w' b A cap L at_:=h.same hc (by simp) (fun _ _ _=>by simp)
theorem e7c (w:World) (b cap at_:Nat) (A:Option Addr) (L:List Int) (h:b9r w b A cap L at_) :
  Calls Tryz.prog 40 #[.pointer (some ⟨b,0,none⟩)] w fun e w'=>∃ d at':Nat,e=.returned (.int .i64 d)/\1<=d/\d<=16/\b9r w' b A cap L at'/\Chg [b] w w':=by
 obtain ⟨w1,aa⟩:=zX (w.alloc (.cells #[.int .i64 8,.int .i64 1,.int .i64 2,.int .i64 4,.int .i64 8,.int .i64 10,.int .i64 12,.int .i64 16,.int .i64 5,.int .i64 8] 3))
 have ab:Blk w1 w.heap.size 3 #[.int .i64 8,.int .i64 1,.int .i64 2,.int .i64 4,.int .i64 8,.int .i64 10,.int .i64 12,.int .i64 16,.int .i64 5,.int .i64 8]:=by rw [aa];exact Blk.new w _ _
 have ae:Chg [] w w1:=by rw [aa];exact (zR [] w).alloc _
 have hn:=b7d w1 b cap at_ 10 A L (h.fresh ae) (by omega) (by omega)
 have af:w.heap.size≠b:=by have:=h.blk.lt;omega
 have aj:=hid aa
 obtain ⟨B,hB⟩:=zX (w.heap.size)
 rw [<-hB] at ab af
 have HB:=hid hB
 clear aa h hB
 go_enter Tryz.func40,Tryz.ntmps40
 go_wp2_with fail
 rw [<-aj.out,<-HB.out]
 refine hn.mono ?_
 rintro e w2 ⟨k,at',rfl,hk,ak,ag⟩
 obtain ⟨d,hd,ah,ad⟩:=e2c k hk
 have ac:=ab.chg ag (by simpa using af)
 have ai:w2.cell? ⟨B,k,none⟩=some (.int .i64 d):=by
  rw [ac.cell k]
  have e:(#[Value.int .i64 8,.int .i64 1,.int .i64 2,.int .i64 4,.int .i64 8,.int .i64 10,.int .i64 12,.int .i64 16,.int .i64 5,.int .i64 8]:Array Value)=(f0r.map vi).toArray:=rfl
  rw [e,List.getElem?_toArray,zW,hd]
  rfl
 have am:(0:Int)<=(k:Int):=by omega
 have an:(k:Int)<10:=by omega
 have HD:=hid (And.intro ah ad)
 have al:Hid (Chg [b] w w2):=hid ((ae.mono (by simp)).tq ag)
 clear hd ac ab hn ah ad
 go_wp2_with fail
 go_ret
 exact ⟨d,at',rfl,HD.out.1,HD.out.2,ak,al.out⟩
def f1b (w:World) (b:Nat) (s:Nat):Prop:=Blk w b 128 #[.int .i64 s]/\s<2147483648
theorem e1f (x:Int) (m:Nat) (hm:m<9223372036854775808):∃ k:Nat,k<=m/\bits .and .i64 x (m:Int)=(k:Int):=by
 refine ⟨(BitVec.ofInt 64 x &&& BitVec.ofInt 64 (m:Int)).toNat,?_,?_⟩
 ·rw [BitVec.toNat_and]
  have e:(BitVec.ofInt 64 (m:Int)).toNat=m:=by
   rw [BitVec.ofInt_natCast,BitVec.toNat_ofNat]
   exact Nat.mod_eq_of_lt (by omega)
  rw [e]
  exact Nat.and_le_right
 ·show IntKind.i64.wrap ((BitVec.ofInt 64 x &&& BitVec.ofInt 64 (m:Int)).toNat:Int)=_
  have aa:(BitVec.ofInt 64 x &&& BitVec.ofInt 64 (m:Int)).toNat<=m:=by
   rw [BitVec.toNat_and]
   have e:(BitVec.ofInt 64 (m:Int)).toNat=m:=by
    rw [BitVec.ofInt_natCast,BitVec.toNat_ofNat]
    exact Nat.mod_eq_of_lt (by omega)
   rw [e]
   exact Nat.and_le_right
  generalize (BitVec.ofInt 64 x &&& BitVec.ofInt 64 (m:Int)).toNat=q at *
  exact IntWalk.i64_in _ (by omega)
theorem f1x (w:World) (b s n:Nat) (h:f1b w b s) (hn0:1<=n) (hn1:n<=1073741824) :
  Calls Tryz.prog 81 #[.pointer (some ⟨b,0,none⟩),.int .i64 n] w fun e w'=>∃ v s':Nat,e=.returned (.int .i64 v)/\v<n/\f1b w' b s'/\Chg [b] w w':=by
 obtain ⟨hb,hs⟩:=h
 have b0:=hb.cell 0
 have f0:=hb.frozen 0
 simp at b0
 obtain ⟨x,hx⟩:=zX (s*1103515245+12345)
 have am:x<4611686018427387904:=by omega
 have ah:(s:Int)*1103515245+12345=(x:Int):=by omega
 obtain ⟨y,hy,aa⟩:=e1f (x:Int) 2147483647 (by omega)
 have ag:y<2147483648:=by omega
 have ab:=hb.set_ 0 (.int .i64 y)
 have af:bits BinOp.and IntKind.i64 (x:Int) 2147483647=(y:Int):=aa
 obtain ⟨z,hz⟩:=zX (y / 256)
 have aj:(y:Int) / 256=(z:Int):=by omega
 have ai:z<8388608:=by omega
 obtain ⟨r,hr⟩:=zX (z%n)
 have ac:r<n:=by rw [hr];exact Nat.mod_lt _ (by omega)
 have ak:(z:Int).tmod (n:Int)=(r:Int):=by rw [hr,Int.tmod_eq_emod_of_nonneg (by omega)];simp
 have ad:(n:Int)≠0:=by omega
 have HS:=hid ab
 have al:=hid hb
 have ae:=hid ac
 clear ab hb hx hy hz hr ac aa
 go_enter Tryz.func81,Tryz.ntmps81
 go_wp2
 go_ret
 refine ⟨r,y,rfl,ae.out,⟨?_,ag⟩,(zR [b] w).setCell (.inl (by simp)) _⟩
 simpa using HS.out
theorem a5e {w3 wx w4:World} {b cap a2 d P r i j n rb s:Nat} {A:Option Addr} {L:List Int} {l:List Int} {F:List Nat} {g2 cap2:Nat} {o:Obj}
  (hrw:f1b wx rb s) (htp:b9r wx b A cap L a2) (hch:Chg [rb] w3 wx) (hF:∀ x∈F,rb<x) (hll:l.length=i) (hsm:a1u d l) (hrP:r<P) (hP:P=2^d)
  (hsz:w3.heap.size<=wx.heap.size) (hs3:w3.heap.size=rb+1) (hb:b<rb) (hap:Apt A L F) (hij:i+(j+1)=n)
  (hr4:Row w4 3 (.slice (some ⟨g2,0,none⟩) (i+1) cap2) g2 (l.map vi++[.int .i64 r])) (gr4:a0u F [g2] (wx.alloc o) w4) :
  ∃ (i' s':Nat) (l':List Int) (F':List Nat),Value.int .i64 ((i:Int)+1)=.int .i64 i'/\i'+j=n/\Own w4 3 (.slice (some ⟨g2,0,none⟩) (i+1) cap2) F' (l'.map vi)/\l'.length=i'/\Hid (a1u d l')/\f1b w4 rb s'/\(∀ x∈F',rb<x)/\b9r w4 b A cap L a2/\Chg [rb] w3 w4:=by
 have aa:Chg F wx w4:=((zR [] wx).alloc o).mono (by simp) |>.tq gr4.chg
 have ab:rb∉F:=fun hm=>by have:=hF rb hm;omega
 have ac:b∉F:=fun hm=>by have:=hF b hm;omega
 refine ⟨i+1,s,l++[(r:Int)],[g2],by simp,by omega,?_,by simp [hll],?_,⟨hrw.1.chg aa ab,hrw.2⟩,?_,?_,?_⟩
 ·have:=hr4.toOwn
  simpa [vi] using this
 ·refine hid ?_
  intro z hz
  rcases zP.1 hz with h1 | h1
  ·exact hsm z h1
  ·simp at h1
   subst h1
   have e:(2:Int)^d=(P:Int):=by rw [hP];simp
   rw [e]
   omega
 ·intro y hy
  simp at hy
  subst hy
  rcases gr4.new y (by simp) with h1 | h1
  ·exact hF y h1
  ·simp at h1
   omega
 ·exact htp.same aa ac hap
 ·exact hch.trans aa fun x hx => .inr (by have:=hF x hx;omega)
theorem e9n (w:World) (b cap at_ W H d:Nat) (A:Option Addr) (L:List Int) (h:b9r w b A cap L at_) (hw0:1<=W) (hw1:W<=64) (hh0:1<=H) (hh1:H<=64) (h0:1<=d) (h1:d<=16) :
  Calls Tryz.prog 41 #[.pointer (some ⟨b,0,none⟩),.int .i64 W,.int .i64 H,.int .i64 d] w fun e w'=>∃ (v:Value) (g:Nat) (l:List Int) (at':Nat),e=.returned v/\Row w' 3 v g (l.map vi)/\l.length=W*H/\a1u d l/\b9r w' b A cap L at'/\Chg [b] w w'/\w.heap.size<=g:=by
 have ba:=b7d w b cap at_ 7 A L h (by omega) (by omega)
 obtain ⟨n,hn⟩:=zX (W*H)
 have bR:(W:Int)*(H:Int)=(n:Int):=by rw [hn];simp
 have bH:n<=4096:=by rw [hn];exact zL hw1 hh1
 have bT:1<=n:=by rw [hn];exact Nat.mul_pos hw0 hh0
 have bJ:n<=64*W:=by rw [hn,zY];exact Nat.mul_le_mul_right W hh1
 obtain ⟨P,hP⟩:=zX (2^d)
 have bD:(2:Int)^d=(P:Int):=by rw [hP];simp
 have bM:1<=P:=by rw [hP];exact Nat.two_pow_pos d
 have bO:P<=65536:=by rw [hP];exact Nat.pow_le_pow_right (n:=2) (by decide) h1
 have bs:(P:Int)≠0:=by omega
 have bg:(W:Int)≠0:=by omega
 have HP:=hid hP
 have HN:=hid hn
 have bP:=h.blk.lt
 rw [<-hn]
 clear hn hP h
 go_enter Tryz.func41,Tryz.ntmps41
 go_wp2_with fail
 refine ba.mono ?_
 rintro e w1 ⟨kd,a1,rfl,bF,aM,aB⟩
 have aR:=b7d w1 b cap a1 1048576 A L aM (by omega) (by omega)
 clear ba aM
 go_wp2_with fail
 refine aR.mono ?_
 rintro e w2 ⟨sd,a2,rfl,bI,ac,bc⟩
 obtain ⟨rb,aS⟩:=zX (w2.heap.size)
 obtain ⟨w3,aJ⟩:=zX (w2.alloc (.cells #[.int .i64 sd] 128))
 have aD:f1b w3 rb sd:=⟨by rw [aJ,aS];exact Blk.new w2 _ _,by omega⟩
 have aH:Hid (∀ F:List Nat,(∀ x∈F,rb<x)->Apt A L F):=hid (fun F hF=>Apt.fresh ac.cells (fun x hx=>by have:=hF x hx;omega))
 have aG:Hid (Apt A L [rb]):=hid (Apt.fresh ac.cells (by simp;omega))
 have aP:b9r w3 b A cap L a2:=ac.fresh (by rw [aJ];exact (zR [] w2).alloc _)
 have aE:=aB.tq bc
 have bL:=aE.size
 have aX:Chg [b] w w3:=by rw [aJ];exact aE.alloc _
 have am:rb≠b:=by have:=ac.blk.lt;omega
 have an:Hid (b<rb):=hid (by have:=ac.blk.lt;omega)
 have a7:w3.heap.size=rb+1:=by rw [aJ,aS];simp
 have bk:=hid aJ
 have bq:=hid aS
 have aI:=hid a7
 have aY:w.heap.size<=rb:=by omega
 clear aR ac aB bc aE aJ aS a7
 go_wp2_with fail
 rw [<-bk.out,<-bq.out]
 go_loopg [13,14,15,16,17] n (fun j vo vi' v15 v16 v17 wr=>∃ (i s:Nat) (l:List Int) (F:List Nat),vi'=.int .i64 i/\i+j=n/\Own wr 3 vo F (l.map vi)/\l.length=i/\Hid (a1u d l)/\f1b wr rb s/\(∀ x∈F,rb<x)/\b9r wr b A cap L a2/\Chg [rb] w3 wr)
 case atStart=>exact ⟨0,sd,[],[],rfl,by omega,Own.nil _ _,rfl,hid (by intro s hs;simp at hs),aD,by simp,aP,zR _ _⟩
 case round =>
  clear aD aP
  obtain ⟨i,s,l,F,rfl,bQ,ay,aF,aC,aD,hF,a0,a6⟩:=hrel
  obtain ⟨Ao,co,rfl,bx,bm,_⟩:=ay.oq
  rcases gk with _ | j
  ·obtain rfl:i=n:=by omega
   have a4:Chg [b] w wr:=aX.trans a6 (fun x hx=>by rw [zU.1 hx];exact .inr aY)
   rcases ay.cases with ⟨_,aV,_⟩ | ⟨g,aW,rfl⟩
   ·exfalso
    have:=congrArg List.length aV
    rw [zE] at this
    simp at this
    rw [this] at aF
    simp at aF
    omega
   have bB:=hF g (by simp)
   clear ay hF
   go_wp2
   go_ret
   exact ⟨_,g,l,a2,rfl,aW,aF,aC.out,a0,a4,by omega⟩
  ·have bC:i<n:=by omega
   obtain ⟨x,hx⟩:=zX (i%W)
   obtain ⟨y,hy⟩:=zX (i / W)
   have aL:x<64:=by have:=Nat.mod_lt i (show W>0 by omega);omega
   have aO:y<64:=by rw [hy];exact Nat.div_lt_of_lt_mul (by rw [zY];omega)
   have br:(i:Int)%(W:Int)=(x:Int):=by rw [hx];simp
   have bn:(i:Int) / (W:Int)=(y:Int):=by rw [hy];simp
   have bE:(i:Int).tmod (W:Int)=(x:Int):=by rw [Int.tmod_eq_emod_of_nonneg (by omega)];exact br
   have bN:(i:Int).tdiv (W:Int)=(y:Int):=by rw [Int.tdiv_eq_ediv_of_nonneg (by omega)];exact bn
   have a8:=fun n (a:1<=n) (b:n<=1073741824) w' (hc:Chg [] wr w')=>f1x w' rb s n ⟨aD.1.chg hc (by simp),aD.2⟩ a b
   have bb:=hid a8
   have ao:=hid a0
   have aZ:=hid aD
   have ae:Hid (Own wr 3 (.slice Ao i co) F (l.map vi)):=hid (by rw [<-aF];exact ay)
   rw [aF]
   have af:=hid aF
   have aj:=hid hF
   have ap:=hid a6
   clear hx hy a8 a0 aD ay hF a6 aF bx
   go_wp2
   go_quiet (fail)
   obtain ⟨p3,bz⟩:=zX (x / 3)
   obtain ⟨p4,bp⟩:=zX (y / 4)
   have bd:p3<64:=by omega
   have bj:p4<64:=by omega
   have x3:(x:Int) / 3=(p3:Int):=by omega
   have y4:(y:Int) / 4=(p4:Int):=by omega
   have bK:(x:Int).tdiv 3=(p3:Int):=by rw [Int.tdiv_eq_ediv_of_nonneg (by omega)];exact x3
   have bA:(y:Int).tdiv 4=(p4:Int):=by rw [Int.tdiv_eq_ediv_of_nonneg (by omega)];exact y4
   obtain ⟨xx,a5⟩:=zX (x*x)
   obtain ⟨yy,a3⟩:=zX (y*y)
   have bl:xx<=4096:=by rw [a5];exact zL (Nat.le_of_lt aL) (Nat.le_of_lt aL)
   have bh:yy<=4096:=by rw [a3];exact zL (Nat.le_of_lt aO) (Nat.le_of_lt aO)
   have bv:(x:Int)*(x:Int)=(xx:Int):=by rw [a5];simp
   have bf:(y:Int)*(y:Int)=(yy:Int):=by rw [a3];simp
   obtain ⟨p2,bi⟩:=zX (yy / 2)
   have bw:p2<=4096:=by omega
   have y2:(yy:Int) / 2=(p2:Int):=by omega
   have bS:(yy:Int).tdiv 2=(p2:Int):=by rw [Int.tdiv_eq_ediv_of_nonneg (by omega)];exact y2
   obtain ⟨mm,be⟩:=zX ((x+3*y)%5)
   have bG:mm<5:=by omega
   have bo:((x:Int)+3*(y:Int))%5=(mm:Int):=by omega
   have bu:((x:Int)+3*(y:Int)).tmod 5=(mm:Int):=by rw [Int.tmod_eq_emod_of_nonneg (by omega)];exact bo
   clear a5 a3 be bi bz bp
   obtain ⟨wy,aQ⟩:=zX (wr.drewN nq)
   have HQ:Hid (Chg [rb] wr wy):=hid (by rw [aQ];exact ((zR [] wr).drewN nq).mono (by simp))
   have a9:=fun n a b=>bb.out n a b wy (by rw [aQ];exact (zR [] wr).drewN nq)
   have az:Hid (f1b wy rb s):=hid (by rw [aQ];exact ⟨aZ.out.1.drewN _,aZ.out.2⟩)
   have aA:=hid a9
   rw [<-aQ]
   clear bb aZ a9 aQ
   rcases (by omega:kd=0\/kd=1\/kd=2\/kd=3\/kd=4\/kd=5\/kd=6) with rfl | rfl | rfl | rfl | rfl | rfl | rfl
   ·obtain ⟨v,rfl⟩:=zX (sd)
    obtain ⟨r,hr⟩:=zX (v%P)
    have al:r<P:=by rw [hr];exact Nat.mod_lt _ (by omega)
    have ar:(v:Int)%(P:Int)=(r:Int):=by rw [hr];simp
    have aK:(v:Int).tmod (P:Int)=(r:Int):=by rw [Int.tmod_eq_emod_of_nonneg (by omega)];exact ar
    have aa:Chg [rb] wr wy:=HQ.out
    have ad:Own wy 3 (.slice Ao i co) F (l.map vi):=ae.out.chg aa (fun y hy=>by have:=aj.out y hy;simp;omega)
    have ai:=az
    have ab:=ap.out.tq aa
    have ac:=ao.out.same aa (by simpa using am.symm) aG.out
    have ah:=hid ac
    have ag:=hid ab
    have au:=hid al
    have aq:=hid ab.size
    clear hr al ac aa ab aA ao ae ap HQ az
    go_wp2_with (at_builtin;refine a0f rfl rfl a0p rfl rfl (ad.alloc _) (.int .i64 r) rfl ?c1 ?c2 ?c3 ?c4 ?_)
    case c1=>simp [go_sem]
    case c2=>rfl
    case c3=>rw [zE,af.out];omega
    case c4=>rw [zE,af.out];omega
    intro g2 av w4 ak aw
    rw [af.out] at ak ⊢
    go_wp2_with fail
    go_roundg j
    case measure=>omega
    case rel=>exact a5e ai.out ah.out ag.out aj.out af.out aC.out au.out HP.out aq.out aI.out an.out (aH.out F aj.out) (by omega) ak aw
   ·have ax:=aA.out 65536 (by omega) (by omega)
    rw [show ((65536:Nat):Int)=65536 from rfl] at ax
    go_wp2_with fail
    refine ax.mono ?_
    rintro e wz ⟨q,s1,rfl,hq,aN,aB⟩
    clear ax
    obtain ⟨v,rfl⟩:=zX (q)
    obtain ⟨r,hr⟩:=zX (v%P)
    have al:r<P:=by rw [hr];exact Nat.mod_lt _ (by omega)
    have ar:(v:Int)%(P:Int)=(r:Int):=by rw [hr];simp
    have aK:(v:Int).tmod (P:Int)=(r:Int):=by rw [Int.tmod_eq_emod_of_nonneg (by omega)];exact ar
    have aa:Chg [rb] wr wz:=HQ.out.tq aB
    have ad:Own wz 3 (.slice Ao i co) F (l.map vi):=ae.out.chg aa (fun y hy=>by have:=aj.out y hy;simp;omega)
    have ai:=hid aN
    have ab:=ap.out.tq aa
    have ac:=ao.out.same aa (by simpa using am.symm) aG.out
    have ah:=hid ac
    have ag:=hid ab
    have au:=hid al
    have aq:=hid ab.size
    clear hr al ac aa ab aA ao ae ap HQ az
    go_wp2_with (at_builtin;refine a0f rfl rfl a0p rfl rfl (ad.alloc _) (.int .i64 r) rfl ?c1 ?c2 ?c3 ?c4 ?_)
    case c1=>simp [go_sem]
    case c2=>rfl
    case c3=>rw [zE,af.out];omega
    case c4=>rw [zE,af.out];omega
    intro g2 av w4 ak aw
    rw [af.out] at ak ⊢
    go_wp2_with fail
    go_roundg j
    case measure=>omega
    case rel=>exact a5e ai.out ah.out ag.out aj.out af.out aC.out au.out HP.out aq.out aI.out an.out (aH.out F aj.out) (by omega) ak aw
   ·have ax:=aA.out 3 (by omega) (by omega)
    rw [show ((3:Nat):Int)=3 from rfl] at ax
    go_wp2_with fail
    refine ax.mono ?_
    rintro e wz ⟨q,s1,rfl,hq,aN,aB⟩
    clear ax
    obtain ⟨v,hv⟩:=zX (sd+3*x+2*y+q)
    have aU:(sd:Int)+3*(x:Int)+2*(y:Int)+(q:Int)=(v:Int):=by omega
    have aT:v<1073741824:=by omega
    clear hv
    obtain ⟨r,hr⟩:=zX (v%P)
    have al:r<P:=by rw [hr];exact Nat.mod_lt _ (by omega)
    have ar:(v:Int)%(P:Int)=(r:Int):=by rw [hr];simp
    have aK:(v:Int).tmod (P:Int)=(r:Int):=by rw [Int.tmod_eq_emod_of_nonneg (by omega)];exact ar
    have aa:Chg [rb] wr wz:=HQ.out.tq aB
    have ad:Own wz 3 (.slice Ao i co) F (l.map vi):=ae.out.chg aa (fun y hy=>by have:=aj.out y hy;simp;omega)
    have ai:=hid aN
    have ab:=ap.out.tq aa
    have ac:=ao.out.same aa (by simpa using am.symm) aG.out
    have ah:=hid ac
    have ag:=hid ab
    have au:=hid al
    have aq:=hid ab.size
    clear hr al ac aa ab aA ao ae ap HQ az
    go_wp2_with (at_builtin;refine a0f rfl rfl a0p rfl rfl (ad.alloc _) (.int .i64 r) rfl ?c1 ?c2 ?c3 ?c4 ?_)
    case c1=>simp [go_sem]
    case c2=>rfl
    case c3=>rw [zE,af.out];omega
    case c4=>rw [zE,af.out];omega
    intro g2 av w4 ak aw
    rw [af.out] at ak ⊢
    go_wp2_with fail
    go_roundg j
    case measure=>omega
    case rel=>exact a5e ai.out ah.out ag.out aj.out af.out aC.out au.out HP.out aq.out aI.out an.out (aH.out F aj.out) (by omega) ak aw
   ·have ax:=aA.out 5 (by omega) (by omega)
    rw [show ((5:Nat):Int)=5 from rfl] at ax
    go_wp2_with fail
    refine ax.mono ?_
    rintro e wz ⟨q,s1,rfl,hq,aN,aB⟩
    clear ax
    obtain ⟨v,hv⟩:=zX (sd+q*7)
    have aU:(sd:Int)+(q:Int)*7=(v:Int):=by omega
    have aT:v<1073741824:=by omega
    clear hv
    obtain ⟨r,hr⟩:=zX (v%P)
    have al:r<P:=by rw [hr];exact Nat.mod_lt _ (by omega)
    have ar:(v:Int)%(P:Int)=(r:Int):=by rw [hr];simp
    have aK:(v:Int).tmod (P:Int)=(r:Int):=by rw [Int.tmod_eq_emod_of_nonneg (by omega)];exact ar
    have aa:Chg [rb] wr wz:=HQ.out.tq aB
    have ad:Own wz 3 (.slice Ao i co) F (l.map vi):=ae.out.chg aa (fun y hy=>by have:=aj.out y hy;simp;omega)
    have ai:=hid aN
    have ab:=ap.out.tq aa
    have ac:=ao.out.same aa (by simpa using am.symm) aG.out
    have ah:=hid ac
    have ag:=hid ab
    have au:=hid al
    have aq:=hid ab.size
    clear hr al ac aa ab aA ao ae ap HQ az
    go_wp2_with (at_builtin;refine a0f rfl rfl a0p rfl rfl (ad.alloc _) (.int .i64 r) rfl ?c1 ?c2 ?c3 ?c4 ?_)
    case c1=>simp [go_sem]
    case c2=>rfl
    case c3=>rw [zE,af.out];omega
    case c4=>rw [zE,af.out];omega
    intro g2 av w4 ak aw
    rw [af.out] at ak ⊢
    go_wp2_with fail
    go_roundg j
    case measure=>omega
    case rel=>exact a5e ai.out ah.out ag.out aj.out af.out aC.out au.out HP.out aq.out aI.out an.out (aH.out F aj.out) (by omega) ak aw
   ·obtain ⟨v,hv⟩:=zX (sd+p3*11+p4)
    have aU:(sd:Int)+(p3:Int)*11+(p4:Int)=(v:Int):=by omega
    have aT:v<1073741824:=by omega
    clear hv
    obtain ⟨r,hr⟩:=zX (v%P)
    have al:r<P:=by rw [hr];exact Nat.mod_lt _ (by omega)
    have ar:(v:Int)%(P:Int)=(r:Int):=by rw [hr];simp
    have aK:(v:Int).tmod (P:Int)=(r:Int):=by rw [Int.tmod_eq_emod_of_nonneg (by omega)];exact ar
    have aa:Chg [rb] wr wy:=HQ.out
    have ad:Own wy 3 (.slice Ao i co) F (l.map vi):=ae.out.chg aa (fun y hy=>by have:=aj.out y hy;simp;omega)
    have ai:=az
    have ab:=ap.out.tq aa
    have ac:=ao.out.same aa (by simpa using am.symm) aG.out
    have ah:=hid ac
    have ag:=hid ab
    have au:=hid al
    have aq:=hid ab.size
    clear hr al ac aa ab aA ao ae ap HQ az
    go_wp2_with (at_builtin;refine a0f rfl rfl a0p rfl rfl (ad.alloc _) (.int .i64 r) rfl ?c1 ?c2 ?c3 ?c4 ?_)
    case c1=>simp [go_sem]
    case c2=>rfl
    case c3=>rw [zE,af.out];omega
    case c4=>rw [zE,af.out];omega
    intro g2 av w4 ak aw
    rw [af.out] at ak ⊢
    go_wp2_with fail
    go_roundg j
    case measure=>omega
    case rel=>exact a5e ai.out ah.out ag.out aj.out af.out aC.out au.out HP.out aq.out aI.out an.out (aH.out F aj.out) (by omega) ak aw
   ·obtain ⟨v,hv⟩:=zX (sd+xx+p2)
    have aU:(sd:Int)+(xx:Int)+(p2:Int)=(v:Int):=by omega
    have aT:v<1073741824:=by omega
    clear hv
    obtain ⟨r,hr⟩:=zX (v%P)
    have al:r<P:=by rw [hr];exact Nat.mod_lt _ (by omega)
    have ar:(v:Int)%(P:Int)=(r:Int):=by rw [hr];simp
    have aK:(v:Int).tmod (P:Int)=(r:Int):=by rw [Int.tmod_eq_emod_of_nonneg (by omega)];exact ar
    have aa:Chg [rb] wr wy:=HQ.out
    have ad:Own wy 3 (.slice Ao i co) F (l.map vi):=ae.out.chg aa (fun y hy=>by have:=aj.out y hy;simp;omega)
    have ai:=az
    have ab:=ap.out.tq aa
    have ac:=ao.out.same aa (by simpa using am.symm) aG.out
    have ah:=hid ac
    have ag:=hid ab
    have au:=hid al
    have aq:=hid ab.size
    clear hr al ac aa ab aA ao ae ap HQ az
    go_wp2_with (at_builtin;refine a0f rfl rfl a0p rfl rfl (ad.alloc _) (.int .i64 r) rfl ?c1 ?c2 ?c3 ?c4 ?_)
    case c1=>simp [go_sem]
    case c2=>rfl
    case c3=>rw [zE,af.out];omega
    case c4=>rw [zE,af.out];omega
    intro g2 av w4 ak aw
    rw [af.out] at ak ⊢
    go_wp2_with fail
    go_roundg j
    case measure=>omega
    case rel=>exact a5e ai.out ah.out ag.out aj.out af.out aC.out au.out HP.out aq.out aI.out an.out (aH.out F aj.out) (by omega) ak aw
   ·obtain ⟨v,hv⟩:=zX (sd+mm*9)
    have aU:(sd:Int)+(mm:Int)*9=(v:Int):=by omega
    have aT:v<1073741824:=by omega
    clear hv
    obtain ⟨r,hr⟩:=zX (v%P)
    have al:r<P:=by rw [hr];exact Nat.mod_lt _ (by omega)
    have ar:(v:Int)%(P:Int)=(r:Int):=by rw [hr];simp
    have aK:(v:Int).tmod (P:Int)=(r:Int):=by rw [Int.tmod_eq_emod_of_nonneg (by omega)];exact ar
    have aa:Chg [rb] wr wy:=HQ.out
    have ad:Own wy 3 (.slice Ao i co) F (l.map vi):=ae.out.chg aa (fun y hy=>by have:=aj.out y hy;simp;omega)
    have ai:=az
    have ab:=ap.out.tq aa
    have ac:=ao.out.same aa (by simpa using am.symm) aG.out
    have ah:=hid ac
    have ag:=hid ab
    have au:=hid al
    have aq:=hid ab.size
    clear hr al ac aa ab aA ao ae ap HQ az
    go_wp2_with (at_builtin;refine a0f rfl rfl a0p rfl rfl (ad.alloc _) (.int .i64 r) rfl ?c1 ?c2 ?c3 ?c4 ?_)
    case c1=>simp [go_sem]
    case c2=>rfl
    case c3=>rw [zE,af.out];omega
    case c4=>rw [zE,af.out];omega
    intro g2 av w4 ak aw
    rw [af.out] at ak ⊢
    go_wp2_with fail
    go_roundg j
    case measure=>omega
    case rel=>exact a5e ai.out ah.out ag.out aj.out af.out aC.out au.out HP.out aq.out aI.out an.out (aH.out F aj.out) (by omega) ak aw
theorem f0c (w:World) (A:Option Addr) (cap:Nat) (L:List Int) (hc:a0d vi w A L) (hin:∀ x∈L,c9b x) (hlen:L.length<=9223372036854775807) :
  Calls Tryz.prog 9 #[.slice A L.length cap] w fun e w'=>∃ b,e=.returned (.pointer (some ⟨b,0,none⟩))/\b9r w' b A cap L 0/\Chg [] w w'/\w.heap.size<=b:=by
 have HC:=hid hc
 have HI:=hid hin
 clear hc hin
 go_enter Tryz.func9,Tryz.ntmps9
 go_wp2
 go_ret
 have ch:Chg [] w (w.alloc (.cells #[.slice A L.length cap,.int .i64 0] 82)):=(zR [] w).alloc _
 exact ⟨w.heap.size,rfl,⟨Blk.new w _ _,HC.out.chg ch (by simp),Apt.fresh HC.out (by simp),HI.out,Nat.zero_le _,hlen⟩,ch,zQ _⟩
theorem f1o (w:World) (A B:Option Addr) (ca cb:Nat) (la lb:List Int) (hA:a0d vi w A la) (hB:a0d vi w B lb) (ha:la.length<=4096) (hb:lb.length<=4611686018427387904) :
  Calls Tryz.prog 104 #[.slice A la.length ca,.slice B lb.length cb] w fun e w'=>e=.returned (.bool (decide (la=lb)))/\∃ q,w'=w.drewN q:=by
 by_cases hne:la.length=lb.length
 ·obtain ⟨n,hn⟩:=zX (la.length)
  have aa:lb.length=n:=by rw [hn,hne]
  rw [aa]
  rw [<-hn] at ha ⊢
  have HA:=hid hn
  have HB:=hid aa
  clear hn aa hne hb
  have t1:((n:Int)==(n:Int))=true:=by simp
  have t2:((n:Int) != (n:Int))=false:=by simp
  go_enter Tryz.func104,Tryz.ntmps104
  go_wp2_with fail
  go_loopg [5] n (fun j iv wr=>∃ i q:Nat,iv=.int .i64 i/\i+j=n/\Hid (la.take i=lb.take i)/\wr=w.drewN q)
  case atStart=>exact ⟨0,0,rfl,by omega,hid rfl,rfl⟩
  case round =>
   obtain ⟨i,q,rfl,ak,HT,rfl⟩:=hrel
   rcases gk with _ | j
   ·obtain rfl:i=n:=by omega
    have ht:=HT.out
    rw [zT (by rw [<-HA.out];exact zQ _),zT (by rw [HB.out];exact zQ _)] at ht
    have hE:Hid (decide (la=lb)=true):=hid (zB ht)
    clear ht
    go_wp2
    go_ret
    exact ⟨by rw [hE.out];rfl,q,rfl⟩
   ·have ad:i<n:=by omega
    have ae:i<la.length:=by rw [<-HA.out];exact ad
    have af:i<lb.length:=by rw [HB.out];exact ad
    obtain ⟨ga,oa,rfl,ab⟩:=hA.at_ ae
    obtain ⟨gb,ob,rfl,ac⟩:=hB.at_ af
    obtain ⟨x,hx⟩:=zX (la[i])
    obtain ⟨y,hy⟩:=zX (lb[i])
    rw [<-hx] at ab
    rw [<-hy] at ac
    have cA:w.cell? ⟨ga,oa+i,none⟩=some (.int .i64 x):=ab
    have cB:w.cell? ⟨gb,ob+i,none⟩=some (.int .i64 y):=ac
    have HX:=hid hx
    have HY:=hid hy
    have ag:=hid ae
    have ah:=hid af
    have ai:=hid hA
    have aj:=hid hB
    clear hx hy ab ac hA hB
    go_wp2
    go_quiet (fail)
    by_cases hxy:x=y
    ·subst hxy
     have t5:(x != x)=false:=by simp
     go_wp2
     go_roundg j
     case measure=>omega
     case rel =>
      refine ⟨i+1,q+nq,by go_num,by omega,hid ?_,by first | rfl | rw [World.drewN_drewN]⟩
      rw [List.take_succ_eq_append_getElem ag.out,List.take_succ_eq_append_getElem ah.out,HT.out,<-HX.out,<-HY.out]
    ·have t5:(x != y)=true:=by simpa using hxy
     have hd:decide (la=lb)=false:=zA fun e=>hxy (by rw [HX.out,HY.out];subst e;rfl)
     have HD:=hid hd
     clear hd
     go_wp2
     go_ret
     exact ⟨by rw [HD.out];rfl,q+nq,by first | rfl | rw [World.drewN_drewN]⟩
 ·have hd:decide (la=lb)=false:=zA fun e=>hne (by rw [e])
  rw [hd]
  have t1:((la.length:Int)==(lb.length:Int))=false:=by simpa using (by omega:¬ (la.length:Int)=lb.length)
  have t2:(la.length==lb.length)=false:=by simpa using hne
  go_enter Tryz.func104,Tryz.ntmps104
  go_wp2
  go_ret
  exact ⟨rfl,0,rfl⟩
theorem e5k {w:World} {p q:a2a} {g o:Nat} {B:Nat->Option Addr} {c:Nat->Nat} {G:List Nat} (cap:Nat) (h:a4l w p g o B c G)
  {g' o':Nat} {B':Nat->Option Addr} {c':Nat->Nat} {G':List Nat} (cap':Nat) (h':a4l w q g' o' B' c' G') (hP:p.P=q.P) (hW:p.W=q.W) (hH:p.H=q.H) :
  Calls Tryz.prog 73 #[.slice (some ⟨g,o,none⟩) p.P.length cap,.slice (some ⟨g',o',none⟩) q.P.length cap'] w fun e w'=>e=.returned (.bool true)/\Chg [] w w':=by
 have ab:=h.ok
 obtain ⟨N,hN⟩:=zX (p.W*p.H)
 have aa:∀ wr,Chg [] w wr->∀ i,i<p.P.length->wr.cell? ⟨g,o+i,none⟩=some (.slice (B i) N (c i))/\wr.cell? ⟨g',o'+i,none⟩=some (.slice (B' i) N (c' i))/\∀ wz,Chg [] w wz->Calls Tryz.prog 104 #[.slice (B i) N (c i),.slice (B' i) N (c' i)] wz fun e w'=>e=.returned (.bool true)/\∃ q,w'=wz.drewN q:=by
  intro wr hc i hi
  have h1:=(h.same hc).cell i hi
  have h2:=(h'.same hc).cell i (by rw [<-hP];exact hi)
  rw [<-hN] at h1
  rw [<-hW,<-hH,<-hN] at h2
  refine ⟨h1,h2,fun wz hz => ?_⟩
  have e1:=h.len hi
  have e2:=h'.len (i:=i) (by rw [<-hP];exact hi)
  have k1:=(h.same hz).cells i hi
  have k2:=(h'.same hz).cells i (by rw [<-hP];exact hi)
  rw [<-hP] at k2 e2
  have h3:=f1o wz (B i) (B' i) (c i) (c' i) _ _ k1 k2 (by rw [e1];exact ab.area) (by rw [e1];have:=ab.area;omega)
  rw [e1,<-hN] at h3
  simpa using h3
 rw [<-hP]
 obtain ⟨n,hn⟩:=zX (p.P.length)
 have ae:n<=4:=by rw [hn];exact ab.n1
 rw [<-hn] at aa ⊢
 have HC:=hid aa
 have t0:((n:Int) != (n:Int))=false:=by simp
 clear aa hn ab h h' hP hW hH hN
 go_enter Tryz.func73,Tryz.ntmps73
 go_wp2_with fail
 go_loopg [5] n (fun j v5 wr=>∃ i:Nat,v5=.int .i64 i/\i+j=n/\Hid (Chg [] w wr))
 case atStart=>exact ⟨0,rfl,by omega,hid (zR _ _)⟩
 case round =>
  obtain ⟨i,rfl,af,ac⟩:=hrel
  rcases gk with _ | j
  ·obtain rfl:i=n:=by omega
   have t1:decide (i<i)=false:=by simp
   go_wp2
   go_ret
   exact ⟨rfl,ac.out⟩
  ·have hi:i<n:=by omega
   have t1:decide (i<n)=true:=zB hi
   obtain ⟨c1,c2,ad⟩:=HC.out wr ac.out i hi
   have HI:Hid (∀ k,Calls Tryz.prog 104 #[.slice (B i) N (c i),.slice (B' i) N (c' i)] (wr.drewN k) fun e w'=>e=.returned (.bool true)/\∃ q,w'=wr.drewN q):=hid (fun k=>(ad (wr.drewN k) (ac.out.drewN k)).mono fun e w' h=>by
    obtain ⟨h1,q,h2⟩:=h
    exact ⟨h1,k+q,by rw [h2,World.drewN_drewN]⟩)
   clear ad
   go_wp2_with fail
   go_quiet ((go_at_call 104;exact HI.out _))
   go_wp2_with fail
   go_roundg j
   case measure=>omega
   case rel=>exact ⟨i+1,by go_num,by omega,hid (ac.out.drewN nq)⟩
theorem e0c {w:World} {p q:a2a} {g o:Nat} {B:Nat->Option Addr} {c:Nat->Nat} {G:List Nat} (cap:Nat) (h:a4l w p g o B c G)
  {g' o':Nat} {B':Nat->Option Addr} {c':Nat->Nat} {G':List Nat} (cap':Nat) (h':a4l w q g' o' B' c' G') (hP:p.P=q.P) (hW:p.W=q.W) (hH:p.H=q.H) (hd:p.d=q.d) :
  Calls Tryz.prog 26 #[a6y p g o cap,a6y q g' o' cap'] w fun e w'=>e=.returned (.bool true)/\Chg [] w w':=by
 have hr:=fun w' (hc:Chg [] w w')=>e5k cap (h.same hc) cap' (h'.same hc) hP hW hH
 unfold a6y
 rw [<-hW,<-hH,<-hd]
 have ac:Blk (w.alloc (.cells #[.int .i64 p.W,.int .i64 p.H,.int .i64 p.d,.slice (some ⟨g,o,none⟩) p.P.length cap] 27)) w.heap.size 27 #[.int .i64 p.W,.int .i64 p.H,.int .i64 p.d,.slice (some ⟨g,o,none⟩) p.P.length cap]:=Blk.new w _ _
 have aa:Chg [] w ((w.alloc (.cells #[.int .i64 p.W,.int .i64 p.H,.int .i64 p.d,.slice (some ⟨g,o,none⟩) p.P.length cap] 27)).alloc (.cells #[.int .i64 p.W,.int .i64 p.H,.int .i64 p.d,.slice (some ⟨g',o',none⟩) q.P.length cap'] 27)):=((zR [] w).alloc _).alloc _
 have ab:=hr _ aa
 have HR:=hid ab
 have HC:=hid aa
 clear hr ab ac aa h h' hW hH hd hP
 go_enter Tryz.func26,Tryz.ntmps26
 go_wp2_with fail
 refine HR.out.mono ?_
 rintro e w2 ⟨rfl,ad⟩
 go_wp2
 go_ret
 exact ⟨rfl,HC.out.tq ad⟩
end Go.Proofs.YtepjepkgcdfboaaGreatDoor
