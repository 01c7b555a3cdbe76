/- guess.Best, Fore by their contracts. -/
import Derived.Test.YtijpbkakncglgaaGreatDoorMg04
set_option linter.unusedVariables false
set_option linter.unusedSimpArgs false
set_option maxHeartbeats 4000000
set_option maxRecDepth 100000
namespace Go.Proofs.YtijpbkakncglgaaGreatDoor
open Go.RowKit
def bkI (l:List Int) (W d y:Nat):Int:=((bestUp l W y d 9:Nat):Int)
theorem bestKinds_vi (l:List Int) (W H d:Nat):((List.range H).map (bkI l W d)).map vi=(bestKinds l W H d).map i64:=by
 unfold bestKinds
 rw [List.map_map,List.map_map]
 rfl
theorem fillL_set0 (done:List Int) (n:Nat):(fillL done n).set done.length 0=fillL done n:=by
 unfold fillL
 rw [List.set_append_right _ _ (Nat.le_refl _),Nat.sub_self]
 congr 1
 rcases Nat.eq_zero_or_pos (n-done.length) with h | h
 ·rw [h];rfl
 ·obtain ⟨k,hk⟩:∃ k,n-done.length=k+1:=⟨n-done.length-1,by omega⟩
  rw [hk]
  rfl
theorem gbest_ok (l:List Int) (A:Option Addr) (cap W H d:Nat) (w:World) (hw0:1≤W) (hw1:W≤64) (hh0:1≤H) (hh1:H≤64) (h0:1≤d) (h1:d≤16) (hl:l.length=W*H) (hs:SmpOk d l) (hc:Cells vi w A l) :
  Calls Tryz.prog 118 #[.slice A l.length cap,.int .i64 W,.int .i64 H,.int .i64 d] w fun e w'=>∃ v G,e=.returned v∧Own w' 3 v G ((bestKinds l W H d).map i64)∧Chg [] w w'∧∀ x∈G,w.heap.size≤x:=by
 have hmk:=run_make1 (P:=Tryz.prog) int_elem rfl .i64 .i64 H (by omega) (by omega)
 have hpl:=isPlane_yes l A cap W H d w hw0 hw1 hh0 hh1 h0 h1 hl hs hc
 have hrow:=fun y (hy:y<H) k (hk:k<10) w hc=>row_ok l A cap W H y d k w hw0 hw1 hh1 hy h0 h1 hk hl hs hc
 have hwt:=fun y k A cap w hc=>weight_ok (rowL l W y d k) A cap d w h0 h1 (by rw [rowL_len];omega) hc
 obtain ⟨m,hm⟩:∃ m,m=l.length:=⟨_,rfl⟩
 rw [←hm] at hrow hpl ⊢
 have HR:=hid hrow
 have HWt:=hid hwt
 have HM:=hid hm
 clear hrow hwt hm hl hs
 go_enter Tryz.func118,Tryz.ntmps118
 go_wp2_with (go_at_call 142;refine hpl.mono ?_;rintro e w' ⟨rfl,rfl⟩)
 have hrow0:=Row.zeros w H (by omega)
 obtain ⟨B,hB⟩:∃ B,B=w.heap.size:=⟨_,rfl⟩
 rw [←hB] at hrow0 ⊢
 have HB:=hid hB
 have ch0:Chg [] w (w.alloc (.cells (List.replicate H (Value.int .i64 0)).toArray 3)):=(Chg.refl [] w).alloc _
 clear hB hpl
 go_loopg [24] H (fun j iv wr=>∃ done:List Int,iv=.int .i64 done.length∧done.length+j=H∧Hid (done=(List.range done.length).map (bkI l W d))∧Row wr 3 (.slice (some ⟨B,0,none⟩) H H) B ((fillL done H).map vi)∧Chg [] w wr)
 case atStart=>exact ⟨[],rfl,by simp,hid (by simp),hrow0,ch0⟩
 case round =>
  obtain ⟨done,rfl,hdl,Hd,hrw,hch⟩:=hrel
  clear hrow0 ch0
  obtain ⟨m1,hm1⟩:∃ m1,m1=done.length:=⟨_,rfl⟩
  rcases gk with _ | j
  ·rw [←hm1] at hdl ⊢
   obtain rfl:m1=H:=by omega
   have t1:decide ((m1:Int)<(m1:Int))=false:=by simp
   have HM1:=hid hm1
   clear hm1 hdl
   go_wp2
   go_ret
   refine ⟨_,[B],rfl,?_,hch,fun x hx=>by have:=HB.out;simp at hx;omega⟩
   have e:fillL done m1=(List.range m1).map (bkI l W d):=by
    rw [fillL_full HM1.out.symm,Hd.out,←HM1.out]
   rw [←bestKinds_vi,←e]
   exact hrw.toOwn
  ·have hstep:done++[bkI l W d m1]=(List.range (m1+1)).map (bkI l W d):=by
    rw [List.range_succ,List.map_append,hm1,←Hd.out]
    rfl
   have hset0:=fillL_set0 done H
   have hset:=fillL_set (done:=done) (n:=H) (by omega) (bkI l W d m1)
   have hfl:=fillL_len (done:=done) (n:=H) (by omega)
   rw [←hm1] at hdl hset0 hset ⊢
   have hmW:m1<H:=by omega
   have HST:=hid hstep
   have HSet:=hid hset
   have HFL:=hid hfl
   have HM1:=hid hm1
   have HDL:=hid hdl
   have hcl:=hc.same hch
   have hr0:=HR.out m1 hmW 0 (by omega) wr hcl
   rw [←hset0] at hrw
   clear hstep hset hset0 hfl hm1 hdl hcl
   go_wp2_with fail
   refine hr0.mono ?_
   rintro e w1 ⟨v1,G1,rfl,hown1,ch1,hG1⟩
   have hw0':=HWt.out m1 0
   have hus:=bestUp_le l W m1 d
   obtain ⟨r0,hr0d⟩:∃ r,r=rowL l W m1 d 0:=⟨_,rfl⟩
   rw [←hr0d] at hown1 hw0'
   obtain ⟨A1,c1,rfl,-,-,hcc1⟩:=hown1.open_map
   have hw0c:=hw0' A1 c1 w1 hcc1
   have HR0:=hid hr0d
   clear hr0 hw0' hr0d
   go_wp2_with fail
   refine hw0c.mono ?_
   rintro e w1' ⟨rfl,rfl⟩
   have ch1':Chg [] w w1:=hch.trans_same ch1
   have hrw1:=hrw.chg ch1 (by simp)
   have HUS:=hid hus
   clear hown1 hcc1 hw0c hus hrw
   go_wp2_with fail
   go_loopg [11,12] 9 (fun q lv kv wx=>q≤9∧kv=.int .i64 ((10-q:Nat):Int)∧lv=.int .i64 (weightI (rowL l W m1 d (bestUp l W m1 d (9-q))) d)∧Row wx 3 (.slice (some ⟨B,0,none⟩) H H) B (((fillL done H).set m1 ((bestUp l W m1 d (9-q):Nat):Int)).map vi)∧Chg [] w wx)
   case atStart=>exact ⟨Nat.le_refl _,rfl,by rw [HR0.out];rfl,hrw1,ch1'⟩
   case round =>
    obtain ⟨hq,rfl,rfl,hrx,hchx⟩:=hrel
    clear hrw1 ch1'
    rcases gk with _ | q
    ·have t2:decide (((10-0:Nat):Int)<(10:Int))=false:=by simp
     rw [Nat.sub_zero] at hrx
     go_wp2
     go_roundg j
     case measure=>omega
     case rel =>
      refine ⟨done++[bkI l W d m1],?_,?_,hid ?_,?_,hchx⟩
      ·rw [zC,List.length_singleton,←HM1.out];go_num
      ·rw [zC,List.length_singleton,←HM1.out];have:=HDL.out;omega
      ·rw [zC,List.length_singleton,←HM1.out]
       exact HST.out
      ·rw [←HSet.out]
       exact hrx
    ·obtain ⟨k,hk⟩:∃ k,k=9-(q+1):=⟨_,rfl⟩
     rw [←hk] at hrx ⊢
     have hk2:10-(q+1)=k+1:=by omega
     have hk3:9-q=k+1:=by omega
     have hk4:10-q=k+2:=by omega
     have hk9:k+1<10:=by omega
     rw [hk2]
     have HK3:=hid hk3
     have HK4:=hid hk4
     have hup:bestUp l W m1 d (k+1)=if weightI (rowL l W m1 d (k+1)) d<weightI (rowL l W m1 d (bestUp l W m1 d k)) d then k+1 else bestUp l W m1 d k:=rfl
     have hr1:=HR.out m1 hmW (k+1) hk9 wr (hc.same hchx)
     have hwc:=HWt.out m1 (k+1)
     have hcast:((k+1:Nat):Int)=(k:Int)+1:=by omega
     rw [hcast] at hr1 ⊢
     obtain ⟨r1,hr1d⟩:∃ r,r=rowL l W m1 d (k+1):=⟨_,rfl⟩
     rw [←hr1d] at hr1 hwc hup
     obtain ⟨b,hb⟩:∃ b,b=bestUp l W m1 d k:=⟨_,rfl⟩
     rw [←hb] at hup hrx ⊢
     obtain ⟨t,ht⟩:∃ t,t=weightI (rowL l W m1 d b) d:=⟨_,rfl⟩
     rw [←ht] at hup ⊢
     obtain ⟨s,hs⟩:∃ s,s=weightI r1 d:=⟨_,rfl⟩
     rw [←hs] at hwc hup
     have HUp:=hid hup
     have HB2:=hid hb
     have HT:=hid ht
     have HS2:=hid hs
     have HR1:=hid hr1d
     obtain ⟨_,hrcell,_⟩:=hrx.open_
     have hfl:=HFL.out
     have hce:∀ w',Chg [] wr w'→w'.cell? ⟨B,m1,none⟩=some (.int .i64 b)∧w'.frozen? ⟨B,m1,none⟩=false:=fun w' h'=>by
      obtain ⟨cap',h2,h3,h4,h5,h6⟩:=(hrx.chg h' (by simp)).open_map
      refine ⟨h5 m1 (b:Int) ?_,h6 m1⟩
      rw [List.getElem?_set_self (by rw [hfl];exact hmW)]
     have HCe:=hid hce
     clear hup hb ht hs hr1d hk hk2 hk3 hk4 hfl hce hrcell
     go_wp2_with fail
     refine hr1.mono ?_
     rintro e w2 ⟨v2,G2,rfl,hown2,ch2,hG2⟩
     obtain ⟨A2,c2,rfl,-,-,hcc2⟩:=hown2.open_map
     have hwc2:=hwc A2 c2 w2 hcc2
     obtain ⟨hce2,hfr2⟩:=HCe.out w2 ch2
     clear hr1 hwc hown2 hcc2
     by_cases hlt:s<t
     ·have t3:decide (s<t)=true:=zB hlt
      have hres:=HUp.out
      rw [if_pos hlt] at hres
      have HRes:=hid hres
      clear hres hlt
      go_wp2_with fail
      refine hwc2.mono ?_
      rintro e w2' ⟨rfl,rfl⟩
      go_wp2_with fail
      go_roundg q
      case measure=>omega
      case rel =>
       rw [HK3.out,HK4.out,HRes.out,←HR1.out,←HS2.out]
       have h1:=(hrx.chg ch2 (by simp)).set_ (i:=m1) (by rw [zE,List.length_set,HFL.out];exact hmW) (vi ((k+1:Nat):Int))
       rw [←List.map_set,List.set_set] at h1
       refine ⟨by omega,by go_num,rfl,?_,(hchx.trans_same ch2).setCell (.inr (by have:=HB.out;simp;omega)) _⟩
       have e7:vi ((k+1:Nat):Int)=.int .i64 ((k:Int)+1):=by unfold vi;go_num
       rw [e7] at h1
       exact h1
     ·have t3:decide (s<t)=false:=zA hlt
      have hres:=HUp.out
      rw [if_neg hlt] at hres
      have HRes:=hid hres
      clear hres hlt
      go_wp2_with fail
      refine hwc2.mono ?_
      rintro e w2' ⟨rfl,rfl⟩
      go_wp2_with fail
      go_roundg q
      case measure=>omega
      case rel =>
       rw [HK3.out,HK4.out,HRes.out,←HT.out]
       exact ⟨by omega,by go_num,rfl,hrx.chg ch2 (by simp),hchx.trans_same ch2⟩
theorem Row.room (w:World) (n:Nat) (h:n≤1048576):Row (w.alloc (.cells (List.replicate n (Value.int .i64 0)).toArray 3)) 3 (.slice (some ⟨w.heap.size,0,none⟩) 0 n) w.heap.size [] :=
 ⟨n,_,rfl,Blk.new w _ _,Nat.zero_le _,by simp [maxLen];omega,by simp,by simp⟩
theorem run_make_room {P:Program} {t e:TypeId} {z:Value} {bytes:Nat} (E:Elem P t e z 1 bytes) (hzs:z.cells=#[z]) (kl kc:IntKind) (n:Nat) (hb:bytes*n≤281474976710656) (h63:n≤9223372036854775807) (w:World) :
  (Instr.makeSlice t (.int kl 0) (.int kc (n:Int))).run P w=.ok (.slice (some ⟨w.heap.size,0,none⟩) 0 n) (w.alloc (.cells (List.replicate n z).toArray e)):=by
 obtain ⟨i,hi,hz,hsize,hby⟩:=E.hi
 subst hby
 have hb':(i.bytes:Int)*(n:Int)≤281474976710656:=by
  have h:((i.bytes*n:Nat):Int)≤281474976710656:=by omega
  rwa [Int.natCast_mul] at h
 have hr:=run_make (P:=P) w t e i z E.ht hi hz kl kc 0 n (by omega) (by omega) hb' (by omega)
 rw [hr,hsize,hzs]
 simp only [Int.toNat_natCast,Nat.mul_one]
 have:madeCells #[z] n=(List.replicate n z).toArray:=by
  apply Array.toList_inj.1
  rw [toList_madeCells_one]
 rw [this]
 rfl
theorem gfore_ok (l:List Int) (A:Option Addr) (cap W H d:Nat) (ks:List Nat) (Ak:Option Addr) (capk:Nat) (w:World) (hw0:1≤W) (hw1:W≤64) (hh0:1≤H) (hh1:H≤64) (h0:1≤d) (h1:d≤16) (hl:l.length=W*H) (hs:SmpOk d l) (hc:Cells vi w A l)
  (hkl:ks.length=H) (hks:∀ k∈ks,k<10) (hck:Cells i64 w Ak ks) :
  Calls Tryz.prog 119 #[.slice A l.length cap,.int .i64 W,.int .i64 H,.int .i64 d,.slice Ak ks.length capk] w fun e w'=>∃ v G,e=.returned (.tuple #[v,.int .i64 0])∧Own w' 3 v G ((foreL l W H d ks).map vi)∧Chg [] w w'∧∀ x∈G,w.heap.size≤x:=by
 have hl4:l.length≤4096:=by rw [hl];exact Nat.mul_le_mul hw1 hh1
 have hmk:=run_make_room (P:=Tryz.prog) int_elem rfl .i64 .i64 l.length (by omega) (by omega)
 have hpl:=isPlane_yes l A cap W H d w hw0 hw1 hh0 hh1 h0 h1 hl hs hc
 have hak:=areKinds_yes ks Ak capk w hks (by omega) hck
 rw [hkl] at hak
 have hrow:=fun y (hy:y<H) k (hk:k<10) w hc=>row_ok l A cap W H y d k w hw0 hw1 hh1 hy h0 h1 hk hl hs hc
 obtain ⟨m,hm⟩:∃ m,m=l.length:=⟨_,rfl⟩
 rw [←hm] at hrow hpl hmk hl4 ⊢
 rw [hkl]
 have HR:=hid hrow
 have HKs:=hid hks
 have HM:=hid hm
 have HKL:=hid hkl
 have hmW:=hl
 rw [←hm] at hmW
 have HMW:=hid hmW
 clear hrow hm hl hs hks hkl hmW
 go_enter Tryz.func119,Tryz.ntmps119
 go_wp2_with (first | (go_at_call 142;refine hpl.mono ?_;rintro e w' ⟨rfl,rfl⟩) | (go_at_call 143;refine hak.mono ?_;rintro e w' ⟨rfl,rfl⟩))
 have hrow0:=(Row.room w m (by omega)).toOwn
 obtain ⟨B,hB⟩:∃ B,B=w.heap.size:=⟨_,rfl⟩
 rw [←hB] at hrow0 ⊢
 have HB:=hid hB
 have ch0:Chg [] w (w.alloc (.cells (List.replicate m (Value.int .i64 0)).toArray 3)):=(Chg.refl [] w).alloc _
 clear hB hpl hak
 go_loopg [12,32] H (fun j ov iv wr=>∃ (out:List Int) (G:List Nat),j≤H∧iv=.int .i64 ((H-j:Nat):Int)∧Own wr 3 ov G (out.map vi)∧Hid (out=(List.range (H-j)).flatMap (fun y=>rowL l W y d (ks.getD y 0)))∧Chg [] w wr∧∀ x∈G,w.heap.size≤x)
 case atStart=>exact ⟨[],[B],Nat.le_refl _,by simp,hrow0,hid (by simp),ch0,fun x hx=>by have := HB.out;simp at hx;omega⟩
 case round =>
  obtain ⟨out,G,hj,rfl,hown,Ho,hch,hG⟩:=hrel
  obtain ⟨Ao,co,rfl,-,-,-⟩:=hown.open_map
  have HG:=hid hG
  clear hG hrow0 ch0
  rcases gk with _ | j
  ·have t4:decide (((H-0:Nat):Int)<(H:Int))=false:=by simp
   go_wp2
   go_ret2
   refine ⟨_,G,rfl,?_,hch,HG.out⟩
   have e:=Ho.out
   rw [Nat.sub_zero] at e
   rw [e] at hown
   rw [e]
   exact hown
  ·obtain ⟨i,hi1⟩:∃ i,i=H-(j+1):=⟨_,rfl⟩
   rw [←hi1] at Ho ⊢
   have hi2:i<H:=by omega
   have hi3:H-j=i+1:=by omega
   have HI:=hid hi3
   clear hi1 hi3
   have hik:i<ks.length:=by rw [HKL.out];exact hi2
   obtain ⟨g,o,rfl,hcell⟩:=(hck.same hch).at_ hik
   have hk:=HKs.out _ (zG hik)
   have hgd:ks.getD i 0=ks[i]:=by rw [zD,zF hik];rfl
   have hstep:(List.range (i+1)).flatMap (fun y=>rowL l W y d (ks.getD y 0))=out++rowL l W i d ks[i]:=by
    rw [List.range_succ,List.flatMap_append,←Ho.out,List.flatMap_cons,List.flatMap_nil,List.append_nil,hgd]
   obtain ⟨k,hkk⟩:∃ k,k=ks[i]:=⟨_,rfl⟩
   rw [←hkk] at hcell hk hstep
   have hcell':wr.cell? ⟨g,o+i,none⟩=some (.int .i64 k):=hcell
   have hr:=HR.out i hi2 k hk wr (hc.same hch)
   have hrl:=rowL_len l W i d k
   obtain ⟨r,hrd⟩:∃ r,r=rowL l W i d k:=⟨_,rfl⟩
   rw [←hrd] at hr hstep hrl
   have HS:=hid hstep
   have HRL:=hid hrl
   have hol:out.length≤4096:=by
    have hml:=HMW.out
    rw [Ho.out,flatMap_len_const _ W _ fun y _=>rowL_len _ _ _ _ _,List.length_range]
    have:=Nat.mul_le_mul_left W (show i≤H by omega)
    omega
   clear hkk hik hgd hstep hrd hcell hrl
   go_wp2_with fail
   refine hr.mono ?_
   rintro e w1 ⟨v1,G1,rfl,hown1,ch1,hG1⟩
   obtain ⟨A1,c1,rfl,-,-,hcc1⟩:=hown1.open_map
   have hown':=hown.same ch1
   have hcv:Cells (fun u=>u) w1 A1 (r.map vi):=by
    obtain ⟨A',c',h5,_,_,h6,_⟩:=hown1.open_
    injection h5 with h5
    subst h5
    exact h6
   have hrl2:r.length≤64:=by rw [HRL.out];exact hw1
   clear hr hown1 hcc1
   go_wp2_with (at_builtin;refine wpList_append_s rfl rfl int_elem rfl rfl hown' (r.map vi) r.length rfl ?c1 ?c2 ?c3 ?c4 ?c5 ?_)
   case c1=>exact (zE _).symm
   case c2=>exact hcv
   case c3=>exact vi_one _
   case c4=>rw [zE,zE];omega
   case c5=>rw [zE,zE];omega
   intro v' F' w2 h2 h3
   go_wp2_with fail
   go_roundg j
   case measure=>omega
   case rel =>
    rw [HI.out]
    refine ⟨out++r,F',by omega,by go_num,?_,hid HS.out.symm,(hch.trans_same ch1).trans h3.chg fun x hx => .inr (HG.out x hx),fun x hx => ?_⟩
    ·rw [List.map_append]
     exact h2
    ·rcases h3.new x hx with h9 | h9
     ·exact HG.out x h9
     ·have:=hch.size
      have:=ch1.size
      omega
structure DSt where
 runs:List Nat
 dists:List Nat
 longest:Nat
structure DSt.Ok (s:DSt):Prop where
 rl:s.runs.length=1025
 dl:s.dists.length=65
 r64:∀ x∈s.runs,x≤64
 d1024:∀ x∈s.dists,x≤1024
 l64:s.longest≤64
def fillD:Nat→List Nat→Nat→Nat→List Nat
 | 0,D,_,_=>D
 | f+1,D,m,d=>fillD f (D.set (m+1) d) (m+1) d
theorem fillD_len:∀ f D m d,(fillD f D m d).length=D.length
 | 0,_,_,_=>rfl
 | f+1,D,m,d=>by rw [fillD,fillD_len,List.length_set]
theorem mem_set_le {l:List Nat} {i v B:Nat} (h:∀ x∈l,x≤B) (hv:v≤B):∀ x∈l.set i v,x≤B:=fun x hx=>by
 rcases List.mem_or_eq_of_mem_set hx with h1 | h1
 ·exact h x h1
 ·omega
theorem fillD_le {B:Nat}:∀ f D m d,(∀ x∈D,x≤B)→d≤B→∀ x∈fillD f D m d,x≤B
 | 0,_,_,_,h,_=>h
 | f+1,D,m,d,h,hd=>fillD_le f _ _ d (mem_set_le h hd) hd
def runAt (l:List Int) (at_:Nat) (rs:List Nat) (d:Nat):Nat:=if l.getD at_ 0=l.getD (at_-d) 0 then min (rs.getD d 0+1) 64 else 0
theorem runAt_le (l:List Int) (at_:Nat) (rs:List Nat) (d:Nat):runAt l at_ rs d≤64:=by
 unfold runAt
 split<;>omega
def dStep (l:List Int) (at_:Nat) (s:DSt) (d:Nat):DSt :=
 ⟨s.runs.set d (runAt l at_ s.runs d),fillD (runAt l at_ s.runs d-s.longest) s.dists s.longest d,max s.longest (runAt l at_ s.runs d)⟩
theorem dStep_ok {l:List Int} {at_ d:Nat} {s:DSt} (h:s.Ok) (hd:d≤1024):(dStep l at_ s d).Ok:=by
 have:=runAt_le l at_ s.runs d
 exact ⟨by simp [dStep,h.rl],by simp [dStep,fillD_len,h.dl],mem_set_le h.r64 this,fillD_le _ _ _ _ h.d1024 hd,by have:=h.l64;simp only [dStep];omega⟩
def dGo (l:List Int) (at_:Nat):Nat→Nat→DSt→DSt
 | 0,_,s=>s
 | f+1,d,s=>dGo l at_ f (d+1) (dStep l at_ s d)
theorem dGo_ok {l:List Int} {at_:Nat}:∀ f d s,s.Ok→d+f≤1025→(dGo l at_ f d s).Ok
 | 0,_,_,h,_=>h
 | f+1,d,s,h,hd=>dGo_ok f (d+1) _ (dStep_ok h (by omega)) (by omega)
def dStart (rs:List Nat):DSt:=⟨rs,List.replicate 65 0,0⟩
def distF (l:List Int) (at_:Nat) (rs:List Nat):DSt:=dGo l at_ (min at_ 1024) 1 (dStart rs)
def RunsOk (rs:List Nat):Prop:=rs.length=1025∧∀ x∈rs,x≤64
theorem dStart_ok {rs:List Nat} (h:RunsOk rs):(dStart rs).Ok :=
 ⟨h.1,by simp [dStart],h.2,fun x hx=>by rw [List.eq_of_mem_replicate hx];exact Nat.zero_le _,Nat.zero_le _⟩
theorem distF_ok {l:List Int} {at_:Nat} {rs:List Nat} (h:RunsOk rs):(distF l at_ rs).Ok:=dGo_ok _ _ _ (dStart_ok h) (by omega)
structure DSt.In (s:DSt) (B:Nat):Prop where
 rb:∀ x∈s.runs,x≤B
 lb:s.longest≤B
 db:∀ n,s.dists.getD n 0≠0→n≤s.longest
theorem getD_set (l:List Nat) (i v j:Nat):(l.set i v).getD j 0=if i=j∧i<l.length then v else l.getD j 0:=by
 rw [zD,zD,List.getElem?_set]
 by_cases h:i=j
 ·subst h
  by_cases h2:i<l.length
  ·simp [h2]
  ·simp [h2]
 ·simp [h]
theorem fillD_in:∀ f D m d n,(∀ n,D.getD n 0≠0→n≤m)→(fillD f D m d).getD n 0≠0→n≤m+f
 | 0,_,_,_,n,h,hn=>h n hn
 | f+1,D,m,d,n,h,hn=>by
  have:=fillD_in f (D.set (m+1) d) (m+1) d n (fun k hk=>by
   rw [getD_set] at hk
   split at hk
   ·omega
   ·have:=h k hk;omega) hn
  omega
theorem dStep_in {l:List Int} {at_ d B:Nat} {s:DSt} (h:s.In B) (hr:runAt l at_ s.runs d≤B):(dStep l at_ s d).In B:=by
 refine ⟨mem_set_le h.rb hr,?_,fun n hn => ?_⟩
 ·have:=h.lb;simp only [dStep];omega
 ·have:=fillD_in _ _ _ _ n h.db hn
  simp only [dStep]
  omega
theorem dGo_in {l:List Int} {at_ B:Nat}:∀ f d s,s.In (B+1)→(∀ k,d≤k→s.runs.getD k 0≤B)→(dGo l at_ f d s).In (B+1)
 | 0,_,_,h,_=>h
 | f+1,d,s,h,hb=>by
  have h1:=hb d (Nat.le_refl _)
  have hr:runAt l at_ s.runs d≤B+1:=by
   unfold runAt
   split<;>omega
  refine dGo_in f (d+1) _ (dStep_in h hr) fun k hk => ?_
  show (s.runs.set d _).getD k 0≤B
  rw [getD_set,if_neg (by omega)]
  exact hb k (by omega)
theorem distF_in {l:List Int} {at_ B:Nat} {rs:List Nat} (h:∀ x∈rs,x≤B):(distF l at_ rs).In (B+1):=by
 have hg:∀ k,rs.getD k 0≤B:=fun k=>by
  rcases Nat.lt_or_ge k rs.length with hk | hk
  ·rw [zD,zF hk];exact h _ (zG hk)
  ·rw [zD,List.getElem?_eq_none hk];exact Nat.zero_le _
 refine dGo_in _ _ _ ⟨fun x hx=>by have:=h x hx;omega,Nat.zero_le _,fun n hn => ?_⟩ fun k _=>hg k
 exfalso
 apply hn
 show (List.replicate 65 0).getD n 0=0
 rw [zD,List.getElem?_replicate]
 split<;>rfl
structure LSt where
 costs:List Nat
 first:List Tok
 runs:List Nat
def lOne (cp at_:Nat) (D:List Nat) (n:Nat) (s:List Nat × List Tok):List Nat × List Tok :=
 if n<3∨D.getD n 0=0 then s else if s.1.getD (at_+n) 0+cp≤s.1.getD at_ 0 then (s.1.set at_ (s.1.getD (at_+n) 0+cp),s.2.set at_ ⟨n,D.getD n 0,0⟩) else s
def lPick (cp at_:Nat) (D:List Nat):Nat→Nat→List Nat × List Tok→List Nat × List Tok
 | 0,_,s=>s
 | f+1,n,s=>lPick cp at_ D f (n+1) (lOne cp at_ D n s)
def lBeg (l:List Int) (lit at_:Nat) (s:LSt):List Nat × List Tok:=(s.costs.set at_ (s.costs.getD (at_+1) 0+lit),s.first.set at_ ⟨0,0,l.getD at_ 0⟩)
def lStep (l:List Int) (lit cp at_:Nat) (s:LSt):LSt :=
 ⟨(lPick cp at_ (distF l at_ s.runs).dists 65 0 (lBeg l lit at_ s)).1,(lPick cp at_ (distF l at_ s.runs).dists 65 0 (lBeg l lit at_ s)).2,(distF l at_ s.runs).runs⟩
def lGo (l:List Int) (lit cp:Nat):Nat→LSt→LSt
 | 0,s=>s
 | k+1,s=>lGo l lit cp k (lStep l lit cp k s)
def lStart (n:Nat):LSt:=⟨List.replicate (n+1) 0,List.replicate n ⟨0,0,0⟩,List.replicate 1025 0⟩
def leastSt (l:List Int) (lit cp:Nat):LSt:=lGo l lit cp l.length (lStart l.length)
def tokAt (F:List Tok) (i:Nat):Tok:=F.getD i ⟨0,0,0⟩
def tokGo (F:List Tok) (n:Nat):Nat→Nat→List Tok
 | 0,_=>[]
 | f+1,i=>if i<n then tokAt F i::tokGo F n f (i+max (tokAt F i).len 1) else []
def leastF (l:List Int) (lit cp:Nat):List Tok:=tokGo (leastSt l lit cp).first l.length l.length 0
structure PairOk (n B:Nat) (p:List Nat × List Tok):Prop where
 cl:p.1.length=n+1
 fl:p.2.length=n
 cb:∀ x∈p.1,x≤B
 fo:∀ t∈p.2,t.ok
structure LSt.Ok (n lit k:Nat) (s:LSt):Prop where
 pair:PairOk n ((n-k)*lit) (s.costs,s.first)
 rl:s.runs.length=1025
 rb:∀ x∈s.runs,x≤64∧x≤n-k
theorem getD_le {l:List Nat} {B:Nat} (h:∀ x∈l,x≤B) (i:Nat):l.getD i 0≤B:=by
 rcases Nat.lt_or_ge i l.length with hk | hk
 ·rw [zD,zF hk];exact h _ (zG hk)
 ·rw [zD,List.getElem?_eq_none hk];exact Nat.zero_le _
theorem lOne_ok {n B cp at_:Nat} {D:List Nat} {m:Nat} {p:List Nat × List Tok} (h:PairOk n B p) (hm:m≤64) (hD:∀ x∈D,x≤1024):PairOk n B (lOne cp at_ D m p):=by
 unfold lOne
 split
 ·exact h
 ·rename_i h1
  split
  ·rename_i h2
   have h3:=getD_le h.cb at_
   have h4:=getD_le hD m
   refine ⟨by simp [h.cl],by simp [h.fl],mem_set_le h.cb (by omega),fun t ht => ?_⟩
   rcases List.mem_or_eq_of_mem_set ht with h5 | rfl
   ·exact h.fo t h5
   ·right
    rw [Tok.isCopy_iff]
    exact ⟨by simp only;omega,by simp only;omega,by simp only;omega,by simp only;omega,rfl⟩
  ·exact h
theorem lPick_ok {n B cp at_:Nat} {D:List Nat} (hD:∀ x∈D,x≤1024):∀ f m p,PairOk n B p→m+f≤65→PairOk n B (lPick cp at_ D f m p)
 | 0,_,_,h,_=>h
 | f+1,m,p,h,hm=>lPick_ok hD f (m+1) _ (lOne_ok h (by omega) hD) (by omega)
theorem lBeg_ok {l:List Int} {n lit k:Nat} {s:LSt} (h:s.Ok n lit (k+1)) (hk:k<n):PairOk n ((n-k)*lit) (lBeg l lit k s):=by
 have e:(n-k)*lit=(n-(k+1))*lit+lit:=by rw [show n-k=n-(k+1)+1 by omega,Nat.add_mul,Nat.one_mul]
 have h1:=getD_le h.pair.cb (k+1)
 rw [e]
 refine ⟨by simp [lBeg,h.pair.cl],by simp [lBeg,h.pair.fl],mem_set_le (fun x hx => ?_) (by simp only at h1;omega),fun t ht => ?_⟩
 ·have:=h.pair.cb x hx;omega
 ·rcases List.mem_or_eq_of_mem_set ht with h5 | rfl
  ·exact h.pair.fo t h5
  ·left
   rfl
theorem lStep_ok {l:List Int} {n lit cp k:Nat} {s:LSt} (h:s.Ok n lit (k+1)) (hk:k<n):(lStep l lit cp k s).Ok n lit k:=by
 have hro:RunsOk s.runs:=⟨h.rl,fun x hx=>(h.rb x hx).1⟩
 have hd:=distF_ok (l:=l) (at_:=k) hro
 have hin:=distF_in (l:=l) (at_:=k) (rs:=s.runs) (B:=n-(k+1)) (fun x hx=>(h.rb x hx).2)
 refine ⟨lPick_ok hd.d1024 65 0 _ (lBeg_ok h hk) (by omega),hd.rl,fun x hx=>⟨hd.r64 x hx,?_⟩⟩
 have:=hin.rb x hx
 omega
theorem lStart_ok (n lit:Nat):(lStart n).Ok n lit n :=
 ⟨⟨List.length_replicate,List.length_replicate,fun x hx=>by rw [List.eq_of_mem_replicate hx];exact Nat.zero_le _,fun t ht=>by rw [List.eq_of_mem_replicate ht];exact .inl rfl⟩,List.length_replicate,fun x hx=>by rw [List.eq_of_mem_replicate hx];omega⟩
theorem lGo_ok {l:List Int} {n lit cp:Nat}:∀ k s,s.Ok n lit k→k≤n→(lGo l lit cp k s).Ok n lit 0
 | 0,_,h,_=>h
 | k+1,s,h,hk=>lGo_ok k _ (lStep_ok h (by omega)) (by omega)
theorem leastSt_ok (l:List Int) (lit cp:Nat):(leastSt l lit cp).Ok l.length lit 0:=lGo_ok _ _ (lStart_ok _ _) (Nat.le_refl _)
theorem tokGo_ok {F:List Tok} (h:∀ t∈F,t.ok) {n:Nat} (hn:n≤F.length):∀ f i,∀ t∈tokGo F n f i,t.ok
 | 0,_,t,ht=>by simp [tokGo] at ht
 | f+1,i,t,ht=>by
  unfold tokGo at ht
  split at ht
  ·rename_i hi
   rcases List.mem_cons.1 ht with rfl | h1
   ·unfold tokAt
    rw [zD,zF (by omega)]
    exact h _ (zG _)
   ·exact tokGo_ok h hn f _ t h1
  ·simp at ht
theorem tokGo_len {F:List Tok} {n:Nat}:∀ f i,(tokGo F n f i).length≤f
 | 0,_=>by simp [tokGo]
 | f+1,i=>by
  unfold tokGo
  split
  ·have:=tokGo_len (F:=F) (n:=n) f (i+max (tokAt F i).len 1)
   simp only [List.length_cons]
   omega
  ·exact Nat.zero_le _
theorem leastF_ok (l:List Int) (lit cp:Nat):∀ t∈leastF l lit cp,t.ok :=
 tokGo_ok (leastSt_ok l lit cp).pair.fo (by rw [(leastSt_ok l lit cp).pair.fl];exact Nat.le_refl _) _ _
theorem leastF_len (l:List Int) (lit cp:Nat):(leastF l lit cp).length≤l.length:=tokGo_len _ _
theorem rbitsAll_snoc (k:Nat) (l:List Int) (x:Int):rbitsAll k (l++[x])=rbitsAll k l++rbits k x:=by simp [rbitsAll]
theorem rput_ok (w:World) (b:Nat) (F bs:List Nat) (k:Nat) (l:List Int) (A:Option Addr) (cap:Nat) (h:IsWr w b F bs) (hk:k≤25) (hw:∀ x∈l,wideP x) (hc:Cells vi w A l)
  (hA:Apt A l F) (hlen:bs.length+65*l.length<274877906944) :
  Calls Tryz.prog 123 #[.pointer (some ⟨b,0,none⟩),.int .i64 k,.slice A l.length cap] w fun e w'=>e=.returned (.int .i64 0)∧∃ F',IsWr w' b F' (bs++rbitsAll k l)∧Grow F F' w w':=by
 have HW:=hid hw
 clear hw
 obtain ⟨n,hn⟩:∃ n,n=l.length:=⟨_,rfl⟩
 rw [←hn] at hlen ⊢
 have HN:=hid hn
 have HA:=hid hA
 clear hn hA
 go_enter Tryz.func123,Tryz.ntmps123
 go_wp2_with (go_at_call 149;refine (param_yes _ _ hk).mono ?_;rintro e w' ⟨rfl,rfl⟩)
 go_loopg [18] n (fun j i wr=>j≤n∧i=.int .i64 ((n-j:Nat):Int)∧w=wr)
 case atStart=>exact ⟨Nat.le_refl _,by simp,rfl⟩
 case round =>
  obtain ⟨hj,rfl,rfl⟩:=hrel
  rcases gk with _ | j
  ·have t4:decide (((n-0:Nat):Int)<(n:Int))=false:=by simp
   go_wp2_with fail
   go_loopg [28] n (fun j i wr=>∃ F' bs',j≤n∧i=.int .i64 ((n-j:Nat):Int)∧IsWr wr b F' bs'∧Hid (bs'=bs++rbitsAll k (l.take (n-j)))∧bs'.length≤bs.length+65*(n-j)∧Grow F F' w wr)
   case atStart=>exact ⟨F,bs,Nat.le_refl _,by simp,h,hid (by simp [rbitsAll]),by omega,Grow.refl _ _⟩
   case round =>
    obtain ⟨F',bs',hj',rfl,hb,Hb,hbl,hgr⟩:=hrel
    rcases gk with _ | j
    ·go_wp2
     go_ret
     refine ⟨rfl,F',?_,hgr⟩
     have e:l.take n=l:=by rw [HN.out,List.take_length]
     rw [Hb.out,Nat.sub_zero,e] at hb
     exact hb
    ·obtain ⟨m,hm1⟩:∃ m,m=n-(j+1):=⟨_,rfl⟩
     rw [←hm1] at Hb hbl ⊢
     have hm2:m<n:=by omega
     have hm3:n-j=m+1:=by omega
     have HM:=hid hm3
     clear hm1 hm3
     have hml:m<l.length:=by rw [←HN.out];exact hm2
     obtain ⟨g,o,rfl,hcell⟩:=(hc.keep HA.out hgr.chg).at_ hml
     have hsn:=rbitsAll_snoc k (l.take m) l[m]
     rw [←take_snoc' l hml] at hsn
     obtain ⟨x,hx⟩:∃ x,x=l[m]:=⟨_,rfl⟩
     rw [←hx] at hcell hsn
     have hcell':wr.cell? ⟨g,o+m,none⟩=some (.int .i64 x):=hcell
     have hxw:wideP x:=by rw [hx];exact HW.out _ (zG _)
     have HS:Hid (bs++rbitsAll k (l.take (m+1))=bs'++rbits k x):=by
      refine hid ?_
      rw [hsn,Hb.out,List.append_assoc]
     have hcl:=rbits_len k x
     have hcle:=rcost_le k x hk
     have hu:=rfold_lt hxw
     have hfo:=rfold_ok x wr hxw
     obtain ⟨u,hu'⟩:∃ u,u=rfold x:=⟨_,rfl⟩
     rw [←hu'] at hu hfo
     have hq:u / 2^k≤u:=Nat.div_le_self _ _
     have hqm:=Nat.div_add_mod u (2^k)
     have hlt2:=Nat.mod_lt u (Nat.two_pow_pos k)
     have hp25:2^k≤33554432:=Nat.pow_le_pow_right (n:=2) (j:=25) (by decide) hk
     obtain ⟨q,hq'⟩:∃ q,q=u / 2^k:=⟨_,rfl⟩
     obtain ⟨r,hr'⟩:∃ r,r=u%2^k:=⟨_,rfl⟩
     have e1:(u:Int) / 2^k=(q:Int):=by rw [hq'];simp
     have hrb:rbits k x=if q<32 then List.replicate q 0++1::bitsOf r k else List.replicate 32 0++1::bitsOf u 32:=by unfold rbits;rw [←hu',←hq',←hr']
     rw [←hq'] at hq hqm
     rw [←hr'] at hqm hlt2
     have hqp:(q:Int)*2^k=(u:Int)-r:=by
      have:((2^k*q+r:Nat):Int)=(u:Int):=by rw [hqm]
      rw [Int.natCast_add,Int.natCast_mul,Int.natCast_pow] at this
      rw [Int.mul_comm]
      simp at this
      omega
     have HRB:=hid hrb
     have hbl2:bs'.length+65<274877906944:=by omega
     have HCL:Hid ((bs'++rbits k x).length≤bs.length+65*(m+1)):=hid (by rw [zC,hcl];omega)
     have hru:r≤u:=by rw [hr'];exact Nat.mod_le _ _
     have HLT2:=hid hlt2
     clear hrb hqm hu' hq' hr' hcell hx hsn hml hcl hcle hlt2 hp25
     by_cases hs:q<32
     ·have t1:decide ((q:Int)<32)=true:=by simp;omega
      rw [if_pos hs] at HRB
      go_wp2_with (go_at_call 117;refine hfo.mono ?_;rintro e w' ⟨rfl,rfl⟩)
      refine (wunary_ok _ b F' bs' q hb (by omega) (by omega)).mono ?_
      rintro e w1 ⟨rfl,F2,h2,g2⟩
      go_wp2_with fail
      rw [show (u:Int)-((u:Int)-r)=r by omega]
      refine (wput_ok _ b F2 _ r k h2 (by omega) HLT2.out (by simp;omega)).mono ?_
      rintro e w2 ⟨rfl,F3,h3,g3⟩
      go_wp2_with fail
      go_roundg j
      case measure=>omega
      case rel =>
       rw [HM.out]
       refine ⟨F3,bs'++rbits k x,by omega,by go_num,?_,hid HS.out.symm,HCL.out,(hgr.trans g2).trans g3⟩
       rw [HRB.out]
       simpa using h3
     ·have t1:decide ((q:Int)<32)=false:=by simp;omega
      rw [if_neg hs] at HRB
      go_wp2_with (go_at_call 117;refine hfo.mono ?_;rintro e w' ⟨rfl,rfl⟩)
      refine (wunary_ok _ b F' bs' 32 hb (by omega) (by omega)).mono ?_
      rintro e w1 ⟨rfl,F2,h2,g2⟩
      go_wp2_with fail
      refine (wput_ok _ b F2 _ u 32 h2 (by omega) (by omega) (by simp;omega)).mono ?_
      rintro e w2 ⟨rfl,F3,h3,g3⟩
      go_wp2_with fail
      go_roundg j
      case measure=>omega
      case rel =>
       rw [HM.out]
       refine ⟨F3,bs'++rbits k x,by omega,by go_num,?_,hid HS.out.symm,HCL.out,(hgr.trans g2).trans g3⟩
       rw [HRB.out]
       simpa using h3
  ·obtain ⟨m,hm1⟩:∃ m,m=n-(j+1):=⟨_,rfl⟩
   rw [←hm1]
   have hm2:m<n:=by omega
   have hm3:n-j=m+1:=by omega
   have HM:=hid hm3
   clear hm1 hm3
   have hml:m<l.length:=by rw [←HN.out];exact hm2
   obtain ⟨g,o,rfl,hcell⟩:=hc.at_ hml
   have hxw:wideP l[m]:=HW.out _ (zG _)
   obtain ⟨x,hx⟩:∃ x,x=l[m]:=⟨_,rfl⟩
   rw [←hx] at hcell hxw
   have hcell':w.cell? ⟨g,o+m,none⟩=some (.int .i64 x):=hcell
   clear hcell hx hml
   go_wp2_with (go_at_call 166;refine (wide_yes _ _ hxw).mono ?_;rintro e w' ⟨rfl,rfl⟩)
   go_roundg j
   case measure=>omega
   case rel =>
    rw [HM.out]
    exact ⟨by omega,by go_num,rfl⟩
def lenOf (t:Tok):Int:=unfoldI (t.len-3)
def codeOf (W:Nat) (t:Tok):Int:=unfoldI (codeN t.dist W-1)
def copyLens (T:List Tok):List Int:=T.flatMap fun t=>if t.isLit then [] else [lenOf t]
def copyCodes (W:Nat) (T:List Tok):List Int:=T.flatMap fun t=>if t.isLit then [] else [codeOf W t]
def tokBits (k j W d:Nat) (t:Tok):List Nat:=if t.isLit then bitsOf 0 1++bitsOf t.lit.toNat d else bitsOf 1 1++rbits k (lenOf t)++rbits j (codeOf W t)
def matchBits (T:List Tok) (W d:Nat):List Nat :=
 bitsOf (rbest (copyLens T)) 5++bitsOf (rbest (copyCodes W T)) 5++T.flatMap (tokBits (rbest (copyLens T)) (rbest (copyCodes W T)) W d)
def TokOk (d:Nat) (t:Tok):Prop:=(t.isLit=true∧0≤t.lit∧t.lit<2^d)∨(t.isLit=false∧t.isCopy=true)
theorem TokOk.ok {d:Nat} {t:Tok} (h:TokOk d t):t.ok:=by
 rcases h with h | h
 ·exact .inl h.1
 ·exact .inr h.2
theorem unfoldI_wide {u:Nat} (h:u≤1073741823):wideP (unfoldI u):=by
 unfold wideP unfoldI
 split<;>omega
theorem lenOf_wide {t:Tok} (h:t.isCopy=true):wideP (lenOf t):=by
 have:=Tok.isCopy_iff.1 h
 exact unfoldI_wide (by omega)
theorem codeOf_wide {t:Tok} (W:Nat) (h:t.isCopy=true):wideP (codeOf W t):=by
 have h1:=Tok.isCopy_iff.1 h
 have h2:=(codeN_ok (d:=t.dist) (W:=W) (by omega)).1
 exact unfoldI_wide (by omega)
theorem copyLens_wide {d:Nat} {T:List Tok} (h:∀ t∈T,TokOk d t):∀ x∈copyLens T,wideP x:=fun x hx=>by
 obtain ⟨t,ht,hxt⟩:=List.mem_flatMap.1 hx
 rcases h t ht with h1 | h1
 ·rw [if_pos h1.1] at hxt;simp at hxt
 ·rw [if_neg (by simp [h1.1])] at hxt
  rw [List.mem_singleton.1 hxt]
  exact lenOf_wide h1.2
theorem copyCodes_wide {d W:Nat} {T:List Tok} (h:∀ t∈T,TokOk d t):∀ x∈copyCodes W T,wideP x:=fun x hx=>by
 obtain ⟨t,ht,hxt⟩:=List.mem_flatMap.1 hx
 rcases h t ht with h1 | h1
 ·rw [if_pos h1.1] at hxt;simp at hxt
 ·rw [if_neg (by simp [h1.1])] at hxt
  rw [List.mem_singleton.1 hxt]
  exact codeOf_wide W h1.2
theorem copyLens_len (T:List Tok):(copyLens T).length≤T.length:=by
 induction T with
 | nil=>exact Nat.le_refl _
 | cons t T ih =>
  have e:copyLens (t::T)=(if t.isLit then [] else [lenOf t])++copyLens T:=rfl
  rw [e,zC]
  split<;>simp<;>omega
theorem copyCodes_len (W:Nat) (T:List Tok):(copyCodes W T).length=(copyLens T).length:=by
 induction T with
 | nil=>rfl
 | cons t T ih =>
  have e:copyLens (t::T)=(if t.isLit then [] else [lenOf t])++copyLens T:=rfl
  have e2:copyCodes W (t::T)=(if t.isLit then [] else [codeOf W t])++copyCodes W T:=rfl
  rw [e,e2,zC,zC,ih]
  split<;>rfl
theorem copyLens_snoc (T:List Tok) (t:Tok):copyLens (T++[t])=copyLens T++(if t.isLit then [] else [lenOf t]):=by simp [copyLens]
theorem copyCodes_snoc (W:Nat) (T:List Tok) (t:Tok):copyCodes W (T++[t])=copyCodes W T++(if t.isLit then [] else [codeOf W t]):=by simp [copyCodes]
theorem copyLens_at (T:List Tok) {i:Nat} {t:Tok} (h:T[i]?=some t) (hl:t.isLit=false) :
  (copyLens T)[(copyLens (T.take i)).length]?=some (lenOf t):=by
 have hi:i<T.length:=(List.getElem?_eq_some_iff.1 h).1
 have e:T=T.take i++t::T.drop (i+1):=by
  have h2:=(List.getElem?_eq_some_iff.1 h).2
  rw [←h2,←List.drop_eq_getElem_cons hi,List.take_append_drop]
 have e2:copyLens T=copyLens (T.take i)++(lenOf t::copyLens (T.drop (i+1))):=by
  have e3:∀ a b:List Tok,copyLens (a++b)=copyLens a++copyLens b:=fun a b=>by simp [copyLens]
  have e4:copyLens (t::T.drop (i+1))=(if t.isLit then [] else [lenOf t])++copyLens (T.drop (i+1)):=rfl
  rw [hl] at e4
  rw [show copyLens T=copyLens (T.take i++t::T.drop (i+1)) from congrArg copyLens e,e3,e4]
  rfl
 rw [e2,List.getElem?_append_right (Nat.le_refl _),Nat.sub_self]
 rfl
theorem copyCodes_at (W:Nat) (T:List Tok) {i:Nat} {t:Tok} (h:T[i]?=some t) (hl:t.isLit=false) :
  (copyCodes W T)[(copyLens (T.take i)).length]?=some (codeOf W t):=by
 have hi:i<T.length:=(List.getElem?_eq_some_iff.1 h).1
 have e:T=T.take i++t::T.drop (i+1):=by
  have h2:=(List.getElem?_eq_some_iff.1 h).2
  rw [←h2,←List.drop_eq_getElem_cons hi,List.take_append_drop]
 have e2:copyCodes W T=copyCodes W (T.take i)++(codeOf W t::copyCodes W (T.drop (i+1))):=by
  have e3:∀ a b:List Tok,copyCodes W (a++b)=copyCodes W a++copyCodes W b:=fun a b=>by simp [copyCodes]
  have e4:copyCodes W (t::T.drop (i+1))=(if t.isLit then [] else [codeOf W t])++copyCodes W (T.drop (i+1)):=rfl
  rw [hl] at e4
  rw [show copyCodes W T=copyCodes W (T.take i++t::T.drop (i+1)) from congrArg (copyCodes W) e,e3,e4]
  rfl
 rw [e2,←copyCodes_len W,List.getElem?_append_right (Nat.le_refl _),Nat.sub_self]
 rfl
theorem tokBits_len {k j W d:Nat} (hk:k≤25) (hj:j≤25) (hd:d≤16) (t:Tok):(tokBits k j W d t).length≤131:=by
 unfold tokBits
 have h1:=rcost_le k (lenOf t) hk
 have h2:=rcost_le j (codeOf W t) hj
 split
 ·rw [zC,bitsOf_len,bitsOf_len];omega
 ·rw [zC,zC,bitsOf_len,rbits_len,rbits_len];omega
theorem flat_len_le {α:Type} (f:α→List Nat) (B:Nat) (h:∀ a,(f a).length≤B) (l:List α):(l.flatMap f).length≤B*l.length:=by
 induction l with
 | nil=>simp
 | cons a l ih =>
  rw [List.flatMap_cons,zC,List.length_cons,Nat.mul_add,Nat.mul_one]
  have:=h a
  omega
theorem matchBits_len (T:List Tok) (W d:Nat) (hd:d≤16):(matchBits T W d).length≤10+131*T.length:=by
 unfold matchBits
 have h1:=flat_len_le (tokBits (rbest (copyLens T)) (rbest (copyCodes W T)) W d) 131 (fun t=>tokBits_len (rbest_le _) (rbest_le _) hd t) T
 rw [zC,zC,bitsOf_len,bitsOf_len]
 omega
theorem mvalid_yes (d:Nat) (w:World) (h0:1≤d) (h1:d≤16):Calls Tryz.prog 146 #[.int .i64 d] w fun e w'=>e=.returned (.bool true)∧w=w':=by
 have t1:decide ((1:Int)≤(d:Int))=true:=zB (by omega)
 have t2:decide ((d:Int)≤16)=true:=zB (by omega)
 go_enter Tryz.func146,Tryz.ntmps146
 go_wp2
 go_ret
 exact ⟨rfl,rfl⟩
theorem isCtx_yes (c:Nat) (w:World) (h1:c<365):Calls Tryz.prog 151 #[.int .i64 c] w fun e w'=>e=.returned (.bool true)∧w=w':=by
 have t1:decide ((0:Int)≤(c:Int))=true:=zB (by omega)
 have t2:decide ((c:Int)<365)=true:=zB (by omega)
 go_enter Tryz.func151,Tryz.ntmps151
 go_wp2
 go_ret
 exact ⟨rfl,rfl⟩
theorem abs_ok (x:Int) (w:World) (h:midP x):Calls Tryz.prog 152 #[.int .i64 x] w fun e w'=>e=.returned (.int .i64 (absI x))∧w=w':=by
 obtain ⟨h1,h2⟩:=h
 by_cases hx:x<0
 ·have t1:decide (x<0)=true:=zB hx
  have hd:absI x=-x:=by unfold absI;rw [if_pos hx]
  have HD:=hid hd
  clear hd
  go_enter Tryz.func152,Tryz.ntmps152
  go_wp2
  go_ret
  rw [HD.out]
  exact ⟨rfl,rfl⟩
 ·have t1:decide (x<0)=false:=zA hx
  have hd:absI x=x:=by unfold absI;rw [if_neg hx]
  have HD:=hid hd
  clear hd
  go_enter Tryz.func152,Tryz.ntmps152
  go_wp2
  go_ret
  rw [HD.out]
  exact ⟨rfl,rfl⟩
theorem level_ok (g:Int) (d:Nat) (w:World) (h0:1≤d) (h1:d≤16) (hg0 : -2^d<g) (hg1:g<2^d):Calls Tryz.prog 210 #[.int .i64 g,.int .i64 d] w fun e w'=>e=.returned (.int .i64 (levelI g d))∧w=w':=by
 obtain ⟨hp0,hp1⟩:=pow_d h0 h1
 have t1:decide (g≤(-2^d:Int))=false:=zA (by omega)
 have t2:decide ((2:Int)^d≤g)=false:=zA (by omega)
 have hv:=mvalid_yes d w h0 h1
 by_cases hz:g=0
 ·have t3:(g==0)=true:=by rw [beq_iff_eq];exact hz
  have hd:levelI g d=0:=by unfold levelI;rw [if_pos hz]
  have HD:=hid hd
  clear hd hz
  go_enter Tryz.func210,Tryz.ntmps210
  go_wp2_with (go_at_call 146;refine hv.mono ?_;rintro e w' ⟨rfl,rfl⟩)
  go_ret
  rw [HD.out]
  exact ⟨rfl,rfl⟩
 ·have t3:(g==0)=false:=by rw [beq_eq_false_iff_ne];exact hz
  have ha:=abs_ok g w (by unfold midP;omega)
  have har:0≤absI g∧absI g≤65536:=by unfold absI;split<;>omega
  have hd:levelI g d=if g<0 then -steep (absI g*256 / 2^d) else steep (absI g*256 / 2^d):=by unfold levelI;rw [if_neg hz]
  obtain ⟨a,ha'⟩:∃ a,a=absI g:=⟨_,rfl⟩
  rw [←ha'] at ha har hd
  obtain ⟨ha0,ha1⟩:=har
  obtain ⟨u,hu⟩:∃ u,u=a*256 / 2^d:=⟨_,rfl⟩
  have hu0:0≤u:=by rw [hu];exact Int.ediv_nonneg (by omega) (by omega)
  rw [←hu] at hd
  have huI:a*256 / 2^d=u:=hu.symm
  have hul:u≤a*256:=by rw [hu];exact Int.ediv_le_self _ (by omega)
  obtain ⟨st,hst⟩:∃ st,st=steep u:=⟨_,rfl⟩
  have hsd:st=if u<3 then 1 else if u<7 then 2 else if u<21 then 3 else 4:=by rw [hst];rfl
  rw [←hst] at hd
  have HD:=hid hd
  have HS:=hid hsd
  clear hd hst hsd hu ha'
  have key:∀ k:Int,st=k→-4≤k→k≤4→Hid (levelI g d=if g<0 then -k else k):=fun k hk _ _=>hid (by rw [HD.out,hk])
  have tn:∀ (h:g<0),decide (g<0)=true:=fun h=>zB h
  have tp:∀ (h:¬ g<0),decide (g<0)=false:=fun h=>zA h
  have Htn:=hid tn
  have Htp:=hid tp
  have HKey:=hid key
  clear tn tp key HD
  by_cases u3:u<3
  ·have c1:decide (u<3)=true:=zB u3
   have hs:=HS.out
   rw [if_pos u3] at hs
   have HK:=HKey.out 1 hs (by omega) (by omega)
   clear hs
   by_cases hn:g<0
   ·have t4:=Htn.out hn
    rw [if_pos hn] at HK
    go_enter Tryz.func210,Tryz.ntmps210
    go_wp2_with (first | (go_at_call 146;refine hv.mono ?_;rintro e w' ⟨rfl,rfl⟩) | (go_at_call 152;refine ha.mono ?_;rintro e w' ⟨rfl,rfl⟩))
    go_ret
    rw [HK.out]
    exact ⟨rfl,rfl⟩
   ·have t4:=Htp.out hn
    rw [if_neg hn] at HK
    go_enter Tryz.func210,Tryz.ntmps210
    go_wp2_with (first | (go_at_call 146;refine hv.mono ?_;rintro e w' ⟨rfl,rfl⟩) | (go_at_call 152;refine ha.mono ?_;rintro e w' ⟨rfl,rfl⟩))
    go_ret
    rw [HK.out]
    exact ⟨rfl,rfl⟩
  ·have c1:decide (u<3)=false:=zA u3
   by_cases u7:u<7
   ·have c2:decide (u<7)=true:=zB u7
    have hs:=HS.out
    rw [if_neg u3,if_pos u7] at hs
    have HK:=HKey.out 2 hs (by omega) (by omega)
    clear hs
    by_cases hn:g<0
    ·have t4:=Htn.out hn
     rw [if_pos hn] at HK
     go_enter Tryz.func210,Tryz.ntmps210
     go_wp2_with (first | (go_at_call 146;refine hv.mono ?_;rintro e w' ⟨rfl,rfl⟩) | (go_at_call 152;refine ha.mono ?_;rintro e w' ⟨rfl,rfl⟩))
     go_ret
     rw [HK.out]
     exact ⟨rfl,rfl⟩
    ·have t4:=Htp.out hn
     rw [if_neg hn] at HK
     go_enter Tryz.func210,Tryz.ntmps210
     go_wp2_with (first | (go_at_call 146;refine hv.mono ?_;rintro e w' ⟨rfl,rfl⟩) | (go_at_call 152;refine ha.mono ?_;rintro e w' ⟨rfl,rfl⟩))
     go_ret
     rw [HK.out]
     exact ⟨rfl,rfl⟩
   ·have c2:decide (u<7)=false:=zA u7
    by_cases u21:u<21
    ·have c3:decide (u<21)=true:=zB u21
     have hs:=HS.out
     rw [if_neg u3,if_neg u7,if_pos u21] at hs
     have HK:=HKey.out 3 hs (by omega) (by omega)
     clear hs
     by_cases hn:g<0
     ·have t4:=Htn.out hn
      rw [if_pos hn] at HK
      go_enter Tryz.func210,Tryz.ntmps210
      go_wp2_with (first | (go_at_call 146;refine hv.mono ?_;rintro e w' ⟨rfl,rfl⟩) | (go_at_call 152;refine ha.mono ?_;rintro e w' ⟨rfl,rfl⟩))
      go_ret
      rw [HK.out]
      exact ⟨rfl,rfl⟩
     ·have t4:=Htp.out hn
      rw [if_neg hn] at HK
      go_enter Tryz.func210,Tryz.ntmps210
      go_wp2_with (first | (go_at_call 146;refine hv.mono ?_;rintro e w' ⟨rfl,rfl⟩) | (go_at_call 152;refine ha.mono ?_;rintro e w' ⟨rfl,rfl⟩))
      go_ret
      rw [HK.out]
      exact ⟨rfl,rfl⟩
    ·have c3:decide (u<21)=false:=zA u21
     have hs:=HS.out
     rw [if_neg u3,if_neg u7,if_neg u21] at hs
     have HK:=HKey.out 4 hs (by omega) (by omega)
     clear hs
     by_cases hn:g<0
     ·have t4:=Htn.out hn
      rw [if_pos hn] at HK
      go_enter Tryz.func210,Tryz.ntmps210
      go_wp2_with (first | (go_at_call 146;refine hv.mono ?_;rintro e w' ⟨rfl,rfl⟩) | (go_at_call 152;refine ha.mono ?_;rintro e w' ⟨rfl,rfl⟩))
      go_ret
      rw [HK.out]
      exact ⟨rfl,rfl⟩
     ·have t4:=Htp.out hn
      rw [if_neg hn] at HK
      go_enter Tryz.func210,Tryz.ntmps210
      go_wp2_with (first | (go_at_call 146;refine hv.mono ?_;rintro e w' ⟨rfl,rfl⟩) | (go_at_call 152;refine ha.mono ?_;rintro e w' ⟨rfl,rfl⟩))
      go_ret
      rw [HK.out]
      exact ⟨rfl,rfl⟩
theorem quiet_eq {P:Program} {f:FuncId} {args:Array Value} {w:World} {n:Nat} {v:Value}
  (h:Calls P f args (w.drewN n) fun e w'=>e=.returned v∧w.drewN n=w'):Calls P f args (w.drewN n) fun e w''=>e=.returned v∧∃ m,w''=w.drewN m :=
 h.mono fun _ _ ⟨he,hm⟩=>⟨he,n,hm.symm⟩
theorem levels_ok (g:Nbr) (d:Nat) (w:World) (h0:1≤d) (h1:d≤16) (hg:NbrOk d g) :
  Calls Tryz.prog 187 #[.int .i64 g.w,.int .i64 g.n,.int .i64 g.nw,.int .i64 g.ne,.int .i64 d] w fun e w'=>e=.returned (.agg #[.int .i64 (levelI (g.ne-g.n) d),.int .i64 (levelI (g.n-g.nw) d),.int .i64 (levelI (g.nw-g.w) d)])∧Chg [] w w':=by
 obtain ⟨hp0,hp1⟩:=pow_d h0 h1
 obtain ⟨a,b,c,e⟩:=g
 obtain ⟨⟨a1,a2⟩,⟨b1,b2⟩,⟨c1,c2⟩,⟨e1,e2⟩⟩:=hg
 simp only at a1 a2 b1 b2 c1 c2 e1 e2 ⊢
 have hv:=fun w=>mvalid_yes d w h0 h1
 have u1:decide (a<0)=false:=zA (by omega)
 have u2:decide ((2:Int)^d≤a)=false:=zA (by omega)
 have u3:decide (b<0)=false:=zA (by omega)
 have u4:decide ((2:Int)^d≤b)=false:=zA (by omega)
 have u5:decide (c<0)=false:=zA (by omega)
 have u6:decide ((2:Int)^d≤c)=false:=zA (by omega)
 have u7:decide (e<0)=false:=zA (by omega)
 have u8:decide ((2:Int)^d≤e)=false:=zA (by omega)
 have i0:∀ w,(Instr.index 45 (.agg #[.int .i64 a,.int .i64 b,.int .i64 c,.int .i64 e]) (.int .i64 0)).run Tryz.prog w=.ok (.int .i64 a) w:=fun _=>by kernel_rfl
 have i1:∀ w,(Instr.index 45 (.agg #[.int .i64 a,.int .i64 b,.int .i64 c,.int .i64 e]) (.int .i64 1)).run Tryz.prog w=.ok (.int .i64 b) w:=fun _=>by kernel_rfl
 have i2:∀ w,(Instr.index 45 (.agg #[.int .i64 a,.int .i64 b,.int .i64 c,.int .i64 e]) (.int .i64 2)).run Tryz.prog w=.ok (.int .i64 c) w:=fun _=>by kernel_rfl
 have i3:∀ w,(Instr.index 45 (.agg #[.int .i64 a,.int .i64 b,.int .i64 c,.int .i64 e]) (.int .i64 3)).run Tryz.prog w=.ok (.int .i64 e) w:=fun _=>by kernel_rfl
 go_enter Tryz.func187,Tryz.ntmps187
 go_wp2_with (go_at_call 146;refine (hv _).mono ?_;rintro e w' ⟨rfl,rfl⟩)
 have hbr:=Blk.new w 217 #[.int .i64 0,.int .i64 0,.int .i64 0]
 have ch0:Chg [] w (w.alloc (.cells #[.int .i64 0,.int .i64 0,.int .i64 0] 217)):=(Chg.refl [] w).alloc _
 obtain ⟨B,hB⟩:∃ B,B=w.heap.size:=⟨_,rfl⟩
 rw [←hB] at hbr ⊢
 generalize w.alloc (.cells #[.int .i64 0,.int .i64 0,.int .i64 0] 217)=w0 at *
 have HB:=hid hB
 clear hB
 go_loopg [22] 4 (fun j iv wr=>w0=wr∧((j=4∧iv=.int .i64 0)∨(j=3∧iv=.int .i64 1)∨(j=2∧iv=.int .i64 2)∨(j=1∧iv=.int .i64 3)∨(j=0∧iv=.int .i64 4)))
 case atStart=>exact ⟨rfl,.inl ⟨rfl,rfl⟩⟩
 case round =>
  obtain ⟨rfl,hrel⟩:=hrel
  rcases hrel with ⟨rfl,rfl⟩ | ⟨rfl,rfl⟩ | ⟨rfl,rfl⟩ | ⟨rfl,rfl⟩ | ⟨rfl,rfl⟩
  ·go_wp2
   go_roundg 3
   case measure=>omega
   case rel=>exact ⟨rfl,.inr (.inl ⟨rfl,rfl⟩)⟩
  ·go_wp2
   go_roundg 2
   case measure=>omega
   case rel=>exact ⟨rfl,.inr (.inr (.inl ⟨rfl,rfl⟩))⟩
  ·go_wp2
   go_roundg 1
   case measure=>omega
   case rel=>exact ⟨rfl,.inr (.inr (.inr (.inl ⟨rfl,rfl⟩)))⟩
  ·go_wp2
   go_roundg 0
   case measure=>omega
   case rel=>exact ⟨rfl,.inr (.inr (.inr (.inr ⟨rfl,rfl⟩)))⟩
  ·clear i0 i1 i2 i3 u1 u2 u3 u4 u5 u6 u7 u8
   have l0:=level_ok (e-b) d w0 h0 h1 (by omega) (by omega)
   have l1:=level_ok (b-c) d w0 h0 h1 (by omega) (by omega)
   have l2:=level_ok (c-a) d w0 h0 h1 (by omega) (by omega)
   obtain ⟨x0,hx0⟩:∃ x,x=levelI (e-b) d:=⟨_,rfl⟩
   obtain ⟨x1,hx1⟩:∃ x,x=levelI (b-c) d:=⟨_,rfl⟩
   obtain ⟨x2,hx2⟩:∃ x,x=levelI (c-a) d:=⟨_,rfl⟩
   rw [←hx0] at l0
   rw [←hx1] at l1
   rw [←hx2] at l2
   have HX0:=hid hx0
   have HX1:=hid hx1
   have HX2:=hid hx2
   clear hx0 hx1 hx2
   have q0:=hbr.cell 0
   have q1:=hbr.cell 1
   have q2:=hbr.cell 2
   have f0:=hbr.frozen 0
   have f1:=hbr.frozen 1
   have f2:=hbr.frozen 2
   simp at q0 q1 q2
   go_wp2_with fail
   refine l0.mono ?_
   rintro e w' ⟨rfl,rfl⟩
   go_wp2_with fail
   refine l1.mono ?_
   rintro e w' ⟨rfl,rfl⟩
   go_wp2_with fail
   refine l2.mono ?_
   rintro e w' ⟨rfl,rfl⟩
   go_wp2_with fail
   have hF:=((hbr.set_ 0 (.int .i64 x0)).set_ 1 (.int .i64 x1)).set_ 2 (.int .i64 x2)
   have chF:Chg [] w (((w0.setCell ⟨B,0,none⟩ (.int .i64 x0)).setCell ⟨B,1,none⟩ (.int .i64 x1)).setCell ⟨B,2,none⟩ (.int .i64 x2)):=((ch0.setCell (.inr (by have:=HB.out;simp;omega)) _).setCell (.inr (by have:=HB.out;simp;omega)) _).setCell (.inr (by have:=HB.out;simp;omega)) _
   generalize ((w0.setCell ⟨B,0,none⟩ (.int .i64 x0)).setCell ⟨B,1,none⟩ (.int .i64 x1)).setCell ⟨B,2,none⟩ (.int .i64 x2)=wF at *
   have g0:=hF.cell 0
   have g1:=hF.cell 1
   have g2:=hF.cell 2
   simp at g0 g1 g2
   exact bodyPost_ret (v:=.agg #[.int .i64 x0,.int .i64 x1,.int .i64 x2]) (by simp [results,Tryz.results187,go_sem,g0,g1,g2]) rfl ⟨by rw [HX0.out,HX1.out,HX2.out],chF⟩
theorem context_ok (g:Nbr) (d:Nat) (w:World) (h0:1≤d) (h1:d≤16) (hg:NbrOk d g) :
  Calls Tryz.prog 147 #[.int .i64 g.w,.int .i64 g.n,.int .i64 g.nw,.int .i64 g.ne,.int .i64 d] w fun e w'=>e=.returned (.tuple #[.int .i64 (ctxN g d),.bool (turnB g d)])∧Chg [] w w':=by
 have hl:=levels_ok g d w h0 h1 hg
 have r0:=levelI_ok (g.ne-g.n) d
 have r1:=levelI_ok (g.n-g.nw) d
 have r2:=levelI_ok (g.nw-g.w) d
 have hc:ctxI g d=81*levelI (g.ne-g.n) d+9*levelI (g.n-g.nw) d+levelI (g.nw-g.w) d:=rfl
 have ht:turnB g d=decide (ctxI g d<0):=rfl
 have hn:((ctxN g d:Nat):Int)=absI (ctxI g d):=by
  unfold ctxN
  exact Int.toNat_of_nonneg (by unfold absI;split<;>omega)
 obtain ⟨x0,hx0⟩:∃ x,x=levelI (g.ne-g.n) d:=⟨_,rfl⟩
 obtain ⟨x1,hx1⟩:∃ x,x=levelI (g.n-g.nw) d:=⟨_,rfl⟩
 obtain ⟨x2,hx2⟩:∃ x,x=levelI (g.nw-g.w) d:=⟨_,rfl⟩
 rw [←hx0,←hx1,←hx2] at hl hc
 rw [←hx0] at r0
 rw [←hx1] at r1
 rw [←hx2] at r2
 obtain ⟨n,hnn⟩:∃ n,n=ctxI g d:=⟨_,rfl⟩
 rw [←hnn] at ht hn hc
 obtain ⟨r00,r01⟩:=r0
 obtain ⟨r10,r11⟩:=r1
 obtain ⟨r20,r21⟩:=r2
 have hab:=fun w=>abs_ok n w (by unfold midP;omega)
 have HT:=hid ht
 have HN:=hid hn
 have hc':81*x0+9*x1+x2=n:=hc.symm
 clear ht hn hx0 hx1 hx2 hnn hc
 go_enter Tryz.func147,Tryz.ntmps147
 go_wp2_with fail
 refine hl.mono ?_
 rintro e w1 ⟨rfl,ch1⟩
 go_wp2_with (go_at_call 152;refine (hab _).mono ?_;rintro e w' ⟨rfl,rfl⟩)
 go_ret2
 rw [HT.out,HN.out]
 exact ⟨rfl,ch1.alloc _⟩
theorem class_ok (g:Nbr) (d:Nat) (w:World) (h0:1≤d) (h1:d≤16) (hg:NbrOk d g) :
  Calls Tryz.prog 156 #[.int .i64 g.w,.int .i64 g.n,.int .i64 g.nw,.int .i64 g.ne,.int .i64 d] w fun e w'=>e=.returned (.int .i64 (classI g d))∧Chg [] w w':=by
 have hl:=levels_ok g d w h0 h1 hg
 have r0:=levelI_ok (g.ne-g.n) d
 have r1:=levelI_ok (g.n-g.nw) d
 have r2:=levelI_ok (g.nw-g.w) d
 have hc:classI g d=absI (levelI (g.ne-g.n) d)+absI (levelI (g.n-g.nw) d)+absI (levelI (g.nw-g.w) d):=rfl
 obtain ⟨x0,hx0⟩:∃ x,x=levelI (g.ne-g.n) d:=⟨_,rfl⟩
 obtain ⟨x1,hx1⟩:∃ x,x=levelI (g.n-g.nw) d:=⟨_,rfl⟩
 obtain ⟨x2,hx2⟩:∃ x,x=levelI (g.nw-g.w) d:=⟨_,rfl⟩
 rw [←hx0,←hx1,←hx2] at hl hc
 rw [←hx0] at r0
 rw [←hx1] at r1
 rw [←hx2] at r2
 have ab:∀ x:Int,-4≤x∧x≤4→0≤absI x∧absI x≤4:=fun x hx=>by unfold absI;split<;>omega
 have b0:=ab x0 r0
 have b1:=ab x1 r1
 have b2:=ab x2 r2
 have a0:=fun w=>abs_ok x0 w (by unfold midP;omega)
 have a1:=fun w=>abs_ok x1 w (by unfold midP;omega)
 have a2:=fun w=>abs_ok x2 w (by unfold midP;omega)
 generalize absI x0=y0 at *
 generalize absI x1=y1 at *
 generalize absI x2=y2 at *
 obtain ⟨b00,b01⟩:=b0
 obtain ⟨b10,b11⟩:=b1
 obtain ⟨b20,b21⟩:=b2
 have HC:=hid hc
 clear hx0 hx1 hx2 hc ab r0 r1 r2
 go_enter Tryz.func156,Tryz.ntmps156
 go_wp2_with fail
 refine hl.mono ?_
 rintro e w1 ⟨rfl,ch1⟩
 go_wp2_with fail
 go_quiet ((first | (go_at_call 152;with_reducible exact quiet_eq (a0 _)) | (go_at_call 152;with_reducible exact quiet_eq (a1 _)) | (go_at_call 152;with_reducible exact quiet_eq (a2 _))))
 go_wp2
 go_ret
 rw [HC.out]
 exact ⟨rfl,(ch1.alloc _).drewN _⟩
def mdZero (z:Array Value) (v:Int):Array Value:=z.setIfInBounds 0 (.int .i64 v)
theorem md_zeros:Tryz.zeroCells181=(List.replicate 1461 (Value.int .i64 0)).toArray:=by kernel_rfl
theorem md_zsize:(Tryz.zeroCells181).size=1461:=by rw [md_zeros,List.size_toArray,List.length_replicate]
theorem mdZero_size {z:Array Value} (hz:z.size=1461) (v:Int):(mdZero z v).size=1461:=by
 unfold mdZero
 rw [Array.size_setIfInBounds,hz]
theorem mdZero_get0 {z:Array Value} (hz:z.size=1461) (v:Int):(mdZero z v)[0]?=some (.int .i64 v):=by
 unfold mdZero
 rw [Array.getElem?_setIfInBounds,if_pos rfl,if_pos (by omega)]
theorem mdZero_get {z:Array Value} (hz:z=(List.replicate 1461 (Value.int .i64 0)).toArray) (v:Int) (i:Nat) (h0:0<i) (h1:i<1461):(mdZero z v)[i]?=some (.int .i64 0):=by
 unfold mdZero
 rw [Array.getElem?_setIfInBounds,if_neg (by omega),hz,List.getElem?_toArray,List.getElem?_replicate,if_pos h1]
structure MdRep (cs:Array Value) (d:Nat) (m:List Stat):Prop where
 size:cs.size=1461
 len:m.length=365
 depth:cs[0]?=some (.int .i64 d)
 n:∀ i s,m[i]?=some s→cs[1+i*4]?=some (.int .i64 s.n)
 a:∀ i s,m[i]?=some s→cs[1+i*4+1]?=some (.int .i64 s.a)
 b:∀ i s,m[i]?=some s→cs[1+i*4+2]?=some (.int .i64 s.b)
 c:∀ i s,m[i]?=some s→cs[1+i*4+3]?=some (.int .i64 s.c)
theorem MdRep.set4 {cs:Array Value} {d:Nat} {m:List Stat} (h:MdRep cs d m) {i:Nat} (hi:i<365) (s:Stat) :
  MdRep ((((cs.setIfInBounds (1+i*4) (.int .i64 s.n)).setIfInBounds (1+i*4+1) (.int .i64 s.a)).setIfInBounds (1+i*4+2) (.int .i64 s.b)).setIfInBounds (1+i*4+3) (.int .i64 s.c)) d (m.set i s):=by
 have hs:=h.size
 have hl:=h.len
 refine ⟨by simp [hs],by simp [hl],?_,?_,?_,?_,?_⟩
 ·simp only [Array.getElem?_setIfInBounds]
  rw [if_neg (by omega),if_neg (by omega),if_neg (by omega),if_neg (by omega)]
  exact h.depth
 all_goals
  intro j t hj
  rw [List.getElem?_set] at hj
  simp only [Array.getElem?_setIfInBounds,Array.size_setIfInBounds,hs]
  by_cases hij:i=j
  ·subst hij
   rw [if_pos rfl,if_pos (by omega)] at hj
   injection hj with hj
   subst hj
   first
    | (rw [if_pos (by omega),if_pos (by omega)])
    | (rw [if_neg (by omega),if_pos (by omega),if_pos (by omega)])
    | (rw [if_neg (by omega),if_neg (by omega),if_pos (by omega),if_pos (by omega)])
    | (rw [if_neg (by omega),if_neg (by omega),if_neg (by omega),if_pos (by omega),if_pos (by omega)])
  ·rw [if_neg hij] at hj
   rw [if_neg (by omega),if_neg (by omega),if_neg (by omega),if_neg (by omega)]
   first | exact h.n j t hj | exact h.a j t hj | exact h.b j t hj | exact h.c j t hj
structure IsMd (w:World) (b d:Nat) (m:List Stat):Prop where
 ex:∃ cs,Blk w b 181 cs∧MdRep cs d m
theorem IsMd.chg {w w':World} {b d:Nat} {m:List Stat} {F:List Nat} (h:IsMd w b d m) (hc:Chg F w w') (hb:b∉F):IsMd w' b d m:=by
 obtain ⟨cs,h1,h2⟩:=h.ex
 exact ⟨cs,h1.chg hc hb,h2⟩
theorem IsMd.set4 {w:World} {b d:Nat} {m:List Stat} (h:IsMd w b d m) {i:Nat} (hi:i<365) (s:Stat) :
  IsMd ((((w.setCell ⟨b,1+i*4,none⟩ (.int .i64 s.n)).setCell ⟨b,1+i*4+1,none⟩ (.int .i64 s.a)).setCell ⟨b,1+i*4+2,none⟩ (.int .i64 s.b)).setCell ⟨b,1+i*4+3,none⟩ (.int .i64 s.c)) b d (m.set i s):=by
 obtain ⟨cs,h1,h2⟩:=h.ex
 exact ⟨_,(((h1.set_ _ _).set_ _ _).set_ _ _).set_ _ _,h2.set4 hi s⟩
theorem IsMd.lt {w:World} {b d:Nat} {m:List Stat} (h:IsMd w b d m):b<w.heap.size:=by
 obtain ⟨cs,h1,_⟩:=h.ex
 exact h1.lt
theorem IsMd.cells {w:World} {b d:Nat} {m:List Stat} (h:IsMd w b d m):w.cell? ⟨b,0,none⟩=some (.int .i64 d)∧(∀ i,w.frozen? ⟨b,i,none⟩=false) ∧
  ∀ i s,m[i]?=some s→w.cell? ⟨b,1+i*4,none⟩=some (.int .i64 s.n)∧w.cell? ⟨b,1+i*4+1,none⟩=some (.int .i64 s.a)∧w.cell? ⟨b,1+i*4+2,none⟩=some (.int .i64 s.b)∧w.cell? ⟨b,1+i*4+3,none⟩=some (.int .i64 s.c):=by
 obtain ⟨cs,h1,h2⟩:=h.ex
 refine ⟨by rw [h1.cell];exact h2.depth,h1.frozen,fun i s hs=>⟨?_,?_,?_,?_⟩⟩
 ·rw [h1.cell];exact h2.n i s hs
 ·rw [h1.cell];exact h2.a i s hs
 ·rw [h1.cell];exact h2.b i s hs
 ·rw [h1.cell];exact h2.c i s hs
theorem mguess_ok (b d:Nat) (m:List Stat) (ctx:Nat) (p:Int) (t:Bool) (w:World) (h:IsMd w b d m) (hm:ModelOk m) (h0:1≤d) (h1:d≤16) (hc:ctx<365) (hp0:0≤p) (hp1:p<2^d) :
  Calls Tryz.prog 148 #[.pointer (some ⟨b,0,none⟩),.int .i64 ctx,.int .i64 p,.bool t] w fun e w'=>e=.returned (.int .i64 (guessM (statAt m ctx) p t d))∧w=w':=by
 obtain ⟨hd0,hd1⟩:=pow_d h0 h1
 obtain ⟨hg,hso⟩:=statAt_mem hm hc
 obtain ⟨q0,_,hcells⟩:=h.cells
 obtain ⟨_,_,_,qc⟩:=hcells ctx _ hg
 have c0:=hso.c0
 have c1:=hso.c1
 have hdef:guessM (statAt m ctx) p t d=min (max (p+(if t then -(statAt m ctx).c else (statAt m ctx).c)) 0) (2^d-1):=rfl
 obtain ⟨s,hs⟩:∃ s,s=(statAt m ctx).c:=⟨_,rfl⟩
 rw [←hs] at qc c0 c1 hdef
 have HD:=hid hdef
 have t1:decide (p<0)=false:=zA (by omega)
 have t2:decide ((2:Int)^d-1<p)=false:=zA (by omega)
 have hic:=isCtx_yes ctx w hc
 clear hdef hs hg hso hcells h
 cases t with
 | false =>
  go_enter Tryz.func148,Tryz.ntmps148
  go_wp2_with (go_at_call 151;refine hic.mono ?_;rintro e w' ⟨rfl,rfl⟩)
  all_goals
   go_ret
   rw [HD.out]
   exact ⟨congrArg (fun z=>Ending.returned (.int .i64 z)) (show _=min (max (p+s) 0) (2^d-1) by omega),rfl⟩
 | true =>
  go_enter Tryz.func148,Tryz.ntmps148
  go_wp2_with (go_at_call 151;refine hic.mono ?_;rintro e w' ⟨rfl,rfl⟩)
  all_goals
   go_ret
   rw [HD.out]
   exact ⟨congrArg (fun z=>Ending.returned (.int .i64 z)) (show _=min (max (p + -s) 0) (2^d-1) by omega),rfl⟩
theorem mk_ok (b d:Nat) (m:List Stat) (ctx:Nat) (w:World) (h:IsMd w b d m) (hm:ModelOk m) (hc:ctx<365) :
  Calls Tryz.prog 102 #[.pointer (some ⟨b,0,none⟩),.int .i64 ctx] w fun e w'=>e=.returned (.int .i64 (kOf (statAt m ctx)))∧∃ n,w'=w.drewN n:=by
 obtain ⟨hg,hso⟩:=statAt_mem hm hc
 obtain ⟨_,_,hcells⟩:=h.cells
 obtain ⟨qn,qa,_,_⟩:=hcells ctx _ hg
 have n0:=hso.n0
 have n1:=hso.n1
 have a0:=hso.a0
 have a1:=hso.a1
 obtain ⟨s,hs⟩:∃ s,s=statAt m ctx:=⟨_,rfl⟩
 rw [←hs] at qn qa n0 n1 a0 a1 hso ⊢
 have hic:=isCtx_yes ctx w hc
 have hdef:kOf s=kFrom s 16 0:=rfl
 obtain ⟨sn,hsn⟩:∃ x,x=s.n:=⟨_,rfl⟩
 obtain ⟨sa,hsa⟩:∃ x,x=s.a:=⟨_,rfl⟩
 rw [←hsn] at qn n0 n1 a1
 rw [←hsa] at qa a0 a1
 have HD:=hid hdef
 have HSN:=hid hsn
 have HSA:=hid hsa
 have HSO:=hid hso
 clear hdef hs hg hso hcells h hsn hsa hm
 go_enter Tryz.func102,Tryz.ntmps102
 go_wp2_with (go_at_call 151;refine hic.mono ?_;rintro e w' ⟨rfl,rfl⟩)
 go_loopg [5] 16 (fun j v wr=>∃ (k n:Nat),v=.int .i64 k∧k+j=16∧Hid (kOf s=kFrom s j k)∧wr=w.drewN n)
 case atStart=>exact ⟨0,0,rfl,rfl,HD,rfl⟩
 case round =>
  obtain ⟨k,nd,rfl,hkj,Hk,rfl⟩:=hrel
  have hp0:=two_pow_pos' k
  by_cases hlt:sn*2^k<sa
  ·have hk15:k<15:=kFrom_lt HSO.out (by rw [←HSN.out,←HSA.out];exact hlt)
   have hp1:(2:Int)^k≤32768:=by
    have:=Nat.pow_le_pow_right (n:=2) (by decide) (show k≤15 by omega)
    have e:(2:Int)^k≤2^15:=by exact_mod_cast this
    exact e
   have hm0:0≤sn*2^k:=Int.mul_nonneg (by omega) (by omega)
   have hm1:sn*2^k≤64*32768:=Int.le_trans (Int.mul_le_mul_of_nonneg_right n1 (by omega)) (by omega)
   have hw:IntKind.i64.wrap (sn*2^k)=sn*2^k:=IntWalk.i64_in _ (by omega)
   have t1:decide (sn*2^k<sa)=true:=zB hlt
   obtain ⟨g,rfl⟩:∃ g,gk=g+1:=⟨gk-1,by omega⟩
   have hst:kOf s=kFrom s g (k+1):=by rw [Hk.out,kFrom_step (by rw [←HSN.out,←HSA.out];exact hlt)]
   have HST:=hid hst
   clear hst hlt
   go_wp2_with fail
   go_quiet (fail)
   go_wp2
   go_roundg g
   case measure=>omega
   case rel=>exact ⟨k+1,_,by go_num,by omega,HST,rfl⟩
  ·have hst:=kFrom_stop (s:=s) (k:=k) (by rw [←HSN.out,←HSA.out];exact hlt) gk
   rw [←Hk.out] at hst
   have HST:=hid hst
   have hk15:k≤15:=by have:=kOf_le HSO.out;omega
   have hp1:(2:Int)^k≤32768:=by
    have:=Nat.pow_le_pow_right (n:=2) (by decide) (show k≤15 by omega)
    have e:(2:Int)^k≤2^15:=by exact_mod_cast this
    exact e
   have hm0:0≤sn*2^k:=Int.mul_nonneg (by omega) (by omega)
   have hm1:sn*2^k≤64*32768:=Int.le_trans (Int.mul_le_mul_of_nonneg_right n1 (by omega)) (by omega)
   have hw:IntKind.i64.wrap (sn*2^k)=sn*2^k:=IntWalk.i64_in _ (by omega)
   have t1:decide (sn*2^k<sa)=false:=zA hlt
   clear hst hlt
   go_wp2_with fail
   go_quiet (fail)
   go_wp2
   go_ret
   rw [HST.out]
   exact ⟨rfl,nd+nq,by rw [World.drewN_drewN]⟩
theorem mnew_step {wr:World} {B d k j nq:Nat} {va:Int} (hmd:IsMd wr B d (List.replicate k (newStat d)++List.replicate (j+1) ⟨0,0,0,0⟩)) (hk:k<365) (hva:va=startA d) :
  IsMd (((((wr.drewN nq).setCell ⟨B,1+k*4,none⟩ (.int .i64 1)).setCell ⟨B,1+k*4+1,none⟩ (.int .i64 va)).setCell ⟨B,1+k*4+2,none⟩ (.int .i64 0)).setCell ⟨B,1+k*4+3,none⟩ (.int .i64 0)) B d (List.replicate (k+1) (newStat d)++List.replicate j ⟨0,0,0,0⟩):=by
 have h1:=(hmd.chg ((Chg.refl [] wr).drewN nq) (by simp)).set4 hk (newStat d)
 have e:(List.replicate k (newStat d)++List.replicate (j+1) (⟨0,0,0,0⟩:Stat)).set k (newStat d)=List.replicate (k+1) (newStat d)++List.replicate j ⟨0,0,0,0⟩:=by
  rw [List.set_append_right _ _ (by simp),List.length_replicate,Nat.sub_self,List.replicate_succ' (n:=k)]
  simp [List.replicate_succ]
 rw [e] at h1
 subst hva
 exact h1
theorem mnew_ok (d : Nat) (w : World) (h0 : 1 ≤ d) (h1 : d ≤ 16) :
    Calls Tryz.prog 99 #[.int .i64 d] w fun e w'=>∃ b,e=.returned (.tuple #[.pointer (some ⟨b,0,none⟩),.int .i64 0])∧IsMd w' b d (newModel d)∧Chg [] w w'∧w.heap.size≤b:=by
  obtain ⟨hd0,hd1⟩:=pow_d h0 h1
  have hv:=mvalid_yes d w h0 h1
  have hblk:=Blk.new w 181 (mdZero Tryz.zeroCells181 (d:Int))
  have ch0:Chg [] w (w.alloc (.cells (mdZero Tryz.zeroCells181 (d:Int)) 181)):=(Chg.refl [] w).alloc _
  have hmd0:IsMd (w.alloc (.cells (mdZero Tryz.zeroCells181 (d:Int)) 181)) w.heap.size d (List.replicate 365 ⟨0,0,0,0⟩):=by
    have hr:∀ i s,(List.replicate 365 (⟨0,0,0,0⟩:Stat))[i]?=some s→i<365∧s=⟨0,0,0,0⟩:=fun i s h=>by
      rw [List.getElem?_replicate] at h
      split at h
      · rename_i hi
        injection h with h
        exact ⟨hi,h.symm⟩
      · cases h
    refine ⟨⟨_,hblk,mdZero_size md_zsize _,List.length_replicate,mdZero_get0 md_zsize _,?_,?_,?_,?_⟩⟩
    all_goals
      intro i s h
      obtain ⟨hi,rfl⟩:=hr i s h
      exact mdZero_get md_zeros _ _ (by omega) (by omega)
  unfold mdZero at ch0 hmd0
  go_enter Tryz.func99,Tryz.ntmps99
  go_wp2_with (go_at_call 146;refine hv.mono ?_;rintro e w' ⟨rfl,rfl⟩)
  obtain ⟨B,hB⟩:∃ B,B=w.heap.size:=⟨_,rfl⟩
  rw [←hB] at hmd0 ⊢
  have HB:=hid hB
  obtain ⟨cs0,hcs0⟩:∃ cs,cs=Tryz.zeroCells181.setIfInBounds 0 (Value.int .i64 d):=⟨_,rfl⟩
  rw [←hcs0] at ch0 hmd0 ⊢
  clear hB hcs0 hblk hv
  have hst:Hid (startA d=max 2 ((2^d+32) / 64)):=hid rfl
  go_loopg [12] 365 (fun j iv wr=>∃ k:Nat,iv=.int .i64 k∧k+j=365∧IsMd wr B d (List.replicate k (newStat d)++List.replicate j ⟨0,0,0,0⟩)∧Chg [] w wr)
  case atStart=>exact ⟨0,rfl,rfl,by simpa using hmd0,ch0⟩
  case round =>
    obtain ⟨k,rfl,hkj,hmd,hch⟩:=hrel
    clear hmd0 ch0
    rcases gk with _ | j
    · obtain rfl:k=365:=by omega
      go_wp2
      go_ret2
      exact ⟨B,rfl,by simpa [newModel] using hmd,hch,by rw [HB.out];exact Nat.le_refl _⟩
    · have hk:k<365:=by omega
      have tk:decide ((k:Int)<365)=true:=zB (by omega)
      obtain ⟨_,hfr,hcells⟩:=hmd.cells
      obtain ⟨q0,q1,q2,q3⟩:=hcells k ⟨0,0,0,0⟩ (by rw [List.getElem?_append_right (by simp),List.length_replicate,Nat.sub_self];rfl)
      have f0:=hfr (1+k*4)
      have f1:=hfr (1+k*4+1)
      have f2:=hfr (1+k*4+2)
      have f3:=hfr (1+k*4+3)
      clear hfr hcells
      go_wp2_with fail
      refine wp_region_quiet_tail 11 (by kernel_rfl) (by kernel_rfl) ?_
      simp only [List.take_succ_cons,List.take_zero,List.drop_succ_cons,List.drop_zero]
      repeat (go_big_quiet_step (fail))
      all_goals
        refine wpQuiet_nil ?_
        intro _ hw'
        obtain ⟨nq,rfl⟩:=hw'
        go_wp2_with fail
        all_goals
         go_roundg j
         case measure=>omega
         case rel =>
          refine ⟨k+1,by go_num,by omega,?_,(((((hch.drewN nq).setCell (.inr (by have:=HB.out;simp;omega)) _).setCell (.inr (by have:=HB.out;simp;omega)) _).setCell (.inr (by have:=HB.out;simp;omega)) _).setCell (.inr (by have:=HB.out;simp;omega)) _)⟩
          exact mnew_step hmd hk (by rw [hst.out];omega)
theorem MdRep.set1 {cs:Array Value} {d:Nat} {m:List Stat} (h:MdRep cs d m) {i:Nat} (hi:i<365) {s:Stat} (hs:m[i]?=some s) (k:Nat) (v:Int) (s':Stat)
  (hk:(k=0∧s'=⟨v,s.a,s.b,s.c⟩)∨(k=1∧s'=⟨s.n,v,s.b,s.c⟩)∨(k=2∧s'=⟨s.n,s.a,v,s.c⟩)∨(k=3∧s'=⟨s.n,s.a,s.b,v⟩)) :
  MdRep (cs.setIfInBounds (1+i*4+k) (.int .i64 v)) d (m.set i s'):=by
 have hsz:=h.size
 have hl:=h.len
 have h1:=h.n i s hs
 have h2:=h.a i s hs
 have h3:=h.b i s hs
 have h4:=h.c i s hs
 have hk4:k<4:=by omega
 refine ⟨by simp [hsz],by simp [hl],?_,?_,?_,?_,?_⟩
 ·rw [Array.getElem?_setIfInBounds,if_neg (by omega)]
  exact h.depth
 all_goals
  intro j t hj
  rw [List.getElem?_set] at hj
  rw [Array.getElem?_setIfInBounds]
  by_cases hij:i=j
  ·subst hij
   rw [if_pos rfl,if_pos (by omega)] at hj
   injection hj with hj
   subst hj
   rcases hk with ⟨rfl,rfl⟩ | ⟨rfl,rfl⟩ | ⟨rfl,rfl⟩ | ⟨rfl,rfl⟩
   all_goals first
    | (rw [if_pos (by omega),if_pos (by omega)])
    | (rw [if_neg (by omega)];first | exact h1 | exact h2 | exact h3 | exact h4)
  ·rw [if_neg hij] at hj
   rw [if_neg (by omega)]
   first | exact h.n j t hj | exact h.a j t hj | exact h.b j t hj | exact h.c j t hj
theorem IsMd.set1 {w:World} {b d:Nat} {m:List Stat} (h:IsMd w b d m) {i:Nat} (hi:i<365) {s:Stat} (hs:m[i]?=some s) (k:Nat) (v:Int) (s':Stat)
  (hk:(k=0∧s'=⟨v,s.a,s.b,s.c⟩)∨(k=1∧s'=⟨s.n,v,s.b,s.c⟩)∨(k=2∧s'=⟨s.n,s.a,v,s.c⟩)∨(k=3∧s'=⟨s.n,s.a,s.b,v⟩)) :
  IsMd (w.setCell ⟨b,1+i*4+k,none⟩ (.int .i64 v)) b d (m.set i s')∧(m.set i s')[i]?=some s':=by
 obtain ⟨cs,h1,h2⟩:=h.ex
 exact ⟨⟨_,h1.set_ _ _,h2.set1 hi hs k v s' hk⟩,by rw [List.getElem?_set_self (by rw [h2.len];exact hi)]⟩
theorem IsMd.toSet {w:World} {b d:Nat} {m:List Stat} {i:Nat} {s t:Stat} (h:IsMd w b d ((m.set i s).set i t)):IsMd w b d (m.set i t):=by rw [←List.set_set (a:=s)];exact h
theorem IsMd.count {w:World} {b d:Nat} {m:List Stat} (h:IsMd w b d m) {i:Nat} (hi:i<365) {s:Stat} (hs:m[i]?=some s) (va vb vn:Int) :
  IsMd (((w.setCell ⟨b,1+i*4+1,none⟩ (.int .i64 va)).setCell ⟨b,1+i*4+2,none⟩ (.int .i64 vb)).setCell ⟨b,1+i*4,none⟩ (.int .i64 vn)) b d (m.set i ⟨vn,va,vb,s.c⟩)∧(m.set i ⟨vn,va,vb,s.c⟩)[i]?=some ⟨vn,va,vb,s.c⟩:=by
 obtain ⟨a1,e1⟩:=h.set1 hi hs 1 va ⟨s.n,va,s.b,s.c⟩ (.inr (.inl ⟨rfl,rfl⟩))
 obtain ⟨a2,e2⟩:=a1.set1 hi e1 2 vb ⟨s.n,va,vb,s.c⟩ (.inr (.inr (.inl ⟨rfl,rfl⟩)))
 obtain ⟨a3,e3⟩:=a2.set1 hi e2 0 vn ⟨vn,va,vb,s.c⟩ (.inl ⟨rfl,rfl⟩)
 rw [List.set_set,List.set_set] at e3
 exact ⟨a3.toSet.toSet,e3⟩
theorem IsMd.count64 {w:World} {b d:Nat} {m:List Stat} (h:IsMd w b d m) {i:Nat} (hi:i<365) {s:Stat} (hs:m[i]?=some s) (va vb wa wb wn vn:Int) :
  IsMd ((((((w.setCell ⟨b,1+i*4+1,none⟩ (.int .i64 va)).setCell ⟨b,1+i*4+2,none⟩ (.int .i64 vb)).setCell ⟨b,1+i*4+1,none⟩ (.int .i64 wa)).setCell ⟨b,1+i*4+2,none⟩ (.int .i64 wb)).setCell ⟨b,1+i*4,none⟩ (.int .i64 wn)).setCell ⟨b,1+i*4,none⟩ (.int .i64 vn)) b d (m.set i ⟨vn,wa,wb,s.c⟩)∧(m.set i ⟨vn,wa,wb,s.c⟩)[i]?=some ⟨vn,wa,wb,s.c⟩:=by
 obtain ⟨a1,e1⟩:=h.set1 hi hs 1 va ⟨s.n,va,s.b,s.c⟩ (.inr (.inl ⟨rfl,rfl⟩))
 obtain ⟨a2,e2⟩:=a1.set1 hi e1 2 vb ⟨s.n,va,vb,s.c⟩ (.inr (.inr (.inl ⟨rfl,rfl⟩)))
 obtain ⟨a3,e3⟩:=a2.set1 hi e2 1 wa ⟨s.n,wa,vb,s.c⟩ (.inr (.inl ⟨rfl,rfl⟩))
 obtain ⟨a4,e4⟩:=a3.set1 hi e3 2 wb ⟨s.n,wa,wb,s.c⟩ (.inr (.inr (.inl ⟨rfl,rfl⟩)))
 obtain ⟨a5,e5⟩:=a4.set1 hi e4 0 wn ⟨wn,wa,wb,s.c⟩ (.inl ⟨rfl,rfl⟩)
 obtain ⟨a6,e6⟩:=a5.set1 hi e5 0 vn ⟨vn,wa,wb,s.c⟩ (.inl ⟨rfl,rfl⟩)
 rw [List.set_set,List.set_set,List.set_set,List.set_set,List.set_set] at e6
 exact ⟨a6.toSet.toSet.toSet.toSet.toSet,e6⟩
theorem IsMd.even {w:World} {b d:Nat} {m:List Stat} {i:Nat} {s:Stat} (h:IsMd w b d (m.set i s)) (hi:i<365) (hs:(m.set i s)[i]?=some s) (vb vc:Int) :
  IsMd ((w.setCell ⟨b,1+i*4+2,none⟩ (.int .i64 vb)).setCell ⟨b,1+i*4+3,none⟩ (.int .i64 vc)) b d (m.set i ⟨s.n,s.a,vb,vc⟩):=by
 obtain ⟨a1,e1⟩:=h.set1 hi hs 2 vb ⟨s.n,s.a,vb,s.c⟩ (.inr (.inr (.inl ⟨rfl,rfl⟩)))
 obtain ⟨a2,e2⟩:=a1.set1 hi e1 3 vc ⟨s.n,s.a,vb,vc⟩ (.inr (.inr (.inr ⟨rfl,rfl⟩)))
 exact a2.toSet.toSet
theorem learn_ok (b d:Nat) (m:List Stat) (ctx:Nat) (e:Int) (w:World) (h:IsMd w b d m) (hm:ModelOk m) (h0:1≤d) (h1:d≤16) (hc:ctx<365) (he0 : -2^(d-1)≤e) (he1:e<2^(d-1)) :
  Calls Tryz.prog 103 #[.pointer (some ⟨b,0,none⟩),.int .i64 ctx,.int .i64 e] w fun x w'=>x=.returned (.tuple #[])∧IsMd w' b d (m.set ctx (learnS (statAt m ctx) e))∧Chg [b] w w':=by
 obtain ⟨hd0,hd1⟩:=pow_d h0 h1
 obtain ⟨hg,hso⟩:=statAt_mem hm hc
 obtain ⟨q0,hfr,hcells⟩:=h.cells
 obtain ⟨qn,qa,qb,qc⟩:=hcells ctx _ hg
 have fn:=hfr (1+ctx*4)
 have fa:=hfr (1+ctx*4+1)
 have fb:=hfr (1+ctx*4+2)
 have fc:=hfr (1+ctx*4+3)
 have hic:=isCtx_yes ctx w hc
 have hhalf:=two_pow_half h0
 have hp0:=two_pow_pos' (d-1)
 have e1:(2:Int)^((d:Int)-1).toNat=2^(d-1):=by congr 1;omega
 obtain ⟨n0,n1,a0,a1,b0,b1,c0,c1⟩:=hso
 have ha:0≤absI e∧absI e≤32768:=by unfold absI;split<;>omega
 have hab:=fun w=>abs_ok e w (by unfold midP;omega)
 obtain ⟨s,hs⟩:∃ s,s=statAt m ctx:=⟨_,rfl⟩
 rw [←hs] at qn qa qb qc n0 n1 a0 a1 b0 b1 c0 c1 hg ⊢
 have hcount:=fun w' (hw':Chg [] w w') va vb vn=>(h.chg hw' (by simp)).count hc hg va vb vn
 have hcount64:=fun w' (hw':Chg [] w w') va vb wa wb wn vn=>(h.chg hw' (by simp)).count64 hc hg va vb wa wb wn vn
 obtain ⟨sn,sa,sb,sc⟩:=s
 simp only at qn qa qb qc n0 n1 a0 a1 b0 b1 c0 c1 hcount hcount64
 have hP32:(2:Int)^(d-1)≤32768:=by omega
 have t1:decide (e<(-2^(d-1):Int))=false:=zA (by omega)
 have t2:decide ((2:Int)^(d-1)≤e)=false:=zA (by omega)
 have he32 : -32768≤e:=by omega
 have he33:e≤32767:=by omega
 obtain ⟨u,hu⟩:∃ u,u=absI e:=⟨_,rfl⟩
 rw [←hu] at ha hab
 obtain ⟨u0,u1⟩:=ha
 have HU:=hid hu
 have HC1:=hid hcount
 have HC64:=hid hcount64
 have HE0:Hid (∀ w,Chg [b] w w):=hid fun w=>Chg.refl _ _
 clear hhalf hu hcount hcount64 hs hg hfr hcells h hm
 have hok2:=countS_ok (s:=⟨sn,sa,sb,sc⟩) ⟨n0,n1,a0,a1,b0,b1,c0,c1⟩ he32 (by omega)
 have HOK2:=hid hok2
 clear hok2
 by_cases hn:sn=64
 ·subst hn
  have hcs:countS ⟨64,sa,sb,sc⟩ e=⟨33,(sa+u) / 2,(sb+e) / 2,sc⟩:=by unfold countS;rw [if_pos rfl,HU.out]
  have HCS:=hid hcs
  clear hcs
  go_enter Tryz.func103,Tryz.ntmps103
  go_wp2_with fail
  refine hic.mono ?_
  rintro e w' ⟨rfl,rfl⟩
  go_wp2_with fail
  refine wp_region_quiet_tail 9 (by kernel_rfl) (by kernel_rfl) ?_
  simp only [List.take_succ_cons,List.take_zero,List.drop_succ_cons,List.drop_zero]
  repeat (go_big_quiet_step ((go_at_call 152;exact quiet_eq (hab _))))
  refine wpQuiet_nil ?_
  intro _ hw'
  obtain ⟨nq,rfl⟩:=hw'
  go_wp2_with fail
  obtain ⟨hmd2,hg2⟩:=HC64.out _ ((Chg.refl [] w).drewN nq) (sa+u) (sb+e) ((sa+u) / 2) ((sb+e) / 2) 32 33
  have hch2:Chg [b] w (((((((w.drewN nq).setCell ⟨b,1+ctx*4+1,none⟩ (.int .i64 (sa+u))).setCell ⟨b,1+ctx*4+2,none⟩ (.int .i64 (sb+e))).setCell ⟨b,1+ctx*4+1,none⟩ (.int .i64 ((sa+u) / 2))).setCell ⟨b,1+ctx*4+2,none⟩ (.int .i64 ((sb+e) / 2))).setCell ⟨b,1+ctx*4,none⟩ (.int .i64 32)).setCell ⟨b,1+ctx*4,none⟩ (.int .i64 33)) :=
   (((((((HE0.out w).drewN nq).setCell (by simp) _).setCell (by simp) _).setCell (by simp) _).setCell (by simp) _).setCell (by simp) _).setCell (by simp) _
  generalize ((((((w.drewN nq).setCell ⟨b,1+ctx*4+1,none⟩ (.int .i64 (sa+u))).setCell ⟨b,1+ctx*4+2,none⟩ (.int .i64 (sb+e))).setCell ⟨b,1+ctx*4+1,none⟩ (.int .i64 ((sa+u) / 2))).setCell ⟨b,1+ctx*4+2,none⟩ (.int .i64 ((sb+e) / 2))).setCell ⟨b,1+ctx*4,none⟩ (.int .i64 32)).setCell ⟨b,1+ctx*4,none⟩ (.int .i64 33)=w2 at *
  have hok2:=HOK2.out
  rw [HCS.out] at hok2
  simp only at hok2
  obtain ⟨n3,hn3⟩:∃ x,x=(33:Int):=⟨_,rfl⟩
  obtain ⟨a2,ha2⟩:∃ x,x=(sa+u) / 2:=⟨_,rfl⟩
  obtain ⟨b2,hb2⟩:∃ x,x=(sb+e) / 2:=⟨_,rfl⟩
  rw [←hn3,←ha2,←hb2] at hok2 hmd2 hg2 HCS
  obtain ⟨m0,m1,m2,m3,m4,m5,-⟩:=hok2
  obtain ⟨_,hfr2,hcells2⟩:=hmd2.cells
  obtain ⟨rn,ra,rb,rc⟩:=hcells2 ctx _ hg2
  simp only at rn ra rb rc
  have gb:=hfr2 (1+ctx*4+2)
  have gc:=hfr2 (1+ctx*4+3)
  have HEv:=hid (fun w' (hw':Chg [] w2 w') vb vc=>(hmd2.chg hw' (by simp)).even hc hg2 vb vc)
  have hls:learnS ⟨64,sa,sb,sc⟩ e=evenS ⟨n3,a2,b2,sc⟩:=by unfold learnS;rw [HCS.out]
  have HLS:=hid hls
  have HMD:=hid hmd2
  clear hls hfr2 hcells2 hn3 ha2 hb2 qn qa qb qc fn fa fb fc q0  a0 a1 b0 b1 hmd2 hg2
  by_cases hA:b2≤-n3
  ·have u1:decide (b2≤-n3)=true:=zB hA
   have hev:evenS ⟨n3,a2,b2,sc⟩=⟨n3,a2,max (b2+n3) (1-n3),max (sc-1) (-128)⟩:=by unfold evenS;rw [if_pos hA]
   have HEV:=hid hev
   clear hev
   go_quiet (fail)
   go_wp2_with fail
   refine wp_region_quiet_tail 18 (by kernel_rfl) (by kernel_rfl) ?_
   simp only [List.take_succ_cons,List.take_zero,List.drop_succ_cons,List.drop_zero]
   repeat (any_goals (go_big_quiet_step (fail)))
   all_goals
    refine wpQuiet_nil ?_
    intro _ hw'
    obtain ⟨nq2,rfl⟩:=hw'
    go_wp2_with fail
   all_goals
    go_end0
    refine ⟨rfl,?_,?_⟩
    ·rw [HLS.out,HEV.out]
     first | rw [show max (b2+n3) (1-n3)=1-n3 by omega] | rw [show max (b2+n3) (1-n3)=b2+n3 by omega]
     first | rw [show max (sc-1) (-128)=-128 by omega] | rw [show max (sc-1) (-128)=sc-1 by omega]
     exact HEv.out _ ((Chg.refl [] w2).drewN _) _ _
    ·exact ((hch2.drewN _).setCell (by simp) _).setCell (by simp) _
  ·have u1:decide (b2≤-n3)=false:=zA hA
   by_cases hB:0<b2
   ·have u2:decide (0<b2)=true:=zB hB
    have hev:evenS ⟨n3,a2,b2,sc⟩=⟨n3,a2,min (b2-n3) 0,min (sc+1) 127⟩:=by unfold evenS;rw [if_neg hA,if_pos hB]
    have HEV:=hid hev
    clear hev
    go_quiet (fail)
    go_wp2_with fail
    refine wp_region_quiet_tail 13 (by kernel_rfl) (by kernel_rfl) ?_
    simp only [List.take_succ_cons,List.take_zero,List.drop_succ_cons,List.drop_zero]
    repeat (any_goals (go_big_quiet_step (fail)))
    all_goals
     refine wpQuiet_nil ?_
     intro _ hw'
     obtain ⟨nq2,rfl⟩:=hw'
     go_wp2_with fail
    all_goals
     go_end0
     refine ⟨rfl,?_,?_⟩
     ·rw [HLS.out,HEV.out]
      first | rw [show min (b2-n3) 0=0 by omega] | rw [show min (b2-n3) 0=b2-n3 by omega]
      first | rw [show min (sc+1) 127=127 by omega] | rw [show min (sc+1) 127=sc+1 by omega]
      exact HEv.out _ ((Chg.refl [] w2).drewN _) _ _
     ·exact ((hch2.drewN _).setCell (by simp) _).setCell (by simp) _
   ·have u2:decide (0<b2)=false:=zA hB
    have hev:evenS ⟨n3,a2,b2,sc⟩=⟨n3,a2,b2,sc⟩:=by unfold evenS;rw [if_neg hA,if_neg hB]
    have HEV:=hid hev
    clear hev
    go_quiet (fail)
    go_wp2_with fail
    go_end0
    refine ⟨rfl,?_,hch2.drewN _⟩
    rw [HLS.out,HEV.out]
    exact HMD.out.chg ((Chg.refl [] w2).drewN _) (by simp)
 ·have t3:(sn==64)=false:=by rw [beq_eq_false_iff_ne];exact hn
  have hcs:countS ⟨sn,sa,sb,sc⟩ e=⟨sn+1,sa+u,sb+e,sc⟩:=by unfold countS;rw [if_neg hn,HU.out]
  have HCS:=hid hcs
  clear hcs hn
  go_enter Tryz.func103,Tryz.ntmps103
  go_wp2_with fail
  refine hic.mono ?_
  rintro e w' ⟨rfl,rfl⟩
  go_wp2_with fail
  refine wp_region_quiet_tail 9 (by kernel_rfl) (by kernel_rfl) ?_
  simp only [List.take_succ_cons,List.take_zero,List.drop_succ_cons,List.drop_zero]
  repeat (go_big_quiet_step ((go_at_call 152;exact quiet_eq (hab _))))
  refine wpQuiet_nil ?_
  intro _ hw'
  obtain ⟨nq,rfl⟩:=hw'
  go_wp2_with fail
  obtain ⟨hmd2,hg2⟩:=HC1.out _ ((Chg.refl [] w).drewN nq) (sa+u) (sb+e) (sn+1)
  have hch2:Chg [b] w ((((w.drewN nq).setCell ⟨b,1+ctx*4+1,none⟩ (.int .i64 (sa+u))).setCell ⟨b,1+ctx*4+2,none⟩ (.int .i64 (sb+e))).setCell ⟨b,1+ctx*4,none⟩ (.int .i64 (sn+1))) :=
   ((((HE0.out w).drewN nq).setCell (by simp) _).setCell (by simp) _).setCell (by simp) _
  generalize (((w.drewN nq).setCell ⟨b,1+ctx*4+1,none⟩ (.int .i64 (sa+u))).setCell ⟨b,1+ctx*4+2,none⟩ (.int .i64 (sb+e))).setCell ⟨b,1+ctx*4,none⟩ (.int .i64 (sn+1))=w2 at *
  have hok2:=HOK2.out
  rw [HCS.out] at hok2
  simp only at hok2
  obtain ⟨n3,hn3⟩:∃ x,x=sn+1:=⟨_,rfl⟩
  obtain ⟨a2,ha2⟩:∃ x,x=sa+u:=⟨_,rfl⟩
  obtain ⟨b2,hb2⟩:∃ x,x=sb+e:=⟨_,rfl⟩
  rw [←hn3,←ha2,←hb2] at hok2 hmd2 hg2 HCS
  obtain ⟨m0,m1,m2,m3,m4,m5,-⟩:=hok2
  obtain ⟨_,hfr2,hcells2⟩:=hmd2.cells
  obtain ⟨rn,ra,rb,rc⟩:=hcells2 ctx _ hg2
  simp only at rn ra rb rc
  have gb:=hfr2 (1+ctx*4+2)
  have gc:=hfr2 (1+ctx*4+3)
  have HEv:=hid (fun w' (hw':Chg [] w2 w') vb vc=>(hmd2.chg hw' (by simp)).even hc hg2 vb vc)
  have hls:learnS ⟨sn,sa,sb,sc⟩ e=evenS ⟨n3,a2,b2,sc⟩:=by unfold learnS;rw [HCS.out]
  have HLS:=hid hls
  have HMD:=hid hmd2
  clear hls hfr2 hcells2 hn3 ha2 hb2 qn qa qb qc fn fa fb fc q0 n0 n1 a0 a1 b0 b1 hmd2 hg2
  by_cases hA:b2≤-n3
  ·have u1:decide (b2≤-n3)=true:=zB hA
   have hev:evenS ⟨n3,a2,b2,sc⟩=⟨n3,a2,max (b2+n3) (1-n3),max (sc-1) (-128)⟩:=by unfold evenS;rw [if_pos hA]
   have HEV:=hid hev
   clear hev
   go_quiet (fail)
   go_wp2_with fail
   refine wp_region_quiet_tail 18 (by kernel_rfl) (by kernel_rfl) ?_
   simp only [List.take_succ_cons,List.take_zero,List.drop_succ_cons,List.drop_zero]
   repeat (any_goals (go_big_quiet_step (fail)))
   all_goals
    refine wpQuiet_nil ?_
    intro _ hw'
    obtain ⟨nq2,rfl⟩:=hw'
    go_wp2_with fail
   all_goals
    go_end0
    refine ⟨rfl,?_,?_⟩
    ·rw [HLS.out,HEV.out]
     first | rw [show max (b2+n3) (1-n3)=1-n3 by omega] | rw [show max (b2+n3) (1-n3)=b2+n3 by omega]
     first | rw [show max (sc-1) (-128)=-128 by omega] | rw [show max (sc-1) (-128)=sc-1 by omega]
     exact HEv.out _ ((Chg.refl [] w2).drewN _) _ _
    ·exact ((hch2.drewN _).setCell (by simp) _).setCell (by simp) _
  ·have u1:decide (b2≤-n3)=false:=zA hA
   by_cases hB:0<b2
   ·have u2:decide (0<b2)=true:=zB hB
    have hev:evenS ⟨n3,a2,b2,sc⟩=⟨n3,a2,min (b2-n3) 0,min (sc+1) 127⟩:=by unfold evenS;rw [if_neg hA,if_pos hB]
    have HEV:=hid hev
    clear hev
    go_quiet (fail)
    go_wp2_with fail
    refine wp_region_quiet_tail 13 (by kernel_rfl) (by kernel_rfl) ?_
    simp only [List.take_succ_cons,List.take_zero,List.drop_succ_cons,List.drop_zero]
    repeat (any_goals (go_big_quiet_step (fail)))
    all_goals
     refine wpQuiet_nil ?_
     intro _ hw'
     obtain ⟨nq2,rfl⟩:=hw'
     go_wp2_with fail
    all_goals
     go_end0
     refine ⟨rfl,?_,?_⟩
     ·rw [HLS.out,HEV.out]
      first | rw [show min (b2-n3) 0=0 by omega] | rw [show min (b2-n3) 0=b2-n3 by omega]
      first | rw [show min (sc+1) 127=127 by omega] | rw [show min (sc+1) 127=sc+1 by omega]
      exact HEv.out _ ((Chg.refl [] w2).drewN _) _ _
     ·exact ((hch2.drewN _).setCell (by simp) _).setCell (by simp) _
   ·have u2:decide (0<b2)=false:=zA hB
    have hev:evenS ⟨n3,a2,b2,sc⟩=⟨n3,a2,b2,sc⟩:=by unfold evenS;rw [if_neg hA,if_neg hB]
    have HEV:=hid hev
    clear hev
    go_quiet (fail)
    go_wp2_with fail
    go_end0
    refine ⟨rfl,?_,hch2.drewN _⟩
    rw [HLS.out,HEV.out]
    exact HMD.out.chg ((Chg.refl [] w2).drewN _) (by simp)
theorem quiet_drew {P:Program} {f:FuncId} {args:Array Value} {w:World} {n:Nat} {v:Value}
  (h:Calls P f args (w.drewN n) fun e w'=>e=.returned v∧∃ m,w'=(w.drewN n).drewN m):Calls P f args (w.drewN n) fun e w''=>e=.returned v∧∃ m,w''=w.drewN m:=Calls.quiet_of h
theorem Grow.forget {a b c:World} {x:Nat} {F F':List Nat} (k:Chg [] a b) (h:Grow (x::F) (x::F') b c) (hx:a.heap.size≤x):Grow F F' a c :=
 ⟨⟨h.chg.os.trans k.os,h.chg.tape.trans k.tape,h.chg.output.trans k.output,Nat.le_trans k.size h.chg.size,fun y hy hn =>
   (h.chg.block y (Nat.lt_of_lt_of_le hy k.size) (by simp;exact ⟨by omega,hn⟩)).trans (k.block y hy (by simp))⟩,
  fun y hy=>by
   rcases h.new y (by simp [hy]) with h1 | h1
   ·rcases List.mem_cons.1 h1 with rfl | h1
    ·exact .inr hx
    ·exact .inl h1
   ·exact .inr (Nat.le_trans k.size h1)⟩
theorem look_ok' (b d:Nat) (m:List Stat) (l:List Int) (A:Option Addr) (cap W i:Nat) (w:World) (h:IsMd w b d m) (hm:ModelOk m) (h0:1≤d) (h1:d≤16) (hW0:1≤W) (hW1:W≤64) (hi:i≤l.length) (hiW:i<64*W) (hs:SmpOk d l) (hc:Cells vi w A l) (hll:l.length≤4096) :
  Calls Tryz.prog 100 #[.pointer (some ⟨b,0,none⟩),.slice A l.length cap,.int .i64 W,.int .i64 i] w fun e w'=>e=.returned (.tuple #[.int .i64 (ctxAt l W d i),.bool (turnAt l W d i),.int .i64 (predAt m l W d i)])∧Chg [] w w':=by
 obtain ⟨x,hx⟩:∃ x,x=i%W:=⟨_,rfl⟩
 obtain ⟨y,hy⟩:∃ y,y=i / W:=⟨_,rfl⟩
 have hxW:x<W:=by rw [hx];exact Nat.mod_lt _ (by omega)
 have hy64:y<64:=by rw [hy];exact Nat.div_lt_of_lt_mul (by rw [Nat.mul_comm];exact hiW)
 have hyx:y*W+x=i:=by rw [hx,hy,Nat.mul_comm];exact Nat.div_add_mod i W
 have e1:(i:Int)%(W:Int)=(x:Int):=by rw [hx];simp
 have e2:(i:Int) / (W:Int)=(y:Int):=by rw [hy];simp
 have hnear:=fun w hc=>near_ok l A cap W x y w hW0 hW1 hxW hy64 (by omega) hc (by omega)
 have hnb:=nbr_ok hs W x y
 have hctx:=fun w=>context_ok (nbr l W x y) d w h0 h1 hnb
 have hone:=fun w=>one_ok 7 (nbr l W x y) d w (by omega) h0 h1 hnb
 have hgr:=guessI_ok hnb 7
 have hclt:=ctxN_lt (nbr l W x y) d
 have d1:ctxAt l W d i=ctxN (nbr l W x y) d:=by unfold ctxAt;rw [←hx,←hy]
 have d2:turnAt l W d i=turnB (nbr l W x y) d:=by unfold turnAt;rw [←hx,←hy]
 have d3:predAt m l W d i=guessM (statAt m (ctxN (nbr l W x y) d)) (guessI 7 (nbr l W x y) d) (turnB (nbr l W x y) d) d:=by unfold predAt ctxAt turnAt;rw [←hx,←hy]
 rw [d1,d2,d3]
 have hguess:=fun w h=>mguess_ok b d m (ctxN (nbr l W x y) d) (guessI 7 (nbr l W x y) d) (turnB (nbr l W x y) d) w h hm h0 h1 hclt hgr.1 hgr.2
 obtain ⟨n,hn⟩:∃ n,n=l.length:=⟨_,rfl⟩
 rw [←hn] at hnear ⊢
 generalize nbr l W x y=g at *
 generalize ctxN g d=cx at *
 generalize turnB g d=tb at *
 generalize guessI 7 g d=gs at *
 generalize guessM (statAt m cx) gs tb d=gm at *
 obtain ⟨ga,gb,gc,ge⟩:=g
 simp only at hnear hctx hone
 have HN:=hid hnear
 have hW1':(1:Int)≤(W:Int):=by omega
 clear hx hy hyx hnear hnb hgr d1 d2 d3 hn hs hi hm
 go_enter Tryz.func100,Tryz.ntmps100
 go_wp2_with fail
 go_quiet ((go_at_call 144;exact quiet_drew (HN.out _ (hc.same ((Chg.refl [] w).drewN _)))))
 have hmd:=h.chg ((Chg.refl [] w).drewN nq) (by simp)
 obtain ⟨q0,_,_⟩:=hmd.cells
 go_wp2_with fail
 refine (hctx _).mono ?_
 rintro e w1 ⟨rfl,ch1⟩
 have hmd1:=hmd.chg ch1 (by simp)
 obtain ⟨q1,_,_⟩:=hmd1.cells
 go_wp2_with fail
 refine (hone _).mono ?_
 rintro e w2 ⟨rfl,ch2⟩
 have hmd2:=hmd1.chg ch2 (by simp)
 go_wp2_with fail
 refine (hguess _ hmd2).mono ?_
 rintro e w3 ⟨rfl,rfl⟩
 go_wp2_with fail
 go_ret3
 exact ⟨rfl,(((Chg.refl [] w).drewN nq).trans_same ch1).trans_same ch2⟩
theorem mPlane_yes (l:List Int) (A:Option Addr) (cap W H d:Nat) (w:World) (hw0:1≤W) (hw1:W≤64) (hh0:1≤H) (hh1:H≤64) (h0:1≤d) (h1:d≤16) (hl:l.length=W*H) (hs:SmpOk d l) (hc:Cells vi w A l) :
  Calls Tryz.prog 122 #[.slice A l.length cap,.int .i64 W,.int .i64 H,.int .i64 d] w fun e w'=>e=.returned (.bool true)∧w=w':=by
 have t1:decide ((W:Int)<1)=false:=zA (by omega)
 have t2:decide ((64:Int)<(W:Int))=false:=zA (by omega)
 have t3:decide ((H:Int)<1)=false:=zA (by omega)
 have t4:decide ((64:Int)<(H:Int))=false:=zA (by omega)
 have t5:decide ((d:Int)<1)=false:=zA (by omega)
 have t6:decide ((16:Int)<(d:Int))=false:=zA (by omega)
 obtain ⟨hp0,hp1⟩:=pow_d h0 h1
 obtain ⟨m,hm⟩:∃ m,m=l.length:=⟨_,rfl⟩
 rw [←hm] at hl ⊢
 have hmul:(W:Int)*(H:Int)=(m:Int):=by rw [hl];simp
 have t7:((m:Int) != (m:Int))=false:=by simp
 have hm4:m≤4096:=by rw [hl];exact Nat.mul_le_mul hw1 hh1
 have HN:=hid hm
 have HS:=hid hs
 clear hm hl hs
 go_enter Tryz.func122,Tryz.ntmps122
 go_wp2_with (go_at_call 146;refine (mvalid_yes _ _ h0 h1).mono ?_;rintro e w' ⟨rfl,rfl⟩)
 go_loopg [38] m (fun j i wr=>j≤m∧i=.int .i64 ((m-j:Nat):Int)∧w=wr)
 case atStart=>exact ⟨Nat.le_refl _,by simp,rfl⟩
 case round =>
  obtain ⟨hj,rfl,rfl⟩:=hrel
  rcases gk with _ | j
  ·have t8:decide (((m-0:Nat):Int)<(m:Int))=false:=by simp
   go_wp2
   go_ret
   exact ⟨rfl,rfl⟩
  ·obtain ⟨i,hi1⟩:∃ i,i=m-(j+1):=⟨_,rfl⟩
   rw [←hi1]
   have hi2:i<m:=by omega
   have hi3:m-j=i+1:=by omega
   have HI:=hid hi3
   clear hi1 hi3
   have hml:i<l.length:=by rw [←HN.out];exact hi2
   obtain ⟨g,o,rfl,hcell⟩:=hc.at_ hml
   have hx:=HS.out l[i] (zG _)
   obtain ⟨x,hxx⟩:∃ x,x=l[i]:=⟨_,rfl⟩
   rw [←hxx] at hcell hx
   have hcell':w.cell? ⟨g,o+i,none⟩=some (.int .i64 x):=hcell
   obtain ⟨hx0,hx1⟩:=hx
   have t9:decide (x<0)=false:=zA (by omega)
   have t10:decide ((2:Int)^d≤x)=false:=zA (by omega)
   clear hcell hxx hml
   go_wp2
   go_roundg j
   case measure=>omega
   case rel =>
    rw [HI.out]
    exact ⟨by omega,by go_num,rfl⟩
theorem errOf_mid (s g:Int) (t:Bool) {d:Nat} (h0:1≤d) (h1:d≤16):wideP (errOf s g t d):=by
 have:=errRange16 h1 (errOf_range s g t h0)
 unfold wideP
 omega
theorem rput1_ok (w:World) (b:Nat) (F bs:List Nat) (k:Nat) (x:Int) (h:IsWr w b F bs) (hk:k≤25) (hw:wideP x) (hlen:bs.length+65<274877906944) :
  Calls Tryz.prog 123 #[.pointer (some ⟨b,0,none⟩),.int .i64 k,.slice (some ⟨w.heap.size,0,none⟩) 1 1] (w.alloc (.cells #[.int .i64 x] 3)) fun e w'=>e=.returned (.int .i64 0)∧∃ F',IsWr w' b F' (bs++rbits k x)∧Grow F F' w w':=by
 have ch:Chg [] w (w.alloc (.cells #[.int .i64 x] 3)):=(Chg.refl [] w).alloc _
 have hrow:Row (w.alloc (.cells #[.int .i64 x] 3)) 3 (.slice (some ⟨w.heap.size,0,none⟩) 1 1) w.heap.size ([x].map vi):=Row.made w 3 [.int .i64 x] (by simp [maxLen])
 have hce:=hrow.toOwn.cells
 have hap:=hrow.toOwn.apt (l':=[x]) (F':=F) (fun y hy=>by
  rw [List.mem_singleton.1 hy]
  intro hm
  have:=h.lt _ hm
  omega)
 refine (rput_ok _ b F bs k [x] _ 1 (h.same ch) hk (fun y hy=>by rw [List.mem_singleton.1 hy];exact hw) hce hap (by simpa using hlen)).mono ?_
 rintro e w' ⟨rfl,F',h',g'⟩
 refine ⟨rfl,F',?_,g'.pre ch⟩
 have e:rbitsAll k [x]=rbits k x:=by simp [rbitsAll]
 rw [←e]
 exact h'
theorem mput_ok (w:World) (b:Nat) (F bs:List Nat) (l:List Int) (A:Option Addr) (cap W H d:Nat) (h:IsWr w b F bs) (hw0:1≤W) (hw1:W≤64) (hh0:1≤H) (hh1:H≤64) (h0:1≤d) (h1:d≤16) (hl:l.length=W*H) (hs:SmpOk d l) (hc:Cells vi w A l) (hA:Apt A l F) (hbs:bs.length<137438953472) :
  Calls Tryz.prog 89 #[.pointer (some ⟨b,0,none⟩),.slice A l.length cap,.int .i64 W,.int .i64 H,.int .i64 d] w fun e w'=>e=.returned (.int .i64 0)∧∃ F',IsWr w' b F' (bs++modelBits l W d (W*H))∧Grow F F' w w':=by
 have hl4:l.length≤4096:=by rw [hl];exact Nat.mul_le_mul hw1 hh1
 have hpl:=mPlane_yes l A cap W H d w hw0 hw1 hh0 hh1 h0 h1 hl hs hc
 obtain ⟨hp0,hp1⟩:=pow_d h0 h1
 have hmo:=fun i=>modelTo_ok l W h0 h1 hp1 i
 have hml:=fun i=>modelBits_len l W h0 h1 hp1 i
 have hlook:=fun i (hi:i<l.length) m (hm:ModelOk m) bm w (h:IsMd w bm d m) (hc:Cells vi w A l)=>look_ok' bm d m l A cap W i w h hm h0 h1 hw0 hw1 (by omega) (by rw [hl] at hi;have:=Nat.mul_le_mul_left W hh1;rw [Nat.mul_comm 64 W];omega) hs hc hl4
 have hlt:∀ x∈F,x<w.heap.size:=h.lt
 obtain ⟨n,hn⟩:∃ n,n=l.length:=⟨_,rfl⟩
 rw [←hn] at hpl hlook hl4 hl ⊢
 rw [←hl]
 have HL:=hid hlook
 have HMO:=hid hmo
 have HML:=hid hml
 have HS:=hid hs
 have HN:=hid hn
 have HLT:=hid hlt
 have HP:=hid hp1
 have HA:=hid hA
 clear hlook hmo hml hs hn hl hlt hp1 hA
 go_enter Tryz.func89,Tryz.ntmps89
 go_wp2_with fail
 refine hpl.mono ?_
 rintro e w' ⟨rfl,rfl⟩
 go_wp2_with fail
 refine (mnew_ok d w h0 h1).mono ?_
 rintro e w1 ⟨bm,rfl,hmd,ch1,hbm⟩
 have hwr1:=h.same ch1
 have hbmF:bm∉F:=fun hm=>by have:=HLT.out _ hm;omega
 have hc1:=hc.same ch1
 have hA2:Hid (Apt A l (bm::F)):=hid fun h0 ad e hm=>by
  rcases List.mem_cons.1 hm with h9 | h9
  ·exact Apt.fresh hc (F:=[bm]) (by simpa using hbm) h0 ad e (by rw [h9];simp)
  ·exact HA.out h0 ad e h9
 clear hpl h hc
 go_wp2_with fail
 go_loopg [36] n (fun j iv wr=>∃ (i:Nat) (F' bs':List Nat),iv=.int .i64 i∧i+j=n∧IsWr wr b F' bs'∧Hid (bs'=bs++modelBits l W d i)∧bs'.length≤bs.length+65*i∧IsMd wr bm d (modelTo l W d i)∧bm∉F'∧Grow (bm::F) (bm::F') w1 wr)
 case atStart=>exact ⟨0,F,bs,rfl,by simp,hwr1,hid (by simp [modelBits]),by omega,hmd,hbmF,Grow.refl _ _⟩
 case round =>
  obtain ⟨i,F',bs',rfl,hij,hwr,Hb,hbl,hmdr,hbF,hgr⟩:=hrel
  rcases gk with _ | j
  ·obtain rfl:i=n:=by omega
   go_wp2
   go_ret
   refine ⟨rfl,F',?_,Grow.forget ch1 hgr hbm⟩
   rw [←Hb.out]
   exact hwr
  ·have hin:i<n:=by omega
   have hcr:Cells vi wr A l:=hc1.keep hA2.out hgr.chg
   have hnx:modelBits l W d (i+1)=modelBits l W d i++bitsAtM (modelTo l W d i) l W d i:=rfl
   have hnm:modelTo l W d (i+1)=nextM (modelTo l W d i) l W d i:=rfl
   have hmok:=HMO.out i
   have hlen1:=HML.out (i+1)
   rw [hnx,zC] at hlen1
   obtain ⟨m,hm⟩:∃ m,m=modelTo l W d i:=⟨_,rfl⟩
   rw [←hm] at hmdr hnx hnm hmok hlen1
   have hct:=ctxN_lt (nbr l W (i%W) (i / W)) d
   have hlk:=HL.out i hin m hmok bm wr hmdr hcr
   have hil:i<l.length:=by rw [←HN.out];exact hin
   obtain ⟨g,o,rfl,hcell⟩:=hcr.at_ hil
   have hxg:l[i]=l.getD i 0:=by rw [zD,zF hil];rfl
   have hx:=HS.out l[i] (zG _)
   rw [hxg] at hcell hx
   have hcell':wr.cell? ⟨g,o+i,none⟩=some (.int .i64 (l.getD i 0)):=hcell
   clear hcell
   have hpr:=guessM_ok (statAt m (ctxAt l W d i)) (guessI 7 (nbr l W (i%W) (i / W)) d) (turnAt l W d i) (d:=d) hp0
   have hpe:predAt m l W d i=guessM (statAt m (ctxAt l W d i)) (guessI 7 (nbr l W (i%W) (i / W)) d) (turnAt l W d i) d:=rfl
   rw [←hpe] at hpr
   have her:=errOf_range (l.getD i 0) (predAt m l W d i) (turnAt l W d i) h0
   have hew:=errOf_mid (l.getD i 0) (predAt m l W d i) (turnAt l W d i) h0 h1
   have hee:errAt m l W d i=errOf (l.getD i 0) (predAt m l W d i) (turnAt l W d i) d:=rfl
   rw [←hee] at her hew
   have hbe:bitsAtM m l W d i=rbits (kOf (statAt m (ctxAt l W d i))) (errAt m l W d i):=rfl
   have hne:nextM m l W d i=m.set (ctxAt l W d i) (learnS (statAt m (ctxAt l W d i)) (errAt m l W d i)):=rfl
   rw [hbe] at hnx hlen1
   rw [hne] at hnm
   have hct':ctxAt l W d i<365:=hct
   have hkl:=kOf_le (statAt_mem hmok hct').2
   generalize ctxAt l W d i=cx at *
   generalize predAt m l W d i=pr at *
   generalize turnAt l W d i=tb at *
   generalize errAt m l W d i=er at *
   generalize l.getD i 0=x at *
   have hkk:=fun w h=>mk_ok bm d m cx w h hmok hct'
   generalize kOf (statAt m cx)=kk at *
   have hlearn:=fun w h=>learn_ok bm d m cx er w h hmok h0 h1 hct' her.1 her.2
   obtain ⟨hx0,hx1⟩:=hx
   obtain ⟨hr0,hr1⟩:=hpr
   have hx2:x<65536:=Int.lt_of_lt_of_le hx1 HP.out
   have hr2:pr<65536:=Int.lt_of_lt_of_le hr1 HP.out
   clear hx1 hr1
   have HLN:=hid hlearn
   have HKK:=hid hkk
   have HNX:=hid hnx
   have HNM:=hid hnm
   have HEE:=hid hee
   have HLE:=hid hlen1
   have HML':=hid hm
   clear hlearn hkk hnx hnm hee hlen1 hm hpe hct hxg hbe hne hmok hcr her
   go_wp2_with fail
   refine hlk.mono ?_
   rintro e w2 ⟨rfl,ch2⟩
   clear hlk
   have hwr2:=hwr.same ch2
   have hmd2:=hmdr.chg ch2 (by simp)
   have hgr2:=hgr.same ch2
   cases tb with
   | false =>
    have hfd:=fold_ok (x-pr) d w2 h0 h1
    have e1:foldI (x-pr) d=er:=by rw [HEE.out];rfl
    rw [e1] at hfd
    go_wp2_with fail
    refine hfd.mono ?_
    rintro e w' ⟨rfl,rfl⟩
    go_wp2_with fail
    refine (HKK.out _ hmd2).mono ?_
    rintro e w3 ⟨rfl,n3,rfl⟩
    go_wp2_with fail
    refine (rput1_ok _ b F' bs' kk er (hwr2.same ((Chg.refl [] w2).drewN n3)) (by omega) hew (by omega)).mono ?_
    rintro e w4 ⟨rfl,F2,hwr4,hgr4⟩
    have hb2:bm∉F2:=hgr4.out hmd2.lt hbF
    have hmd4:=(hmd2.chg ((Chg.refl [] w2).drewN n3) (by simp)).chg hgr4.chg hbF
    have hgr5:=(hgr2.drewN n3).trans (hgr4.cons bm)
    go_wp2_with fail
    refine (HLN.out _ hmd4).mono ?_
    rintro e w5 ⟨rfl,hmd5,ch5⟩
    go_wp2_with fail
    go_roundg j
    case measure=>omega
    case rel =>
     refine ⟨i+1,F2,bs'++rbits kk er,by go_num,by omega,hwr4.chg ch5 (fun y hy hm=>by rw [List.mem_singleton.1 hm] at hy;exact hb2 hy),hid (by rw [HNX.out,←List.append_assoc,←Hb.out]),?_,?_,hb2,?_⟩
     ·rw [zC];have:=rbits_len kk er;have:=rcost_le kk er (by omega);omega
     ·rw [HNM.out];exact hmd5
     ·exact hgr5.trans ⟨ch5.mono fun y hy _=>by rw [List.mem_singleton.1 hy];simp,fun y hy => .inl hy⟩
   | true =>
    have hfd:=fold_ok (x-pr) d w2 h0 h1
    have hfd2:=fold_ok (-foldI (x-pr) d) d w2 h0 h1
    have hfr:=foldI_range (x-pr) h0
    have e1:foldI (-foldI (x-pr) d) d=er:=by rw [HEE.out];rfl
    rw [e1] at hfd2
    have hfm:=errRange16 h1 hfr
    generalize foldI (x-pr) d=fo at *
    clear hfr
    go_wp2_with fail
    refine hfd.mono ?_
    rintro e w' ⟨rfl,rfl⟩
    go_wp2_with fail
    refine hfd2.mono ?_
    rintro e w' ⟨rfl,rfl⟩
    go_wp2_with fail
    refine (HKK.out _ hmd2).mono ?_
    rintro e w3 ⟨rfl,n3,rfl⟩
    go_wp2_with fail
    refine (rput1_ok _ b F' bs' kk er (hwr2.same ((Chg.refl [] w2).drewN n3)) (by omega) hew (by omega)).mono ?_
    rintro e w4 ⟨rfl,F2,hwr4,hgr4⟩
    have hb2:bm∉F2:=hgr4.out hmd2.lt hbF
    have hmd4:=(hmd2.chg ((Chg.refl [] w2).drewN n3) (by simp)).chg hgr4.chg hbF
    have hgr5:=(hgr2.drewN n3).trans (hgr4.cons bm)
    go_wp2_with fail
    refine (HLN.out _ hmd4).mono ?_
    rintro e w5 ⟨rfl,hmd5,ch5⟩
    go_wp2_with fail
    go_roundg j
    case measure=>omega
    case rel =>
     refine ⟨i+1,F2,bs'++rbits kk er,by go_num,by omega,hwr4.chg ch5 (fun y hy hm=>by rw [List.mem_singleton.1 hm] at hy;exact hb2 hy),hid (by rw [HNX.out,←List.append_assoc,←Hb.out]),?_,?_,hb2,?_⟩
     ·rw [zC];have:=rbits_len kk er;have:=rcost_le kk er (by omega);omega
     ·rw [HNM.out];exact hmd5
     ·exact hgr5.trans ⟨ch5.mono fun y hy _=>by rw [List.mem_singleton.1 hy];simp,fun y hy => .inl hy⟩
theorem bitAt_zeros {ds:List Nat} {p n:Nat} {bs:List Nat} (h:Ahead ds p (List.replicate n 0++1::bs)):(∀ i,i<n→bitAt ds (p+i)=0)∧bitAt ds (p+n)=1 :=
 ⟨fun i hi=>h.get (by rw [List.getElem?_append_left (by simpa using hi)];simp [hi]),h.get (by rw [List.getElem?_append_right (by simp)];simp)⟩
theorem ahead_one {ds:List Nat} {p n:Nat} {bs:List Nat} (h:Ahead ds p (List.replicate n 0++1::bs)):Ahead ds (p+n+1) bs:=by
 have h1:Ahead ds p ((List.replicate n 0++[1])++bs):=by simpa using h
 have:=h1.right
 rw [zC,List.length_replicate,List.length_singleton,←Nat.add_assoc] at this
 exact this
theorem rone_ok (w:World) (b:Nat) (F ds:List Nat) (p k:Nat) (x:Int) (h:IsRd w b F ds p) (hk:k≤25) (hx:wideP x) (ha:Ahead ds p (rbits k x)) :
  Calls Tryz.prog 150 #[.pointer (some ⟨b,0,none⟩),.int .i64 k] w fun e w'=>e=.returned (.tuple #[.int .i64 x,.int .i64 0])∧IsRd w' b F ds (p+(rbits k x).length)∧Chg [b] w w':=by
 have hu:=rfold_lt hx
 have hux:=unfoldI_rfold x
 have hle:=h.at_le
 obtain ⟨u,hu'⟩:∃ u,u=rfold x:=⟨_,rfl⟩
 have hrb:rbits k x=if u / 2^k<32 then List.replicate (u / 2^k) 0++1::bitsOf (u%2^k) k else List.replicate 32 0++1::bitsOf u 32:=by unfold rbits;rw [←hu']
 rw [←hu'] at hu hux
 have hqm:=Nat.div_add_mod u (2^k)
 have hlt2:=Nat.mod_lt u (Nat.two_pow_pos k)
 have hp25:2^k≤33554432:=Nat.pow_le_pow_right (n:=2) (j:=25) (by decide) hk
 obtain ⟨q,hq'⟩:∃ q,q=u / 2^k:=⟨_,rfl⟩
 obtain ⟨r,hr'⟩:∃ r,r=u%2^k:=⟨_,rfl⟩
 have e1:(u:Int) / 2^k=(q:Int):=by rw [hq'];simp
 rw [←hq'] at hqm hrb
 rw [←hr'] at hqm hlt2 hrb
 have hqp:(q:Int)*2^k=(u:Int)-r:=by
  have:((2^k*q+r:Nat):Int)=(u:Int):=by rw [hqm]
  rw [Int.natCast_add,Int.natCast_mul,Int.natCast_pow] at this
  rw [Int.mul_comm]
  simp at this
  omega
 have hru:r≤u:=by rw [hr'];exact Nat.mod_le _ _
 have HLT2:=hid hlt2
 have HUX:=hid hux
 clear hqm hq' hr' hu' hlt2 hp25 hux
 by_cases hs:q<32
 ·rw [if_pos hs] at hrb
  rw [hrb] at ha ⊢
  obtain ⟨hz,h1⟩:=bitAt_zeros ha
  have ha2:=ahead_one ha
  have hl:=ha.le hle
  simp only [zC,List.length_replicate,List.length_cons,bitsOf_len] at hl
  have hlen:(List.replicate q 0++1::bitsOf r k).length=q+1+k:=by simp [bitsOf_len];omega
  rw [hlen]
  have t1:decide ((q:Int)<32)=true:=by simp;omega
  have HP1:=hid hz
  have HP2:=hid h1
  have HA2:=hid ha2
  clear hz h1 ha2 ha hrb hlen
  go_enter Tryz.func150,Tryz.ntmps150
  go_wp2_with fail
  refine (runary_ok w b F ds p q 32 h (by omega) (by omega) HP1.out HP2.out (by omega)).mono ?_
  rintro e w1 ⟨rfl,hr1,ch1⟩
  go_wp2_with (go_at_call 60;refine (err_ok _ b F ds _ hr1).mono ?_;rintro e w' ⟨rfl,rfl⟩)
  refine (rget_ahead _ b F ds (p+q+1) k r hr1 (by omega) HLT2.out HA2.out).mono ?_
  rintro e w2 ⟨rfl,hr2,ch2⟩
  go_wp2_with fail
  have hun:=unfold_ok u w2 hu
  rw [HUX.out] at hun
  refine hun.mono ?_
  rintro e w3 ⟨rfl,rfl⟩
  go_wp2_with (go_at_call 60;refine (err_ok _ b F ds _ hr2).mono ?_;rintro e w' ⟨rfl,rfl⟩)
  go_ret2
  exact ⟨rfl,by rw [show p+(q+1+k)=p+q+1+k by omega];exact hr2,ch1.trans_same ch2⟩
 ·rw [if_neg hs] at hrb
  rw [hrb] at ha ⊢
  obtain ⟨hz,h1⟩:=bitAt_zeros ha
  have ha2:=ahead_one ha
  have hl:=ha.le hle
  simp only [zC,List.length_replicate,List.length_cons,bitsOf_len] at hl
  have hlen:(List.replicate 32 0++1::bitsOf u 32).length=32+1+32:=by simp [bitsOf_len]
  rw [hlen]
  have t1:decide ((2147483648:Int)≤(u:Int))=false:=by simp;omega
  have t2:decide ((q:Int)<32)=false:=by simp;omega
  have HP1:=hid hz
  have HP2:=hid h1
  have HA2:=hid ha2
  clear hz h1 ha2 ha hrb hlen hqp
  go_enter Tryz.func150,Tryz.ntmps150
  go_wp2_with fail
  refine (runary_ok w b F ds p 32 32 h (by omega) (by omega) HP1.out HP2.out (by omega)).mono ?_
  rintro e w1 ⟨rfl,hr1,ch1⟩
  go_wp2_with (go_at_call 60;refine (err_ok _ b F ds _ hr1).mono ?_;rintro e w' ⟨rfl,rfl⟩)
  refine (rget_ahead _ b F ds (p+32+1) 32 u hr1 (by omega) (by omega) HA2.out).mono ?_
  rintro e w2 ⟨rfl,hr2,ch2⟩
  have hun:=unfold_ok u w2 hu
  rw [HUX.out] at hun
  go_wp2_with (first | (go_at_call 60;refine (err_ok _ b F ds _ hr2).mono ?_;rintro e w' ⟨rfl,rfl⟩) | (go_at_call 126;refine hun.mono ?_;rintro e w' ⟨rfl,rfl⟩))
  go_ret2
  exact ⟨rfl,hr2,ch1.trans_same ch2⟩
theorem rbitsAll_cons (k:Nat) (x:Int) (l:List Int):rbitsAll k (x::l)=rbits k x++rbitsAll k l:=by simp [rbitsAll]
theorem rbitsAll_split (k:Nat) (l:List Int) {m:Nat} (hm:m<l.length):rbitsAll k (l.drop m)=rbits k l[m]++rbitsAll k (l.drop (m+1)):=by
 rw [List.drop_eq_getElem_cons hm,rbitsAll_cons]
theorem Ahead.cast {ds:List Nat} {p q:Nat} {bs:List Nat} (h:Ahead ds p bs) (e:p=q):Ahead ds q bs:=e ▸ h
theorem IsRd.cast {w:World} {b:Nat} {F ds:List Nat} {p q:Nat} (h:IsRd w b F ds p) (e:p=q):IsRd w b F ds q:=e ▸ h
theorem rgets_ok (w:World) (b:Nat) (F ds:List Nat) (p k:Nat) (l:List Int) (h:IsRd w b F ds p) (hk:k≤25) (hw:∀ x∈l,wideP x) (hl:l.length≤4194304) (ha:Ahead ds p (rbitsAll k l)) :
  Calls Tryz.prog 101 #[.pointer (some ⟨b,0,none⟩),.int .i64 k,.int .i64 l.length] w fun e w'=>∃ v G,e=.returned (.tuple #[v,.int .i64 0])∧Own w' 3 v G (l.map vi)∧IsRd w' b F ds (p+(rbitsAll k l).length)∧Chg [b] w w'∧∀ x∈G,w.heap.size≤x:=by
 have HW:=hid hw
 have HA:=hid ha
 clear hw ha
 have hbl:=h.lt b h.mem
 obtain ⟨n,hn⟩:∃ n,n=l.length:=⟨_,rfl⟩
 rw [←hn] at hl ⊢
 have HN:=hid hn
 clear hn
 have t1:decide ((n:Int)<0)=false:=by simp
 have t2:decide ((4194304:Int)<(n:Int))=false:=by simp;omega
 go_enter Tryz.func101,Tryz.ntmps101
 go_wp2_with (first | (go_at_call 149;refine (param_yes _ _ hk).mono ?_;rintro e w' ⟨rfl,rfl⟩) | (go_at_call 60;refine (err_ok _ b F ds _ h).mono ?_;rintro e w' ⟨rfl,rfl⟩))
 go_loopg [8,28] n (fun j v i wr=>∃ G p' out,j≤n∧i=.int .i64 ((n-j:Nat):Int)∧Own wr 3 v G (out.map vi)∧Hid (out=l.take (n-j))∧IsRd wr b F ds p'∧Hid (Ahead ds p' (rbitsAll k (l.drop (n-j))))∧Hid (p'+(rbitsAll k (l.drop (n-j))).length=p+(rbitsAll k l).length)∧Chg [b] w wr∧∀ x∈G,w.heap.size≤x)
 case atStart=>exact ⟨[],p,[],Nat.le_refl _,by simp,Own.nil _ _,hid (by simp),h,by simpa using HA,hid (by simp),Chg.refl _ _,by simp⟩
 case round =>
  obtain ⟨G,p',out,hj,rfl,ho,Ho,hrd,Ha,Hp,hch,hG⟩:=hrel
  obtain ⟨A,cap,rfl,hcl,hcm,-⟩:=ho.open_map
  have HG:=hid hG
  clear hG
  rcases gk with _ | j
  ·have t4:decide (((n-0:Nat):Int)<(n:Int))=false:=by simp
   go_wp2
   go_ret2
   have e:l.take (n-0)=l:=by rw [HN.out,Nat.sub_zero,List.take_length]
   have e2:l.drop (n-0)=[]:=by rw [HN.out,Nat.sub_zero,List.drop_length]
   rw [Ho.out,e] at ho
   have hp:=Hp.out
   rw [e2] at hp
   refine ⟨_,G,rfl,?_,hrd.cast (by simpa [rbitsAll] using hp),hch,HG.out⟩
   rw [Ho.out,e]
   exact ho
  ·obtain ⟨m,hm1⟩:∃ m,m=n-(j+1):=⟨_,rfl⟩
   rw [←hm1] at Ha Hp Ho ⊢
   have hm2:m<n:=by omega
   have hm3:n-j=m+1:=by omega
   have HM:=hid hm3
   clear hm1 hm3
   have hml:m<l.length:=by rw [←HN.out];exact hm2
   have hsp:=rbitsAll_split k l hml
   have htk:=take_snoc' l hml
   have hxw:wideP l[m]:=HW.out _ (zG _)
   obtain ⟨x,hx⟩:∃ x,x=l[m]:=⟨_,rfl⟩
   rw [←hx] at hsp hxw htk
   have ha1:=Ha.out
   rw [hsp] at ha1
   have hone:=rone_ok wr b F ds p' k x hrd hk hxw ha1.left
   have HA2:=hid ha1.right
   have hol:out.length≤4194304:=by rw [Ho.out,List.length_take];omega
   have HTK:=hid htk
   have HSP:=hid hsp
   clear hsp htk hx ha1 hml
   go_wp2_with fail
   refine hone.mono ?_
   rintro e w1 ⟨rfl,hr1,ch1⟩
   have hbG:∀ y∈G,y∉[b]:=fun y hy=>by have:=HG.out y hy;simp;omega
   have ho1:=ho.chg ch1 hbG
   have HB:=hid hbG
   clear hone hbG
   go_wp2_with (at_builtin;refine wpList_append_o1 rfl rfl int_elem rfl rfl (ho1.alloc _) (.int .i64 x) rfl ?c1 ?c2 ?c3 ?c4 ?_)
   case c1=>simp [go_sem]
   case c2=>rfl
   case c3=>rw [zE];omega
   case c4=>rw [zE];omega
   intro g2 cap2 w2 hr2 gr2
   go_wp2_with fail
   go_roundg j
   case measure=>omega
   case rel =>
    rw [HM.out]
    have ch2:Chg [b] w w2:=(hch.trans_same (ch1.alloc _)).trans gr2.chg fun x hx => .inr (HG.out x hx)
    have hng:∀ y∈F,y∉G:=fun y hy hyG=>by have:=HG.out y hyG;have:=h.lt y hy;omega
    refine ⟨[g2],_,out++[x],by omega,by go_num,?_,?_,(hr1.same ((Chg.refl [] w1).alloc _)).chg gr2.chg hng,HA2,?_,ch2,?_⟩
    ·have:=hr2.toOwn
     simpa [vi] using this
    ·exact hid (by rw [Ho.out,HTK.out])
    ·refine hid ?_
     rw [←Hp.out,HSP.out,zC]
     omega
    ·intro y hy
     simp at hy
     subst hy
     rcases gr2.new y (by simp) with h1 | h1
     ·exact HG.out y h1
     ·have:=hch.size
      have:=ch1.size
      simp at h1
      omega
end Go.Proofs.YtijpbkakncglgaaGreatDoor
