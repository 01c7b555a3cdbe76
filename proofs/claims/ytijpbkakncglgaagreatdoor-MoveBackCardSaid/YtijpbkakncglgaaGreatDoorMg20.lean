/- sample.Low, High, Fits, Width; parts.row, right, raw, choose by their contracts. -/
import Derived.Test.YtijpbkakncglgaaGreatDoorMg16
import Derived.Test.YtijpbkakncglgaaGreatDoorMg19
set_option linter.unusedVariables false
set_option linter.unusedSimpArgs false
set_option maxHeartbeats 2000000
set_option maxRecDepth 100000
namespace Go.Proofs.YtijpbkakncglgaaGreatDoor
open Go.RowKit
theorem low_ok (m:Nat) (w:World) (hm:m≤30):Calls Tryz.prog 216 #[.int .i64 ((m:Int)+1)] w fun e w'=>e=.returned (.int .i64 (-2^m))∧w=w':=by
 have t1:decide ((m:Int)+1<1)=false:=by simp;omega
 have t2:decide ((31:Int)<(m:Int)+1)=false:=by simp;omega
 have hp:(2:Int)^m≤1073741824:=pow_half_mono (n:=30) hm
 have hp0:=two_pow_pos' m
 go_enter Tryz.func216,Tryz.ntmps216
 go_wp2
 go_ret
 refine ⟨?_,rfl⟩
 first | rfl | (go_num)
theorem high_ok (m:Nat) (w:World) (hm:m≤30):Calls Tryz.prog 217 #[.int .i64 ((m:Int)+1)] w fun e w'=>e=.returned (.int .i64 (2^m-1))∧w=w':=by
 have t1:decide ((m:Int)+1<1)=false:=by simp;omega
 have t2:decide ((31:Int)<(m:Int)+1)=false:=by simp;omega
 have hp:(2:Int)^m≤1073741824:=pow_half_mono (n:=30) hm
 have hp0:=two_pow_pos' m
 go_enter Tryz.func217,Tryz.ntmps217
 go_wp2
 go_ret
 refine ⟨?_,rfl⟩
 first | rfl | (go_num)
theorem fits_ok (x:Int) (n:Nat) (w:World) (hn:n≤31) (hx0 : -4611686018427387904≤x) (hx1:x≤4611686018427387904):Calls Tryz.prog 204 #[.int .i64 x,.int .i64 n] w fun e w'=>e=.returned (.bool (fitsB x n))∧w=w':=by
 rcases n with _ | m
 ·have hf:fitsB x 0=false:=by simp [fitsB]
  rw [hf]
  go_enter Tryz.func204,Tryz.ntmps204
  go_wp2
  go_ret
  exact ⟨rfl,rfl⟩
 ·have hm:m≤30:=by omega
  have hcast:((m+1:Nat):Int)=(m:Int)+1:=by omega
  rw [hcast]
  have t1:decide ((1:Int)≤(m:Int)+1)=true:=by simp;omega
  have t2:decide ((m:Int)+1≤31)=true:=by simp;omega
  have hp:(2:Int)^m≤1073741824:=pow_half_mono (n:=30) hm
  have hp0:=two_pow_pos' m
  have hf:fitsB x (m+1)=(decide (-2^m≤x)&&decide (x≤2^m-1)):=by
   unfold fitsB
   simp [hn]
  rw [hf]
  clear hf
  by_cases h1 : -2^m≤x
  ·have t3:decide ((-2^m:Int)≤x)=true:=by simpa using h1
   by_cases h2:x≤2^m-1
   ·have t4:decide (x≤(2^m-1:Int))=true:=by simpa using h2
    rw [t3,t4]
    go_enter Tryz.func204,Tryz.ntmps204
    go_wp2_with (first | (go_at_call 216;refine (low_ok m _ hm).mono ?_;rintro e w' ⟨rfl,rfl⟩) | (go_at_call 217;refine (high_ok m _ hm).mono ?_;rintro e w' ⟨rfl,rfl⟩))
    go_ret
    exact ⟨rfl,rfl⟩
   ·have t4:decide (x≤(2^m-1:Int))=false:=by simpa using h2
    rw [t3,t4]
    go_enter Tryz.func204,Tryz.ntmps204
    go_wp2_with (first | (go_at_call 216;refine (low_ok m _ hm).mono ?_;rintro e w' ⟨rfl,rfl⟩) | (go_at_call 217;refine (high_ok m _ hm).mono ?_;rintro e w' ⟨rfl,rfl⟩))
    go_ret
    exact ⟨rfl,rfl⟩
  ·have t3:decide ((-2^m:Int)≤x)=false:=by simpa using h1
   rw [t3]
   go_enter Tryz.func204,Tryz.ntmps204
   go_wp2_with (first | (go_at_call 216;refine (low_ok m _ hm).mono ?_;rintro e w' ⟨rfl,rfl⟩) | (go_at_call 217;refine (high_ok m _ hm).mono ?_;rintro e w' ⟨rfl,rfl⟩))
   go_ret
   exact ⟨rfl,rfl⟩
theorem width_ok (l:List Int) (A:Option Addr) (cap:Nat) (w:World) (hw:∀ x∈l,wideP x) (hc:Cells vi w A l) (hl:l.length≤1099511627776) :
  Calls Tryz.prog 172 #[.slice A l.length cap] w fun e w'=>e=.returned (.int .i64 (widthL l))∧w=w':=by
 have HW:=hid hw
 clear hw
 obtain ⟨n,hn⟩:∃ n,n=l.length:=⟨_,rfl⟩
 rw [←hn] at hl ⊢
 have HN:=hid hn
 clear hn
 go_enter Tryz.func172,Tryz.ntmps172
 go_wp2_with fail
 go_loopg [3,8] n (fun j s i wr=>j≤n∧i=.int .i64 ((n-j:Nat):Int)∧s=.int .i64 ((widthL (l.take (n-j)):Nat):Int)∧w=wr)
 case atStart=>exact ⟨Nat.le_refl _,by simp,by simp [widthL],rfl⟩
 case round =>
  obtain ⟨hj,rfl,rfl,rfl⟩:=hrel
  rcases gk with _ | j
  ·have t4:decide (((n-0:Nat):Int)<(n:Int))=false:=by simp
   have e:l.take n=l:=by rw [HN.out,List.take_length]
   rw [Nat.sub_zero,e]
   go_wp2
   go_ret
   exact ⟨rfl,rfl⟩
  ·obtain ⟨m,hm1⟩:∃ m,m=n-(j+1):=⟨_,rfl⟩
   rw [←hm1]
   have hm2:m<n:=by omega
   have hm3:n-j=m+1:=by omega
   have HM:=hid hm3
   clear hm1 hm3
   have hml:m<l.length:=by rw [←HN.out];exact hm2
   obtain ⟨b,o,rfl,hcell⟩:=hc.at_ hml
   have hsn:=widthL_snoc (l.take m) l[m]
   rw [←take_snoc' l hml] at hsn
   have hle:=widthL_le (l:=l.take m) (fun x hx=>HW.out x (List.mem_of_mem_take hx))
   obtain ⟨x,hx⟩:∃ x,x=l[m]:=⟨_,rfl⟩
   rw [←hx] at hcell hsn
   have hcell':w.cell? ⟨b,o+m,none⟩=some (.int .i64 x):=hcell
   have hxw:wideP x:=by rw [hx];exact HW.out _ (zG _)
   have hxx:=hxw
   obtain ⟨hx0,hx1⟩:=hxx
   obtain ⟨s,hs⟩:∃ s,s=widthL (l.take m):=⟨_,rfl⟩
   rw [←hs] at hsn hle ⊢
   have HS:=hid hsn
   have hfin:=need_le hxw 32 s hle
   clear hsn hcell hx hs hml
   go_wp2_with fail
   go_loopg [3] (32-s) (fun f v wr=>∃ v':Nat,v=.int .i64 v'∧v'+f=32∧Hid (needFrom x 32 s=needFrom x f v')∧v'≤31∧w=wr)
   case atStart=>exact ⟨s,rfl,by omega,hid (by
    have:∀ d,d+(32-s)=32→needFrom x 32 s=needFrom x (32-s) s:=by
     intro d _
     have key:∀ f g w',w'≤31→32≤w'+f→32≤w'+g→needFrom x f w'=needFrom x g w':=by
      intro f
      induction f with
      | zero=>intro g w' h1 h2 h3;omega
      | succ f ih =>
       intro g w' h1 h2 h3
       rcases g with _ | g
       ·omega
       ·unfold needFrom
        split
        ·rename_i hcc
         have:w'≠31:=fun e=>by rw [e,fits_wide hxw] at hcc;simp at hcc
         exact ih g (w'+1) (by omega) (by omega) (by omega)
        ·rfl
     exact key 32 (32-s) s hle (by omega) (by omega)
    exact this s (by omega)),hle,rfl⟩
   case round =>
    obtain ⟨v,rfl,hvf,Hn,hv31,rfl⟩:=hrel
    have hfv:=fits_ok x v w hv31 (by omega) (by omega)
    by_cases hx00:x=0
    ·have hst:=need_stop (x:=x) (w:=v) (f:=gk) (.inl hx00)
     rw [←Hn.out,←HS.out] at hst
     have HST:=hid hst
     clear hst Hn hfin HS
     have t5:(x != 0)=false:=by simp [hx00]
     clear hx00
     go_wp2
     go_roundg j
     case measure=>omega
     case rel=>rw [HM.out,HST.out];exact ⟨by omega,by go_num,rfl,rfl⟩
    ·have t5:(x != 0)=true:=by simp [hx00]
     have t6:decide ((v:Int)<32)=true:=by simp;omega
     have hx00':x≠0:=hx00
     have HX:=hid hx00'
     clear hx00 hx00'
     cases hfb:fitsB x v with
     | true =>
      rw [hfb] at hfv
      have hst:=need_stop (x:=x) (w:=v) (f:=gk) (.inr hfb)
      rw [←Hn.out,←HS.out] at hst
      have HST:=hid hst
      clear hst Hn hfb hfin HS
      go_wp2_with (go_at_call 204;refine hfv.mono ?_;rintro e w' ⟨rfl,rfl⟩)
      go_roundg j
      case measure=>omega
      case rel=>rw [HM.out,HST.out];exact ⟨by omega,by go_num,rfl,rfl⟩
     | false =>
      rw [hfb] at hfv
      have hne:v≠31:=fun e=>by rw [e,fits_wide hxw] at hfb;cases hfb
      obtain ⟨g,rfl⟩:∃ g,gk=g+1:=⟨gk-1,by omega⟩
      have hst:=need_step HX.out (by omega) hfb g
      rw [←Hn.out] at hst
      have HST:=hid hst
      clear hst Hn hfb
      go_wp2_with (go_at_call 204;refine hfv.mono ?_;rintro e w' ⟨rfl,rfl⟩)
      go_roundg g
      case measure=>omega
      case rel=>exact ⟨v+1,by go_num,by omega,HST,by omega,rfl⟩
theorem prow_yes (n warm:Nat) (w:World) (h1:1≤n) (h2:n≤4096) (h3:warm≤n):Calls Tryz.prog 139 #[.int .i64 n,.int .i64 warm] w fun e w'=>e=.returned (.bool true)∧w=w':=by
 have t1:decide ((1:Int)≤(n:Int))=true:=by simp;omega
 have t2:decide ((n:Int)≤4096)=true:=by simp;omega
 have t3:decide ((0:Int)≤(warm:Int))=true:=by simp
 have t4:decide (warm≤n)=true:=by simp;omega
 go_enter Tryz.func139,Tryz.ntmps139
 go_wp2
 go_ret
 exact ⟨rfl,rfl⟩
theorem Own.one (w:World) (e:TypeId) (u:Value):Own (w.alloc (.cells #[u] e)) e (.slice (some ⟨w.heap.size,0,none⟩) 1 1) [w.heap.size] [u]:=by
 have:=(Row.made w e [u] (by simp [maxLen])).toOwn
 simpa using this
theorem sizes_ok (o n warm:Nat) (w:World) (ho:o≤8) (h1:1≤n) (h2:n≤4096) (h3:warm≤n) :
  Calls Tryz.prog 140 #[.int .i64 o,.int .i64 n,.int .i64 warm] w fun e w'=>∃ v G,e=.returned v∧Own w' 3 v G ((sizesL o n warm).map i64)∧Chg [] w w'∧∀ x∈G,w.heap.size≤x:=by
 have t1:decide ((o:Int)<0)=false:=by simp
 have t2:decide ((8:Int)<(o:Int))=false:=by simp;omega
 have hP2:2^o≤256:=Nat.pow_le_pow_right (n:=2) (j:=8) (by decide) ho
 have hP1:=Nat.two_pow_pos o
 obtain ⟨P,hP⟩:∃ P,P=2^o:=⟨_,rfl⟩
 obtain ⟨s,hs⟩:∃ s,s=n / 2^o:=⟨_,rfl⟩
 have hPI:(2:Int)^o=(P:Int):=by rw [hP];simp
 have hsn:s≤n:=by rw [hs];exact Nat.div_le_self _ _
 have hsP:s*P≤n:=by rw [hs,hP];exact Nat.div_mul_le_self _ _
 have hdef:sizesL o n warm=if s*P=n∧warm≤s then (s-warm)::List.replicate (P-1) s else []:=by unfold sizesL;rw [←hs,←hP]
 have e1:(n:Int) / (P:Int)=(s:Int):=by rw [hs,hP];simp
 rw [←hP] at hP1 hP2
 have HD:=hid hdef
 clear hdef hs
 have HP:=hid hP
 clear hP
 by_cases c1:s*P=n
 ·have t3:(((s:Int)*(P:Int)) != (n:Int))=false:=by
   rw [bne_eq_false_iff_eq]
   exact_mod_cast c1
  by_cases c2:warm≤s
  ·have t4:decide (s<warm)=false:=by simp;omega
   rw [if_pos ⟨c1,c2⟩] at HD
   have hsub:((s:Int)-(warm:Int))=((s-warm:Nat):Int):=by omega
   have HC1:=hid c1
   clear c1
   go_enter Tryz.func140,Tryz.ntmps140
   go_wp2_with (go_at_call 139;refine (prow_yes n warm _ h1 h2 h3).mono ?_;rintro e w' ⟨rfl,rfl⟩)
   go_loopg [8] (P-1) (fun j v wr=>∃ G out,Own wr 3 v G (out.map i64)∧Hid (out=(s-warm)::List.replicate (P-1-j) s)∧out.length+j=P∧Chg [] w wr∧∀ x∈G,w.heap.size≤x)
   case atStart=>exact ⟨[w.heap.size],[s-warm],by simpa [i64] using Own.one w 3 (.int .i64 ((s-warm:Nat):Int)),hid (by simp),by simp;omega,(Chg.refl _ _).alloc _,by simp⟩
   case round =>
    obtain ⟨G,out,hown,Ho,hol,hch,hG⟩:=hrel
    obtain ⟨A,cap,rfl,hcl,hcm,-⟩:=hown.open_map
    have HG:=hid hG
    clear hG
    rcases gk with _ | j
    ·have t5:decide (out.length<P)=false:=by simp;omega
     have HOL:=hid hol
     clear hol
     go_wp2
     go_ret
     refine ⟨_,G,rfl,?_,hch,HG.out⟩
     rw [HD.out]
     have ho:=Ho.out
     rw [Nat.sub_zero] at ho
     rw [←ho]
     exact hown
    ·have t5:decide (out.length<P)=true:=by simp;omega
     have HOL:=hid hol
     have hol2:out.length≤256:=by omega
     clear hol
     go_wp2_with (at_builtin;refine wpList_append_o1 rfl rfl int_elem rfl rfl (hown.alloc _) (.int .i64 s) rfl ?c1 ?c2 ?c3 ?c4 ?_)
     case c1=>simp [go_sem]
     case c2=>rfl
     case c3=>rw [zE];omega
     case c4=>rw [zE];omega
     intro g2 cap2 w2 hr2 gr2
     go_wp2_with fail
     go_roundg j
     case measure=>omega
     case rel =>
      have hol:=HOL.out
      refine ⟨[g2],out++[s],?_,hid ?_,by rw [zC,List.length_singleton];omega,(hch.alloc _).trans gr2.chg fun x hx => .inr (HG.out x hx),?_⟩
      ·have:=hr2.toOwn
       simpa [i64] using this
      ·have hge:1≤out.length:=by rw [Ho.out];simp
       rw [Ho.out]
       have e:P-1-j=P-1-(j+1)+1:=by omega
       rw [e,List.replicate_succ',List.cons_append]
      ·intro y hy
       simp at hy
       subst hy
       rcases gr2.new y (by simp) with h5 | h5
       ·exact HG.out y h5
       ·have:=hch.size
        simp at h5
        omega
  ·have t4:decide (s<warm)=true:=by simp;omega
   rw [if_neg (fun h=>c2 h.2)] at HD
   have HC1:=hid c1
   clear c1
   go_enter Tryz.func140,Tryz.ntmps140
   go_wp2_with (go_at_call 139;refine (prow_yes n warm _ h1 h2 h3).mono ?_;rintro e w' ⟨rfl,rfl⟩)
   go_ret
   refine ⟨_,[],rfl,?_,Chg.refl _ _,by simp⟩
   rw [HD.out]
   exact Own.nil _ _
 ·have t3:(((s:Int)*(P:Int)) != (n:Int))=true:=by
   rw [bne_iff_ne]
   intro h
   exact c1 (by exact_mod_cast h)
  rw [if_neg (fun h=>c1 h.1)] at HD
  have HC1:=hid c1
  clear c1
  go_enter Tryz.func140,Tryz.ntmps140
  go_wp2_with (go_at_call 139;refine (prow_yes n warm _ h1 h2 h3).mono ?_;rintro e w' ⟨rfl,rfl⟩)
  go_ret
  refine ⟨_,[],rfl,?_,Chg.refl _ _,by simp⟩
  rw [HD.out]
  exact Own.nil _ _
theorem right_yes (n warm:Nat) (l:List Int) (A:Option Addr) (cap:Nat) (w:World) (h1:1≤n) (h2:n≤4096) (h3:warm≤n) (hl:l.length=n-warm) (hw:∀ x∈l,wideP x) (hc:Cells vi w A l) :
  Calls Tryz.prog 169 #[.int .i64 n,.int .i64 warm,.slice A l.length cap] w fun e w'=>e=.returned (.bool true)∧w=w':=by
 have HW:=hid hw
 clear hw
 obtain ⟨m,hm⟩:∃ m,m=l.length:=⟨_,rfl⟩
 rw [←hm] at hl ⊢
 have hsub:((n:Int)-(warm:Int))=(m:Int):=by omega
 have t1:((m:Int) != (m:Int))=false:=by simp
 have HN:=hid hm
 have HL:=hid hl
 have hm4:m≤4096:=by omega
 clear hm hl
 go_enter Tryz.func169,Tryz.ntmps169
 go_wp2_with (go_at_call 139;refine (prow_yes n warm _ h1 h2 h3).mono ?_;rintro e w' ⟨rfl,rfl⟩)
 go_loopg [23] m (fun j i wr=>j≤m∧i=.int .i64 ((m-j:Nat):Int)∧w=wr)
 case atStart=>exact ⟨Nat.le_refl _,by simp,rfl⟩
 case round =>
  obtain ⟨hj,rfl,rfl⟩:=hrel
  rcases gk with _ | j
  ·have t4:decide (((m-0:Nat):Int)<(m:Int))=false:=by simp
   go_wp2
   go_ret
   exact ⟨rfl,rfl⟩
  ·obtain ⟨i,hi1⟩:∃ i,i=m-(j+1):=⟨_,rfl⟩
   rw [←hi1]
   have hi2:i<m:=by omega
   have hi3:m-j=i+1:=by omega
   have HI:=hid hi3
   clear hi1 hi3
   have hml:i<l.length:=by rw [←HN.out];exact hi2
   obtain ⟨g,o,rfl,hcell⟩:=hc.at_ hml
   have hxw:wideP l[i]:=HW.out _ (zG _)
   obtain ⟨x,hx⟩:∃ x,x=l[i]:=⟨_,rfl⟩
   rw [←hx] at hcell hxw
   have hcell':w.cell? ⟨g,o+i,none⟩=some (.int .i64 x):=hcell
   obtain ⟨hx0,hx1⟩:=hxw
   have t5:decide (x < -1073741824)=false:=zA (by omega)
   have t6:decide ((1073741824:Int)≤x)=false:=zA (by omega)
   clear hcell hx hml
   go_wp2
   go_roundg j
   case measure=>omega
   case rel =>
    rw [HI.out]
    exact ⟨by omega,by go_num,rfl⟩
theorem raw_ok' (l:List Int) (A:Option Addr) (cap:Nat) (w:World) (hw:∀ x∈l,wideP x) (hc:Cells vi w A l) (hl:l.length≤4194304) :
  Calls Tryz.prog 202 #[.slice A l.length cap] w fun e w'=>e=.returned (.int .i64 (rawCost l))∧w=w':=by
 have hwd:=width_ok l A cap w hw hc (by omega)
 have hle:=widthL_le hw
 obtain ⟨s,hs⟩:∃ s,s=widthL l:=⟨_,rfl⟩
 have hdef:rawCost l=5+s*l.length:=by unfold rawCost;rw [←hs]
 rw [←hs] at hwd hle
 have HD:=hid hdef
 have hb:s*l.length≤31*4194304:=Nat.mul_le_mul hle hl
 obtain ⟨n,hn⟩:∃ n,n=l.length:=⟨_,rfl⟩
 rw [←hn] at hwd hb HD ⊢
 have hbI:(s:Int)*(n:Int)≤130023424:=by
  have:((s*n:Nat):Int)≤130023424:=by omega
  rwa [Int.natCast_mul] at this
 have hbI0:(0:Int)≤(s:Int)*(n:Int):=Int.mul_nonneg (by omega) (by omega)
 clear hdef hs hw hc hn hb
 go_enter Tryz.func202,Tryz.ntmps202
 go_wp2_with (go_at_call 172;refine hwd.mono ?_;rintro e w' ⟨rfl,rfl⟩)
 go_ret
 rw [HD.out]
 refine ⟨?_,rfl⟩
 first | rfl | (go_num)
theorem choose_ok (l:List Int) (A:Option Addr) (cap:Nat) (w:World) (hw:∀ x∈l,wideP x) (hc:Cells vi w A l) (hl:l.length≤4194304) :
  Calls Tryz.prog 170 #[.slice A l.length cap] w fun e w'=>e=.returned (.int .i64 (chooseK l))∧w=w':=by
 have h1:=rbest_ok l A cap w hw hc (by omega)
 have h2:=raw_ok' l A cap w hw hc hl
 have h3:=rsum_ok (rbest l) l A cap w (rbest_le l) hw hc (by omega)
 have hdef:chooseK l=if rawCost l<rsum (rbest l) l then 31 else rbest l:=rfl
 obtain ⟨s,hs⟩:∃ s,s=rawCost l:=⟨_,rfl⟩
 obtain ⟨b,hb⟩:∃ b,b=rbest l:=⟨_,rfl⟩
 rw [←hs,←hb] at hdef
 rw [←hs] at h2
 rw [←hb] at h1 h3
 obtain ⟨t,ht⟩:∃ t,t=rsum b l:=⟨_,rfl⟩
 rw [←ht] at hdef h3
 have HD:=hid hdef
 clear hdef hs hb ht hw hc
 by_cases hlt:s<t
 ·have t5:decide (s<t)=true:=by simpa using hlt
  rw [if_pos hlt] at HD
  go_enter Tryz.func170,Tryz.ntmps170
  go_wp2_with (first | (go_at_call 128;refine h1.mono ?_;rintro e w' ⟨rfl,rfl⟩) | (go_at_call 202;refine h2.mono ?_;rintro e w' ⟨rfl,rfl⟩) | (go_at_call 175;refine h3.mono ?_;rintro e w' ⟨rfl,rfl⟩))
  go_ret
  rw [HD.out]
  exact ⟨rfl,rfl⟩
 ·have t5:decide (s<t)=false:=by simpa using hlt
  rw [if_neg hlt] at HD
  go_enter Tryz.func170,Tryz.ntmps170
  go_wp2_with (first | (go_at_call 128;refine h1.mono ?_;rintro e w' ⟨rfl,rfl⟩) | (go_at_call 202;refine h2.mono ?_;rintro e w' ⟨rfl,rfl⟩) | (go_at_call 175;refine h3.mono ?_;rintro e w' ⟨rfl,rfl⟩))
  go_ret
  rw [HD.out]
  exact ⟨rfl,rfl⟩
theorem Cells.i64_at {w:World} {A:Option Addr} {l:List Nat} (h:Cells i64 w A l) {m:Nat} (hm:m<l.length) :
  ∃ b o,A=some ⟨b,o,none⟩∧w.cell? ⟨b,o+m,none⟩=some (.int .i64 (l[m]:Nat)):=h.at_ hm
def KsOk (ks:List Nat):Prop:=∀ k∈ks,k≤25∨k=31
theorem pmay_yes (o n warm:Nat) (ks:List Nat) (A:Option Addr) (cap:Nat) (w:World) (ho:o≤8) (h1:1≤n) (h2:n≤4096) (h3:warm≤n) (hne:sizesL o n warm≠[]) (hlen:ks.length=(sizesL o n warm).length) (hks:KsOk ks) (hc:Cells i64 w A ks) :
  Calls Tryz.prog 203 #[.agg #[.int .i64 o,.slice A ks.length cap],.int .i64 n,.int .i64 warm] w fun e w'=>e=.returned (.bool true)∧Chg [] w w':=by
 have hl2:=sizesL_len hne
 have hP2:2^o≤256:=Nat.pow_le_pow_right (n:=2) (j:=8) (by decide) ho
 have hP1:=Nat.two_pow_pos o
 obtain ⟨N,hN⟩:∃ N,N=ks.length:=⟨_,rfl⟩
 have hNs:N=(sizesL o n warm).length:=by rw [hN,hlen]
 have hN1:1≤N:=by omega
 have hN2:N≤256:=by omega
 rw [←hN]
 have HKs:=hid hks
 have HN:=hid hN
 have HNs:=hid hNs
 clear hl2 hP2 hP1 hN hNs hlen hks hne
 go_enter Tryz.func203,Tryz.ntmps203
 go_wp2_with fail
 refine (sizes_ok o n warm _ ho h1 h2 h3).mono ?_
 rintro e w1 ⟨v,G,rfl,hown,hch,hG⟩
 obtain ⟨A2,cap2,rfl,hcl2,hcm2,-⟩:=hown.open_map
 rw [←HNs.out]
 have hbx:=(Blk.new w 121 #[.int .i64 o,.slice A N cap]).chg hch (by simp)
 have hd1:=hbx.cell 1
 simp at hd1
 have hch0:Chg [] w w1:=((Chg.refl [] w).alloc _).trans_same hch
 have hc1:=hc.same hch0
 have t1:((N:Int)==0)=false:=by rw [beq_eq_false_iff_ne];omega
 have t2:((N:Int) != (N:Int))=false:=by simp
 clear hch hbx hown hc
 go_wp2_with fail
 go_loopg [29] N (fun j i wr=>j≤N∧i=.int .i64 ((N-j:Nat):Int)∧w1=wr)
 case atStart=>exact ⟨Nat.le_refl _,by simp,rfl⟩
 case round =>
  obtain ⟨hj,rfl,rfl⟩:=hrel
  rcases gk with _ | j
  ·have t4:decide (((N-0:Nat):Int)<(N:Int))=false:=by simp
   go_wp2
   go_ret
   exact ⟨rfl,hch0⟩
  ·obtain ⟨i,hi1⟩:∃ i,i=N-(j+1):=⟨_,rfl⟩
   rw [←hi1]
   have hi2:i<N:=by omega
   have hi3:N-j=i+1:=by omega
   have HI:=hid hi3
   clear hi1 hi3
   have hml:i<ks.length:=by rw [←HN.out];exact hi2
   obtain ⟨g,of_,rfl,hcell⟩:=hc1.i64_at hml
   have hk:=HKs.out _ (zG hml)
   obtain ⟨k,hkk⟩:∃ k,k=ks[i]:=⟨_,rfl⟩
   rw [←hkk] at hcell hk
   have t5:decide ((k:Int)<0)=false:=by simp
   clear hkk hml
   rcases hk with hk | rfl
   ·have t6:decide ((25:Int)<(k:Int))=false:=by simp;omega
    go_wp2
    go_roundg j
    case measure=>omega
    case rel =>
     rw [HI.out]
     exact ⟨by omega,by go_num,rfl⟩
   ·go_wp2
    go_roundg j
    case measure=>omega
    case rel =>
     rw [HI.out]
     exact ⟨by omega,by go_num,rfl⟩
theorem costP_take {ks:List Nat} {ps:List (List Int)} {i k:Nat} {p:List Int} (hk:ks[i]?=some k) (hp:ps[i]?=some p) :
  costP (ks.take (i+1)) (ps.take (i+1))=costP (ks.take i) (ps.take i)+partCost k p:=by
 have hkl:=(List.getElem?_eq_some_iff.1 hk).1
 have hpl:=(List.getElem?_eq_some_iff.1 hp).1
 have ek:=(List.getElem?_eq_some_iff.1 hk).2
 have ep:=(List.getElem?_eq_some_iff.1 hp).2
 unfold costP
 rw [List.take_succ_eq_append_getElem hkl,List.take_succ_eq_append_getElem hpl,List.zip_append (by simp;omega),List.map_append,List.sum_append,ek,ep]
 simp
 omega
theorem partCost_le {k:Nat} {p:List Int} (hk:k≤25∨k=31) (hw:∀ x∈p,wideP x):partCost k p≤10+65*p.length:=by
 unfold partCost rawCost
 split
 ·have:=Nat.mul_le_mul_right p.length (widthL_le hw)
  omega
 ·have:=rsum_le k p (by omega)
  omega
theorem size_int (w:World):(sizeOf 3).run Tryz.prog w=.ok 1 w:=by
 exact Tryz.sizeOf3 w
theorem drop_startOf {α:Type} (l:List α) (ss:List Nat) (i:Nat) (h:i<ss.length):(l.drop (startOf ss i)).drop ss[i]=l.drop (startOf ss (i+1)):=by
 rw [List.drop_drop,startOf_succ ss i h]
theorem pcost_ok (o n warm:Nat) (ks:List Nat) (A:Option Addr) (cap:Nat) (l:List Int) (Al:Option Addr) (capl:Nat) (w:World) (ho:o≤8) (h1:1≤n) (h2:n≤4096) (h3:warm≤n) (hne:sizesL o n warm≠[]) (hlen:ks.length=(sizesL o n warm).length) (hks:KsOk ks) (hc:Cells i64 w A ks)
  (hll:l.length=n-warm) (hw:∀ x∈l,wideP x) (hcl:Cells vi w Al l) (hcap1:l.length≤capl) (hcap2:capl≤9223372036854775807) :
  Calls Tryz.prog 171 #[.agg #[.int .i64 o,.slice A ks.length cap],.int .i64 n,.int .i64 warm,.slice Al l.length capl] w fun e w'=>e=.returned (.int .i64 (costP ks (splitL (sizesL o n warm) l)))∧Chg [] w w':=by
 have hss:=sizesL_sum hne
 have hslen:=sizesL_len hne
 have hP2:2^o≤256:=Nat.pow_le_pow_right (n:=2) (j:=8) (by decide) ho
 obtain ⟨ss,hssd⟩:∃ ss,ss=sizesL o n warm:=⟨_,rfl⟩
 obtain ⟨N,hN⟩:∃ N,N=ks.length:=⟨_,rfl⟩
 obtain ⟨L,hL⟩:∃ L,L=l.length:=⟨_,rfl⟩
 have hmay:=fun w hc=>pmay_yes o n warm ks A cap w ho h1 h2 h3 hne hlen hks hc
 have hright:=fun w hc=>right_yes n warm l Al capl w h1 h2 h3 hll hw hc
 have hsizes:=fun w=>sizes_ok o n warm w ho h1 h2 h3
 rw [←hssd] at hlen hss hslen hsizes ⊢
 rw [←hN] at hmay hlen ⊢
 rw [←hL] at hright hll hcap1 ⊢
 have HMay:=hid hmay
 have HRight:=hid hright
 have HSizes:=hid hsizes
 have HKs:=hid hks
 have HW:=hid hw
 have HN:=hid hN
 have HL:=hid hL
 have HLen:=hid hlen
 have HSS:=hid hss
 have HLL:=hid hll
 have hN256:N≤256:=by omega
 have hL4:L≤4096:=by omega
 clear hmay hright hsizes hks hw hN hL hlen hss hslen hP2 hssd hll hne
 go_enter Tryz.func171,Tryz.ntmps171
 go_wp2_with fail
 refine (HMay.out _ (hc.same ((Chg.refl [] w).alloc _))).mono ?_
 rintro e w1 ⟨rfl,ch1⟩
 have ch1':Chg [] w w1:=((Chg.refl [] w).alloc _).trans_same ch1
 have hbx:=(Blk.new w 121 #[.int .i64 o,.slice A N cap]).chg ch1 (by simp)
 have hd0:=hbx.cell 0
 simp at hd0
 go_wp2_with fail
 refine (HRight.out _ (hcl.same ch1')).mono ?_
 rintro e w1' ⟨rfl,rfl⟩
 go_wp2_with fail
 refine (HSizes.out _).mono ?_
 rintro e w2 ⟨v,G,rfl,hown,ch2,hG⟩
 obtain ⟨A2,cap2,rfl,hcl2,hcm2,hcells2⟩:=hown.open_map
 have ch2':Chg [] w w2:=ch1'.trans_same ch2
 have hbx2:=hbx.chg ch2 (by simp)
 have hd1:=hbx2.cell 1
 simp at hd1
 have hcK:=hc.same ch2'
 have hcL:=hcl.same ch2'
 have HLen2:=HLen.out
 rw [←HLen2]
 clear hbx hbx2 hd0 ch1 ch2 hown hc hcl hG
 have HLen3:=hid HLen2
 clear HLen2
 have HCap:=hid hcap2
 clear hcl2 hcap2
 go_wp2_with fail
 go_loopg [3,9,31] N (fun j lv cv i wr=>j≤N∧i=.int .i64 ((N-j:Nat):Int)∧w2=wr∧cv=.int .i64 ((costP (ks.take (N-j)) ((splitL ss l).take (N-j)):Nat):Int)∧costP (ks.take (N-j)) ((splitL ss l).take (N-j))≤4+(N-j)*300000 ∧
   ∃ A' c' rest,lv=.slice A' rest.length c'∧Hid (rest=l.drop (startOf ss (N-j)))∧Cells vi w2 A' rest∧rest.length≤c'∧c'≤9223372036854775807∧rest.length≤4096)
 case atStart =>
  refine ⟨Nat.le_refl _,by simp,rfl,by simp [costP],by simp [costP],Al,capl,l,?_,hid (by simp [startOf]),hcL,?_,HCap.out,?_⟩
  ·rw [←HL.out]
  ·rw [←HL.out];exact hcap1
  ·rw [←HL.out];exact hL4
 case round =>
  obtain ⟨hj,rfl,rfl,rfl,hcb,A',c',rest,rfl,Hrest,hcR,hrc,hcm,hr4⟩:=hrel
  rcases gk with _ | j
  ·have t4:decide (((N-0:Nat):Int)<(N:Int))=false:=by simp
   have e1:ks.take N=ks:=by rw [HN.out,List.take_length]
   have e2:(splitL ss l).take N=splitL ss l:=by rw [HLen3.out,←splitL_len ss l,List.take_length]
   rw [Nat.sub_zero,e1,e2]
   go_wp2
   go_ret
   exact ⟨rfl,ch2'⟩
  ·obtain ⟨i,hi1⟩:∃ i,i=N-(j+1):=⟨_,rfl⟩
   rw [←hi1] at hcb Hrest ⊢
   have hi2:i<N:=by omega
   have hi3:N-j=i+1:=by omega
   have HI:=hid hi3
   clear hi1 hi3
   have hik:i<ks.length:=by rw [←HN.out];exact hi2
   have his:i<ss.length:=by rw [←HLen3.out];exact hi2
   obtain ⟨gk_,ok_,rfl,hcellk⟩:=hcK.i64_at hik
   obtain ⟨gs_,os_,rfl,hcells⟩:=hcells2.i64_at his
   have hk:=HKs.out _ (zG hik)
   have hget:=splitL_get ss l i his
   have hctk:=costP_take (ks:=ks) (ps:=splitL ss l) (i:=i) (zF hik) hget
   have hfit:=startOf_fit ss i his
   have hdr:=drop_startOf l ss i his
   rw [←Hrest.out] at hget hctk hdr
   obtain ⟨k,hkk⟩:∃ k,k=ks[i]:=⟨_,rfl⟩
   obtain ⟨s,hs⟩:∃ s,s=ss[i]:=⟨_,rfl⟩
   rw [←hkk] at hcellk hk hctk
   rw [←hs] at hcells hctk hfit hdr
   have hsr:s≤rest.length:=by
    have:=HSS.out
    have:=HLL.out
    have:=HL.out
    rw [Hrest.out,List.length_drop]
    omega
   have hwp:∀ x∈rest.take s,wideP x:=fun x hx=>HW.out x (by
    have:=List.mem_of_mem_take hx
    rw [Hrest.out] at this
    exact List.mem_of_mem_drop this)
   have hpl:(rest.take s).length=s:=by rw [List.length_take];omega
   have hpc:=partCost_le hk hwp
   rw [hpl] at hpc
   have hraw:=raw_ok' (rest.take s) A' c' w2 hwp (hcR.take s) (by omega)
   have hsum:=fun (hk:k≤25)=>rsum_ok k (rest.take s) A' c' w2 hk hwp (hcR.take s) (by omega)
   rw [hpl] at hraw hsum
   obtain ⟨A3,hsl,hbk,hcl3⟩:=slice_from (P:=Tryz.prog) Tryz.underlying22 size_int A' rest.length c' s hsr hrc
   have hcR3:=hcl3 Int vi w2 rest rfl hcR
   have HS:=hid hsum
   have HCTK:=hid hctk
   have HDR:Hid (rest.drop s=l.drop (startOf ss (i+1))):=hid hdr
   have hdl:rest.length-s=(rest.drop s).length:=by rw [List.length_drop]
   rw [hdl] at hsl
   have hs4:(rest.drop s).length≤4096:=by rw [List.length_drop];omega
   have hsc:(rest.drop s).length≤c'-s:=by rw [List.length_drop];omega
   obtain ⟨rest2,hrest2⟩:∃ r,r=rest.drop s:=⟨_,rfl⟩
   rw [←hrest2] at hsl hs4 hsc hcR3 HDR
   have hsc':s≤c':=by omega
   have HPL:=hid hpl
   obtain ⟨part,hpart⟩:∃ r,r=rest.take s:=⟨_,rfl⟩
   rw [←hpart] at hraw HCTK hpc HS
   clear hctk hget hdr hkk hs hwp hbk hcl3 hsum hfit hdl hrest2 hpl hpart hcR hik his
   obtain ⟨c0,hc0⟩:∃ c0,c0=costP (ks.take i) ((splitL ss l).take i):=⟨_,rfl⟩
   rw [←hc0] at HCTK hcb ⊢
   have hcb2:c0≤76800004:=by omega
   have HCB:=hid hcb
   clear hc0 hcb
   have hfinal:∀ q,q=partCost k part→Hid (costP (ks.take (i+1)) ((splitL ss l).take (i+1))=c0+q):=fun q hq=>hid (by rw [HCTK.out,hq])
   by_cases hk31:k=31
   ·have t6:((k:Int)==31)=true:=by rw [beq_iff_eq];omega
    have hpcd:partCost k part=5+rawCost part:=by unfold partCost;rw [if_pos hk31]
    rw [hpcd] at hpc
    have HF:=hfinal _ hpcd.symm
    obtain ⟨q,hq⟩:∃ q,q=rawCost part:=⟨_,rfl⟩
    rw [←hq] at hraw hpc HF
    clear hk hpcd hk31 hq hfinal HCTK HS
    go_wp2_with (go_at_call 202;refine hraw.mono ?_;rintro e w' ⟨rfl,rfl⟩)
    go_roundg j
    case measure=>omega
    case rel =>
     rw [HI.out,HF.out]
     refine ⟨by omega,by go_num,rfl,by go_num,?_,A3,_,rest2,rfl,HDR,hcR3,hsc,by omega,hs4⟩
     have:=HCB.out
     rw [Nat.add_mul]
     omega
   ·have t6:((k:Int)==31)=false:=by rw [beq_eq_false_iff_ne];omega
    have hpcd:partCost k part=5+rsum k part:=by unfold partCost;rw [if_neg hk31]
    rw [hpcd] at hpc
    have HF:=hfinal _ hpcd.symm
    have hsum:=HS.out (by omega)
    obtain ⟨q,hq⟩:∃ q,q=rsum k part:=⟨_,rfl⟩
    rw [←hq] at hsum hpc HF
    clear hk hpcd hk31 hq hfinal HCTK HS hraw
    go_wp2_with (go_at_call 175;refine hsum.mono ?_;rintro e w' ⟨rfl,rfl⟩)
    go_roundg j
    case measure=>omega
    case rel =>
     rw [HI.out,HF.out]
     refine ⟨by omega,by go_num,rfl,by go_num,?_,A3,_,rest2,rfl,HDR,hcR3,hsc,by omega,hs4⟩
     have:=HCB.out
     rw [Nat.add_mul]
     omega
theorem bitsP_take {o:Nat} {ks:List Nat} {ps:List (List Int)} {i k:Nat} {p:List Int} (hk:ks[i]?=some k) (hp:ps[i]?=some p) :
  bitsP o (ks.take (i+1)) (ps.take (i+1))=bitsP o (ks.take i) (ps.take i)++partBits k p:=by
 have hkl:=(List.getElem?_eq_some_iff.1 hk).1
 have hpl:=(List.getElem?_eq_some_iff.1 hp).1
 have ek:=(List.getElem?_eq_some_iff.1 hk).2
 have ep:=(List.getElem?_eq_some_iff.1 hp).2
 unfold bitsP
 rw [List.take_succ_eq_append_getElem hkl,List.take_succ_eq_append_getElem hpl,List.zip_append (by simp;omega),List.flatMap_append,ek,ep]
 simp
theorem flat_snoc (n:Nat) (l:List Int) (x:Int):(l++[x]).flatMap (fun x=>bitsOf (modN x n) n)=l.flatMap (fun x=>bitsOf (modN x n) n)++bitsOf (modN x n) n:=by simp
theorem and_mod (x:Int) {n:Nat} (hn:n≤31):bits .and .u64 (x%18446744073709551616) (2^n-1)=((modN x n:Nat):Int):=by
 have h0:0≤x%18446744073709551616:=Int.emod_nonneg _ (by decide)
 have h1:x%18446744073709551616<18446744073709551616:=Int.emod_lt_of_pos _ (by decide)
 rw [band_mask_u h0 h1 (by omega),modN_cast]
 have hdvd:((2:Int)^n)∣18446744073709551616:=by
  have:(18446744073709551616:Int)=2^n*2^(64-n):=by
   rw [←Int.pow_add]
   have:n+(64-n)=64:=by omega
   rw [this];rfl
  rw [this]
  exact Int.dvd_mul_right _ _
 exact Int.emod_emod_of_dvd x hdvd
theorem pput_ok (w:World) (b:Nat) (F bs:List Nat) (o n warm:Nat) (ks:List Nat) (A:Option Addr) (cap:Nat) (l:List Int) (Al:Option Addr) (capl:Nat) (h:IsWr w b F bs) (ho:o≤8) (h1:1≤n) (h2:n≤4096) (h3:warm≤n) (hne:sizesL o n warm≠[]) (hlen:ks.length=(sizesL o n warm).length) (hks:KsOk ks) (hc:Cells i64 w A ks)
  (hll:l.length=n-warm) (hw:∀ x∈l,wideP x) (hcl:Cells vi w Al l) (hcap1:l.length≤capl) (hcap2:capl≤9223372036854775807) (hA:Apt A ks F) (hAl:Apt Al l F) (hbs:bs.length<137438953472) :
  Calls Tryz.prog 121 #[.pointer (some ⟨b,0,none⟩),.agg #[.int .i64 o,.slice A ks.length cap],.int .i64 n,.int .i64 warm,.slice Al l.length capl] w fun e w'=>e=.returned (.int .i64 0)∧∃ F',IsWr w' b F' (bs++bitsP o ks (splitL (sizesL o n warm) l))∧Grow F F' w w':=by
 have hss:=sizesL_sum hne
 have hslen:=sizesL_len hne
 have hP2:2^o≤256:=Nat.pow_le_pow_right (n:=2) (j:=8) (by decide) ho
 have hcost:=fun w hc hcl=>pcost_ok o n warm ks A cap l Al capl w ho h1 h2 h3 hne hlen hks hc hll hw hcl hcap1 hcap2
 obtain ⟨ss,hssd⟩:∃ ss,ss=sizesL o n warm:=⟨_,rfl⟩
 obtain ⟨N,hN⟩:∃ N,N=ks.length:=⟨_,rfl⟩
 obtain ⟨L,hL⟩:∃ L,L=l.length:=⟨_,rfl⟩
 have hsizes:=fun w=>sizes_ok o n warm w ho h1 h2 h3
 have hcp:=costP_pos ks (splitL (sizesL o n warm) l)
 rw [←hssd] at hlen hss hslen hsizes hcost hcp ⊢
 obtain ⟨CC,hCC⟩:∃ C,C=costP ks (splitL ss l):=⟨_,rfl⟩
 rw [←hCC] at hcost hcp
 rw [←hN] at hcost hlen ⊢
 rw [←hL] at hcost hll hcap1 ⊢
 have HCost:=hid hcost
 have HSizes:=hid hsizes
 have HKs:=hid hks
 have HW:=hid hw
 have HN:=hid hN
 have HL:=hid hL
 have HLen:=hid hlen
 have HSS:=hid hss
 have HLL:=hid hll
 have HA:=hid hA
 have HAl:=hid hAl
 have HF:=hid h.lt
 have hN256:N≤256:=by omega
 have hL4:L≤4096:=by omega
 have t0:((CC:Int)==0)=false:=by rw [beq_eq_false_iff_ne];omega
 clear hcost hsizes hks hw hN hL hlen hss hslen hP2 hssd hll hne hCC hA hAl
 go_enter Tryz.func121,Tryz.ntmps121
 go_wp2_with fail
 have cha:Chg [] w (w.alloc (.cells #[.int .i64 o,.slice A N cap] 121)):=(Chg.refl [] w).alloc _
 refine (HCost.out _ (hc.same cha) (hcl.same cha)).mono ?_
 rintro e w1 ⟨rfl,ch1⟩
 have hbx:=(Blk.new w 121 #[.int .i64 o,.slice A N cap]).chg ch1 (by simp)
 have ch1':Chg [] w w1:=cha.trans_same ch1
 have hltx:=hbx.lt
 have hd0:=hbx.cell 0
 simp at hd0
 have hwr1:=h.same ch1'
 clear ch1 cha
 go_wp2_with fail
 refine (wput_ok _ b F bs o 4 hwr1 (by omega) (by omega) (by omega)).mono ?_
 rintro e w1a ⟨rfl,F1,hwr1a,gr1a⟩
 have hnF:w.heap.size∉F:=fun hm=>by have:=HF.out _ hm;omega
 have hbx1:=hbx.chg gr1a.chg hnF
 have hd0a:=hbx1.cell 0
 simp at hd0a
 clear hd0 hbx
 go_wp2_with fail
 refine (HSizes.out _).mono ?_
 rintro e w2 ⟨v,G,rfl,hown,ch2,hG⟩
 obtain ⟨A2,cap2,rfl,hcl2,hcm2,-⟩:=hown.open_map
 have gr2:Grow F F1 w1 w2:=gr1a.same ch2
 have hbx2:=hbx1.chg ch2 (by simp)
 have hcK0:=hc.same ch1'
 have hcL0:=hcl.same ch1'
 have hcK:=hcK0.keep HA.out gr2.chg
 have hcL:=hcL0.keep HAl.out gr2.chg
 have hwr2:=hwr1a.same ch2
 have sz1:=ch1'.size
 have sz1a:=gr1a.size
 have sz2:=ch2.size
 have hGF:∀ x∈G,x∉F1:=fun x hx hm=>by
  have h5:=hG x hx
  have h6:=hwr1a.lt x hm
  omega
 have hxF:w.heap.size∉F1:=gr1a.out hltx hnF
 have HA1:=hid (HA.out.grow hcK0 gr2)
 have HAl1:=hid (HAl.out.grow hcL0 gr2)
 have HA2:Hid (Apt A2 ss F1):=hid (hown.apt hGF)
 have hcS:Cells i64 w2 A2 ss:=hown.cells
 have hgr0:Grow F F1 w w2:=Grow.pre ch1' gr2
 have hbl0:bs.length+4≤137438953476:=by omega
 have HLen2:=HLen.out
 rw [←HLen2]
 have HLen3:=hid HLen2
 clear HLen2 hbx1 hd0a hc hcl hG gr1a ch2 hwr1a hwr1 gr2 ch1' hcK0 hcL0 hown HA HAl hltx hGF
 have HCap:=hid hcap2
 clear hcl2 hcap2
 go_wp2_with fail
 go_loopg [4,34] N (fun j lv i wr=>j≤N∧i=.int .i64 ((N-j:Nat):Int) ∧
   ∃ A' c' rest F' bs',lv=.slice A' rest.length c'∧Hid (rest=l.drop (startOf ss (N-j)))∧Hid (Apt A' rest F1)∧Cells vi w2 A' rest∧rest.length≤c'∧c'≤9223372036854775807∧rest.length≤4096 ∧
    IsWr wr b F' bs'∧Hid (bs'=bs++bitsP o (ks.take (N-j)) ((splitL ss l).take (N-j)))∧bs'.length≤bs.length+4+(N-j)*300000∧Grow F1 F' w2 wr)
 case atStart =>
  refine ⟨Nat.le_refl _,by simp,Al,capl,l,F1,bs++bitsOf o 4,?_,hid (by simp [startOf]),HAl1,hcL,?_,HCap.out,?_,hwr2,hid (by simp [bitsP]),by simp [bitsOf_len],Grow.refl _ _⟩
  ·rw [←HL.out]
  ·rw [←HL.out];exact hcap1
  ·rw [←HL.out];exact hL4
 case round =>
  obtain ⟨hj,rfl,A',c',rest,F',bs',rfl,Hrest,HA',hcR,hrc,hcm,hr4,hwr,Hbs,hbl,hgr⟩:=hrel
  have hbx3:=hbx2.chg hgr.chg hxF
  have hd0:=hbx3.cell 1
  simp at hd0
  clear hbx3
  rcases gk with _ | j
  ·have t4:decide (((N-0:Nat):Int)<(N:Int))=false:=by simp
   have e1:ks.take N=ks:=by rw [HN.out,List.take_length]
   have e2:(splitL ss l).take N=splitL ss l:=by rw [HLen3.out,←splitL_len ss l,List.take_length]
   rw [Nat.sub_zero,e1,e2] at Hbs
   go_wp2
   go_ret
   refine ⟨rfl,F',?_,hgr0.trans hgr⟩
   rw [←Hbs.out]
   exact hwr
  ·obtain ⟨i,hi1⟩:∃ i,i=N-(j+1):=⟨_,rfl⟩
   rw [←hi1] at hbl Hbs Hrest ⊢
   have hi2:i<N:=by omega
   have hi3:N-j=i+1:=by omega
   have HI:=hid hi3
   clear hi1 hi3
   have hik:i<ks.length:=by rw [←HN.out];exact hi2
   have his:i<ss.length:=by rw [←HLen3.out];exact hi2
   obtain ⟨gk_,ok_,rfl,hcellk⟩:=(hcK.keep HA1.out hgr.chg).i64_at hik
   obtain ⟨gs_,os_,rfl,hcells⟩:=(hcS.keep HA2.out hgr.chg).i64_at his
   have hk:=HKs.out _ (zG hik)
   have hget:=splitL_get ss l i his
   have hfit:=startOf_fit ss i his
   have hdr:=drop_startOf l ss i his
   rw [←Hrest.out] at hget hdr
   have hctk:=bitsP_take (o:=o) (ks:=ks) (ps:=splitL ss l) (i:=i) (zF hik) hget
   obtain ⟨k,hkk⟩:∃ k,k=ks[i]:=⟨_,rfl⟩
   obtain ⟨s,hs⟩:∃ s,s=ss[i]:=⟨_,rfl⟩
   rw [←hkk] at hcellk hk hctk
   rw [←hs] at hcells hctk hfit hdr
   have hsr:s≤rest.length:=by
    have:=HSS.out
    have:=HLL.out
    have:=HL.out
    rw [Hrest.out,List.length_drop]
    omega
   have hwp:∀ x∈rest.take s,wideP x:=fun x hx=>HW.out x (by
    have:=List.mem_of_mem_take hx
    rw [Hrest.out] at this
    exact List.mem_of_mem_drop this)
   have hpl:(rest.take s).length=s:=by rw [List.length_take];omega
   have hpc:=partCost_le hk hwp
   have hpbl:=partBits_len k (rest.take s)
   rw [hpl] at hpc
   obtain ⟨A3,hsl,hbk,hcl3⟩:=slice_from (P:=Tryz.prog) Tryz.underlying22 size_int A' rest.length c' s hsr hrc
   have hcR3:=hcl3 Int vi w2 rest rfl hcR
   have hap3:Apt A3 (rest.drop s) F1:=HA'.out.to (by rw [List.length_drop];omega) hbk
   have hHS:bs++bitsP o (ks.take (i+1)) ((splitL ss l).take (i+1))=bs'++partBits k (rest.take s):=by rw [hctk,Hbs.out,List.append_assoc]
   have HDR:Hid (rest.drop s=l.drop (startOf ss (i+1))):=hid hdr
   have hdl:rest.length-s=(rest.drop s).length:=by rw [List.length_drop]
   rw [hdl] at hsl
   have hs4:(rest.drop s).length≤4096:=by rw [List.length_drop];omega
   have hsc:(rest.drop s).length≤c'-s:=by rw [List.length_drop];omega
   have hcP:=hcR.take s
   have hapP:Apt A' (rest.take s) F1:=HA'.out.of (by rw [List.length_take];omega)
   obtain ⟨rest2,hrest2⟩:∃ r,r=rest.drop s:=⟨_,rfl⟩
   rw [←hrest2] at hsl hs4 hsc hcR3 HDR hap3
   have hsc':s≤c':=by omega
   obtain ⟨part,hpart⟩:∃ r,r=rest.take s:=⟨_,rfl⟩
   rw [←hpart] at hpc hHS hcP hpl hwp hpbl hapP
   have HHS:=hid hHS
   have HAP3:=hid hap3
   have HAPP:=hid hapP
   have HWP:=hid hwp
   have hcPr:=hcP.keep (hapP) hgr.chg
   have HPB:=hid hpbl
   have HPL:=hid hpl
   have HIK:=hid hik
   have HKK:=hid hkk
   have HPC2:=hid hpc
   have hs4':s≤4096:=by omega
   have hk31:k≤31:=by omega
   have HK:=hid hk
   have HBL:=hid hbl
   have hbl3:bs'.length≤137515753476:=by omega
   clear hctk hget hdr hkk hs hbk hcl3 hfit hdl hrest2 hpart hcR his hHS hap3 hapP hwp hpbl hk hbl Hbs hpl hpc
   have hput5:=wput_ok wr b F' bs' k 5 hwr (by omega) (by omega) (by omega)
   by_cases hk31:k=31
   ·have t6:((k:Int) != 31)=false:=by rw [bne_eq_false_iff_eq];omega
    have hpcd:partBits k part=bitsOf k 5++(bitsOf (widthL part) 5++part.flatMap (fun x=>bitsOf (modN x (widthL part)) (widthL part))):=by unfold partBits;rw [if_pos hk31]
    have HPC:=hid hpcd
    clear hpcd hk31
    go_wp2_with fail
    refine hput5.mono ?_
    rintro e w3 ⟨rfl,F3,hwr3,gr3⟩
    have hgr3:=hgr.trans gr3
    have hbx4:=hbx2.chg hgr3.chg hxF
    have hd1:=hbx4.cell 1
    simp at hd1
    obtain ⟨_,_,e4,hcellk3⟩:=(hcK.keep HA1.out hgr3.chg).i64_at HIK.out
    injection e4 with e4
    injection e4 with e4 e5 _
    subst e4
    subst e5
    rw [←HKK.out] at hcellk3
    have hcP3:=hcP.keep HAPP.out hgr3.chg
    have hwid:=width_ok part A' c' w3 HWP.out hcP3 (by rw [HPL.out];omega)
    have hwle:=widthL_le HWP.out
    rw [HPL.out] at hwid
    obtain ⟨W,hW⟩:∃ W,W=widthL part:=⟨_,rfl⟩
    rw [←hW] at hwid hwle HPC
    have HW':=hid hW
    clear hbx4 hd0 hput5 hW
    go_wp2_with (go_at_call 172;refine hwid.mono ?_;rintro e w' ⟨rfl,rfl⟩)
    refine (wput_ok w3 b F3 _ W 5 hwr3 (by omega) (by omega) (by rw [zC,bitsOf_len];omega)).mono ?_
    rintro e w4 ⟨rfl,F4,hwr4,gr4⟩
    have hgr4:=hgr3.trans gr4
    have hWp:(2:Int)^W≤2147483648:=pow_half_mono (n:=31) hwle
    have hWp0:=two_pow_pos' W
    clear hd1 hcellk3 hcP3
    go_wp2_with fail
    go_loopg [75] s (fun q iv wx=>q≤s∧iv=.int .i64 ((s-q:Nat):Int)∧∃ F5 bs5,IsWr wx b F5 bs5∧Hid (bs5=(bs'++bitsOf k 5++bitsOf W 5)++(part.take (s-q)).flatMap (fun x=>bitsOf (modN x W) W))∧bs5.length≤bs'.length+10+W*(s-q)∧Grow F1 F5 w2 wx)
    case atStart=>exact ⟨Nat.le_refl _,by simp,F4,_,hwr4,hid (by simp),by simp [bitsOf_len],hgr4⟩
    case round =>
     obtain ⟨hq,rfl,F5,bs5,hwr5,Hbs5,hbl5,hgr5⟩:=hrel
     rcases gk with _ | q
     ·have t7:decide (((s-0:Nat):Int)<(s:Int))=false:=by simp
      go_wp2
      go_roundg j
      case measure=>omega
      case rel =>
       rw [HI.out]
       have e7:part.take (s-0)=part:=by rw [Nat.sub_zero,←HPL.out,List.take_length]
       have hb5:=Hbs5.out
       rw [e7,List.append_assoc,List.append_assoc,←HPC.out] at hb5
       refine ⟨by omega,by go_num,A3,_,rest2,F5,bs5,rfl,HDR,HAP3,hcR3,hsc,by omega,hs4,hwr5,hid (by rw [hb5,HHS.out]),?_,hgr5⟩
       have e8:=HPB.out
       have e9:=HBL.out
       rw [hb5,zC,e8,Nat.add_mul]
       have:=HPC2.out
       omega
     ·obtain ⟨m,hm1⟩:∃ m,m=s-(q+1):=⟨_,rfl⟩
      rw [←hm1] at Hbs5 hbl5 ⊢
      have hm2:m<s:=by omega
      have hm3:s-q=m+1:=by omega
      have HM:=hid hm3
      clear hm1 hm3
      have hml:m<part.length:=by rw [HPL.out];exact hm2
      obtain ⟨g8,o8,rfl,hcell8⟩:=(hcP.keep HAPP.out hgr5.chg).at_ hml
      have hsn:=flat_snoc W (part.take m) part[m]
      rw [←take_snoc' part hml] at hsn
      obtain ⟨x,hx⟩:∃ x,x=part[m]:=⟨_,rfl⟩
      rw [←hx] at hcell8 hsn
      have hcell9:wr.cell? ⟨g8,o8+m,none⟩=some (.int .i64 x):=hcell8
      have hand:bits BinOp.and IntKind.u64 (IntKind.u64.wrap x) (2^W-1)=((modN x W:Nat):Int):=by rw [IntKind.wrap_u64];exact and_mod x hwle
      have HAND:=hid hand
      clear hand
      have hmlt:=modN_lt x W
      have HSN:=hid hsn
      have HMLT:=hid hmlt
      have hbl6:bs5.length≤137520000000:=by
       have:W*m≤31*4096:=Nat.mul_le_mul hwle (by omega)
       omega
      have HBL5:=hid hbl5
      clear hcell8 hx hml hsn hmlt hbl5
      go_wp2_with fail
      rw [HAND.out]
      refine (wput_ok wr b F5 bs5 (modN x W) W hwr5 (by omega) HMLT.out (by omega)).mono ?_
      rintro e w6 ⟨rfl,F6,hwr6,gr6⟩
      go_wp2_with fail
      go_roundg q
      case measure=>omega
      case rel =>
       rw [HM.out]
       refine ⟨by omega,by go_num,F6,_,hwr6,hid ?_,?_,hgr5.trans gr6⟩
       ·rw [HSN.out,Hbs5.out,List.append_assoc]
       ·have e9:=HBL5.out
        rw [zC,bitsOf_len,Nat.mul_add]
        omega
   ·have t6:((k:Int) != 31)=true:=by rw [bne_iff_ne];omega
    have hpcd:partBits k part=bitsOf k 5++rbitsAll k part:=by unfold partBits;rw [if_neg hk31]
    have HPC:=hid hpcd
    have hk25:k≤25:=by have:=HK.out;omega
    clear hpcd
    go_wp2_with fail
    refine hput5.mono ?_
    rintro e w3 ⟨rfl,F3,hwr3,gr3⟩
    have hgr3:=hgr.trans gr3
    have hbx4:=hbx2.chg hgr3.chg hxF
    have hd1:=hbx4.cell 1
    simp at hd1
    obtain ⟨_,_,e4,hcellk3⟩:=(hcK.keep HA1.out hgr3.chg).i64_at HIK.out
    injection e4 with e4
    injection e4 with e4 e5 _
    subst e4
    subst e5
    rw [←HKK.out] at hcellk3
    have hcP3:=hcP.keep HAPP.out hgr3.chg
    have hrp:=rput_ok w3 b F3 (bs'++bitsOf k 5) k part A' c' hwr3 hk25 HWP.out hcP3 (HAPP.out.grow hcP hgr3) (by rw [zC,bitsOf_len,HPL.out];omega)
    rw [HPL.out] at hrp
    clear hbx4 hd0 hput5
    go_wp2_with fail
    refine hrp.mono ?_
    rintro e w4 ⟨rfl,F4,hwr4,gr4⟩
    have hgr4:=hgr3.trans gr4
    clear hd1 hcellk3 hcP3 hrp
    go_wp2_with fail
    go_roundg j
    case measure=>omega
    case rel =>
     rw [HI.out]
     rw [List.append_assoc,←HPC.out] at hwr4
     refine ⟨by omega,by go_num,A3,_,rest2,F4,_,rfl,HDR,HAP3,hcR3,hsc,by omega,hs4,hwr4,hid HHS.out.symm,?_,hgr4⟩
     have e8:=HPB.out
     have e9:=HBL.out
     rw [zC,e8,Nat.add_mul]
     have:=HPC2.out
     omega
theorem adapt_any (o bit:Nat) (w:World) (h2:o≤4096) (hbit:bit=0∨bit=1) :
  Calls Tryz.prog 190 #[.int .i64 o,.int .i64 bit] w fun e w'=>e=.returned (.int .i64 (adaptN o bit:Nat))∧w'=w:=by
 rcases hbit with rfl | rfl
 all_goals
  go_enter Tryz.func190,Tryz.ntmps190
  go_wp2
  go_ret
  exact ⟨by unfold adaptN;simp;go_num,rfl⟩
theorem grow_any (w:World) (b g:Nat) (v odds:Value) (W:Int) (ds:List Nat) (n0:Nat)
  (hb:Blk w b 207 #[v,.int .u64 W,odds]) (hr:Row w 5 v g (ds.map b8)) (hd:∀ d∈ds,d<256) (hn:n0<9223372036854775808) :
  Calls Tryz.prog 218 #[.pointer (some ⟨b,0,none⟩),.int .u64 n0] w fun e w'=>e=.returned (.tuple #[])∧Row w' 5 v g ((growL ds n0).map b8)∧Chg [g] w w':=by
 obtain ⟨cap,rfl,hcl,hcm,-,-⟩:=hr.open_map
 have hne:=hr.ne_ hb (by decide)
 have HD:=hid hd
 clear hd
 have hc0:=hb.cell 0
 simp at hc0
 go_enter Tryz.func218,Tryz.ntmps218
 go_wp2
 go_loopw [1,4] (fun n i wr=>∃ (l t:List Nat) (c:Nat) (j:Int),i=.int .i64 j∧n=.int .u64 c∧j=(l.length:Int)-1∧c<9223372036854775808∧l.length+t.length=ds.length ∧
   growL ds n0=growL l c++t∧(∀ d∈l,d<256)∧Row wr 5 (.slice (some ⟨g,0,none⟩) ds.length cap) g ((l++t).map b8)∧Chg [g] w wr)
  (fun n i _=>(intOf i+1).toNat)
 case atStart=>exact ⟨ds,[],n0,_,rfl,rfl,rfl,hn,by simp,by simp,HD.out,by simpa using hr,Chg.refl _ _⟩
 case round =>
  obtain ⟨l,t,c,j,rfl,rfl,hj,hc,hlen,hgr,hl,hrow,hchg⟩:=hrel
  have hbr:=hb.chg hchg (by simpa using hne.symm)
  have hc0r:=hbr.cell 0
  simp at hc0r
  clear hc0
  rcases List.eq_nil_or_concat l with rfl | ⟨l',d,rfl⟩
  ·obtain rfl:j=-1:=by simpa using hj
   have HG:=hid hgr
   clear hj hlen hgr hl
   go_wp2
   all_goals
    go_end0
    refine ⟨rfl,?_,hchg⟩
    rw [HG.out];simpa [growL_nil] using hrow
  ·have hcd:wr.cell? ⟨g,l'.length,none⟩=some (.int .u8 d):=by
    obtain ⟨_,h1,_,_,h2,_⟩:=hrow.open_map
    exact h2 l'.length d (by simp)
   have hfr:wr.frozen? ⟨g,l'.length,none⟩=false:=by
    obtain ⟨_,h1,_,_,_,h2⟩:=hrow.open_map
    exact h2 _
   obtain rfl:j=(l'.length:Int):=by simp at hj;omega
   have hd256:d<256:=hl d (by simp)
   have hlt:l'.length<ds.length:=by simp at hlen;omega
   have HL:=hid hlen
   have HG:=hid hgr
   have HLL:=hid hl
   clear hj hlen hgr hl
   go_wp2
   ·have hcp:0<c:=by omega
    go_roundw
    case rel =>
     have e1:=growL_snoc l' d c (by omega)
     have HLO:=HL.out
     refine ⟨l',(c+d)%256::t,(c+d) / 256,_,rfl,by go_num,rfl,by omega,by simp at HLO ⊢; omega,?_,fun x hx=>HLL.out x (by simp [hx]),?_,hchg.setCell (by simp) _⟩
     ·rw [HG.out,List.concat_eq_append,e1,List.append_assoc];rfl
     ·have h2:=hrow.set_ (i:=l'.length) (by simp) (b8 ((c+d)%256))
      have e2:((l'.concat d++t).map b8).set l'.length (b8 ((c+d)%256))=(l'++(c+d)%256::t).map b8:=by
       rw [List.concat_eq_append,List.append_assoc,List.map_append,List.map_append,List.set_append_right _ _ (by simp)]
       simp
      rw [e2] at h2
      have e3:b8 ((c+d)%256)=.int .u8 (((c:Int)+d)%256):=by unfold b8;go_num
      rw [e3] at h2
      exact h2
    case measure=>simp [intOf]
   ·obtain rfl:c=0:=by omega
    go_end0
    refine ⟨rfl,?_,hchg⟩
    rw [HG.out,growL_zero];exact hrow
theorem u8_el:Elem Tryz.prog 29 5 (.int .u8 0) 1 1:=.mk' Tryz.underlying29 (by kernel_rfl)
theorem code_any (w:World) (b g h:Nat) (c:Cod) (bound bit:Nat) (hc:IsCod 207 w b g h c) (hok:CodOk c) (hbd:BoundOk c bound) (hbit:bit=0∨bit=1)
  (hlen:c.low.length≤1099511627776) :
  Calls Tryz.prog 206 #[.pointer (some ⟨b,0,none⟩),.int .u64 bound,.int .i64 bit] w fun e w'=>e=.returned (.tuple #[]) ∧
   ∃ g',IsCod 207 w' b g' h (codeL c bound bit)∧Chg [b,g] w w'∧(g'=g∨w.heap.size≤g'):=by
 obtain ⟨vl,vo,hb,hl,ho⟩:=hc.ex
 obtain ⟨hb1,hb2⟩:=hbd
 have hhi:=hok.hi
 have hgb:=hl.ne_ hb (by decide)
 have hhb:=ho.ne_ hb (by decide)
 have hgh:=hl.ne_row ho (by decide)
 obtain ⟨cap,rfl,hcl,hcm,-,-⟩:=hl.open_map
 have hc0:=hb.cell 0
 have hc1:=hb.cell 1
 have hf1:=hb.frozen 1
 simp at hc0 hc1
 have hwid:=widA_ok hok ⟨hb1,by omega⟩ bit
 obtain ⟨W1,hW1⟩:∃ W1,W1=widA c bound bit:=⟨_,rfl⟩
 obtain ⟨l1,hl1⟩:∃ l1,l1=lowA c bound bit:=⟨_,rfl⟩
 rw [←hW1] at hwid
 have HW1:=hid hW1
 have Hl1:=hid hl1
 clear hW1 hl1
 have hlow:l1.length=c.low.length:=by rw [Hl1.out,lowA_len]
 have Hlow:=hid hlow
 clear hlow
 go_enter Tryz.func206,Tryz.ntmps206
 go_upto_if 7 with fail
 go_cut [] (fun wx=>Blk wx b 207 #[.slice (some ⟨g,0,none⟩) c.low.length cap,.int .u64 W1,vo]∧Row wx 5 (.slice (some ⟨g,0,none⟩) c.low.length cap) g (l1.map b8)∧Chg [b,g] w wx)
 case first =>
  rcases hbit with rfl | rfl
  ·go_wp2
   go_meet
   case rel =>
    refine ⟨?_,?_,(Chg.refl _ _).setCell (by simp) _⟩
    ·have:=hb.set_ 1 (.int .u64 W1)
     rw [HW1.out] at this ⊢
     exact this
    ·rw [Hl1.out]
     exact hl.far (p:=⟨b,1,none⟩) hgb _
  ·go_wp2_with (go_at_call 218;refine (grow_any _ _ _ _ _ _ _ _ hb hl hok.dig (by omega)).mono ?_;rintro e w1 ⟨rfl,hl1,hch1⟩;have hb1:=hb.chg hch1 (by simpa using hgb.symm);have hc11:=hb1.cell 1;have hf11:=hb1.frozen 1;simp at hc11)
   go_meet
   case rel =>
    refine ⟨?_,?_,(hch1.mono (F':=[b,g]) (by simp)).setCell (by simp) _⟩
    ·have:=hb1.set_ 1 (.int .u64 ((c.W:Int)-bound))
     have e:((W1:Nat):Int)=(c.W:Int)-bound:=by rw [HW1.out];unfold widA;simp;omega
     rw [e]
     exact this
    ·rw [Hl1.out]
     exact hl1.far (p:=⟨b,1,none⟩) hgb _
 case rest =>
  obtain ⟨hbc,hlc,hchc⟩:=hcut
  have hd0:=hbc.cell 0
  have hd1:=hbc.cell 1
  have hg0:=hbc.frozen 0
  have hg1:=hbc.frozen 1
  simp at hd0 hd1
  clear hc0 hc1 hf1
  go_wp2_with fail
  go_loopg [] 1 (fun k wr=>∃ (g' cap':Nat) (l:List Nat) (W:Nat),Blk wr b 207 #[.slice (some ⟨g',0,none⟩) l.length cap',.int .u64 W,vo] ∧
    Row wr 5 (.slice (some ⟨g',0,none⟩) l.length cap') g' (l.map b8)∧Chg [b,g] w wr∧(g'=g∨w.heap.size≤g') ∧
    ((k=1∧W=W1∧l=l1)∨(k=0∧16777216≤W∧W<4294967296∧Hid (codeL c bound bit=⟨l,W,c.odds⟩))))
  case atStart=>exact ⟨g,cap,l1,W1,by rw [Hlow.out];exact hbc,by rw [Hlow.out];exact hlc,hchc,.inl rfl,.inl ⟨rfl,rfl,rfl⟩⟩
  case round =>
   clear hd0 hd1 hg0 hg1 hbc hlc
   obtain ⟨g',cap',l,W,hbr,hlr,hchr,hg',hcase⟩:=hrel
   have hgb':=hlr.ne_ hbr (by decide)
   have hd0:=hbr.cell 0
   have hd1:=hbr.cell 1
   have hg0:=hbr.frozen 0
   have hg1:=hbr.frozen 1
   simp at hd0 hd1
   have hend:∀ W',W'=W→codeL c bound bit=⟨l,W',c.odds⟩→IsCod 207 wr b g' h (codeL c bound bit):=fun W' e he=>by
    subst e
    rw [he]
    have hoh:h∉[b,g]:=by simp;exact ⟨hhb,hgh.symm⟩
    exact ⟨_,vo,hbr,hlr,ho.chg hchr hoh⟩
   have Hend:=hid hend
   clear hend
   rcases hcase with ⟨rfl,rfl,rfl⟩ | ⟨rfl,hW,hW2,Hfin⟩
   ·by_cases hs:W<16777216
    ·have hdec:decide ((W:Int)<16777216)=true:=by simp;omega
     go_wp2_with (at_builtin;refine wpList_append_row1 rfl rfl u8_el rfl rfl ((hlr.far (p:=⟨b,1,none⟩) hgb' _).alloc _) (.int .u8 0) rfl ?c1 ?c2 ?c3 ?c4 ?_)
     case c1=>simp [go_sem]
     case c2=>rfl
     case c3=>simp;have := Hlow.out;omega
     case c4=>simp;have := Hlow.out;omega
     intro g2 cap2 w2 hl2 hch2 hg2
     have hbb:=((hbr.set_ 1 (.int .u64 ((W:Int)*256))).alloc (.cells #[.int .u8 0] 5)).chg hch2 (by simpa using hgb'.symm)
     have hgb2:=hl2.ne_ hbb (by decide)
     have hch3:Chg [b,g] w w2:=((hchr.setCell (p:=⟨b,1,none⟩) (by simp) _).alloc _).trans hch2 (by
      intro x hx
      simp at hx
      subst hx
      rcases hg' with rfl | hg'
      ·exact .inl (by simp)
      ·exact .inr hg')
     have hcb0:=hbb.cell 0
     have hfb0:=hbb.frozen 0
     simp at hcb0
     have hsz:=hchr.size
     have hg3:g2=g∨w.heap.size≤g2:=by
      rcases hg2 with rfl | hg2
      ·exact hg'
      ·exact .inr (by omega)
     clear hch2
     go_wp2
     go_roundg 0
     case measure=>omega
     case rel =>
      refine ⟨g2,cap2,l++[0],W*256,?_,?_,hch3.setCell (by simp) _,hg3,.inr ⟨rfl,by omega,by omega,?_⟩⟩
      ·have h1:=hbb.set_ 0 (.slice (some ⟨g2,0,none⟩) (l.length+1) cap2)
       simp at h1
       simpa using h1
      ·have h1:=hl2.far (p:=⟨b,0,none⟩) hgb2 (.slice (some ⟨g2,0,none⟩) (l.length+1) cap2)
       simpa [b8] using h1
      ·refine hid ?_
       unfold codeL
       rw [←HW1.out,if_pos hs,←Hl1.out]
    ·have hdec:decide ((W:Int)<16777216)=false:=by simp;omega
     go_wp2
     go_end0
     refine ⟨rfl,g',?_,hchr,hg'⟩
     refine Hend.out W rfl ?_
     unfold codeL
     rw [←HW1.out,if_neg hs,←Hl1.out]
   ·have hdec:decide ((W:Int)<16777216)=false:=by simp;omega
    go_wp2
    go_end0
    exact ⟨rfl,g',Hend.out W rfl Hfin.out,hchr,hg'⟩
theorem cod_oddsAt {c:Cod} {ctx:Nat} (hc:ctx<c.odds.length):c.odds[ctx]?=some (oddsAt c ctx):=by
 unfold oddsAt
 rw [zD,zF hc]
 rfl
theorem put_ok (w:World) (b g h:Nat) (c:Cod) (ctx bit:Nat) (hc:IsCod 207 w b g h c) (hok:CodOk c) (hctx:ctx<c.odds.length) (hbit:bit=0∨bit=1)
  (hlen:c.low.length≤1099511627776) :
  Calls Tryz.prog 177 #[.pointer (some ⟨b,0,none⟩),.int .i64 ctx,.int .i64 bit] w fun e w'=>e=.returned (.int .i64 0) ∧
   ∃ g',IsCod 207 w' b g' h (putL c ctx bit)∧Chg [b,g,h] w w'∧(g'=g∨w.heap.size≤g'):=by
 obtain ⟨vl,vo,hb,hl,ho⟩:=hc.ex
 have hbd:=bound_put hok hctx
 have hhi:=hok.hi
 have hgb:=hl.ne_ hb (by decide)
 have hhb:=ho.ne_ hb (by decide)
 have hgh:=hl.ne_row ho (by decide)
 obtain ⟨capo,rfl,hco,hcom,hcello,hfro⟩:=ho.open_map
 have ho1:=hcello ctx _ (cod_oddsAt hctx)
 replace ho1:w.cell? ⟨h,ctx,none⟩=some (.int .i64 (oddsAt c ctx:Int)):=ho1
 clear hcello
 obtain ⟨o1,hoo⟩:∃ o1,o1=oddsAt c ctx:=⟨_,rfl⟩
 have hor:=oddsAt_ok hok hctx
 rw [←hoo] at ho1 hor hbd
 have Hoo:=hid hoo
 clear hoo
 have hc1:=hb.cell 1
 have hc2:=hb.cell 2
 simp at hc1 hc2
 have t1:decide ((ctx:Int)<0)=false:=by simp
 have t2:decide (c.odds.length≤ctx)=false:=by simp;omega
 obtain ⟨bd,hbdd⟩:∃ bd,bd=c.W / 4096*o1:=⟨_,rfl⟩
 have hmul:IntKind.u64.wrap ((c.W:Int) / 4096*(o1:Int))=(bd:Int):=by
  rw [←hbdd] at hbd
  have:=hbd.2
  have e:((c.W:Int) / 4096*(o1:Int))=(bd:Int):=by rw [hbdd];simp
  rw [e]
  exact IntWalk.u64_in _ (by omega)
 rw [←hbdd] at hbd
 have Hput:Hid (putL c ctx bit={ codeL c bd bit with odds:=c.odds.set ctx (adaptN o1 bit) }):=by
  refine hid ?_
  rw [hbdd,Hoo.out]
  rfl
 clear hbdd
 go_enter Tryz.func177,Tryz.ntmps177
 rcases hbit with rfl | rfl
 all_goals
  go_wp2
  refine wp_region_quiet_tail 16 (by kernel_rfl) (by kernel_rfl) ?_
  simp only [List.take_succ_cons,List.take_zero,List.drop_succ_cons,List.drop_zero]
  repeat (go_big_quiet_step (fail))
  refine wpQuiet_nil ?_
  intro _ hw'
  obtain ⟨nq,rfl⟩:=hw'
  go_wp2_with fail
  refine (code_any (w.drewN nq) b g h c bd _ (hc.same (((Chg.refl _ _).drewN nq))) hok hbd (by simp) hlen).mono ?_
  rintro e w1 ⟨rfl,g',hc1,hch1,hg1⟩
  obtain ⟨vl1,vo1,hb1,hl1,hq1⟩:=hc1.ex
  rw [codeL_odds] at hq1
  have hgb1:=hl1.ne_ hb1 (by decide)
  have hgh1:=hl1.ne_row hq1 (by decide)
  obtain ⟨capo1,rfl,hco1,hcom1,hcello1,hfro1⟩:=hq1.open_map
  have hx1:w1.cell? ⟨h,ctx,none⟩=some (.int .i64 o1):=by rw [Hoo.out];exact hcello1 ctx _ (cod_oddsAt hctx)
  have hx2:=hfro1 ctx
  have hx3:=hb1.cell 2
  simp at hx3
  clear hcello1 hfro1 hfro
  go_wp2_with fail
  refine wp_region_quiet_tail 14 (by kernel_rfl) (by kernel_rfl) ?_
  simp only [List.take_succ_cons,List.take_zero,List.drop_succ_cons,List.drop_zero]
  repeat (go_big_quiet_step ((go_at_call 190;exact Calls.quiet_of_same (adapt_any o1 _ _ (by omega) (by simp)))))
  refine wpQuiet_nil ?_
  intro _ hw'
  obtain ⟨nq1,rfl⟩:=hw'
  go_wp2
  go_ret
  refine ⟨rfl,g',?_,?_,hg1⟩
  ·rw [Hput.out]
   refine ⟨_,_,(hb1.drewN nq1).far (p:=⟨h,ctx,none⟩) hhb.symm _,(hl1.drewN nq1).far (p:=⟨h,ctx,none⟩) hgh1 _,?_⟩
   simp only
   rw [List.map_set]
   exact (hq1.drewN nq1).set_ (i:=ctx) (by simpa using hctx) _
  ·refine Chg.setCell (Chg.drewN ?_ _) (by simp) _
   exact ((Chg.refl _ _).drewN nq).trans hch1 (by simp)
def LitOk (d:Nat) (t:Tok):Prop:=0≤t.lit∧t.lit<2^d
theorem lit_zero (d a b:Nat):LitOk d ⟨a,b,0⟩:=⟨Int.le_refl _,two_pow_pos' d⟩
theorem lOne_lit {d cp at_ n:Nat} {D:List Nat} {p:List Nat × List Tok} (h:∀ t∈p.2,LitOk d t):∀ t∈(lOne cp at_ D n p).2,LitOk d t:=by
 unfold lOne
 split
 ·exact h
 ·split
  ·intro t ht
   rcases List.mem_or_eq_of_mem_set ht with h5 | rfl
   ·exact h t h5
   ·exact lit_zero d _ _
  ·exact h
theorem lPick_lit {d cp at_:Nat} {D:List Nat}:∀ f m p,(∀ t∈p.2,LitOk d t)→∀ t∈(lPick cp at_ D f m p).2,LitOk d t
 | 0,_,_,h=>h
 | f+1,m,p,h=>lPick_lit f (m+1) _ (lOne_lit h)
theorem lStep_lit {d lit cp k:Nat} {l:List Int} (hs:SmpOk d l) {s:LSt} (h:∀ t∈s.first,LitOk d t):∀ t∈(lStep l lit cp k s).first,LitOk d t:=by
 refine lPick_lit 65 0 _ fun t ht => ?_
 rcases List.mem_or_eq_of_mem_set ht with h5 | rfl
 ·exact h t h5
 ·exact getD_ok hs k
theorem lGo_lit {d lit cp:Nat} {l:List Int} (hs:SmpOk d l):∀ k s,(∀ t∈s.first,LitOk d t)→∀ t∈(lGo l lit cp k s).first,LitOk d t
 | 0,_,h=>h
 | k+1,s,h=>lGo_lit hs k _ (lStep_lit hs h)
theorem tokGo_all {Q:Tok→Prop} {F:List Tok} (h:∀ t∈F,Q t) {n:Nat} (hn:n≤F.length):∀ f i,∀ t∈tokGo F n f i,Q t
 | 0,_,t,ht=>by simp [tokGo] at ht
 | f+1,i,t,ht=>by
  unfold tokGo at ht
  split at ht
  ·rename_i hi
   rcases List.mem_cons.1 ht with rfl | h1
   ·unfold tokAt
    rw [zD,zF (by omega)]
    exact h _ (zG _)
   ·exact tokGo_all h hn f _ t h1
  ·simp at ht
theorem leastF_lit {d:Nat} {l:List Int} (hs:SmpOk d l) (lit cp:Nat):∀ t∈leastF l lit cp,LitOk d t :=
 tokGo_all (lGo_lit hs _ _ fun t ht=>by
  have:t=⟨0,0,0⟩:=List.eq_of_mem_replicate ht
  rw [this]
  exact lit_zero d _ _) (by
   have:=(leastSt_ok l lit cp).pair.fl
   unfold leastSt at this
   rw [this]
   exact Nat.le_refl _) _ _
theorem leastF_tok {d:Nat} {l:List Int} (hs:SmpOk d l) (lit cp:Nat):∀ t∈leastF l lit cp,TokOk d t:=by
 intro t ht
 have h1:=leastF_ok l lit cp t ht
 have h2:=leastF_lit hs lit cp t ht
 unfold Tok.ok at h1
 unfold TokOk
 cases hl:t.isLit with
 | true=>exact .inl ⟨rfl,h2.1,h2.2⟩
 | false =>
  right
  refine ⟨rfl,?_⟩
  rcases h1 with h1 | h1
  ·rw [hl] at h1;cases h1
  ·exact h1
theorem alloc_size (w:World) (o:Obj):(w.alloc o).heap.size=w.heap.size+1:=by
 show (w.heap.push o).size=_
 exact Array.size_push _
theorem Blk.new2 (w:World) (o:Obj) (t:TypeId) (cs:Array Value):Blk ((w.alloc o).alloc (.cells cs t)) (w.heap.size+1) t cs:=by
 have h:=Blk.new (w.alloc o) t cs
 rw [alloc_size] at h
 exact h
theorem Blk.new3 (w:World) (o o2:Obj) (t:TypeId) (cs:Array Value):Blk (((w.alloc o).alloc o2).alloc (.cells cs t)) (w.heap.size+1+1) t cs:=by
 have h:=Blk.new2 (w.alloc o) o2 t cs
 rw [alloc_size] at h
 exact h
def picV (p:PicD) (g o cap:Nat):Value:=.agg #[.int .i64 p.W,.int .i64 p.H,.int .i64 p.d,.slice (some ⟨g,o,none⟩) p.P.length cap]
structure PicAt (w:World) (p:PicD) (g o:Nat) (B:Nat→Option Addr) (c:Nat→Nat) (G:List Nat):Prop where
 ok:p.Ok
 gG:g∈G
 lt:∀ x∈G,x<w.heap.size
 cell:∀ i,i<p.P.length→w.cell? ⟨g,o+i,none⟩=some (.slice (B i) (p.W*p.H) (c i))
 cells:∀ i,i<p.P.length→Cells vi w (B i) (p.P.getD i [])
 blk:∀ i,i<p.P.length→∀ ad,B i=some ad→ad.block∈G
 cap:∀ i,i<p.P.length→p.W*p.H≤c i∧c i≤9223372036854775807
section
variable {w w':World} {p:PicD} {g o:Nat} {B:Nat→Option Addr} {c:Nat→Nat} {G F:List Nat}
theorem PicAt.chg (h:PicAt w p g o B c G) (hc:Chg F w w') (hd:∀ x∈G,x∉F):PicAt w' p g o B c G :=
 { h with
  lt:=fun x hx=>Nat.lt_of_lt_of_le (h.lt x hx) hc.size
  cell:=fun i hi=>(World.cell?_of_block (w:=w) (hc.block g (h.lt g h.gG) (hd g h.gG))).trans (h.cell i hi)
  cells:=fun i hi=>(h.cells i hi).chg hc fun ad e=>hd _ (h.blk i hi ad e) }
theorem PicAt.same (h:PicAt w p g o B c G) (hc:Chg [] w w'):PicAt w' p g o B c G:=h.chg hc (by simp)
theorem PicAt.len (h:PicAt w p g o B c G) {i:Nat} (hi:i<p.P.length):(p.P.getD i []).length=p.W*p.H:=h.ok.len _ (by
 rw [zD,zF hi]
 exact zG hi)
theorem PicAt.at_ (h:PicAt w p g o B c G) {i:Nat} (hi:i<p.P.length):∃ b q,B i=some ⟨b,q,none⟩∧b∈G∧∀ k,k<p.W*p.H→w.cell? ⟨b,q+k,none⟩=some (.int .i64 ((p.P.getD i []).getD k 0)):=by
 have hl:=h.len hi
 obtain ⟨b,q,e,hb,hc⟩:=(h.cells i hi).ex (by rw [hl];exact h.ok.pos)
 refine ⟨b,q,e,h.blk i hi _ e,fun k hk => ?_⟩
 refine hc k _ ?_
 rw [zD (l:=p.P.getD i []),zF (by rw [hl];exact hk)]
 rfl
end
theorem rows_el:Elem Tryz.prog 23 22 (.slice none 0 0) 1 24:=.mk' Tryz.underlying23 (by kernel_rfl)
structure PlRows (w:World) (xs:List Value) (P:List (List Int)) (gs:List Nat):Prop where
 lx:xs.length=P.length
 lg:gs.length=P.length
 nd:gs.Nodup
 row:∀ (i:Nat) (l:List Int),P[i]?=some l→∃ u g,xs[i]?=some u∧gs[i]?=some g∧Row w 3 u g (l.map vi)
section
variable {w w':World} {xs:List Value} {P:List (List Int)} {gs F:List Nat}
theorem PlRows.nil (w:World):PlRows w [] [] []:=⟨rfl,rfl,List.nodup_nil,fun i l h=>by simp at h⟩
theorem PlRows.chg (h:PlRows w xs P gs) (hc:Chg F w w') (hd:∀ x∈gs,x∉F):PlRows w' xs P gs :=
 ⟨h.lx,h.lg,h.nd,fun i l hl=>by
  obtain ⟨u,g,h1,h2,h3⟩:=h.row i l hl
  exact ⟨u,g,h1,h2,h3.chg hc (hd g (List.mem_of_getElem? h2))⟩⟩
theorem PlRows.same (h:PlRows w xs P gs) (hc:Chg [] w w'):PlRows w' xs P gs:=h.chg hc (by simp)
theorem PlRows.lt (h:PlRows w xs P gs):∀ x∈gs,x<w.heap.size:=fun x hx=>by
 obtain ⟨i,hi,rfl⟩:=List.getElem_of_mem hx
 have hi':i<P.length:=by rw [←h.lg];exact hi
 obtain ⟨u,g,h1,h2,h3⟩:=h.row i _ (zF hi')
 rw [zF hi] at h2
 injection h2 with h2
 rw [h2]
 exact h3.lt
theorem PlRows.snoc (h:PlRows w xs P gs) {u:Value} {g:Nat} {l:List Int} (r:Row w 3 u g (l.map vi)) (hg:g∉gs):PlRows w (xs++[u]) (P++[l]) (gs++[g]):=by
 refine ⟨by simp [h.lx],by simp [h.lg],?_,fun i l' hl => ?_⟩
 ·rw [List.nodup_append]
  refine ⟨h.nd,by simp,fun a ha b hb => ?_⟩
  simp at hb
  subst hb
  exact fun e=>hg (by rw [←e];exact ha)
 ·rcases Nat.lt_trichotomy i P.length with hi | hi | hi
  ·rw [List.getElem?_append_left hi] at hl
   obtain ⟨u',g',h1,h2,h3⟩:=h.row i l' hl
   exact ⟨u',g',by rw [List.getElem?_append_left (by rw [h.lx];exact hi)];exact h1,by rw [List.getElem?_append_left (by rw [h.lg];exact hi)];exact h2,h3⟩
  ·subst hi
   simp at hl
   subst hl
   exact ⟨u,g,by rw [←h.lx];simp,by rw [←h.lg];simp,r⟩
  ·rw [List.getElem?_eq_none (by simp;omega)] at hl
   cases hl
theorem PlRows.set (h:PlRows w xs P gs) {i g:Nat} {u:Value} (hx:xs[i]?=some u) (hg:gs[i]?=some g) {l:List Int} (r:Row w' 3 u g (l.map vi)) (hc:Chg [g] w w'):PlRows w' xs (P.set i l) gs:=by
 refine ⟨by rw [h.lx,List.length_set],by rw [h.lg,List.length_set],h.nd,fun k l' hl => ?_⟩
 by_cases hk:i=k
 ·subst hk
  have hi:i<P.length:=by rw [←h.lx];exact (List.getElem?_eq_some_iff.1 hx).1
  rw [List.getElem?_set_self hi] at hl
  injection hl with hl
  subst hl
  exact ⟨u,g,hx,hg,r⟩
 ·rw [List.getElem?_set_ne hk] at hl
  obtain ⟨u',g',h1,h2,h3⟩:=h.row k l' hl
  refine ⟨u',g',h1,h2,h3.chg hc fun hm => ?_⟩
  simp at hm
  subst hm
  have hi:=(List.getElem?_eq_some_iff.1 hg).1
  have hk':=(List.getElem?_eq_some_iff.1 h2).1
  have e1:=(List.getElem?_eq_some_iff.1 hg).2
  have e2:=(List.getElem?_eq_some_iff.1 h2).2
  exact hk ((List.getElem_inj h.nd).1 (e1.trans e2.symm))
end
structure PicOwn (w:World) (p:PicD) (gP cap:Nat) (xs:List Value) (gs:List Nat):Prop where
 ok:p.Ok
 row:Row w 22 (.slice (some ⟨gP,0,none⟩) p.P.length cap) gP xs
 pl:PlRows w xs p.P gs
def sliceA:Option Value→Option Addr
 | some (.slice a _ _)=>a
 | _=>none
def sliceC:Option Value→Nat
 | some (.slice _ _ c)=>c
 | _=>0
section
variable {w w':World} {p:PicD} {gP cap:Nat} {xs:List Value} {gs F:List Nat}
theorem PicOwn.chg (h:PicOwn w p gP cap xs gs) (hc:Chg F w w') (hP:gP∉F) (hd:∀ x∈gs,x∉F):PicOwn w' p gP cap xs gs:=⟨h.ok,h.row.chg hc hP,h.pl.chg hc hd⟩
theorem PicOwn.same (h:PicOwn w p gP cap xs gs) (hc:Chg [] w w'):PicOwn w' p gP cap xs gs:=h.chg hc (by simp) (by simp)
theorem PicOwn.ltP (h:PicOwn w p gP cap xs gs):gP<w.heap.size:=h.row.lt
theorem PicOwn.plane (h:PicOwn w p gP cap xs gs) {i:Nat} (hi:i<p.P.length):∃ g c,xs[i]?=some (.slice (some ⟨g,0,none⟩) (p.W*p.H) c)∧gs[i]?=some g∧Row w 3 (.slice (some ⟨g,0,none⟩) (p.W*p.H) c) g ((p.P.getD i []).map vi)∧w.cell? ⟨gP,i,none⟩=some (.slice (some ⟨g,0,none⟩) (p.W*p.H) c):=by
 have hP:p.P[i]?=some (p.P.getD i []):=by rw [zD,zF hi];rfl
 obtain ⟨u,g,h1,h2,h3⟩:=h.pl.row i _ hP
 obtain ⟨c,rfl,hlc,_⟩:=h3.open_map
 have hl:(p.P.getD i []).length=p.W*p.H:=h.ok.len _ (List.mem_of_getElem? hP)
 rw [hl] at h1 h3
 obtain ⟨_,_,_,_,hce,_⟩:=h.row.open_
 refine ⟨g,c,h1,h2,h3,?_⟩
 rw [hce i (by rw [h.pl.lx];exact hi),h1]
theorem PicOwn.at_ (h:PicOwn w p gP cap xs gs):PicAt w p gP 0 (fun i=>sliceA xs[i]?) (fun i=>sliceC xs[i]?) (gP::gs) where
 ok:=h.ok
 gG:=by simp
 lt:=fun x hx=>by
  rcases List.mem_cons.1 hx with rfl | hx
  ·exact h.row.lt
  ·exact h.pl.lt x hx
 cell:=fun i hi=>by
  obtain ⟨g,c,h1,h2,h3,h4⟩:=h.plane hi
  rw [Nat.zero_add,h4,h1]
  rfl
 cells:=fun i hi=>by
  obtain ⟨g,c,h1,h2,h3,h4⟩:=h.plane hi
  rw [h1]
  have hlt:=h3.lt
  obtain ⟨c',e,_,_,hce,_⟩:=h3.open_map
  exact ⟨fun _=>⟨g,0,rfl,hlt,fun k a ha=>by rw [Nat.zero_add];exact hce k a ha⟩⟩
 blk:=fun i hi ad e=>by
  obtain ⟨g,c,h1,h2,h3,h4⟩:=h.plane hi
  rw [h1] at e
  injection e with e
  subst e
  exact List.mem_cons_of_mem _ (List.mem_of_getElem? h2)
 cap:=fun i hi=>by
  obtain ⟨g,c,h1,h2,h3,h4⟩:=h.plane hi
  rw [h1]
  obtain ⟨c',e,hc1,hc2,_⟩:=h3.open_map
  injection e with _ e1 e2
  subst e2
  exact ⟨by show _≤c;omega,hc2⟩
end
theorem Chg.cell {F:List Nat} {a b:World} {p:Addr} {v:Value} (h:Chg F a b) (hp:p.block∉F) (hc:a.cell? p=some v):b.cell? p=some v:=by
 have hlt:p.block<a.heap.size:=by
  rcases Nat.lt_or_ge p.block a.heap.size with h1 | h1
  ·exact h1
  ·have e:a.heap[p.block]?=none:=Array.getElem?_eq_none h1
   simp [World.cell?,e] at hc
 exact (World.cell?_of_block (w:=a) (h.block p.block hlt hp)).trans hc
theorem gback_ok (l R:List Int) (ks:List Nat) (A AK:Option Addr) (cap capk W H d:Nat) (w:World) (hw0:1≤W) (hw1:W≤64) (hh0:1≤H) (hh1:H≤64) (h0:1≤d) (h1:d≤16) (hl:l.length=W*H) (hs:SmpOk d l)
  (hR:R.length=W*H) (hRs:SmpOk d R) (hRi:∀ y x,y<H→x<W→R.getD (y*W+x) 0=restAt l W d (ks.getD y 0) y x) (hkl:ks.length=H) (hks:∀ k∈ks,k<10) (hc:Cells vi w A R) (hk:Cells i64 w AK ks) :
  Calls Tryz.prog 98 #[.slice A R.length cap,.int .i64 W,.int .i64 H,.int .i64 d,.slice AK ks.length capk] w fun e w'=>∃ v g,e=.returned (.tuple #[v,.int .i64 0])∧Row w' 3 v g (l.map vi)∧Chg [] w w'∧w.heap.size≤g:=by
 obtain ⟨n,hn⟩:∃ n,n=W*H:=⟨_,rfl⟩
 have hn4:n≤4096:=by rw [hn];exact Nat.mul_le_mul hw1 hh1
 have hnW:n≤64*W:=by rw [hn,Nat.mul_comm];exact Nat.mul_le_mul_right W hh1
 have hpl:=isPlane_yes R A cap W H d w hw0 hw1 hh0 hh1 h0 h1 hR hRs hc
 have hkd:=areKinds_yes ks AK capk w hks (by omega) hk
 have hmk:=run_make1 (P:=Tryz.prog) int_elem rfl .i64 .i64 n (by omega) (by omega)
 have hrow0:=Row.zeros w n (by omega)
 obtain ⟨B,hB⟩:∃ B,B=w.heap.size:=⟨_,rfl⟩
 have ch0:Chg [] w (w.alloc (.cells (List.replicate n (Value.int .i64 0)).toArray 3)):=(Chg.refl [] w).alloc _
 rw [←hB] at hrow0
 rw [hkl] at hkd ⊢
 rw [hR,←hn] at hpl ⊢
 have HN:=hid hn
 have HR:=hid (hR.trans hn.symm)
 have HL:=hid (hl.trans hn.symm)
 have HKL:=hid hkl
 have HS:=hid hs
 have HRI:=hid hRi
 have HKS:=hid hks
 have HC:=hid hc
 have HRS:=hid hRs
 have HK:=hid hk
 have HB:=hid hB
 clear hn hR hl hkl hs hRi hks hc hk hB hRs
 go_enter Tryz.func98,Tryz.ntmps98
 go_wp2_with (first | (go_at_call 142;refine hpl.mono ?_;rintro e w' ⟨rfl,rfl⟩) | (go_at_call 143;refine hkd.mono ?_;rintro e w' ⟨rfl,rfl⟩))
 rw [←HB.out]
 go_loopg [38] n (fun j iv wr=>∃ i:Nat,iv=.int .i64 i∧i+j=n∧Row wr 3 (.slice (some ⟨B,0,none⟩) n n) B ((fillL (l.take i) n).map vi)∧Chg [] w wr)
 case atStart=>exact ⟨0,rfl,by omega,hrow0,ch0⟩
 case round =>
  clear hrow0 ch0 hpl hkd
  obtain ⟨i,rfl,hij,hrow,hch⟩:=hrel
  rcases gk with _ | j
  ·obtain rfl:i=n:=by omega
   have e:fillL (l.take i) i=l:=by
    have:=fill_all l
    rw [HL.out] at this
    exact this
   rw [e] at hrow
   go_wp2
   refine bodyPost_ret (v:=.tuple #[.slice (some ⟨B,0,none⟩) i i,.int .i64 0]) (by simp [results,Tryz.results98,go_sem]) rfl ?_
   exact ⟨_,B,rfl,hrow,hch,by have:=HB.out;omega⟩
  ·have hin:i<n:=by omega
   obtain ⟨x,hx⟩:∃ x,x=i%W:=⟨_,rfl⟩
   obtain ⟨y,hy⟩:∃ y,y=i / W:=⟨_,rfl⟩
   have hxW:x<W:=by rw [hx];exact Nat.mod_lt _ (by omega)
   have hyH:y<H:=by rw [hy];exact Nat.div_lt_of_lt_mul (by have:=HN.out;omega)
   have hyx:y*W+x=i:=by rw [hx,hy,Nat.mul_comm];exact Nat.div_add_mod i W
   have ex1:(i:Int)%(W:Int)=(x:Int):=by rw [hx];simp
   have ey1:(i:Int) / (W:Int)=(y:Int):=by rw [hy];simp
   have ex2:(i:Int).tmod (W:Int)=(x:Int):=by rw [Int.tmod_eq_emod_of_nonneg (by omega)];exact ex1
   have ey2:(i:Int).tdiv (W:Int)=(y:Int):=by rw [Int.tdiv_eq_ediv_of_nonneg (by omega)];exact ey1
   have hWne:(W:Int)≠0:=by omega
   have hlen:(fillL (l.take i) n).length=n:=fillL_len (by rw [List.length_take];omega)
   have hnf:nbr (fillL (l.take i) n) W x y=nbr l W x y:=by
    have:=nbr_fill (l:=l) hxW hyx (by rw [HL.out];omega)
    rw [HL.out] at this
    exact this
   have hnr:=fun w' (h:Chg [] wr w')=>near_ok (fillL (l.take i) n) (some ⟨B,0,none⟩) n W x y w' hw0 hw1 hxW (by omega) (by rw [hyx,hlen];omega) (hrow.toOwn.cells.same h) (by omega)
   rw [hlen,hnf] at hnr
   obtain ⟨k,hkk⟩:∃ k,k=ks.getD y 0:=⟨_,rfl⟩
   have hky:y<ks.length:=by rw [HKL.out];exact hyH
   have hk10:k<10:=by rw [hkk,zD,zF hky];exact HKS.out _ (zG _)
   have hon:=fun w'=>one_ok k (nbr l W x y) d w' hk10 h0 h1 (nbr_ok HS.out W x y)
   have hbk:=back_one HS.out W k y x
   have hri:=HRI.out y x hyH hxW
   rw [←hkk,hyx] at hri
   rw [hyx] at hbk
   obtain ⟨g,hg⟩:∃ g,g=nbr l W x y:=⟨_,rfl⟩
   rw [←hg] at hnr hon hbk
   obtain ⟨gs,hgs⟩:∃ z,z=guessI k g d:=⟨_,rfl⟩
   have hgsb:=guessI_ok (d:=d) (g:=g) (by rw [hg];exact nbr_ok HS.out W x y) k
   rw [←hgs] at hgsb
   rw [←hgs] at hon hbk
   rw [←hri] at hbk
   obtain ⟨r,hr⟩:∃ r,r=R.getD i 0:=⟨_,rfl⟩
   rw [←hr] at hbk
   obtain ⟨bk,ok,rfl,hkc0⟩:=(HK.out.same hch).at_ hky
   have hkc:wr.cell? ⟨bk,ok+y,none⟩=some (.int .i64 k):=by
    rw [hkc0,hkk,zD,zF hky];rfl
   have hiR:i<R.length:=by rw [HR.out];exact hin
   obtain ⟨ba,oa,rfl,hrc0⟩:=(HC.out.same hch).at_ hiR
   have hrc:wr.cell? ⟨ba,oa+i,none⟩=some (.int .i64 r):=by
    rw [hrc0,hr,zD,zF hiR];rfl
   clear hkc0 hrc0 hiR
   have hwr:wrap64 (r+gs)=r+gs:=by
    have h3:=getD_ok HRS.out i
    rw [←hr] at h3
    have h4:=hgsb
    have hp:(2:Int)^d≤65536:=by
     have:=Nat.pow_le_pow_right (n:=2) (by decide) h1
     have e:((2^d:Nat):Int)=(2:Int)^d:=by simp
     omega
    exact IntWalk.wrap64_in _ (by omega)
   have HNR:=hid hnr
   have HON:=hid hon
   have HRC:=hid hrc
   have HLI:Hid (l.take (i+1)=l.take i++[wrapI (r+gs) d]):=hid (by
    have hil:i<l.length:=by rw [HL.out];exact hin
    rw [hbk,zD,zF hil]
    exact take_snoc' l hil)
   have HTL:Hid ((l.take i).length=i):=hid (by rw [List.length_take,HL.out];omega)
   have HBK:=hid hbk
   have HR':=hid hr
   have HKK:=hid hkk
   have HROW:=hid hrow
   have HCH:=hid hch
   have HLN:=hid hlen
   clear hx hy hyx hnf hnr hon hbk hri hg hgs hr hkk hrow hch hlen
   go_wp2_with fail
   go_quiet (fail)
   go_wp2_with fail
   refine (HNR.out _ ((Chg.refl [] wr).drewN nq)).mono ?_
   obtain ⟨ga,gb,gc,ge⟩:=g
   rintro e w1 ⟨rfl,q,rfl⟩
   obtain ⟨wy,hwy⟩:∃ wy,wy=(wr.drewN nq).drewN q:=⟨_,rfl⟩
   have chy:Chg [] wr wy:=by rw [hwy];exact ((Chg.refl [] wr).drewN nq).drewN q
   rw [←hwy]
   have hkc:=chy.cell (by simp) hkc
   clear hrc hwy
   go_wp2_with fail
   refine (HON.out _).mono ?_
   rintro e w2 ⟨rfl,ch2⟩
   have chz:Chg [] wr w2:=chy.trans_same ch2
   have hrc:=chz.cell (by simp) HRC.out
   have hwp:=fun w'=>wrap_ok (r+gs) d w' h0 h1
   rw [HBK.out] at hwp
   go_wp2_with fail
   refine (hwp _).mono ?_
   rintro e w3 ⟨rfl,rfl⟩
   have hrow2:=HROW.out.chg chz (by simp)
   obtain ⟨hce,hfr⟩:=hrow2.fill_cell (by rw [HTL.out];exact hin)
   have hfill:=hrow2.fill (by rw [HTL.out];exact hin) (l.getD i 0)
   rw [HTL.out] at hce hfr hfill
   have HFI:=hid hfill
   clear hrow2 hfill hrc hwp hkc
   go_wp2_with fail
   go_roundg j
   case measure=>omega
   case rel =>
    have hch2:Chg [B] w2 (w2.setCell ⟨B,i,none⟩ (.int .i64 (l.getD i 0))):=(Chg.refl _ _).setCell (.inl (by simp)) _
    refine ⟨i+1,by go_num,by omega,?_,(HCH.out.trans_same chz).trans hch2 fun z hz => .inr (by have:=HB.out;simp at hz;omega)⟩
    have e:=HLI.out
    rw [HBK.out] at e
    rw [e]
    exact HFI.out
theorem sgn_mod {x:Int} {n:Nat} (h:fitsB x n=true):sgnOf (modN x n) n=x:=by
 unfold fitsB at h
 simp only [Bool.and_eq_true,decide_eq_true_eq] at h
 obtain ⟨⟨⟨h1,h2⟩,h3⟩,h4⟩:=h
 have hp:(2:Int)^n=2^(n-1)+2^(n-1):=by
  obtain ⟨m,rfl⟩:∃ m,n=m+1:=⟨n-1,by omega⟩
  rw [Int.pow_succ,Nat.add_sub_cancel]
  omega
 have hpn:((2^(n-1):Nat):Int)=(2:Int)^(n-1):=by simp
 have hpos:=two_pow_pos' (n-1)
 have hc:=modN_cast x n
 unfold sgnOf
 by_cases hx:0≤x
 ·have e:x%2^n=x:=Int.emod_eq_of_lt hx (by omega)
  rw [e] at hc
  rw [if_pos (by omega),hc]
 ·have e:x%2^n=x+2^n:=by
   rw [←Int.add_emod_right]
   exact Int.emod_eq_of_lt (by omega) (by omega)
  rw [e] at hc
  rw [if_neg (by omega),hc]
  omega
theorem sgn_any {x:Int} {n:Nat} (hn:1≤n) (h:x=0∨fitsB x n=true):sgnOf (modN x n) n=x:=by
 rcases h with rfl | h
 ·have e:modN 0 n=0:=by simp [modN]
  rw [e]
  unfold sgnOf
  rw [if_pos (Nat.two_pow_pos _)]
  rfl
 ·exact sgn_mod h
theorem rsigned_ok (w:World) (b:Nat) (F ds:List Nat) (p n:Nat) (x:Int) (h:IsRd w b F ds p) (hn:n≤31) (hx:x=0∨fitsB x n=true) (ha:Ahead ds p (bitsOf (modN x n) n)) :
  Calls Tryz.prog 185 #[.pointer (some ⟨b,0,none⟩),.int .i64 n] w fun e w'=>e=.returned (.int .i64 x)∧IsRd w' b F ds (p+n)∧Chg [b] w w':=by
 have hget:=rget_ahead w b F ds p n (modN x n) h (by omega) (modN_lt x n) ha
 rcases Nat.eq_zero_or_pos n with rfl | hpos
 ·have hx0:x=0:=by
   rcases hx with h | h
   ·exact h
   ·simp [fitsB] at h
  subst hx0
  clear hx ha h
  have t1:(((0:Nat):Int)==0)=true:=rfl
  go_enter Tryz.func185,Tryz.ntmps185
  go_wp2_with fail
  refine hget.mono ?_
  rintro e w1 ⟨rfl,hr1,ch1⟩
  obtain ⟨hc1,hc2,hf1,A,cap,hc0⟩:=rd_cells hr1
  clear hget
  go_wp2
  go_ret
  exact ⟨rfl,hr1,ch1⟩
 ·have hsg:=sgn_shift hpos (by omega) (modN_lt x n)
  rw [sgn_any hpos hx] at hsg
  have hlt:=modN_lt x n
  rw [IntWalk.i64_left,Int.fdiv_eq_ediv_of_nonneg _ (by have:=two_pow_pos' (64-n);omega)] at hsg
  obtain ⟨v,hv⟩:∃ v,v=modN x n:=⟨_,rfl⟩
  rw [←hv] at hget hsg hlt
  have t1:((n:Int)==0)=false:=by rw [beq_eq_false_iff_ne];omega
  have e1:(64:Int)-(n:Int)=((64-n:Nat):Int):=by omega
  clear hx ha h hv
  go_enter Tryz.func185,Tryz.ntmps185
  go_wp2_with fail
  refine hget.mono ?_
  rintro e w1 ⟨rfl,hr1,ch1⟩
  obtain ⟨hc1,hc2,hf1,A,cap,hc0⟩:=rd_cells hr1
  clear hget
  go_wp2
  go_ret
  exact ⟨rfl,hr1,ch1⟩
def rawBits (n:Nat) (l:List Int):List Nat:=l.flatMap fun x=>bitsOf (modN x n) n
theorem rawBits_split (n:Nat) (l:List Int) {m:Nat} (hm:m<l.length):rawBits n (l.drop m)=bitsOf (modN l[m] n) n++rawBits n (l.drop (m+1)):=by
 unfold rawBits
 rw [List.drop_eq_getElem_cons hm,List.flatMap_cons]
theorem pone_ok (w:World) (b:Nat) (F ds:List Nat) (p k:Nat) (l:List Int) (h:IsRd w b F ds p) (hk:k≤25∨k=31) (hw:∀ x∈l,wideP x) (hl:l.length≤4096) (ha:Ahead ds p (partBits k l)) :
  Calls Tryz.prog 141 #[.pointer (some ⟨b,0,none⟩),.int .i64 l.length] w fun e w'=>∃ v G,e=.returned (.tuple #[.int .i64 k,v,.int .i64 0])∧Own w' 3 v G (l.map vi)∧IsRd w' b F ds (p+(partBits k l).length)∧Chg [b] w w'∧∀ x∈G,w.heap.size≤x:=by
 unfold partBits at ha ⊢
 have hk32:k<2^5:=by omega
 have hg1:=rget_ahead w b F ds p 5 k h (by omega) hk32 ha.left
 have ha1:=ha.right
 rw [bitsOf_len] at ha1
 have hbl:=h.lt b h.mem
 rcases hk with hk | rfl
 ·rw [if_neg (by omega)] at ha1 ⊢
  have hrg:=fun w' (hr:IsRd w' b F ds (p+5))=>rgets_ok w' b F ds (p+5) k l hr hk hw (by omega) ha1
  have t1:decide ((k:Int)≤25)=true:=zB (by omega)
  have HRG:=hid hrg
  have HW:=hid hw
  rw [zC,bitsOf_len]
  generalize (rbitsAll k l).length=q at *
  generalize l.length=n at *
  clear hrg ha ha1 hw h
  go_enter Tryz.func141,Tryz.ntmps141
  go_wp2_with fail
  refine hg1.mono ?_
  rintro e w1 ⟨rfl,hr1,ch1⟩
  have hrg:=HRG.out w1 hr1
  clear hg1
  go_wp2_with (go_at_call 60;refine (err_ok _ b F ds _ hr1).mono ?_;rintro e w' ⟨rfl,rfl⟩)
  refine hrg.mono ?_
  rintro e w2 ⟨v,G,rfl,ho,hr2,ch2,hG⟩
  go_wp2
  refine bodyPost_ret (v:=.tuple #[.int .i64 k,v,.int .i64 0]) (by simp [results,Tryz.results141,go_sem]) rfl ?_
  exact ⟨v,G,rfl,ho,hr2.cast (by omega),ch1.trans_same ch2,fun x hx=>Nat.le_trans ch1.size (hG x hx)⟩
 ·rw [if_pos rfl] at ha1 ⊢
  have hwl:=widthL_le hw
  have hwf:=widthL_fits hw
  have hwd:=fun A cap w' (hc:Cells vi w' A l)=>width_ok l A cap w' hw hc (by omega)
  obtain ⟨wd,hwde⟩:∃ wd,wd=widthL l:=⟨_,rfl⟩
  rw [←hwde] at ha1 hwl hwf hwd ⊢
  have hg2:=fun w' (hr:IsRd w' b F ds (p+5))=>rget_ahead w' b F ds (p+5) 5 wd hr (by omega) (by omega) ha1.left
  have ha2:=ha1.right
  rw [bitsOf_len] at ha2
  have ha3:Ahead ds (p+5+5) (rawBits wd (l.drop 0)):=by rw [List.drop_zero];exact ha2
  have hlenq:(bitsOf 31 5++(bitsOf wd 5++l.flatMap fun x=>bitsOf (modN x wd) wd)).length=5+(5+(rawBits wd l).length):=by
   rw [zC,zC,bitsOf_len,bitsOf_len];rfl
  rw [hlenq]
  obtain ⟨n,hn⟩:∃ n,n=l.length:=⟨_,rfl⟩
  rw [←hn] at hl ⊢
  have HN:=hid hn
  have HLT:=hid h.lt
  have HA:=hid ha3
  have HG2:=hid hg2
  have HWF:=hid hwf
  have HWD:=hid hwd
  clear hn ha3 ha2 ha1 ha hg2 hwf hwd hwde hlenq hw h
  go_enter Tryz.func141,Tryz.ntmps141
  go_wp2_with fail
  refine hg1.mono ?_
  rintro e w1 ⟨rfl,hr1,ch1⟩
  have hg2:=HG2.out w1 hr1
  clear hg1
  go_wp2_with (go_at_call 60;refine (err_ok _ b F ds _ hr1).mono ?_;rintro e w' ⟨rfl,rfl⟩)
  refine hg2.mono ?_
  rintro e w2 ⟨rfl,hr2,ch2⟩
  have ch02:=ch1.trans_same ch2
  clear hg2 hr1 ch1 ch2
  go_wp2_with fail
  go_loopg [11,38] n (fun j v iv wr=>∃ G p' out,j≤n∧iv=.int .i64 ((n-j:Nat):Int)∧Own wr 3 v G (out.map vi)∧Hid (out=l.take (n-j))∧IsRd wr b F ds p'∧Hid (Ahead ds p' (rawBits wd (l.drop (n-j))))∧Hid (p'+(rawBits wd (l.drop (n-j))).length=p+5+5+(rawBits wd l).length)∧Chg [b] w wr∧∀ x∈G,w.heap.size≤x)
  case atStart=>exact ⟨[],p+5+5,[],Nat.le_refl _,by simp,Own.nil _ _,hid (by simp),hr2,hid (by rw [Nat.sub_self];exact HA.out),hid (by simp),ch02,by simp⟩
  case round =>
   clear hr2 ch02
   obtain ⟨G,p',out,hj,rfl,ho,Ho,hrd,Ha,Hp,hch,hG⟩:=hrel
   have HG:=hid hG
   clear hG
   rcases gk with _ | j
   ·obtain ⟨A,cap,rfl,hcl,hcm,hcs⟩:=ho.open_map
    have t4:decide (((n-0:Nat):Int)<(n:Int))=false:=by simp
    have t4':decide (n<n)=false:=by simp
    have e:l.take (n-0)=l:=by rw [HN.out,Nat.sub_zero,List.take_length]
    have e2:l.drop (n-0)=[]:=by rw [HN.out,Nat.sub_zero,List.drop_length]
    have hol:out=l:=Ho.out.trans e
    have hp:=Hp.out
    rw [e2] at hp
    have hp2:p'=p+5+5+(rawBits wd l).length:=by simpa [rawBits] using hp
    subst hol
    have hwd:=HWD.out A cap wr hcs
    have HP:=hid hp2
    clear e e2 hp hp2 Ho Hp Ha
    go_wp2_with (go_at_call 60;refine (err_ok _ b F ds _ hrd).mono ?_;rintro e w' ⟨rfl,rfl⟩)
    refine hwd.mono ?_
    rintro e w' ⟨rfl,rfl⟩
    go_wp2_with fail
    refine bodyPost_ret (v:=.tuple #[.int .i64 31,.slice A out.length cap,.int .i64 0]) (by simp [results,Tryz.results141,go_sem]) rfl ?_
    exact ⟨_,G,rfl,ho,hrd.cast (by rw [HP.out];omega),hch,HG.out⟩
   ·obtain ⟨A,cap,rfl,hcl,hcm,-⟩:=ho.open_map
    obtain ⟨m,hm1⟩:∃ m,m=n-(j+1):=⟨_,rfl⟩
    rw [←hm1] at Ha Hp Ho ⊢
    have hm2:m<n:=by omega
    have hm3:n-j=m+1:=by omega
    have HM:=hid hm3
    clear hm1 hm3
    have hml:m<l.length:=by rw [←HN.out];exact hm2
    have hsp:=rawBits_split wd l hml
    have htk:=take_snoc' l hml
    have hxf:=HWF.out l[m] (zG _)
    obtain ⟨x,hx⟩:∃ x,x=l[m]:=⟨_,rfl⟩
    rw [←hx] at hsp hxf htk
    have ha1:=Ha.out
    rw [hsp] at ha1
    have hsg:=rsigned_ok wr b F ds p' wd x hrd hwl hxf ha1.left
    have HA2:=hid ha1.right
    have hol:out.length≤4096:=by rw [Ho.out,List.length_take];omega
    have HTK:=hid htk
    have HSP:=hid hsp
    have t4:decide (m<n)=true:=zB hm2
    have t4':decide ((m:Int)<(n:Int))=true:=zB (by omega)
    clear hsp htk hx ha1 hml hxf
    go_wp2_with fail
    refine hsg.mono ?_
    rintro e w1' ⟨rfl,hr1,ch1⟩
    have hbG:∀ y∈G,y∉[b]:=fun y hy=>by have:=HG.out y hy;simp;omega
    have ho1:=ho.chg ch1 hbG
    have HB:=hid hbG
    clear hsg hbG
    go_wp2_with (at_builtin;refine wpList_append_o1 rfl rfl int_elem rfl rfl (ho1.alloc _) (.int .i64 x) rfl ?c1 ?c2 ?c3 ?c4 ?_)
    case c1=>simp [go_sem]
    case c2=>rfl
    case c3=>rw [zE];omega
    case c4=>rw [zE];omega
    intro g2 cap2 w2' hr2 gr2
    go_wp2_with fail
    go_roundg j
    case measure=>omega
    case rel =>
     rw [HM.out]
     have ch2:Chg [b] w w2':=(hch.trans_same (ch1.alloc _)).trans gr2.chg fun x hx => .inr (HG.out x hx)
     have hng:∀ y∈F,y∉G:=fun y hy hyG=>by have:=HG.out y hyG;have:=HLT.out y hy;omega
     refine ⟨[g2],_,out++[x],by omega,by go_num,?_,?_,(hr1.same ((Chg.refl [] w1').alloc _)).chg gr2.chg hng,hid (by have:=HA2.out;rw [bitsOf_len] at this;exact this),?_,ch2,?_⟩
     ·have:=hr2.toOwn
      simpa [vi] using this
     ·exact hid (by rw [Ho.out,HTK.out])
     ·refine hid ?_
      rw [←Hp.out,HSP.out,zC,bitsOf_len]
      omega
     ·intro y hy
      simp at hy
      subst hy
      rcases gr2.new y (by simp) with h1 | h1
      ·exact HG.out y h1
      ·have:=hch.size
       have:=ch1.size
       simp at h1
       omega
end Go.Proofs.YtijpbkakncglgaaGreatDoor
