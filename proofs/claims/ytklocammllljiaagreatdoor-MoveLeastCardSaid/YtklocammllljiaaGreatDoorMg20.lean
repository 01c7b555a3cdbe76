/- sample.Low, High, Fits, Width; parts.row, right, raw, choose by their contracts. -/
import Derived.Test.YtklocammllljiaaGreatDoorMg16
import Derived.Test.YtklocammllljiaaGreatDoorMg19
set_option linter.unusedVariables false
set_option linter.unusedSimpArgs false
set_option maxHeartbeats 2000000
set_option maxRecDepth 100000
namespace Go.Proofs.YtklocammllljiaaGreatDoor
open Go.RowKit
theorem low_ok (m:Nat) (w:World) (hm:m<=30):Calls Tryz.prog 285 #[.int .i64 ((m:Int)+1)] w fun e w'=>e=.returned (.int .i64 (-2^m))/\w=w':=by
 have t1:decide ((m:Int)+1<1)=false:=by simp;omega
 have t2:decide ((31:Int)<(m:Int)+1)=false:=by simp;omega
 have hp:(2:Int)^m<=1073741824:=pow_half_mono (n:=30) hm
 have aa:=two_pow_pos' m
 go_enter Tryz.func285,Tryz.ntmps285
 go_wp2
 go_ret
 refine ⟨?_,rfl⟩
 first | rfl | (go_num)
theorem high_ok (m:Nat) (w:World) (hm:m<=30):Calls Tryz.prog 286 #[.int .i64 ((m:Int)+1)] w fun e w'=>e=.returned (.int .i64 (2^m-1))/\w=w':=by
 have t1:decide ((m:Int)+1<1)=false:=by simp;omega
 have t2:decide ((31:Int)<(m:Int)+1)=false:=by simp;omega
 have hp:(2:Int)^m<=1073741824:=pow_half_mono (n:=30) hm
 have aa:=two_pow_pos' m
 go_enter Tryz.func286,Tryz.ntmps286
 go_wp2
 go_ret
 refine ⟨?_,rfl⟩
 first | rfl | (go_num)
theorem fits_ok (x:Int) (n:Nat) (w:World) (hn:n<=31) (hx0 : -4611686018427387904<=x) (hx1:x<=4611686018427387904):Calls Tryz.prog 271 #[.int .i64 x,.int .i64 n] w fun e w'=>e=.returned (.bool (fitsB x n))/\w=w':=by
 rcases n with _ | m
 ·have hf:fitsB x 0=false:=by simp [fitsB]
  rw [hf]
  go_enter Tryz.func271,Tryz.ntmps271
  go_wp2
  go_ret
  exact ⟨rfl,rfl⟩
 ·have hm:m<=30:=by omega
  have aa:((m+1:Nat):Int)=(m:Int)+1:=by omega
  rw [aa]
  have t1:decide ((1:Int)<=(m:Int)+1)=true:=by simp;omega
  have t2:decide ((m:Int)+1<=31)=true:=by simp;omega
  have hp:(2:Int)^m<=1073741824:=pow_half_mono (n:=30) hm
  have ab:=two_pow_pos' m
  have hf:fitsB x (m+1)=(decide (-2^m<=x)&&decide (x<=2^m-1)):=by
   unfold fitsB
   simp [hn]
  rw [hf]
  clear hf
  by_cases h1 : -2^m<=x
  ·have t3:decide ((-2^m:Int)<=x)=true:=by simpa using h1
   by_cases h2:x<=2^m-1
   ·have t4:decide (x<=(2^m-1:Int))=true:=by simpa using h2
    rw [t3,t4]
    go_enter Tryz.func271,Tryz.ntmps271
    go_wp2_with (first | (go_at_call 285;refine (low_ok m _ hm).mono ?_;rintro e w' ⟨rfl,rfl⟩) | (go_at_call 286;refine (high_ok m _ hm).mono ?_;rintro e w' ⟨rfl,rfl⟩))
    go_ret
    exact ⟨rfl,rfl⟩
   ·have t4:decide (x<=(2^m-1:Int))=false:=by simpa using h2
    rw [t3,t4]
    go_enter Tryz.func271,Tryz.ntmps271
    go_wp2_with (first | (go_at_call 285;refine (low_ok m _ hm).mono ?_;rintro e w' ⟨rfl,rfl⟩) | (go_at_call 286;refine (high_ok m _ hm).mono ?_;rintro e w' ⟨rfl,rfl⟩))
    go_ret
    exact ⟨rfl,rfl⟩
  ·have t3:decide ((-2^m:Int)<=x)=false:=by simpa using h1
   rw [t3]
   go_enter Tryz.func271,Tryz.ntmps271
   go_wp2_with (first | (go_at_call 285;refine (low_ok m _ hm).mono ?_;rintro e w' ⟨rfl,rfl⟩) | (go_at_call 286;refine (high_ok m _ hm).mono ?_;rintro e w' ⟨rfl,rfl⟩))
   go_ret
   exact ⟨rfl,rfl⟩
theorem width_ok (l:List Int) (A:Option Addr) (cap:Nat) (w:World) (hw:∀ x∈l,wideP x) (hc:Cells vi w A l) (hl:l.length<=1099511627776) :
  Calls Tryz.prog 224 #[.slice A l.length cap] w fun e w'=>e=.returned (.int .i64 (widthL l))/\w=w':=by
 have HW:=hid hw
 clear hw
 obtain ⟨n,hn⟩:=zX (l.length)
 rw [<-hn] at hl ⊢
 have HN:=hid hn
 clear hn
 go_enter Tryz.func224,Tryz.ntmps224
 go_wp2_with fail
 go_loopg [3,8] n (fun j s i wr=>j<=n/\i=.int .i64 ((n-j:Nat):Int)/\s=.int .i64 ((widthL (l.take (n-j)):Nat):Int)/\w=wr)
 case atStart=>exact ⟨zQ _,by simp,by simp [widthL],rfl⟩
 case round =>
  obtain ⟨hj,rfl,rfl,rfl⟩:=hrel
  rcases gk with _ | j
  ·have t4:decide (((n-0:Nat):Int)<(n:Int))=false:=by simp
   have e:l.take n=l:=by rw [HN.out,zN]
   rw [Nat.sub_zero,e]
   go_wp2
   go_ret
   exact ⟨rfl,rfl⟩
  ·obtain ⟨m,an⟩:=zX (n-(j+1))
   rw [<-an]
   have ao:m<n:=by omega
   have am:n-j=m+1:=by omega
   have HM:=hid am
   clear an am
   have al:m<l.length:=by rw [<-HN.out];exact ao
   obtain ⟨b,o,rfl,ab⟩:=hc.at_ al
   have ad:=widthL_snoc (l.take m) l[m]
   rw [<-take_snoc' l al] at ad
   have ai:=widthL_le (l:=l.take m) (fun x hx=>HW.out x (List.mem_of_mem_take hx))
   obtain ⟨x,hx⟩:=zX (l[m])
   rw [<-hx] at ab ad
   have ak:w.cell? ⟨b,o+m,none⟩=some (.int .i64 x):=ab
   have ah:wideP x:=by rw [hx];exact HW.out _ (zG _)
   have aq:=ah
   obtain ⟨au,ar⟩:=aq
   obtain ⟨s,hs⟩:=zX (widthL (l.take m))
   rw [<-hs] at ad ai ⊢
   have HS:=hid ad
   have ae:=need_le ah 32 s ai
   clear ad ab hx hs al
   go_wp2_with fail
   go_loopg [3] (32-s) (fun f v wr=>∃ v':Nat,v=.int .i64 v'/\v'+f=32/\Hid (needFrom x 32 s=needFrom x f v')/\v'<=31/\w=wr)
   case atStart=>exact ⟨s,rfl,by omega,hid (by
    have:∀ d,d+(32-s)=32->needFrom x 32 s=needFrom x (32-s) s:=by
     intro d _
     have ap:∀ f g w',w'<=31->32<=w'+f->32<=w'+g->needFrom x f w'=needFrom x g w':=by
      intro f
      induction f with
      | zero=>intro g w' h1 h2 h3;omega
      | succ f ih =>
       intro g w' h1 h2 h3
       rcases g with _ | g
       ·omega
       ·unfold needFrom
        split
        ·rename_i hcc
         have:w'≠31:=fun e=>by rw [e,fits_wide ah] at hcc;simp at hcc
         exact ih g (w'+1) (by omega) (by omega) (by omega)
        ·rfl
     exact ap 32 (32-s) s ai (by omega) (by omega)
    exact this s (by omega)),ai,rfl⟩
   case round =>
    obtain ⟨v,rfl,av,Hn,aj,rfl⟩:=hrel
    have ag:=fits_ok x v w aj (by omega) (by omega)
    by_cases hx00:x=0
    ·have aa:=need_stop (x:=x) (w:=v) (f:=gk) (.inl hx00)
     rw [<-Hn.out,<-HS.out] at aa
     have af:=hid aa
     clear aa Hn ae HS
     have t5:(x != 0)=false:=by simp [hx00]
     clear hx00
     go_wp2
     go_roundg j
     case measure=>omega
     case rel=>rw [HM.out,af.out];exact ⟨by omega,by go_num,rfl,rfl⟩
    ·have t5:(x != 0)=true:=by simp [hx00]
     have t6:decide ((v:Int)<32)=true:=by simp;omega
     have ac:x≠0:=hx00
     have HX:=hid ac
     clear hx00 ac
     cases hfb:fitsB x v with
     | true =>
      rw [hfb] at ag
      have aa:=need_stop (x:=x) (w:=v) (f:=gk) (.inr hfb)
      rw [<-Hn.out,<-HS.out] at aa
      have af:=hid aa
      clear aa Hn hfb ae HS
      go_wp2_with (go_at_call 271;refine ag.mono ?_;rintro e w' ⟨rfl,rfl⟩)
      go_roundg j
      case measure=>omega
      case rel=>rw [HM.out,af.out];exact ⟨by omega,by go_num,rfl,rfl⟩
     | false =>
      rw [hfb] at ag
      have aw:v≠31:=fun e=>by rw [e,fits_wide ah] at hfb;cases hfb
      obtain ⟨g,rfl⟩:∃ g,gk=g+1:=⟨gk-1,by omega⟩
      have aa:=need_step HX.out (by omega) hfb g
      rw [<-Hn.out] at aa
      have af:=hid aa
      clear aa Hn hfb
      go_wp2_with (go_at_call 271;refine ag.mono ?_;rintro e w' ⟨rfl,rfl⟩)
      go_roundg g
      case measure=>omega
      case rel=>exact ⟨v+1,by go_num,by omega,af,by omega,rfl⟩
theorem prow_yes (n warm:Nat) (w:World) (h1:1<=n) (h2:n<=4096) (h3:warm<=n):Calls Tryz.prog 248 #[.int .i64 n,.int .i64 warm] w fun e w'=>e=.returned (.bool true)/\w=w':=by
 have t1:decide ((1:Int)<=(n:Int))=true:=by simp;omega
 have t2:decide ((n:Int)<=4096)=true:=by simp;omega
 have t3:decide ((0:Int)<=(warm:Int))=true:=by simp
 have t4:decide (warm<=n)=true:=by simp;omega
 go_enter Tryz.func248,Tryz.ntmps248
 go_wp2
 go_ret
 exact ⟨rfl,rfl⟩
theorem Own.one (w:World) (e:TypeId) (u:Value):Own (w.alloc (.cells #[u] e)) e (.slice (some ⟨w.heap.size,0,none⟩) 1 1) [w.heap.size] [u]:=by
 have:=(Row.made w e [u] (by simp [maxLen])).toOwn
 simpa using this
theorem sizes_ok (o n warm:Nat) (w:World) (ho:o<=8) (h1:1<=n) (h2:n<=4096) (h3:warm<=n) :
  Calls Tryz.prog 221 #[.int .i64 o,.int .i64 n,.int .i64 warm] w fun e w'=>∃ v G,e=.returned v/\Own w' 3 v G ((sizesL o n warm).map i64)/\Chg [] w w'/\∀ x∈G,w.heap.size<=x:=by
 have t1:decide ((o:Int)<0)=false:=by simp
 have t2:decide ((8:Int)<(o:Int))=false:=by simp;omega
 have ah:2^o<=256:=Nat.pow_le_pow_right (n:=2) (j:=8) (by decide) ho
 have al:=Nat.two_pow_pos o
 obtain ⟨P,hP⟩:=zX (2^o)
 obtain ⟨s,hs⟩:=zX (n / 2^o)
 have ar:(2:Int)^o=(P:Int):=by rw [hP];simp
 have ao:s<=n:=by rw [hs];exact Nat.div_le_self _ _
 have ap:s*P<=n:=by rw [hs,hP];exact Nat.div_mul_le_self _ _
 have ab:sizesL o n warm=if s*P=n/\warm<=s then (s-warm)::List.replicate (P-1) s else []:=by unfold sizesL;rw [<-hs,<-hP]
 have e1:(n:Int) / (P:Int)=(s:Int):=by rw [hs,hP];simp
 rw [<-hP] at al ah
 have HD:=hid ab
 clear ab hs
 have HP:=hid hP
 clear hP
 by_cases c1:s*P=n
 ·have t3:(((s:Int)*(P:Int)) != (n:Int))=false:=by
   rw [bne_eq_false_iff_eq]
   exact_mod_cast c1
  by_cases c2:warm<=s
  ·have t4:decide (s<warm)=false:=by simp;omega
   rw [if_pos ⟨c1,c2⟩] at HD
   have ai:((s:Int)-(warm:Int))=((s-warm:Nat):Int):=by omega
   have af:=hid c1
   clear c1
   go_enter Tryz.func221,Tryz.ntmps221
   go_wp2_with (go_at_call 248;refine (prow_yes n warm _ h1 h2 h3).mono ?_;rintro e w' ⟨rfl,rfl⟩)
   go_loopg [8] (P-1) (fun j v wr=>∃ G out,Own wr 3 v G (out.map i64)/\Hid (out=(s-warm)::List.replicate (P-1-j) s)/\out.length+j=P/\Chg [] w wr/\∀ x∈G,w.heap.size<=x)
   case atStart=>exact ⟨[w.heap.size],[s-warm],by simpa [i64] using Own.one w 3 (.int .i64 ((s-warm:Nat):Int)),hid (by simp),by simp;omega,(zR _ _).alloc _,by simp⟩
   case round =>
    obtain ⟨G,out,aa,Ho,ac,ad,hG⟩:=hrel
    obtain ⟨A,cap,rfl,an,au,-⟩:=aa.open_map
    have HG:=hid hG
    clear hG
    rcases gk with _ | j
    ·have t5:decide (out.length<P)=false:=by simp;omega
     have ae:=hid ac
     clear ac
     go_wp2
     go_ret
     refine ⟨_,G,rfl,?_,ad,HG.out⟩
     rw [HD.out]
     have ho:=Ho.out
     rw [Nat.sub_zero] at ho
     rw [<-ho]
     exact aa
    ·have t5:decide (out.length<P)=true:=by simp;omega
     have ae:=hid ac
     have aj:out.length<=256:=by omega
     clear ac
     go_wp2_with (at_builtin;refine wpList_append_o1 rfl rfl int_elem rfl rfl (aa.alloc _) (.int .i64 s) rfl ?c1 ?c2 ?c3 ?c4 ?_)
     case c1=>simp [go_sem]
     case c2=>rfl
     case c3=>rw [zE];omega
     case c4=>rw [zE];omega
     intro g2 am w2 ak ag
     go_wp2_with fail
     go_roundg j
     case measure=>omega
     case rel =>
      have ac:=ae.out
      refine ⟨[g2],out++[s],?_,hid ?_,by rw [zC,List.length_singleton];omega,(ad.alloc _).trans ag.chg fun x hx => .inr (HG.out x hx),?_⟩
      ·have:=ak.toOwn
       simpa [i64] using this
      ·have aq:1<=out.length:=by rw [Ho.out];simp
       rw [Ho.out]
       have e:P-1-j=P-1-(j+1)+1:=by omega
       rw [e,List.replicate_succ',List.cons_append]
      ·intro y hy
       simp at hy
       subst hy
       rcases ag.new y (by simp) with h5 | h5
       ·exact HG.out y h5
       ·have:=ad.size
        simp at h5
        omega
  ·have t4:decide (s<warm)=true:=by simp;omega
   rw [if_neg (fun h=>c2 h.2)] at HD
   have af:=hid c1
   clear c1
   go_enter Tryz.func221,Tryz.ntmps221
   go_wp2_with (go_at_call 248;refine (prow_yes n warm _ h1 h2 h3).mono ?_;rintro e w' ⟨rfl,rfl⟩)
   go_ret
   refine ⟨_,[],rfl,?_,zR _ _,by simp⟩
   rw [HD.out]
   exact Own.nil _ _
 ·have t3:(((s:Int)*(P:Int)) != (n:Int))=true:=by
   rw [bne_iff_ne]
   intro h
   exact c1 (by exact_mod_cast h)
  rw [if_neg (fun h=>c1 h.1)] at HD
  have af:=hid c1
  clear c1
  go_enter Tryz.func221,Tryz.ntmps221
  go_wp2_with (go_at_call 248;refine (prow_yes n warm _ h1 h2 h3).mono ?_;rintro e w' ⟨rfl,rfl⟩)
  go_ret
  refine ⟨_,[],rfl,?_,zR _ _,by simp⟩
  rw [HD.out]
  exact Own.nil _ _
theorem right_yes (n warm:Nat) (l:List Int) (A:Option Addr) (cap:Nat) (w:World) (h1:1<=n) (h2:n<=4096) (h3:warm<=n) (hl:l.length=n-warm) (hw:∀ x∈l,wideP x) (hc:Cells vi w A l) :
  Calls Tryz.prog 220 #[.int .i64 n,.int .i64 warm,.slice A l.length cap] w fun e w'=>e=.returned (.bool true)/\w=w':=by
 have HW:=hid hw
 clear hw
 obtain ⟨m,hm⟩:=zX (l.length)
 rw [<-hm] at hl ⊢
 have ag:((n:Int)-(warm:Int))=(m:Int):=by omega
 have t1:((m:Int) != (m:Int))=false:=by simp
 have HN:=hid hm
 have HL:=hid hl
 have ak:m<=4096:=by omega
 clear hm hl
 go_enter Tryz.func220,Tryz.ntmps220
 go_wp2_with (go_at_call 248;refine (prow_yes n warm _ h1 h2 h3).mono ?_;rintro e w' ⟨rfl,rfl⟩)
 go_loopg [23] m (fun j i wr=>j<=m/\i=.int .i64 ((m-j:Nat):Int)/\w=wr)
 case atStart=>exact ⟨zQ _,by simp,rfl⟩
 case round =>
  obtain ⟨hj,rfl,rfl⟩:=hrel
  rcases gk with _ | j
  ·have t4:decide (((m-0:Nat):Int)<(m:Int))=false:=by simp
   go_wp2
   go_ret
   exact ⟨rfl,rfl⟩
  ·obtain ⟨i,ad⟩:=zX (m-(j+1))
   rw [<-ad]
   have ah:i<m:=by omega
   have ac:m-j=i+1:=by omega
   have HI:=hid ac
   clear ad ac
   have af:i<l.length:=by rw [<-HN.out];exact ah
   obtain ⟨g,o,rfl,aa⟩:=hc.at_ af
   have ae:wideP l[i]:=HW.out _ (zG _)
   obtain ⟨x,hx⟩:=zX (l[i])
   rw [<-hx] at aa ae
   have ab:w.cell? ⟨g,o+i,none⟩=some (.int .i64 x):=aa
   obtain ⟨aj,ai⟩:=ae
   have t5:decide (x < -1073741824)=false:=zA (by omega)
   have t6:decide ((1073741824:Int)<=x)=false:=zA (by omega)
   clear aa hx af
   go_wp2
   go_roundg j
   case measure=>omega
   case rel =>
    rw [HI.out]
    exact ⟨by omega,by go_num,rfl⟩
theorem raw_ok' (l:List Int) (A:Option Addr) (cap:Nat) (w:World) (hw:∀ x∈l,wideP x) (hc:Cells vi w A l) (hl:l.length<=4194304) :
  Calls Tryz.prog 269 #[.slice A l.length cap] w fun e w'=>e=.returned (.int .i64 (rawCost l))/\w=w':=by
 have ab:=width_ok l A cap w hw hc (by omega)
 have ac:=widthL_le hw
 obtain ⟨s,hs⟩:=zX (widthL l)
 have aa:rawCost l=5+s*l.length:=by unfold rawCost;rw [<-hs]
 rw [<-hs] at ab ac
 have HD:=hid aa
 have hb:s*l.length<=31*4194304:=zL ac hl
 obtain ⟨n,hn⟩:=zX (l.length)
 rw [<-hn] at ab hb HD ⊢
 have ae:(s:Int)*(n:Int)<=130023424:=by
  have:((s*n:Nat):Int)<=130023424:=by omega
  rwa [Int.natCast_mul] at this
 have ad:(0:Int)<=(s:Int)*(n:Int):=Int.mul_nonneg (by omega) (by omega)
 clear aa hs hw hc hn hb
 go_enter Tryz.func269,Tryz.ntmps269
 go_wp2_with (go_at_call 224;refine ab.mono ?_;rintro e w' ⟨rfl,rfl⟩)
 go_ret
 rw [HD.out]
 refine ⟨?_,rfl⟩
 first | rfl | (go_num)
theorem choose_ok (l:List Int) (A:Option Addr) (cap:Nat) (w:World) (hw:∀ x∈l,wideP x) (hc:Cells vi w A l) (hl:l.length<=4194304) :
  Calls Tryz.prog 222 #[.slice A l.length cap] w fun e w'=>e=.returned (.int .i64 (chooseK l))/\w=w':=by
 have h1:=rbest_ok l A cap w hw hc (by omega)
 have h2:=raw_ok' l A cap w hw hc hl
 have h3:=rsum_ok (rbest l) l A cap w (rbest_le l) hw hc (by omega)
 have aa:chooseK l=if rawCost l<rsum (rbest l) l then 31 else rbest l:=rfl
 obtain ⟨s,hs⟩:=zX (rawCost l)
 obtain ⟨b,hb⟩:=zX (rbest l)
 rw [<-hs,<-hb] at aa
 rw [<-hs] at h2
 rw [<-hb] at h1 h3
 obtain ⟨t,ht⟩:=zX (rsum b l)
 rw [<-ht] at aa h3
 have HD:=hid aa
 clear aa hs hb ht hw hc
 by_cases hlt:s<t
 ·have t5:decide (s<t)=true:=by simpa using hlt
  rw [if_pos hlt] at HD
  go_enter Tryz.func222,Tryz.ntmps222
  go_wp2_with (first | (go_at_call 184;refine h1.mono ?_;rintro e w' ⟨rfl,rfl⟩) | (go_at_call 269;refine h2.mono ?_;rintro e w' ⟨rfl,rfl⟩) | (go_at_call 234;refine h3.mono ?_;rintro e w' ⟨rfl,rfl⟩))
  go_ret
  rw [HD.out]
  exact ⟨rfl,rfl⟩
 ·have t5:decide (s<t)=false:=by simpa using hlt
  rw [if_neg hlt] at HD
  go_enter Tryz.func222,Tryz.ntmps222
  go_wp2_with (first | (go_at_call 184;refine h1.mono ?_;rintro e w' ⟨rfl,rfl⟩) | (go_at_call 269;refine h2.mono ?_;rintro e w' ⟨rfl,rfl⟩) | (go_at_call 234;refine h3.mono ?_;rintro e w' ⟨rfl,rfl⟩))
  go_ret
  rw [HD.out]
  exact ⟨rfl,rfl⟩
theorem Cells.i64_at {w:World} {A:Option Addr} {l:List Nat} (h:Cells i64 w A l) {m:Nat} (hm:m<l.length) :
  ∃ b o,A=some ⟨b,o,none⟩/\w.cell? ⟨b,o+m,none⟩=some (.int .i64 (l[m]:Nat)):=h.at_ hm
def KsOk (ks:List Nat):Prop:=∀ k∈ks,k<=25\/k=31
theorem pmay_yes (o n warm:Nat) (ks:List Nat) (A:Option Addr) (cap:Nat) (w:World) (ho:o<=8) (h1:1<=n) (h2:n<=4096) (h3:warm<=n) (hne:sizesL o n warm≠[]) (hlen:ks.length=(sizesL o n warm).length) (hks:KsOk ks) (hc:Cells i64 w A ks) :
  Calls Tryz.prog 270 #[.agg #[.int .i64 o,.slice A ks.length cap],.int .i64 n,.int .i64 warm] w fun e w'=>e=.returned (.bool true)/\Chg [] w w':=by
 have al:=sizesL_len hne
 have ao:2^o<=256:=Nat.pow_le_pow_right (n:=2) (j:=8) (by decide) ho
 have au:=Nat.two_pow_pos o
 obtain ⟨N,hN⟩:=zX (ks.length)
 have aj:N=(sizesL o n warm).length:=by rw [hN,hlen]
 have az:1<=N:=by omega
 have ax:N<=256:=by omega
 rw [<-hN]
 have ap:=hid hks
 have HN:=hid hN
 have am:=hid aj
 clear al ao au hN aj hlen hks hne
 go_enter Tryz.func270,Tryz.ntmps270
 go_wp2_with fail
 refine (sizes_ok o n warm _ ho h1 h2 h3).mono ?_
 rintro e w1 ⟨v,G,rfl,ac,ae,hG⟩
 obtain ⟨A2,aw,rfl,av,an,-⟩:=ac.open_map
 rw [<-am.out]
 have ai:=(Blk.new w 198 #[.int .i64 o,.slice A N cap]).chg ae (by simp)
 have ak:=ai.cell 1
 simp at ak
 have ab:Chg [] w w1:=((zR [] w).alloc _).trans_same ae
 have ar:=hc.same ab
 have t1:((N:Int)==0)=false:=by rw [beq_eq_false_iff_ne];omega
 have t2:((N:Int) != (N:Int))=false:=by simp
 clear ae ai ac hc
 go_wp2_with fail
 go_loopg [29] N (fun j i wr=>j<=N/\i=.int .i64 ((N-j:Nat):Int)/\w1=wr)
 case atStart=>exact ⟨zQ _,by simp,rfl⟩
 case round =>
  obtain ⟨hj,rfl,rfl⟩:=hrel
  rcases gk with _ | j
  ·have t4:decide (((N-0:Nat):Int)<(N:Int))=false:=by simp
   go_wp2
   go_ret
   exact ⟨rfl,ab⟩
  ·obtain ⟨i,ah⟩:=zX (N-(j+1))
   rw [<-ah]
   have aq:i<N:=by omega
   have ag:N-j=i+1:=by omega
   have HI:=hid ag
   clear ah ag
   have ad:i<ks.length:=by rw [<-HN.out];exact aq
   obtain ⟨g,ay,rfl,aa⟩:=ar.i64_at ad
   have hk:=ap.out _ (zG ad)
   obtain ⟨k,af⟩:=zX (ks[i])
   rw [<-af] at aa hk
   have t5:decide ((k:Int)<0)=false:=by simp
   clear af ad
   rcases hk with hk | rfl
   ·have t6:decide ((25:Int)<(k:Int))=false:=by simp;omega
    go_wp2
    go_roundg j
    case measure=>omega
    case rel =>
     rw [HI.out]
     exact ⟨by omega,by go_num,rfl⟩
   ·go_wp2
    go_roundg j
    case measure=>omega
    case rel =>
     rw [HI.out]
     exact ⟨by omega,by go_num,rfl⟩
theorem costP_take {ks:List Nat} {ps:List (List Int)} {i k:Nat} {p:List Int} (hk:ks[i]?=some k) (hp:ps[i]?=some p) :
  costP (ks.take (i+1)) (ps.take (i+1))=costP (ks.take i) (ps.take i)+partCost k p:=by
 have ab:=(List.getElem?_eq_some_iff.1 hk).1
 have aa:=(List.getElem?_eq_some_iff.1 hp).1
 have ek:=(List.getElem?_eq_some_iff.1 hk).2
 have ep:=(List.getElem?_eq_some_iff.1 hp).2
 unfold costP
 rw [List.take_succ_eq_append_getElem ab,List.take_succ_eq_append_getElem aa,List.zip_append (by simp;omega),zM,List.sum_append,ek,ep]
 simp
 omega
theorem partCost_le {k:Nat} {p:List Int} (hk:k<=25\/k=31) (hw:∀ x∈p,wideP x):partCost k p<=10+65*p.length:=by
 unfold partCost rawCost
 split
 ·have:=Nat.mul_le_mul_right p.length (widthL_le hw)
  omega
 ·have:=rsum_le k p (by omega)
  omega
theorem size_int (w:World):(sizeOf 3).run Tryz.prog w=.ok 1 w:=by
 exact Tryz.sizeOf3 w
theorem drop_startOf {α:Type} (l:List α) (ss:List Nat) (i:Nat) (h:i<ss.length):(l.drop (startOf ss i)).drop ss[i]=l.drop (startOf ss (i+1)):=by
 rw [List.drop_drop,startOf_succ ss i h]
theorem pcost_ok (o n warm:Nat) (ks:List Nat) (A:Option Addr) (cap:Nat) (l:List Int) (Al:Option Addr) (capl:Nat) (w:World) (ho:o<=8) (h1:1<=n) (h2:n<=4096) (h3:warm<=n) (hne:sizesL o n warm≠[]) (hlen:ks.length=(sizesL o n warm).length) (hks:KsOk ks) (hc:Cells i64 w A ks)
  (hll:l.length=n-warm) (hw:∀ x∈l,wideP x) (hcl:Cells vi w Al l) (hcap1:l.length<=capl) (hcap2:capl<=9223372036854775807) :
  Calls Tryz.prog 223 #[.agg #[.int .i64 o,.slice A ks.length cap],.int .i64 n,.int .i64 warm,.slice Al l.length capl] w fun e w'=>e=.returned (.int .i64 (costP ks (splitL (sizesL o n warm) l)))/\Chg [] w w':=by
 have aP:=sizesL_sum hne
 have am:=sizesL_len hne
 have bk:2^o<=256:=Nat.pow_le_pow_right (n:=2) (j:=8) (by decide) ho
 obtain ⟨ss,aB⟩:=zX (sizesL o n warm)
 obtain ⟨N,hN⟩:=zX (ks.length)
 obtain ⟨L,hL⟩:=zX (l.length)
 have au:=fun w hc=>pmay_yes o n warm ks A cap w ho h1 h2 h3 hne hlen hks hc
 have ab:=fun w hc=>right_yes n warm l Al capl w h1 h2 h3 hll hw hc
 have ad:=fun w=>sizes_ok o n warm w ho h1 h2 h3
 rw [<-aB] at hlen aP am ad ⊢
 rw [<-hN] at au hlen ⊢
 rw [<-hL] at ab hll hcap1 ⊢
 have aR:=hid au
 have av:=hid ab
 have aw:=hid ad
 have bi:=hid hks
 have HW:=hid hw
 have HN:=hid hN
 have HL:=hid hL
 have aW:=hid hlen
 have bf:=hid aP
 have bb:=hid hll
 have a4:N<=256:=by omega
 have bd:L<=4096:=by omega
 clear au ab ad hks hw hN hL hlen aP am bk aB hll hne
 go_enter Tryz.func223,Tryz.ntmps223
 go_wp2_with fail
 refine (aR.out _ (hc.same ((zR [] w).alloc _))).mono ?_
 rintro e w1 ⟨rfl,aQ⟩
 have aD:Chg [] w w1:=((zR [] w).alloc _).trans_same aQ
 have aU:=(Blk.new w 198 #[.int .i64 o,.slice A N cap]).chg aQ (by simp)
 have a7:=aU.cell 0
 simp at a7
 go_wp2_with fail
 refine (av.out _ (hcl.same aD)).mono ?_
 rintro e bp ⟨rfl,rfl⟩
 go_wp2_with fail
 refine (aw.out _).mono ?_
 rintro e w2 ⟨v,G,rfl,aH,aS,hG⟩
 obtain ⟨A2,bn,rfl,aX,bj,al⟩:=aH.open_map
 have ar:Chg [] w w2:=aD.trans_same aS
 have aG:=aU.chg aS (by simp)
 have bc:=aG.cell 1
 simp at bc
 have bh:=hc.same ar
 have be:=hcl.same ar
 have ah:=aW.out
 rw [<-ah]
 clear aU aG a7 aQ aS aH hc hcl hG
 have an:=hid ah
 clear ah
 have aO:=hid hcap2
 clear aX hcap2
 go_wp2_with fail
 go_loopg [3,9,31] N (fun j lv cv i wr=>j<=N/\i=.int .i64 ((N-j:Nat):Int)/\w2=wr/\cv=.int .i64 ((costP (ks.take (N-j)) ((splitL ss l).take (N-j)):Nat):Int)/\costP (ks.take (N-j)) ((splitL ss l).take (N-j))<=4+(N-j)*300000 /\
   ∃ A' c' rest,lv=.slice A' rest.length c'/\Hid (rest=l.drop (startOf ss (N-j)))/\Cells vi w2 A' rest/\rest.length<=c'/\c'<=9223372036854775807/\rest.length<=4096)
 case atStart =>
  refine ⟨zQ _,by simp,rfl,by simp [costP],by simp [costP],Al,capl,l,?_,hid (by simp [startOf]),be,?_,aO.out,?_⟩
  ·rw [<-HL.out]
  ·rw [<-HL.out];exact hcap1
  ·rw [<-HL.out];exact bd
 case round =>
  obtain ⟨hj,rfl,rfl,rfl,aN,A',c',rest,rfl,ae,aL,ba,bu,bs⟩:=hrel
  rcases gk with _ | j
  ·have t4:decide (((N-0:Nat):Int)<(N:Int))=false:=by simp
   have e1:ks.take N=ks:=by rw [HN.out,zN]
   have e2:(splitL ss l).take N=splitL ss l:=by rw [an.out,<-splitL_len ss l,zN]
   rw [Nat.sub_zero,e1,e2]
   go_wp2
   go_ret
   exact ⟨rfl,ar⟩
  ·obtain ⟨i,a3⟩:=zX (N-(j+1))
   rw [<-a3] at aN ae ⊢
   have a8:i<N:=by omega
   have a5:N-j=i+1:=by omega
   have HI:=hid a5
   clear a3 a5
   have aJ:i<ks.length:=by rw [<-HN.out];exact a8
   have aF:i<ss.length:=by rw [<-an.out];exact a8
   obtain ⟨bq,br,rfl,ay⟩:=bh.i64_at aJ
   obtain ⟨bv,bo,rfl,ax⟩:=al.i64_at aF
   have hk:=bi.out _ (zG aJ)
   have aq:=splitL_get ss l i aF
   have aj:=costP_take (ks:=ks) (ps:=splitL ss l) (i:=i) (zF aJ) aq
   have aC:=startOf_fit ss i aF
   have aK:=drop_startOf l ss i aF
   rw [<-ae.out] at aq aj aK
   obtain ⟨k,aZ⟩:=zX (ks[i])
   obtain ⟨s,hs⟩:=zX (ss[i])
   rw [<-aZ] at ay hk aj
   rw [<-hs] at ax aj aC aK
   have bl:s<=rest.length:=by
    have:=bf.out
    have:=bb.out
    have:=HL.out
    rw [ae.out,zO]
    omega
   have aM:∀ x∈rest.take s,wideP x:=fun x hx=>HW.out x (by
    have:=List.mem_of_mem_take hx
    rw [ae.out] at this
    exact List.mem_of_mem_drop this)
   have aI:(rest.take s).length=s:=by rw [zI];omega
   have aA:=partCost_le hk aM
   rw [aI] at aA
   have ag:=raw_ok' (rest.take s) A' c' w2 aM (aL.take s) (by omega)
   have af:=fun (hk:k<=25)=>rsum_ok k (rest.take s) A' c' w2 hk aM (aL.take s) (by omega)
   rw [aI] at ag af
   obtain ⟨A3,a2,bm,aE⟩:=slice_from (P:=Tryz.prog) Tryz.underlying22 size_int A' rest.length c' s bl ba
   have az:=aE Int vi w2 rest rfl aL
   have HS:=hid af
   have ak:=hid aj
   have aT:Hid (rest.drop s=l.drop (startOf ss (i+1))):=hid aK
   have a6:rest.length-s=(rest.drop s).length:=by rw [zO]
   rw [a6] at a2
   have aV:(rest.drop s).length<=4096:=by rw [zO];omega
   have aY:(rest.drop s).length<=c'-s:=by rw [zO];omega
   obtain ⟨ap,ai⟩:=zX (rest.drop s)
   rw [<-ai] at a2 aV aY az aT
   have bg:s<=c':=by omega
   have bw:=hid aI
   obtain ⟨part,ao⟩:=zX (rest.take s)
   rw [<-ao] at ag ak aA HS
   clear aj aq aK aZ hs aM bm aE af aC a6 ai aI ao aL aJ aF
   obtain ⟨c0,a1⟩:=zX (costP (ks.take i) ((splitL ss l).take i))
   rw [<-a1] at ak aN ⊢
   have a9:c0<=76800004:=by omega
   have a0:=hid aN
   clear a1 aN
   have aa:∀ q,q=partCost k part->Hid (costP (ks.take (i+1)) ((splitL ss l).take (i+1))=c0+q):=fun q hq=>hid (by rw [ak.out,hq])
   by_cases hk31:k=31
   ·have t6:((k:Int)==31)=true:=by rw [beq_iff_eq];omega
    have ac:partCost k part=5+rawCost part:=by unfold partCost;rw [if_pos hk31]
    rw [ac] at aA
    have HF:=aa _ ac.symm
    obtain ⟨q,hq⟩:=zX (rawCost part)
    rw [<-hq] at ag aA HF
    clear hk ac hk31 hq aa ak HS
    go_wp2_with (go_at_call 269;refine ag.mono ?_;rintro e w' ⟨rfl,rfl⟩)
    go_roundg j
    case measure=>omega
    case rel =>
     rw [HI.out,HF.out]
     refine ⟨by omega,by go_num,rfl,by go_num,?_,A3,_,ap,rfl,aT,az,aY,by omega,aV⟩
     have:=a0.out
     rw [Nat.add_mul]
     omega
   ·have t6:((k:Int)==31)=false:=by rw [beq_eq_false_iff_ne];omega
    have ac:partCost k part=5+rsum k part:=by unfold partCost;rw [if_neg hk31]
    rw [ac] at aA
    have HF:=aa _ ac.symm
    have af:=HS.out (by omega)
    obtain ⟨q,hq⟩:=zX (rsum k part)
    rw [<-hq] at af aA HF
    clear hk ac hk31 hq aa ak HS ag
    go_wp2_with (go_at_call 234;refine af.mono ?_;rintro e w' ⟨rfl,rfl⟩)
    go_roundg j
    case measure=>omega
    case rel =>
     rw [HI.out,HF.out]
     refine ⟨by omega,by go_num,rfl,by go_num,?_,A3,_,ap,rfl,aT,az,aY,by omega,aV⟩
     have:=a0.out
     rw [Nat.add_mul]
     omega
theorem bitsP_take {o:Nat} {ks:List Nat} {ps:List (List Int)} {i k:Nat} {p:List Int} (hk:ks[i]?=some k) (hp:ps[i]?=some p) :
  bitsP o (ks.take (i+1)) (ps.take (i+1))=bitsP o (ks.take i) (ps.take i)++partBits k p:=by
 have ab:=(List.getElem?_eq_some_iff.1 hk).1
 have aa:=(List.getElem?_eq_some_iff.1 hp).1
 have ek:=(List.getElem?_eq_some_iff.1 hk).2
 have ep:=(List.getElem?_eq_some_iff.1 hp).2
 unfold bitsP
 rw [List.take_succ_eq_append_getElem ab,List.take_succ_eq_append_getElem aa,List.zip_append (by simp;omega),List.flatMap_append,ek,ep]
 simp
theorem flat_snoc (n:Nat) (l:List Int) (x:Int):(l++[x]).flatMap (fun x=>bitsOf (modN x n) n)=l.flatMap (fun x=>bitsOf (modN x n) n)++bitsOf (modN x n) n:=by simp
theorem and_mod (x:Int) {n:Nat} (hn:n<=31):bits .and .u64 (x%18446744073709551616) (2^n-1)=((modN x n:Nat):Int):=by
 have h0:0<=x%18446744073709551616:=Int.emod_nonneg _ (by decide)
 have h1:x%18446744073709551616<18446744073709551616:=Int.emod_lt_of_pos _ (by decide)
 rw [band_mask_u h0 h1 (by omega),modN_cast]
 have aa:((2:Int)^n)∣18446744073709551616:=by
  have:(18446744073709551616:Int)=2^n*2^(64-n):=by
   rw [<-Int.pow_add]
   have:n+(64-n)=64:=by omega
   rw [this];rfl
  rw [this]
  exact Int.dvd_mul_right _ _
 exact Int.emod_emod_of_dvd x aa
theorem pput_ok (w:World) (b:Nat) (F bs:List Nat) (o n warm:Nat) (ks:List Nat) (A:Option Addr) (cap:Nat) (l:List Int) (Al:Option Addr) (capl:Nat) (h:IsWr w b F bs) (ho:o<=8) (h1:1<=n) (h2:n<=4096) (h3:warm<=n) (hne:sizesL o n warm≠[]) (hlen:ks.length=(sizesL o n warm).length) (hks:KsOk ks) (hc:Cells i64 w A ks)
  (hll:l.length=n-warm) (hw:∀ x∈l,wideP x) (hcl:Cells vi w Al l) (hcap1:l.length<=capl) (hcap2:capl<=9223372036854775807) (hA:Apt A ks F) (hAl:Apt Al l F) (hbs:bs.length<137438953472) :
  Calls Tryz.prog 173 #[.pointer (some ⟨b,0,none⟩),.agg #[.int .i64 o,.slice A ks.length cap],.int .i64 n,.int .i64 warm,.slice Al l.length capl] w fun e w'=>e=.returned (.int .i64 0)/\∃ F',IsWr w' b F' (bs++bitsP o ks (splitL (sizesL o n warm) l))/\Grow F F' w w':=by
 have bv:=sizesL_sum hne
 have az:=sizesL_len hne
 have cD:2^o<=256:=Nat.pow_le_pow_right (n:=2) (j:=8) (by decide) ho
 have ac:=fun w hc hcl=>pcost_ok o n warm ks A cap l Al capl w ho h1 h2 h3 hne hlen hks hc hll hw hcl hcap1 hcap2
 obtain ⟨ss,a5⟩:=zX (sizesL o n warm)
 obtain ⟨N,hN⟩:=zX (ks.length)
 obtain ⟨L,hL⟩:=zX (l.length)
 have ad:=fun w=>sizes_ok o n warm w ho h1 h2 h3
 have b3:=costP_pos ks (splitL (sizesL o n warm) l)
 rw [<-a5] at hlen bv az ad ac b3 ⊢
 obtain ⟨CC,bY⟩:=zX (costP ks (splitL ss l))
 rw [<-bY] at ac b3
 rw [<-hN] at ac hlen ⊢
 rw [<-hL] at ac hll hcap1 ⊢
 have bg:=hid ac
 have aL:=hid ad
 have cy:=hid hks
 have HW:=hid hw
 have HN:=hid hN
 have HL:=hid hL
 have bK:=hid hlen
 have cu:=hid bv
 have co:=hid hll
 have HA:=hid hA
 have bM:=hid hAl
 have HF:=hid h.lt
 have ca:N<=256:=by omega
 have cr:L<=4096:=by omega
 have t0:((CC:Int)==0)=false:=by rw [beq_eq_false_iff_ne];omega
 clear ac ad hks hw hN hL hlen bv az cD a5 hll hne bY hA hAl
 go_enter Tryz.func173,Tryz.ntmps173
 go_wp2_with fail
 have bi:Chg [] w (w.alloc (.cells #[.int .i64 o,.slice A N cap] 198)):=(zR [] w).alloc _
 refine (bg.out _ (hc.same bi) (hcl.same bi)).mono ?_
 rintro e w1 ⟨rfl,bA⟩
 have bn:=(Blk.new w 198 #[.int .i64 o,.slice A N cap]).chg bA (by simp)
 have ah:Chg [] w w1:=bi.trans_same bA
 have a4:=bn.lt
 have aY:=bn.cell 0
 simp at aY
 have a1:=h.same ah
 clear bA bi
 go_wp2_with fail
 refine (wput_ok _ b F bs o 4 a1 (by omega) (by omega) (by omega)).mono ?_
 rintro e cO ⟨rfl,F1,am,ao⟩
 have b0:w.heap.size∉F:=fun hm=>by have:=HF.out _ hm;omega
 have aE:=bn.chg ao.chg b0
 have bf:=aE.cell 0
 simp at bf
 clear aY bn
 go_wp2_with fail
 refine (aL.out _).mono ?_
 rintro e w2 ⟨v,G,rfl,ay,ba,hG⟩
 obtain ⟨A2,cF,rfl,bT,cB,-⟩:=ay.open_map
 have aW:Grow F F1 w1 w2:=ao.same ba
 have aM:=aE.chg ba (by simp)
 have aT:=hc.same ah
 have aV:=hcl.same ah
 have bP:=aT.keep HA.out aW.chg
 have cs:=aV.keep bM.out aW.chg
 have bq:=am.same ba
 have cJ:=ah.size
 have ck:=ao.size
 have cH:=ba.size
 have cb:∀ x∈G,x∉F1:=fun x hx hm=>by
  have h5:=hG x hx
  have h6:=am.lt x hm
  omega
 have bW:w.heap.size∉F1:=ao.out a4 b0
 have bw:=hid (HA.out.grow aT aW)
 have bN:=hid (bM.out.grow aV aW)
 have cm:Hid (Apt A2 ss F1):=hid (ay.apt cb)
 have ct:Cells i64 w2 A2 ss:=ay.cells
 have bU:Grow F F1 w w2:=Grow.pre ah aW
 have cn:bs.length+4<=137438953476:=by omega
 have aj:=bK.out
 rw [<-aj]
 have aA:=hid aj
 clear aj aE bf hc hcl hG ao ba am a1 aW ah aT aV ay HA bM a4 cb
 have bu:=hid hcap2
 clear bT hcap2
 go_wp2_with fail
 go_loopg [4,34] N (fun j lv i wr=>j<=N/\i=.int .i64 ((N-j:Nat):Int) /\
   ∃ A' c' rest F' ap,lv=.slice A' rest.length c'/\Hid (rest=l.drop (startOf ss (N-j)))/\Hid (Apt A' rest F1)/\Cells vi w2 A' rest/\rest.length<=c'/\c'<=9223372036854775807/\rest.length<=4096 /\
    IsWr wr b F' ap/\Hid (ap=bs++bitsP o (ks.take (N-j)) ((splitL ss l).take (N-j)))/\ap.length<=bs.length+4+(N-j)*300000/\Grow F1 F' w2 wr)
 case atStart =>
  refine ⟨zQ _,by simp,Al,capl,l,F1,bs++bitsOf o 4,?_,hid (by simp [startOf]),bN,cs,?_,bu.out,?_,bq,hid (by simp [bitsP]),by simp [bitsOf_len],Grow.refl _ _⟩
  ·rw [<-HL.out]
  ·rw [<-HL.out];exact hcap1
  ·rw [<-HL.out];exact cr
 case round =>
  obtain ⟨hj,rfl,A',c',rest,F',ap,rfl,af,cf,bB,cj,cP,cM,b9,bb,bF,aQ⟩:=hrel
  have a0:=aM.chg aQ.chg bW
  have aY:=a0.cell 1
  simp at aY
  clear a0
  rcases gk with _ | j
  ·have t4:decide (((N-0:Nat):Int)<(N:Int))=false:=by simp
   have e1:ks.take N=ks:=by rw [HN.out,zN]
   have e2:(splitL ss l).take N=splitL ss l:=by rw [aA.out,<-splitL_len ss l,zN]
   rw [Nat.sub_zero,e1,e2] at bb
   go_wp2
   go_ret
   refine ⟨rfl,F',?_,bU.trans aQ⟩
   rw [<-bb.out]
   exact b9
  ·obtain ⟨i,b6⟩:=zX (N-(j+1))
   rw [<-b6] at bF bb af ⊢
   have ch:i<N:=by omega
   have cc:N-j=i+1:=by omega
   have HI:=hid cc
   clear b6 cc
   have bj:i<ks.length:=by rw [<-HN.out];exact ch
   have bc:i<ss.length:=by rw [<-aA.out];exact ch
   obtain ⟨cI,cK,rfl,aS⟩:=(bP.keep bw.out aQ.chg).i64_at bj
   obtain ⟨cQ,cG,rfl,aP⟩:=(ct.keep cm.out aQ.chg).i64_at bc
   have hk:=cy.out _ (zG bj)
   have aD:=splitL_get ss l i bc
   have a7:=startOf_fit ss i bc
   have bk:=drop_startOf l ss i bc
   rw [<-af.out] at aD bk
   have au:=bitsP_take (o:=o) (ks:=ks) (ps:=splitL ss l) (i:=i) (zF bj) aD
   obtain ⟨k,br⟩:=zX (ks[i])
   obtain ⟨s,hs⟩:=zX (ss[i])
   rw [<-br] at aS hk au
   rw [<-hs] at aP au a7 bk
   have cE:s<=rest.length:=by
    have:=cu.out
    have:=co.out
    have:=HL.out
    rw [af.out,zO]
    omega
   have bl:∀ x∈rest.take s,wideP x:=fun x hx=>HW.out x (by
    have:=List.mem_of_mem_take hx
    rw [af.out] at this
    exact List.mem_of_mem_drop this)
   have bh:(rest.take s).length=s:=by rw [zI];omega
   have bm:=partCost_le hk bl
   have aO:=partBits_len k (rest.take s)
   rw [bh] at bm
   obtain ⟨A3,b2,ci,a9⟩:=slice_from (P:=Tryz.prog) Tryz.underlying22 size_int A' rest.length c' s cE cj
   have aU:=a9 Int vi w2 rest rfl bB
   have aN:Apt A3 (rest.drop s) F1:=cf.out.to (by rw [zO];omega) ci
   have bD:bs++bitsP o (ks.take (i+1)) ((splitL ss l).take (i+1))=ap++partBits k (rest.take s):=by rw [au,bb.out,zH]
   have bG:Hid (rest.drop s=l.drop (startOf ss (i+1))):=hid bk
   have cg:rest.length-s=(rest.drop s).length:=by rw [zO]
   rw [cg] at b2
   have bI:(rest.drop s).length<=4096:=by rw [zO];omega
   have bV:(rest.drop s).length<=c'-s:=by rw [zO];omega
   have aZ:=bB.take s
   have ar:Apt A' (rest.take s) F1:=cf.out.of (by rw [zI];omega)
   obtain ⟨aC,ak⟩:=zX (rest.drop s)
   rw [<-ak] at b2 bI bV aU bG aN
   have cv:s<=c':=by omega
   obtain ⟨part,aB⟩:=zX (rest.take s)
   rw [<-aB] at bm bD aZ bh bl aO ar
   have ce:=hid bD
   have a2:=hid aN
   have aw:=hid ar
   have bH:=hid bl
   have cw:=aZ.keep (ar) aQ.chg
   have b1:=hid aO
   have aX:=hid bh
   have b5:=hid bj
   have b7:=hid br
   have a3:=hid bm
   have cl:s<=4096:=by omega
   have av:k<=31:=by omega
   have HK:=hid hk
   have b4:=hid bF
   have cC:ap.length<=137515753476:=by omega
   clear au aD bk br hs ci a9 a7 cg ak aB bB bc bD aN ar bl aO hk bF bb bh bm
   have ag:=wput_ok wr b F' ap k 5 b9 (by omega) (by omega) (by omega)
   by_cases av:k=31
   ·have t6:((k:Int) != 31)=false:=by rw [bne_eq_false_iff_eq];omega
    have ai:partBits k part=bitsOf k 5++(bitsOf (widthL part) 5++part.flatMap (fun x=>bitsOf (modN x (widthL part)) (widthL part))):=by unfold partBits;rw [if_pos av]
    have bp:=hid ai
    clear ai av
    go_wp2_with fail
    refine ag.mono ?_
    rintro e w3 ⟨rfl,F3,aR,bx⟩
    have ab:=aQ.trans bx
    have al:=aM.chg ab.chg bW
    have a6:=al.cell 1
    simp at a6
    obtain ⟨_,_,e4,aa⟩:=(bP.keep bw.out ab.chg).i64_at b5.out
    injection e4 with e4
    injection e4 with e4 e5 _
    subst e4
    subst e5
    rw [<-b7.out] at aa
    have an:=aZ.keep aw.out ab.chg
    have aG:=width_ok part A' c' w3 bH.out an (by rw [aX.out];omega)
    have ax:=widthL_le bH.out
    rw [aX.out] at aG
    obtain ⟨W,hW⟩:=zX (widthL part)
    rw [<-hW] at aG ax bp
    have cN:=hid hW
    clear al aY ag hW
    go_wp2_with (go_at_call 224;refine aG.mono ?_;rintro e w' ⟨rfl,rfl⟩)
    refine (wput_ok w3 b F3 _ W 5 aR (by omega) (by omega) (by rw [zC,bitsOf_len];omega)).mono ?_
    rintro e w4 ⟨rfl,F4,aq,bO⟩
    have aJ:=ab.trans bO
    have cL:(2:Int)^W<=2147483648:=pow_half_mono (n:=31) ax
    have cp:=two_pow_pos' W
    clear a6 aa an
    go_wp2_with fail
    go_loopg [75] s (fun q iv wx=>q<=s/\iv=.int .i64 ((s-q:Nat):Int)/\∃ F5 aH,IsWr wx b F5 aH/\Hid (aH=(ap++bitsOf k 5++bitsOf W 5)++(part.take (s-q)).flatMap (fun x=>bitsOf (modN x W) W))/\aH.length<=ap.length+10+W*(s-q)/\Grow F1 F5 w2 wx)
    case atStart=>exact ⟨zQ _,by simp,F4,_,aq,hid (by simp),by simp [bitsOf_len],aJ⟩
    case round =>
     obtain ⟨hq,rfl,F5,aH,a8,aI,aK,aF⟩:=hrel
     rcases gk with _ | q
     ·have t7:decide (((s-0:Nat):Int)<(s:Int))=false:=by simp
      go_wp2
      go_roundg j
      case measure=>omega
      case rel =>
       rw [HI.out]
       have e7:part.take (s-0)=part:=by rw [Nat.sub_zero,<-aX.out,zN]
       have bS:=aI.out
       rw [e7,zH,zH,<-bp.out] at bS
       refine ⟨by omega,by go_num,A3,_,aC,F5,aH,rfl,bG,a2,aU,bV,by omega,bI,a8,hid (by rw [bS,ce.out]),?_,aF⟩
       have e8:=b1.out
       have e9:=b4.out
       rw [bS,zC,e8,Nat.add_mul]
       have:=a3.out
       omega
     ·obtain ⟨m,bZ⟩:=zX (s-(q+1))
      rw [<-bZ] at aI aK ⊢
      have cz:m<s:=by omega
      have cd:s-q=m+1:=by omega
      have HM:=hid cd
      clear bZ cd
      have bL:m<part.length:=by rw [aX.out];exact cz
      obtain ⟨g8,o8,rfl,ae⟩:=(aZ.keep aw.out aF.chg).at_ bL
      have bo:=flat_snoc W (part.take m) part[m]
      rw [<-take_snoc' part bL] at bo
      obtain ⟨x,hx⟩:=zX (part[m])
      rw [<-hx] at ae bo
      have bJ:wr.cell? ⟨g8,o8+m,none⟩=some (.int .i64 x):=ae
      have bd:bits BinOp.and IntKind.u64 (IntKind.u64.wrap x) (2^W-1)=((modN x W:Nat):Int):=by rw [IntKind.wrap_u64];exact and_mod x ax
      have bQ:=hid bd
      clear bd
      have be:=modN_lt x W
      have cq:=hid bo
      have bR:=hid be
      have cA:aH.length<=137520000000:=by
       have:W*m<=31*4096:=zL ax (by omega)
       omega
      have bz:=hid aK
      clear ae hx bL bo be aK
      go_wp2_with fail
      rw [bQ.out]
      refine (wput_ok wr b F5 aH (modN x W) W a8 (by omega) bR.out (by omega)).mono ?_
      rintro e w6 ⟨rfl,F6,bE,cx⟩
      go_wp2_with fail
      go_roundg q
      case measure=>omega
      case rel =>
       rw [HM.out]
       refine ⟨by omega,by go_num,F6,_,bE,hid ?_,?_,aF.trans cx⟩
       ·rw [cq.out,aI.out,zH]
       ·have e9:=bz.out
        rw [zC,bitsOf_len,Nat.mul_add]
        omega
   ·have t6:((k:Int) != 31)=true:=by rw [bne_iff_ne];omega
    have ai:partBits k part=bitsOf k 5++rbitsAll k part:=by unfold partBits;rw [if_neg av]
    have bp:=hid ai
    have bC:k<=25:=by have:=HK.out;omega
    clear ai
    go_wp2_with fail
    refine ag.mono ?_
    rintro e w3 ⟨rfl,F3,aR,bx⟩
    have ab:=aQ.trans bx
    have al:=aM.chg ab.chg bW
    have a6:=al.cell 1
    simp at a6
    obtain ⟨_,_,e4,aa⟩:=(bP.keep bw.out ab.chg).i64_at b5.out
    injection e4 with e4
    injection e4 with e4 e5 _
    subst e4
    subst e5
    rw [<-b7.out] at aa
    have an:=aZ.keep aw.out ab.chg
    have bX:=rput_ok w3 b F3 (ap++bitsOf k 5) k part A' c' aR bC bH.out an (aw.out.grow aZ ab) (by rw [zC,bitsOf_len,aX.out];omega)
    rw [aX.out] at bX
    clear al aY ag
    go_wp2_with fail
    refine bX.mono ?_
    rintro e w4 ⟨rfl,F4,aq,bO⟩
    have aJ:=ab.trans bO
    clear a6 aa an bX
    go_wp2_with fail
    go_roundg j
    case measure=>omega
    case rel =>
     rw [HI.out]
     rw [zH,<-bp.out] at aq
     refine ⟨by omega,by go_num,A3,_,aC,F4,_,rfl,bG,a2,aU,bV,by omega,bI,aq,hid ce.out.symm,?_,aJ⟩
     have e8:=b1.out
     have e9:=b4.out
     rw [zC,e8,Nat.add_mul]
     have:=a3.out
     omega
theorem adapt_any (o bit:Nat) (w:World) (h2:o<=4096) (hbit:bit=0\/bit=1) :
  Calls Tryz.prog 274 #[.int .i64 o,.int .i64 bit] w fun e w'=>e=.returned (.int .i64 (adaptN o bit:Nat))/\w'=w:=by
 rcases hbit with rfl | rfl
 all_goals
  go_enter Tryz.func274,Tryz.ntmps274
  go_wp2
  go_ret
  exact ⟨by unfold adaptN;simp;go_num,rfl⟩
theorem grow_any (w:World) (b g:Nat) (v odds:Value) (W:Int) (ds:List Nat) (n0:Nat)
  (hb:Blk w b 264 #[v,.int .u64 W,odds]) (hr:Row w 5 v g (ds.map b8)) (hd:∀ d∈ds,d<256) (hn:n0<9223372036854775808) :
  Calls Tryz.prog 287 #[.pointer (some ⟨b,0,none⟩),.int .u64 n0] w fun e w'=>e=.returned (.tuple #[])/\Row w' 5 v g ((growL ds n0).map b8)/\Chg [g] w w':=by
 obtain ⟨cap,rfl,al,aq,-,-⟩:=hr.open_map
 have ah:=hr.ne_ hb (by decide)
 have HD:=hid hd
 clear hd
 have af:=hb.cell 0
 simp at af
 go_enter Tryz.func287,Tryz.ntmps287
 go_wp2
 go_loopw [1,4] (fun n i wr=>∃ (l t:List Nat) (c:Nat) (j:Int),i=.int .i64 j/\n=.int .u64 c/\j=(l.length:Int)-1/\c<9223372036854775808/\l.length+t.length=ds.length /\
   growL ds n0=growL l c++t/\(∀ d∈l,d<256)/\Row wr 5 (.slice (some ⟨g,0,none⟩) ds.length cap) g ((l++t).map b8)/\Chg [g] w wr)
  (fun n i _=>(intOf i+1).toNat)
 case atStart=>exact ⟨ds,[],n0,_,rfl,rfl,rfl,hn,by simp,by simp,HD.out,by simpa using hr,zR _ _⟩
 case round =>
  obtain ⟨l,t,c,j,rfl,rfl,hj,hc,ab,ad,hl,aa,ac⟩:=hrel
  have ai:=hb.chg ac (by simpa using ah.symm)
  have ae:=ai.cell 0
  simp at ae
  clear af
  rcases List.eq_nil_or_concat l with rfl | ⟨l',d,rfl⟩
  ·obtain rfl:j=-1:=by simpa using hj
   have HG:=hid ad
   clear hj ab ad hl
   go_wp2
   all_goals
    go_end0
    refine ⟨rfl,?_,ac⟩
    rw [HG.out];simpa [growL_nil] using aa
  ·have ao:wr.cell? ⟨g,l'.length,none⟩=some (.int .u8 d):=by
    obtain ⟨_,h1,_,_,h2,_⟩:=aa.open_map
    exact h2 l'.length d (by simp)
   have am:wr.frozen? ⟨g,l'.length,none⟩=false:=by
    obtain ⟨_,h1,_,_,_,h2⟩:=aa.open_map
    exact h2 _
   obtain rfl:j=(l'.length:Int):=by simp at hj;omega
   have ag:d<256:=hl d (by simp)
   have an:l'.length<ds.length:=by simp at ab;omega
   have HL:=hid ab
   have HG:=hid ad
   have ak:=hid hl
   clear hj ab ad hl
   go_wp2
   ·have ap:0<c:=by omega
    go_roundw
    case rel =>
     have e1:=growL_snoc l' d c (by omega)
     have aj:=HL.out
     refine ⟨l',(c+d)%256::t,(c+d) / 256,_,rfl,by go_num,rfl,by omega,by simp at aj ⊢; omega,?_,fun x hx=>ak.out x (by simp [hx]),?_,ac.setCell (by simp) _⟩
     ·rw [HG.out,List.concat_eq_append,e1,zH];rfl
     ·have h2:=aa.set_ (i:=l'.length) (by simp) (b8 ((c+d)%256))
      have e2:((l'.concat d++t).map b8).set l'.length (b8 ((c+d)%256))=(l'++(c+d)%256::t).map b8:=by
       rw [List.concat_eq_append,zH,zM,zM,List.set_append_right _ _ (by simp)]
       simp
      rw [e2] at h2
      have e3:b8 ((c+d)%256)=.int .u8 (((c:Int)+d)%256):=by unfold b8;go_num
      rw [e3] at h2
      exact h2
    case measure=>simp [intOf]
   ·obtain rfl:c=0:=by omega
    go_end0
    refine ⟨rfl,?_,ac⟩
    rw [HG.out,growL_zero];exact aa
theorem u8_el:Elem Tryz.prog 52 5 (.int .u8 0) 1 1:=.mk' Tryz.underlying52 (by kernel_rfl)
theorem code_any (w:World) (b g h:Nat) (c:Cod) (bound bit:Nat) (hc:IsCod 264 w b g h c) (hok:CodOk c) (hbd:BoundOk c bound) (hbit:bit=0\/bit=1)
  (hlen:c.low.length<=1099511627776) :
  Calls Tryz.prog 273 #[.pointer (some ⟨b,0,none⟩),.int .u64 bound,.int .i64 bit] w fun e w'=>e=.returned (.tuple #[]) /\
   ∃ g',IsCod 264 w' b g' h (codeL c bound bit)/\Chg [b,g] w w'/\(g'=g\/w.heap.size<=g'):=by
 obtain ⟨vl,vo,hb,hl,ho⟩:=hc.ex
 obtain ⟨ak,aZ⟩:=hbd
 have aX:=hok.hi
 have aC:=hl.ne_ hb (by decide)
 have aT:=ho.ne_ hb (by decide)
 have aP:=hl.ne_row ho (by decide)
 obtain ⟨cap,rfl,aW,a0,-,-⟩:=hl.open_map
 have aK:=hb.cell 0
 have aL:=hb.cell 1
 have aR:=hb.frozen 1
 simp at aK aL
 have ay:=widA_ok hok ⟨ak,by omega⟩ bit
 obtain ⟨W1,aE⟩:=zX (widA c bound bit)
 obtain ⟨l1,aw⟩:=zX (lowA c bound bit)
 rw [<-aE] at ay
 have au:=hid aE
 have ao:=hid aw
 clear aE aw
 have ai:l1.length=c.low.length:=by rw [ao.out,lowA_len]
 have ab:=hid ai
 clear ai
 go_enter Tryz.func273,Tryz.ntmps273
 go_upto_if 7 with fail
 go_cut [] (fun wx=>Blk wx b 264 #[.slice (some ⟨g,0,none⟩) c.low.length cap,.int .u64 W1,vo]/\Row wx 5 (.slice (some ⟨g,0,none⟩) c.low.length cap) g (l1.map b8)/\Chg [b,g] w wx)
 case first =>
  rcases hbit with rfl | rfl
  ·go_wp2
   go_meet
   case rel =>
    refine ⟨?_,?_,(zR _ _).setCell (by simp) _⟩
    ·have:=hb.set_ 1 (.int .u64 W1)
     rw [au.out] at this ⊢
     exact this
    ·rw [ao.out]
     exact hl.far (p:=⟨b,1,none⟩) aC _
  ·go_wp2_with (go_at_call 287;refine (grow_any _ _ _ _ _ _ _ _ hb hl hok.dig (by omega)).mono ?_;rintro e w1 ⟨rfl,aw,al⟩;have ak:=hb.chg al (by simpa using aC.symm);have az:=ak.cell 1;have aQ:=ak.frozen 1;simp at az)
   go_meet
   case rel =>
    refine ⟨?_,?_,(al.mono (F':=[b,g]) (by simp)).setCell (by simp) _⟩
    ·have:=ak.set_ 1 (.int .u64 ((c.W:Int)-bound))
     have e:((W1:Nat):Int)=(c.W:Int)-bound:=by rw [au.out];unfold widA;simp;omega
     rw [e]
     exact this
    ·rw [ao.out]
     exact aw.far (p:=⟨b,1,none⟩) aC _
 case rest =>
  obtain ⟨ag,aO,aG⟩:=hcut
  have ax:=ag.cell 0
  have ar:=ag.cell 1
  have aM:=ag.frozen 0
  have aN:=ag.frozen 1
  simp at ax ar
  clear aK aL aR
  go_wp2_with fail
  go_loopg [] 1 (fun k wr=>∃ (g' ac:Nat) (l:List Nat) (W:Nat),Blk wr b 264 #[.slice (some ⟨g',0,none⟩) l.length ac,.int .u64 W,vo] /\
    Row wr 5 (.slice (some ⟨g',0,none⟩) l.length ac) g' (l.map b8)/\Chg [b,g] w wr/\(g'=g\/w.heap.size<=g') /\
    ((k=1/\W=W1/\l=l1)\/(k=0/\16777216<=W/\W<4294967296/\Hid (codeL c bound bit=⟨l,W,c.odds⟩))))
  case atStart=>exact ⟨g,cap,l1,W1,by rw [ab.out];exact ag,by rw [ab.out];exact aO,aG,.inl rfl,.inl ⟨rfl,rfl,rfl⟩⟩
  case round =>
   clear ax ar aM aN ag aO
   obtain ⟨g',ac,l,W,ad,aB,aa,ah,an⟩:=hrel
   have aj:=aB.ne_ ad (by decide)
   have ax:=ad.cell 0
   have ar:=ad.cell 1
   have aM:=ad.frozen 0
   have aN:=ad.frozen 1
   simp at ax ar
   have ap:∀ W',W'=W->codeL c bound bit=⟨l,W',c.odds⟩->IsCod 264 wr b g' h (codeL c bound bit):=fun W' e he=>by
    subst e
    rw [he]
    have aV:h∉[b,g]:=by simp;exact ⟨aT,aP.symm⟩
    exact ⟨_,vo,ad,aB,ho.chg aa aV⟩
   have aq:=hid ap
   clear ap
   rcases an with ⟨rfl,rfl,rfl⟩ | ⟨rfl,hW,a1,aD⟩
   ·by_cases hs:W<16777216
    ·have am:decide ((W:Int)<16777216)=true:=by simp;omega
     go_wp2_with (at_builtin;refine wpList_append_row1 rfl rfl u8_el rfl rfl ((aB.far (p:=⟨b,1,none⟩) aj _).alloc _) (.int .u8 0) rfl ?c1 ?c2 ?c3 ?c4 ?_)
     case c1=>simp [go_sem]
     case c2=>rfl
     case c3=>simp;have := ab.out;omega
     case c4=>simp;have := ab.out;omega
     intro g2 af w2 aI ae aJ
     have av:=((ad.set_ 1 (.int .u64 ((W:Int)*256))).alloc (.cells #[.int .u8 0] 5)).chg ae (by simpa using aj.symm)
     have aA:=aI.ne_ av (by decide)
     have aF:Chg [b,g] w w2:=((aa.setCell (p:=⟨b,1,none⟩) (by simp) _).alloc _).trans ae (by
      intro x hx
      simp at hx
      subst hx
      rcases ah with rfl | ah
      ·exact .inl (by simp)
      ·exact .inr ah)
     have aH:=av.cell 0
     have aU:=av.frozen 0
     simp at aH
     have aY:=aa.size
     have aS:g2=g\/w.heap.size<=g2:=by
      rcases aJ with rfl | aJ
      ·exact ah
      ·exact .inr (by omega)
     clear ae
     go_wp2
     go_roundg 0
     case measure=>omega
     case rel =>
      refine ⟨g2,af,l++[0],W*256,?_,?_,aF.setCell (by simp) _,aS,.inr ⟨rfl,by omega,by omega,?_⟩⟩
      ·have h1:=av.set_ 0 (.slice (some ⟨g2,0,none⟩) (l.length+1) af)
       simp at h1
       simpa using h1
      ·have h1:=aI.far (p:=⟨b,0,none⟩) aA (.slice (some ⟨g2,0,none⟩) (l.length+1) af)
       simpa [b8] using h1
      ·refine hid ?_
       unfold codeL
       rw [<-au.out,if_pos hs,<-ao.out]
    ·have am:decide ((W:Int)<16777216)=false:=by simp;omega
     go_wp2
     go_end0
     refine ⟨rfl,g',?_,aa,ah⟩
     refine aq.out W rfl ?_
     unfold codeL
     rw [<-au.out,if_neg hs,<-ao.out]
   ·have am:decide ((W:Int)<16777216)=false:=by simp;omega
    go_wp2
    go_end0
    exact ⟨rfl,g',aq.out W rfl aD.out,aa,ah⟩
theorem cod_oddsAt {c:Cod} {ctx:Nat} (hc:ctx<c.odds.length):c.odds[ctx]?=some (oddsAt c ctx):=by
 unfold oddsAt
 rw [zD,zF hc]
 rfl
theorem put_ok (w:World) (b g h:Nat) (c:Cod) (ctx bit:Nat) (hc:IsCod 264 w b g h c) (hok:CodOk c) (hctx:ctx<c.odds.length) (hbit:bit=0\/bit=1)
  (hlen:c.low.length<=1099511627776) :
  Calls Tryz.prog 236 #[.pointer (some ⟨b,0,none⟩),.int .i64 ctx,.int .i64 bit] w fun e w'=>e=.returned (.int .i64 0) /\
   ∃ g',IsCod 264 w' b g' h (putL c ctx bit)/\Chg [b,g,h] w w'/\(g'=g\/w.heap.size<=g'):=by
 obtain ⟨vl,vo,hb,hl,ho⟩:=hc.ex
 have ae:=bound_put hok hctx
 have aI:=hok.hi
 have aJ:=hl.ne_ hb (by decide)
 have ay:=ho.ne_ hb (by decide)
 have aG:=hl.ne_row ho (by decide)
 obtain ⟨az,rfl,aK,aF,ac,an⟩:=ho.open_map
 have aj:=ac ctx _ (cod_oddsAt hctx)
 replace aj:w.cell? ⟨h,ctx,none⟩=some (.int .i64 (oddsAt c ctx:Int)):=aj
 clear ac
 obtain ⟨o1,ao⟩:=zX (oddsAt c ctx)
 have ax:=oddsAt_ok hok hctx
 rw [<-ao] at aj ax ae
 have ar:=hid ao
 clear ao
 have am:=hb.cell 1
 have aD:=hb.cell 2
 simp at am aD
 have t1:decide ((ctx:Int)<0)=false:=by simp
 have t2:decide (c.odds.length<=ctx)=false:=by simp;omega
 obtain ⟨bd,ab⟩:=zX (c.W / 4096*o1)
 have aA:IntKind.u64.wrap ((c.W:Int) / 4096*(o1:Int))=(bd:Int):=by
  rw [<-ab] at ae
  have:=ae.2
  have e:((c.W:Int) / 4096*(o1:Int))=(bd:Int):=by rw [ab];simp
  rw [e]
  exact IntWalk.u64_in _ (by omega)
 rw [<-ab] at ae
 have ag:Hid (putL c ctx bit={ codeL c bd bit with odds:=c.odds.set ctx (adaptN o1 bit) }):=by
  refine hid ?_
  rw [ab,ar.out]
  rfl
 clear ab
 go_enter Tryz.func236,Tryz.ntmps236
 rcases hbit with rfl | rfl
 all_goals
  go_wp2
  refine wp_region_quiet_tail 16 (by kernel_rfl) (by kernel_rfl) ?_
  simp only [List.take_succ_cons,List.take_zero,List.drop_succ_cons,List.drop_zero]
  repeat (go_big_quiet_step (fail))
  refine wpQuiet_nil ?_
  intro _ aq
  obtain ⟨nq,rfl⟩:=aq
  go_wp2_with fail
  refine (code_any (w.drewN nq) b g h c bd _ (hc.same (((zR _ _).drewN nq))) hok ae (by simp) hlen).mono ?_
  rintro e w1 ⟨rfl,g',am,al,aE⟩
  obtain ⟨aM,aN,ai,ak,af⟩:=am.ex
  rw [codeL_odds] at af
  have aB:=ak.ne_ ai (by decide)
  have ah:=ak.ne_row af (by decide)
  obtain ⟨au,rfl,aC,av,aa,ad⟩:=af.open_map
  have aH:w1.cell? ⟨h,ctx,none⟩=some (.int .i64 o1):=by rw [ar.out];exact aa ctx _ (cod_oddsAt hctx)
  have aL:=ad ctx
  have aw:=ai.cell 2
  simp at aw
  clear aa ad an
  go_wp2_with fail
  refine wp_region_quiet_tail 14 (by kernel_rfl) (by kernel_rfl) ?_
  simp only [List.take_succ_cons,List.take_zero,List.drop_succ_cons,List.drop_zero]
  repeat (go_big_quiet_step ((go_at_call 274;exact Calls.quiet_of_same (adapt_any o1 _ _ (by omega) (by simp)))))
  refine wpQuiet_nil ?_
  intro _ aq
  obtain ⟨ap,rfl⟩:=aq
  go_wp2
  go_ret
  refine ⟨rfl,g',?_,?_,aE⟩
  ·rw [ag.out]
   refine ⟨_,_,(ai.drewN ap).far (p:=⟨h,ctx,none⟩) ay.symm _,(ak.drewN ap).far (p:=⟨h,ctx,none⟩) ah _,?_⟩
   simp only
   rw [List.map_set]
   exact (af.drewN ap).set_ (i:=ctx) (by simpa using hctx) _
  ·refine Chg.setCell (Chg.drewN ?_ _) (by simp) _
   exact ((zR _ _).drewN nq).trans al (by simp)
def LitOk (d:Nat) (t:Tok):Prop:=0<=t.lit/\t.lit<2^d
theorem lit_zero (d a b:Nat):LitOk d ⟨a,b,0⟩:=⟨Int.le_refl _,two_pow_pos' d⟩
theorem lOne_lit {d cp at_ n:Nat} {D:List Nat} {p:List Nat × List Tok} (h:∀ t∈p.2,LitOk d t):∀ t∈(lOne cp at_ D n p).2,LitOk d t:=by
 unfold lOne
 split
 ·exact h
 ·split
  ·intro t ht
   rcases List.mem_or_eq_of_mem_set ht with h5 | rfl
   ·exact h t h5
   ·exact lit_zero d _ _
  ·exact h
theorem lPick_lit {d cp at_:Nat} {D:List Nat}:∀ f m p,(∀ t∈p.2,LitOk d t)->∀ t∈(lPick cp at_ D f m p).2,LitOk d t
 | 0,_,_,h=>h
 | f+1,m,p,h=>lPick_lit f (m+1) _ (lOne_lit h)
theorem lStep_lit {d lit cp k:Nat} {l:List Int} (hs:SmpOk d l) {s:LSt} (h:∀ t∈s.first,LitOk d t):∀ t∈(lStep l lit cp k s).first,LitOk d t:=by
 refine lPick_lit 65 0 _ fun t ht => ?_
 rcases List.mem_or_eq_of_mem_set ht with h5 | rfl
 ·exact h t h5
 ·exact getD_ok hs k
theorem lGo_lit {d lit cp:Nat} {l:List Int} (hs:SmpOk d l):∀ k s,(∀ t∈s.first,LitOk d t)->∀ t∈(lGo l lit cp k s).first,LitOk d t
 | 0,_,h=>h
 | k+1,s,h=>lGo_lit hs k _ (lStep_lit hs h)
theorem tokGo_all {Q:Tok->Prop} {F:List Tok} (h:∀ t∈F,Q t) {n:Nat} (hn:n<=F.length):∀ f i,∀ t∈tokGo F n f i,Q t
 | 0,_,t,ht=>by simp [tokGo] at ht
 | f+1,i,t,ht=>by
  unfold tokGo at ht
  split at ht
  ·rename_i hi
   rcases zJ.1 ht with rfl | h1
   ·unfold tokAt
    rw [zD,zF (by omega)]
    exact h _ (zG _)
   ·exact tokGo_all h hn f _ t h1
  ·simp at ht
theorem leastF_lit {d:Nat} {l:List Int} (hs:SmpOk d l) (lit cp:Nat):∀ t∈leastF l lit cp,LitOk d t :=
 tokGo_all (lGo_lit hs _ _ fun t ht=>by
  have:t=⟨0,0,0⟩:=List.eq_of_mem_replicate ht
  rw [this]
  exact lit_zero d _ _) (by
   have:=(leastSt_ok l lit cp).pair.fl
   unfold leastSt at this
   rw [this]
   exact zQ _) _ _
theorem leastF_tok {d:Nat} {l:List Int} (hs:SmpOk d l) (lit cp:Nat):∀ t∈leastF l lit cp,TokOk d t:=by
 intro t ht
 have h1:=leastF_ok l lit cp t ht
 have h2:=leastF_lit hs lit cp t ht
 unfold Tok.ok at h1
 unfold TokOk
 cases hl:t.isLit with
 | true=>exact .inl ⟨rfl,h2.1,h2.2⟩
 | false =>
  right
  refine ⟨rfl,?_⟩
  rcases h1 with h1 | h1
  ·rw [hl] at h1;cases h1
  ·exact h1
def rowTo (l:List Int) (W X Y c:Nat):List Int:=(List.range c).map fun i=>l.getD (Y*W+(X+i)) 0
theorem rowTo_succ (l:List Int) (W X Y c:Nat):rowTo l W X Y (c+1)=rowTo l W X Y c++[l.getD (Y*W+(X+c)) 0]:=by simp [rowTo,List.range_succ]
theorem part24_ok (w:World) (A:Option Addr) (cap:Nat) (l:List Int) (W H X Y pw ph:Nat) (hl:l.length=W*H) (hW:W<=64) (hH:H<=64) (hx:X+pw<=W) (hy:Y+ph<=H) (hc:Cells vi w A l) :
  Calls Tryz.prog 14 #[.slice A l.length cap,.int .i64 W,.int .i64 X,.int .i64 Y,.int .i64 pw,.int .i64 ph] w fun e w'=>∃ v F,e=.returned v/\Own w' 3 v F ((partF l W X Y pw ph).map vi)/\Chg [] w w'/\∀ x∈F,w.heap.size<=x:=by
 obtain ⟨n,hn⟩:=zX (l.length)
 rw [<-hn]
 obtain ⟨YH,ak⟩:=zX (Y+ph)
 have aH:(Y:Int)+(ph:Int)=(YH:Int):=by omega
 obtain ⟨XW,al⟩:=zX (X+pw)
 have aE:(X:Int)+(pw:Int)=(XW:Int):=by omega
 have aG:n<=4096:=by rw [hn,hl];exact zL hW hH
 have HN:=hid hn
 have HL:=hid hl
 have an:=hid ak
 have ao:=hid al
 have ay:YH<=64:=by omega
 have aw:XW<=64:=by omega
 have HC:=hid hc
 have HB:=hid (And.intro hx hy)
 clear hn hl ak al hc hx hy
 go_enter Tryz.func14,Tryz.ntmps14
 go_wp2_with fail
 go_loopg [13,14,15] ph (fun j v13 v14 v15 wr=>∃ (k y:Nat) (F:List Nat),v14=.int .i64 y/\Hid (y=Y+k)/\y+j=YH/\k+j=ph/\Hid (Own wr 3 v13 F ((partF l W X Y pw k).map vi))/\Hid (Chg [] w wr)/\Hid (∀ x∈F,w.heap.size<=x))
 case atStart=>exact ⟨0,Y,[],rfl,hid rfl,by have := an.out;omega,by omega,hid (by simpa [partF] using Own.nil w 3),hid (zR _ _),hid (by simp)⟩
 case round =>
  obtain ⟨k,y,F,rfl,HY,aD,aK,HO,ap,HF⟩:=hrel
  rcases gk with _ | j
  ·have t1:decide (y<YH)=false:=zA (by omega)
   have ho:=HO.out
   rw [show k=ph by omega] at ho
   have ae:=hid ho
   clear ho
   go_wp2
   go_ret
   exact ⟨_,F,rfl,ae.out,ap.out,HF.out⟩
  ·have t1:decide (y<YH)=true:=zB (by omega)
   have aI:y<64:=by omega
   obtain ⟨P,hP⟩:=zX (y*W)
   have eP:(y:Int)*(W:Int)=(P:Int):=by rw [hP];simp
   have aC:P<=4096:=by rw [hP];exact zL (show y<=64 by omega) hW
   have au:P+W<=n:=by
    have h1:=HB.out.2
    have h2:=an.out
    have h3:=Nat.mul_le_mul_right W (show y+1<=H by omega)
    rw [Nat.succ_mul,zY H] at h3
    have h4:=HN.out
    have h5:=HL.out
    omega
   have HP:=hid hP
   clear hP
   go_wp2_with fail
   go_loopg [13,15] pw (fun j2 v13 v15 wr2=>∃ (c x:Nat) (F2:List Nat),v15=.int .i64 x/\Hid (x=X+c)/\x+j2=XW/\c+j2=pw/\Hid (Own wr2 3 v13 F2 ((partF l W X Y pw k++rowTo l W X y c).map vi))/\Hid (Chg [] w wr2)/\Hid (∀ x∈F2,w.heap.size<=x))
   case atStart=>exact ⟨0,X,F,rfl,hid rfl,by have := ao.out;omega,by omega,hid (by simpa [rowTo] using HO.out),ap,HF⟩
   case round =>
    obtain ⟨c,x,F2,rfl,HX,aL,aF,ae,af,ag⟩:=hrel
    rcases gk with _ | j2
    ·have t2:decide (x<XW)=false:=zA (by omega)
     have ho:=ae.out
     rw [show c=pw by omega] at ho
     have e:partF l W X Y pw k++rowTo l W X y pw=partF l W X Y pw (k+1):=by rw [partF_succ,HY.out];rfl
     rw [e] at ho
     have ax:=hid ho
     clear ho e
     go_wp2_with fail
     go_roundg j
     case measure=>omega
     case rel=>exact ⟨k+1,y+1,F2,by go_num,hid (by rw [HY.out];omega),by omega,by omega,ax,af,ag⟩
    ·have t2:decide (x<XW)=true:=zB (by omega)
     obtain ⟨q,hq⟩:=zX (P+x)
     have aJ:(P:Int)+(x:Int)=(q:Int):=by omega
     have av:q<n:=by have:=HB.out.1;have:=ao.out;omega
     have aj:q<l.length:=by rw [<-HN.out];exact av
     obtain ⟨g,o,rfl,aa⟩:=(HC.out.same af.out).at_ aj
     obtain ⟨v,hv⟩:=zX (l[q])
     rw [<-hv] at aa
     have c1:wr.cell? ⟨g,o+q,none⟩=some (.int .i64 v):=aa
     have am:rowTo l W X y (c+1)=rowTo l W X y c++[v]:=by
      rw [rowTo_succ,hv,<-HX.out,<-HP.out,<-hq,zD,zF aj]
      rfl
     have aA:=hid am
     have ab:(partF l W X Y pw k++rowTo l W X y c).length<=8192:=by
      rw [zC,partF_len]
      have h1:=zL (show k<=64 by omega) (show pw<=64 by omega)
      simp [rowTo]
      omega
     have ad:=hid ab
     have ac:=ae.out.alloc (.cells #[.int .i64 v] 3)
     clear aa hv am ab aj hq
     go_wp2_with (at_builtin;refine wpList_append_o1 rfl rfl int_elem rfl rfl ac (.int .i64 v) rfl ?c1 ?c2 ?c3 ?c4 ?_)
     case c1=>simp [go_sem]
     case c2=>rfl
     case c3=>rw [zE];have := ad.out;omega
     case c4=>rw [zE];have := ad.out;omega
     intro g2 az w2 aq ai
     have ar:=hid aq.toOwn
     have aB:Hid (Chg [] w w2):=hid ((af.out.alloc _).trans ai.chg (fun x hx => .inr (ag.out x hx)))
     have ah:Hid (∀ x∈[g2],w.heap.size<=x):=hid (fun x hx=>by
      rcases ai.new x hx with h | h
      ·exact ag.out x h
      ·have h5:=af.out.size
       have h6:=((zR [] wr).alloc (.cells #[.int .i64 v] 3)).size
       omega)
     clear aq ai ac
     go_wp2_with fail
     go_roundg j2
     case measure=>omega
     case rel =>
      refine ⟨c+1,x+1,[g2],by go_num,hid (by rw [HX.out];omega),by omega,by omega,hid ?_,aB,ah⟩
      rw [aA.out,zM,zM]
      exact ar.out
theorem alloc_size (w:World) (o:Obj):(w.alloc o).heap.size=w.heap.size+1:=by
 show (w.heap.push o).size=_
 exact Array.size_push _
theorem Blk.new2 (w:World) (o:Obj) (t:TypeId) (cs:Array Value):Blk ((w.alloc o).alloc (.cells cs t)) (w.heap.size+1) t cs:=by
 have h:=Blk.new (w.alloc o) t cs
 rw [alloc_size] at h
 exact h
theorem Blk.new3 (w:World) (o o2:Obj) (t:TypeId) (cs:Array Value):Blk (((w.alloc o).alloc o2).alloc (.cells cs t)) (w.heap.size+1+1) t cs:=by
 have h:=Blk.new2 (w.alloc o) o2 t cs
 rw [alloc_size] at h
 exact h
def picV (p:PicD) (g o cap:Nat):Value:=.agg #[.int .i64 p.W,.int .i64 p.H,.int .i64 p.d,.slice (some ⟨g,o,none⟩) p.P.length cap]
structure PicAt (w:World) (p:PicD) (g o:Nat) (B:Nat->Option Addr) (c:Nat->Nat) (G:List Nat):Prop where
 ok:p.Ok
 gG:g∈G
 lt:∀ x∈G,x<w.heap.size
 cell:∀ i,i<p.P.length->w.cell? ⟨g,o+i,none⟩=some (.slice (B i) (p.W*p.H) (c i))
 cells:∀ i,i<p.P.length->Cells vi w (B i) (p.P.getD i [])
 blk:∀ i,i<p.P.length->∀ ad,B i=some ad->ad.block∈G
 cap:∀ i,i<p.P.length->p.W*p.H<=c i/\c i<=9223372036854775807
section
variable {w w':World} {p:PicD} {g o:Nat} {B:Nat->Option Addr} {c:Nat->Nat} {G F:List Nat}
theorem PicAt.chg (h:PicAt w p g o B c G) (hc:Chg F w w') (hd:∀ x∈G,x∉F):PicAt w' p g o B c G :=
 { h with
  lt:=fun x hx=>Nat.lt_of_lt_of_le (h.lt x hx) hc.size
  cell:=fun i hi=>(World.cell?_of_block (w:=w) (hc.block g (h.lt g h.gG) (hd g h.gG))).trans (h.cell i hi)
  cells:=fun i hi=>(h.cells i hi).chg hc fun ad e=>hd _ (h.blk i hi ad e) }
theorem PicAt.same (h:PicAt w p g o B c G) (hc:Chg [] w w'):PicAt w' p g o B c G:=h.chg hc (by simp)
theorem PicAt.len (h:PicAt w p g o B c G) {i:Nat} (hi:i<p.P.length):(p.P.getD i []).length=p.W*p.H:=h.ok.len _ (by
 rw [zD,zF hi]
 exact zG hi)
theorem PicAt.at_ (h:PicAt w p g o B c G) {i:Nat} (hi:i<p.P.length):∃ b q,B i=some ⟨b,q,none⟩/\b∈G/\∀ k,k<p.W*p.H->w.cell? ⟨b,q+k,none⟩=some (.int .i64 ((p.P.getD i []).getD k 0)):=by
 have hl:=h.len hi
 obtain ⟨b,q,e,hb,hc⟩:=(h.cells i hi).ex (by rw [hl];exact h.ok.pos)
 refine ⟨b,q,e,h.blk i hi _ e,fun k hk => ?_⟩
 refine hc k _ ?_
 rw [zD (l:=p.P.getD i []),zF (by rw [hl];exact hk)]
 rfl
end
theorem rows_el:Elem Tryz.prog 23 22 (.slice none 0 0) 1 24:=.mk' Tryz.underlying23 (by kernel_rfl)
structure PlRows (w:World) (xs:List Value) (P:List (List Int)) (gs:List Nat):Prop where
 lx:xs.length=P.length
 lg:gs.length=P.length
 nd:gs.Nodup
 row:∀ (i:Nat) (l:List Int),P[i]?=some l->∃ u g,xs[i]?=some u/\gs[i]?=some g/\Row w 3 u g (l.map vi)
section
variable {w w':World} {xs:List Value} {P:List (List Int)} {gs F:List Nat}
theorem PlRows.nil (w:World):PlRows w [] [] []:=⟨rfl,rfl,List.nodup_nil,fun i l h=>by simp at h⟩
theorem PlRows.chg (h:PlRows w xs P gs) (hc:Chg F w w') (hd:∀ x∈gs,x∉F):PlRows w' xs P gs :=
 ⟨h.lx,h.lg,h.nd,fun i l hl=>by
  obtain ⟨u,g,h1,h2,h3⟩:=h.row i l hl
  exact ⟨u,g,h1,h2,h3.chg hc (hd g (List.mem_of_getElem? h2))⟩⟩
theorem PlRows.same (h:PlRows w xs P gs) (hc:Chg [] w w'):PlRows w' xs P gs:=h.chg hc (by simp)
theorem PlRows.lt (h:PlRows w xs P gs):∀ x∈gs,x<w.heap.size:=fun x hx=>by
 obtain ⟨i,hi,rfl⟩:=List.getElem_of_mem hx
 have hi':i<P.length:=by rw [<-h.lg];exact hi
 obtain ⟨u,g,h1,h2,h3⟩:=h.row i _ (zF hi')
 rw [zF hi] at h2
 injection h2 with h2
 rw [h2]
 exact h3.lt
theorem PlRows.snoc (h:PlRows w xs P gs) {u:Value} {g:Nat} {l:List Int} (r:Row w 3 u g (l.map vi)) (hg:g∉gs):PlRows w (xs++[u]) (P++[l]) (gs++[g]):=by
 refine ⟨by simp [h.lx],by simp [h.lg],?_,fun i l' hl => ?_⟩
 ·rw [List.nodup_append]
  refine ⟨h.nd,by simp,fun a ha b hb => ?_⟩
  simp at hb
  subst hb
  exact fun e=>hg (by rw [<-e];exact ha)
 ·rcases Nat.lt_trichotomy i P.length with hi | hi | hi
  ·rw [List.getElem?_append_left hi] at hl
   obtain ⟨u',g',h1,h2,h3⟩:=h.row i l' hl
   exact ⟨u',g',by rw [List.getElem?_append_left (by rw [h.lx];exact hi)];exact h1,by rw [List.getElem?_append_left (by rw [h.lg];exact hi)];exact h2,h3⟩
  ·subst hi
   simp at hl
   subst hl
   exact ⟨u,g,by rw [<-h.lx];simp,by rw [<-h.lg];simp,r⟩
  ·rw [List.getElem?_eq_none (by simp;omega)] at hl
   cases hl
theorem PlRows.set (h:PlRows w xs P gs) {i g:Nat} {u:Value} (hx:xs[i]?=some u) (hg:gs[i]?=some g) {l:List Int} (r:Row w' 3 u g (l.map vi)) (hc:Chg [g] w w'):PlRows w' xs (P.set i l) gs:=by
 refine ⟨by rw [h.lx,List.length_set],by rw [h.lg,List.length_set],h.nd,fun k l' hl => ?_⟩
 by_cases hk:i=k
 ·subst hk
  have hi:i<P.length:=by rw [<-h.lx];exact (List.getElem?_eq_some_iff.1 hx).1
  rw [List.getElem?_set_self hi] at hl
  injection hl with hl
  subst hl
  exact ⟨u,g,hx,hg,r⟩
 ·rw [List.getElem?_set_ne hk] at hl
  obtain ⟨u',g',h1,h2,h3⟩:=h.row k l' hl
  refine ⟨u',g',h1,h2,h3.chg hc fun hm => ?_⟩
  simp at hm
  subst hm
  have hi:=(List.getElem?_eq_some_iff.1 hg).1
  have aa:=(List.getElem?_eq_some_iff.1 h2).1
  have e1:=(List.getElem?_eq_some_iff.1 hg).2
  have e2:=(List.getElem?_eq_some_iff.1 h2).2
  exact hk ((List.getElem_inj h.nd).1 (e1.trans e2.symm))
end
structure PicOwn (w:World) (p:PicD) (gP cap:Nat) (xs:List Value) (gs:List Nat):Prop where
 ok:p.Ok
 row:Row w 22 (.slice (some ⟨gP,0,none⟩) p.P.length cap) gP xs
 pl:PlRows w xs p.P gs
def sliceA:Option Value->Option Addr
 | some (.slice a _ _)=>a
 | _=>none
def sliceC:Option Value->Nat
 | some (.slice _ _ c)=>c
 | _=>0
section
variable {w w':World} {p:PicD} {gP cap:Nat} {xs:List Value} {gs F:List Nat}
theorem PicOwn.chg (h:PicOwn w p gP cap xs gs) (hc:Chg F w w') (hP:gP∉F) (hd:∀ x∈gs,x∉F):PicOwn w' p gP cap xs gs:=⟨h.ok,h.row.chg hc hP,h.pl.chg hc hd⟩
theorem PicOwn.same (h:PicOwn w p gP cap xs gs) (hc:Chg [] w w'):PicOwn w' p gP cap xs gs:=h.chg hc (by simp) (by simp)
theorem PicOwn.ltP (h:PicOwn w p gP cap xs gs):gP<w.heap.size:=h.row.lt
theorem PicOwn.plane (h:PicOwn w p gP cap xs gs) {i:Nat} (hi:i<p.P.length):∃ g c,xs[i]?=some (.slice (some ⟨g,0,none⟩) (p.W*p.H) c)/\gs[i]?=some g/\Row w 3 (.slice (some ⟨g,0,none⟩) (p.W*p.H) c) g ((p.P.getD i []).map vi)/\w.cell? ⟨gP,i,none⟩=some (.slice (some ⟨g,0,none⟩) (p.W*p.H) c):=by
 have hP:p.P[i]?=some (p.P.getD i []):=by rw [zD,zF hi];rfl
 obtain ⟨u,g,h1,h2,h3⟩:=h.pl.row i _ hP
 obtain ⟨c,rfl,ab,_⟩:=h3.open_map
 have hl:(p.P.getD i []).length=p.W*p.H:=h.ok.len _ (List.mem_of_getElem? hP)
 rw [hl] at h1 h3
 obtain ⟨_,_,_,_,aa,_⟩:=h.row.open_
 refine ⟨g,c,h1,h2,h3,?_⟩
 rw [aa i (by rw [h.pl.lx];exact hi),h1]
theorem PicOwn.at_ (h:PicOwn w p gP cap xs gs):PicAt w p gP 0 (fun i=>sliceA xs[i]?) (fun i=>sliceC xs[i]?) (gP::gs) where
 ok:=h.ok
 gG:=by simp
 lt:=fun x hx=>by
  rcases zJ.1 hx with rfl | hx
  ·exact h.row.lt
  ·exact h.pl.lt x hx
 cell:=fun i hi=>by
  obtain ⟨g,c,h1,h2,h3,h4⟩:=h.plane hi
  rw [Nat.zero_add,h4,h1]
  rfl
 cells:=fun i hi=>by
  obtain ⟨g,c,h1,h2,h3,h4⟩:=h.plane hi
  rw [h1]
  have ac:=h3.lt
  obtain ⟨c',e,_,_,aa,_⟩:=h3.open_map
  exact ⟨fun _=>⟨g,0,rfl,ac,fun k a ha=>by rw [Nat.zero_add];exact aa k a ha⟩⟩
 blk:=fun i hi ad e=>by
  obtain ⟨g,c,h1,h2,h3,h4⟩:=h.plane hi
  rw [h1] at e
  injection e with e
  subst e
  exact List.mem_cons_of_mem _ (List.mem_of_getElem? h2)
 cap:=fun i hi=>by
  obtain ⟨g,c,h1,h2,h3,h4⟩:=h.plane hi
  rw [h1]
  obtain ⟨c',e,ae,ab,_⟩:=h3.open_map
  injection e with _ e1 e2
  subst e2
  exact ⟨by show _<=c;omega,ab⟩
end
theorem possible_yes (W H d n:Nat) (w:World) (w0:1<=W) (w1:W<=64) (h0:1<=H) (h1:H<=64) (d0:1<=d) (d1:d<=16) (n0:1<=n) (n1:n<=4) :
  Calls Tryz.prog 101 #[.int .i64 W,.int .i64 H,.int .i64 d,.int .i64 n] w fun e w'=>e=.returned (.bool true)/\w=w':=by
 have t1:decide ((1:Int)<=(W:Int))=true:=zB (by omega)
 have t2:decide ((W:Int)<=64)=true:=zB (by omega)
 have t3:decide ((1:Int)<=(H:Int))=true:=zB (by omega)
 have t4:decide ((H:Int)<=64)=true:=zB (by omega)
 have t5:decide ((1:Int)<=(d:Int))=true:=zB (by omega)
 have t6:decide ((d:Int)<=16)=true:=zB (by omega)
 have t7:decide ((1:Int)<=(n:Int))=true:=zB (by omega)
 have t8:decide ((n:Int)<=4)=true:=zB (by omega)
 clear w0 w1 h0 h1 d0 d1 n0 n1
 go_enter Tryz.func101,Tryz.ntmps101
 go_wp2
 go_ret
 exact ⟨rfl,rfl⟩
theorem possible_zero (w:World):Calls Tryz.prog 101 #[.int .i64 0,.int .i64 0,.int .i64 0,.int .i64 0] w fun e w'=>e=.returned (.bool false)/\w=w':=by
 go_enter Tryz.func101,Tryz.ntmps101
 go_wp2
 go_ret
 exact ⟨rfl,rfl⟩
theorem is_zero (w:World):Calls Tryz.prog 58 #[.agg #[.int .i64 0,.int .i64 0,.int .i64 0,.slice none 0 0]] w fun e w'=>e=.returned (.bool false)/\Chg [] w w':=by
 have hp:=fun w'=>possible_zero w'
 go_enter Tryz.func58,Tryz.ntmps58
 go_wp2_with fail
 refine (hp _).mono ?_
 rintro e w' ⟨rfl,rfl⟩
 go_wp2
 go_ret
 exact ⟨rfl,(zR [] w).alloc _⟩
theorem is_yes {w:World} {p:PicD} {g o:Nat} {B:Nat->Option Addr} {c:Nat->Nat} {G:List Nat} (cap:Nat) (h:PicAt w p g o B c G) :
  Calls Tryz.prog 58 #[picV p g o cap] w fun e w'=>e=.returned (.bool true)/\Chg [] w w':=by
 obtain ⟨W,hW⟩:=zX (p.W)
 obtain ⟨H,hH⟩:=zX (p.H)
 obtain ⟨d,hd⟩:=zX (p.d)
 obtain ⟨n,hn⟩:=zX (p.P.length)
 obtain ⟨N,hN⟩:=zX (W*H)
 have eN:(W:Int)*(H:Int)=(N:Int):=by rw [hN];simp
 have aa:=h.ok
 have hp:=possible_yes W H d n
 have ap:=fun w'=>hp w' (by rw [hW];exact aa.w0) (by rw [hW];exact aa.w1) (by rw [hH];exact aa.h0) (by rw [hH];exact aa.h1) (by rw [hd];exact aa.d0) (by rw [hd];exact aa.d1) (by rw [hn];exact aa.n0) (by rw [hn];exact aa.n1)
 have ar:N<=4096:=by rw [hN,hW,hH];exact aa.area
 have ax:n<=4:=by rw [hn];exact aa.n1
 have an:1<=d:=by rw [hd];exact aa.d0
 have ai:d<=16:=by rw [hd];exact aa.d1
 have ab:∀ w',Chg [] w w'->∀ i,i<n->∃ b q,w'.cell? ⟨g,o+i,none⟩=some (.slice (some ⟨b,q,none⟩) N (c i))/\∀ k,k<N->∃ s:Int,w'.cell? ⟨b,q+k,none⟩=some (.int .i64 s)/\0<=s/\s<2^d:=by
  intro w' hc i hi
  have h':=h.same hc
  rw [hn] at hi
  obtain ⟨b,q,e,hb,hk⟩:=h'.at_ hi
  have ae:=h'.cell i hi
  rw [e,<-hW,<-hH,<-hN] at ae
  refine ⟨b,q,ae,fun k hk'=>⟨_,hk k (by rw [<-hW,<-hH,<-hN];exact hk'),?_⟩⟩
  rw [hd]
  exact getD_smp (h'.ok.smp _ (by rw [zD,zF hi];exact zG hi)) k
 unfold picV
 rw [<-hW,<-hH,<-hd,<-hn]
 obtain ⟨w1,ad⟩:=zX (w.alloc (.cells #[.int .i64 W,.int .i64 H,.int .i64 d,.slice (some ⟨g,o,none⟩) n cap] 25))
 have ag:Chg [] w w1:=by rw [ad];exact (zR [] w).alloc _
 obtain ⟨bb,af⟩:=zX (w.heap.size)
 have ac:Blk w1 bb 25 #[.int .i64 W,.int .i64 H,.int .i64 d,.slice (some ⟨g,o,none⟩) n cap]:=by rw [ad,af];exact Blk.new w _ _
 have b0:=ac.cell 0
 have b1:=ac.cell 1
 have b2:=ac.cell 2
 have b3:=ac.cell 3
 simp at b0 b1 b2 b3
 obtain ⟨ao,am⟩:=pow_d an ai
 have ak:=hid ad
 have al:=hid af
 have HC:=hid ab
 have ah:=hid ag
 clear hW hH hd hn hN aa hp ab ad af ac ag h
 go_enter Tryz.func58,Tryz.ntmps58
 go_wp2_with fail
 rw [<-ak.out,<-al.out]
 refine (ap _).mono ?_
 rintro e w' ⟨rfl,rfl⟩
 go_wp2_with fail
 go_loopg [21] n (fun j iv wr=>∃ i:Nat,iv=.int .i64 i/\i+j=n/\w1=wr)
 case atStart=>exact ⟨0,rfl,by omega,rfl⟩
 case round =>
  obtain ⟨i,rfl,au,rfl⟩:=hrel
  rcases gk with _ | j
  ·obtain rfl:i=n:=by omega
   have t1:decide (i<i)=false:=by simp
   go_wp2
   go_ret
   exact ⟨rfl,ah.out⟩
  ·have hi:i<n:=by omega
   obtain ⟨b,q,ae,hk⟩:=HC.out _ ah.out i hi
   have HK:=hid hk
   have t2:((N:Int) != (N:Int))=false:=by simp
   clear hk
   go_wp2_with fail
   go_loopg [35] N (fun j2 kv wr=>∃ k:Nat,kv=.int .i64 k/\k+j2=N/\w1=wr)
   case atStart=>exact ⟨0,rfl,by omega,rfl⟩
   case round =>
    obtain ⟨k,rfl,ay,rfl⟩:=hrel
    rcases gk with _ | j2
    ·obtain rfl:k=N:=by omega
     go_wp2
     go_roundg j
     case measure=>omega
     case rel=>exact ⟨i+1,by go_num,by omega,rfl⟩
    ·have aj:k<N:=by omega
     obtain ⟨s,aw,av,aq⟩:=HK.out k aj
     have t3:decide (s<0)=false:=zA (by omega)
     have t4:decide ((2:Int)^d<=s)=false:=zA (by omega)
     go_wp2
     go_roundg j2
     case measure=>omega
     case rel=>exact ⟨k+1,by go_num,by omega,rfl⟩
theorem alike_yes {w:World} {p q:PicD} {g o:Nat} {B:Nat->Option Addr} {c:Nat->Nat} {G:List Nat} (cap:Nat) (h:PicAt w p g o B c G)
  {g' o':Nat} {B':Nat->Option Addr} {c':Nat->Nat} {G':List Nat} (cap':Nat) (h':PicAt w q g' o' B' c' G') (ha:AlikeD p q) :
  Calls Tryz.prog 50 #[picV p g o cap,picV q g' o' cap'] w fun e w'=>e=.returned (.bool true)/\Chg [] w w':=by
 have ah:=fun w' (hc:Chg [] w w')=>is_yes cap (h.same hc)
 have ae:=fun w' (hc:Chg [] w w')=>is_yes cap' (h'.same hc)
 unfold picV at ah ae ⊢
 rw [<-ha.W,<-ha.H,<-ha.d,<-ha.n] at ae ⊢
 obtain ⟨W,hW⟩:=zX (p.W)
 obtain ⟨H,hH⟩:=zX (p.H)
 obtain ⟨d,hd⟩:=zX (p.d)
 obtain ⟨n,hn⟩:=zX (p.P.length)
 rw [<-hW,<-hH,<-hd,<-hn] at ah ae ⊢
 obtain ⟨w1,af⟩:=zX ((w.alloc (.cells #[.int .i64 W,.int .i64 H,.int .i64 d,.slice (some ⟨g,o,none⟩) n cap] 25)).alloc (.cells #[.int .i64 W,.int .i64 H,.int .i64 d,.slice (some ⟨g',o',none⟩) n cap'] 25))
 have ao:Chg [] w w1:=by rw [af];exact ((zR [] w).alloc _).alloc _
 obtain ⟨bb,aj⟩:=zX (w.heap.size)
 have al:Blk w1 bb 25 #[.int .i64 W,.int .i64 H,.int .i64 d,.slice (some ⟨g,o,none⟩) n cap]:=by rw [af,aj];exact (Blk.new w _ _).alloc _
 have ad:Blk w1 (bb+1) 25 #[.int .i64 W,.int .i64 H,.int .i64 d,.slice (some ⟨g',o',none⟩) n cap']:=by rw [af,aj];exact Blk.new2 w _ _ _
 have ar:=hid af
 have am:=hid aj
 have ai:=hid al
 have ac:=hid ad
 have an:=hid ao
 have ap:=hid ah
 have aq:=hid ae
 clear hW hH hd hn af aj al ad ao h h' ah ae ha
 go_enter Tryz.func50,Tryz.ntmps50
 go_wp2_with fail
 rw [<-ar.out]
 refine (ap.out w1 an.out).mono ?_
 rintro e w2 ⟨rfl,aa⟩
 have ag:=hid (an.out.trans_same aa)
 have d0:=(ac.out.chg aa (by simp)).cell 0
 have d1:=(ac.out.chg aa (by simp)).cell 1
 have d2:=(ac.out.chg aa (by simp)).cell 2
 have d3:=(ac.out.chg aa (by simp)).cell 3
 simp at d0 d1 d2 d3
 rw [am.out] at d0 d1 d2 d3
 go_wp2_with fail
 refine (aq.out w2 ag.out).mono ?_
 rintro e w3 ⟨rfl,ab⟩
 have ak:=hid (ag.out.trans_same ab)
 have c0:=((ai.out.chg aa (by simp)).chg ab (by simp)).cell 0
 have c1:=((ai.out.chg aa (by simp)).chg ab (by simp)).cell 1
 have c2:=((ai.out.chg aa (by simp)).chg ab (by simp)).cell 2
 have c3:=((ai.out.chg aa (by simp)).chg ab (by simp)).cell 3
 have d0:=((ac.out.chg aa (by simp)).chg ab (by simp)).cell 0
 have d1:=((ac.out.chg aa (by simp)).chg ab (by simp)).cell 1
 have d2:=((ac.out.chg aa (by simp)).chg ab (by simp)).cell 2
 have d3:=((ac.out.chg aa (by simp)).chg ab (by simp)).cell 3
 simp at c0 c1 c2 c3 d0 d1 d2 d3
 rw [am.out] at c0 c1 c2 c3 d0 d1 d2 d3
 clear aa ab
 go_wp2
 go_ret
 exact ⟨rfl,ak.out⟩
theorem alike_zero {w:World} {p:PicD} {g o:Nat} {B:Nat->Option Addr} {c:Nat->Nat} {G:List Nat} (cap:Nat) (h:PicAt w p g o B c G) :
  Calls Tryz.prog 50 #[picV p g o cap,.agg #[.int .i64 0,.int .i64 0,.int .i64 0,.slice none 0 0]] w fun e w'=>e=.returned (.bool false)/\Chg [] w w':=by
 have ae:=fun w' (hc:Chg [] w w')=>is_yes cap (h.same hc)
 have am:=fun w'=>is_zero w'
 unfold picV at ae ⊢
 obtain ⟨W,hW⟩:=zX (p.W)
 obtain ⟨H,hH⟩:=zX (p.H)
 obtain ⟨d,hd⟩:=zX (p.d)
 obtain ⟨n,hn⟩:=zX (p.P.length)
 rw [<-hW,<-hH,<-hd,<-hn] at ae ⊢
 obtain ⟨w1,ad⟩:=zX ((w.alloc (.cells #[.int .i64 W,.int .i64 H,.int .i64 d,.slice (some ⟨g,o,none⟩) n cap] 25)).alloc (.cells #[.int .i64 0,.int .i64 0,.int .i64 0,.slice none 0 0] 25))
 have ai:Chg [] w w1:=by rw [ad];exact ((zR [] w).alloc _).alloc _
 have ab:Blk w1 (w.heap.size+1) 25 #[.int .i64 0,.int .i64 0,.int .i64 0,.slice none 0 0]:=by rw [ad];exact Blk.new2 w _ _ _
 have al:=hid ad
 have ac:=hid ab
 have ah:=hid ai
 have ak:=hid ae
 clear hW hH hd hn ad ab ai h ae
 go_enter Tryz.func50,Tryz.ntmps50
 go_wp2_with fail
 rw [<-al.out]
 refine (ak.out w1 ah.out).mono ?_
 rintro e w2 ⟨rfl,aa⟩
 have af:=hid (ah.out.trans_same aa)
 have d0:=(ac.out.chg aa (by simp)).cell 0
 have d1:=(ac.out.chg aa (by simp)).cell 1
 have d2:=(ac.out.chg aa (by simp)).cell 2
 have d3:=(ac.out.chg aa (by simp)).cell 3
 simp at d0 d1 d2 d3
 go_wp2_with fail
 refine (am w2).mono ?_
 rintro e w3 ⟨rfl,aj⟩
 have ag:=hid (af.out.trans_same aj)
 clear aa aj
 go_wp2
 go_ret
 exact ⟨rfl,ag.out⟩
end Go.Proofs.YtklocammllljiaaGreatDoor
