/- package match by its contracts: reading (getNumber, getToken, grow). -/
import Derived.Test.YtijpbkakncglgaaGreatDoorMg19
import Derived.Test.YtijpbkakncglgaaGreatDoorMg32
set_option linter.unusedVariables false
set_option linter.unusedSimpArgs false
set_option maxHeartbeats 2000000
set_option maxRecDepth 100000
namespace Go.Proofs.YtijpbkakncglgaaGreatDoor
open Go.RowKit
theorem rnumber_ok (w:World) (b:Nat) (F ds:List Nat) (p k most u:Nat) (h:IsRd w b F ds p) (hk:k≤25) (hu:u≤most) (hm:most≤65536) (ha:Ahead ds p (rbits k (unfoldI u))) :
  Calls Tryz.prog 153 #[.pointer (some ⟨b,0,none⟩),.int .i64 k,.int .i64 most] w fun e w'=>e=.returned (.tuple #[.int .i64 u,.int .i64 0])∧IsRd w' b F ds (p+(rbits k (unfoldI u)).length)∧Chg [b] w w':=by
 have hwd:=unfoldI_wide (u:=u) (by omega)
 have hg:=rgets_ok w b F ds p k [unfoldI u] h hk (fun z hz=>by rw [List.mem_singleton.1 hz];exact hwd) (by simp) (by simpa [rbitsAll] using ha)
 rw [show (([unfoldI u]:List Int).length:Int)=1 from rfl] at hg
 have hrl:(rbitsAll k [unfoldI u]).length=(rbits k (unfoldI u)).length:=by simp [rbitsAll]
 rw [hrl] at hg
 have hfo:=fun w'=>rfold_ok (unfoldI u) w' hwd
 rw [rfold_unfoldI] at hfo
 have t1:decide ((u:Int)≤(most:Int))=true:=decide_eq_true (by omega)
 have t1':decide (u≤most)=true:=decide_eq_true (by omega)
 have hw1:IntKind.u64.wrap (most:Int)=(most:Int):=IntWalk.u64_in _ (by omega)
 have hw2:IntKind.i64.wrap (u:Int)=(u:Int):=IntWalk.i64_in _ (by omega)
 generalize unfoldI u=x at *
 generalize (rbits k x).length=q at *
 clear h ha hrl
 go_enter Tryz.func153,Tryz.ntmps153
 go_wp2_with fail
 refine hg.mono ?_
 rintro e w1 ⟨v,G,rfl,own,hr1,ch1,hG⟩
 rcases own.cases with ⟨_,hnil,_⟩ | ⟨g4,row4,rfl⟩
 ·exfalso
  have:=congrArg List.length hnil
  simp at this
 obtain ⟨c4,rfl,_,_,hcell4,_⟩:=row4.open_map
 have e0:=hcell4 0 x rfl
 have e0':w1.cell? ⟨g4,0,none⟩=some (.int .i64 x):=e0
 rw [show (([x]:List Int).length)=1 from rfl]
 have hfo1:=hfo w1
 clear hg own row4 hcell4 e0 hfo
 go_wp2_with fail
 refine hfo1.mono ?_
 rintro e w' ⟨rfl,rfl⟩
 go_wp2
 go_ret2
 exact ⟨rfl,hr1,ch1⟩
theorem rtoken_ok (w:World) (b:Nat) (F ds:List Nat) (p k j W d:Nat) (t:Tok) (h:IsRd w b F ds p) (hp:Pts w) (h0F:0∉F) (hk:k≤25) (hj:j≤25) (hw0:1≤W) (hw1:W≤64) (hd:d≤16) (ht:TokOk d t) (ha:Ahead ds p (tokBits k j W d t)) :
  Calls Tryz.prog 104 #[.pointer (some ⟨b,0,none⟩),.int .i64 k,.int .i64 j,.int .i64 W,.int .i64 d] w fun e w'=>e=.returned (.tuple #[tokV t,.int .i64 0])∧IsRd w' b F ds (p+(tokBits k j W d t).length)∧Chg [b] w w':=by
 obtain ⟨br,hbr⟩:∃ br,br=w.heap.size:=⟨_,rfl⟩
 obtain ⟨w0,hw0'⟩:∃ w0,w0=w.alloc (.cells #[.int .i64 0,.int .i64 0,.int .i64 0] 132):=⟨_,rfl⟩
 have hb0:Blk w0 br 132 #[.int .i64 0,.int .i64 0,.int .i64 0]:=by rw [hw0',hbr];exact Blk.new w _ _
 have ch0:Chg [] w w0:=by rw [hw0'];exact (Chg.refl [] w).alloc _
 have hr0:=h.same ch0
 have hp0:=hp.same ch0
 have hbb:br∉F:=fun hm=>by have:=h.lt _ hm;omega
 have hbbr:b≠br:=by have:=h.lt b h.mem;omega
 have hbF:=h.mem
 have HW0:=hid hw0'
 have HBR:=hid hbr
 clear hw0' hbr h hp
 unfold tokBits at ha ⊢
 rcases ht with ⟨hl,hx0,hx1⟩ | ⟨hl,hc⟩
 ·rw [if_pos hl] at ha ⊢
  have hli:=Tok.isLit_iff.1 hl
  obtain ⟨a,c,x⟩:=t
  obtain ⟨rfl,rfl⟩:a=0∧c=0:=hli
  simp only at hx0 hx1 ha ⊢
  have htv:tokV ⟨0,0,x⟩=.agg #[.int .i64 0,.int .i64 0,.int .i64 x]:=rfl
  rw [htv]
  obtain ⟨X,hX⟩:∃ X:Nat,X=x.toNat:=⟨_,rfl⟩
  have hxX:x=(X:Int):=by omega
  have hXd:X<2^d:=by
   have e:(2:Int)^d=((2^d:Nat):Int):=by simp
   rw [e,hxX] at hx1
   omega
  have hX16:X<65536:=Nat.lt_of_lt_of_le hXd (show 2^d≤2^16 from Nat.pow_le_pow_right (by decide) hd)
  rw [←hX] at ha ⊢
  rw [hxX]
  have hg1:=rget_ahead w0 b F ds p 1 0 hr0 (by omega) (by decide) ha.left
  have ha2:=ha.right
  rw [bitsOf_len] at ha2
  have hg2:=fun w' (hr:IsRd w' b F ds (p+1))=>rget_ahead w' b F ds (p+1) d X hr (by omega) hXd ha2
  rw [List.length_append,bitsOf_len,bitsOf_len]
  have hw2:IntKind.i64.wrap (X:Int)=(X:Int):=IntWalk.i64_in _ (by omega)
  have HG2:=hid hg2
  clear hX hxX hXd hx0 hx1 ha ha2 hg2 hl htv
  go_enter Tryz.func104,Tryz.ntmps104
  go_wp2_with fail
  rw [←HW0.out,←HBR.out]
  refine hg1.mono ?_
  rintro e w1 ⟨rfl,hr1,ch1⟩
  have hb1:=hb0.chg ch1 (by simpa using hbbr.symm)
  clear hg1 hr0
  go_wp2_with fail
  refine (HG2.out w1 hr1).mono ?_
  rintro e w2 ⟨rfl,hr2,ch2⟩
  have hb2:=hb1.chg ch2 (by simpa using hbbr.symm)
  have q0:=hb2.cell 0
  have q1:=hb2.cell 1
  have q2:=hb2.cell 2
  have z0:=hb2.frozen 0
  have z1:=hb2.frozen 1
  have z2:=hb2.frozen 2
  simp at q0 q1 q2
  obtain ⟨wF,hwF⟩:∃ wF,wF=((w2.setCell ⟨br,0,none⟩ (.int .i64 0)).setCell ⟨br,1,none⟩ (.int .i64 0)).setCell ⟨br,2,none⟩ (.int .i64 (X:Int)):=⟨_,rfl⟩
  have hbF':Blk wF br 132 #[.int .i64 0,.int .i64 0,.int .i64 (X:Int)]:=by
   rw [hwF]
   simpa using ((hb2.set_ 0 (.int .i64 0)).set_ 1 (.int .i64 0)).set_ 2 (.int .i64 (X:Int))
  have hfar:Chg [br] w2 wF:=by rw [hwF];exact (((Chg.refl [br] w2).setCell (.inl (by simp)) _).setCell (.inl (by simp)) _).setCell (.inl (by simp)) _
  have f0:=hbF'.cell 0
  have f1:=hbF'.cell 1
  have f2:=hbF'.cell 2
  simp at f0 f1 f2
  have HWF:=hid hwF
  clear hwF hbF' hb1
  go_wp2_with (go_at_call 60;refine (err_ok _ b F ds _ hr2).mono ?_;rintro e w' ⟨rfl,rfl⟩)
  rw [←HWF.out]
  refine bodyPost_ret (v:=.tuple #[.agg #[.int .i64 0,.int .i64 0,.int .i64 (X:Int)],.int .i64 0]) (by simp [results,Tryz.results104,go_sem,f0,f1,f2]) rfl ?_
  exact ⟨rfl,(hr2.cast (by omega)).chg hfar (fun z hz hm=>by simp at hm;exact hbb (hm ▸ hz)),(((ch0.mono (by simp)).trans_same ch1).trans_same ch2).trans hfar (fun z hz => .inr (by simp at hz;have:=HBR.out;omega))⟩
 ·rw [if_neg (by simp [hl])] at ha ⊢
  have hci:=Tok.isCopy_iff.1 hc
  obtain ⟨n,c,x⟩:=t
  obtain ⟨hn3,hn64,hc1,hc1024,rfl⟩:3≤n∧n≤64∧1≤c∧c≤1024∧x=0:=hci
  have htv:tokV ⟨n,c,0⟩=.agg #[.int .i64 n,.int .i64 c,.int .i64 0]:=rfl
  rw [htv]
  have hcn:=codeN_ok (d:=c) (W:=W) hc1
  have hg1:=rget_ahead w0 b F ds p 1 1 hr0 (by omega) (by decide) ha.left.left
  have ha2:=ha.left.right
  have ha3:=ha.right
  have e2:lenOf ⟨n,c,0⟩=unfoldI (n-3):=rfl
  have e3:codeOf W ⟨n,c,0⟩=unfoldI (codeN c W-1):=rfl
  rw [List.length_append,bitsOf_len,e2] at ha3
  rw [bitsOf_len,e2] at ha2
  rw [e3] at ha3
  have hg2:=fun w' (hr:IsRd w' b F ds (p+1))=>rnumber_ok w' b F ds (p+1) k 61 (n-3) hr hk (by omega) (by decide) ha2
  have hg3:=fun w' (hr:IsRd w' b F ds (p+(1+(rbits k (unfoldI (n-3))).length)))=>rnumber_ok w' b F ds _ j 1047 (codeN c W-1) hr hj (by omega) (by decide) ha3
  rw [List.length_append,List.length_append,bitsOf_len,e2,e3]
  have hnear:=fun w' (hp:Pts w')=>mnear_ok (codeN c W) W w' hp hcn.1.1 (by omega) hw0 hw1
  rw [hcn.2] at hnear
  obtain ⟨cd,hcd⟩:∃ cd,cd=codeN c W:=⟨_,rfl⟩
  rw [←hcd] at hg3 hnear hcn ⊢
  obtain ⟨c0,hc0⟩:∃ c0,c0=cd-1:=⟨_,rfl⟩
  have hcc:(c0:Int)+1=(cd:Int):=by omega
  rw [←hc0] at hg3 ⊢
  obtain ⟨n0,hn0⟩:∃ n0,n0=n-3:=⟨_,rfl⟩
  have hnn:(n0:Int)+3=(n:Int):=by omega
  rw [←hn0] at hg2 hg3 ⊢
  generalize (rbits k (unfoldI n0)).length=q1 at *
  generalize (rbits j (unfoldI c0)).length=q2 at *
  rw [show ((61:Nat):Int)=61 from rfl] at hg2
  rw [show ((1047:Nat):Int)=1047 from rfl] at hg3
  have t1:(((1:Nat):Int)==0)=false:=rfl
  have hcd11:cd≤1048:=by omega
  have HG2:=hid hg2
  have HG3:=hid hg3
  have HNR:=hid hnear
  clear ha ha2 ha3 hg2 hg3 hnear hcd hc0 hn0 e2 e3 hl hc htv hcn
  go_enter Tryz.func104,Tryz.ntmps104
  go_wp2_with fail
  rw [←HW0.out,←HBR.out]
  refine hg1.mono ?_
  rintro e w1 ⟨rfl,hr1,ch1⟩
  have hb1:=hb0.chg ch1 (by simpa using hbbr.symm)
  have hp1:=hp0.chg ch1 (fun hm=>by simp at hm;exact h0F (hm ▸ hbF))
  clear hg1 hr0
  go_wp2_with fail
  refine (HG2.out w1 hr1).mono ?_
  rintro e w2 ⟨rfl,hr2,ch2⟩
  have hb2:=hb1.chg ch2 (by simpa using hbbr.symm)
  have hp2:=hp1.chg ch2 (fun hm=>by simp at hm;exact h0F (hm ▸ hbF))
  go_wp2_with fail
  refine (HG3.out w2 (hr2.cast (by omega))).mono ?_
  rintro e w3 ⟨rfl,hr3,ch3⟩
  have hb3:=hb2.chg ch3 (by simpa using hbbr.symm)
  have hp3:=hp2.chg ch3 (fun hm=>by simp at hm;exact h0F (hm ▸ hbF))
  go_wp2_with fail
  refine (HNR.out w3 hp3).mono ?_
  rintro e w4' ⟨rfl,n4,rfl⟩
  obtain ⟨w4,hw4⟩:∃ w4,w4=w3.drewN n4:=⟨_,rfl⟩
  have ch4:Chg [] w3 w4:=by rw [hw4];exact (Chg.refl [] w3).drewN n4
  rw [←hw4]
  have hb4:=hb3.chg ch4 (by simp)
  have q0:=hb4.cell 0
  have q1':=hb4.cell 1
  have q2':=hb4.cell 2
  have z0:=hb4.frozen 0
  have z1:=hb4.frozen 1
  have z2:=hb4.frozen 2
  simp at q0 q1' q2'
  obtain ⟨wF,hwF⟩:∃ wF,wF=((w4.setCell ⟨br,0,none⟩ (.int .i64 (n:Int))).setCell ⟨br,1,none⟩ (.int .i64 (c:Int))).setCell ⟨br,2,none⟩ (.int .i64 0):=⟨_,rfl⟩
  have hbF':Blk wF br 132 #[.int .i64 (n:Int),.int .i64 (c:Int),.int .i64 0]:=by
   rw [hwF]
   simpa using ((hb4.set_ 0 (.int .i64 (n:Int))).set_ 1 (.int .i64 (c:Int))).set_ 2 (.int .i64 0)
  have hfar:Chg [br] w4 wF:=by rw [hwF];exact (((Chg.refl [br] w4).setCell (.inl (by simp)) _).setCell (.inl (by simp)) _).setCell (.inl (by simp)) _
  have f0:=hbF'.cell 0
  have f1:=hbF'.cell 1
  have f2:=hbF'.cell 2
  simp at f0 f1 f2
  have HWF:=hid hwF
  have hr4:=hr3.same ch4
  clear hwF hbF' hb1 hb2 hb3 hw4
  go_wp2_with fail
  rw [←HWF.out]
  refine bodyPost_ret (v:=.tuple #[.agg #[.int .i64 (n:Int),.int .i64 (c:Int),.int .i64 0],.int .i64 0]) (by simp [results,Tryz.results104,go_sem,f0,f1,f2]) rfl ?_
  exact ⟨rfl,(hr4.cast (by omega)).chg hfar (fun z hz hm=>by simp at hm;exact hbb (hm ▸ hz)),(((((ch0.mono (by simp)).trans_same ch1).trans_same ch2).trans_same ch3).trans ch4 (by simp)).trans hfar (fun z hz => .inr (by simp at hz;have:=HBR.out;omega))⟩
theorem grow_ok (w:World) (l:List Int) (v:Value) (F:List Nat) (i:Nat) (t:Tok) (ho:Own w 3 v F ((l.take i).map vi)) (hl:l.length≤4096) (hil:i<l.length) (ht:TokAt l i t) (hok:t.ok) :
  Calls Tryz.prog 105 #[v,tokV t] w fun e w'=>∃ v' F',e=.returned v'∧Own w' 3 v' F' ((l.take (i+max t.len 1)).map vi)∧Grow F F' w w':=by
 obtain ⟨bt,hbt⟩:∃ bt,bt=w.heap.size:=⟨_,rfl⟩
 have hli:=fun w'=>isLit_ok t w'
 have htk:(l.take i).length=i:=by rw [List.length_take];omega
 have HLT:=hid ho.lt
 rcases ht with ⟨h1,h2,h3⟩ | ⟨h1,h2,h3,h4,h5⟩
 ·have hlit:t.isLit=true:=Tok.isLit_iff.2 ⟨h1,h2⟩
  rw [hlit] at hli
  obtain ⟨a,c,x⟩:=t
  simp only at h1 h2 h3
  subst h1 h2
  have htv:tokV ⟨0,0,x⟩=.agg #[.int .i64 0,.int .i64 0,.int .i64 x]:=rfl
  rw [htv] at hli ⊢
  have hnx:l.take (i+max 0 1)=l.take i++[x]:=by
   rw [show i+max 0 1=i+1 by omega,take_snoc' l hil,h3,List.getD_eq_getElem?_getD,List.getElem?_eq_getElem hil]
   rfl
  simp only
  rw [hnx]
  obtain ⟨xs,hxs⟩:∃ xs,xs=l.take i:=⟨_,rfl⟩
  rw [←hxs] at ho htk ⊢
  obtain ⟨w0,hw0⟩:∃ w0,w0=w.alloc (.cells #[.int .i64 0,.int .i64 0,.int .i64 x] 132):=⟨_,rfl⟩
  have hb0:Blk w0 bt 132 #[.int .i64 0,.int .i64 0,.int .i64 x]:=by rw [hw0,hbt];exact Blk.new w _ _
  have ch0:Chg [] w w0:=by rw [hw0];exact (Chg.refl [] w).alloc _
  have ho0:=ho.same ch0
  have q0:=hb0.cell 0
  have q1:=hb0.cell 1
  have q2:=hb0.cell 2
  simp at q0 q1 q2
  have HW0:=hid hw0
  have HBT:=hid hbt
  clear h3 hnx hxs hlit hok htv hw0 hbt ho
  go_enter Tryz.func105,Tryz.ntmps105
  go_wp2_with fail
  rw [←HW0.out]
  refine (hli w0).mono ?_
  rintro e w1 ⟨rfl,ch1⟩
  have q2':=(hb0.chg ch1 (by simp)).cell 2
  simp at q2'
  rw [HBT.out] at q2'
  have ho1:=ho0.same ch1
  clear hli q0 q1 q2 hb0 ho0
  go_wp2_with (at_builtin;refine wpList_append_o1 rfl rfl int_elem rfl rfl (ho1.alloc _) (.int .i64 x) rfl ?c1 ?c2 ?c3 ?c4 ?_)
  case c1=>simp [go_sem]
  case c2=>rfl
  case c3=>rw [List.length_map];omega
  case c4=>rw [List.length_map];omega
  intro g2 cap2 w2 hr2 gr2
  go_wp2_with fail
  go_ret
  exact ⟨_,[g2],rfl,by have:=hr2.toOwn;simpa [vi] using this,Grow.pre ((ch0.trans_same ch1).alloc _) gr2⟩
 ·have hlit:t.isLit=false:=by
   cases hq:t.isLit with
   | false=>rfl
   | true=>have := Tok.isLit_iff.1 hq;omega
  rw [hlit] at hli
  have hcp:=Tok.isCopy_iff.1 (by rcases hok with h | h;rw [hlit] at h;cases h;exact h)
  obtain ⟨n,c,x⟩:=t
  simp only at h1 h2 h3 h4 h5 hcp
  obtain rfl:x=0:=hcp.2.2.2.2
  have htv:tokV ⟨n,c,0⟩=.agg #[.int .i64 n,.int .i64 c,.int .i64 0]:=rfl
  rw [htv] at hli ⊢
  have hmx:i+max n 1=i+n:=by omega
  simp only
  rw [hmx]
  obtain ⟨w0,hw0⟩:∃ w0,w0=w.alloc (.cells #[.int .i64 n,.int .i64 c,.int .i64 0] 132):=⟨_,rfl⟩
  have hb0:Blk w0 bt 132 #[.int .i64 n,.int .i64 c,.int .i64 0]:=by rw [hw0,hbt];exact Blk.new w _ _
  have ch0:Chg [] w w0:=by rw [hw0];exact (Chg.refl [] w).alloc _
  have ho0:=ho.same ch0
  have q0:=hb0.cell 0
  have q1:=hb0.cell 1
  have q2:=hb0.cell 2
  simp at q0 q1 q2
  have HW0:=hid hw0
  have HBT:=hid hbt
  have H5:=hid h5
  clear hmx hlit hok htv hw0 hbt ho h5
  go_enter Tryz.func105,Tryz.ntmps105
  go_wp2_with fail
  rw [←HW0.out]
  refine (hli w0).mono ?_
  rintro e w1 ⟨rfl,ch1⟩
  have hb1:=hb0.chg ch1 (by simp)
  have q0':=hb1.cell 0
  simp at q0'
  rw [HBT.out] at q0'
  have ho1:=ho0.same ch1
  have gr1:Grow F F w w1:=(Grow.refl F w).same (ch0.trans_same ch1)
  have hbtF:bt∉F:=fun hm=>by have:=HLT.out _ hm;have:=HBT.out;omega
  clear hli q0 q1 q2 hb0 ho0
  go_wp2_with fail
  go_loopg [0,14] n (fun k vl iv wr=>∃ (m:Nat) (F':List Nat),iv=.int .i64 (m:Int)∧m+k=n∧Own wr 3 vl F' ((l.take (i+m)).map vi)∧Blk wr bt 132 #[.int .i64 n,.int .i64 c,.int .i64 0]∧bt∉F'∧Grow F F' w wr)
  case atStart=>exact ⟨0,F,rfl,by omega,ho1,hb1,hbtF,gr1⟩
  case round =>
   clear ho1 hb1 hbtF gr1 q0'
   obtain ⟨m,F',rfl,hmk,hown,hblk,hbF,hgr⟩:=hrel
   rcases gk with _ | k
   ·obtain rfl:n=m:=by omega
    have t5:decide ((n:Int)<(n:Int))=false:=by simp
    have t5':decide (n<n)=false:=by simp
    obtain ⟨A,cap,rfl,_,_,_⟩:=hown.open_map
    go_wp2_with fail
    go_ret
    exact ⟨_,F',rfl,hown,hgr⟩
   ·have hmn:m<n:=by omega
    have t5:decide ((m:Int)<(n:Int))=true:=decide_eq_true (by omega)
    have t5':decide (m<n)=true:=decide_eq_true hmn
    have htl:(l.take (i+m)).length=i+m:=by rw [List.length_take];omega
    obtain ⟨q,hq⟩:∃ q,q=i+m-c:=⟨_,rfl⟩
    have hqi:q<i+m:=by omega
    obtain ⟨A,cap,rfl,hcl,hcm,hcells⟩:=hown.open_map
    obtain ⟨ga,oa,rfl,hcell⟩:=hcells.at_ (m:=q) (by rw [htl];exact hqi)
    have hqv:(l.take (i+m))[q]=l.getD (i+m) 0:=by
     rw [H5.out m hmn,←hq,List.getElem_take,List.getD_eq_getElem?_getD,List.getElem?_eq_getElem (by omega)]
     rfl
    rw [hqv] at hcell
    have him:i+m<l.length:=by omega
    have htk2:=take_snoc' l him
    have hyv:l[i+m]=l.getD (i+m) 0:=by rw [List.getD_eq_getElem?_getD,List.getElem?_eq_getElem him];rfl
    rw [hyv] at htk2
    generalize l.getD (i+m) 0=y at *
    have hcell':wr.cell? ⟨ga,oa+q,none⟩=some (.int .i64 y):=hcell
    obtain ⟨im,him2⟩:∃ im,im=i+m:=⟨_,rfl⟩
    rw [←him2] at htl hown htk2 hqi hcells hcl
    obtain ⟨xs,hxs⟩:∃ xs,xs=l.take im:=⟨_,rfl⟩
    rw [←hxs] at htl hown htk2 hcl hcells
    have eq1:(im:Int)-(c:Int)=(q:Int):=by omega
    have c1':=hblk.cell 1
    simp at c1'
    rw [HBT.out] at c1'
    rw [htl] at hown hcl
    have hal:=hown.alloc (.cells #[.int .i64 y] 3)
    have HTK:=hid htk2
    have HIM:=hid him2
    have him4:im≤4096:=by omega
    rw [←him2,←hxs,htl]
    clear hcell hqv hyv htk2 him2 hxs hcells hq him
    go_wp2_with (at_builtin;refine wpList_append_o1 rfl rfl int_elem rfl rfl hal (.int .i64 y) rfl ?c1 ?c2 ?c3 ?c4 ?_)
    case c1=>simp [go_sem]
    case c2=>rfl
    case c3=>rw [List.length_map];omega
    case c4=>rw [List.length_map];omega
    intro g2 cap2 w2 hr2 gr2
    go_wp2_with fail
    go_roundg k
    case measure=>omega
    case rel =>
     have hgF:g2∉F'∨g2∈F':=by by_cases hh:g2∈F'<;>simp [hh]
     have hbg:bt∉[g2]:=fun hm=>by
      simp at hm
      rcases gr2.new g2 (by simp) with h9 | h9
      ·exact hbF (hm ▸ h9)
      ·have:=hblk.lt;simp at h9;omega
     have e1:i+(m+1)=im+1:=by have:=HIM.out;omega
     refine ⟨m+1,[g2],by go_num,by omega,?_,(Blk.alloc hblk _).chg gr2.chg hbF,hbg,(hgr.alloc _).trans gr2⟩
     rw [e1,HTK.out,List.map_append]
     have:=hr2.toOwn
     exact this
theorem mtget_ok (w:World) (b:Nat) (F ds:List Nat) (p:Nat) (l:List Int) (W d:Nat) (T:List Tok) (h:IsRd w b F ds p) (hp:Pts w) (h0F:0∉F) (hw0:1≤W) (hw1:W≤64) (h0:1≤d) (h1:d≤16) (hl:l.length≤4096) (hT:ToksFrom l 0 T) (hok:∀ t∈T,TokOk d t) (ha:Ahead ds p (matchBits T W d)) :
  Calls Tryz.prog 79 #[.pointer (some ⟨b,0,none⟩),.int .i64 l.length,.int .i64 W,.int .i64 d] w fun e w'=>∃ v G,e=.returned (.tuple #[v,.int .i64 0])∧Own w' 3 v G (l.map vi)∧IsRd w' b F ds (p+(matchBits T W d).length)∧Chg [b] w w'∧∀ x∈G,w.heap.size≤x:=by
 have hmb:matchBits T W d=bitsOf (rbest (copyLens T)) 5++bitsOf (rbest (copyCodes W T)) 5++T.flatMap (tokBits (rbest (copyLens T)) (rbest (copyCodes W T)) W d):=rfl
 rw [hmb] at ha ⊢
 rw [List.length_append,List.length_append,bitsOf_len,bitsOf_len]
 have hk:=rbest_le (copyLens T)
 have hj:=rbest_le (copyCodes W T)
 generalize rbest (copyLens T)=k at *
 generalize rbest (copyCodes W T)=j at *
 have hg1:=rget_ahead w b F ds p 5 k h (by omega) (by omega) ha.left.left
 have ha2:=ha.left.right
 have ha3:=ha.right
 rw [bitsOf_len] at ha2
 rw [List.length_append,bitsOf_len,bitsOf_len] at ha3
 have hg2:=fun w' (hr:IsRd w' b F ds (p+5))=>rget_ahead w' b F ds (p+5) 5 j hr (by omega) (by omega) ha2
 obtain ⟨n,hn⟩:∃ n,n=l.length:=⟨_,rfl⟩
 rw [←hn] at hl ⊢
 have t1:decide ((W:Int)<1)=false:=decide_eq_false (by omega)
 have t2:decide ((64:Int)<(W:Int))=false:=decide_eq_false (by omega)
 have t3:decide ((d:Int)<1)=false:=decide_eq_false (by omega)
 have t4:decide ((16:Int)<(d:Int))=false:=decide_eq_false (by omega)
 have t5:decide ((n:Int)<0)=false:=decide_eq_false (by omega)
 have t6:decide ((4096:Int)<(n:Int))=false:=decide_eq_false (by omega)
 have t7:decide ((25:Int)<(k:Int))=false:=decide_eq_false (by omega)
 have t8:decide ((25:Int)<(j:Int))=false:=decide_eq_false (by omega)
 have hmk:=run_make_room (P:=Tryz.prog) int_elem rfl .i64 .i64 n (by omega) (by omega)
 have hbl:=h.lt b h.mem
 have HN:=hid hn
 have HA:=hid ha3
 have HT:=hid hT
 have HOK:=hid hok
 have HG2:=hid hg2
 have HLT:=hid h.lt
 have HP:=hid hp
 have HB0:Hid (0∉[b]):=hid (by simp;intro e;exact h0F (e ▸ h.mem))
 clear hn ha3 hT hok hg2 ha ha2 hmb hp h
 go_enter Tryz.func79,Tryz.ntmps79
 go_wp2_with fail
 refine hg1.mono ?_
 rintro e w1 ⟨rfl,hr1,ch1⟩
 clear hg1
 go_wp2_with fail
 refine (HG2.out w1 hr1).mono ?_
 rintro e w2 ⟨rfl,hr2,ch2⟩
 have hrow0:=Row.room w2 n (by omega)
 obtain ⟨B,hB⟩:∃ B,B=w2.heap.size:=⟨_,rfl⟩
 have chA:Chg [] w2 (w2.alloc (.cells (List.replicate n (Value.int .i64 0)).toArray 3)):=(Chg.refl [] w2).alloc _
 have hr3:=hr2.same chA
 have ch3:=(ch1.trans_same ch2).trans chA (by simp)
 have hwB:w.heap.size≤B:=by rw [hB];exact (ch1.trans_same ch2).size
 rw [←hB] at hrow0
 have HB:=hid hB
 clear hr1 ch1 ch2 chA hB
 go_wp2_with (go_at_call 60;refine (err_ok _ b F ds _ hr2).mono ?_;rintro e w' ⟨rfl,rfl⟩)
 rw [←HB.out]
 go_loopg [13,14,15] T.length (fun q vl va vb wr=>∃ (i p':Nat) (R:List Tok) (F':List Nat),R.length=q∧i≤n∧Own wr 3 vl F' ((l.take i).map vi)∧Hid (ToksFrom l i R)∧Hid (∀ t∈R,TokOk d t)∧IsRd wr b F ds p'∧Hid (Ahead ds p' (R.flatMap (tokBits k j W d)))∧Hid (p'+(R.flatMap (tokBits k j W d)).length=p+(5+5)+(T.flatMap (tokBits k j W d)).length)∧Hid (Chg [b] w wr)∧Hid (∀ x∈F',w.heap.size≤x))
 case atStart=>exact ⟨0,p+(5+5),T,[B],rfl,by omega,by simpa using hrow0.toOwn,HT,HOK,hr3.cast (by omega),HA,hid rfl,hid ch3,hid (by simpa using hwB)⟩
 case round =>
  clear hrow0 hr2 hr3 ch3 hwB
  obtain ⟨i,p',R,F',hRq,hin,hown,HTF,HRO,hrd,HAR,HPR,HCH,HF'⟩:=hrel
  obtain ⟨A,cap,rfl,hcl,hcm,hcells⟩:=hown.open_map
  have htl:(l.take i).length=i:=by rw [List.length_take,←HN.out];omega
  cases R with
  | nil =>
   have hni:n≤i:=by have:=HTF.out;rw [HN.out];exact this
   obtain rfl:n=i:=by omega
   have u1:decide (n<n)=false:=by simp
   have e1:l.take n=l:=by rw [HN.out,List.take_length]
   have hpr:=HPR.out
   rw [htl]
   rw [htl,e1] at hown
   have HPR2:Hid (p'=p+(5+5+(T.flatMap (tokBits k j W d)).length)):=hid (by
    rw [show (([]:List Tok).flatMap (tokBits k j W d))=[] from rfl,List.length_nil] at hpr
    omega)
   clear hpr e1 hcells hcl htl
   go_wp2_with fail
   go_ret2
   exact ⟨_,F',rfl,hown,hrd.cast HPR2.out,HCH.out,HF'.out⟩
  | cons t R =>
   obtain ⟨hi2,hta,htf⟩:=HTF.out
   rcases gk with _ | q
   ·simp at hRq
   have hil:i<n:=by rw [HN.out];exact hi2
   have u1:decide (i<n)=true:=decide_eq_true hil
   have hA1:=HAR.out
   rw [List.flatMap_cons] at hA1
   have htok:=HRO.out t (by simp)
   have hto:=rtoken_ok wr b F ds p' k j W d t hrd (HP.out.chg HCH.out HB0.out) h0F hk hj hw0 hw1 h1 htok hA1.left
   have HA2:=hid hA1.right
   have HTA:=hid hta
   have HTF2:=hid htf
   have HTK:=hid htok
   have hgro:=fun w' v F0 (ho:Own w' 3 v F0 ((l.take i).map vi))=>grow_ok w' l v F0 i t ho (by rw [←HN.out];exact hl) hi2 hta htok.ok
   have hlen2:i+max t.len 1≤n:=by
    rcases hta with ⟨a1,_,_⟩ | ⟨a1,a2,_⟩
    ·rw [a1];omega
    ·rw [←HN.out] at a2;omega
   have hd1:t.dist≤i:=by
    rcases hta with ⟨_,a1,_⟩ | ⟨_,_,_,a1,_⟩
    ·omega
    ·exact a1
   have hd2:t.len≤n-i:=by omega
   have HGR:=hid hgro
   have HLEN:=hid hlen2
   obtain ⟨tl,htle⟩:∃ tl,tl=t.len:=⟨_,rfl⟩
   obtain ⟨td,htde⟩:∃ td,td=t.dist:=⟨_,rfl⟩
   obtain ⟨tx,htxe⟩:∃ tx,tx=t.lit:=⟨_,rfl⟩
   have htv:tokV t=.agg #[.int .i64 tl,.int .i64 td,.int .i64 tx]:=by rw [htle,htde,htxe];rfl
   rw [←htde] at hd1
   rw [←htle] at hd2
   have u2:decide ((i:Int)<(td:Int))=false:=decide_eq_false (by omega)
   have u2':decide (i<td)=false:=decide_eq_false (by omega)
   obtain ⟨ni,hni⟩:∃ ni,ni=n-i:=⟨_,rfl⟩
   have eni:(n:Int)-(i:Int)=(ni:Int):=by omega
   have u3:decide (ni<tl)=false:=decide_eq_false (by omega)
   have HTV:=hid htv
   rw [htl]
   rw [htl] at hown hcl
   rw [htv] at hto
   clear hA1 hi2 hta htf hgro hlen2 htle htde htxe htv hni hcells htok
   go_wp2_with fail
   refine hto.mono ?_
   rintro e w3 ⟨rfl,hrd3,ch3⟩
   have hown3:=hown.chg ch3 (fun x hx hm=>by simp at hm;have:=HF'.out x hx;omega)
   clear hto hrd hown
   have hbk:=Blk.new w3 132 #[.int .i64 tl,.int .i64 td,.int .i64 tx]
   have k0:=hbk.cell 0
   have k1:=hbk.cell 1
   have k2:=hbk.cell 2
   simp at k0 k1 k2
   have hown4:=hown3.alloc (.cells #[.int .i64 tl,.int .i64 td,.int .i64 tx] 132)
   have hgr4:=HGR.out _ _ _ hown4
   rw [HTV.out] at hgr4
   have HRD3:=hid hrd3
   have HCH3:=hid ch3
   clear hown3 hown4 hrd3 ch3 hbk
   go_wp2_with fail
   refine hgr4.mono ?_
   rintro e w5 ⟨v5,F5,rfl,hown5,gr5⟩
   clear hgr4 k0 k1 k2
   go_wp2_with fail
   go_roundg q
   case measure=>omega
   case rel =>
    refine ⟨i+max t.len 1,p'+(tokBits k j W d t).length,R,F5,by simpa using hRq,HLEN.out,hown5,HTF2,hid (fun t' ht'=>HRO.out t' (by simp [ht'])),(HRD3.out.same ((Chg.refl [] w3).alloc _)).chg gr5.chg (fun x hx hm=>by have:=HLT.out x hx;have:=HF'.out x hm;omega),HA2,hid ?_,hid ?_,hid ?_⟩
    ·have:=HPR.out
     rw [List.flatMap_cons,List.length_append] at this
     omega
    ·exact ((HCH.out.trans_same HCH3.out).alloc _).trans gr5.chg (fun x hx => .inr (HF'.out x hx))
    ·intro x hx
     rcases gr5.new x hx with h9 | h9
     ·exact HF'.out x h9
     ·have:=HCH.out.size;have:=HCH3.out.size;simp at h9;omega
end Go.Proofs.YtijpbkakncglgaaGreatDoor
