/- The coder's functions, the second part: Raw, Number, Bytes, start, NewCoder. -/
import Derived.Test.YtijpbkakncglgaaGreatDoorMg20
import Derived.Test.YtijpbkakncglgaaGreatDoorMg25
set_option linter.unusedVariables false
set_option linter.unusedSimpArgs false
set_option maxHeartbeats 2000000
set_option maxRecDepth 100000
namespace Go.Proofs.YtijpbkakncglgaaGreatDoor
open Go.RowKit
theorem raw_ok (w:World) (b g h:Nat) (c:Cod) (v n:Nat) (hc:IsCod 207 w b g h c) (hok:CodOk c) (hn:n≤32) (hv:v<2^n) (hv64:v<18446744073709551616)
  (hlen:c.low.length≤549755813888) :
  Calls Tryz.prog 178 #[.pointer (some ⟨b,0,none⟩),.int .u64 v,.int .i64 n] w fun e w'=>e=.returned (.int .i64 0) ∧
   ∃ g',IsCod 207 w' b g' h (rawL c v n)∧Chg [b,g,h] w w'∧(g'=g∨w.heap.size≤g'):=by
 have t1:decide ((n:Int)<0)=false:=by simp
 have t2:decide ((32:Int)<n)=false:=by simp;omega
 have t3:(((v:Int) / 2^n) != 0)=false:=by
  have:(v:Int) / 2^n=((v / 2^n:Nat):Int):=by simp
  rw [this,Nat.div_eq_of_lt hv]
  rfl
 go_enter Tryz.func178,Tryz.ntmps178
 go_wp2_with fail
 go_loopg [7] n (fun k i wr=>∃ (g':Nat) (c':Cod),i=.int .i64 ((k:Int)-1)∧k≤n∧IsCod 207 wr b g' h c'∧CodOk c'∧Hid (rawL c v n=rawL c' v k) ∧
   c'.low.length+k≤c.low.length+n∧Chg [b,g,h] w wr∧(g'=g∨w.heap.size≤g'))
 case atStart=>exact ⟨g,c,rfl,Nat.le_refl _,hc,hok,hid rfl,Nat.le_refl _,Chg.refl _ _,.inl rfl⟩
 case round =>
  obtain ⟨g',c',rfl,hk,hcr,hokr,Hr,hlr,hchr,hg'⟩:=hrel
  rcases gk with _ | k
  ·have t4:decide ((0:Int)≤((0:Nat):Int)-1)=false:=by simp
   go_wp2
   go_ret
   exact ⟨rfl,g',by rw [Hr.out];exact hcr,hchr,hg'⟩
  ·have e1:(((k+1:Nat):Int)-1)=(k:Int):=by omega
   rw [e1]
   have hbd:=bound_raw hokr
   obtain ⟨vl,vo,hb,hl,ho⟩:=hcr.ex
   have hc1:=hb.cell 1
   simp at hc1
   clear hb hl ho
   have hw2:IntKind.u64.wrap ((c'.W:Int) / 2)=((c'.W / 2:Nat):Int):=by
    have e:(c'.W:Int) / 2=((c'.W / 2:Nat):Int):=by simp
    rw [e]
    exact IntWalk.u64_in _ (by have:=hokr.hi;omega)
   obtain ⟨bit,hbit⟩:∃ bit,bit=v / 2^k%2:=⟨_,rfl⟩
   have hand:bits BinOp.and IntKind.u64 ((v:Int) / 2^k) 1=(bit:Int):=by
    have e:(v:Int) / 2^k=((v / 2^k:Nat):Int):=by simp
    have hle:v / 2^k≤v:=Nat.div_le_self _ _
    rw [e,hbit]
    generalize v / 2^k=q at *
    rw [and_one_u64 _ (by omega) (by omega)]
    simp
   have hbit1:bit=0∨bit=1:=by omega
   have Hstep:Hid (rawL c v n=rawL (codeL c' (c'.W / 2) bit) v k):=by
    refine hid ?_
    rw [Hr.out,hbit]
    rfl
   have hbit2:bit≤1:=by omega
   have Hb1:=hid hbit1
   clear hbit hbit1
   obtain ⟨W2,hW2⟩:∃ W2,W2=c'.W / 2:=⟨_,rfl⟩
   rw [←hW2] at hw2 hbd
   have HW2:=hid hW2
   clear hW2
   go_wp2_with fail
   refine wp_region_quiet_tail 11 (by kernel_rfl) (by kernel_rfl) ?_
   simp only [List.take_succ_cons,List.take_zero,List.drop_succ_cons,List.drop_zero]
   repeat (go_big_quiet_step (fail))
   refine wpQuiet_nil ?_
   intro _ hw'
   obtain ⟨nq,rfl⟩:=hw'
   go_wp2_with fail
   refine (code_any _ b g' h c' W2 bit (hcr.same ((Chg.refl _ _).drewN nq)) hokr hbd Hb1.out (by omega)).mono ?_
   rintro e w1 ⟨rfl,g2,hc2,hch2,hg2⟩
   have hl2:=(codeL_len (c:=c') W2 bit).2
   have hok2:=codeL_ok hokr hbd bit
   have hsz:=hchr.size
   go_wp2_with fail
   go_roundg k
   case measure=>omega
   case rel =>
    refine ⟨g2,_,rfl,by omega,hc2,hok2,?_,by omega,?_,?_⟩
    ·rw [HW2.out];exact Hstep
    ·refine (hchr.drewN nq).trans hch2 ?_
     intro x hx
     simp at hx
     rcases hx with rfl | rfl
     ·exact .inl (by simp)
     ·rcases hg' with rfl | hg'
      ·exact .inl (by simp)
      ·exact .inr hg'
    ·rcases hg2 with rfl | hg2
     ·exact hg'
     ·exact .inr (by have:(wr.drewN nq).heap.size=wr.heap.size:=rfl;omega)
theorem i64_el:Elem Tryz.prog 22 3 (.int .i64 0) 1 8:=.mk' Tryz.underlying22 (by kernel_rfl)
theorem bytes_ok (w:World) (b g h:Nat) (c:Cod) (hc:IsCod 207 w b g h c) (hok:CodOk c) (hlen:c.low.length≤1099511627776) :
  Calls Tryz.prog 132 #[.pointer (some ⟨b,0,none⟩)] w fun e w'=>∃ g' cap,e=.returned (.slice (some ⟨g',0,none⟩) c.low.length cap)∧Row w' 5 (.slice (some ⟨g',0,none⟩) c.low.length cap) g' (c.low.map b8)∧Chg [] w w'∧w.heap.size≤g':=by
 obtain ⟨vl,vo,hb,hl,ho⟩:=hc.ex
 obtain ⟨cap,rfl,hcl,hcm,hcell,hfr⟩:=hl.open_map
 have hcell':∀ j u,(c.low.map b8)[j]?=some u→w.cell? ((⟨g,0,none⟩:Addr).add j)=some u:=(hl.own 0 (Nat.zero_le _)).cells (g:=g) rfl
 have hc0:=hb.cell 0
 simp at hc0
 have h4:=hok.len
 have Hcell:=hid hcell'
 clear hcell hfr hb hl ho hc hok hcell'
 go_enter Tryz.func132,Tryz.ntmps132
 go_wp2_with (at_builtin;refine wpList_append_sl rfl rfl u8_el rfl (by decide) rfl (World.ownsRow_nil _ 0 _ _) (news:=c.low.map b8) rfl ?c1 ?c2 ?c3 ?c4 ?c5 ?c6 ?_)
 case c1=>simp
 case c2=>omega
 case c3=>exact Hcell.out
 case c4=>intro u hu;obtain ⟨d,_,rfl⟩ := List.mem_map.1 hu;rfl
 case c5=>omega
 case c6=>omega
 intro g' cap' w' h1 h2 h3
 go_wp2
 go_ret
 obtain ⟨g'',h5,h6⟩:=Row.of_own h1 rfl
 refine ⟨g',cap',rfl,?_,h2,by simpa [Value.ownBlock] using h3⟩
 simp only [Value.ownBlock] at h6
 injection h6 with h6
 subst h6
 simpa using h5
theorem start_ok (n:Nat) (w:World) (hn:n≤4096) :
  Calls Tryz.prog 155 #[.int .i64 n] w fun e w'=>∃ h,e=.returned (.slice (some ⟨h,0,none⟩) n n)∧Row w' 3 (.slice (some ⟨h,0,none⟩) n n) h ((List.replicate n 2048).map i64)∧Chg [] w w'∧w.heap.size≤h:=by
 have hmk:=run_make1 i64_el rfl .i64 .i64 n (by omega) (by omega)
 go_enter Tryz.func155,Tryz.ntmps155
 go_wp2_with fail
 go_loopg [4,9] n (fun k i j wr=>k≤n∧j=.int .i64 ((n-k:Nat):Int)∧Chg [w.heap.size] w wr ∧
   Row wr 3 (.slice (some ⟨w.heap.size,0,none⟩) n n) w.heap.size ((List.replicate (n-k) 2048++List.replicate k 0).map i64))
 case atStart =>
  refine ⟨Nat.le_refl _,by simp,(Chg.refl _ _).alloc _,?_⟩
  have:=Row.made w 3 (List.replicate n (Value.int .i64 0)) (by simp [maxLen];omega)
  simpa [i64] using this
 case round =>
  obtain ⟨hk,rfl,hch,hrow⟩:=hrel
  rcases gk with _ | k
  ·have t1:decide (((n-0:Nat):Int)<n)=false:=by simp
   go_wp2
   go_ret
   exact ⟨_,rfl,by simpa using hrow,⟨hch.os,hch.tape,hch.output,hch.size,fun x hx _=>hch.block x hx (by simp;omega)⟩,Nat.le_refl _⟩
  ·obtain ⟨m,hm⟩:∃ m,m=n-(k+1):=⟨_,rfl⟩
   rw [←hm] at hrow ⊢
   have hm1:m<n:=by omega
   have hm2:n-k=m+1:=by omega
   have HM:=hid hm2
   clear hm hm2
   have hfr:wr.frozen? ⟨w.heap.size,m,none⟩=false:=by
    obtain ⟨_,_,_,_,_,h2⟩:=hrow.open_map
    exact h2 m
   have hce:wr.cell? ⟨w.heap.size,m,none⟩=some (.int .i64 0):=by
    obtain ⟨_,_,_,_,h2,_⟩:=hrow.open_map
    exact h2 m 0 (by rw [List.getElem?_append_right (by simp)];simp)
   go_wp2
   go_roundg k
   case measure=>omega
   case rel =>
    rw [HM.out]
    refine ⟨by omega,by go_num,hch.setCell (by simp) _,?_⟩
    have h1:=hrow.set_ (i:=m) (by simp) (i64 2048)
    have e:(((List.replicate m 2048++List.replicate (k+1) 0).map i64).set m (i64 2048))=(List.replicate (m+1) 2048++List.replicate k 0).map i64:=by
     rw [←List.map_set,List.set_append_right _ _ (by simp),List.replicate_succ' (n:=m)]
     simp [List.replicate_succ]
    rw [e] at h1
    exact h1
theorem dcode_any (w:World) (b g h:Nat) (D:Dec) (bound:Nat) (hc:IsDec 190 w b g h D) (hok:DecOk D) (hbd:65536≤bound∧bound+65536≤D.W) :
  Calls Tryz.prog 189 #[.pointer (some ⟨b,0,none⟩),.int .u64 bound] w fun e w'=>e=.returned (.int .i64 ((dcode D bound).1:Nat)) ∧
   IsDec 190 w' b g h (dcode D bound).2∧Chg [b] w w':=by
 obtain ⟨vd,vo,hb,hl,ho⟩:=hc.ex
 have hgb:=hl.ne_ hb (by decide)
 have hhb:=ho.ne_ hb (by decide)
 obtain ⟨cap,rfl,hcl,hcm,hcell,-⟩:=hl.open_map
 have c0:=hb.cell 0
 have c1:=hb.cell 1
 have c2:=hb.cell 2
 have c3:=hb.cell 3
 have c5:=hb.cell 5
 have f1:=hb.frozen 1
 have f2:=hb.frozen 2
 have f3:=hb.frozen 3
 have f5:=hb.frozen 5
 simp at c0 c1 c2 c3 c5
 have hpos:=hok.pos
 have hval:=hok.val
 have hhi:=hok.hi
 obtain ⟨hw1,hw2,hw3⟩:=dW_ok hok hbd
 obtain ⟨hb1,hb2⟩:=hbd
 obtain ⟨W1,hW1⟩:∃ W1,W1=dW D bound:=⟨_,rfl⟩
 obtain ⟨V1,hV1⟩:∃ V1,V1=dV D bound:=⟨_,rfl⟩
 obtain ⟨bit,hbit⟩:∃ bit,bit=dbit D bound:=⟨_,rfl⟩
 rw [←hW1] at hw1 hw2 hw3
 rw [←hV1] at hw3
 have hdc:dcode D bound=if W1<16777216 then
  (match D.data[D.pos]? with
   | none=>(0,{ D with err := 3 })
   | some x=>(bit,{ D with V := V1*256+x,W := W1*256,pos := D.pos+1 }))
 else (bit,{ D with V:=V1,W:=W1 }):=by rw [hW1,hV1,hbit];rfl
 have HC:=hid hcell
 have HDC:=hid hdc
 have HW:=hid hW1
 have HV:=hid hV1
 have HB:=hid hbit
 clear hcell hdc hW1 hV1 hbit
 have hB:=hb
 have hL:=hl
 have hO:=ho
 clear hb hl ho hc
 go_enter Tryz.func189,Tryz.ntmps189
 go_wp2
 go_quiet (fail)
 generalize nq=na
 go_upto_if 20 with fail
 go_cut [5,6,7] (fun s5 s6 s7 wx=>s5=.int .i64 bit∧s6=.int .u64 V1∧s7=.int .u64 W1∧∃ nq2,wx=w.drewN nq2)
 case first =>
  by_cases hV:bound≤D.V
  ·have t1:decide (bound≤D.V)=true:=by simpa using hV
   go_wp2
   go_quiet (fail)
   go_wp2
   go_meet
   case rel =>
    refine ⟨?_,?_,?_,na+nq,by simp⟩
    ·rw [HB.out];unfold dbit;rw [if_pos hV];rfl
    ·rw [HV.out];unfold dV;rw [if_pos hV];go_num
    ·rw [HW.out];unfold dW;rw [if_pos hV];go_num
  ·have t1:decide (bound≤D.V)=false:=by simpa using hV
   go_wp2
   go_meet
   case rel =>
    refine ⟨?_,?_,?_,na,rfl⟩
    ·rw [HB.out];unfold dbit;rw [if_neg hV];rfl
    ·rw [HV.out];unfold dV;rw [if_neg hV]
    ·rw [HW.out];unfold dW;rw [if_neg hV]
 case rest =>
  obtain ⟨rfl,rfl,rfl,nq2,rfl⟩:=hcut
  have hend:∀ D':Dec,D'.data=D.data→D'.odds=D.odds→dcode D bound=(bit,D')→∀ wz,Blk wz b 190 #[.slice (some ⟨g,0,none⟩) D.data.length cap,.int .i64 D'.pos,.int .u64 D'.V,.int .u64 D'.W,vo,.int .i64 D'.err] →
    Chg [b] w wz→IsDec 190 wz b g h (dcode D bound).2:=fun D' e1 e2 e3 wz hz hch=>by
   rw [e3]
   exact ⟨_,vo,hz,by rw [e1];exact hL.chg hch (by simpa using hgb),by rw [e2];exact hO.chg hch (by simpa using hhb)⟩
  have Hend:=hid hend
  clear hend
  by_cases hs:W1<16777216
  ·go_wp2_with fail
   go_loopg [6,7,8] 1 (fun k v wd at_ wr=>∃ V W p:Nat,v=.int .u64 V∧wd=.int .u64 W∧at_=.int .i64 p∧(∃ nq,wr=w.drewN nq) ∧
    ((k=1∧V=V1∧W=W1∧p=D.pos)∨(k=0∧16777216≤W∧W<4294967296∧Hid (dcode D bound=(bit,{ D with V:=V,W:=W,pos:=p })))))
   case atStart=>exact ⟨V1,W1,D.pos,rfl,rfl,rfl,⟨nq2,rfl⟩,.inl ⟨rfl,rfl,rfl,rfl⟩⟩
   case round =>
    obtain ⟨V,W,p,rfl,rfl,rfl,⟨nq3,rfl⟩,hcase⟩:=hrel
    rcases hcase with ⟨rfl,rfl,rfl,rfl⟩ | ⟨rfl,hW1',hW2',hfin⟩
    ·have t2:decide ((W:Int)<16777216)=true:=by simp;omega
     by_cases hp:D.pos=D.data.length
     ·have t3:((D.pos:Int)==(D.data.length:Int))=true:=by rw [beq_iff_eq];omega
      have HP:=hid hp
      clear hp
      go_wp2
      go_ret
      have e1:dcode D bound=(0,{ D with err:=3 }):=by
       rw [HDC.out,if_pos hs,List.getElem?_eq_none (by have:=HP.out;omega)]
      rw [e1]
      refine ⟨rfl,⟨.slice (some ⟨g,0,none⟩) D.data.length cap,vo,?_,(hL.drewN nq3).far (p:=⟨b,5,none⟩) hgb _,(hO.drewN nq3).far (p:=⟨b,5,none⟩) hhb _⟩,((Chg.refl _ _).drewN nq3).setCell (by simp) _⟩
      have:=(hB.drewN nq3).set_ 5 (.int .i64 3)
      simpa using this
     ·have hlt:D.pos<D.data.length:=by omega
      have t3:((D.pos:Int)==(D.data.length:Int))=false:=by rw [beq_eq_false_iff_ne];omega
      obtain ⟨x,hx⟩:∃ x,D.data[D.pos]?=some x:=⟨_,zF hlt⟩
      have hx2:x<256:=hok.dig x (by obtain ⟨h1,h2⟩:=List.getElem?_eq_some_iff.1 hx;rw [←h2];exact zG h1)
      have hcx:w.cell? ⟨g,D.pos,none⟩=some (.int .u8 x):=HC.out _ _ hx
      have HX:=hid hx
      clear hx hp
      go_wp2
      go_roundg 0
      case measure=>omega
      case rel =>
       refine ⟨V*256+x,W*256,D.pos+1,by go_num,by go_num,by go_num,⟨nq3,rfl⟩,.inr ⟨rfl,by omega,by omega,hid ?_⟩⟩
       rw [HDC.out,if_pos hs,HX.out]
    ·have t2:decide ((W:Int)<16777216)=false:=by simp;omega
     go_wp2
     go_ret
     refine ⟨?_,Hend.out { D with V:=V,W:=W,pos:=p } rfl rfl hfin.out _ ?_ ?_,?_⟩
     ·rw [hfin.out];rfl
     ·have:=(((hB.drewN nq3).set_ 2 (.int .u64 V)).set_ 3 (.int .u64 W)).set_ 1 (.int .i64 p)
      simpa using this
     ·exact ((((Chg.refl _ _).drewN nq3).setCell (by simp) _).setCell (by simp) _).setCell (by simp) _
     ·exact ((((Chg.refl _ _).drewN nq3).setCell (by simp) _).setCell (by simp) _).setCell (by simp) _
  ·have t2:decide ((W1:Int)<16777216)=false:=by simp;omega
   go_wp2_with fail
   refine wp_loop_once ?_
   go_wp2
   go_ret
   have e1:dcode D bound=(bit,{ D with V:=V1,W:=W1 }):=by rw [HDC.out,if_neg hs]
   refine ⟨?_,Hend.out { D with V:=V1,W:=W1 } rfl rfl e1 _ ?_ ?_,?_⟩
   ·rw [e1];rfl
   ·have:=(((hB.drewN nq2).set_ 2 (.int .u64 V1)).set_ 3 (.int .u64 W1)).set_ 1 (.int .i64 D.pos)
    simpa using this
   ·exact ((((Chg.refl _ _).drewN nq2).setCell (by simp) _).setCell (by simp) _).setCell (by simp) _
   ·exact ((((Chg.refl _ _).drewN nq2).setCell (by simp) _).setCell (by simp) _).setCell (by simp) _
theorem dec_oddsAt {D:Dec} {ctx:Nat} (hc:ctx<D.odds.length):D.odds[ctx]?=some (dOddsAt D ctx):=by
 unfold dOddsAt
 rw [zD,zF hc]
 rfl
theorem err_any (w:World) (b g h:Nat) (D:Dec) (hc:IsDec 190 w b g h D) :
  Calls Tryz.prog 109 #[.pointer (some ⟨b,0,none⟩)] w fun e w'=>e=.returned (.int .i64 D.err)∧w'=w:=by
 obtain ⟨vd,vo,hb,hl,ho⟩:=hc.ex
 have c5:=hb.cell 5
 simp at c5
 clear hb hl ho hc
 go_enter Tryz.func109,Tryz.ntmps109
 go_wp2
 go_ret
 exact ⟨rfl,rfl⟩
theorem left_any (w:World) (b g h:Nat) (D:Dec) (hc:IsDec 190 w b g h D) (hpos:D.pos≤D.data.length) :
  Calls Tryz.prog 111 #[.pointer (some ⟨b,0,none⟩)] w fun e w'=>e=.returned (.int .i64 ((D.data.length-D.pos:Nat):Int))∧∃ n,w'=w.drewN n:=by
 obtain ⟨vd,vo,hb,hl,ho⟩:=hc.ex
 obtain ⟨cap,rfl,hcl,hcm,-,-⟩:=hl.open_map
 have c0:=hb.cell 0
 have c1:=hb.cell 1
 simp at c0 c1
 clear hb hl ho hc
 have hw:IntKind.i64.wrap ((D.data.length:Int)-D.pos)=((D.data.length-D.pos:Nat):Int):=by
  rw [IntWalk.i64_in _ (by omega)];omega
 go_enter Tryz.func111,Tryz.ntmps111
 go_wp2
 go_quiet (fail)
 go_wp2
 go_ret
 exact ⟨by go_num,nq,rfl⟩
theorem dget_any (w:World) (b g h:Nat) (D:Dec) (ctx:Nat) (hc:IsDec 190 w b g h D) (hok:DecOk D) (he:D.err=0) (hctx:ctx<D.odds.length) :
  Calls Tryz.prog 157 #[.pointer (some ⟨b,0,none⟩),.int .i64 ctx] w fun e w'=>e=.returned (.int .i64 ((dget D ctx).1:Nat)) ∧
   IsDec 190 w' b g h (dget D ctx).2∧Chg [b,h] w w':=by
 obtain ⟨vd,vo,hb,hl,ho⟩:=hc.ex
 have hbd:=dbound_put hok hctx
 have hhi:=hok.hi
 have hgb:=hl.ne_ hb (by decide)
 have hhb:=ho.ne_ hb (by decide)
 have hgh:=hl.ne_row ho (by decide)
 obtain ⟨capo,rfl,hco,hcom,hcello,-⟩:=ho.open_map
 have ho1:=hcello ctx _ (dec_oddsAt hctx)
 replace ho1:w.cell? ⟨h,ctx,none⟩=some (.int .i64 (dOddsAt D ctx:Int)):=ho1
 clear hcello
 have hor:=dOddsAt_ok hok hctx
 obtain ⟨o1,hoo⟩:∃ o1,o1=dOddsAt D ctx:=⟨_,rfl⟩
 rw [←hoo] at ho1 hor hbd
 have Hoo:=hid hoo
 clear hoo
 have c3:=hb.cell 3
 have c4:=hb.cell 4
 have c5:=hb.cell 5
 simp at c3 c4 c5
 rw [he] at c5
 have t1:decide ((ctx:Int)<0)=false:=by simp
 have t2:decide (D.odds.length≤ctx)=false:=by simp;omega
 obtain ⟨bd,hbdd⟩:∃ bd,bd=D.W / 4096*o1:=⟨_,rfl⟩
 rw [←hbdd] at hbd
 have hmul:IntKind.u64.wrap ((D.W:Int) / 4096*(o1:Int))=(bd:Int):=by
  have e:((D.W:Int) / 4096*(o1:Int))=(bd:Int):=by rw [hbdd];simp
  rw [e]
  exact IntWalk.u64_in _ (by omega)
 have Hget:Hid (dget D ctx=if (dcode D bd).2.err=0 then ((dcode D bd).1,{ (dcode D bd).2 with odds:=D.odds.set ctx (adaptN o1 (dcode D bd).1) }) else dcode D bd):=by
  refine hid ?_
  rw [hbdd,Hoo.out]
  rfl
 clear hbdd
 have hdata:=hid (dcode_data D bd)
 have hbit:=hid (dcode_bit D bd)
 have herr:=hid (dcode_err D bd)
 obtain ⟨bit,hbi⟩:∃ bit,bit=(dcode D bd).1:=⟨_,rfl⟩
 obtain ⟨D1,hD1⟩:∃ D1,D1=(dcode D bd).2:=⟨_,rfl⟩
 have Hbi:=hid hbi
 have HD1:=hid hD1
 clear hbi hD1
 have HE:=hid he
 clear he
 go_enter Tryz.func157,Tryz.ntmps157
 go_wp2
 refine wp_region_quiet_tail 15 (by kernel_rfl) (by kernel_rfl) ?_
 simp only [List.take_succ_cons,List.take_zero,List.drop_succ_cons,List.drop_zero]
 repeat (go_big_quiet_step (fail))
 refine wpQuiet_nil ?_
 intro _ hw'
 obtain ⟨nq,rfl⟩:=hw'
 go_wp2_with fail
 refine (dcode_any (w.drewN nq) b g h D bd (hc.same ((Chg.refl _ _).drewN nq)) hok hbd).mono ?_
 rintro e w1 ⟨rfl,hc1,hch1⟩
 rw [←HD1.out] at hc1
 rw [←Hbi.out]
 obtain ⟨vd1,vo1,hb1,hl1,hq1⟩:=hc1.ex
 have x5:=hb1.cell 5
 simp at x5
 by_cases he1:D1.err=0
 ·have t3:((D1.err:Int)==0)=true:=by rw [beq_iff_eq];omega
  have HE1:=hid he1
  clear he1
  have hod:D1.odds=D.odds:=by rw [HD1.out];exact hdata.out.2
  rw [hod] at hq1
  have Hod:=hid hod
  clear hod
  have hgb1:=hl1.ne_ hb1 (by decide)
  have hgh1:=hl1.ne_row hq1 (by decide)
  obtain ⟨capo1,rfl,hco1,hcom1,hcello1,hfro1⟩:=hq1.open_map
  have hx1:w1.cell? ⟨h,ctx,none⟩=some (.int .i64 o1):=by rw [Hoo.out];exact hcello1 ctx _ (dec_oddsAt hctx)
  have hx2:=hfro1 ctx
  have hx3:=hb1.cell 4
  simp at hx3
  clear hcello1 hfro1
  go_wp2_with fail
  refine wp_region_quiet_tail 14 (by kernel_rfl) (by kernel_rfl) ?_
  simp only [List.take_succ_cons,List.take_zero,List.drop_succ_cons,List.drop_zero]
  repeat (go_big_quiet_step ((go_at_call 190;exact Calls.quiet_of_same (adapt_any o1 bit _ (by omega) (by rw [Hbi.out];exact hbit.out)))))
  refine wpQuiet_nil ?_
  intro _ hw'
  obtain ⟨nq1,rfl⟩:=hw'
  go_wp2
  go_ret
  have e1:dget D ctx=(bit,{ D1 with odds:=D.odds.set ctx (adaptN o1 bit) }):=by
   rw [Hget.out,if_pos (by rw [←HD1.out];exact HE1.out),Hbi.out,HD1.out]
  rw [e1]
  refine ⟨rfl,⟨_,_,(hb1.drewN nq1).far (p:=⟨h,ctx,none⟩) hhb.symm _,(hl1.drewN nq1).far (p:=⟨h,ctx,none⟩) hgh1 _,?_⟩,?_⟩
  ·simp only
   rw [List.map_set]
   exact (hq1.drewN nq1).set_ (i:=ctx) (by simpa using hctx) _
  ·refine Chg.setCell (Chg.drewN ?_ _) (by simp) _
   exact ((Chg.refl _ _).drewN nq).trans hch1 (by simp)
 ·have t3:((D1.err:Int)==0)=false:=by rw [beq_eq_false_iff_ne];omega
  have HE1:=hid he1
  clear he1
  go_wp2
  go_ret
  have e1:dget D ctx=(bit,D1):=by
   rw [Hget.out,if_neg (by rw [←HD1.out];exact HE1.out),Hbi.out,HD1.out]
  rw [e1]
  exact ⟨rfl,hc1,(((Chg.refl _ _).drewN nq).trans hch1 (by simp))⟩
theorem newDecoder_ok (g cap:Nat) (ds:List Nat) (n:Nat) (w:World) (h1:1≤n) (hn:n≤4096) (hcap:ds.length≤cap) (hcap2:cap≤9223372036854775807)
  (hcell:∀ (i d:Nat),ds[i]?=some d→w.cell? ⟨g,i,none⟩=some (b8 d)) (hd:∀ d∈ds,d<256) (h4:4≤ds.length) (hlen:ds.length≤1099511627776) (hff:valD (ds.take 4)≠4294967295) :
  Calls Tryz.prog 106 #[.slice (some ⟨g,0,none⟩) ds.length cap,.int .i64 n] w fun e w'=>∃ b g' h,e=.returned (.tuple #[.pointer (some ⟨b,0,none⟩),.int .i64 0]) ∧
   IsDec 190 w' b g' h (newDec ds n)∧Chg [] w w'∧w.heap.size≤b∧w.heap.size≤g'∧w.heap.size≤h:=by
 have t1:decide ((n:Int)<1)=false:=by simp;omega
 have t2:decide ((4096:Int)<n)=false:=by simp;omega
 have t3:decide ((ds.length:Int)<4)=false:=by simp;omega
 have HC:=hid hcell
 have HD:=hid hd
 have HF:=hid hff
 have hv4:valD (ds.take 4)<4294967296:=by
  have:=valD_lt (ds.take 4) fun d h=>hd d (List.mem_of_mem_take h)
  rw [List.length_take,Nat.min_eq_left h4] at this
  simpa using this
 have HV:=hid hv4
 clear hcell hd hff hv4
 go_enter Tryz.func106,Tryz.ntmps106
 go_wp2_with fail
 go_loopg [6,8,22] 4 (fun k v c i wr=>wr=w∧k≤4∧i=.int .i64 ((4-k:Nat):Int)∧v=.int .u64 ((valD (ds.take (4-k)):Nat):Int))
 case atStart=>exact ⟨rfl,Nat.le_refl _,rfl,rfl⟩
 case round =>
  obtain ⟨rfl,hk,rfl,rfl⟩:=hrel
  rcases gk with _ | k
  ·have t4:decide (((4-0:Nat):Int)<4)=false:=by simp
   simp only [Nat.sub_zero]
   obtain ⟨V,hV⟩:∃ V,V=valD (ds.take 4):=⟨_,rfl⟩
   rw [←hV]
   have t5:((V:Int)==4294967295)=false:=by rw [beq_eq_false_iff_ne,hV];have:=HF.out;omega
   have HVV:=hid hV
   clear hV
   have hcell':∀ j u,(ds.map b8)[j]?=some u→wr.cell? ((⟨g,0,none⟩:Addr).add j)=some u:=by
    intro j u hj
    rw [List.getElem?_map] at hj
    obtain ⟨d,hd1,rfl⟩:=Option.map_eq_some_iff.1 hj
    have e:(⟨g,0,none⟩:Addr).add j=⟨g,j,none⟩:=by unfold Addr.add;split<;>simp_all
    rw [e]
    exact HC.out j d hd1
   have Hcell:=hid hcell'
   clear hcell'
   go_wp2_with (at_builtin;refine wpList_append_sl rfl rfl u8_el rfl (by decide) rfl (World.ownsRow_nil _ 0 _ _) (news:=ds.map b8) rfl ?c1 ?c2 ?c3 ?c4 ?c5 ?c6 ?_)
   case c1=>simp
   case c2=>omega
   case c3=>exact Hcell.out
   case c4=>intro u hu;obtain ⟨d,_,rfl⟩ := List.mem_map.1 hu;rfl
   case c5=>omega
   case c6=>omega
   intro g' cap' w1 r1 r2 r3
   obtain ⟨g'',r4,r5⟩:=Row.of_own r1 rfl
   simp only [Value.ownBlock] at r5
   injection r5 with r5
   subst r5
   have r6:wr.heap.size≤g':=by simpa [Value.ownBlock] using r3
   simp only [Value.ownBlock,Option.toList_none] at r2
   clear r1 r3
   go_wp2_with (go_at_call 155;refine (start_ok n _ hn).mono ?_;rintro e w2 ⟨h,rfl,q1,q2,q3⟩)
   go_ret2
   have s1:=r2.size
   have s2:=q2.size
   refine ⟨_,_,_,rfl,⟨_,_,?_,((r4.chg q2 (by simp)).alloc _),q1.alloc _⟩,(r2.trans_same q2).alloc _,by omega,r6,by omega⟩
   have:=Blk.new w2 190 #[.slice (some ⟨g',0,none⟩) ds.length cap',.int .i64 4,.int .u64 V,.int .u64 4294967295,.slice (some ⟨h,0,none⟩) n n,.int .i64 0]
   simp only [newDec,←HVV.out]
   exact this
  ·obtain ⟨m,hm⟩:∃ m,m=4-(k+1):=⟨_,rfl⟩
   rw [←hm]
   have hm1:m<4:=by omega
   have hm2:4-k=m+1:=by omega
   have HM:=hid hm2
   clear hm hm2
   obtain ⟨x,hx⟩:∃ x,ds[m]?=some x:=⟨_,zF (by omega)⟩
   have hx2:x<256:=HD.out x (by obtain ⟨h1,h2⟩:=List.getElem?_eq_some_iff.1 hx;rw [←h2];exact zG h1)
   have hcx:wr.cell? ⟨g,m,none⟩=some (.int .u8 x):=HC.out _ _ hx
   have hvs:valD (ds.take (m+1))=valD (ds.take m)*256+x:=by
    rw [List.take_add_one,hx]
    exact valD_snoc _ _
   have hvl:valD (ds.take m)<16777216:=by
    have:=valD_lt (ds.take m) fun d h=>HD.out d (List.mem_of_mem_take h)
    have h3:256^(ds.take m).length≤256^3:=Nat.pow_le_pow_right (by decide) (by rw [List.length_take];omega)
    have:(256:Nat)^3=16777216:=by decide
    omega
   obtain ⟨V,hV⟩:∃ V,V=valD (ds.take m):=⟨_,rfl⟩
   rw [←hV] at hvs hvl ⊢
   have HVS:=hid hvs
   clear hx hvs hV
   go_wp2_with fail
   go_roundg k
   case measure=>omega
   case rel =>
    rw [HM.out]
    exact ⟨rfl,by omega,by go_num,by rw [HVS.out];go_num⟩
theorem or_bitA (q bit:Nat) (hq:q<4294967296) (hb:bit=0∨bit=1):bits BinOp.or IntKind.u64 ((q:Int)*2) (bit:Int)=((q*2+bit:Nat):Int):=by
 have h1:=u64_or_nat (q*2) bit (by omega) (by omega)
 have h2:q*2 ||| bit=q*2+bit:=by
  have:=Nat.two_pow_add_eq_or_of_lt (i:=1) (b:=bit) (by omega) q
  rw [Nat.mul_comm q 2]
  simpa using this.symm
 rw [h2] at h1
 have e:((q*2:Nat):Int)=(q:Int)*2:=by simp
 rw [←e]
 exact h1
theorem draw_syn (w:World) (b g h:Nat) (D:Dec) (c:Cod) (v n:Nat) (hc:IsDec 190 w b g h D) (hok:DecOk D) (hS:Syn D c) (hco:CodOk c) (hf:CodFit c) (hn:n≤32) (hv:v<2^n) (hv64:v<4294967296)
  (hF:Fut D.data (rawL c v n)) :
  Calls Tryz.prog 158 #[.pointer (some ⟨b,0,none⟩),.int .i64 n] w fun e w'=>e=.returned (.int .u64 v) ∧
   ∃ D',IsDec 190 w' b g h D'∧DecOk D'∧Syn D' (rawL c v n)∧D'.data=D.data∧Chg [b] w w':=by
 have t1:decide ((n:Int)<0)=false:=by simp
 have t2:decide ((32:Int)<n)=false:=by simp;omega
 have HF:=hid hF
 have HV:=hid hv
 clear hF hv
 have c5:w.cell? ⟨b,5,none⟩=some (.int .i64 0):=by
  obtain ⟨vd,vo,hb,-,-⟩:=hc.ex
  have:=hb.cell 5
  simpa [hS.err] using this
 go_enter Tryz.func158,Tryz.ntmps158
 go_wp2_with fail
 go_loopg [5,21] n (fun k x i wr=>∃ (D':Dec) (c':Cod),k≤n∧x=.int .u64 ((v / 2^k:Nat):Int)∧i=.int .i64 ((n-k:Nat):Int)∧IsDec 190 wr b g h D'∧DecOk D'∧Syn D' c'∧CodOk c'∧CodFit c' ∧
   Hid (rawL c v n=rawL c' v k)∧Hid (D'.data=D.data)∧Chg [b] w wr)
 case atStart=>exact ⟨D,c,Nat.le_refl _,by rw [Nat.div_eq_of_lt HV.out];rfl,by simp,hc,hok,hS,hco,hf,hid rfl,hid rfl,Chg.refl _ _⟩
 case round =>
  obtain ⟨D',c',hk,rfl,rfl,hcr,hokr,hSr,hcor,hfr,Hr,Hdata,hch⟩:=hrel
  rcases gk with _ | k
  ·have t4:decide (((n-0:Nat):Int)<n)=false:=by simp
   go_wp2_with fail
   go_ret
   refine ⟨by simp,D',hcr,hokr,?_,Hdata.out,hch⟩
   rw [Hr.out];exact hSr
  ·obtain ⟨m,hm⟩:∃ m,m=n-(k+1):=⟨_,rfl⟩
   rw [←hm]
   have hm1:m<n:=by omega
   have hm2:n-k=m+1:=by omega
   have HM:=hid hm2
   clear hm hm2
   obtain ⟨bit,hbit⟩:∃ bit,bit=v / 2^k%2:=⟨_,rfl⟩
   have hvk:v / 2^k=(v / 2^(k+1))*2+bit:=by
    rw [hbit,Nat.pow_succ,←Nat.div_div_eq_div_mul];omega
   have hle:v / 2^(k+1)≤v:=Nat.div_le_self _ _
   obtain ⟨q,hq⟩:∃ q,q=v / 2^(k+1):=⟨_,rfl⟩
   rw [←hq] at hvk hle ⊢
   have hbit1:bit=0∨bit=1:=by omega
   have HVK:=hid hvk
   have hF2:Fut D'.data (rawL (codeL c' (c'.W / 2) bit) v k):=by
    have:=HF.out
    rw [Hr.out] at this
    rw [Hdata.out,hbit]
    exact this
   have Hr2:Hid (rawL c v n=rawL (codeL c' (c'.W / 2) bit) v k):=by
    refine hid ?_
    rw [Hr.out,hbit]
    rfl
   have hbd:=bound_raw hcor
   have hF3:=fut_raw hokr.dig v k (codeL_ok hcor hbd bit) (codeL_fit hcor hfr hbd bit) hF2
   have hsy:=dcode_syn hSr hokr hcor hfr hbd hbit1 hF3
   have hdata2:=(dcode_data D' (c'.W / 2)).1
   have hok2:=dcode_ok hokr (bound:=c'.W / 2) (by rw [hSr.W];exact hbd)
   have HB1:=hid hbit1
   have hbit2:bit≤1:=by omega
   have HSY:=hid hsy
   have HD2:=hid hdata2
   clear hbit hvk hq hbit1 hsy hdata2 hF2 hF3
   obtain ⟨vd,vo,hb,hl,ho⟩:=hcr.ex
   have c3:=hb.cell 3
   simp at c3
   have HW:=hid hSr.W
   rw [hSr.W] at c3
   obtain ⟨W2,hW2⟩:∃ W2,W2=c'.W / 2:=⟨_,rfl⟩
   have hw2:IntKind.u64.wrap ((c'.W:Int) / 2)=(W2:Int):=by
    have e:(c'.W:Int) / 2=((c'.W / 2:Nat):Int):=by simp
    rw [e,hW2]
    exact IntWalk.u64_in _ (by have:=hcor.hi;omega)
   rw [←hW2] at HSY HD2 hok2 hbd Hr2
   have HW2:=hid hW2
   clear hW2 hb hl ho
   go_wp2_with fail
   refine (dcode_any wr b g h D' W2 hcr hokr (by rw [HW.out];exact hbd)).mono ?_
   rintro e w1 ⟨rfl,hc1,hch1⟩
   rw [HSY.out.1]
   have c5':w1.cell? ⟨b,5,none⟩=some (.int .i64 0):=by
    obtain ⟨vd,vo,hb,-,-⟩:=hc1.ex
    have:=hb.cell 5
    simpa [HSY.out.2.err] using this
   go_wp2_with fail
   rw [or_bitA q bit (by omega) HB1.out]
   go_roundg k
   case measure=>omega
   case rel =>
    rw [HM.out]
    refine ⟨_,_,by omega,by rw [HVK.out],by go_num,hc1,hok2,HSY.out.2,codeL_ok hcor hbd bit,codeL_fit hcor hfr hbd bit,Hr2,hid ?_,hch.trans_same hch1⟩
    rw [HD2.out];exact Hdata.out
theorem num_val (v d:Nat) (h:2^d≤v+1) (hv:v<4294967296):IntKind.u64.wrap (IntKind.u64.wrap (IntKind.u64.wrap ((2:Int)^d)+((v+1-2^d:Nat):Int))-1)=(v:Int):=by
 have e:((2:Int)^d)=((2^d:Nat):Int):=by simp
 rw [e]
 generalize 2^d=p at *
 rw [IntWalk.u64_in (p:Int) (by omega),IntWalk.u64_in ((p:Int)+((v+1-p:Nat):Int)) (by omega),IntWalk.u64_in _ (by omega)]
 omega
def NumPost (T:TypeId) (w:World) (b g h:Nat) (D:Dec) (c:Cod) (ctx v most:Nat) (e:Ending) (w':World):Prop :=
 e=.returned (.int .u64 ((if v≤most then v else 0:Nat):Int)) ∧
  ∃ D',IsDec T w' b g h D'∧(if v≤most then DecOk D'∧Syn D' (numL c ctx v) else D'.err=2)∧D'.data=D.data∧Chg [b,h] w w'
theorem dnum_syn (w:World) (b g h:Nat) (D:Dec) (c:Cod) (ctx v most:Nat) (hc:IsDec 190 w b g h D) (hok:DecOk D) (hS:Syn D c) (hco:CodOk c) (hf:CodFit c) (hctx:ctx+33≤c.odds.length) (hv:v<4294967296)
  (hmost:most<18446744073709551616) (hF:Fut D.data (numL c ctx v)) :
  Calls Tryz.prog 108 #[.pointer (some ⟨b,0,none⟩),.int .i64 ctx,.int .u64 most] w (NumPost 190 w b g h D c ctx v most):=by
 obtain ⟨vd,vo,hb,hl,ho⟩:=hc.ex
 obtain ⟨capo,rfl,hcp,hcom,-,-⟩:=ho.open_map
 have c4:=hb.cell 4
 have c5:=hb.cell 5
 simp at c4 c5
 rw [hS.err] at c5
 rw [hS.odds] at c4 hcp
 clear hb hl ho
 have t2:decide ((ctx:Int)<0)=false:=by simp
 have t3:decide ((c.odds.length:Int)-33<(ctx:Int))=false:=by simp;omega
 obtain ⟨d,hd⟩:∃ d,d=Nat.log2 (v+1):=⟨_,rfl⟩
 have hd32:d≤32:=by rw [hd];exact log2_le hv
 have h2d:2^d≤v+1:=by rw [hd];exact Nat.log2_self_le (by omega)
 have h2d':v+1<2^(d+1):=by rw [hd];exact Nat.lt_log2_self
 have hnum:numL c ctx v=rawL (midL c ctx d) (v+1-2^d) d:=by rw [hd];rfl
 have hmidok:CodOk (midL c ctx d):=midL_ok hco hd32 hctx
 have hmidf:CodFit (midL c ctx d):=midL_fit hco hf hd32 hctx
 have hF1:Fut D.data (rawL (midL c ctx d) (v+1-2^d) d):=by rw [←hnum];exact hF
 have hF2:Fut D.data (midL c ctx d):=fut_raw hok.dig _ _ hmidok hmidf hF1
 have hF3:Fut D.data (onesL c ctx d):=fut_mid hok.dig hco hf hd32 hctx hF2
 have hF4:∀ j,j≤d→Fut D.data (onesL c ctx j):=fun j hj=>fut_ones hok.dig hco hf (by omega) j hj hF3
 have HF1:=hid hF1
 have HF2:=hid hF2
 have HF4:=hid hF4
 have HN:=hid hnum
 have H2:=hid h2d'
 clear hd hnum hF hF1 hF2 hF3 hF4 h2d'
 go_enter Tryz.func108,Tryz.ntmps108
 go_wp2_with fail
 go_loopg [7] d (fun k n wr=>∃ (D':Dec),k≤d∧n=.int .i64 ((d-k:Nat):Int)∧IsDec 190 wr b g h D'∧DecOk D'∧Syn D' (onesL c ctx (d-k))∧Hid (D'.data=D.data)∧Chg [b,h] w wr)
 case atStart=>exact ⟨D,Nat.le_refl _,by simp,hc,hok,by simpa [onesL] using hS,hid rfl,Chg.refl _ _⟩
 case round =>
  obtain ⟨D',hk,rfl,hcr,hokr,hSr,Hdata,hch⟩:=hrel
  have hdone:∀ Dz,DecOk Dz→Syn Dz (midL c ctx d)→Dz.data=D.data→True:=fun _ _ _ _=>trivial
  clear hdone
  rcases gk with _ | k
  ·simp only [Nat.sub_zero] at hSr ⊢
   have hlo:CodOk (onesL c ctx d):=onesL_ok hco (by omega)
   have hlf:CodFit (onesL c ctx d):=onesL_fit hco hf (by omega)
   have hol:ctx+d≤(onesL c ctx d).odds.length:=by rw [onesL_odds_len];omega
   by_cases hlt:d<32
   ·have t4:decide ((d:Int)<32)=true:=by simp;omega
    have hmid:midL c ctx d=putL (onesL c ctx d) (ctx+d) 0:=by unfold midL;rw [if_pos hlt]
    have hcl:ctx+d<(onesL c ctx d).odds.length:=by rw [onesL_odds_len];omega
    have hsy:=dget_syn hSr hokr hlo hlf hcl (bit:=0) (by simp) (by rw [Hdata.out,←hmid];exact HF2.out)
    have hok2:=dget_ok hokr (ctx:=ctx+d) (by rw [hSr.odds];exact hcl)
    have hdat:=dget_data D' (ctx+d)
    have HS:=hid hsy
    have HM:=hid hmid
    have HDt:=hid hdat
    clear hmid hsy hdat
    go_wp2_with fail
    rw [show ((ctx:Int)+d)=((ctx+d:Nat):Int) from by omega]
    refine (dget_any wr b g h D' (ctx+d) hcr hokr hSr.err (by rw [hSr.odds];exact hcl)).mono ?_
    rintro e wz ⟨rfl,hcz,hchz⟩
    rw [HS.out.1]
    have hokz:=hok2
    have hSz:Syn (dget D' (ctx+d)).2 (midL c ctx d):=by rw [HM.out];exact HS.out.2
    have hdz:Hid ((dget D' (ctx+d)).2.data=D.data):=hid (by rw [HDt.out];exact Hdata.out)
    have hchz2:Chg [b,h] w wz:=hch.trans_same hchz
    generalize (dget D' (ctx+d)).2=Dz at *
    go_wp2_with fail
    refine (draw_syn wz b g h Dz (midL c ctx d) (v+1-2^d) d hcz hokz hSz hmidok hmidf hd32 (by have:=H2.out;rw [Nat.pow_succ] at this;omega) (by have:1≤2^d:=Nat.one_le_two_pow;omega) (by rw [hdz.out];exact HF1.out)).mono ?_
    rintro e w2 ⟨rfl,D2,hc2,hok3,hS2,hd2,hch2⟩
    obtain ⟨vd2,vo2,hb2,hl2,ho2⟩:=hc2.ex
    have c5z:=hb2.cell 5
    simp at c5z
    rw [hS2.err] at c5z
    have f5z:=hb2.frozen 5
    have hgb2:=hl2.ne_ hb2 (by decide)
    have hhb2:=ho2.ne_ hb2 (by decide)
    have HD2:=hid hd2
    have hval:=num_val v d h2d hv
    have hch3:Chg [b,h] w w2:=hchz2.trans hch2 (by simp)
    clear hd2
    by_cases hm:v≤most
    ·have t6:decide (most<v)=false:=by simpa using hm
     go_wp2
     go_ret
     unfold NumPost
     simp only [if_pos hm]
     exact ⟨rfl,D2,hc2,⟨hok3,by rw [HN.out];exact hS2⟩,by rw [HD2.out];exact hdz.out,hch3⟩
    ·have t6:decide (most<v)=true:=by simp;omega
     go_wp2
     go_ret
     unfold NumPost
     simp only [if_neg hm]
     refine ⟨rfl,{ D2 with err:=2 },⟨vd2,vo2,?_,hl2.far (p:=⟨b,5,none⟩) hgb2 _,ho2.far (p:=⟨b,5,none⟩) hhb2 _⟩,rfl,by simp only;rw [HD2.out];exact hdz.out,hch3.setCell (by simp) _⟩
     have:=hb2.set_ 5 (.int .i64 2)
     simpa using this
   ·have t4:decide ((d:Int)<32)=false:=by simp;omega
    have hmid:midL c ctx d=onesL c ctx d:=by unfold midL;rw [if_neg hlt]
    have hcz:=hcr
    have hokz:=hokr
    have hSz:Syn D' (midL c ctx d):=by rw [hmid];exact hSr
    have hdz:=Hdata
    have hchz2:=hch
    clear hmid
    generalize D'=Dz at *
    obtain ⟨wz,hwz⟩:∃ wz,wz=wr:=⟨_,rfl⟩
    subst hwz
    go_wp2_with fail
    refine (draw_syn wz b g h Dz (midL c ctx d) (v+1-2^d) d hcz hokz hSz hmidok hmidf hd32 (by have:=H2.out;rw [Nat.pow_succ] at this;omega) (by have:1≤2^d:=Nat.one_le_two_pow;omega) (by rw [hdz.out];exact HF1.out)).mono ?_
    rintro e w2 ⟨rfl,D2,hc2,hok3,hS2,hd2,hch2⟩
    obtain ⟨vd2,vo2,hb2,hl2,ho2⟩:=hc2.ex
    have c5z:=hb2.cell 5
    simp at c5z
    rw [hS2.err] at c5z
    have f5z:=hb2.frozen 5
    have hgb2:=hl2.ne_ hb2 (by decide)
    have hhb2:=ho2.ne_ hb2 (by decide)
    have HD2:=hid hd2
    have hval:=num_val v d h2d hv
    have hch3:Chg [b,h] w w2:=hchz2.trans hch2 (by simp)
    clear hd2
    by_cases hm:v≤most
    ·have t6:decide (most<v)=false:=by simpa using hm
     go_wp2
     go_ret
     unfold NumPost
     simp only [if_pos hm]
     exact ⟨rfl,D2,hc2,⟨hok3,by rw [HN.out];exact hS2⟩,by rw [HD2.out];exact hdz.out,hch3⟩
    ·have t6:decide (most<v)=true:=by simp;omega
     go_wp2
     go_ret
     unfold NumPost
     simp only [if_neg hm]
     refine ⟨rfl,{ D2 with err:=2 },⟨vd2,vo2,?_,hl2.far (p:=⟨b,5,none⟩) hgb2 _,ho2.far (p:=⟨b,5,none⟩) hhb2 _⟩,rfl,by simp only;rw [HD2.out];exact hdz.out,hch3.setCell (by simp) _⟩
     have:=hb2.set_ 5 (.int .i64 2)
     simpa using this
  ·obtain ⟨m,hm⟩:∃ m,m=d-(k+1):=⟨_,rfl⟩
   rw [←hm] at hSr ⊢
   have hm1:m<d:=by omega
   have hm2:d-k=m+1:=by omega
   have HM:=hid hm2
   clear hm hm2
   have t4:decide ((m:Int)<32)=true:=by simp;omega
   have hlo:CodOk (onesL c ctx m):=onesL_ok hco (by omega)
   have hlf:CodFit (onesL c ctx m):=onesL_fit hco hf (by omega)
   have hcl:ctx+m<(onesL c ctx m).odds.length:=by rw [onesL_odds_len];omega
   have hsy:=dget_syn hSr hokr hlo hlf hcl (bit:=1) (by simp) (by rw [Hdata.out];exact HF4.out (m+1) (by omega))
   have hok2:=dget_ok hokr (ctx:=ctx+m) (by rw [hSr.odds];exact hcl)
   have hdat:=dget_data D' (ctx+m)
   have HS:=hid hsy
   have HDt:=hid hdat
   clear hsy hdat
   go_wp2_with fail
   rw [show ((ctx:Int)+m)=((ctx+m:Nat):Int) from by omega]
   refine (dget_any wr b g h D' (ctx+m) hcr hokr hSr.err (by rw [hSr.odds];exact hcl)).mono ?_
   rintro e wz ⟨rfl,hcz,hchz⟩
   rw [HS.out.1]
   go_wp2_with fail
   go_roundg k
   case measure=>omega
   case rel =>
    rw [HM.out]
    exact ⟨_,by omega,by go_num,hcz,hok2,HS.out.2,hid (by rw [HDt.out];exact Hdata.out),hch.trans_same hchz⟩
end Go.Proofs.YtijpbkakncglgaaGreatDoor
