/- The coder's functions, the second part: Raw, Number, Bytes, start, NewCoder. -/
import Derived.Test.YtepjepkgcdfboaaGreatDoorMg18
import Derived.Test.YtepjepkgcdfboaaGreatDoorMg23
set_option linter.unusedVariables false
set_option linter.unusedSimpArgs false
set_option maxHeartbeats 2000000
set_option maxRecDepth 100000
namespace Go.Proofs.YtepjepkgcdfboaaGreatDoor
open Go.RowKit
theorem f4e (w:World) (b g h:Nat) (c:Cod) (v n:Nat) (hc:a7p 247 w b g h c) (hok:a2d c) (hn:n<=32) (hv:v<2^n) (hv64:v<18446744073709551616)
  (hlen:c.low.length<=549755813888) :
  Calls Tryz.prog 215 #[.pointer (some ⟨b,0,none⟩),.int .u64 v,.int .i64 n] w fun e w'=>e=.returned (.int .i64 0) /\
   ∃ g',a7p 247 w' b g' h (b8j c v n)/\Chg [b,g,h] w w'/\(g'=g\/w.heap.size<=g'):=by
 have t1:decide ((n:Int)<0)=false:=by simp
 have t2:decide ((32:Int)<n)=false:=by simp;omega
 have t3:(((v:Int) / 2^n) != 0)=false:=by
  have:(v:Int) / 2^n=((v / 2^n:Nat):Int):=by simp
  rw [this,Nat.div_eq_of_lt hv]
  rfl
 go_enter Tryz.func215,Tryz.ntmps215
 go_wp2_with fail
 go_loopg [7] n (fun k i wr=>∃ (g':Nat) (c':Cod),i=.int .i64 ((k:Int)-1)/\k<=n/\a7p 247 wr b g' h c'/\a2d c'/\Hid (b8j c v n=b8j c' v k) /\
   c'.low.length+k<=c.low.length+n/\Chg [b,g,h] w wr/\(g'=g\/w.heap.size<=g'))
 case atStart=>exact ⟨g,c,rfl,zQ _,hc,hok,hid rfl,zQ _,zR _ _,.inl rfl⟩
 case round =>
  obtain ⟨g',c',rfl,hk,ak,aa,Hr,az,ad,ag⟩:=hrel
  rcases gk with _ | k
  ·have t4:decide ((0:Int)<=((0:Nat):Int)-1)=false:=by simp
   go_wp2
   go_ret
   exact ⟨rfl,g',by rw [Hr.out];exact ak,ad,ag⟩
  ·have e1:(((k+1:Nat):Int)-1)=(k:Int):=by omega
   rw [e1]
   have aj:=a6m aa
   obtain ⟨vl,vo,hb,hl,ho⟩:=ak.ex
   have av:=hb.cell 1
   simp at av
   clear hb hl ho
   have ap:IntKind.u64.wrap ((c'.W:Int) / 2)=((c'.W / 2:Nat):Int):=by
    have e:(c'.W:Int) / 2=((c'.W / 2:Nat):Int):=by simp
    rw [e]
    exact IntWalk.u64_in _ (by have:=aa.hi;omega)
   obtain ⟨ab,ae⟩:=zX (v / 2^k%2)
   have ar:bits BinOp.and IntKind.u64 ((v:Int) / 2^k) 1=(ab:Int):=by
    have e:(v:Int) / 2^k=((v / 2^k:Nat):Int):=by simp
    have aA:v / 2^k<=v:=Nat.div_le_self _ _
    rw [e,ae]
    generalize v / 2^k=q at *
    rw [and_one_u64 _ (by omega) (by omega)]
    simp
   have ac:ab=0\/ab=1:=by omega
   have af:Hid (b8j c v n=b8j (a4t c' (c'.W / 2) ab) v k):=by
    refine hid ?_
    rw [Hr.out,ae]
    rfl
   have an:ab<=1:=by omega
   have au:=hid ac
   clear ae ac
   obtain ⟨W2,ah⟩:=zX (c'.W / 2)
   rw [<-ah] at ap aj
   have aq:=hid ah
   clear ah
   go_wp2_with fail
   refine a0c 11 (by kernel_rfl) (by kernel_rfl) ?_
   simp only [List.take_succ_cons,List.take_zero,List.drop_succ_cons,List.drop_zero]
   repeat (go_big_quiet_step (fail))
   refine wpQuiet_nil ?_
   intro _ aw
   obtain ⟨nq,rfl⟩:=aw
   go_wp2_with fail
   refine (d5i _ b g' h c' W2 ab (ak.same ((zR _ _).drewN nq)) aa aj au.out (by omega)).mono ?_
   rintro e w1 ⟨rfl,g2,ao,al,am⟩
   have ay:=(c0j (c:=c') W2 ab).2
   have ai:=b0g aa aj ab
   have ax:=ad.size
   go_wp2_with fail
   go_roundg k
   case measure=>omega
   case rel =>
    refine ⟨g2,_,rfl,by omega,ao,ai,?_,by omega,?_,?_⟩
    ·rw [aq.out];exact af
    ·refine (ad.drewN nq).trans al ?_
     intro x hx
     simp at hx
     rcases hx with rfl | rfl
     ·exact .inl (by simp)
     ·rcases ag with rfl | ag
      ·exact .inl (by simp)
      ·exact .inr ag
    ·rcases am with rfl | am
     ·exact ag
     ·exact .inr (by have:(wr.drewN nq).heap.size=wr.heap.size:=rfl;omega)
theorem f3p:b6m Tryz.prog 22 3 (.int .i64 0) 1 8:=.mk' Tryz.underlying22 (by kernel_rfl)
theorem e6x (w:World) (b g h:Nat) (c:Cod) (hc:a7p 247 w b g h c) (hok:a2d c) (hlen:c.low.length<=1099511627776) :
  Calls Tryz.prog 166 #[.pointer (some ⟨b,0,none⟩)] w fun e w'=>∃ g' cap,e=.returned (.slice (some ⟨g',0,none⟩) c.low.length cap)/\Row w' 5 (.slice (some ⟨g',0,none⟩) c.low.length cap) g' (c.low.map b8)/\Chg [] w w'/\w.heap.size<=g':=by
 obtain ⟨vl,vo,hb,hl,ho⟩:=hc.ex
 obtain ⟨cap,rfl,ai,ah,ab,ae⟩:=hl.oq
 have aa:∀ j u,(c.low.map b8)[j]?=some u->w.cell? ((⟨g,0,none⟩:Addr).add j)=some u:=(hl.own 0 (Nat.zero_le _)).cells (g:=g) rfl
 have af:=hb.cell 0
 simp at af
 have h4:=hok.len
 have ac:=hid aa
 clear ab ae hb hl ho hc hok aa
 go_enter Tryz.func166,Tryz.ntmps166
 go_wp2_with (at_builtin;refine a3v rfl rfl f0h rfl (by decide) rfl (World.ownsRow_nil _ 0 _ _) (news:=c.low.map b8) rfl ?c1 ?c2 ?c3 ?c4 ?c5 ?c6 ?_)
 case c1=>simp
 case c2=>omega
 case c3=>exact ac.out
 case c4=>intro u hu;obtain ⟨d,_,rfl⟩ := List.mem_map.1 hu;rfl
 case c5=>omega
 case c6=>omega
 intro g' ad w' h1 h2 h3
 go_wp2
 go_ret
 obtain ⟨ag,h5,h6⟩:=Row.of_own h1 rfl
 refine ⟨g',ad,rfl,?_,h2,by simpa [Value.ownBlock] using h3⟩
 simp only [Value.ownBlock] at h6
 injection h6 with h6
 subst h6
 simpa using h5
theorem d7r (n:Nat) (w:World) (hn:n<=4096) :
  Calls Tryz.prog 213 #[.int .i64 n] w fun e w'=>∃ h,e=.returned (.slice (some ⟨h,0,none⟩) n n)/\Row w' 3 (.slice (some ⟨h,0,none⟩) n n) h ((List.replicate n 2048).map i64)/\Chg [] w w'/\w.heap.size<=h:=by
 have ad:=a1p f3p rfl .i64 .i64 n (by omega) (by omega)
 go_enter Tryz.func213,Tryz.ntmps213
 go_wp2_with fail
 go_loopg [4,9] n (fun k i j wr=>k<=n/\j=.int .i64 ((n-k:Nat):Int)/\Chg [w.heap.size] w wr /\
   Row wr 3 (.slice (some ⟨w.heap.size,0,none⟩) n n) w.heap.size ((List.replicate (n-k) 2048++List.replicate k 0).map i64))
 case atStart =>
  refine ⟨zQ _,by simp,(zR _ _).alloc _,?_⟩
  have:=Row.made w 3 (List.replicate n (Value.int .i64 0)) (by simp [maxLen];omega)
  simpa [i64] using this
 case round =>
  obtain ⟨hk,rfl,ab,aa⟩:=hrel
  rcases gk with _ | k
  ·have t1:decide (((n-0:Nat):Int)<n)=false:=by simp
   go_wp2
   go_ret
   exact ⟨_,rfl,by simpa using aa,⟨ab.os,ab.tape,ab.output,ab.size,fun x hx _=>ab.block x hx (by simp;omega)⟩,zQ _⟩
  ·obtain ⟨m,hm⟩:=zX (n-(k+1))
   rw [<-hm] at aa ⊢
   have ae:m<n:=by omega
   have ac:n-k=m+1:=by omega
   have HM:=hid ac
   clear hm ac
   have af:wr.frozen? ⟨w.heap.size,m,none⟩=false:=by
    obtain ⟨_,_,_,_,_,h2⟩:=aa.oq
    exact h2 m
   have ag:wr.cell? ⟨w.heap.size,m,none⟩=some (.int .i64 0):=by
    obtain ⟨_,_,_,_,h2,_⟩:=aa.oq
    exact h2 m 0 (by rw [zS (by simp)];simp)
   go_wp2
   go_roundg k
   case measure=>omega
   case rel =>
    rw [HM.out]
    refine ⟨by omega,by go_num,ab.setCell (by simp) _,?_⟩
    have h1:=aa.set_ (i:=m) (by simp) (i64 2048)
    have e:(((List.replicate m 2048++List.replicate (k+1) 0).map i64).set m (i64 2048))=(List.replicate (m+1) 2048++List.replicate k 0).map i64:=by
     rw [<-List.map_set,List.set_append_right _ _ (by simp),List.replicate_succ' (n:=m)]
     simp [List.replicate_succ]
    rw [e] at h1
    exact h1
theorem c9z (w:World) (b g h:Nat) (D:Dec) (bound:Nat) (hc:a7f 296 w b g h D) (hok:a9g D) (hbd:65536<=bound/\bound+65536<=D.W) :
  Calls Tryz.prog 282 #[.pointer (some ⟨b,0,none⟩),.int .u64 bound] w fun e w'=>e=.returned (.int .i64 ((a4n D bound).1:Nat)) /\
   a7f 296 w' b g h (a4n D bound).2/\Chg [b] w w':=by
 obtain ⟨vd,vo,hb,hl,ho⟩:=hc.ex
 have am:=hl.ne_ hb (by decide)
 have aq:=ho.ne_ hb (by decide)
 obtain ⟨ap,rfl,aB,aA,aa,-⟩:=hl.oq
 have c0:=hb.cell 0
 have c1:=hb.cell 1
 have c2:=hb.cell 2
 have c3:=hb.cell 3
 have c5:=hb.cell 5
 have f1:=hb.frozen 1
 have f2:=hb.frozen 2
 have f3:=hb.frozen 3
 have f5:=hb.frozen 5
 simp at c0 c1 c2 c3 c5
 have ay:=hok.pos
 have au:=hok.val
 have aE:=hok.hi
 obtain ⟨az,aw,an⟩:=f3o hok hbd
 obtain ⟨aC,aF⟩:=hbd
 obtain ⟨W1,ak⟩:=zX (dW D bound)
 obtain ⟨V1,aj⟩:=zX (dV D bound)
 obtain ⟨ae,ac⟩:=zX (f0q D bound)
 rw [<-ak] at az aw an
 rw [<-aj] at an
 have ao:a4n D bound=if W1<16777216 then
  (match D.data[D.pos]? with
   | none=>(0,{ D with err := 3 })
   | some x=>(ae,{ D with V := V1*256+x,W := W1*256,pos := D.pos+1 }))
 else (ae,{ D with V:=V1,W:=W1 }):=by rw [ak,aj,ac];rfl
 have HC:=hid aa
 have al:=hid ao
 have HW:=hid ak
 have HV:=hid aj
 have HB:=hid ac
 clear aa ao ak aj ac
 have hB:=hb
 have hL:=hl
 have hO:=ho
 clear hb hl ho hc
 go_enter Tryz.func282,Tryz.ntmps282
 go_wp2
 go_quiet (fail)
 generalize nq=na
 go_upto_if 20 with fail
 go_cut [5,6,7] (fun s5 s6 s7 wx=>s5=.int .i64 ae/\s6=.int .u64 V1/\s7=.int .u64 W1/\∃ ad,wx=w.drewN ad)
 case first =>
  by_cases hV:bound<=D.V
  ·have t1:decide (bound<=D.V)=true:=by simpa using hV
   go_wp2
   go_quiet (fail)
   go_wp2
   go_meet
   case rel =>
    refine ⟨?_,?_,?_,na+nq,by simp⟩
    ·rw [HB.out];unfold f0q;rw [if_pos hV];rfl
    ·rw [HV.out];unfold dV;rw [if_pos hV];go_num
    ·rw [HW.out];unfold dW;rw [if_pos hV];go_num
  ·have t1:decide (bound<=D.V)=false:=by simpa using hV
   go_wp2
   go_meet
   case rel =>
    refine ⟨?_,?_,?_,na,rfl⟩
    ·rw [HB.out];unfold f0q;rw [if_neg hV];rfl
    ·rw [HV.out];unfold dV;rw [if_neg hV]
    ·rw [HW.out];unfold dW;rw [if_neg hV]
 case rest =>
  obtain ⟨rfl,rfl,rfl,ad,rfl⟩:=hcut
  have ag:∀ D':Dec,D'.data=D.data->D'.odds=D.odds->a4n D bound=(ae,D')->∀ wz,Blk wz b 296 #[.slice (some ⟨g,0,none⟩) D.data.length ap,.int .i64 D'.pos,.int .u64 D'.V,.int .u64 D'.W,vo,.int .i64 D'.err] ->
    Chg [b] w wz->a7f 296 wz b g h (a4n D bound).2:=fun D' e1 e2 e3 wz hz hch=>by
   rw [e3]
   exact ⟨_,vo,hz,by rw [e1];exact hL.chg hch (by simpa using am),by rw [e2];exact hO.chg hch (by simpa using aq)⟩
  have ah:=hid ag
  clear ag
  by_cases hs:W1<16777216
  ·go_wp2_with fail
   go_loopg [6,7,8] 1 (fun k v wd at_ wr=>∃ V W p:Nat,v=.int .u64 V/\wd=.int .u64 W/\at_=.int .i64 p/\(∃ nq,wr=w.drewN nq) /\
    ((k=1/\V=V1/\W=W1/\p=D.pos)\/(k=0/\16777216<=W/\W<4294967296/\Hid (a4n D bound=(ae,{ D with V:=V,W:=W,pos:=p })))))
   case atStart=>exact ⟨V1,W1,D.pos,rfl,rfl,rfl,⟨ad,rfl⟩,.inl ⟨rfl,rfl,rfl,rfl⟩⟩
   case round =>
    obtain ⟨V,W,p,rfl,rfl,rfl,⟨ab,rfl⟩,ai⟩:=hrel
    rcases ai with ⟨rfl,rfl,rfl,rfl⟩ | ⟨rfl,ar,ax,af⟩
    ·have t2:decide ((W:Int)<16777216)=true:=by simp;omega
     by_cases hp:D.pos=D.data.length
     ·have t3:((D.pos:Int)==(D.data.length:Int))=true:=by rw [beq_iff_eq];omega
      have HP:=hid hp
      clear hp
      go_wp2
      go_ret
      have e1:a4n D bound=(0,{ D with err:=3 }):=by
       rw [al.out,if_pos hs,List.getElem?_eq_none (by have:=HP.out;omega)]
      rw [e1]
      refine ⟨rfl,⟨.slice (some ⟨g,0,none⟩) D.data.length ap,vo,?_,(hL.drewN ab).far (p:=⟨b,5,none⟩) am _,(hO.drewN ab).far (p:=⟨b,5,none⟩) aq _⟩,((zR _ _).drewN ab).setCell (by simp) _⟩
      have:=(hB.drewN ab).set_ 5 (.int .i64 3)
      simpa using this
     ·have av:D.pos<D.data.length:=by omega
      have t3:((D.pos:Int)==(D.data.length:Int))=false:=by rw [beq_eq_false_iff_ne];omega
      obtain ⟨x,hx⟩:∃ x,D.data[D.pos]?=some x:=⟨_,zF av⟩
      have aG:x<256:=hok.dig x (by obtain ⟨h1,h2⟩:=List.getElem?_eq_some_iff.1 hx;rw [<-h2];exact zG h1)
      have aD:w.cell? ⟨g,D.pos,none⟩=some (.int .u8 x):=HC.out _ _ hx
      have HX:=hid hx
      clear hx hp
      go_wp2
      go_roundg 0
      case measure=>omega
      case rel =>
       refine ⟨V*256+x,W*256,D.pos+1,by go_num,by go_num,by go_num,⟨ab,rfl⟩,.inr ⟨rfl,by omega,by omega,hid ?_⟩⟩
       rw [al.out,if_pos hs,HX.out]
    ·have t2:decide ((W:Int)<16777216)=false:=by simp;omega
     go_wp2
     go_ret
     refine ⟨?_,ah.out { D with V:=V,W:=W,pos:=p } rfl rfl af.out _ ?_ ?_,?_⟩
     ·rw [af.out];rfl
     ·have:=(((hB.drewN ab).set_ 2 (.int .u64 V)).set_ 3 (.int .u64 W)).set_ 1 (.int .i64 p)
      simpa using this
     ·exact ((((zR _ _).drewN ab).setCell (by simp) _).setCell (by simp) _).setCell (by simp) _
     ·exact ((((zR _ _).drewN ab).setCell (by simp) _).setCell (by simp) _).setCell (by simp) _
  ·have t2:decide ((W1:Int)<16777216)=false:=by simp;omega
   go_wp2_with fail
   refine wp_loop_once ?_
   go_wp2
   go_ret
   have e1:a4n D bound=(ae,{ D with V:=V1,W:=W1 }):=by rw [al.out,if_neg hs]
   refine ⟨?_,ah.out { D with V:=V1,W:=W1 } rfl rfl e1 _ ?_ ?_,?_⟩
   ·rw [e1];rfl
   ·have:=(((hB.drewN ad).set_ 2 (.int .u64 V1)).set_ 3 (.int .u64 W1)).set_ 1 (.int .i64 D.pos)
    simpa using this
   ·exact ((((zR _ _).drewN ad).setCell (by simp) _).setCell (by simp) _).setCell (by simp) _
   ·exact ((((zR _ _).drewN ad).setCell (by simp) _).setCell (by simp) _).setCell (by simp) _
theorem c5c {D:Dec} {ctx:Nat} (hc:ctx<D.odds.length):D.odds[ctx]?=some (a5c D ctx):=by
 unfold a5c
 rw [zD,zF hc]
 rfl
theorem f1j (w:World) (b g h:Nat) (D:Dec) (hc:a7f 296 w b g h D) :
  Calls Tryz.prog 232 #[.pointer (some ⟨b,0,none⟩)] w fun e w'=>e=.returned (.int .i64 D.err)/\w'=w:=by
 obtain ⟨vd,vo,hb,hl,ho⟩:=hc.ex
 have c5:=hb.cell 5
 simp at c5
 clear hb hl ho hc
 go_enter Tryz.func232,Tryz.ntmps232
 go_wp2
 go_ret
 exact ⟨rfl,rfl⟩
theorem e8m (w:World) (b g h:Nat) (D:Dec) (hc:a7f 296 w b g h D) (hpos:D.pos<=D.data.length) :
  Calls Tryz.prog 234 #[.pointer (some ⟨b,0,none⟩)] w fun e w'=>e=.returned (.int .i64 ((D.data.length-D.pos:Nat):Int))/\∃ n,w'=w.drewN n:=by
 obtain ⟨vd,vo,hb,hl,ho⟩:=hc.ex
 obtain ⟨aa,rfl,ab,ac,-,-⟩:=hl.oq
 have c0:=hb.cell 0
 have c1:=hb.cell 1
 simp at c0 c1
 clear hb hl ho hc
 have hw:IntKind.i64.wrap ((D.data.length:Int)-D.pos)=((D.data.length-D.pos:Nat):Int):=by
  rw [IntWalk.i64_in _ (by omega)];omega
 go_enter Tryz.func234,Tryz.ntmps234
 go_wp2
 go_quiet (fail)
 go_wp2
 go_ret
 exact ⟨by go_num,nq,rfl⟩
theorem d5m (w:World) (b g h:Nat) (D:Dec) (ctx:Nat) (hc:a7f 296 w b g h D) (hok:a9g D) (he:D.err=0) (hctx:ctx<D.odds.length) :
  Calls Tryz.prog 263 #[.pointer (some ⟨b,0,none⟩),.int .i64 ctx] w fun e w'=>e=.returned (.int .i64 ((c8w D ctx).1:Nat)) /\
   a7f 296 w' b g h (c8w D ctx).2/\Chg [b,h] w w':=by
 obtain ⟨vd,vo,hb,hl,ho⟩:=hc.ex
 have ao:=c5b hok hctx
 have aT:=hok.hi
 have aN:=hl.ne_ hb (by decide)
 have aL:=ho.ne_ hb (by decide)
 have aV:=hl.ne_row ho (by decide)
 obtain ⟨aH,rfl,aP,aI,ab,-⟩:=ho.oq
 have ap:=ab ctx _ (c5c hctx)
 replace ap:w.cell? ⟨h,ctx,none⟩=some (.int .i64 (a5c D ctx:Int)):=ap
 clear ab
 have aE:=b6s hok hctx
 obtain ⟨o1,ay⟩:=zX (a5c D ctx)
 rw [<-ay] at ap aE ao
 have aD:=hid ay
 clear ay
 have c3:=hb.cell 3
 have c4:=hb.cell 4
 have c5:=hb.cell 5
 simp at c3 c4 c5
 rw [he] at c5
 have t1:decide ((ctx:Int)<0)=false:=by simp
 have t2:decide (D.odds.length<=ctx)=false:=by simp;omega
 obtain ⟨bd,ac⟩:=zX (D.W / 4096*o1)
 rw [<-ac] at ao
 have aM:IntKind.u64.wrap ((D.W:Int) / 4096*(o1:Int))=(bd:Int):=by
  have e:((D.W:Int) / 4096*(o1:Int))=(bd:Int):=by rw [ac];simp
  rw [e]
  exact IntWalk.u64_in _ (by omega)
 have af:Hid (c8w D ctx=if (a4n D bd).2.err=0 then ((a4n D bd).1,{ (a4n D bd).2 with odds:=D.odds.set ctx (b3g o1 (a4n D bd).1) }) else a4n D bd):=by
  refine hid ?_
  rw [ac,aD.out]
  rfl
 clear ac
 have ah:=hid (b6t D bd)
 have aq:=hid (e1z D bd)
 have aG:=hid (e2a D bd)
 obtain ⟨al,aC⟩:=zX ((a4n D bd).1)
 obtain ⟨D1,aB⟩:=zX ((a4n D bd).2)
 have ai:=hid aC
 have ae:=hid aB
 clear aC aB
 have HE:=hid he
 clear he
 go_enter Tryz.func263,Tryz.ntmps263
 go_wp2
 refine a0c 15 (by kernel_rfl) (by kernel_rfl) ?_
 simp only [List.take_succ_cons,List.take_zero,List.drop_succ_cons,List.drop_zero]
 repeat (go_big_quiet_step (fail))
 refine wpQuiet_nil ?_
 intro _ aw
 obtain ⟨nq,rfl⟩:=aw
 go_wp2_with fail
 refine (c9z (w.drewN nq) b g h D bd (hc.same ((zR _ _).drewN nq)) hok ao).mono ?_
 rintro e w1 ⟨rfl,au,ag⟩
 rw [<-ae.out] at au
 rw [<-ai.out]
 obtain ⟨aS,aO,ak,ar,aj⟩:=au.ex
 have x5:=ak.cell 5
 simp at x5
 by_cases he1:D1.err=0
 ·have t3:((D1.err:Int)==0)=true:=by rw [beq_iff_eq];omega
  have an:=hid he1
  clear he1
  have am:D1.odds=D.odds:=by rw [ae.out];exact ah.out.2
  rw [am] at aj
  have aR:=hid am
  clear am
  have aK:=ar.ne_ ak (by decide)
  have av:=ar.ne_row aj (by decide)
  obtain ⟨az,rfl,aJ,aA,aa,ad⟩:=aj.oq
  have aQ:w1.cell? ⟨h,ctx,none⟩=some (.int .i64 o1):=by rw [aD.out];exact aa ctx _ (c5c hctx)
  have aU:=ad ctx
  have aF:=ak.cell 4
  simp at aF
  clear aa ad
  go_wp2_with fail
  refine a0c 14 (by kernel_rfl) (by kernel_rfl) ?_
  simp only [List.take_succ_cons,List.take_zero,List.drop_succ_cons,List.drop_zero]
  repeat (go_big_quiet_step ((go_at_call 254;exact Calls.quiet_of_same (c9f o1 al _ (by omega) (by rw [ai.out];exact aq.out)))))
  refine wpQuiet_nil ?_
  intro _ aw
  obtain ⟨ax,rfl⟩:=aw
  go_wp2
  go_ret
  have e1:c8w D ctx=(al,{ D1 with odds:=D.odds.set ctx (b3g o1 al) }):=by
   rw [af.out,if_pos (by rw [<-ae.out];exact an.out),ai.out,ae.out]
  rw [e1]
  refine ⟨rfl,⟨_,_,(ak.drewN ax).far (p:=⟨h,ctx,none⟩) aL.symm _,(ar.drewN ax).far (p:=⟨h,ctx,none⟩) av _,?_⟩,?_⟩
  ·simp only
   rw [List.map_set]
   exact (aj.drewN ax).set_ (i:=ctx) (by simpa using hctx) _
  ·refine Chg.setCell (Chg.drewN ?_ _) (by simp) _
   exact ((zR _ _).drewN nq).trans ag (by simp)
 ·have t3:((D1.err:Int)==0)=false:=by rw [beq_eq_false_iff_ne];omega
  have an:=hid he1
  clear he1
  go_wp2
  go_ret
  have e1:c8w D ctx=(al,D1):=by
   rw [af.out,if_neg (by rw [<-ae.out];exact an.out),ai.out,ae.out]
  rw [e1]
  exact ⟨rfl,au,(((zR _ _).drewN nq).trans ag (by simp))⟩
theorem c7m (g cap:Nat) (ds:List Nat) (n:Nat) (w:World) (h1:1<=n) (hn:n<=4096) (hcap:ds.length<=cap) (hcap2:cap<=9223372036854775807)
  (hcell:∀ (i d:Nat),ds[i]?=some d->w.cell? ⟨g,i,none⟩=some (b8 d)) (hd:∀ d∈ds,d<256) (h4:4<=ds.length) (hlen:ds.length<=1099511627776) (hff:a8r (ds.take 4)≠4294967295) :
  Calls Tryz.prog 230 #[.slice (some ⟨g,0,none⟩) ds.length cap,.int .i64 n] w fun e w'=>∃ b g' h,e=.returned (.tuple #[.pointer (some ⟨b,0,none⟩),.int .i64 0]) /\
   a7f 296 w' b g' h (b3m ds n)/\Chg [] w w'/\w.heap.size<=b/\w.heap.size<=g'/\w.heap.size<=h:=by
 have t1:decide ((n:Int)<1)=false:=by simp;omega
 have t2:decide ((4096:Int)<n)=false:=by simp;omega
 have t3:decide ((ds.length:Int)<4)=false:=by simp;omega
 have HC:=hid hcell
 have HD:=hid hd
 have HF:=hid hff
 have ae:a8r (ds.take 4)<4294967296:=by
  have:=e6e (ds.take 4) fun d h=>hd d (List.mem_of_mem_take h)
  rw [zI,Nat.min_eq_left h4] at this
  simpa using this
 have HV:=hid ae
 clear hcell hd hff ae
 go_enter Tryz.func230,Tryz.ntmps230
 go_wp2_with fail
 go_loopg [6,8,22] 4 (fun k v c i wr=>wr=w/\k<=4/\i=.int .i64 ((4-k:Nat):Int)/\v=.int .u64 ((a8r (ds.take (4-k)):Nat):Int))
 case atStart=>exact ⟨rfl,zQ _,rfl,rfl⟩
 case round =>
  obtain ⟨rfl,hk,rfl,rfl⟩:=hrel
  rcases gk with _ | k
  ·have t4:decide (((4-0:Nat):Int)<4)=false:=by simp
   simp only [Nat.sub_zero]
   obtain ⟨V,hV⟩:=zX (a8r (ds.take 4))
   rw [<-hV]
   have t5:((V:Int)==4294967295)=false:=by rw [beq_eq_false_iff_ne,hV];have:=HF.out;omega
   have ah:=hid hV
   clear hV
   have aa:∀ j u,(ds.map b8)[j]?=some u->wr.cell? ((⟨g,0,none⟩:Addr).add j)=some u:=by
    intro j u hj
    rw [zW] at hj
    obtain ⟨d,aj,rfl⟩:=Option.map_eq_some_iff.1 hj
    have e:(⟨g,0,none⟩:Addr).add j=⟨g,j,none⟩:=by unfold Addr.add;split<;>simp_all
    rw [e]
    exact HC.out j d aj
   have ab:=hid aa
   clear aa
   go_wp2_with (at_builtin;refine a3v rfl rfl f0h rfl (by decide) rfl (World.ownsRow_nil _ 0 _ _) (news:=ds.map b8) rfl ?c1 ?c2 ?c3 ?c4 ?c5 ?c6 ?_)
   case c1=>simp
   case c2=>omega
   case c3=>exact ab.out
   case c4=>intro u hu;obtain ⟨d,_,rfl⟩ := List.mem_map.1 hu;rfl
   case c5=>omega
   case c6=>omega
   intro g' ac w1 r1 r2 r3
   obtain ⟨ak,r4,r5⟩:=Row.of_own r1 rfl
   simp only [Value.ownBlock] at r5
   injection r5 with r5
   subst r5
   have r6:wr.heap.size<=g':=by simpa [Value.ownBlock] using r3
   simp only [Value.ownBlock,Option.toList_none] at r2
   clear r1 r3
   go_wp2_with (go_at_call 213;refine (d7r n _ hn).mono ?_;rintro e w2 ⟨h,rfl,q1,q2,q3⟩)
   go_ret2
   have s1:=r2.size
   have s2:=q2.size
   refine ⟨_,_,_,rfl,⟨_,_,?_,((r4.chg q2 (by simp)).alloc _),q1.alloc _⟩,(r2.tq q2).alloc _,by omega,r6,by omega⟩
   have:=Blk.new w2 296 #[.slice (some ⟨g',0,none⟩) ds.length ac,.int .i64 4,.int .u64 V,.int .u64 4294967295,.slice (some ⟨h,0,none⟩) n n,.int .i64 0]
   simp only [b3m,<-ah.out]
   exact this
  ·obtain ⟨m,hm⟩:=zX (4-(k+1))
   rw [<-hm]
   have an:m<4:=by omega
   have af:4-k=m+1:=by omega
   have HM:=hid af
   clear hm af
   obtain ⟨x,hx⟩:∃ x,ds[m]?=some x:=⟨_,zF (by omega)⟩
   have al:x<256:=HD.out x (by obtain ⟨h1,h2⟩:=List.getElem?_eq_some_iff.1 hx;rw [<-h2];exact zG h1)
   have am:wr.cell? ⟨g,m,none⟩=some (.int .u8 x):=HC.out _ _ hx
   have ad:a8r (ds.take (m+1))=a8r (ds.take m)*256+x:=by
    rw [List.take_add_one,hx]
    exact b0c _ _
   have ai:a8r (ds.take m)<16777216:=by
    have:=e6e (ds.take m) fun d h=>HD.out d (List.mem_of_mem_take h)
    have h3:256^(ds.take m).length<=256^3:=Nat.pow_le_pow_right (by decide) (by rw [zI];omega)
    have:(256:Nat)^3=16777216:=by decide
    omega
   obtain ⟨V,hV⟩:=zX (a8r (ds.take m))
   rw [<-hV] at ad ai ⊢
   have ag:=hid ad
   clear hx ad hV
   go_wp2_with fail
   go_roundg k
   case measure=>omega
   case rel =>
    rw [HM.out]
    exact ⟨rfl,by omega,by go_num,by rw [ag.out];go_num⟩
theorem f2a (q bit:Nat) (hq:q<4294967296) (hb:bit=0\/bit=1):bits BinOp.or IntKind.u64 ((q:Int)*2) (bit:Int)=((q*2+bit:Nat):Int):=by
 have h1:=u64_or_nat (q*2) bit (by omega) (by omega)
 have h2:q*2 ||| bit=q*2+bit:=by
  have:=Nat.two_pow_add_eq_or_of_lt (i:=1) (b:=bit) (by omega) q
  rw [zY q 2]
  simpa using this.symm
 rw [h2] at h1
 have e:((q*2:Nat):Int)=(q:Int)*2:=by simp
 rw [<-e]
 exact h1
theorem d5q (w:World) (b g h:Nat) (D:Dec) (c:Cod) (v n:Nat) (hc:a7f 296 w b g h D) (hok:a9g D) (hS:Syn D c) (hco:a2d c) (hf:a2c c) (hn:n<=32) (hv:v<2^n) (hv64:v<4294967296)
  (hF:Fut D.data (b8j c v n)) :
  Calls Tryz.prog 264 #[.pointer (some ⟨b,0,none⟩),.int .i64 n] w fun e w'=>e=.returned (.int .u64 v) /\
   ∃ D',a7f 296 w' b g h D'/\a9g D'/\Syn D' (b8j c v n)/\D'.data=D.data/\Chg [b] w w':=by
 have t1:decide ((n:Int)<0)=false:=by simp
 have t2:decide ((32:Int)<n)=false:=by simp;omega
 have HF:=hid hF
 have HV:=hid hv
 clear hF hv
 have c5:w.cell? ⟨b,5,none⟩=some (.int .i64 0):=by
  obtain ⟨vd,vo,hb,-,-⟩:=hc.ex
  have:=hb.cell 5
  simpa [hS.err] using this
 go_enter Tryz.func264,Tryz.ntmps264
 go_wp2_with fail
 go_loopg [5,21] n (fun k x i wr=>∃ (D':Dec) (c':Cod),k<=n/\x=.int .u64 ((v / 2^k:Nat):Int)/\i=.int .i64 ((n-k:Nat):Int)/\a7f 296 wr b g h D'/\a9g D'/\Syn D' c'/\a2d c'/\a2c c' /\
   Hid (b8j c v n=b8j c' v k)/\Hid (D'.data=D.data)/\Chg [b] w wr)
 case atStart=>exact ⟨D,c,zQ _,by rw [Nat.div_eq_of_lt HV.out];rfl,by simp,hc,hok,hS,hco,hf,hid rfl,hid rfl,zR _ _⟩
 case round =>
  obtain ⟨D',c',hk,rfl,rfl,am,ac,ai,aa,an,Hr,ae,au⟩:=hrel
  rcases gk with _ | k
  ·have t4:decide (((n-0:Nat):Int)<n)=false:=by simp
   go_wp2_with fail
   go_ret
   refine ⟨by simp,D',am,ac,?_,ae.out,au⟩
   rw [Hr.out];exact ai
  ·obtain ⟨m,hm⟩:=zX (n-(k+1))
   rw [<-hm]
   have aD:m<n:=by omega
   have aw:n-k=m+1:=by omega
   have HM:=hid aw
   clear hm aw
   obtain ⟨bit,af⟩:=zX (v / 2^k%2)
   have al:v / 2^k=(v / 2^(k+1))*2+bit:=by
    rw [af,Nat.pow_succ,<-Nat.div_div_eq_div_mul];omega
   have aC:v / 2^(k+1)<=v:=Nat.div_le_self _ _
   obtain ⟨q,hq⟩:=zX (v / 2^(k+1))
   rw [<-hq] at al aC ⊢
   have ad:bit=0\/bit=1:=by omega
   have aA:=hid al
   have av:Fut D'.data (b8j (a4t c' (c'.W / 2) bit) v k):=by
    have:=HF.out
    rw [Hr.out] at this
    rw [ae.out,af]
    exact this
   have ar:Hid (b8j c v n=b8j (a4t c' (c'.W / 2) bit) v k):=by
    refine hid ?_
    rw [Hr.out,af]
    rfl
   have ag:=a6m aa
   have ay:=d3k ac.dig v k (b0g aa ag bit) (b1j aa an ag bit) av
   have az:=e2b ai ac aa an ag ad ay
   have ab:=(b6t D' (c'.W / 2)).1
   have ah:=d5l ac (bound:=c'.W / 2) (by rw [ai.W];exact ag)
   have aB:=hid ad
   have ap:bit<=1:=by omega
   have ak:=hid az
   have aq:=hid ab
   clear af al hq ad az ab av ay
   obtain ⟨vd,vo,hb,hl,ho⟩:=am.ex
   have c3:=hb.cell 3
   simp at c3
   have HW:=hid ai.W
   rw [ai.W] at c3
   obtain ⟨W2,aj⟩:=zX (c'.W / 2)
   have aF:IntKind.u64.wrap ((c'.W:Int) / 2)=(W2:Int):=by
    have e:(c'.W:Int) / 2=((c'.W / 2:Nat):Int):=by simp
    rw [e,aj]
    exact IntWalk.u64_in _ (by have:=aa.hi;omega)
   rw [<-aj] at ak aq ah ag ar
   have aG:=hid aj
   clear aj hb hl ho
   go_wp2_with fail
   refine (c9z wr b g h D' W2 am ac (by rw [HW.out];exact ag)).mono ?_
   rintro e w1 ⟨rfl,ax,ao⟩
   rw [ak.out.1]
   have aE:w1.cell? ⟨b,5,none⟩=some (.int .i64 0):=by
    obtain ⟨vd,vo,hb,-,-⟩:=ax.ex
    have:=hb.cell 5
    simpa [ak.out.2.err] using this
   go_wp2_with fail
   rw [f2a q bit (by omega) aB.out]
   go_roundg k
   case measure=>omega
   case rel =>
    rw [HM.out]
    refine ⟨_,_,by omega,by rw [aA.out],by go_num,ax,ah,ak.out.2,b0g aa ag bit,b1j aa an ag bit,ar,hid ?_,au.tq ao⟩
    rw [aq.out];exact ae.out
theorem e4e (v d:Nat) (h:2^d<=v+1) (hv:v<4294967296):IntKind.u64.wrap (IntKind.u64.wrap (IntKind.u64.wrap ((2:Int)^d)+((v+1-2^d:Nat):Int))-1)=(v:Int):=by
 have e:((2:Int)^d)=((2^d:Nat):Int):=by simp
 rw [e]
 generalize 2^d=p at *
 rw [IntWalk.u64_in (p:Int) (by omega),IntWalk.u64_in ((p:Int)+((v+1-p:Nat):Int)) (by omega),IntWalk.u64_in _ (by omega)]
 omega
def b6o (T:TypeId) (w:World) (b g h:Nat) (D:Dec) (c:Cod) (ctx v most:Nat) (e:Ending) (w':World):Prop :=
 e=.returned (.int .u64 ((if v<=most then v else 0:Nat):Int)) /\
  ∃ D',a7f T w' b g h D'/\(if v<=most then a9g D'/\Syn D' (c8x c ctx v) else D'.err=2)/\D'.data=D.data/\Chg [b,h] w w'
theorem e7g (w:World) (b g h:Nat) (D:Dec) (c:Cod) (ctx v most:Nat) (hc:a7f 296 w b g h D) (hok:a9g D) (hS:Syn D c) (hco:a2d c) (hf:a2c c) (hctx:ctx+33<=c.odds.length) (hv:v<4294967296)
  (hmost:most<18446744073709551616) (hF:Fut D.data (c8x c ctx v)) :
  Calls Tryz.prog 231 #[.pointer (some ⟨b,0,none⟩),.int .i64 ctx,.int .u64 most] w (b6o 296 w b g h D c ctx v most):=by
 obtain ⟨vd,vo,hb,hl,ho⟩:=hc.ex
 obtain ⟨aZ,rfl,a4,a1,-,-⟩:=ho.oq
 have c4:=hb.cell 4
 have c5:=hb.cell 5
 simp at c4 c5
 rw [hS.err] at c5
 rw [hS.odds] at c4 a4
 clear hb hl ho
 have t2:decide ((ctx:Int)<0)=false:=by simp
 have t3:decide ((c.odds.length:Int)-33<(ctx:Int))=false:=by simp;omega
 obtain ⟨d,hd⟩:=zX (Nat.log2 (v+1))
 have af:d<=32:=by rw [hd];exact a8z hv
 have aT:2^d<=v+1:=by rw [hd];exact Nat.log2_self_le (by omega)
 have aF:v+1<2^(d+1):=by rw [hd];exact Nat.lt_log2_self
 have av:c8x c ctx v=b8j (c3u c ctx d) (v+1-2^d) d:=by rw [hd];rfl
 have ab:a2d (c3u c ctx d):=d3w hco af hctx
 have ae:a2c (c3u c ctx d):=c7g hco hf af hctx
 have aR:Fut D.data (b8j (c3u c ctx d) (v+1-2^d) d):=by rw [<-av];exact hF
 have aO:Fut D.data (c3u c ctx d):=d3k hok.dig _ _ ab ae aR
 have aW:Fut D.data (a2p c ctx d):=e2p hok.dig hco hf af hctx aO
 have aX:∀ j,j<=d->Fut D.data (a2p c ctx j):=fun j hj=>d6a hok.dig hco hf (by omega) j hj aW
 have aU:=hid aR
 have aY:=hid aO
 have a2:=hid aX
 have HN:=hid av
 have H2:=hid aF
 clear hd av hF aR aO aW aX aF
 go_enter Tryz.func231,Tryz.ntmps231
 go_wp2_with fail
 go_loopg [7] d (fun k n wr=>∃ (D':Dec),k<=d/\n=.int .i64 ((d-k:Nat):Int)/\a7f 296 wr b g h D'/\a9g D'/\Syn D' (a2p c ctx (d-k))/\Hid (D'.data=D.data)/\Chg [b,h] w wr)
 case atStart=>exact ⟨D,zQ _,by simp,hc,hok,by simpa [a2p] using hS,hid rfl,zR _ _⟩
 case round =>
  obtain ⟨D',hk,rfl,aM,ac,ah,aa,aN⟩:=hrel
  have aH:∀ Dz,a9g Dz->Syn Dz (c3u c ctx d)->Dz.data=D.data->True:=fun _ _ _ _=>trivial
  clear aH
  rcases gk with _ | k
  ·simp only [Nat.sub_zero] at ah ⊢
   have aP:a2d (a2p c ctx d):=a6g hco (by omega)
   have aL:a2c (a2p c ctx d):=b1v hco hf (by omega)
   have a5:ctx+d<=(a2p c ctx d).odds.length:=by rw [a0x];omega
   by_cases hlt:d<32
   ·have t4:decide ((d:Int)<32)=true:=by simp;omega
    have ad:c3u c ctx d=b9b (a2p c ctx d) (ctx+d) 0:=by unfold c3u;rw [if_pos hlt]
    have ap:ctx+d<(a2p c ctx d).odds.length:=by rw [a0x];omega
    have aE:=d5n ah ac aP aL ap (bit:=0) (by simp) (by rw [aa.out,<-ad];exact aY.out)
    have am:=e2d ac (ctx:=ctx+d) (by rw [ah.odds];exact ap)
    have ak:=d0b D' (ctx+d)
    have HS:=hid aE
    have HM:=hid ad
    have aK:=hid ak
    clear ad aE ak
    go_wp2_with fail
    rw [show ((ctx:Int)+d)=((ctx+d:Nat):Int) from by omega]
    refine (d5m wr b g h D' (ctx+d) aM ac ah.err (by rw [ah.odds];exact ap)).mono ?_
    rintro e wz ⟨rfl,aB,an⟩
    rw [HS.out.1]
    have aq:=am
    have aS:Syn (c8w D' (ctx+d)).2 (c3u c ctx d):=by rw [HM.out];exact HS.out.2
    have ar:Hid ((c8w D' (ctx+d)).2.data=D.data):=hid (by rw [aK.out];exact aa.out)
    have aj:Chg [b,h] w wz:=aN.tq an
    generalize (c8w D' (ctx+d)).2=Dz at *
    go_wp2_with fail
    refine (d5q wz b g h Dz (c3u c ctx d) (v+1-2^d) d aB aq aS ab ae af (by have:=H2.out;rw [Nat.pow_succ] at this;omega) (by have:1<=2^d:=Nat.one_le_two_pow;omega) (by rw [ar.out];exact aU.out)).mono ?_
    rintro e w2 ⟨rfl,D2,ax,al,aA,aG,aw⟩
    obtain ⟨aJ,aQ,ai,aD,aC⟩:=ax.ex
    have az:=ai.cell 5
    simp at az
    rw [aA.err] at az
    have a0:=ai.frozen 5
    have ao:=aD.ne_ ai (by decide)
    have au:=aC.ne_ ai (by decide)
    have ay:=hid aG
    have aI:=e4e v d aT hv
    have ag:Chg [b,h] w w2:=aj.trans aw (by simp)
    clear aG
    by_cases hm:v<=most
    ·have t6:decide (most<v)=false:=by simpa using hm
     go_wp2
     go_ret
     unfold b6o
     simp only [if_pos hm]
     exact ⟨rfl,D2,ax,⟨al,by rw [HN.out];exact aA⟩,by rw [ay.out];exact ar.out,ag⟩
    ·have t6:decide (most<v)=true:=by simp;omega
     go_wp2
     go_ret
     unfold b6o
     simp only [if_neg hm]
     refine ⟨rfl,{ D2 with err:=2 },⟨aJ,aQ,?_,aD.far (p:=⟨b,5,none⟩) ao _,aC.far (p:=⟨b,5,none⟩) au _⟩,rfl,by simp only;rw [ay.out];exact ar.out,ag.setCell (by simp) _⟩
     have:=ai.set_ 5 (.int .i64 2)
     simpa using this
   ·have t4:decide ((d:Int)<32)=false:=by simp;omega
    have ad:c3u c ctx d=a2p c ctx d:=by unfold c3u;rw [if_neg hlt]
    have aB:=aM
    have aq:=ac
    have aS:Syn D' (c3u c ctx d):=by rw [ad];exact ah
    have ar:=aa
    have aj:=aN
    clear ad
    generalize D'=Dz at *
    obtain ⟨wz,a3⟩:=zX (wr)
    subst a3
    go_wp2_with fail
    refine (d5q wz b g h Dz (c3u c ctx d) (v+1-2^d) d aB aq aS ab ae af (by have:=H2.out;rw [Nat.pow_succ] at this;omega) (by have:1<=2^d:=Nat.one_le_two_pow;omega) (by rw [ar.out];exact aU.out)).mono ?_
    rintro e w2 ⟨rfl,D2,ax,al,aA,aG,aw⟩
    obtain ⟨aJ,aQ,ai,aD,aC⟩:=ax.ex
    have az:=ai.cell 5
    simp at az
    rw [aA.err] at az
    have a0:=ai.frozen 5
    have ao:=aD.ne_ ai (by decide)
    have au:=aC.ne_ ai (by decide)
    have ay:=hid aG
    have aI:=e4e v d aT hv
    have ag:Chg [b,h] w w2:=aj.trans aw (by simp)
    clear aG
    by_cases hm:v<=most
    ·have t6:decide (most<v)=false:=by simpa using hm
     go_wp2
     go_ret
     unfold b6o
     simp only [if_pos hm]
     exact ⟨rfl,D2,ax,⟨al,by rw [HN.out];exact aA⟩,by rw [ay.out];exact ar.out,ag⟩
    ·have t6:decide (most<v)=true:=by simp;omega
     go_wp2
     go_ret
     unfold b6o
     simp only [if_neg hm]
     refine ⟨rfl,{ D2 with err:=2 },⟨aJ,aQ,?_,aD.far (p:=⟨b,5,none⟩) ao _,aC.far (p:=⟨b,5,none⟩) au _⟩,rfl,by simp only;rw [ay.out];exact ar.out,ag.setCell (by simp) _⟩
     have:=ai.set_ 5 (.int .i64 2)
     simpa using this
  ·obtain ⟨m,hm⟩:=zX (d-(k+1))
   rw [<-hm] at ah ⊢
   have a6:m<d:=by omega
   have aV:d-k=m+1:=by omega
   have HM:=hid aV
   clear hm aV
   have t4:decide ((m:Int)<32)=true:=by simp;omega
   have aP:a2d (a2p c ctx m):=a6g hco (by omega)
   have aL:a2c (a2p c ctx m):=b1v hco hf (by omega)
   have ap:ctx+m<(a2p c ctx m).odds.length:=by rw [a0x];omega
   have aE:=d5n ah ac aP aL ap (bit:=1) (by simp) (by rw [aa.out];exact a2.out (m+1) (by omega))
   have am:=e2d ac (ctx:=ctx+m) (by rw [ah.odds];exact ap)
   have ak:=d0b D' (ctx+m)
   have HS:=hid aE
   have aK:=hid ak
   clear aE ak
   go_wp2_with fail
   rw [show ((ctx:Int)+m)=((ctx+m:Nat):Int) from by omega]
   refine (d5m wr b g h D' (ctx+m) aM ac ah.err (by rw [ah.odds];exact ap)).mono ?_
   rintro e wz ⟨rfl,aB,an⟩
   rw [HS.out.1]
   go_wp2_with fail
   go_roundg k
   case measure=>omega
   case rel =>
    rw [HM.out]
    exact ⟨_,by omega,by go_num,aB,am,HS.out.2,hid (by rw [aK.out];exact aa.out),aN.tq an⟩
end Go.Proofs.YtepjepkgcdfboaaGreatDoor
