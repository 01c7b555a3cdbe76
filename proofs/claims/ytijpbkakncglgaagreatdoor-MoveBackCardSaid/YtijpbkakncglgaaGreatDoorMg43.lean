/- package pic by its contracts: Sum. -/
import Derived.Test.YtijpbkakncglgaaGreatDoorMg36
import Derived.Test.YtijpbkakncglgaaGreatDoorMg41
import Derived.Test.YtijpbkakncglgaaGreatDoorMg42
set_option linter.unusedVariables false
set_option linter.unusedSimpArgs false
set_option maxHeartbeats 2000000
set_option maxRecDepth 100000
namespace Go.Proofs.YtijpbkakncglgaaGreatDoor
open Go.RowKit
def smpBytes (v:Int):List Nat:=[v.toNat / 256,v.toNat%256]
def planeBytes (l:List Int):List Nat:=l.flatMap smpBytes
def picBytes (p:PicD):List Nat:=[p.W,p.H,p.d,p.P.length]++p.P.flatMap planeBytes
def picSum (p:PicD):Nat:=crcN (picBytes p)
theorem planeBytes_len (l:List Int):(planeBytes l).length=2*l.length:=by
 induction l with
 | nil=>rfl
 | cons a l ih=>simp only [planeBytes,List.flatMap_cons,zC,smpBytes,List.length_cons,List.length_nil] at ih ⊢; omega
theorem smp_16 {d:Nat} (h0:1≤d) (h1:d≤16) {v:Int} (hv0:0≤v) (hv1:v<2^d):v.toNat<65536:=by
 have:=(pow_d h0 h1).2
 omega
theorem planeBytes_lt {d:Nat} (h0:1≤d) (h1:d≤16) {l:List Int} (hs:SmpOk d l):∀ x∈planeBytes l,x<256:=by
 intro x hx
 obtain ⟨v,hv,hx⟩:=List.mem_flatMap.1 hx
 obtain ⟨a,b⟩:=hs v hv
 have:=smp_16 h0 h1 a b
 simp only [smpBytes,List.mem_cons,List.not_mem_nil,or_false] at hx
 omega
theorem picBytes_lt {p:PicD} (h:p.Ok):∀ x∈picBytes p,x<256:=by
 intro x hx
 rcases List.mem_append.1 hx with hx | hx
 ·have:=h.w1;have:=h.h1;have:=h.d1;have:=h.n1
  simp only [List.mem_cons,List.not_mem_nil,or_false] at hx
  omega
 ·obtain ⟨l,hl,hx⟩:=List.mem_flatMap.1 hx
  exact planeBytes_lt h.d0 h.d1 (h.smp l hl) x hx
theorem planes_bytes_len {m:Nat}:∀ (P:List (List Int)),(∀ l∈P,l.length=m)→(P.flatMap planeBytes).length=2*m*P.length
 | [],_=>by simp
 | l::P,h=>by
  rw [List.flatMap_cons,zC,planeBytes_len,h l (by simp),planes_bytes_len P (fun x hx=>h x (by simp [hx])),List.length_cons,Nat.mul_succ]
  omega
theorem picSum_lt {p:PicD} (h:p.Ok):picSum p<4294967296:=crcN_lt (picBytes_lt h)
theorem cells_two (w:World) (a b:Nat):Cells (fun u=>u) (w.alloc (.cells #[.int .u8 a,.int .u8 b] 5)) (some ⟨w.heap.size,0,none⟩) ([a,b].map b8):=⟨fun _=>by
 have hb:=Blk.new w 5 #[.int .u8 a,.int .u8 b]
 refine ⟨w.heap.size,0,rfl,hb.lt,fun i x hx => ?_⟩
 rw [Nat.zero_add,hb.cell i]
 match i,hx with
 | 0,hx=>exact hx
 | 1,hx=>exact hx
 | i+2,hx=>simp at hx⟩
theorem picSum_ok {w:World} {p:PicD} {g o:Nat} {B:Nat→Option Addr} {c:Nat→Nat} {G:List Nat} (cap:Nat) (h:PicAt w p g o B c G) :
  Calls Tryz.prog 56 #[picV p g o cap] w fun e w'=>e=.returned (.int .u32 (picSum p:Int))∧Chg [] w w':=by
 have his:=fun w' (hc:Chg [] w w')=>is_yes cap (h.same hc)
 have hok:=h.ok
 unfold picV at his ⊢
 obtain ⟨W,hW⟩:∃ W,W=p.W:=⟨_,rfl⟩
 obtain ⟨H,hH⟩:∃ H,H=p.H:=⟨_,rfl⟩
 obtain ⟨d,hd⟩:∃ d,d=p.d:=⟨_,rfl⟩
 obtain ⟨n,hn⟩:∃ n,n=p.P.length:=⟨_,rfl⟩
 obtain ⟨N,hN⟩:∃ N,N=W*H:=⟨_,rfl⟩
 rw [←hW,←hH,←hd,←hn] at his ⊢
 have hN4:N≤4096:=by rw [hN,hW,hH];exact hok.area
 have hn4:n≤4:=by rw [hn];exact hok.n1
 have hW4:W≤64:=by rw [hW];exact hok.w1
 have hH4:H≤64:=by rw [hH];exact hok.h1
 have hd1:d≤16:=by rw [hd];exact hok.d1
 have hcel:∀ w',Chg [] w w'→∀ i,i<n→∃ b q,w'.cell? ⟨g,o+i,none⟩=some (.slice (some ⟨b,q,none⟩) N (c i))∧∀ w'',Chg [] w w''→∀ k,k<N→w''.cell? ⟨b,q+k,none⟩=some (.int .i64 ((p.P.getD i []).getD k 0)):=by
  intro w' hc i hi
  rw [hn] at hi
  obtain ⟨b,q,e,hb,hk⟩:=h.at_ hi
  have hce:=(h.same hc).cell i hi
  rw [e,←hW,←hH,←hN] at hce
  refine ⟨b,q,hce,fun w'' hc'' k hk' => ?_⟩
  have hh:=hk k (by rw [←hW,←hH,←hN];exact hk')
  exact (World.cell?_of_block (w:=w) (hc''.block b (h.lt b hb) (by simp))).trans hh
 have hws:∀ i k,i<n→∃ m:Nat,(p.P.getD i []).getD k 0=(m:Int)∧m<65536:=by
  intro i k hi
  rw [hn] at hi
  obtain ⟨a,b⟩:=getD_smp (hok.smp _ (by rw [zD,zF hi];exact zG hi:p.P.getD i []∈p.P)) k
  exact ⟨((p.P.getD i []).getD k 0).toNat,by omega,smp_16 hok.d0 hok.d1 a b⟩
 have hlen:∀ i,i<n→(p.P.getD i []).length=N:=fun i hi=>by rw [hN,hW,hH];exact h.len (by rw [←hn];exact hi)
 have hbig:=picBytes_lt hok
 have hbl:(picBytes p).length≤100000:=by
  unfold picBytes
  rw [zC,planes_bytes_len p.P (fun l hl=>hok.len l hl)]
  have h1:=hok.area
  have h2:=hok.n1
  have h3:=Nat.mul_le_mul (Nat.mul_le_mul (Nat.le_refl 2) h1) h2
  simp only [List.length_cons,List.length_nil]
  omega
 have hpl:∀ i,i≤n→([W,H,d,n]++(p.P.take i).flatMap planeBytes).length≤100000:=by
  intro i hi
  rw [zC,planes_bytes_len (m:=p.W*p.H) _ (fun l hl=>hok.len l (List.mem_of_mem_take hl)),List.length_take,←hn]
  have h1:=hok.area
  have h3:=Nat.mul_le_mul (Nat.mul_le_mul (Nat.le_refl 2) h1) (show min i n≤4 by omega)
  simp only [List.length_cons,List.length_nil]
  omega
 obtain ⟨w1,hw1⟩:∃ w1,w1=w.alloc (.cells #[.int .i64 W,.int .i64 H,.int .i64 d,.slice (some ⟨g,o,none⟩) n cap] 25):=⟨_,rfl⟩
 have ch1:Chg [] w w1:=by rw [hw1];exact (Chg.refl [] w).alloc _
 have hbk:Blk w1 w.heap.size 25 #[.int .i64 W,.int .i64 H,.int .i64 d,.slice (some ⟨g,o,none⟩) n cap]:=by rw [hw1];exact Blk.new w _ _
 have hPN:p.P.length=n:=hn.symm
 have hfin:Hid (∀ i,i=n→crcN ([W,H,d,n]++(p.P.take i).flatMap planeBytes)=picSum p):=hid (fun i hi=>by
  rw [List.take_of_length_le (by omega),hW,hH,hd,hn]
  rfl)
 have hbyt:Hid (∀ i,i=n→∀ x∈[W,H,d,n]++(p.P.take i).flatMap planeBytes,x<256):=hid (fun i hi=>by
  rw [List.take_of_length_le (by omega),hW,hH,hd,hn]
  exact hbig)
 have hstep:Hid (∀ i,i<n→[W,H,d,n]++(p.P.take (i+1)).flatMap planeBytes=([W,H,d,n]++(p.P.take i).flatMap planeBytes)++planeBytes (p.P.getD i [])):=hid (fun i hi=>by
  have hi':i<p.P.length:=by omega
  rw [List.take_succ_eq_append_getElem hi',List.flatMap_append,List.append_assoc,zD,zF hi']
  simp)
 have HW1:=hid hw1
 have HBK:=hid hbk
 have HC:=hid hcel
 have HWS:=hid hws
 have HCH:=hid ch1
 have HIS:=hid his
 have HPL:=hid hpl
 have HLE:=hid hlen
 have w8:∀ m:Nat,m<256→IntKind.u8.wrap (m:Int)=(m:Int):=fun m hm=>by rw [IntKind.wrap_u8];omega
 have wW:=w8 W (by omega)
 have wH:=w8 H (by omega)
 have wd:=w8 d (by omega)
 have wn:=w8 n (by omega)
 clear hW hH hd hn hN hok hcel hws hw1 hbk ch1 h his hbig hbl hpl hlen w8 hPN
 go_enter Tryz.func56,Tryz.ntmps56
 go_wp2_with fail
 rw [←HW1.out]
 refine (HIS.out w1 HCH.out).mono ?_
 rintro e w2 ⟨rfl,ch2⟩
 have c0:=(HBK.out.chg ch2 (by simp)).cell 0
 have c1:=(HBK.out.chg ch2 (by simp)).cell 1
 have c2:=(HBK.out.chg ch2 (by simp)).cell 2
 have c3:=(HBK.out.chg ch2 (by simp)).cell 3
 simp at c0 c1 c2 c3
 have c3':=((HBK.out.chg ch2 (by simp)).alloc (.cells #[.int .u8 W,.int .u8 H,.int .u8 d,.int .u8 n] 5)).cell 3
 simp at c3'
 have HCH2:=hid (HCH.out.trans_same ch2)
 have hown0:Own (w2.alloc (.cells #[.int .u8 W,.int .u8 H,.int .u8 d,.int .u8 n] 5)) 5 (.slice (some ⟨w2.heap.size,0,none⟩) 4 4) [w2.heap.size] ([W,H,d,n].map b8):=by
  have:=Row.made w2 5 ([W,H,d,n].map b8) (by simp [maxLen])
  exact Row.toOwn this
 have HOW:=hid hown0
 clear ch2 hown0
 go_wp2_with fail
 go_loopg [3,5,7,28,34] n (fun j v3 v5 v7 v28 v34 wr=>∃ (i:Nat) (F:List Nat),v28=.int .i64 i∧i+j=n∧Hid (Own wr 5 v3 F (([W,H,d,n]++(p.P.take i).flatMap planeBytes).map b8))∧Hid (Chg [] w wr)∧Hid (∀ x∈F,w.heap.size≤x))
 case atStart=>exact ⟨0,[w2.heap.size],rfl,by omega,hid (by simpa using HOW.out),hid (HCH2.out.alloc _),hid (by intro x hx;simp at hx;have := HCH2.out.size;omega)⟩
 case round =>
  obtain ⟨i,F,rfl,hij,HO,HCR,HF⟩:=hrel
  rcases gk with _ | j
  ·obtain rfl:i=n:=by omega
   have t1:decide (i<i)=false:=by simp
   obtain ⟨ds,hds⟩:∃ ds,ds=[W,H,d,i]++(p.P.take i).flatMap planeBytes:=⟨_,rfl⟩
   have ho:=HO.out
   have hby:=hbyt.out i rfl
   have hfi:=hfin.out i rfl
   have hpl:=HPL.out i (Nat.le_refl _)
   rw [←hds] at ho hby hfi hpl
   obtain ⟨A3,cap3,rfl,h31,h32,hc3⟩:=ho.open_map
   have hth:=thirtyTwo_ok wr A3 cap3 _ hc3 hby (by omega)
   rw [hfi] at hth
   obtain ⟨q,hq⟩:∃ q,q=ds.length:=⟨_,rfl⟩
   rw [←hq] at hth ⊢
   have HTH:=hid hth
   clear hth h31 h32 hc3 ho hby hfi hpl hds hq
   go_wp2_with fail
   refine HTH.out.mono ?_
   rintro e w' ⟨rfl,rfl⟩
   go_wp2
   go_ret
   exact ⟨rfl,HCR.out⟩
  ·have hi:i<n:=by omega
   obtain ⟨b,q,hce,hk⟩:=HC.out wr HCR.out i hi
   have HK:=hid hk
   obtain ⟨l,hl⟩:∃ l,l=p.P.getD i []:=⟨_,rfl⟩
   obtain ⟨pre,hpre⟩:∃ pre,pre=[W,H,d,n]++(p.P.take i).flatMap planeBytes:=⟨_,rfl⟩
   have hst:=hstep.out i hi
   have hple:=HPL.out i (by omega)
   have hll:=HLE.out i hi
   have hsm:=HWS.out i
   rw [←hl] at hst hll hsm
   rw [←hpre] at hst hple
   have HL:=hid hl
   have HPRE:=hid hpre
   have HST:=hid hst
   have HPLE:=hid hple
   have HLL:=hid hll
   have HSM:=hid hsm
   clear hk hl hpre hst hple hll hsm
   go_wp2_with fail
   go_loopg [3,7,34] N (fun j2 v3 v7 v34 wr2=>∃ (k:Nat) (F2:List Nat),v34=.int .i64 k∧k+j2=N∧Hid (Own wr2 5 v3 F2 ((pre++planeBytes (l.take k)).map b8))∧Hid (Chg [] w wr2)∧Hid (∀ x∈F2,w.heap.size≤x))
   case atStart=>exact ⟨0,F,rfl,by omega,hid (by rw [HPRE.out];simpa [planeBytes] using HO.out),hid HCR.out,hid HF.out⟩
   case round =>
    obtain ⟨k,F2,rfl,hkj,HO2,HC2,HF2⟩:=hrel
    rcases gk with _ | j2
    ·obtain rfl:k=N:=by omega
     have t2:decide (k<k)=false:=by simp
     go_wp2
     go_roundg j
     case measure=>omega
     case rel =>
      refine ⟨i+1,F2,by go_num,by omega,hid ?_,HC2,HF2⟩
      have h:=HO2.out
      rw [List.take_of_length_le (by rw [HLL.out];exact Nat.le_refl _)] at h
      rw [HST.out]
      exact h
    ·have hkN:k<N:=by omega
     obtain ⟨m,hm,hm16⟩:=HSM.out k hi
     have hcs:=HK.out wr HC2.out k hkN
     rw [←HL.out,hm] at hcs
     have hpb:Hid (planeBytes (l.take (k+1))=planeBytes (l.take k)++[m / 256,m%256]):=by
      refine hid ?_
      have hkl:k<l.length:=by rw [HLL.out];exact hkN
      have e:l[k]=(m:Int):=by
       rw [←hm,zD,zF hkl]
       rfl
      rw [List.take_succ_eq_append_getElem hkl,planeBytes,List.flatMap_append,e]
      simp [planeBytes,smpBytes]
     have hpk:(planeBytes (l.take k)).length≤8192:=by rw [planeBytes_len,List.length_take,HLL.out];omega
     have HPK:=hid hpk
     have hdv:(m:Int) / 256=((m / 256:Nat):Int):=by omega
     obtain ⟨hi8,hhi8⟩:∃ x,x=m / 256:=⟨_,rfl⟩
     obtain ⟨lo8,hlo8⟩:∃ x,x=m%256:=⟨_,rfl⟩
     rw [←hhi8,←hlo8] at hpb
     rw [←hhi8] at hdv
     have hi9:hi8<256:=by omega
     have e8:IntKind.u8.wrap (hi8:Int)=(hi8:Int):=by rw [IntKind.wrap_u8];omega
     have e9:IntKind.u8.wrap (m:Int)=(lo8:Int):=by rw [IntKind.wrap_u8];omega
     have hown:=HO2.out.alloc (.cells #[.int .u8 hi8,.int .u8 lo8] 5)
     have hcv:=cells_two wr hi8 lo8
     have HCV:=hid hcv
     clear hm hhi8 hlo8 hpk hcv
     go_wp2_with (at_builtin;refine wpList_append_s rfl rfl u8_elem rfl rfl hown ([hi8,lo8].map b8) 2 rfl ?c1 ?c2 ?c3 ?c4 ?c5 ?_)
     case c1=>rfl
     case c2=>exact HCV.out
     case c3=>exact b8_one _
     case c4=>have := HPLE.out;have := HPK.out;simp only [zE,zC,List.length_cons,List.length_nil];omega
     case c5=>have := HPLE.out;have := HPK.out;simp only [zE,zC,List.length_cons,List.length_nil];omega
     intro v' F' w' h2 h3
     go_wp2_with fail
     go_roundg j2
     case measure=>omega
     case rel =>
      refine ⟨k+1,F',by go_num,by omega,hid ?_,hid ?_,hid ?_⟩
      ·rw [hpb.out,List.map_append,List.map_append]
       exact h2
      ·exact (HC2.out.trans_same ((Chg.refl [] wr).alloc _)).trans h3.chg fun x hx => .inr (HF2.out x hx)
      ·intro x hx
       rcases h3.new x hx with h | h
       ·exact HF2.out x h
       ·have:=HC2.out.size;rw [alloc_size] at h;omega
end Go.Proofs.YtijpbkakncglgaaGreatDoor
