/- package move by its contracts: getBlock, a block whose planes are changed. Printed by wip/mkgb.py. -/
import Derived.Test.YtijpbkakncglgaaGreatDoorMg48
import Derived.Test.YtijpbkakncglgaaGreatDoorMg50
set_option linter.unusedVariables false
set_option linter.unusedSimpArgs false
set_option maxHeartbeats 4000000
set_option maxRecDepth 100000
namespace Go.Proofs.YtijpbkakncglgaaGreatDoor
open Go.RowKit
theorem getBlock_diff {w:World} {p q:PicD} {g o:Nat} {B:Nat→Option Addr} {c:Nat→Nat} {G:List Nat} {bs:List Sq} {s:Sq} {m:Int × Int} {b:Nat} {F ds:List Nat} {pos gP capP:Nat} {xs:List Value} {gs:List Nat} (cap:Nat)
  (h:GbIn w p q g o B c G bs s m b F ds pos gP capP xs gs) (hsame:sameB p q s m=false) (hah:Ahead ds pos (blockBits p q s m)) :
  Calls Tryz.prog 36 #[.pointer (some ⟨b,0,none⟩),picV p g o cap,picV (bwP p q bs s 0) gP 0 capP,sqV s] w (GbPost w p q bs s b F ds (pos+(blockBits p q s m).length) gP capP xs gs):=by
 have hok:=h.was.ok
 have hok':=h.qok
 have ha:=h.ha
 have hs:=h.hs
 have hm:=h.hm
 obtain ⟨sw0,sw1,sh0,sh1⟩:(1≤s.w∧s.w≤8∧1≤s.h∧s.h≤8):=⟨h.sw0,h.sw1,h.sh0,h.sh1⟩
 have hx4:s.x≤64:=by have:=hs.x;have:=hok.w1;omega
 have hy4:s.y≤64:=by have:=hs.y;have:=hok.h1;omega
 have hW4:=hok.w1
 have hH4:=hok.h1
 have hmf:=hm.fit
 have hgs:∀ k,w.heap.size≤k→k∉b::gs:=fun k hk hmm=>by
  rcases List.mem_cons.1 hmm with rfl | h1
  ·have:=h.rd.lt _ h.rd.mem;omega
  ·have:=h.now.pl.lt k h1;omega
 have hnn:=ha.n
 obtain ⟨n,hn⟩:∃ n,n=p.P.length:=⟨_,rfl⟩
 rw [←hn] at hnn
 obtain ⟨N,hN⟩:∃ N,N=p.W*p.H:=⟨_,rfl⟩
 obtain ⟨M,hM⟩:∃ M,M=s.h*s.w:=⟨_,rfl⟩
 have hM4:M≤64:=by rw [hM];exact Nat.mul_le_mul sh1 sw1
 have hM0:0<M:=by rw [hM];exact Nat.mul_pos sh0 sw0
 have hN4:N≤4096:=by rw [hN];exact hok.area
 have hn4:n≤4:=by rw [hn];exact hok.n1
 have hpo:∀ w',Chg (b::gs) w w'→∀ i,i<n→_:=fun w' hc i hi=>part_ok cap (h.was.chg hc h.gG) i (by rw [←hn];exact hi) s m hmf.x0 hmf.x1 hmf.y0 hmf.y1 hx4 hy4
 have him:=fun w'=>isMove_ok p.W p.H p.d n g o cap s m w' hW4 hH4 hx4 hy4 (by omega) (by omega) (by have:=hm.1;omega) (by have:=hm.2.1;omega) (by have:=hm.2.2.1;omega) (by have:=hm.2.2.2.1;omega)
 rw [(mvB_iff p.W p.H s m).2 hm] at him
 have hd0:=hok.d0
 have hd1:=hok.d1
 have hwp:∀ v w,_:=fun v w=>wrap_ok v p.d w hd0 hd1
 unfold GbPost
 unfold picV sqV at hpo ⊢
 unfold sqV at him
 rw [←hn] at hpo ⊢
 rw [bwP_len,←hn]
 show Calls _ _ #[_,_,.agg #[.int .i64 (p.W:Int),.int .i64 (p.H:Int),.int .i64 (p.d:Int),.slice (some ⟨gP,0,none⟩) n capP],_] _ _
 obtain ⟨w1,hw1⟩:∃ w1,w1=(((w.alloc (.cells #[.int .i64 (p.W:Int),.int .i64 (p.H:Int),.int .i64 (p.d:Int),.slice (some ⟨g,o,none⟩) n cap] 25)).alloc (.cells #[.int .i64 (p.W:Int),.int .i64 (p.H:Int),.int .i64 (p.d:Int),.slice (some ⟨gP,0,none⟩) n capP] 25)).alloc (.cells #[.int .i64 (s.x:Int),.int .i64 (s.y:Int),.int .i64 (s.w:Int),.int .i64 (s.h:Int)] 45)):=⟨_,rfl⟩
 have hb1:Blk w1 w.heap.size 25 #[.int .i64 (p.W:Int),.int .i64 (p.H:Int),.int .i64 (p.d:Int),.slice (some ⟨g,o,none⟩) n cap]:=by rw [hw1];exact ((Blk.new w _ _).alloc _).alloc _
 have hb2:Blk w1 (w.heap.size+1) 25 #[.int .i64 (p.W:Int),.int .i64 (p.H:Int),.int .i64 (p.d:Int),.slice (some ⟨gP,0,none⟩) n capP]:=by rw [hw1];exact (Blk.new2 w _ _ _).alloc _
 have hb3:Blk w1 (w.heap.size+1+1) 45 #[.int .i64 (s.x:Int),.int .i64 (s.y:Int),.int .i64 (s.w:Int),.int .i64 (s.h:Int)]:=by rw [hw1];exact Blk.new3 w _ _ _ _
 have hC1:Chg [] w w1:=by rw [hw1];exact (((Chg.refl [] w).alloc _).alloc _).alloc _
 have hcel:∀ (E:List Nat) wr,Chg E w1 wr→(∀ k,w.heap.size≤k→k∉E)→(wr.cell? ⟨w.heap.size,0,none⟩=some (.int .i64 (p.W:Int))∧wr.cell? ⟨w.heap.size,1,none⟩=some (.int .i64 (p.H:Int))∧wr.cell? ⟨w.heap.size,2,none⟩=some (.int .i64 (p.d:Int))∧wr.cell? ⟨w.heap.size,3,none⟩=some (.slice (some ⟨g,o,none⟩) n cap)) ∧
   (wr.cell? ⟨w.heap.size+1,0,none⟩=some (.int .i64 (p.W:Int))∧wr.cell? ⟨w.heap.size+1,3,none⟩=some (.slice (some ⟨gP,0,none⟩) n capP)) ∧
   (wr.cell? ⟨w.heap.size+1+1,0,none⟩=some (.int .i64 (s.x:Int))∧wr.cell? ⟨w.heap.size+1+1,1,none⟩=some (.int .i64 (s.y:Int))∧wr.cell? ⟨w.heap.size+1+1,2,none⟩=some (.int .i64 (s.w:Int))∧wr.cell? ⟨w.heap.size+1+1,3,none⟩=some (.int .i64 (s.h:Int))):=fun E wr hc e =>
  ⟨⟨(hb1.chg hc (e _ (by omega))).cell 0,(hb1.chg hc (e _ (by omega))).cell 1,(hb1.chg hc (e _ (by omega))).cell 2,(hb1.chg hc (e _ (by omega))).cell 3⟩,⟨(hb2.chg hc (e _ (by omega))).cell 0,(hb2.chg hc (e _ (by omega))).cell 3⟩,⟨(hb3.chg hc (e _ (by omega))).cell 0,(hb3.chg hc (e _ (by omega))).cell 1,(hb3.chg hc (e _ (by omega))).cell 2,(hb3.chg hc (e _ (by omega))).cell 3⟩⟩
 have hgP:gP∉b::gs:=fun hmm=>by
  rcases List.mem_cons.1 hmm with e | h1
  ·exact h.fG b h.rd.mem (by simp [e])
  ·obtain ⟨k,hk,e⟩:=List.getElem_of_mem h1
   have hk':k<(bwP p q bs s 0).P.length:=by rw [←h.now.pl.lg];exact hk
   exact h.now.neP hk' (List.getElem?_eq_getElem hk) e.symm
 have hrd1:=h.rd.chg hC1 (by simp)
 have hst1:∀ w2 pos',IsRd w2 b F ds pos'→Chg [b] w1 w2→GbSt w1 p q bs s b F ds pos' gP capP xs gs w2 0:=fun w2 pos' hr hc =>
  ⟨hr,(h.now.same hC1).chg hc (by simpa using fun e=>hgP (by simp [e])) (by
   intro x hx hmm
   simp at hmm
   subst hmm
   exact h.fG _ h.rd.mem (by simp [hx])),hc.mono (by simp)⟩
 have hpt:∀ w2,Chg (b::gs) w w2→Pts w2:=fun w2 hc=>h.pts.chg hc fun hmm=>by
  rcases List.mem_cons.1 hmm with e | h1
  ·exact h.f0 (by rw [e];exact h.rd.mem)
  ·exact h.g0 h1
 have hFG:=h.fG
 have hF0:=h.f0
 have hoo:=fun i=>oldB_zero ha i s
 have hold:∀ i,(oldB p i s m).length=M:=fun i=>by rw [oldB_len,hM]
 have hln:∀ i,i<n→(p.P.getD i []).length=N∧(q.P.getD i []).length=N:=fun i hi=>⟨by rw [hN];exact hok.len _ (plane_mem (by omega)),by rw [hN,ha.W,ha.H];exact hok'.len _ (plane_mem (by omega))⟩
 have hfy:∀ k,k<s.h→(s.y+k)*p.W+s.x+s.w≤N:=fun k hk=>by
  have h1:=hs.x
  have h2:s.y+k+1≤p.H:=by have:=hs.y;omega
  have h3:=Nat.mul_le_mul_right p.W h2
  rw [Nat.succ_mul,Nat.mul_comm p.H,←hN] at h3
  omega
 have hfm:∀ k,k<s.h→k*s.w+s.w≤M:=fun k hk=>by
  have h3:=Nat.mul_le_mul_right s.w (show k+1≤s.h by omega)
  rw [Nat.succ_mul,←hM] at h3
  exact h3
 have hcr:∀ i k,i<n→k<s.h→_:=fun i k hi hk=>copy_row_eq (q:=q.P.getD i []) (l:=p.P.getD i []) (W:=p.W) (H:=p.H) (bs:=bs) (sx:=s.x) (sy:=s.y) (sw:=s.w) (sh:=s.h) (k:=k) (by rw [(hln i hi).1,(hln i hi).2]) (by rw [(hln i hi).1,hN]) hs.x hs.y hk
 have hdl:∀ i,(diffB p q i s m).length=M:=fun i=>by rw [diffB_len,hM,Nat.mul_comm]
 have hds:∀ i,SmpOk p.d (diffB p q i s m):=fun i=>by rw [ha.d];exact diffW_smp _ _ _
 have hos:∀ i,i<n→SmpOk p.d (oldB p i s m):=fun i hi=>oldB_smp hok (by omega) s m
 have hug:∀ i k,i<n→k<M→(partF (q.P.getD i []) p.W s.x s.y s.w s.h)[k]?=some (wrapI ((oldB p i s m).getD k 0+(diffB p q i s m).getD k 0) p.d):=fun i k hi hk=>by
  rw [←hoo i,ha.d]
  exact unD_get (oldB_smp hok' (by omega) s (0,0)) (by rw [←hM];exact hk)
 have hpl:∀ i,(partF (q.P.getD i []) p.W s.x s.y s.w s.h).length=M:=fun i=>by rw [partF_len,hM]
 have hlen3:∀ i,i<n→bestKind (diffB p q i s m) s.w s.h p.d≤7∧mayB (bestKind (diffB p q i s m) s.w s.h p.d) (diffB p q i s m) s.w p.d=true:=fun i hi=>by
  have h1:=bestKind_ok (diffB p q i s m) s.w s.h p.d
  exact ⟨h1.1,h1.2.1⟩
 have htg:∀ w' i pos',i<n→IsRd w' b F ds pos'→Chg (b::gs) w w'→Ahead ds pos' (tileBest (diffB p q i s m) s.w s.h p.d)→Calls Tryz.prog 61 #[.pointer (some ⟨b,0,none⟩),.int .i64 (s.w:Int),.int .i64 (s.h:Int),.int .i64 (p.d:Int)] w' (GetPost w' b F ds pos' (diffB p q i s m) (tileBest (diffB p q i s m) s.w s.h p.d).length):=fun w' i pos' hi hr hc hah' =>
  tget_all hr sw0 (by omega) sh0 (by omega) hd0 hd1 (by rw [hdl i,hM,Nat.mul_comm]) (hds i) (hlen3 i hi).1 (hpt w' hc) hF0 (hlen3 i hi).2 hah'
 have hbb:blockBits p q s m=bitsOf 2 2++(vecBits m++changeBits p q s m n):=by
  unfold blockBits
  rw [if_neg (by rw [hsame];simp),hnn]
 obtain ⟨e1,he1⟩:∃ e1:Nat,m.1+4=(e1:Int):=⟨(m.1+4).toNat,by have:=hm.1;omega⟩
 obtain ⟨e2,he2⟩:∃ e2:Nat,m.2+4=(e2:Int):=⟨(m.2+4).toNat,by have:=hm.2.2.1;omega⟩
 have e18:e1≤8:=by have:=hm.2.1;omega
 have e28:e2≤8:=by have:=hm.2.2.2.1;omega
 have hvec:vecBits m=bitsOf e1 4++bitsOf e2 4:=by
  unfold vecBits
  rw [he1,he2]
  rfl
 have z1:(e1:Int)-4=m.1:=by omega
 have z2:(e2:Int)-4=m.2:=by omega
 have y1:IntKind.i64.wrap (e1:Int)=(e1:Int):=IntWalk.i64_in _ (by omega)
 have y2:IntKind.i64.wrap (e2:Int)=(e2:Int):=IntWalk.i64_in _ (by omega)
 have z3 : -4≤m.1:=by omega
 have z4:m.1≤4:=by omega
 have z5 : -4≤m.2:=by omega
 have z6:m.2≤4:=by omega
 have HW1:=hid hw1
 have HPO:=hid hpo
 have HIM:=hid him
 have HWP:=hid hwp
 have HCEL:=hid hcel
 have HST:=hid hst1
 have HPT:=hid hpt
 have HFG:=hid hFG
 have HOLD:=hid hold
 have HLN:=hid hln
 have HFY:=hid hfy
 have HFM:=hid hfm
 have HCR:=hid hcr
 have HVEC:=hid hvec
 have HGP:=hid hgP
 have HGS:=hid hgs
 have HRD:=hid hrd1
 have HC1:=hid hC1
 have HOK:=hid hok
 have HOQ:=hid hok'
 have HA:=hid ha
 have HAH:=hid hah
 have HN:=hid hn
 have HNN:=hid hN
 have HM:=hid hM
 have HF0:=hid hF0
 have HDL:=hid hdl
 have HDS:=hid hds
 have HOS:=hid hos
 have HUG:=hid hug
 have HPL:=hid hpl
 have HTG:=hid htg
 have HBB:=hid hbb
 obtain ⟨⟨a0,a1,a2,a3⟩,⟨b0,b3⟩,⟨s0,s1,s2,s3⟩⟩:=hcel [] w1 (Chg.refl _ _) (by simp)
 have H9:=hid (show m.1=0→m.2=0→m=(0,0) from fun a b=>Prod.ext a b)
 clear hw1 hb1 hb2 hb3 hpo him hwp hcel hst1 hpt hFG hold hln hfy hfm hcr hvec hgP hgs hrd1 hC1 hok hok' ha hah hn hN hM hF0 hdl hds hos hug hpl htg hbb hoo hs hm hmf hsame hnn he1 he2 h hlen3
 have hbits:blockBits p q s m=bitsOf 2 2++(vecBits m++changeBits p q s m n):=HBB.out
 have hh:=HAH.out
 rw [hbits] at hh
 have hg1:=rget_ahead w1 b F ds pos 2 2 HRD.out (by omega) (by decide) hh.left
 have hh2:=hh.right
 rw [bitsOf_len] at hh2
 have hh5:=hh2.right
 rw [vecBits_len] at hh5
 have hh6:=hh2.left
 rw [HVEC.out] at hh6
 have hh3:=hh6.left
 have hh4:=hh6.right
 rw [bitsOf_len] at hh4
 obtain ⟨posE,hpE⟩:∃ posE,posE=pos+2+4+4:=⟨_,rfl⟩
 have hpE':pos+2+8=posE:=by omega
 rw [hpE'] at hh5
 have HEND:Hid (pos+(blockBits p q s m).length=posE+(changeBits p q s m n).length):=hid (by rw [hbits,List.length_append,List.length_append,bitsOf_len,vecBits_len,hpE];omega)
 have hqd:q.d=p.d:=HA.out.d.symm
 have HCB:Hid (∀ i,changeBits p q s m (i+1)=changeBits p q s m i++tileBest (diffB p q i s m) s.w s.h p.d):=hid (fun i=>by rw [←hqd];exact changeBits_succ p q s m i)
 have hpre:∀ k i,i+k=n→∃ rest,changeBits p q s m n=changeBits p q s m i++rest:=by
  intro k
  induction k with
  | zero=>intro i h;exact ⟨[],by rw [List.append_nil,show i=n by omega]⟩
  | succ k ih =>
   intro i h
   obtain ⟨r,hr⟩:=ih (i+1) (by omega)
   exact ⟨_,by rw [hr,changeBits_succ,List.append_assoc]⟩
 have HAHC:Hid (∀ i,i<n→Ahead ds (posE+(changeBits p q s m i).length) (tileBest (diffB p q i s m) s.w s.h p.d)):=hid (fun i hi=>by
  obtain ⟨r,hr⟩:=hpre (n-(i+1)) (i+1) (by omega)
  rw [hr,HCB.out i,List.append_assoc] at hh5
  exact hh5.right.left)
 clear hh5 hh6 hpE' hqd hpre
 have hg2:=fun w' hr=>rget_ahead w' b F ds (pos+2) 4 e1 hr (by omega) (by omega) hh3
 have hg3:=fun w' hr=>rget_ahead w' b F ds (pos+2+4) 4 e2 hr (by omega) (by omega) hh4
 rw [←hpE] at hg3
 have HG2:=hid hg2
 have HG3:=hid hg3
 clear hbits hpE hh hh2 hh3 hh4 hg2 hg3
 go_enter Tryz.func36,Tryz.ntmps36
 go_wp2_with fail
 rw [←HW1.out]
 refine hg1.mono ?_
 rintro e w2 ⟨rfl,hr2,ch2⟩
 have herr:=err_ok w2 b F ds _ hr2
 have hg2:=HG2.out w2 hr2
 have HCH2:=hid ch2
 clear hg1 hr2 ch2
 go_wp2_with (go_at_call 60;refine herr.mono ?_;rintro e w' ⟨rfl,rfl⟩)
 refine hg2.mono ?_
 rintro e w3 ⟨rfl,hr3,ch3⟩
 have hg3:=HG3.out w3 hr3
 have HCH3:=hid (HCH2.out.trans_same ch3)
 clear hg2 herr hr3 ch3
 go_wp2_with fail
 refine hg3.mono ?_
 rintro e w4 ⟨rfl,hr4,ch4⟩
 have herr:=err_ok w4 b F ds _ hr4
 have HCH4:=hid (HCH3.out.trans_same ch4)
 have HR4:=hid hr4
 obtain ⟨⟨a0,a1,a2,a3⟩,⟨b0,b3⟩,⟨s0,s1,s2,s3⟩⟩:=HCEL.out [b] w4 HCH4.out (fun k hk hmm=>HGS.out k hk (by simp at hmm;simp [hmm]))
 clear hg3 hr4 ch4
 go_wp2_with (go_at_call 60;refine herr.mono ?_;rintro e w' ⟨rfl,rfl⟩)
 refine (HIM.out _).mono ?_
 rintro e w5 ⟨rfl,ch5⟩
 have hch5:=HCH4.out.trans_same (ch5.mono (F':=[b]) (by simp))
 have HS0:=hid (HST.out w5 posE (HR4.out.chg ch5 (by simp)) hch5)
 obtain ⟨⟨a0,a1,a2,a3⟩,⟨b0,b3⟩,⟨s0,s1,s2,s3⟩⟩:=HCEL.out (b::gs) w5 HS0.out.chg HGS.out
 clear ch5 hch5 herr
 go_wp2_with fail
 clear a0 a1 a2 a3 b0 b3 s0 s1 s2 s3
 have hs00:=HS0.out
 have HS0:Hid (GbSt w1 p q bs s b F ds (posE+(changeBits p q s m 0).length) gP capP xs gs w5 0):=hid (by simpa [changeBits] using hs00)
 clear hs00
 go_loopg [14,15,16,17,18,19,67] n (fun j v14 v15 v16 v17 v18 v19 v67 wr=>∃ i:Nat,v67=.int .i64 (i:Int)∧i+j=n∧Hid (GbSt w1 p q bs s b F ds (posE+(changeBits p q s m i).length) gP capP xs gs wr i))
 case atStart=>exact ⟨0,rfl,by omega,HS0⟩
 case round =>
  obtain ⟨i,rfl,hij,HS⟩:=hrel
  rcases gk with _ | j
  ·obtain rfl:i=n:=by omega
   have t1:decide (i<i)=false:=by simp
   go_wp2_with fail
   go_ret
   have hs9:=HS.out
   refine ⟨rfl,?_,?_,?_⟩
   ·rw [HEND.out]
    exact hs9.rd
   ·exact hs9.now
   ·exact (HC1.out.mono (by simp)).trans_same hs9.chg
  ·have hi:i<n:=by omega
   have t1:decide (i<n)=true:=decide_eq_true hi
   have hip:i<p.P.length:=by rw [←HN.out];exact hi
   obtain ⟨wr0,rfl⟩:∃ wr0,wr0=wr:=⟨_,rfl⟩
   have hc0:Chg (b::gs) w wr0:=(HC1.out.mono (by simp)).trans_same HS.out.chg
   obtain ⟨⟨a0,a1,a2,a3⟩,⟨b0,b3⟩,⟨s0,s1,s2,s3⟩⟩:=HCEL.out (b::gs) wr0 HS.out.chg HGS.out
   have hpp:=HPO.out wr0 hc0 i hi
   obtain ⟨gi,ci,hxi,hgi,hrow,hcell⟩:=HS.out.now.plane (i:=i) (by rw [bwP_len];exact hip)
   have hmx:(bwP p q bs s i).P.getD i []=mixF (q.P.getD i []) (p.P.getD i []) p.W bs:=by
    rw [List.getD_eq_getElem?_getD,bwP_get bs s i hip,if_neg (by omega)]
    rfl
   rw [hmx] at hrow
   change Row wr0 3 (.slice (some ⟨gi,0,none⟩) (p.W*p.H) ci) gi _ at hrow
   change wr0.cell? ⟨gP,i,none⟩=some (.slice (some ⟨gi,0,none⟩) (p.W*p.H) ci) at hcell
   change xs[i]?=some (.slice (some ⟨gi,0,none⟩) (p.W*p.H) ci) at hxi
   rw [←HNN.out] at hrow hcell hxi
   have hPlt:=HS.out.now.ltP
   have hgim:gi∈gs:=List.mem_of_getElem? hgi
   have hce2:∀ wz,Chg (b::gs) wr0 wz→wz.cell? ⟨gP,i,none⟩=some (.slice (some ⟨gi,0,none⟩) N ci):=fun wz hz=>(World.cell?_of_block (w:=wr0) (hz.block gP hPlt HGP.out)).trans hcell
   have hNci:N≤ci:=by
    obtain ⟨_,e,h1,_⟩:=hrow.open_
    injection e with _ e3 e4
    subst e4
    rw [List.length_map,mixF_len,(HLN.out i hi).1] at h1
    exact h1
   have HXI:=hid hxi
   have HGI:=hid hgi
   have HRW:=hid hrow
   have HCE:=hid hce2
   have HGM:=hid hgim
   have HC0:=hid hc0
   have HIP:=hid hip
   clear hxi hgi hrow hcell hce2 hmx hPlt hgim hc0 hip
   go_wp2_with fail
   refine hpp.mono ?_
   rintro e w5 ⟨v5,F5,rfl,own5,ch5,hF5⟩
   clear hpp
   rcases own5.cases with ⟨_,he,_⟩ | ⟨g5,hrow5,hFg5⟩
   ·exfalso
    have:=HOLD.out i
    rw [List.map_eq_nil_iff.1 he] at this
    simp at this
    omega
   have hr5:=hrow5
   obtain ⟨c5,rfl,h51,h52,hce5,hfr5⟩:=hrow5.open_map
   have hg5:wr0.heap.size≤g5:=hF5 g5 (by rw [hFg5];simp)
   rw [HOLD.out i] at h51 hr5 ⊢
   have HR5:=hid hr5
   have HG5:=hid hg5
   have HC5:=hid ch5
   have hglt:gi<wr0.heap.size:=HRW.out.lt
   have HGLT:=hid hglt
   clear own5 hrow5 hr5 hce5 hfr5 hFg5 hF5 hg5 hglt h52 a0 a1 a2 a3 b0 b3 s0 s1 s2 s3
   have hrd5:=HS.out.rd.chg ch5 (by simp)
   have hah5:=HAHC.out i hi
   have hcw5:Chg (b::gs) w w5:=HC0.out.trans_same (ch5.mono (by simp))
   have hcc5:Chg (b::gs) w1 w5:=HS.out.chg.trans_same (ch5.mono (by simp))
   have htg5:=HTG.out w5 i _ hi hrd5 hcw5 hah5
   unfold GetPost at htg5
   obtain ⟨⟨a0,a1,a2,a3⟩,⟨b0,b3⟩,⟨s0,s1,s2,s3⟩⟩:=HCEL.out (b::gs) w5 hcc5 HGS.out
   clear hrd5 hah5 hcw5 hcc5
   go_wp2_with fail
   refine htg5.mono ?_
   rintro e w6 ⟨v7,F7,rfl,own7,hrd6,ch6,hF7⟩
   obtain ⟨A7,c7,rfl,h71,h72,hc7⟩:=own7.open_map
   have hg5l:=HR5.out.lt
   have hbg5:g5≠b:=fun e=>by have:=HG5.out;have:=HS.out.rd.lt b HS.out.rd.mem;omega
   have hrr6:=HR5.out.chg ch6 (by simpa using hbg5)
   have hap7:∀ ad,A7=some ad→ad.block≠g5:=fun ad e he=>by
    obtain ⟨b0,o0,e0,hb0,_⟩:=hc7.ex (by rw [HDL.out i];exact hM0)
    rw [e] at e0
    injection e0 with e0
    have hn7:=own7.apt (F':=[g5]) (l':=[()]) (by
     intro x hx hmm
     simp at hmm
     subst hmm
     have:=hF7 x hx
     omega) (by simp) ad e
    simp at hn7
    exact hn7 he
   rw [HDL.out i] at h71 ⊢
   have HRD6:=hid hrd6
   have HR60:=hid hrr6
   have HC7:=hid hc7
   have HAP7:=hid hap7
   have HC6:Hid (Chg [b] wr0 w6):=hid ((ch5.mono (by simp)).trans_same ch6)
   clear htg5 own7 hrd6 hc7 hrr6 hap7 hF7 ch6 ch5 h72 hg5l
   have hcc6:Chg (b::gs) w1 w6:=HS.out.chg.trans_same (HC6.out.mono (by simp))
   obtain ⟨⟨a0,a1,a2,a3⟩,⟨b0,b3⟩,⟨s0,s1,s2,s3⟩⟩:=HCEL.out (b::gs) w6 hcc6 HGS.out
   have HCC6:=hid hcc6
   obtain ⟨df,hdf⟩:∃ df,df=diffB p q i s m:=⟨_,rfl⟩
   obtain ⟨old,hol⟩:∃ old,old=oldB p i s m:=⟨_,rfl⟩
   obtain ⟨un,hun⟩:∃ un,un=partF (q.P.getD i []) p.W s.x s.y s.w s.h:=⟨_,rfl⟩
   have hlo:=HOLD.out i
   have hld:=HDL.out i
   have hlu:=HPL.out i
   have hsd:=HDS.out i
   have hsO:=HOS.out i hi
   have hgu:=fun k hk=>HUG.out i k hi hk
   rw [←hol] at hlo hsO
   rw [←hdf] at hld hsd
   rw [←hun] at hlu
   rw [←hun,←hol,←hdf] at hgu
   have hc7':=HC7.out
   rw [←hdf] at hc7'
   have hr60:Row w6 3 (.slice (some ⟨g5,0,none⟩) M c5) g5 ((mixD un old 0).map vi):=by
    have h1:=HR60.out
    rw [←hol] at h1
    simpa [mixD] using h1
   have HR0:=hid hr60
   have HC7':=hid hc7'
   have HLO:=hid hlo
   have HLD:=hid hld
   have HLU:=hid hlu
   have HSD:=hid hsd
   have HSO:=hid hsO
   have HGU:=hid hgu
   have HUN:=hid hun
   clear hcc6 hdf hol hun hlo hld hlu hsd hsO hgu hc7' hr60
   go_wp2_with fail
   go_loopg [18,95] M (fun j2 v18 v95 wr2=>∃ k:Nat,v95=.int .i64 (k:Int)∧k+j2=M∧Hid (Row wr2 3 (.slice (some ⟨g5,0,none⟩) M c5) g5 ((mixD un old k).map vi))∧Hid (Chg [g5] w6 wr2))
   case atStart=>exact ⟨0,rfl,by omega,HR0,hid (Chg.refl _ _)⟩
   case round =>
   obtain ⟨k,rfl,hkj,HRK,HCK⟩:=hrel
   rcases gk with _ | j2
   case succ =>
    have hk:k<M:=by omega
    have t2:decide (k<M)=true:=decide_eq_true hk
    have hko:k<old.length:=by rw [HLO.out];exact hk
    have hkd:k<df.length:=by rw [HLD.out];exact hk
    have hlu2:un.length=old.length:=by rw [HLU.out,HLO.out]
    have hmg:=mixD_get hlu2 hko
    obtain ⟨_,-,-,-,hce,hfr⟩:=HRK.out.open_map
    have hcl:=hce k _ hmg
    have hfl:=hfr k
    have hapt:Apt A7 df [g5]:=fun _ ad e hmm=>HAP7.out ad e (by simpa using hmm)
    obtain ⟨ga,oa,hAe,hcA⟩:=(HC7'.out.keep hapt HCK.out).at_ hkd
    subst hAe
    obtain ⟨x,hx⟩:∃ x,x=old.getD k 0:=⟨_,rfl⟩
    obtain ⟨y,hy⟩:∃ y,y=df.getD k 0:=⟨_,rfl⟩
    have hyy:df[k]=y:=by rw [hy,List.getD_eq_getElem?_getD,List.getElem?_eq_getElem hkd];rfl
    rw [hyy] at hcA
    rw [←hx] at hcl
    have cA:wr.cell? ⟨ga,oa+k,none⟩=some (.int .i64 y):=hcA
    have cB:wr.cell? ⟨g5,k,none⟩=some (.int .i64 x):=hcl
    obtain ⟨hx1,hx2⟩:=getD_smp HSO.out k
    obtain ⟨hy1,hy2⟩:=getD_smp HSD.out k
    rw [←hx] at hx1 hx2
    rw [←hy] at hy1 hy2
    obtain ⟨hpw0,hpw1⟩:=pow_d hd0 hd1
    have hx3:x<65536:=by omega
    have hy3:y<65536:=by omega
    have hdk:=HGU.out k hk
    rw [←hx,←hy] at hdk
    have hwr0:=HWP.out (x+y)
    obtain ⟨v,hv⟩:∃ v,v=wrapI (x+y) p.d:=⟨_,rfl⟩
    rw [←hv] at hdk hwr0
    have HWV:Hid (∀ w,Calls Tryz.prog 50 #[.int .i64 (x+y),.int .i64 (p.d:Int)] w fun e w'=>e=.returned (.int .i64 v)∧w'=w):=hid (fun w=>(hwr0 w).mono fun e w' h=>⟨h.1,h.2.symm⟩)
    have hw1:IntKind.i64.wrap (x+y)=x+y:=IntWalk.i64_in _ (by omega)
    have hg5n:∀ k,k∈[g5]→w.heap.size≤k:=fun k hk=>by
     simp at hk
     have:=HG5.out
     have:=HC0.out.size
     omega
    obtain ⟨⟨a0,a1,a2,a3⟩,-,-⟩:=HCEL.out (b::gs) w6 HCC6.out HGS.out
    have hg5w1:g5≠w.heap.size:=fun e=>by
     have:=HG5.out
     have:=HS.out.chg.size
     have:=HW1.out
     have hz:w1.heap.size=w.heap.size+1+1+1:=by rw [HW1.out,alloc_size,alloc_size,alloc_size]
     omega
    have hz1:w1.heap.size=w.heap.size+1+1+1:=by rw [HW1.out,alloc_size,alloc_size,alloc_size]
    have hws6:w.heap.size<w6.heap.size:=by have:=HCC6.out.size;omega
    have b2:wr.cell? ⟨w.heap.size,2,none⟩=some (.int .i64 (p.d:Int)):=(World.cell?_of_block (w:=w6) (HCK.out.block w.heap.size hws6 (by simpa using hg5w1.symm))).trans a2
    have hset:=mixD_set hlu2 hko v hdk
    have HSET:=hid hset
    have HKN:=hid hko
    have HLU2:=hid hlu2
    clear hcl hcA hx hy hyy hdk hwr0 hv hset hce hfr hmg hapt hkd hko hx2 hy2 a0 a1 a2 a3 hg5n hlu2 hpw0 hpw1 hg5w1 hz1 hws6
    go_wp2_with fail
    refine wp_region_quiet_tail 15 (by kernel_rfl) (by kernel_rfl) ?_
    simp only [List.take_succ_cons,List.take_zero,List.drop_succ_cons,List.drop_zero]
    repeat (go_big_quiet_step ((go_at_call 50;exact Calls.quiet_of_same (HWV.out _))))
    refine wpQuiet_nil ?_
    intro _ hw'
    obtain ⟨nq,rfl⟩:=hw'
    go_wp2_with fail
    go_roundg j2
    case measure=>omega
    case rel =>
     refine ⟨k+1,by go_num,by omega,hid ?_,hid ((HCK.out.drewN nq).setCell (p:=⟨g5,k,none⟩) (.inl (by simp)) _)⟩
     have h1:=(HRK.out.drewN nq).set_ (i:=k) (by rw [List.length_map,mixD_len HLU2.out];exact HKN.out) (.int .i64 v)
     have e:((mixD un old k).map vi).set k (.int .i64 v)=(mixD un old (k+1)).map vi:=by rw [←HSET.out,List.map_set];rfl
     rw [e] at h1
     exact h1
   obtain rfl:k=M:=by omega
   have t2:decide (k<k)=false:=by simp
   have hr6:=HRK.out
   rw [show mixD un old k=partF (q.P.getD i []) p.W s.x s.y s.w s.h by
    rw [←HUN.out]
    unfold mixD
    rw [List.take_of_length_le (by rw [HLU.out];exact Nat.le_refl _),List.drop_of_length_le (by rw [HLO.out];exact Nat.le_refl _),List.append_nil]] at hr6
   obtain ⟨w6',rfl⟩:∃ w6',w6'=wr:=⟨_,rfl⟩
   obtain ⟨M,rfl⟩:∃ M,M=k:=⟨_,rfl⟩
   have hrdz:IsRd w6' b F ds (posE+(changeBits p q s m i).length+(tileBest (diffB p q i s m) s.w s.h p.d).length):=HRD6.out.chg HCK.out (fun x hx hmm=>by
    simp at hmm
    have:=HG5.out
    have:=HS.out.rd.lt x hx
    omega)
   have HRDZ:=hid hrdz
   have HC6Z:Hid (Chg [b] wr0 w6'):=hid (HC6.out.trans HCK.out (fun x hx=>by
    simp at hx
    subst hx
    exact .inr HG5.out))
   have hcc6:Chg (b::gs) w1 w6':=HS.out.chg.trans_same (HC6Z.out.mono (by simp))
   obtain ⟨⟨a0,a1,a2,a3⟩,⟨b0,b3⟩,⟨s0,s1,s2,s3⟩⟩:=HCEL.out (b::gs) w6' hcc6 HGS.out
   have HR6:=hid hr6
   clear hr6 hrdz hcc6
   have hri:Row w6' 3 (.slice (some ⟨gi,0,none⟩) N ci) gi ((mixF (q.P.getD i []) (p.P.getD i []) p.W (bs++[⟨s.x,s.y,s.w,0⟩])).map vi):=by
    rw [mixF_flat _ _ _ _ _ rfl]
    refine HRW.out.chg HC6Z.out ?_
    intro hmm
    simp at hmm
    subst hmm
    exact HFG.out _ HS.out.rd.mem (by simp [HGM.out])
   have HRI:=hid hri
   clear hri
   go_wp2_with fail
   go_loopg [19,116] s.h (fun j2 v19 v116 wr2=>∃ k:Nat,v116=.int .i64 (k:Int)∧k+j2=s.h∧Hid (Row wr2 3 (.slice (some ⟨gi,0,none⟩) N ci) gi ((mixF (q.P.getD i []) (p.P.getD i []) p.W (bs++[⟨s.x,s.y,s.w,k⟩])).map vi))∧Hid (Chg [gi] w6' wr2))
   case atStart=>exact ⟨0,rfl,by omega,HRI,hid (Chg.refl _ _)⟩
   case round =>
    obtain ⟨k,rfl,hkj,HRK,HCK⟩:=hrel
    have hcz:Chg (b::gs) wr0 wr:=(HC6Z.out.mono (F':=b::gs) (by simp)).trans HCK.out (fun x hx=>by
     simp at hx
     subst hx
     exact .inl (by simp [HGM.out]))
    rcases gk with _ | j2
    ·have hks:k=s.h:=by omega
     have t2:decide (k<s.h)=false:=decide_eq_false (by omega)
     have hrk:=HRK.out
     rw [hks] at hrk
     have hnx:=HS.out.next HOK.out HOQ.out HA.out HIP.out HFG.out (by rw [HXI.out]) HGI.out HRDZ.out HC6Z.out HCK.out hrk
     have hce:posE+(changeBits p q s m i).length+(tileBest (diffB p q i s m) s.w s.h p.d).length=posE+(changeBits p q s m (i+1)).length:=by rw [HCB.out i,List.length_append];omega
     rw [hce] at hnx
     clear hce
     have HNX:=hid hnx
     clear hrk hnx hks hcz
     go_wp2_with fail
     go_roundg j
     case measure=>omega
     case rel=>exact ⟨i+1,by go_num,by omega,HNX⟩
    ·have hk:k<s.h:=by omega
     have t2:decide (k<s.h)=true:=decide_eq_true hk
     obtain ⟨Yk,hYk⟩:∃ Yk,Yk=s.y+k:=⟨_,rfl⟩
     have eY:(s.y:Int)+(k:Int)=(Yk:Int):=by omega
     have hfy:=HFY.out k hk
     have hfm:=HFM.out k hk
     have hcr:=HCR.out i k hi hk
     rw [←hYk] at hfy hcr
     obtain ⟨P0,hP0⟩:∃ P0,P0=Yk*p.W:=⟨_,rfl⟩
     have eP:(Yk:Int)*(p.W:Int)=(P0:Int):=by rw [hP0];simp
     rw [←hP0] at hfy hcr
     obtain ⟨at_,hat⟩:∃ at_,at_=P0+s.x:=⟨_,rfl⟩
     have eQ:(P0:Int)+(s.x:Int)=(at_:Int):=by omega
     rw [←hat] at hfy hcr
     obtain ⟨lo,hlo⟩:∃ lo,lo=k*s.w:=⟨_,rfl⟩
     have eL:(k:Int)*(s.w:Int)=(lo:Int):=by rw [hlo];simp
     rw [←hlo] at hfm hcr
     obtain ⟨k1,hk1⟩:∃ k1,k1=k+1:=⟨_,rfl⟩
     have eK:(k:Int)+1=(k1:Int):=by omega
     obtain ⟨hi2,hhi⟩:∃ hi2,hi2=lo+s.w:=⟨_,rfl⟩
     have eH:(k1:Int)*(s.w:Int)=(hi2:Int):=by rw [hk1,hhi,hlo];simp [Int.add_mul]
     have hat2:at_<N:=by omega
     have hsl2:=slice_at (P:=Tryz.prog) Tryz.underlying22 size_int gi N ci at_ hat2 hNci
     obtain ⟨A',hsl,-,hcl⟩:=slice_mid (P:=Tryz.prog) Tryz.underlying22 size_int (some ⟨g5,0,none⟩) M c5 lo s.w hi2 hhi (by omega) h51
     have hg5g:g5∉[gi]:=fun hmm=>by
      simp at hmm
      have:=HG5.out
      have:=HGLT.out
      omega
     have hr5:=HR6.out.chg HCK.out hg5g
     obtain ⟨_,-,-,-,hce5,-⟩:=hr5.open_map
     have hc5:Cells vi wr (some ⟨g5,0,none⟩) (partF (q.P.getD i []) p.W s.x s.y s.w s.h):=⟨fun _=>⟨g5,0,rfl,hr5.lt,fun k a hk=>by rw [Nat.zero_add];exact hce5 k a hk⟩⟩
     obtain ⟨R,hR⟩:∃ R,R=((partF (q.P.getD i []) p.W s.x s.y s.w s.h).drop lo).take s.w:=⟨_,rfl⟩
     have hcR:Cells vi wr A' R:=by rw [hR];exact hcl Int vi wr _ (by rw [partF_len,HM.out]) hc5
     have hRl:R.length=s.w:=by rw [hR,List.length_take,List.length_drop,partF_len,←HM.out];omega
     rw [←hR] at hcr
     have hrl:((mixF (q.P.getD i []) (p.P.getD i []) p.W (bs++[⟨s.x,s.y,s.w,k⟩])).map vi).length=N:=by rw [List.length_map,mixF_len,(HLN.out i hi).1]
     have hgpc:=HCE.out wr hcz
     have hcw1:Chg (b::gs) w1 wr:=HS.out.chg.trans_same hcz
     obtain ⟨⟨a0,a1,a2,a3⟩,⟨b0,b3⟩,⟨s0,s1,s2,s3⟩⟩:=HCEL.out (b::gs) wr hcw1 HGS.out
     have HCRR:=hid hcR
     have HCR2:=hid hcr
     have HRL:=hid hRl
     have HLR:=hid hrl
     have hYk4:Yk≤72:=by omega
     have hP4:P0≤4096:=by omega
     have hat4:at_≤4096:=by omega
     have hlo4:lo≤64:=by omega
     have hhi4:hi2≤64:=by omega
     have hk14:k1≤8:=by omega
     have hfit:Hid (at_+s.w≤N∧s.w≤N-at_):=hid ⟨by omega,by omega⟩
     clear hYk hP0 hat hlo hk1 hhi hfy hfm hcr hcl hg5g hr5 hce5 hc5 hR hcR hRl hrl hcw1 hcz a0 a1 a2 a3
     go_wp2_with fail
     refine wp_region_quiet_tail 27 (by kernel_rfl) (by kernel_rfl) ?_
     simp only [List.take_succ_cons,List.take_zero,List.drop_succ_cons,List.drop_zero]
     repeat (go_big_quiet_step (fail))
     refine wpQuiet_nil ?_
     intro _ hw'
     obtain ⟨nq,rfl⟩:=hw'
     have hrq:=HRK.out.drewN nq
     go_wp2_with (refine wpList_copy_row rfl (.tmp 134) (.tmp 145) 22 22 rfl Tryz.underlying22 (by kernel_rfl) hrq at_ (N-at_) (ci-at_) s.w (c5-lo) rfl rfl (R.map vi) ?n1 ?n2 ?n3 ?n4 ?n5 ?n6 ?_)
     case n1=>rw [List.length_map];exact HRL.out
     case n2=>exact sw0
     case n3=>exact hfit.out.2
     case n4 =>
      have h1:=HCRR.out.drewN nq
      refine ⟨fun h0 => ?_⟩
      obtain ⟨b,o,e1,e2,e3⟩:=h1.ex (by simpa using h0)
      refine ⟨b,o,e1,e2,fun i a ha => ?_⟩
      rw [List.getElem?_map] at ha
      obtain ⟨x,hx,rfl⟩:=Option.map_eq_some_iff.1 ha
      exact e3 i x hx
     case n5=>rw [HLR.out];exact hfit.out.1
     case n6 =>
      intro u hu
      obtain ⟨x,_,rfl⟩:=List.mem_map.1 hu
      rfl
     intro w7 hr7 ch7
     rw [←List.getD_eq_getElem?_getD,←List.getD_eq_getElem?_getD,HCR2.out] at hr7
     have HR7:=hid hr7
     have HC7:Hid (Chg [gi] w6' w7):=hid ((HCK.out.drewN nq).trans_same ch7)
     clear hr7 ch7 hrq
     go_wp2_with fail
     go_roundg j2
     case measure=>omega
     case rel=>exact ⟨k+1,by go_num,by omega,HR7,HC7⟩
theorem getBlock_ok {w:World} {p q:PicD} {g o:Nat} {B:Nat→Option Addr} {c:Nat→Nat} {G:List Nat} {bs:List Sq} {s:Sq} {m:Int × Int} {b:Nat} {F ds:List Nat} {pos gP capP:Nat} {xs:List Value} {gs:List Nat} (cap:Nat)
  (h:GbIn w p q g o B c G bs s m b F ds pos gP capP xs gs) (hah:Ahead ds pos (blockBits p q s m)) :
  Calls Tryz.prog 36 #[.pointer (some ⟨b,0,none⟩),picV p g o cap,picV (bwP p q bs s 0) gP 0 capP,sqV s] w (GbPost w p q bs s b F ds (pos+(blockBits p q s m).length) gP capP xs gs):=by
 cases hs:sameB p q s m with
 | true=>exact getBlock_same cap h hs hah
 | false=>exact getBlock_diff cap h hs hah
theorem size_u8 (w:World):(sizeOf 5).run Tryz.prog w=.ok 1 w:=by
 exact Tryz.sizeOf5 w
def sq0:Sq:=⟨0,0,0,0⟩
def DecPost (w:World) (q:PicD) (e:Ending) (w':World):Prop :=
 ∃ (gP capP:Nat) (xs:List Value) (gs:List Nat),e=.returned (.tuple #[picV q gP 0 capP,.int .i64 0])∧PicOwn w' q gP capP xs gs∧Chg [] w w'∧∀ x∈gP::gs,w.heap.size≤x
theorem decode_ok {w:World} {p q:PicD} {g o:Nat} {B:Nat→Option Addr} {c:Nat→Nat} {G:List Nat} (cap:Nat) (h:PicAt w p g o B c G) (hq:q.Ok) (ha:AlikeD p q) (hp:Pts w)
  (A:Option Addr) (capA:Nat) (ms:List (Int × Int)) (hml:ms.length=(gridL q.W q.H 8).length) (hmo:∀ i,i<ms.length→mvOk p.W p.H (sqAt (gridL q.W q.H 8) i) (ms.getD i (0,0))) (hbit:MvBits p q ms)
  (hc:Cells b8 w A (mvBytes p q ms)) (hcap:(mvBytes p q ms).length≤capA) (hcm:capA≤9223372036854775807) :
  Calls Tryz.prog 10 #[picV p g o cap,.slice A (mvBytes p q ms).length capA] w (DecPost w q):=by
 unfold DecPost
 have hok:=h.ok
 obtain ⟨ss,hss⟩:∃ ss,ss=gridL q.W q.H 8:=⟨_,rfl⟩
 have hssp:gridL p.W p.H 8=ss:=by rw [hss,ha.W,ha.H]
 have hs8:∀ s∈ss,1≤s.w∧s.w≤8∧1≤s.h∧s.h≤8:=by rw [hss];exact grid_ok (by decide)
 have hsin:∀ s∈ss,SqIn p.W p.H s:=fun s hs=>by
  rw [hss] at hs
  obtain ⟨a,b⟩:=grid_in (by decide) s hs
  exact ⟨by rw [ha.W];exact a,by rw [ha.H];exact b⟩
 have hn4:ss.length≤4096:=by rw [hss];exact grid8_len hq.w1 hq.h1
 rw [←hss] at hml hmo
 have hbit':∀ b∈moveBits p q ss ms ss.length,b<2:=by rw [hss];exact hbit
 obtain ⟨n,hn⟩:∃ n,n=ss.length:=⟨_,rfl⟩
 rw [←hn] at hbit' hn4
 have hbl:=moveBits_len p q (ss:=ss) ms hs8 hq.d0 hq.d1 hq.n1 n (by omega)
 have hn0:0<n:=by
  rcases Nat.eq_zero_or_pos n with h0 | h0
  ·exfalso
   have h1:=area_grid (w:=q.W) (h:=q.H) (s:=8) (by decide)
   rw [←hss,List.eq_nil_of_length_eq_zero (show ss.length=0 by omega)] at h1
   have h2:=hq.pos
   simp [area] at h1
   omega
  ·exact h0
 have hbp:=moveBits_pos p q ss ms n
 obtain ⟨body,hbody⟩:∃ body,body=packed (padF (moveBits p q ss ms n)):=⟨_,rfl⟩
 have hbt:mvBytes p q ms=body++sumL p body:=by
  unfold mvBytes mvBody
  rw [←hss,←hn,hbody]
 have hdig:∀ d∈body,d<256:=by rw [hbody];exact packed_dig (mem_padF hbit')
 have hblen:body.length=(moveBits p q ss ms n).length / 8+(if (moveBits p q ss ms n).length%8=0 then 0 else 1):=by
  rw [hbody,packed_len,padF_len]
  split<;>omega
 obtain ⟨m,hm⟩:∃ m,m=body.length:=⟨_,rfl⟩
 have hm0:0<m:=by rw [hm,hblen];split<;>omega
 have hm1:m≤1000000000:=by rw [hm,hblen];split<;>omega
 obtain ⟨N,hN⟩:∃ N,N=(mvBytes p q ms).length:=⟨_,rfl⟩
 have hNm:N=m+4:=by rw [hN,hbt,List.length_append,sumL_len,hm]
 rw [←hN] at hcap ⊢
 rw [hbt] at hc
 have hcb:Cells b8 w A body:=by
  have h1:=hc.take body.length
  rw [List.take_left] at h1
  exact h1
 have eN:(N:Int)-4=(m:Int):=by omega
 have hsl1:=fun w'=>slice_to (P:=Tryz.prog) Tryz.underlying29 A N capA m (by omega) hcap w' (size_u8 w')
 obtain ⟨A',hsl2,-,hcl2⟩:=slice_from (P:=Tryz.prog) Tryz.underlying29 size_u8 A N capA m (by omega) hcap
 have hN4:N-m=4:=by omega
 rw [hN4] at hsl2
 have hct:Cells b8 w A' (sumL p body):=by
  have h1:=hcl2 Nat b8 w _ (by rw [←hbt];exact hN.symm) hc
  rw [hm,List.drop_left] at h1
  exact h1
 have hck:∀ w',Chg [] w w'→_:=fun w' (hc':Chg [] w w')=>checksum_ok cap (h.same hc') A capA body (hcb.same hc') hdig (by omega) (by omega)
 have heq:∀ w' g6 c6,Chg [] w w'→Cells b8 w' (some ⟨g6,0,none⟩) (sumL p body)→_:=fun w' g6 c6 hc' h6=>equal_b_ok w' A' (some ⟨g6,0,none⟩) (capA-m) c6 (sumL p body) (sumL p body) (hct.same hc') h6 rfl (by rw [sumL_len];omega)
 have hrn:∀ w',Chg [] w w'→_:=fun w' (hc':Chg [] w w')=>rnew_ok w' A capA body (hcb.same hc') hdig (by omega) (by omega) hcm
 have his:∀ w',Chg [] w w'→_:=fun w' (hc':Chg [] w w')=>is_yes cap (h.same hc')
 have hcp:∀ w',Chg [] w w'→_:=fun w' (hc':Chg [] w w')=>copy_ok cap (h.same hc')
 have hgr:=fun w'=>mgrid_ok hok g o cap w'
 rw [hssp] at hgr
 rw [←hm] at hck hrn
 have hsl:(sumL p body).length=4:=rfl
 rw [hsl] at heq
 have hgb:∀ w' i b F gP capP xs gs,i<n→Chg (b::gs) w w'→PicOwn w' (bwP p q (ss.take i) sq0 0) gP capP xs gs→IsRd w' b F body (moveBits p q ss ms i).length→(∀ x∈gP::gs,w.heap.size≤x)→(∀ x∈F,w.heap.size≤x)→(∀ x∈F,x∉gP::gs) →
   Calls Tryz.prog 36 #[.pointer (some ⟨b,0,none⟩),picV p g o cap,.agg #[.int .i64 (p.W:Int),.int .i64 (p.H:Int),.int .i64 (p.d:Int),.slice (some ⟨gP,0,none⟩) p.P.length capP],sqV (sqAt ss i)] w' (fun e w''=>e=.returned (.int .i64 0)∧IsRd w'' b F body (moveBits p q ss ms (i+1)).length∧PicOwn w'' (bwP p q (ss.take (i+1)) sq0 0) gP capP xs gs∧Chg (b::gs) w' w''):=by
  intro w' i b F gP capP xs gs hi hcw hown hrd hg hF hFG
  have hm8:=hs8 _ (sqAt_mem (i:=i) (ss:=ss) (by omega))
  have hbm:=hrd.mem
  have hin:GbIn w' p q g o B c G (ss.take i) (sqAt ss i) (ms.getD i (0,0)) b F body (moveBits p q ss ms i).length gP capP xs gs:=by
   have h0w:=hp.lt
   refine ⟨h.chg hcw ?_,by rw [bwP_any p q _ _ sq0];exact hown,hrd,hq,ha,hsin _ (sqAt_mem (by omega)),hmo i (by omega),hm8.1,hm8.2.1,hm8.2.2.1,hm8.2.2.2,hp.chg hcw ?_,?_,hFG,?_,?_⟩
   ·intro x hx hmm
    have h1:=h.lt x hx
    rcases List.mem_cons.1 hmm with rfl | h2
    ·have:=hF _ hbm;omega
    ·have:=hg x (by simp [h2]);omega
   ·intro hmm
    rcases List.mem_cons.1 hmm with e | h2
    ·have:=hF _ hbm;omega
    ·have:=hg 0 (by simp [h2]);omega
   ·intro x hx hmm
    have h1:=h.lt x hx
    rcases List.mem_cons.1 hmm with rfl | h2
    ·have:=hF _ hbm;omega
    ·have:=hg x (by simp [h2]);omega
   ·intro hmm
    have:=hF 0 hmm
    omega
   ·intro hmm
    have:=hg 0 (by simp [hmm])
    omega
  have hah:Ahead body (moveBits p q ss ms i).length (blockBits p q (sqAt ss i) (ms.getD i (0,0))):=by rw [hbody];exact body_block hbit' hi
  have h1:=getBlock_ok cap hin hah
  unfold picV at h1
  rw [bwP_len] at h1
  refine h1.mono ?_
  rintro e w'' ⟨rfl,h2,h3,h4⟩
  rw [←List.length_append,←moveBits_succ] at h2
  rw [bwP_end p q _ _ sq0,←take_sq (by omega)] at h3
  exact ⟨rfl,h2,h3,h4⟩
 have hfin:bwP p q (ss.take n) sq0 0=q:=by
  rw [hn,List.take_length,←hssp]
  exact bwP_all hok hq ha sq0
 have hst:bwP p q (ss.take 0) sq0 0=p:=by rw [List.take_zero];exact bwP_start sq0
 have hleft:8*body.length-(moveBits p q ss ms n).length=(8-(moveBits p q ss ms n).length%8)%8:=by rw [hbody];exact body_left _
 obtain ⟨L,hL⟩:∃ L,L=(8-(moveBits p q ss ms n).length%8)%8:=⟨_,rfl⟩
 have hL7:L≤7:=by omega
 have hres:Ahead body (moveBits p q ss ms n).length (bitsOf 0 L):=by rw [hbody,hL];exact body_rest hbit'
 rw [←hL] at hleft
 have hqa:picV q=fun gP o' cap' => .agg #[.int .i64 (p.W:Int),.int .i64 (p.H:Int),.int .i64 (p.d:Int),.slice (some ⟨gP,o',none⟩) p.P.length cap']:=by
  funext gP o' cap'
  unfold picV
  rw [ha.W,ha.H,ha.d,ha.n]
 rw [hqa]
 unfold picV at his hck hcp hgr hgb ⊢
 unfold sqV at hgb
 obtain ⟨k,hk⟩:∃ k,k=p.P.length:=⟨_,rfl⟩
 rw [←hk] at his hck hcp hgr hgb ⊢
 have hk4:k≤4:=by rw [hk];exact hok.n1
 obtain ⟨w1,hw1⟩:∃ w1,w1=((w.alloc (.cells #[.int .i64 (p.W:Int),.int .i64 (p.H:Int),.int .i64 (p.d:Int),.slice (some ⟨g,o,none⟩) k cap] 25)).alloc (.cells #[.int .i64 0,.int .i64 0,.int .i64 0,.slice none 0 0] 25)):=⟨_,rfl⟩
 have hb1:Blk w1 w.heap.size 25 #[.int .i64 (p.W:Int),.int .i64 (p.H:Int),.int .i64 (p.d:Int),.slice (some ⟨g,o,none⟩) k cap]:=by rw [hw1];exact (Blk.new w _ _).alloc _
 have hb2:Blk w1 (w.heap.size+1) 25 #[.int .i64 0,.int .i64 0,.int .i64 0,.slice none 0 0]:=by rw [hw1];exact Blk.new2 w _ _ _
 have hC1:Chg [] w w1:=by rw [hw1];exact ((Chg.refl [] w).alloc _).alloc _
 have hz1:w1.heap.size=w.heap.size+1+1:=by rw [hw1,alloc_size,alloc_size]
 have hkeep:∀ (E:List Nat) wz,Chg E w1 wz→w.heap.size∉E→wz.cell? ⟨w.heap.size,0,none⟩=some (.int .i64 (p.W:Int))∧wz.cell? ⟨w.heap.size,1,none⟩=some (.int .i64 (p.H:Int))∧wz.cell? ⟨w.heap.size,2,none⟩=some (.int .i64 (p.d:Int))∧wz.cell? ⟨w.heap.size,3,none⟩=some (.slice (some ⟨g,o,none⟩) k cap):=fun E wz hz hE =>
  ⟨(hb1.chg hz hE).cell 0,(hb1.chg hz hE).cell 1,(hb1.chg hz hE).cell 2,(hb1.chg hz hE).cell 3⟩
 have hdl:∀ {α:Type} [DecidableEq α] (x:α),decide (x=x)=true:=by intros;simp
 have heq':∀ w' g6 c6,Chg [] w w'→Cells b8 w' (some ⟨g6,0,none⟩) (sumL p body)→Calls Tryz.prog 33 #[.slice A' 4 (capA-m),.slice (some ⟨g6,0,none⟩) 4 c6] w' fun e w''=>e=.returned (.bool true)∧Chg [] w' w'':=fun w' g6 c6 a b=>(heq w' g6 c6 a b).mono fun e w'' h=>⟨by rw [h.1];simp,h.2⟩
 have HW1:=hid hw1
 have HC1:=hid hC1
 have HZ:=hid hz1
 have HK:=hid hkeep
 have HB2:=hid hb2
 have HEQ:=hid heq'
 have HCK:=hid hck
 have HRN:=hid hrn
 have HIS:=hid his
 have HCP:=hid hcp
 have HGR:=hid hgr
 have HGB:=hid hgb
 have HFIN:=hid hfin
 have HST:=hid hst
 have HLEFT:=hid hleft
 have HRES:=hid hres
 have HN:=hid hn
 have HKP:=hid hk
 have HM:=hid hm
 have t0:decide ((N:Int)<4)=false:=decide_eq_false (by omega)
 have hN9:N≤1000000004:=by omega
 clear hw1 hC1 hz1 hkeep hb2 heq heq' hck hrn his hcp hgr hgb hfin hst hleft hres hn hk hm hqa hL hb1 hssp hss hs8 hsin hml hmo hbit' hbl hn0 hbp hbody hbt hdig hblen hN hNm hcb hcl2 hct hsl hok h hq ha hp hc hbit hdl hN4
 go_enter Tryz.func10,Tryz.ntmps10
 go_wp2_with fail
 rw [←HW1.out]
 obtain ⟨k0,k1,k2,k3⟩:=HK.out [] w1 (Chg.refl _ _) (by simp)
 go_wp2_with fail
 refine (HIS.out w1 HC1.out).mono ?_
 rintro e w2 ⟨rfl,ch2⟩
 have HCH2:=hid ch2
 obtain ⟨k0,k1,k2,k3⟩:=HK.out [] w2 ch2 (by simp)
 have E2:Chg [] w1 w2.drew:=ch2.drew
 have D2:Chg [] w w2.drew:=(HC1.out.trans_same ch2).drew
 clear ch2
 go_wp2_with fail
 go_region_held3 (fun w'=>w'.cell? ⟨w.heap.size,0,none⟩=some (.int .i64 (p.W:Int))∧w'.cell? ⟨w.heap.size,1,none⟩=some (.int .i64 (p.H:Int))∧w'.cell? ⟨w.heap.size,2,none⟩=some (.int .i64 (p.d:Int))∧w'.cell? ⟨w.heap.size,3,none⟩=some (.slice (some ⟨g,o,none⟩) k cap))
  (first | (go_keep;done) | exact HK.out [] _ (by first | exact E2.trans_same ch6 | exact (E2.trans_same ch6).trans_same ch7) (by simp) | trivial)
  (first
   | (go_at_call 30;refine (HCK.out _ D2).mono ?_;rintro e w6 ⟨g6,c6,rfl,hrow6,ch6,hg6⟩)
   | (go_at_call 33;refine (HEQ.out _ _ _ (D2.trans_same ch6) (by obtain ⟨c',e',_,_,h6⟩ := Row.cells_b8 hrow6;exact h6)).mono ?_;rintro e w7 ⟨rfl,ch7⟩))
 have HC7:=hid ((D2.trans_same ch6).trans_same ch7)
 have HE7:=hid ((E2.trans_same ch6).trans_same ch7)
 have hrn:=HRN.out w7 HC7.out
 clear k0 k1 k2 k3 D2 E2 ch6 ch7 hrow6 hg6
 go_wp2_with fail
 refine hrn.mono ?_
 rintro e w8 ⟨b,F,rfl,hrd,ch8,hF⟩
 have HC8:=hid (HC7.out.trans_same ch8)
 have HE8:=hid (HE7.out.trans_same ch8)
 have hcp:=HCP.out w8 HC8.out
 obtain ⟨k0,k1,k2,k3⟩:=HK.out [] w8 HE8.out (by simp)
 have HRD:=hid hrd
 have HFN:Hid (∀ x∈F,w1.heap.size≤x∧x<w8.heap.size):=hid (fun x hx=>⟨by have:=hF x hx;have:=HE7.out.size;omega,hrd.lt x hx⟩)
 clear hrn hrd ch8 hF
 go_wp2_with fail
 refine hcp.mono ?_
 rintro e w9 ⟨gP,capP,xs,gs,rfl,hown,ch9,hgn⟩
 have HC9:=hid (HC8.out.trans_same ch9)
 have HE9:=hid (HE8.out.trans_same ch9)
 have HS89:=hid ch9.size
 have HRD9:=hid (HRD.out.chg ch9 (by simp))
 have HOWN:=hid hown
 have HGN:Hid (∀ x∈gP::gs,w8.heap.size≤x∧x<w9.heap.size):=hid (fun x hx=>⟨hgn x hx,by
  rcases List.mem_cons.1 hx with rfl | h1
  ·exact hown.ltP
  ·exact hown.pl.lt x h1⟩)
 clear hcp hown ch9 hgn k0 k1 k2 k3
 obtain ⟨nb,hnb⟩:∃ nb,nb=w9.heap.size:=⟨_,rfl⟩
 obtain ⟨wA,hwA⟩:∃ wA,wA=w9.alloc (.cells #[.int .i64 (p.W:Int),.int .i64 (p.H:Int),.int .i64 (p.d:Int),.slice (some ⟨gP,0,none⟩) k capP] 25):=⟨_,rfl⟩
 have chA:Chg [] w9 wA:=by rw [hwA];exact (Chg.refl [] w9).alloc _
 have hbn:Blk wA nb 25 #[.int .i64 (p.W:Int),.int .i64 (p.H:Int),.int .i64 (p.d:Int),.slice (some ⟨gP,0,none⟩) k capP]:=by rw [hwA,hnb];exact Blk.new w9 _ _
 have HWA:=hid hwA
 have HNB:=hid hnb
 have HBN:=hid hbn
 have HCA:=hid (HC9.out.trans_same chA)
 have HEA:=hid (HE9.out.trans_same chA)
 have HRDA:=hid (HRD9.out.chg chA (by simp))
 have HOWA:Hid (PicOwn wA (bwP p q (ss.take 0) sq0 0) gP capP xs gs):=hid (by rw [HST.out];exact HOWN.out.same chA)
 obtain ⟨k0,k1,k2,k3⟩:=HK.out [] wA HEA.out (by simp)
 rw [HWA.out] at k0 k1 k2 k3
 have hgr:=HGR.out wA
 clear hwA hnb hbn chA
 go_wp2_with fail
 rw [←HWA.out,←HNB.out]
 refine hgr.mono ?_
 rintro e wB ⟨v8,F8,rfl,hsq,chB,hF8⟩
 obtain ⟨A8,c8,rfl,h81,h82,hc8,h8o⟩:=OwnK.open_ hsq
 have HC8':=hid hc8
 have HCB:=hid (HCA.out.trans_same chB)
 have HEB:=hid (HEA.out.trans_same chB)
 have HRDB:=hid (HRDA.out.chg chB (by simp))
 have HOWB:=hid (HOWA.out.same chB)
 have hnB:=HBN.out.chg chB (by simp)
 have HBNB:=hid hnB
 have HA8:Hid (∀ ad,A8=some ad→wA.heap.size≤ad.block):=hid (fun ad e=>by
  obtain ⟨g8,rfl,hf,_⟩:=h8o ad e
  exact hF8 g8 (by rw [hf];simp))
 rw [←HN.out]
 clear hgr hsq chB hF8 hc8 h8o k0 k1 k2 k3 hnB
 go_wp2_with fail
 have hbig:∀ x∈b::(F++gs),w1.heap.size≤x∧x<nb:=by
  have hs7:=HE7.out.size
  have hs8:=HE8.out.size
  have hs9:=HE9.out.size
  have hnb:=HNB.out
  intro x hx
  have hF9:∀ y∈F,w1.heap.size≤y∧y<nb:=fun y hy=>by
   have:=HFN.out y hy
   have:=HS89.out
   omega
  rcases List.mem_cons.1 hx with rfl | hx
  ·exact hF9 _ HRD.out.mem
  ·rcases List.mem_append.1 hx with hx | hx
   ·exact hF9 x hx
   ·have:=HGN.out x (by simp [hx])
    have:=HS89.out
    omega
 have HBIG:=hid hbig
 clear hbig
 go_loopg [10,11,43] n (fun j v10 v11 v43 wr=>∃ i:Nat,v43=.int .i64 (i:Int)∧i+j=n∧Hid (IsRd wr b F body (moveBits p q ss ms i).length)∧Hid (PicOwn wr (bwP p q (ss.take i) sq0 0) gP capP xs gs)∧Hid (Chg (b::gs) wB wr))
 case atStart=>exact ⟨0,rfl,by omega,hid (by simpa [moveBits] using HRDB.out),HOWB,hid (Chg.refl _ _)⟩
 case round =>
  obtain ⟨i,rfl,hij,HR,HO,HCH⟩:=hrel
  have HCW:Hid (Chg (b::gs) w wr):=hid ((HCB.out.mono (by simp)).trans_same HCH.out)
  have HEW:Hid (Chg (b::gs) w1 wr):=hid ((HEB.out.mono (by simp)).trans_same HCH.out)
  have hnin:∀ y,y<w1.heap.size→y∉b::gs:=fun y hy hm=>by
   rcases List.mem_cons.1 hm with e | h1
   ·have:=HBIG.out b (by simp);omega
   ·have:=HBIG.out y (by simp [h1]);omega
  obtain ⟨k0,k1,k2,k3⟩:=HK.out (b::gs) wr HEW.out (hnin _ (by have:=HZ.out;omega))
  have hnbn:nb∉b::gs:=fun hm=>by
   rcases List.mem_cons.1 hm with e | h1
   ·have:=HBIG.out b (by simp);omega
   ·have:=HBIG.out nb (by simp [h1]);omega
  have hnbb:=HBNB.out.chg HCH.out hnbn
  have n0:=hnbb.cell 0
  have n1:=hnbb.cell 1
  have n2:=hnbb.cell 2
  have n3:=hnbb.cell 3
  simp at n0 n1 n2 n3
  rcases gk with _ | j
  ·obtain rfl:i=n:=by omega
   have t1:decide (i<i)=false:=by simp
   have hlf:=left_ok wr b F body _ HR.out
   rw [HLEFT.out] at hlf
   have HNBB:=hid hnbb
   have HRBB:=hid (HB2.out.chg HEW.out (hnin _ (by have:=HZ.out;omega)))
   clear hnbb hnbn hnin
   go_wp2_with fail
   refine hlf.mono ?_
   rintro e wC ⟨rfl,nq,rfl⟩
   have t5:decide ((8:Int)≤(L:Int))=false:=decide_eq_false (by omega)
   have hgt:=rget_ahead _ b F body _ L 0 (HR.out.chg ((Chg.refl [] wr).drewN nq) (by simp)) (by omega) (Nat.two_pow_pos L) HRES.out
   clear hlf
   go_wp2_with fail
   refine hgt.mono ?_
   rintro e wD ⟨rfl,hrD,chD⟩
   have chw:Chg [b] wr wD:=(((Chg.refl [] wr).drewN nq).mono (by simp)).trans_same chD
   have hnD:=HNBB.out.chg chw (fun hm=>by
    simp at hm
    have:=HBIG.out b (by simp)
    omega)
   have n0:=hnD.cell 0
   have n1:=hnD.cell 1
   have n2:=hnD.cell 2
   have n3:=hnD.cell 3
   simp at n0 n1 n2 n3
   have hrk:=HRBB.out.chg chw (fun hm=>by
    simp at hm
    have:=HBIG.out b (by simp)
    have:=HZ.out
    omega)
   have z0:=hrk.frozen 0
   have z1:=hrk.frozen 1
   have z2:=hrk.frozen 2
   have z3:=hrk.frozen 3
   have r0:=hrk.cell 0
   have r1:=hrk.cell 1
   have r2:=hrk.cell 2
   have r3:=hrk.cell 3
   simp at r0 r1 r2 r3
   have hnr:nb≠w.heap.size+1:=by have:=HZ.out;have:=HBIG.out b (by simp);omega
   have HRKK:=hid hrk
   have HCWW:=hid chw
   clear hgt hrD chD hnD hrk k0 k1 k2 k3 chw
   go_wp2_with fail
   obtain ⟨rb,hrb⟩:∃ rb,rb=w.heap.size+1:=⟨_,rfl⟩
   have hrk:=HRKK.out
   rw [←hrb] at hrk ⊢
   obtain ⟨wE,hwE⟩:∃ wE,wE=(((wD.setCell ⟨rb,0,none⟩ (.int .i64 (p.W:Int))).setCell ⟨rb,1,none⟩ (.int .i64 (p.H:Int))).setCell ⟨rb,2,none⟩ (.int .i64 (p.d:Int))).setCell ⟨rb,3,none⟩ (.slice (some ⟨gP,0,none⟩) k capP):=⟨_,rfl⟩
   have hk9:Blk wE rb 25 #[.int .i64 (p.W:Int),.int .i64 (p.H:Int),.int .i64 (p.d:Int),.slice (some ⟨gP,0,none⟩) k capP]:=by
    rw [hwE]
    have:=(((hrk.set_ 0 (.int .i64 (p.W:Int))).set_ 1 (.int .i64 (p.H:Int))).set_ 2 (.int .i64 (p.d:Int))).set_ 3 (.slice (some ⟨gP,0,none⟩) k capP)
    simpa using this
   have chE:Chg [rb] wD wE:=by
    rw [hwE]
    exact ((((Chg.refl [rb] wD).setCell (p:=⟨rb,0,none⟩) (.inl (by simp)) _).setCell (p:=⟨rb,1,none⟩) (.inl (by simp)) _).setCell (p:=⟨rb,2,none⟩) (.inl (by simp)) _).setCell (p:=⟨rb,3,none⟩) (.inl (by simp)) _
   have g0:=hk9.cell 0
   have g1:=hk9.cell 1
   have g2:=hk9.cell 2
   have g3:=hk9.cell 3
   simp at g0 g1 g2 g3
   rw [←hwE]
   refine bodyPost_ret (v:=.tuple #[.agg #[.int .i64 (p.W:Int),.int .i64 (p.H:Int),.int .i64 (p.d:Int),.slice (some ⟨gP,0,none⟩) k capP],.int .i64 0]) (by simp [results,Tryz.results10,go_sem,g0,g1,g2,g3]) rfl ?_
   have hbr:∀ x∈gP::gs,x∉[b]∧x∉[rb]:=fun x hx=>by
    have h1:=HGN.out x hx
    have h2:=HFN.out b HRD.out.mem
    have h3:=HZ.out
    have h4:=HE8.out.size
    refine ⟨?_,?_⟩
    ·simp
     omega
    ·simp
     omega
   have hoF:=HO.out
   rw [HFIN.out] at hoF
   refine ⟨gP,capP,xs,gs,rfl,?_,?_,fun x hx => ?_⟩
   ·exact (hoF.chg HCWW.out (hbr gP (by simp)).1 (fun x hx=>(hbr x (by simp [hx])).1)).chg chE (hbr gP (by simp)).2 (fun x hx=>(hbr x (by simp [hx])).2)
   ·refine (HCB.out.trans (HCH.out.trans_same (HCWW.out.mono (by simp))) ?_).trans chE ?_
    ·intro x hx
     right
     have h1:=HZ.out
     rcases List.mem_cons.1 hx with rfl | h2
     ·have:=HBIG.out x (by simp);omega
     ·have:=HBIG.out x (by simp [h2]);omega
    ·intro x hx
     simp at hx
     right
     omega
   ·have h1:=HGN.out x hx
    have h2:=HC8.out.size
    omega
  ·have hi:i<n:=by omega
   have t1:decide (i<n)=true:=decide_eq_true hi
   have hil:i<ss.length:=by rw [←HN.out];exact hi
   have hc8:Cells (fun v=>v) wr A8 (ss.flatMap sqCells):=HC8'.out.chg HCH.out (fun ad e hm=>by
    have h1:=HA8.out ad e
    have h2:=HNB.out
    have h3:wA.heap.size=nb+1:=by rw [HWA.out,alloc_size,←h2]
    rcases List.mem_cons.1 hm with e2 | h4
    ·have:=HBIG.out b (by simp);omega
    ·have:=HBIG.out ad.block (by simp [h4]);omega)
   obtain ⟨g8,o8,hA8,x0,x1,x2,x3⟩:=sq_cell hc8 hil
   subst hA8
   have hal:Chg [] wr (wr.alloc (.cells #[.int .i64 ((sqAt ss i).x:Int),.int .i64 ((sqAt ss i).y:Int),.int .i64 ((sqAt ss i).w:Int),.int .i64 ((sqAt ss i).h:Int)] 45)):=(Chg.refl [] wr).alloc _
   obtain ⟨c0,c1,c2,c3⟩:=HK.out (b::gs) _ (HEW.out.trans_same (hal.mono (by simp))) (hnin _ (by have:=HZ.out;omega))
   have hnb2:=hnbb.chg hal (by simp)
   have d0:=hnb2.cell 0
   have d1:=hnb2.cell 1
   have d2:=hnb2.cell 2
   have d3:=hnb2.cell 3
   simp at d0 d1 d2 d3
   have hgb:=HGB.out _ i b F gP capP xs gs hi (HCW.out.trans_same (hal.mono (by simp))) (HO.out.same hal) (HR.out.chg hal (by simp)) (fun x hx=>by have:=HGN.out x hx;have:=HC8.out.size;omega) (fun x hx=>by have:=HFN.out x hx;have:=HC1.out.size;omega) (fun x hx hm=>by have:=HFN.out x hx;have:=HGN.out x hm;omega)
   have HGBB:=hid hgb
   have HAL:=hid hal
   clear hgb hal hnb2 hnbb hnbn hnin hc8 hil
   go_wp2_with fail
   refine HGBB.out.mono ?_
   rintro e w5 ⟨rfl,hr5,ho5,ch5⟩
   have HR5:=hid hr5
   have HO5:=hid ho5
   have HC5:Hid (Chg (b::gs) wB w5):=hid ((HCH.out.trans_same (HAL.out.mono (by simp))).trans_same ch5)
   clear hr5 ho5 ch5 k0 k1 k2 k3 n0 n1 n2 n3 c0 c1 c2 c3 d0 d1 d2 d3 x0 x1 x2 x3
   go_wp2_with fail
   go_roundg j
   case measure=>omega
   case rel=>exact ⟨i+1,by go_num,by omega,HR5,HO5,HC5⟩
theorem decode_sum {w:World} {p:PicD} {g o:Nat} {B:Nat→Option Addr} {c:Nat→Nat} {G:List Nat} (cap:Nat) (h:PicAt w p g o B c G)
  (A:Option Addr) (capA:Nat) (body tail:List Nat) (hdig:∀ d∈body,d<256) (hb0:0<body.length) (hb1:body.length≤1000000000) (ht:tail.length=4) (hne:tail≠sumL p body)
  (hc:Cells b8 w A (body++tail)) (hcap:(body++tail).length≤capA) (hcm:capA≤9223372036854775807) :
  Calls Tryz.prog 10 #[picV p g o cap,.slice A (body++tail).length capA] w fun e w'=>e=.returned (.tuple #[.agg #[.int .i64 0,.int .i64 0,.int .i64 0,.slice none 0 0],.int .i64 5])∧Chg [] w w':=by
 have hok:=h.ok
 obtain ⟨m,hm⟩:∃ m,m=body.length:=⟨_,rfl⟩
 have hm0:0<m:=by omega
 have hm1:m≤1000000000:=by omega
 obtain ⟨N,hN⟩:∃ N,N=(body++tail).length:=⟨_,rfl⟩
 have hNm:N=m+4:=by rw [hN,List.length_append,ht,hm]
 rw [←hN] at hcap ⊢
 have hcb:Cells b8 w A body:=by
  have h1:=hc.take body.length
  rw [List.take_left] at h1
  exact h1
 have eN:(N:Int)-4=(m:Int):=by omega
 have hsl1:=fun w'=>slice_to (P:=Tryz.prog) Tryz.underlying29 A N capA m (by omega) hcap w' (size_u8 w')
 obtain ⟨A',hsl2,-,hcl2⟩:=slice_from (P:=Tryz.prog) Tryz.underlying29 size_u8 A N capA m (by omega) hcap
 have hN4:N-m=4:=by omega
 rw [hN4] at hsl2
 have hct:Cells b8 w A' tail:=by
  have h1:=hcl2 Nat b8 w _ hN.symm hc
  rw [hm,List.drop_left] at h1
  exact h1
 have hck:∀ w',Chg [] w w'→_:=fun w' (hc':Chg [] w w')=>checksum_ok cap (h.same hc') A capA body (hcb.same hc') hdig (by omega) (by omega)
 have heq:∀ w' g6 c6,Chg [] w w'→Cells b8 w' (some ⟨g6,0,none⟩) (sumL p body)→_:=fun w' g6 c6 hc' h6=>equal_b_ok w' A' (some ⟨g6,0,none⟩) (capA-m) c6 tail (sumL p body) (hct.same hc') h6 (by rw [ht];rfl) (by rw [ht];omega)
 have his:∀ w',Chg [] w w'→_:=fun w' (hc':Chg [] w w')=>is_yes cap (h.same hc')
 rw [←hm] at hck
 have hsl:(sumL p body).length=4:=rfl
 rw [hsl,ht] at heq
 unfold picV at his hck ⊢
 obtain ⟨k,hk⟩:∃ k,k=p.P.length:=⟨_,rfl⟩
 rw [←hk] at his hck ⊢
 have hk4:k≤4:=by rw [hk];exact hok.n1
 obtain ⟨w1,hw1⟩:∃ w1,w1=((w.alloc (.cells #[.int .i64 (p.W:Int),.int .i64 (p.H:Int),.int .i64 (p.d:Int),.slice (some ⟨g,o,none⟩) k cap] 25)).alloc (.cells #[.int .i64 0,.int .i64 0,.int .i64 0,.slice none 0 0] 25)):=⟨_,rfl⟩
 have hb1:Blk w1 w.heap.size 25 #[.int .i64 (p.W:Int),.int .i64 (p.H:Int),.int .i64 (p.d:Int),.slice (some ⟨g,o,none⟩) k cap]:=by rw [hw1];exact (Blk.new w _ _).alloc _
 have hb2:Blk w1 (w.heap.size+1) 25 #[.int .i64 0,.int .i64 0,.int .i64 0,.slice none 0 0]:=by rw [hw1];exact Blk.new2 w _ _ _
 have hC1:Chg [] w w1:=by rw [hw1];exact ((Chg.refl [] w).alloc _).alloc _
 have hz1:w1.heap.size=w.heap.size+1+1:=by rw [hw1,alloc_size,alloc_size]
 have hkeep:∀ (E:List Nat) wz,Chg E w1 wz→w.heap.size∉E→wz.cell? ⟨w.heap.size,0,none⟩=some (.int .i64 (p.W:Int))∧wz.cell? ⟨w.heap.size,1,none⟩=some (.int .i64 (p.H:Int))∧wz.cell? ⟨w.heap.size,2,none⟩=some (.int .i64 (p.d:Int))∧wz.cell? ⟨w.heap.size,3,none⟩=some (.slice (some ⟨g,o,none⟩) k cap):=fun E wz hz hE =>
  ⟨(hb1.chg hz hE).cell 0,(hb1.chg hz hE).cell 1,(hb1.chg hz hE).cell 2,(hb1.chg hz hE).cell 3⟩
 have heq':∀ w' g6 c6,Chg [] w w'→Cells b8 w' (some ⟨g6,0,none⟩) (sumL p body)→Calls Tryz.prog 33 #[.slice A' 4 (capA-m),.slice (some ⟨g6,0,none⟩) 4 c6] w' fun e w''=>e=.returned (.bool false)∧Chg [] w' w'':=fun w' g6 c6 a b=>(heq w' g6 c6 a b).mono fun e w'' h=>⟨by rw [h.1,decide_eq_false hne],h.2⟩
 have HW1:=hid hw1
 have HC1:=hid hC1
 have HZ:=hid hz1
 have HK:=hid hkeep
 have HB2:=hid hb2
 have HEQ:=hid heq'
 have HCK:=hid hck
 have HIS:=hid his
 have t0:decide ((N:Int)<4)=false:=decide_eq_false (by omega)
 have hN9:N≤1000000004:=by omega
 clear hw1 hC1 hz1 hkeep hb2 heq heq' hck his hk hm hb1 hN hNm hcb hcl2 hct hsl hok h hc hN4 hdig ht hne
 go_enter Tryz.func10,Tryz.ntmps10
 go_wp2_with fail
 rw [←HW1.out]
 obtain ⟨k0,k1,k2,k3⟩:=HK.out [] w1 (Chg.refl _ _) (by simp)
 go_wp2_with fail
 refine (HIS.out w1 HC1.out).mono ?_
 rintro e w2 ⟨rfl,ch2⟩
 have HCH2:=hid ch2
 obtain ⟨k0,k1,k2,k3⟩:=HK.out [] w2 ch2 (by simp)
 have E2:Chg [] w1 w2.drew:=ch2.drew
 have D2:Chg [] w w2.drew:=(HC1.out.trans_same ch2).drew
 clear ch2
 go_wp2_with fail
 go_region_held3 (fun w'=>w'.cell? ⟨w.heap.size,0,none⟩=some (.int .i64 (p.W:Int))∧w'.cell? ⟨w.heap.size,1,none⟩=some (.int .i64 (p.H:Int))∧w'.cell? ⟨w.heap.size,2,none⟩=some (.int .i64 (p.d:Int))∧w'.cell? ⟨w.heap.size,3,none⟩=some (.slice (some ⟨g,o,none⟩) k cap))
  (first | (go_keep;done) | exact HK.out [] _ (by first | exact E2.trans_same ch6 | exact (E2.trans_same ch6).trans_same ch7) (by simp) | trivial)
  (first
   | (go_at_call 30;refine (HCK.out _ D2).mono ?_;rintro e w6 ⟨g6,c6,rfl,hrow6,ch6,hg6⟩)
   | (go_at_call 33;refine (HEQ.out _ _ _ (D2.trans_same ch6) (by obtain ⟨c',e',_,_,h6⟩ := Row.cells_b8 hrow6;exact h6)).mono ?_;rintro e w7 ⟨rfl,ch7⟩))
 have HC7:=hid ((D2.trans_same ch6).trans_same ch7)
 have HE7:=hid ((E2.trans_same ch6).trans_same ch7)
 clear k0 k1 k2 k3 D2 E2 ch6 ch7 hrow6 hg6
 have hrk:=HB2.out.chg HE7.out (by simp)
 have z0:=hrk.frozen 0
 have z1:=hrk.frozen 1
 have z2:=hrk.frozen 2
 have z3:=hrk.frozen 3
 have r0:=hrk.cell 0
 have r1:=hrk.cell 1
 have r2:=hrk.cell 2
 have r3:=hrk.cell 3
 simp at r0 r1 r2 r3
 have HRKK:=hid hrk
 clear hrk
 go_wp2_with fail
 obtain ⟨rb,hrb⟩:∃ rb,rb=w.heap.size+1:=⟨_,rfl⟩
 have hrk:=HRKK.out
 rw [←hrb] at hrk ⊢
 obtain ⟨wE,hwE⟩:∃ wE,wE=(((w7.setCell ⟨rb,0,none⟩ (.int .i64 0)).setCell ⟨rb,1,none⟩ (.int .i64 0)).setCell ⟨rb,2,none⟩ (.int .i64 0)).setCell ⟨rb,3,none⟩ (.slice none 0 0):=⟨_,rfl⟩
 have hk9:Blk wE rb 25 #[.int .i64 0,.int .i64 0,.int .i64 0,.slice none 0 0]:=by
  rw [hwE]
  have:=(((hrk.set_ 0 (.int .i64 0)).set_ 1 (.int .i64 0)).set_ 2 (.int .i64 0)).set_ 3 (.slice none 0 0)
  simpa using this
 have chE:Chg [rb] w7 wE:=by
  rw [hwE]
  exact ((((Chg.refl [rb] w7).setCell (p:=⟨rb,0,none⟩) (.inl (by simp)) _).setCell (p:=⟨rb,1,none⟩) (.inl (by simp)) _).setCell (p:=⟨rb,2,none⟩) (.inl (by simp)) _).setCell (p:=⟨rb,3,none⟩) (.inl (by simp)) _
 have g0:=hk9.cell 0
 have g1:=hk9.cell 1
 have g2:=hk9.cell 2
 have g3:=hk9.cell 3
 simp at g0 g1 g2 g3
 rw [←hwE]
 refine bodyPost_ret (v:=.tuple #[.agg #[.int .i64 0,.int .i64 0,.int .i64 0,.slice none 0 0],.int .i64 5]) (by simp [results,Tryz.results10,go_sem,g0,g1,g2,g3]) rfl ?_
 exact ⟨rfl,HC7.out.trans chE (fun x hx=>by
  simp at hx
  right
  omega)⟩
theorem two_elem:Elem Tryz.prog 34 55 (.agg #[.int .i64 0,.int .i64 0]) 2 16:=.mk' Tryz.underlying34 (by kernel_rfl)
def BestMs (p q:PicD) (ss:List Sq) (ms:List (Int × Int)) (i:Nat):Prop:=∀ k,k<i→∃ c,BestM p q (sqAt ss k) (fun _=>True) (ms.getD k (0,0)).1 (ms.getD k (0,0)).2 c
theorem BestMs.snoc {p q:PicD} {ss:List Sq} {ms:List (Int × Int)} {i:Nat} (h:BestMs p q ss ms i) (hl:ms.length=i) {dx dy:Int} {c:Nat} (hb:BestM p q (sqAt ss i) (fun _=>True) dx dy c):BestMs p q ss (ms++[(dx,dy)]) (i+1):=fun k hk=>by
 rcases Nat.lt_or_ge k i with h1 | h1
 ·obtain ⟨c',h2⟩:=h k h1
  refine ⟨c',?_⟩
  have e:(ms++[(dx,dy)]).getD k (0,0)=ms.getD k (0,0):=by
   rw [List.getD_eq_getElem?_getD,List.getD_eq_getElem?_getD,List.getElem?_append_left (by omega)]
  rw [e]
  exact h2
 ·obtain rfl:k=i:=by omega
  have e:(ms++[(dx,dy)]).getD k (0,0)=(dx,dy):=by
   rw [List.getD_eq_getElem?_getD,←hl]
   simp
  rw [e]
  exact ⟨c,hb⟩
def EncPost (w:World) (p q:PicD) (e:Ending) (w':World):Prop :=
 ∃ v G9 ms,e=.returned (.tuple #[v,.int .i64 0])∧Own w' 5 v G9 ((mvBytes p q ms).map b8)∧ms.length=(gridL q.W q.H 8).length∧BestMs p q (gridL q.W q.H 8) ms (gridL q.W q.H 8).length∧Chg [] w w'∧(∀ x∈G9,w.heap.size≤x)∧MvBits p q ms
theorem encode_ok {w:World} {p q:PicD} {g o:Nat} {B:Nat→Option Addr} {c:Nat→Nat} {G:List Nat} (cap:Nat) (h:PicAt w p g o B c G)
  {g' o':Nat} {B':Nat→Option Addr} {c':Nat→Nat} {G':List Nat} (cap':Nat) (h':PicAt w q g' o' B' c' G') (ha:AlikeD p q) (hp:Pts w) :
  Calls Tryz.prog 7 #[picV p g o cap,picV q g' o' cap'] w (EncPost w p q):=by
 have hok:=h.ok
 have hok':=h'.ok
 have hal:=fun w' (hc:Chg [] w w')=>alike_yes cap (h.same hc) cap' (h'.same hc) ha
 have hgr:=fun w'=>mgrid_ok hok' g' o' cap' w'
 unfold EncPost
 obtain ⟨ss,hss⟩:∃ ss,ss=gridL q.W q.H 8:=⟨_,rfl⟩
 have hsin:∀ s∈ss,SqIn p.W p.H s:=fun s hs=>by
  rw [hss] at hs
  obtain ⟨a,b⟩:=grid_in (by decide) s hs
  exact ⟨by rw [ha.W];exact a,by rw [ha.H];exact b⟩
 have hn4:ss.length≤4096:=by rw [hss];exact grid8_len hok'.w1 hok'.h1
 have hby:=fun w' (hc:Chg [] w w') AM capM ms hM hml hmo=>by_ok cap (h.same hc) cap' (h'.same hc) ha (hp.same hc) AM capM ms hM hml hmo
 rw [←hss] at hgr ⊢
 simp only [←hss] at hby
 obtain ⟨n,hn⟩:∃ n,n=ss.length:=⟨_,rfl⟩
 have hse:∀ w',Chg [] w w'→∀ i,i<n→_:=fun w' hc i hi=>search_ok cap (h.same hc) cap' (h'.same hc) ha (sqAt ss i) (hsin _ (sqAt_mem (by omega)))
 unfold picV sqV at hse
 unfold picV at hal hgr hby ⊢
 obtain ⟨w1,hw1⟩:∃ w1,w1=((w.alloc (.cells #[.int .i64 (p.W:Int),.int .i64 (p.H:Int),.int .i64 (p.d:Int),.slice (some ⟨g,o,none⟩) p.P.length cap] 25)).alloc (.cells #[.int .i64 (q.W:Int),.int .i64 (q.H:Int),.int .i64 (q.d:Int),.slice (some ⟨g',o',none⟩) q.P.length cap'] 25)):=⟨_,rfl⟩
 have hb1:Blk w1 w.heap.size 25 #[.int .i64 (p.W:Int),.int .i64 (p.H:Int),.int .i64 (p.d:Int),.slice (some ⟨g,o,none⟩) p.P.length cap]:=by rw [hw1];exact (Blk.new w _ _).alloc _
 have hb2:Blk w1 (w.heap.size+1) 25 #[.int .i64 (q.W:Int),.int .i64 (q.H:Int),.int .i64 (q.d:Int),.slice (some ⟨g',o',none⟩) q.P.length cap']:=by rw [hw1];exact Blk.new2 w _ _ _
 have hC1:Chg [] w w1:=by rw [hw1];exact ((Chg.refl [] w).alloc _).alloc _
 have hbox:=fun wz (hc:Chg [] w1 wz)=>And.intro (And.intro ((hb1.chg hc (by simp)).cell 0) (And.intro ((hb1.chg hc (by simp)).cell 1) (And.intro ((hb1.chg hc (by simp)).cell 2) ((hb1.chg hc (by simp)).cell 3)))) (And.intro ((hb2.chg hc (by simp)).cell 0) (And.intro ((hb2.chg hc (by simp)).cell 1) (And.intro ((hb2.chg hc (by simp)).cell 2) ((hb2.chg hc (by simp)).cell 3))))
 have HW1:=hid hw1
 have HC1:=hid hC1
 have HAL:=hid hal
 have HGR:=hid hgr
 have HN:=hid hn
 have HBOX:=hid hbox
 have HBY:=hid hby
 have HSE:=hid hse
 have hn41:n≤4096:=by omega
 clear hal hgr hb1 hb2 hw1 hC1 hsin hok hok' h h' ha hp hn hss hn4 hbox hby hse
 go_enter Tryz.func7,Tryz.ntmps7
 go_wp2_with fail
 rw [←HW1.out]
 refine (HAL.out w1 HC1.out).mono ?_
 rintro e w2 ⟨rfl,ch2⟩
 obtain ⟨⟨a0,a1,a2,a3⟩,⟨b0,b1,b2,b3⟩⟩:=HBOX.out w2 ch2
 have HCH2:=hid ch2
 clear ch2
 go_wp2_with fail
 refine (HGR.out w2).mono ?_
 rintro e w3 ⟨v8,F8,rfl,hsq,ch3,hF8⟩
 obtain ⟨A8,c8,rfl,h81,h82,hc8,-⟩:=OwnK.open_ hsq
 have HCH3:=hid (HCH2.out.trans_same ch3)
 have HC8:=hid hc8
 rw [←HN.out]
 clear hsq ch3 hF8 hc8 a0 a1 a2 a3 b0 b1 b2 b3
 go_wp2_with fail
 go_loopg [6,8,9,10,11,19] n (fun j v6 v8 v9 v10 v11 v19 wr=>∃ (i:Nat) (ms:List (Int × Int)) (F:List Nat),v19=.int .i64 (i:Int)∧i+j=n∧Hid (OwnK wr 55 2 v6 F i (ms.flatMap mvCells))∧Hid (ms.length=i)∧Hid (BestMs p q ss ms i)∧Hid (Chg [] w3 wr)∧Hid (∀ x∈F,w3.heap.size≤x))
 case atStart=>exact ⟨0,[],[],rfl,by omega,hid (OwnK.nil _ _ _),hid rfl,hid (fun k hk=>by omega),hid (Chg.refl _ _),hid (by simp)⟩
 case round =>
  obtain ⟨i,ms,F,rfl,hij,HO,HML,HB,HCH,HF⟩:=hrel
  obtain ⟨⟨a0,a1,a2,a3⟩,⟨b0,b1,b2,b3⟩⟩:=HBOX.out wr (HCH3.out.trans_same HCH.out)
  rcases gk with _ | j
  ·obtain rfl:i=n:=by omega
   have t1:decide (i<i)=false:=by simp
   obtain ⟨AM,cM,rfl,hm1,hm2,hcM,-⟩:=HO.out.open_
   have hby:=HBY.out wr ((HC1.out.trans_same HCH3.out).trans_same HCH.out) AM cM ms hcM (by rw [HML.out];exact HN.out) (fun k hk=>by
    obtain ⟨c,hb⟩:=HB.out k (by rw [←HML.out];exact hk)
    exact hb.ok)
   rw [HML.out] at hby
   have HBYY:=hid hby
   clear hby hm1 hm2 hcM
   go_wp2_with fail
   refine HBYY.out.mono ?_
   rintro e w9 ⟨v9,G9,rfl,hown9,ch9,hG9,hmb9⟩
   go_wp2
   refine bodyPost_ret (v:=.tuple #[v9,.int .i64 0]) (by simp [results,Tryz.results7,go_sem]) rfl ?_
   refine ⟨v9,G9,ms,rfl,hown9,by rw [HML.out];exact HN.out,by rw [←HN.out];exact HB.out,((HC1.out.trans_same HCH3.out).trans_same HCH.out).trans_same ch9,fun x hx => ?_,hmb9⟩
   have h1:=hG9 x hx
   have h2:=((HC1.out.trans_same HCH3.out).trans_same HCH.out).size
   omega
  ·have hi:i<n:=by omega
   have t1:decide (i<n)=true:=decide_eq_true hi
   have hil:i<ss.length:=by rw [←HN.out];exact hi
   obtain ⟨g8,o8,hA8,x0,x1,x2,x3⟩:=sq_cell (HC8.out.same HCH.out) hil
   subst hA8
   have hbx:=HBOX.out _ (((HCH3.out.trans_same HCH.out)).alloc (.cells #[.int .i64 ((sqAt ss i).x:Int),.int .i64 ((sqAt ss i).y:Int),.int .i64 ((sqAt ss i).w:Int),.int .i64 ((sqAt ss i).h:Int)] 45))
   obtain ⟨⟨c0,c1,c2,c3⟩,⟨d0,d1,d2,d3⟩⟩:=hbx
   have hse:=HSE.out _ ((((HC1.out.trans_same HCH3.out).trans_same HCH.out)).alloc (.cells #[.int .i64 ((sqAt ss i).x:Int),.int .i64 ((sqAt ss i).y:Int),.int .i64 ((sqAt ss i).w:Int),.int .i64 ((sqAt ss i).h:Int)] 45)) i hi
   unfold SearchPost at hse
   have HSEE:=hid hse
   clear hse hil
   go_wp2_with fail
   refine HSEE.out.mono ?_
   rintro e w5 ⟨dx,dy,cc,rfl,hb,ch5⟩
   have HCH5:=hid ((HCH.out.alloc (.cells #[.int .i64 ((sqAt ss i).x:Int),.int .i64 ((sqAt ss i).y:Int),.int .i64 ((sqAt ss i).w:Int),.int .i64 ((sqAt ss i).h:Int)] 45)).trans_same ch5)
   have hown:=((HO.out.same ((Chg.refl [] wr).alloc (.cells #[.int .i64 ((sqAt ss i).x:Int),.int .i64 ((sqAt ss i).y:Int),.int .i64 ((sqAt ss i).w:Int),.int .i64 ((sqAt ss i).h:Int)] 45))).same ch5).same ((Chg.refl [] w5).alloc (.cells #[.int .i64 dx,.int .i64 dy] 55))
   have hblk:=Blk.new w5 55 #[.int .i64 dx,.int .i64 dy]
   have HBS:=hid (HB.out.snoc HML.out hb)
   clear hb ch5 a0 a1 a2 a3 b0 b1 b2 b3 c0 c1 c2 c3 d0 d1 d2 d3 x0 x1 x2 x3
   go_wp2_with (at_builtin;refine wpList_append_k1 rfl rfl two_elem rfl (by decide) rfl hown [.int .i64 dx,.int .i64 dy] rfl rfl ?c1 ?c2 ?c3 ?c4 ?_)
   case c1 =>
    intro q u hq
    match q,hq with
    | 0,hq=>rw [←hq];exact hblk.cell 0
    | 1,hq=>rw [←hq];exact hblk.cell 1
    | q+2,hq=>simp at hq
   case c2=>intro u hu;simp at hu;rcases hu with rfl | rfl<;>rfl
   case c3=>omega
   case c4=>omega
   intro g9 cap9 w9 hown9 hgr9
   have HO9:=hid hown9
   have HC9:Hid (Chg [] w3 w9):=hid ((HCH5.out.alloc _).trans hgr9.chg (fun x hx => .inr (HF.out x hx)))
   have hnew:Hid (∀ x∈[g9],w3.heap.size≤x):=hid (fun x hx=>by
    rcases hgr9.new x hx with h | h
    ·exact HF.out x h
    ·have:=HCH5.out.size;rw [alloc_size] at h;omega)
   clear hown9 hgr9 hown hblk
   go_wp2_with fail
   go_roundg j
   case measure=>omega
   case rel =>
    refine ⟨i+1,ms++[(dx,dy)],[g9],by go_num,by omega,hid ?_,hid (by rw [List.length_append,HML.out];rfl),HBS,HC9,hnew⟩
    rw [List.flatMap_append]
    exact HO9.out
def MSearchPost (w:World) (p q:PicD) (x y:Nat) (e:Ending) (w':World):Prop :=
 ∃ (dx dy:Int) (c:Nat) (s:Sq),e=.returned (.tuple #[.int .i64 dx,.int .i64 dy,.int .i64 (c:Int)])∧s∈gridL q.W q.H 8∧s.x=x∧s.y=y∧BestM p q s (fun _=>True) dx dy c∧Chg [] w w'
theorem msearch_ok {w:World} {p q:PicD} {g o:Nat} {B:Nat→Option Addr} {c:Nat→Nat} {G:List Nat} (cap:Nat) (h:PicAt w p g o B c G)
  {g' o':Nat} {B':Nat→Option Addr} {c':Nat→Nat} {G':List Nat} (cap':Nat) (h':PicAt w q g' o' B' c' G') (ha:AlikeD p q) (k0:Nat) (hk0:k0<(gridL q.W q.H 8).length) (x y:Nat) (hx:(sqAt (gridL q.W q.H 8) k0).x=x) (hy:(sqAt (gridL q.W q.H 8) k0).y=y) :
  Calls Tryz.prog 21 #[picV p g o cap,picV q g' o' cap',.int .i64 (x:Int),.int .i64 (y:Int)] w (MSearchPost w p q x y):=by
 have hok:=h.ok
 have hok':=h'.ok
 have hal:=fun w' (hc:Chg [] w w')=>alike_yes cap (h.same hc) cap' (h'.same hc) ha
 have hgr:=fun w'=>mgrid_ok hok' g' o' cap' w'
 unfold MSearchPost
 obtain ⟨ss,hss⟩:∃ ss,ss=gridL q.W q.H 8:=⟨_,rfl⟩
 have hsin:∀ s∈ss,SqIn p.W p.H s:=fun s hs=>by
  rw [hss] at hs
  obtain ⟨a,b⟩:=grid_in (by decide) s hs
  exact ⟨by rw [ha.W];exact a,by rw [ha.H];exact b⟩
 have hn4:ss.length≤4096:=by rw [hss];exact grid8_len hok'.w1 hok'.h1
 rw [←hss] at hgr hk0 hx hy ⊢
 obtain ⟨n,hn⟩:∃ n,n=ss.length:=⟨_,rfl⟩
 have hse:∀ w',Chg [] w w'→∀ i,i<n→_:=fun w' hc i hi=>search_ok cap (h.same hc) cap' (h'.same hc) ha (sqAt ss i) (hsin _ (sqAt_mem (by omega)))
 unfold picV sqV at hse
 unfold picV at hal hgr ⊢
 obtain ⟨w1,hw1⟩:∃ w1,w1=((w.alloc (.cells #[.int .i64 (p.W:Int),.int .i64 (p.H:Int),.int .i64 (p.d:Int),.slice (some ⟨g,o,none⟩) p.P.length cap] 25)).alloc (.cells #[.int .i64 (q.W:Int),.int .i64 (q.H:Int),.int .i64 (q.d:Int),.slice (some ⟨g',o',none⟩) q.P.length cap'] 25)):=⟨_,rfl⟩
 have hb1:Blk w1 w.heap.size 25 #[.int .i64 (p.W:Int),.int .i64 (p.H:Int),.int .i64 (p.d:Int),.slice (some ⟨g,o,none⟩) p.P.length cap]:=by rw [hw1];exact (Blk.new w _ _).alloc _
 have hb2:Blk w1 (w.heap.size+1) 25 #[.int .i64 (q.W:Int),.int .i64 (q.H:Int),.int .i64 (q.d:Int),.slice (some ⟨g',o',none⟩) q.P.length cap']:=by rw [hw1];exact Blk.new2 w _ _ _
 have hC1:Chg [] w w1:=by rw [hw1];exact ((Chg.refl [] w).alloc _).alloc _
 have hbox:=fun wz (hc:Chg [] w1 wz)=>And.intro (And.intro ((hb1.chg hc (by simp)).cell 0) (And.intro ((hb1.chg hc (by simp)).cell 1) (And.intro ((hb1.chg hc (by simp)).cell 2) ((hb1.chg hc (by simp)).cell 3)))) (And.intro ((hb2.chg hc (by simp)).cell 0) (And.intro ((hb2.chg hc (by simp)).cell 1) (And.intro ((hb2.chg hc (by simp)).cell 2) ((hb2.chg hc (by simp)).cell 3))))
 have HW1:=hid hw1
 have HC1:=hid hC1
 have HAL:=hid hal
 have HGR:=hid hgr
 have HN:=hid hn
 have HBOX:=hid hbox
 have HSE:=hid hse
 have hn41:n≤4096:=by omega
 have hx4:x≤64:=by have h1:=(hsin _ (sqAt_mem hk0)).x;have h2:=hok.w1;omega
 have hy4:y≤64:=by have h1:=(hsin _ (sqAt_mem hk0)).y;have h2:=hok.h1;omega
 have hxb:∀ k,k<n→(sqAt ss k).x≤64∧(sqAt ss k).y≤64:=fun k hk=>by have h1:=(hsin _ (sqAt_mem (i:=k) (ss:=ss) (by omega))).x;have h2:=hok.w1;have h3:=(hsin _ (sqAt_mem (i:=k) (ss:=ss) (by omega))).y;have h4:=hok.h1;omega
 have HXB:=hid hxb
 have HK0:=hid (And.intro hk0 (And.intro hx hy))
 clear hxb hk0 hx hy
 clear hal hgr hb1 hb2 hw1 hC1 hsin hok hok' h h' ha hn hss hn4 hbox hse
 go_enter Tryz.func21,Tryz.ntmps21
 go_wp2_with fail
 rw [←HW1.out]
 refine (HAL.out w1 HC1.out).mono ?_
 rintro e w2 ⟨rfl,ch2⟩
 obtain ⟨⟨a0,a1,a2,a3⟩,⟨b0,b1,b2,b3⟩⟩:=HBOX.out w2 ch2
 have HCH2:=hid ch2
 clear ch2
 go_wp2_with fail
 refine (HGR.out w2).mono ?_
 rintro e w3 ⟨v8,F8,rfl,hsq,ch3,hF8⟩
 obtain ⟨A8,c8,rfl,h81,h82,hc8,-⟩:=OwnK.open_ hsq
 have HCH3:=hid (HCH2.out.trans_same ch3)
 have HC8:=hid hc8
 rw [←HN.out]
 clear hsq ch3 hF8 hc8 a0 a1 a2 a3 b0 b1 b2 b3
 go_wp2_with fail
 go_loopg [8,9,10,12,20] n (fun j v8 v9 v10 v12 v20 wr=>∃ i:Nat,v20=.int .i64 (i:Int)∧i+j=n∧i≤k0∧Hid (Chg [] w3 wr))
 case atStart=>exact ⟨0,rfl,by omega,Nat.zero_le _,hid (Chg.refl _ _)⟩
 case round =>
  obtain ⟨i,rfl,hij,hik,HCH⟩:=hrel
  obtain ⟨⟨a0,a1,a2,a3⟩,⟨b0,b1,b2,b3⟩⟩:=HBOX.out wr (HCH3.out.trans_same HCH.out)
  rcases gk with _ | j
  ·exfalso
   have:=HK0.out.1
   have:=HN.out
   omega
  ·have hi:i<n:=by omega
   have t1:decide (i<n)=true:=decide_eq_true hi
   have hil:i<ss.length:=by rw [←HN.out];exact hi
   obtain ⟨g8,o8,hA8,x0,x1,x2,x3⟩:=sq_cell (HC8.out.same HCH.out) hil
   subst hA8
   have hbx:=HBOX.out _ (((HCH3.out.trans_same HCH.out)).alloc (.cells #[.int .i64 ((sqAt ss i).x:Int),.int .i64 ((sqAt ss i).y:Int),.int .i64 ((sqAt ss i).w:Int),.int .i64 ((sqAt ss i).h:Int)] 45))
   obtain ⟨⟨c0,c1,c2,c3⟩,⟨d0,d1,d2,d3⟩⟩:=hbx
   have hse:=HSE.out _ ((((HC1.out.trans_same HCH3.out).trans_same HCH.out)).alloc (.cells #[.int .i64 ((sqAt ss i).x:Int),.int .i64 ((sqAt ss i).y:Int),.int .i64 ((sqAt ss i).w:Int),.int .i64 ((sqAt ss i).h:Int)] 45)) i hi
   unfold SearchPost at hse
   have HSEE:=hid hse
   obtain ⟨bx,by_⟩:=HXB.out i hi
   clear hse
   by_cases hm:(sqAt ss i).x=x∧(sqAt ss i).y=y
   ·have t2:(((sqAt ss i).x:Int)==(x:Int))=true:=by rw [beq_iff_eq];omega
    have t3:(((sqAt ss i).y:Int)==(y:Int))=true:=by rw [beq_iff_eq];omega
    have HMM:=hid hm
    have HIL:=hid hil
    clear hm hil
    go_wp2_with fail
    refine HSEE.out.mono ?_
    rintro e w5 ⟨dx,dy,cc,rfl,hb,ch5⟩
    go_wp2
    refine bodyPost_ret (v:=.tuple #[.int .i64 dx,.int .i64 dy,.int .i64 (cc:Int)]) (by simp [results,Tryz.results21,go_sem]) rfl ?_
    exact ⟨dx,dy,cc,sqAt ss i,rfl,sqAt_mem HIL.out,HMM.out.1,HMM.out.2,hb,((((HC1.out.trans_same HCH3.out).trans_same HCH.out)).alloc _).trans_same ch5⟩
   ·have hlt:i<k0:=by
     rcases Nat.lt_or_ge i k0 with h1 | h1
     ·exact h1
     ·exfalso
      obtain rfl:i=k0:=by omega
      exact hm ⟨HK0.out.2.1,HK0.out.2.2⟩
    have tall:(((sqAt ss i).x:Int)==(x:Int))=false∨((((sqAt ss i).x:Int)==(x:Int))=true∧(((sqAt ss i).y:Int)==(y:Int))=false):=by
     by_cases q1:(sqAt ss i).x=x
     ·right
      exact ⟨by rw [beq_iff_eq];omega,by rw [beq_eq_false_iff_ne];intro q2;exact hm ⟨q1,by omega⟩⟩
     ·left
      rw [beq_eq_false_iff_ne]
      omega
    clear hm hil
    rcases tall with t2 | ⟨t2,t3⟩
    all_goals
     go_wp2_with fail
     go_roundg j
     case measure=>omega
     case rel=>exact ⟨i+1,by go_num,by omega,by omega,hid (HCH.out.alloc _)⟩
def pA:PicD:=⟨3,1,4,[[7,0,0]]⟩
def pB:PicD:=⟨3,1,4,[[0,7,0]]⟩
theorem lit_ok (l:List Int) (h:l.length=3) (hs:SmpOk 4 l):PicD.Ok ⟨3,1,4,[l]⟩ where
 w0:=by simp
 w1:=by simp
 h0:=by simp
 h1:=by simp
 d0:=by simp
 d1:=by simp
 n0:=by simp
 n1:=by simp
 len:=fun x hx=>by simp at hx;subst hx;exact h
 smp:=fun x hx=>by simp at hx;subst hx;exact hs
theorem pA_ok:pA.Ok:=lit_ok _ rfl (fun v hv=>by simp at hv;rcases hv with rfl | rfl | rfl<;>decide)
theorem pB_ok:pB.Ok:=lit_ok _ rfl (fun v hv=>by simp at hv;rcases hv with rfl | rfl | rfl<;>decide)
theorem pAB:AlikeD pA pB:=⟨rfl,rfl,rfl,rfl⟩
theorem pAA:AlikeD pA pA:=⟨rfl,rfl,rfl,rfl⟩
theorem grid_lit:gridL 3 1 8=[⟨0,0,3,1⟩]:=by rfl
theorem mv_lit {m:Int × Int} (h:mvOk 3 1 ⟨0,0,3,1⟩ m):m=(0,0):=by
 obtain ⟨a,b⟩:=m
 obtain ⟨_,_,_,_,h1,h2,h3,h4⟩:=h
 simp only at h1 h2 h3 h4
 have e1:a=0:=by omega
 have e2:b=0:=by omega
 rw [e1,e2]
theorem ms_lit {p q:PicD} (hp1:p.W=3) (hp2:p.H=1) (hq1:q.W=3) (hq2:q.H=1) {ms:List (Int × Int)} (hl:ms.length=(gridL q.W q.H 8).length) (hb:BestMs p q (gridL q.W q.H 8) ms (gridL q.W q.H 8).length):ms=[(0,0)]:=by
 rw [hq1,hq2,grid_lit] at hl hb
 obtain ⟨c,h⟩:=hb 0 (by simp)
 have h1:=h.ok
 rw [hp1,hp2] at h1
 have h2:=mv_lit h1
 match ms,hl with
 | [m],_=>rw [show ([m]:List (Int × Int)).getD 0 (0,0)=m from rfl] at h2;rw [show m=(m.1,m.2) from rfl,h2]
theorem best_ok {p q:PicD} {ms:List (Int × Int)} (hl:ms.length=(gridL q.W q.H 8).length) (hb:BestMs p q (gridL q.W q.H 8) ms (gridL q.W q.H 8).length):∀ i,i<ms.length→mvOk p.W p.H (sqAt (gridL q.W q.H 8) i) (ms.getD i (0,0)):=fun i hi=>by
 obtain ⟨c,h⟩:=hb i (by omega)
 exact h.ok
theorem body_AA:mvBody pA pA [(0,0)]=[0]:=by kernel_rfl
theorem cost_AB:costB pA pB ⟨0,0,3,1⟩ (0,0)=14:=by kernel_rfl
theorem sums_AB:picSum pA≠picSum pB:=by decide +kernel
theorem sum_other {body:List Nat} (hb:∀ d∈body,d<256):sumL pA body≠sumL pB body:=fun h=>by
 unfold sumL at h
 have hlt:∀ p:PicD,p.Ok→∀ d∈body++big4 (picSum p),d<256:=fun p hp d hd=>by
  rcases List.mem_append.1 hd with h1 | h1
  ·exact hb d h1
  ·exact big4_lt _ d h1
 have h1:=big4_inj (crcN_lt (hlt pA pA_ok)) (crcN_lt (hlt pB pB_ok)) h
 have h2:big4 (picSum pA)=big4 (picSum pB):=by
  have k:=crc_last hb (Nat.mod_lt _ (by decide)) (Nat.mod_lt _ (by decide)) (Nat.mod_lt _ (by decide)) (Nat.mod_lt _ (by decide)) (Nat.mod_lt _ (by decide)) (Nat.mod_lt _ (by decide)) (Nat.mod_lt _ (by decide)) (Nat.mod_lt _ (by decide)) h1
  unfold big4
  rw [k.1,k.2.1,k.2.2.1,k.2.2.2]
 exact sums_AB (big4_inj (picSum_lt pA_ok) (picSum_lt pB_ok) h2)
theorem body_bounds {p q:PicD} (hq:q.Ok) {ms:List (Int × Int)} (hbit:MvBits p q ms):0<(mvBody p q ms).length∧(mvBody p q ms).length≤1000000000∧∀ d∈mvBody p q ms,d<256:=by
 have hs8:∀ s∈gridL q.W q.H 8,1≤s.w∧s.w≤8∧1≤s.h∧s.h≤8:=grid_ok (by decide)
 have hn4:=grid8_len hq.w1 hq.h1
 have hbl:=moveBits_len p q (ss:=gridL q.W q.H 8) ms hs8 hq.d0 hq.d1 hq.n1 _ (Nat.le_refl _)
 have hbp:=moveBits_pos p q (gridL q.W q.H 8) ms (gridL q.W q.H 8).length
 have hn0:0<(gridL q.W q.H 8).length:=by
  rcases Nat.eq_zero_or_pos (gridL q.W q.H 8).length with h0 | h0
  ·exfalso
   have h1:=area_grid (w:=q.W) (h:=q.H) (s:=8) (by decide)
   rw [List.eq_nil_of_length_eq_zero h0] at h1
   have h2:=hq.pos
   simp [area] at h1
   omega
  ·exact h0
 have hlen:(mvBody p q ms).length=((moveBits p q (gridL q.W q.H 8) ms (gridL q.W q.H 8).length).length+7) / 8:=by
  unfold mvBody
  rw [packed_len,padF_len]
  omega
 refine ⟨by omega,by omega,?_⟩
 unfold mvBody
 exact packed_dig (mem_padF hbit)
theorem lit_at {w:World} {s t:Nat} {l:List Int} (hl:l.length=3) (hok:PicD.Ok ⟨3,1,4,[l]⟩) (h1:Blk w s 3 (l.map vi).toArray) (h2:Blk w t 22 #[.slice (some ⟨s,0,none⟩) 3 3]) :
  PicAt w ⟨3,1,4,[l]⟩ t 0 (fun _=>some ⟨s,0,none⟩) (fun _=>3) [s,t] where
 ok:=hok
 gG:=by simp
 lt:=fun x hx=>by simp at hx;rcases hx with rfl | rfl;exact h1.lt;exact h2.lt
 cell:=fun i hi=>by
  simp at hi
  subst hi
  exact h2.cell 0
 cells:=fun i hi=>by
  simp at hi
  subst hi
  refine ⟨fun _=>⟨s,0,rfl,h1.lt,fun k a hk => ?_⟩⟩
  rw [Nat.zero_add,h1.cell k]
  have hk':l[k]?=some a:=by simpa using hk
  simp [hk']
 blk:=fun i hi ad e=>by injection e with e;subst e;simp
 cap:=fun i hi=>by simp
theorem own_row {w:World} {e:TypeId} {v:Value} {F:List Nat} {ys:List Value} {N:Nat} (h:Own w e v F ys) (hl:ys.length=N) (h0:0<N):∃ g c,v=.slice (some ⟨g,0,none⟩) N c∧Row w e (.slice (some ⟨g,0,none⟩) N c) g ys∧F=[g]:=by
 rcases h.cases with ⟨_,he,_⟩ | ⟨g,hr,hF⟩
 ·rw [he] at hl
  simp at hl
  omega
 ·have hr2:=hr
  obtain ⟨c,rfl,_⟩:=hr.open_
  rw [hl] at hr2 ⊢
  exact ⟨g,c,rfl,hr2,hF⟩
def litV (a c:Nat):Value:=.agg #[.int .i64 3,.int .i64 1,.int .i64 4,.slice (some ⟨a,0,none⟩) 1 c]
theorem litV_A (a c:Nat):picV pA a 0 c=litV a c:=by simp [picV,pA,litV]
theorem litV_B (a c:Nat):picV pB a 0 c=litV a c:=by simp [picV,pB,litV]
section
variable {w:World} {a a':Nat} {B B':Nat→Option Addr} {c c':Nat→Nat} {G G':List Nat}
theorem kn_encA (hA:PicAt w pA a 0 B c G) (hp:Pts w):Calls Tryz.prog 7 #[litV a 1,litV a 1] w (EncPost w pA pA):=by
 have h:=encode_ok 1 hA 1 hA pAA hp
 rw [litV_A] at h
 exact h
theorem kn_encB (hA:PicAt w pA a 0 B c G) (hB:PicAt w pB a' 0 B' c' G') (hp:Pts w):Calls Tryz.prog 7 #[litV a 1,litV a' 1] w (EncPost w pA pB):=by
 have h:=encode_ok 1 hA 1 hB pAB hp
 rw [litV_A,litV_B] at h
 exact h
theorem kn_decA (hA:PicAt w pA a 0 B c G) (hp:Pts w) {A:Option Addr} {capA:Nat} {ms:List (Int × Int)} (h1:ms.length=(gridL pB.W pB.H 8).length) (h2:BestMs pA pB (gridL pB.W pB.H 8) ms (gridL pB.W pB.H 8).length) (h3:MvBits pA pB ms) (h4:Cells b8 w A (mvBytes pA pB ms)) (h5:(mvBytes pA pB ms).length≤capA) (h6:capA≤9223372036854775807) :
  Calls Tryz.prog 10 #[litV a 1,.slice A (mvBytes pA pB ms).length capA] w fun e w'=>∃ gP capP xs gs,e=.returned (.tuple #[litV gP capP,.int .i64 0])∧PicOwn w' pB gP capP xs gs∧Chg [] w w':=by
 have h:=decode_ok 1 hA pB_ok pAB hp A capA ms h1 (best_ok h1 h2) h3 h4 h5 h6
 rw [litV_A] at h
 refine Calls.mono h ?_
 rintro e w' ⟨gP,capP,xs,gs,rfl,ho,ch,_⟩
 exact ⟨gP,capP,xs,gs,by rw [litV_B],ho,ch⟩
theorem kn_decB (hB:PicAt w pB a' 0 B' c' G') {A:Option Addr} {capA:Nat} {ms:List (Int × Int)} (h3:MvBits pA pB ms) (h4:Cells b8 w A (mvBytes pA pB ms)) (h5:(mvBytes pA pB ms).length≤capA) (h6:capA≤9223372036854775807) :
  Calls Tryz.prog 10 #[litV a' 1,.slice A (mvBytes pA pB ms).length capA] w fun e w'=>e=.returned (.tuple #[.agg #[.int .i64 0,.int .i64 0,.int .i64 0,.slice none 0 0],.int .i64 5])∧Chg [] w w':=by
 obtain ⟨k1,k2,k3⟩:=body_bounds pB_ok h3
 have e:mvBytes pA pB ms=mvBody pA pB ms++sumL pA (mvBody pA pB ms):=by unfold mvBytes;rfl
 rw [e] at h4 h5 ⊢
 have h:=decode_sum 1 hB A capA (mvBody pA pB ms) (sumL pA (mvBody pA pB ms)) k3 k1 k2 (sumL_len _ _) (sum_other k3) h4 h5 h6
 rw [litV_B] at h
 exact h
theorem kn_search (hA:PicAt w pA a 0 B c G) (hB:PicAt w pB a' 0 B' c' G'):Calls Tryz.prog 21 #[litV a 1,litV a' 1,.int .i64 0,.int .i64 0] w fun e w'=>e=.returned (.tuple #[.int .i64 0,.int .i64 0,.int .i64 14])∧Chg [] w w':=by
 have hg:gridL pB.W pB.H 8=[⟨0,0,3,1⟩]:=grid_lit
 have h1:=msearch_ok 1 hA 1 hB pAB 0 (by rw [hg];exact Nat.zero_lt_one) 0 0 (by rw [hg];rfl) (by rw [hg];rfl)
 rw [litV_A,litV_B] at h1
 refine Calls.mono h1 ?_
 rintro e w' ⟨dx,dy,c,s,rfl,hs,hx,hy,hb,ch⟩
 rw [hg] at hs
 simp at hs
 subst hs
 have hm:=mv_lit hb.ok
 have e1:dx=0:=congrArg Prod.fst hm
 have e2:dy=0:=congrArg Prod.snd hm
 subst e1
 subst e2
 have hc:=hb.cost
 rw [cost_AB] at hc
 subst hc
 exact ⟨rfl,ch⟩
theorem kn_alike (hA:PicAt w pA a 0 B c G) (hB:PicAt w pB a' 0 B' c' G'):Calls Tryz.prog 23 #[litV a 1,litV a' 1] w fun e w'=>e=.returned (.bool true)∧Chg [] w w':=by
 have h:=alike_yes 1 hA 1 hB pAB
 rw [litV_A,litV_B] at h
 exact h
theorem kn_none (hA:PicAt w pA a 0 B c G):Calls Tryz.prog 23 #[litV a 1,.agg #[.int .i64 0,.int .i64 0,.int .i64 0,.slice none 0 0]] w fun e w'=>e=.returned (.bool false)∧Chg [] w w':=by
 have h:=alike_zero 1 hA
 rw [litV_A] at h
 exact h
theorem kn_same {gP capP:Nat} {xs:List Value} {gs:List Nat} (ho:PicOwn w pB gP capP xs gs) (hB:PicAt w pB a' 0 B' c' G'):Calls Tryz.prog 11 #[litV gP capP,litV a' 1] w fun e w'=>e=.returned (.bool true)∧Chg [] w w':=by
 have h:=picSame_ok capP ho.at_ 1 hB rfl rfl rfl rfl
 rw [litV_B,litV_B] at h
 exact h
theorem bytes_AA:(mvBytes pA pA [(0,0)]).length=5:=by
 unfold mvBytes
 rw [body_AA,List.length_append,sumL_len]
 rfl
theorem bytes_A0:(mvBytes pA pA [(0,0)])[0]?=some 0:=by
 unfold mvBytes
 rw [body_AA]
 rfl
end
end Go.Proofs.YtijpbkakncglgaaGreatDoor
