/- model.Get by its contract. -/
import Derived.Test.YtijpbkakncglgaaGreatDoorMg20
set_option linter.unusedVariables false
set_option linter.unusedSimpArgs false
set_option maxHeartbeats 4000000
set_option maxRecDepth 100000
namespace Go.Proofs.YtijpbkakncglgaaGreatDoor
open Go.RowKit
theorem modelBits_pre (l:List Int) (W d:Nat):∀ (k i:Nat),∃ r,modelBits l W d (i+k)=modelBits l W d i++r
 | 0,i=>⟨[],by simp⟩
 | k+1,i=>by
  obtain ⟨r,hr⟩:=modelBits_pre l W d k i
  exact ⟨r++bitsAtM (modelTo l W d (i+k)) l W d (i+k),by rw [show i+(k+1)=(i+k)+1 by omega,modelBits,hr,List.append_assoc]⟩
theorem fill_smp {d:Nat} {l:List Int} (hs:SmpOk d l) (i n:Nat):SmpOk d (fillL (l.take i) n):=by
 intro s h
 unfold fillL at h
 rcases List.mem_append.1 h with h | h
 ·exact hs s (List.mem_of_mem_take h)
 ·rw [List.eq_of_mem_replicate h];exact ⟨Int.le_refl _,two_pow_pos' d⟩
theorem mget_ok (w:World) (b:Nat) (F ds:List Nat) (p:Nat) (l:List Int) (W H d:Nat) (h:IsRd w b F ds p) (hw0:1≤W) (hw1:W≤64) (hh0:1≤H) (hh1:H≤64) (h0:1≤d) (h1:d≤16) (hl:l.length=W*H) (hs:SmpOk d l) (ha:Ahead ds p (modelBits l W d (W*H))) :
  Calls Tryz.prog 78 #[.pointer (some ⟨b,0,none⟩),.int .i64 W,.int .i64 H,.int .i64 d] w fun e w'=>∃ v g,e=.returned (.tuple #[v,.int .i64 0])∧Row w' 3 v g (l.map vi)∧IsRd w' b F ds (p+(modelBits l W d (W*H)).length)∧Chg [b] w w'∧w.heap.size≤g:=by
 have hl4:l.length≤4096:=by rw [hl];exact Nat.mul_le_mul hw1 hh1
 obtain ⟨hp0,hp1⟩:=pow_d h0 h1
 have hmo:=fun i=>modelTo_ok l W h0 h1 hp1 i
 obtain ⟨n,hn⟩:∃ n,n=l.length:=⟨_,rfl⟩
 have hnW:n≤64*W:=by rw [hn,hl,Nat.mul_comm];exact Nat.mul_le_mul_right W hh1
 have hnI:(W:Int)*(H:Int)=(n:Int):=by rw [hn,hl];simp
 rw [←hl,←hn] at ha ⊢
 rw [←hn] at hl4
 have hmk:=run_make1 (P:=Tryz.prog) int_elem rfl .i64 .i64 n (by omega) (by omega)
 have t1:decide ((W:Int)<1)=false:=zA (by omega)
 have t2:decide ((64:Int)<(W:Int))=false:=zA (by omega)
 have t3:decide ((H:Int)<1)=false:=zA (by omega)
 have t4:decide ((64:Int)<(H:Int))=false:=zA (by omega)
 have hnew:=mnew_ok d w h0 h1
 have hbl:=h.lt b h.mem
 have hlt:=h.lt
 have HA:=hid ha
 have HMO:=hid hmo
 have HS:=hid hs
 have HN:=hid hn
 have HP:=hid hp1
 have HLT:=hid hlt
 clear hmo hs hn hl hp1 ha hlt
 go_enter Tryz.func78,Tryz.ntmps78
 go_wp2_with fail
 refine hnew.mono ?_
 rintro e w1 ⟨bm,rfl,hmd,ch1,hbm⟩
 have hr1:=h.same ch1
 have hrow0:=Row.zeros w1 n (by omega)
 obtain ⟨B,hB⟩:∃ B,B=w1.heap.size:=⟨_,rfl⟩
 have chA:Chg [] w1 (w1.alloc (.cells (List.replicate n (Value.int .i64 0)).toArray 3)):=(Chg.refl [] w1).alloc _
 have hmd0:=hmd.chg chA (by simp)
 have hr0:=hr1.same chA
 have hbmB:bm<B:=by rw [hB];exact hmd.lt
 rw [←hB] at hrow0
 have HB:=hid hB
 have HC1:=hid ch1
 clear hnew h hB hmd ch1
 go_wp2_with (go_at_call 60;refine (err_ok _ b F ds _ hr1).mono ?_;rintro e w' ⟨rfl,rfl⟩)
 rw [←HB.out]
 go_loopg [14,15,16,17,18,19,20,55] n (fun j va vb vc vd ve vf vg iv wr=>∃ (i p':Nat),iv=.int .i64 i∧i+j=n∧Row wr 3 (.slice (some ⟨B,0,none⟩) n n) B ((fillL (l.take i) n).map vi)∧IsRd wr b F ds p'∧Hid (p'=p+(modelBits l W d i).length)∧IsMd wr bm d (modelTo l W d i)∧Hid (Chg [b] w wr))
 case atStart=>exact ⟨0,p,rfl,by omega,by simpa using hrow0,hr0,hid (by simp [modelBits]),hmd0,hid ((HC1.out.trans chA (by simp)).mono (by simp))⟩
 case round =>
  clear hrow0 hr0 hmd0 chA hr1
  obtain ⟨i,p',rfl,hij,hrow,hrd,Hp,hmdr,HCH⟩:=hrel
  rcases gk with _ | j
  ·obtain rfl:n=i:=by omega
   have t5:decide (n<n)=false:=by simp
   have e:fillL (l.take n) n=l:=by
    have:=fill_all l
    rw [←HN.out] at this
    exact this
   rw [e] at hrow
   go_wp2_with fail
   go_ret2
   exact ⟨_,B,rfl,hrow,hrd.cast Hp.out,HCH.out,by have:=HB.out;have:=HC1.out.size;omega⟩
  ·have hin:i<n:=by omega
   have t5:decide (i<n)=true:=zB hin
   obtain ⟨x,hx⟩:∃ x,x=i%W:=⟨_,rfl⟩
   obtain ⟨y,hy⟩:∃ y,y=i / W:=⟨_,rfl⟩
   have hxW:x<W:=by rw [hx];exact Nat.mod_lt _ (by omega)
   have hyx:y*W+x=i:=by rw [hx,hy,Nat.mul_comm];exact Nat.div_add_mod i W
   have hnf:nbr (fillL (l.take i) n) W (i%W) (i / W)=nbr l W (i%W) (i / W):=by
    have:=nbr_fill (l:=l) hxW hyx (by rw [←HN.out];omega)
    rw [←HN.out,hx,hy] at this
    exact this
   clear hx hy hxW hyx
   have hlen:(fillL (l.take i) n).length=n:=fillL_len (by rw [List.length_take];omega)
   have hmok:=HMO.out i
   have hct:=ctxN_lt (nbr l W (i%W) (i / W)) d
   obtain ⟨r,hr⟩:=modelBits_pre l W d (n-(i+1)) (i+1)
   rw [show i+1+(n-(i+1))=n by omega] at hr
   have hnx:modelBits l W d (i+1)=modelBits l W d i++bitsAtM (modelTo l W d i) l W d i:=rfl
   have hnm:modelTo l W d (i+1)=nextM (modelTo l W d i) l W d i:=rfl
   have hA1:=HA.out
   rw [hr] at hA1
   have hA2:=hA1.left
   rw [hnx] at hA2
   have hA3:=hA2.right
   rw [←Hp.out] at hA3
   obtain ⟨m,hm⟩:∃ m,m=modelTo l W d i:=⟨_,rfl⟩
   rw [←hm] at hmdr hnx hnm hmok hA3
   have hlk:=look_ok' bm d m (fillL (l.take i) n) (some ⟨B,0,none⟩) n W i wr hmdr hmok h0 h1 hw0 hw1 (by rw [hlen];omega) (by omega) (fill_smp HS.out i n) hrow.toOwn.cells (by rw [hlen];exact hl4)
   have ec:ctxAt (fillL (l.take i) n) W d i=ctxAt l W d i:=by unfold ctxAt;rw [hnf]
   have et:turnAt (fillL (l.take i) n) W d i=turnAt l W d i:=by unfold turnAt;rw [hnf]
   have ep:predAt m (fillL (l.take i) n) W d i=predAt m l W d i:=by unfold predAt;rw [ec,et,hnf]
   rw [ec,et,ep,hlen] at hlk
   have hil:i<l.length:=by rw [←HN.out];exact hin
   have hxv:=getD_ok HS.out i
   have hpr:=guessM_ok (statAt m (ctxAt l W d i)) (guessI 7 (nbr l W (i%W) (i / W)) d) (turnAt l W d i) (d:=d) hp0
   have hpe:predAt m l W d i=guessM (statAt m (ctxAt l W d i)) (guessI 7 (nbr l W (i%W) (i / W)) d) (turnAt l W d i) d:=rfl
   rw [←hpe] at hpr
   have her:=errOf_range (l.getD i 0) (predAt m l W d i) (turnAt l W d i) h0
   have hew:=errOf_mid (l.getD i 0) (predAt m l W d i) (turnAt l W d i) h0 h1
   have her16:=errRange16 h1 her
   have hbk:=errOf_back (g:=predAt m l W d i) (turnAt l W d i) hxv.1 hxv.2
   have hee:errAt m l W d i=errOf (l.getD i 0) (predAt m l W d i) (turnAt l W d i) d:=rfl
   rw [←hee] at her hew hbk her16
   have hfe:=foldI_in h0 her.1 her.2
   have hbe:bitsAtM m l W d i=rbits (kOf (statAt m (ctxAt l W d i))) (errAt m l W d i):=rfl
   have hne:nextM m l W d i=m.set (ctxAt l W d i) (learnS (statAt m (ctxAt l W d i)) (errAt m l W d i)):=rfl
   rw [hbe] at hA3 hnx
   rw [hne] at hnm
   have hct':ctxAt l W d i<365:=hct
   have hkl:=kOf_le (statAt_mem hmok hct').2
   have htk:=take_snoc' l hil
   have hxg:l[i]=l.getD i 0:=by rw [zD,zF hil];rfl
   rw [hxg] at htk
   have hdn:(l.take i).length=i:=by rw [List.length_take];omega
   obtain ⟨hce,hfr⟩:=hrow.fill_cell (by rw [hdn];exact hin)
   have HROW:=hid hrow
   rw [hdn] at hce hfr
   generalize ctxAt l W d i=cx at *
   generalize predAt m l W d i=pr at *
   generalize turnAt l W d i=tb at *
   generalize errAt m l W d i=er at *
   obtain ⟨xv,hxv2⟩:∃ xv,xv=l.getD i 0:=⟨_,rfl⟩
   rw [←hxv2] at hbk htk hxv hee
   have hkk:=fun w h=>mk_ok bm d m cx w h hmok hct'
   generalize kOf (statAt m cx)=kk at *
   have hlearn:=fun w h=>learn_ok bm d m cx er w h hmok h0 h1 hct' her.1 her.2
   obtain ⟨hr0',hr1'⟩:=hpr
   have hr2:pr<65536:=Int.lt_of_lt_of_le hr1' HP.out
   have hgets:=fun w' (hq:IsRd w' b F ds p')=>rgets_ok w' b F ds p' kk [er] hq (by omega) (fun z hz=>by rw [List.mem_singleton.1 hz];exact hew) (by simp) (by simpa [rbitsAll] using hA3)
   have hfd:=fun w'=>fold_ok er d w' h0 h1
   rw [hfe] at hfd
   have hwp:=fun v w'=>wrap_ok v d w' h0 h1
   have t6:(er != er)=false:=by simp
   have HLN:=hid hlearn
   have HKK:=hid hkk
   have HNX:=hid hnx
   have HNM:=hid hnm
   have HTK:=hid htk
   have HDN:=hid hdn
   have HBK:=hid hbk
   have HGT:=hid hgets
   have HFD:=hid hfd
   have HWP:=hid hwp
   clear hlearn hkk hnx hnm hee hm hpe hct hxg hbe hne hmok her hbk hgets hfd hwp hfe hew hA1 hA2 hA3 hr hnf hlen ec et ep hxv2 hrow htk hdn hil hce hfr hxv hr1'
   go_wp2_with fail
   refine hlk.mono ?_
   rintro e w2 ⟨rfl,ch2⟩
   have hrd2:=hrd.same ch2
   have hmd2:=hmdr.chg ch2 (by simp)
   clear hlk hrd hmdr
   go_wp2_with fail
   refine (HKK.out _ hmd2).mono ?_
   rintro e w3 ⟨rfl,n3,rfl⟩
   have hg1:=HGT.out _ (hrd2.same ((Chg.refl [] w2).drewN n3))
   rw [show (([er]:List Int).length:Int)=1 from rfl] at hg1
   go_wp2_with fail
   refine hg1.mono ?_
   rintro e w4 ⟨v4,G4,rfl,own4,hrd4,ch4,hG4⟩
   rcases own4.cases with ⟨_,hnil,_⟩ | ⟨g4,row4,rfl⟩
   ·exfalso
    have:=congrArg List.length hnil
    simp at this
   obtain ⟨c4,rfl,_,_,hcell4,_⟩:=row4.open_map
   have e0:=hcell4 0 er rfl
   have e0':w4.cell? ⟨g4,0,none⟩=some (.int .i64 er):=e0
   have hbbm:b∉[bm]:=by have:=HC1.out.size;simp;omega
   have hmd4:=(hmd2.chg ((Chg.refl [] w2).drewN n3) (by simp)).chg ch4 (by simp;omega)
   have hch04:=hid (((HCH.out.trans ch2 (by simp)).drewN n3).trans_same ch4)
   have hrow4:=((HROW.out.chg ch2 (by simp)).drewN n3).chg ch4 (by have:=HB.out;have:=HC1.out.size;simp;omega)
   have hlr:=HLN.out w4 hmd4
   have hfd4:=HFD.out w4
   rw [show (([er]:List Int).length)=1 from rfl]
   clear own4 row4 hcell4 e0 hmd2 hrd2 ch2 ch4 hg1 hG4 hmd4
   go_wp2_with (go_at_call 67;refine hfd4.mono ?_;rintro e w' ⟨rfl,rfl⟩)
   refine hlr.mono ?_
   rintro e w5 ⟨rfl,hmd5,ch5⟩
   have hrow5:=hrow4.chg ch5 (by simp;omega)
   obtain ⟨hce,hfr⟩:=hrow5.fill_cell (by rw [HDN.out];exact hin)
   have hfill:=hrow5.fill (by rw [HDN.out];exact hin) xv
   rw [HDN.out] at hce hfr hfill
   have HFI:=hid hfill
   have hrd5:=hrd4.chg ch5 (fun z hz hm=>by simp at hm;have:=HLT.out z hz;have:=HC1.out.size;omega)
   have hch05:=hid (hch04.out.trans ch5 (fun z hz => .inr (by simp at hz;omega)))
   have hst:Chg [B] w5 (w5.setCell ⟨B,i,none⟩ (.int .i64 xv)):=(Chg.refl _ _).setCell (.inl (by simp)) _
   have hBF:∀ z∈F,z∉[B]:=fun z hz hm=>by simp at hm;have:=HLT.out z hz;have:=HC1.out.size;have:=HB.out;omega
   have HBF:=hid hBF
   clear hlr hrow4 hrow5 hfill hrd4 ch5 hfd4 hBF
   cases tb with
   | false =>
    have hbk:wrapI (pr+er) d=xv:=HBK.out
    have hw:=HWP.out (pr+er)
    rw [hbk] at hw
    go_wp2_with (go_at_call 50;refine (hw _).mono ?_;rintro e w' ⟨rfl,rfl⟩)
    go_roundg j
    case measure=>omega
    case rel =>
     refine ⟨i+1,p'+(rbitsAll kk [er]).length,by go_num,by omega,?_,hrd5.chg hst HBF.out,hid ?_,?_,hid (hch05.out.trans hst (fun z hz => .inr (by simp at hz;have:=HB.out;have:=HC1.out.size;omega)))⟩
     ·rw [HTK.out];exact HFI.out
     ·rw [HNX.out,zC,Hp.out];simp [rbitsAll];omega
     ·rw [HNM.out];exact hmd5.chg hst (by simp;omega)
   | true =>
    have hbk:wrapI (pr + -er) d=xv:=HBK.out
    have hw:=HWP.out (pr + -er)
    rw [hbk] at hw
    go_wp2_with (go_at_call 50;refine (hw _).mono ?_;rintro e w' ⟨rfl,rfl⟩)
    go_roundg j
    case measure=>omega
    case rel =>
     refine ⟨i+1,p'+(rbitsAll kk [er]).length,by go_num,by omega,?_,hrd5.chg hst HBF.out,hid ?_,?_,hid (hch05.out.trans hst (fun z hz => .inr (by simp at hz;have:=HB.out;have:=HC1.out.size;omega)))⟩
     ·rw [HTK.out];exact HFI.out
     ·rw [HNX.out,zC,Hp.out];simp [rbitsAll];omega
     ·rw [HNM.out];exact hmd5.chg hst (by simp;omega)
def TokAt (l:List Int) (i:Nat) (t:Tok):Prop :=
 (t.len=0∧t.dist=0∧t.lit=l.getD i 0)∨(1≤t.len∧i+t.len≤l.length∧1≤t.dist∧t.dist≤i∧∀ j,j<t.len→l.getD (i+j) 0=l.getD (i+j-t.dist) 0)
def RunsAt (l:List Int) (k:Nat) (rs:List Nat):Prop:=∀ d,1≤d→d≤k→∀ j,j<rs.getD d 0→l.getD (k+j) 0=l.getD (k+j-d) 0
structure DInv (l:List Int) (k:Nat) (rs:List Nat) (d:Nat) (s:DSt):Prop where
 r1:∀ e,1≤e→e<d→∀ j,j<s.runs.getD e 0→l.getD (k+j) 0=l.getD (k+j-e) 0
 r2:∀ e,d≤e→s.runs.getD e 0=rs.getD e 0
 dd:∀ m,s.dists.getD m 0≠0→s.dists.getD m 0<d∧m≤s.runs.getD (s.dists.getD m 0) 0
theorem fillD_get:∀ f D m d n,(fillD f D m d).getD n 0=D.getD n 0∨((fillD f D m d).getD n 0=d∧m<n∧n≤m+f)
 | 0,_,_,_,_ => .inl rfl
 | f+1,D,m,d,n=>by
  rw [fillD]
  rcases fillD_get f (D.set (m+1) d) (m+1) d n with h | ⟨h,h1,h2⟩
  ·rw [h,getD_set]
   split
   ·exact .inr ⟨rfl,by omega,by omega⟩
   ·exact .inl rfl
  ·exact .inr ⟨h,by omega,by omega⟩
theorem runAt_good {l:List Int} {k d:Nat} {rs rs0:List Nat} (h:RunsAt l (k+1) rs0) (e:rs.getD d 0=rs0.getD d 0) (h1:1≤d) (h2:d≤k):∀ j,j<runAt l k rs d→l.getD (k+j) 0=l.getD (k+j-d) 0:=by
 intro j hj
 unfold runAt at hj
 split at hj
 ·rename_i hq
  cases j with
  | zero=>exact hq
  | succ j =>
   have:=h d h1 (by omega) j (by rw [←e];omega)
   rw [show k+(j+1)=k+1+j by omega]
   exact this
 ·omega
theorem dStep_inv {l:List Int} {k d:Nat} {rs:List Nat} {s:DSt} (hr:RunsAt l (k+1) rs) (hs:s.Ok) (h:DInv l k rs d s) (h1:1≤d) (h2:d≤k) (h3:d≤1024):DInv l k rs (d+1) (dStep l k s d):=by
 have hg:=runAt_good (rs:=s.runs) hr (h.r2 d (Nat.le_refl _)) h1 h2
 have hlen:d<s.runs.length:=by rw [hs.rl];omega
 refine ⟨fun e he1 he2 j hj => ?_,fun e he => ?_,fun m hm => ?_⟩
 ·have hj':j<(s.runs.set d (runAt l k s.runs d)).getD e 0:=hj
  rw [getD_set] at hj'
  split at hj'
  ·rename_i hq
   obtain ⟨rfl,_⟩:=hq
   exact hg j hj'
  ·rename_i hq
   exact h.r1 e he1 (by
    have:¬ d=e:=fun hh=>hq ⟨hh,hlen⟩
    omega) j hj'
 ·show (s.runs.set d (runAt l k s.runs d)).getD e 0=_
  rw [getD_set,if_neg (by omega)]
  exact h.r2 e (by omega)
 ·have hm':(fillD (runAt l k s.runs d-s.longest) s.dists s.longest d).getD m 0≠0:=hm
  show (fillD (runAt l k s.runs d-s.longest) s.dists s.longest d).getD m 0<d+1∧m≤(s.runs.set d (runAt l k s.runs d)).getD ((fillD (runAt l k s.runs d-s.longest) s.dists s.longest d).getD m 0) 0
  rcases fillD_get (runAt l k s.runs d-s.longest) s.dists s.longest d m with e | ⟨e,e1,e2⟩
  ·rw [e] at hm' ⊢
   obtain ⟨q1,q2⟩:=h.dd m hm'
   refine ⟨by omega,?_⟩
   rw [getD_set,if_neg (by omega)]
   exact q2
  ·rw [e]
   refine ⟨by omega,?_⟩
   rw [getD_set,if_pos ⟨rfl,hlen⟩]
   omega
theorem dGo_inv {l:List Int} {k:Nat} {rs:List Nat} (hr:RunsAt l (k+1) rs):∀ f d s,s.Ok→DInv l k rs d s→1≤d→d+f≤k+1→d+f≤1025→DInv l k rs (d+f) (dGo l k f d s)
 | 0,_,_,_,h,_,_,_=>h
 | f+1,d,s,ho,h,h1,h2,h3=>by
  have:=dGo_inv hr f (d+1) _ (dStep_ok (l:=l) (at_:=k) ho (by omega)) (dStep_inv hr ho h h1 (by omega) (by omega)) (by omega) (by omega) (by omega)
  rw [show d+(f+1)=d+1+f by omega]
  exact this
theorem distF_inv {l:List Int} {k:Nat} {rs:List Nat} (hr:RunsAt l (k+1) rs) (ho:RunsOk rs):DInv l k rs (1+min k 1024) (distF l k rs):=by
 refine dGo_inv hr _ _ _ (dStart_ok ho) ⟨fun e h1 h2=>by omega,fun e _=>rfl,fun m hm => ?_⟩ (by omega) (by omega) (by omega)
 exfalso
 apply hm
 show (List.replicate 65 0).getD m 0=0
 rw [zD,List.getElem?_replicate]
 split<;>rfl
theorem getD_far {l:List Nat} {i:Nat} (h:l.length≤i):l.getD i 0=0:=by
 rw [zD,List.getElem?_eq_none h];rfl
theorem distF_runs {l:List Int} {k:Nat} {rs:List Nat} (hr:RunsAt l (k+1) rs) (ho:RunsOk rs):RunsAt l k (distF l k rs).runs:=by
 intro d h1 h2 j hj
 have hi:=distF_inv hr ho
 by_cases h3:d≤1024
 ·exact hi.r1 d h1 (by omega) j hj
 ·rw [getD_far (by rw [(distF_ok ho).rl];omega)] at hj
  omega
theorem tokAt_set {F:List Tok} {i j:Nat} {t:Tok}:tokAt (F.set i t) j=if i=j∧i<F.length then t else tokAt F j:=by
 unfold tokAt
 rw [zD,zD,List.getElem?_set]
 by_cases h:i=j
 ·subst h
  by_cases h2:i<F.length
  ·simp [h2]
  ·simp [h2]
 ·simp [h]
def FirstAt (l:List Int) (k:Nat) (F:List Tok):Prop:=F.length=l.length∧∀ i,k≤i→i<l.length→TokAt l i (tokAt F i)
theorem lOne_first {l:List Int} {cp k n:Nat} {D:List Nat} {p:List Nat × List Tok} (hD:D.getD n 0≠0→3≤n→TokAt l k ⟨n,D.getD n 0,0⟩) (h:FirstAt l k p.2):FirstAt l k (lOne cp k D n p).2:=by
 unfold lOne
 split
 ·exact h
 ·rename_i hq
  split
  ·refine ⟨by rw [List.length_set];exact h.1,fun i h1 h2 => ?_⟩
   rw [tokAt_set]
   split
   ·rename_i he
    obtain ⟨rfl,_⟩:=he
    exact hD (by omega) (by omega)
   ·exact h.2 i h1 h2
  ·exact h
theorem lPick_first {l:List Int} {cp k:Nat} {D:List Nat} (hD:∀ n,D.getD n 0≠0→3≤n→TokAt l k ⟨n,D.getD n 0,0⟩):∀ f m p,FirstAt l k p.2→FirstAt l k (lPick cp k D f m p).2
 | 0,_,_,h=>h
 | f+1,m,p,h=>lPick_first hD f (m+1) _ (lOne_first (hD m) h)
theorem lStep_at {l:List Int} {lit cp k:Nat} {s:LSt} (ho:s.Ok l.length lit (k+1)) (hk:k<l.length) (hr:RunsAt l (k+1) s.runs) (hf:FirstAt l (k+1) s.first):RunsAt l k (lStep l lit cp k s).runs∧FirstAt l k (lStep l lit cp k s).first:=by
 have hro:RunsOk s.runs:=⟨ho.rl,fun x hx=>(ho.rb x hx).1⟩
 have hin:=distF_in (l:=l) (at_:=k) (rs:=s.runs) (B:=l.length-(k+1)) (fun x hx=>(ho.rb x hx).2)
 have hiv:=distF_inv hr hro
 refine ⟨distF_runs hr hro,lPick_first (fun n hn h3 => ?_) 65 0 _ ?_⟩
 ·obtain ⟨h1,h2⟩:=hiv.dd n hn
  have h4:=hin.db n hn
  have h5:=hin.lb
  refine .inr ⟨by simp only;omega,by simp only;omega,by simp only;omega,by simp only;omega,fun j hj => ?_⟩
  exact hiv.r1 _ (by omega) h1 j (by simp only at hj;omega)
 ·refine ⟨by show (s.first.set k _).length=_;rw [List.length_set];exact hf.1,fun i h1 h2 => ?_⟩
  show TokAt l i (tokAt (s.first.set k _) i)
  rw [tokAt_set]
  split
  ·rename_i he
   obtain ⟨rfl,_⟩:=he
   exact .inl ⟨rfl,rfl,rfl⟩
  ·rename_i he
   exact hf.2 i (by
    have:¬ k=i:=fun hh=>he ⟨hh,by rw [hf.1];exact hk⟩
    omega) h2
theorem lGo_at {l:List Int} {lit cp:Nat}:∀ k s,s.Ok l.length lit k→k≤l.length→RunsAt l k s.runs→FirstAt l k s.first→FirstAt l 0 (lGo l lit cp k s).first
 | 0,_,_,_,_,h=>h
 | k+1,s,ho,hk,hr,hf=>by
  obtain ⟨h1,h2⟩:=lStep_at (cp:=cp) ho (by omega) hr hf
  exact lGo_at k _ (lStep_ok ho (by omega)) (by omega) h1 h2
theorem leastSt_at (l:List Int) (lit cp:Nat):FirstAt l 0 (leastSt l lit cp).first:=by
 refine lGo_at _ _ (lStart_ok _ _) (Nat.le_refl _) (fun d _ _ j hj => ?_) ⟨List.length_replicate,fun i h1 h2=>by omega⟩
 exfalso
 have:(List.replicate 1025 0).getD d 0=0:=by
  rw [zD,List.getElem?_replicate]
  split<;>rfl
 have hj':j<(List.replicate 1025 0).getD d 0:=hj
 omega
def ToksFrom (l:List Int):Nat→List Tok→Prop
 | i,[]=>l.length≤i
 | i,t::T=>i<l.length∧TokAt l i t∧ToksFrom l (i+max t.len 1) T
theorem tokGo_from {l:List Int} {F:List Tok} (h:FirstAt l 0 F):∀ f i,l.length≤i+f→ToksFrom l i (tokGo F l.length f i)
 | 0,i,hi=>by simpa [tokGo,ToksFrom] using hi
 | f+1,i,hi=>by
  unfold tokGo
  split
  ·rename_i hl
   exact ⟨hl,h.2 i (Nat.zero_le _) hl,tokGo_from h f _ (by omega)⟩
  ·show l.length≤i
   omega
theorem leastF_from (l:List Int) (lit cp:Nat):ToksFrom l 0 (leastF l lit cp):=tokGo_from (leastSt_at l lit cp) _ _ (by omega)
theorem possible_yes (W H d n:Nat) (w:World) (w0:1≤W) (w1:W≤64) (h0:1≤H) (h1:H≤64) (d0:1≤d) (d1:d≤16) (n0:1≤n) (n1:n≤4) :
  Calls Tryz.prog 58 #[.int .i64 W,.int .i64 H,.int .i64 d,.int .i64 n] w fun e w'=>e=.returned (.bool true)∧w=w':=by
 have t1:decide ((1:Int)≤(W:Int))=true:=zB (by omega)
 have t2:decide ((W:Int)≤64)=true:=zB (by omega)
 have t3:decide ((1:Int)≤(H:Int))=true:=zB (by omega)
 have t4:decide ((H:Int)≤64)=true:=zB (by omega)
 have t5:decide ((1:Int)≤(d:Int))=true:=zB (by omega)
 have t6:decide ((d:Int)≤16)=true:=zB (by omega)
 have t7:decide ((1:Int)≤(n:Int))=true:=zB (by omega)
 have t8:decide ((n:Int)≤4)=true:=zB (by omega)
 clear w0 w1 h0 h1 d0 d1 n0 n1
 go_enter Tryz.func58,Tryz.ntmps58
 go_wp2
 go_ret
 exact ⟨rfl,rfl⟩
theorem possible_zero (w:World):Calls Tryz.prog 58 #[.int .i64 0,.int .i64 0,.int .i64 0,.int .i64 0] w fun e w'=>e=.returned (.bool false)∧w=w':=by
 go_enter Tryz.func58,Tryz.ntmps58
 go_wp2
 go_ret
 exact ⟨rfl,rfl⟩
theorem is_zero (w:World):Calls Tryz.prog 32 #[.agg #[.int .i64 0,.int .i64 0,.int .i64 0,.slice none 0 0]] w fun e w'=>e=.returned (.bool false)∧Chg [] w w':=by
 have hp:=fun w'=>possible_zero w'
 go_enter Tryz.func32,Tryz.ntmps32
 go_wp2_with fail
 refine (hp _).mono ?_
 rintro e w' ⟨rfl,rfl⟩
 go_wp2
 go_ret
 exact ⟨rfl,(Chg.refl [] w).alloc _⟩
theorem is_yes {w:World} {p:PicD} {g o:Nat} {B:Nat→Option Addr} {c:Nat→Nat} {G:List Nat} (cap:Nat) (h:PicAt w p g o B c G) :
  Calls Tryz.prog 32 #[picV p g o cap] w fun e w'=>e=.returned (.bool true)∧Chg [] w w':=by
 obtain ⟨W,hW⟩:∃ W,W=p.W:=⟨_,rfl⟩
 obtain ⟨H,hH⟩:∃ H,H=p.H:=⟨_,rfl⟩
 obtain ⟨d,hd⟩:∃ d,d=p.d:=⟨_,rfl⟩
 obtain ⟨n,hn⟩:∃ n,n=p.P.length:=⟨_,rfl⟩
 obtain ⟨N,hN⟩:∃ N,N=W*H:=⟨_,rfl⟩
 have eN:(W:Int)*(H:Int)=(N:Int):=by rw [hN];simp
 have hok:=h.ok
 have hp:=possible_yes W H d n
 have hpy:=fun w'=>hp w' (by rw [hW];exact hok.w0) (by rw [hW];exact hok.w1) (by rw [hH];exact hok.h0) (by rw [hH];exact hok.h1) (by rw [hd];exact hok.d0) (by rw [hd];exact hok.d1) (by rw [hn];exact hok.n0) (by rw [hn];exact hok.n1)
 have hN4:N≤4096:=by rw [hN,hW,hH];exact hok.area
 have hn4:n≤4:=by rw [hn];exact hok.n1
 have hd0:1≤d:=by rw [hd];exact hok.d0
 have hd1:d≤16:=by rw [hd];exact hok.d1
 have hcel:∀ w',Chg [] w w'→∀ i,i<n→∃ b q,w'.cell? ⟨g,o+i,none⟩=some (.slice (some ⟨b,q,none⟩) N (c i))∧∀ k,k<N→∃ s:Int,w'.cell? ⟨b,q+k,none⟩=some (.int .i64 s)∧0≤s∧s<2^d:=by
  intro w' hc i hi
  have h':=h.same hc
  rw [hn] at hi
  obtain ⟨b,q,e,hb,hk⟩:=h'.at_ hi
  have hce:=h'.cell i hi
  rw [e,←hW,←hH,←hN] at hce
  refine ⟨b,q,hce,fun k hk'=>⟨_,hk k (by rw [←hW,←hH,←hN];exact hk'),?_⟩⟩
  rw [hd]
  exact getD_smp (h'.ok.smp _ (by rw [zD,zF hi];exact zG hi)) k
 unfold picV
 rw [←hW,←hH,←hd,←hn]
 obtain ⟨w1,hw1⟩:∃ w1,w1=w.alloc (.cells #[.int .i64 W,.int .i64 H,.int .i64 d,.slice (some ⟨g,o,none⟩) n cap] 25):=⟨_,rfl⟩
 have ch1:Chg [] w w1:=by rw [hw1];exact (Chg.refl [] w).alloc _
 obtain ⟨bb,hbb⟩:∃ bb,bb=w.heap.size:=⟨_,rfl⟩
 have hbk:Blk w1 bb 25 #[.int .i64 W,.int .i64 H,.int .i64 d,.slice (some ⟨g,o,none⟩) n cap]:=by rw [hw1,hbb];exact Blk.new w _ _
 have b0:=hbk.cell 0
 have b1:=hbk.cell 1
 have b2:=hbk.cell 2
 have b3:=hbk.cell 3
 simp at b0 b1 b2 b3
 obtain ⟨hpw0,hpw1⟩:=pow_d hd0 hd1
 have HW1:=hid hw1
 have HBB:=hid hbb
 have HC:=hid hcel
 have HCH:=hid ch1
 clear hW hH hd hn hN hok hp hcel hw1 hbb hbk ch1 h
 go_enter Tryz.func32,Tryz.ntmps32
 go_wp2_with fail
 rw [←HW1.out,←HBB.out]
 refine (hpy _).mono ?_
 rintro e w' ⟨rfl,rfl⟩
 go_wp2_with fail
 go_loopg [21] n (fun j iv wr=>∃ i:Nat,iv=.int .i64 i∧i+j=n∧w1=wr)
 case atStart=>exact ⟨0,rfl,by omega,rfl⟩
 case round =>
  obtain ⟨i,rfl,hij,rfl⟩:=hrel
  rcases gk with _ | j
  ·obtain rfl:i=n:=by omega
   have t1:decide (i<i)=false:=by simp
   go_wp2
   go_ret
   exact ⟨rfl,HCH.out⟩
  ·have hi:i<n:=by omega
   obtain ⟨b,q,hce,hk⟩:=HC.out _ HCH.out i hi
   have HK:=hid hk
   have t2:((N:Int) != (N:Int))=false:=by simp
   clear hk
   go_wp2_with fail
   go_loopg [35] N (fun j2 kv wr=>∃ k:Nat,kv=.int .i64 k∧k+j2=N∧w1=wr)
   case atStart=>exact ⟨0,rfl,by omega,rfl⟩
   case round =>
    obtain ⟨k,rfl,hkj,rfl⟩:=hrel
    rcases gk with _ | j2
    ·obtain rfl:k=N:=by omega
     go_wp2
     go_roundg j
     case measure=>omega
     case rel=>exact ⟨i+1,by go_num,by omega,rfl⟩
    ·have hkN:k<N:=by omega
     obtain ⟨s,hcs,hs0,hs1⟩:=HK.out k hkN
     have t3:decide (s<0)=false:=zA (by omega)
     have t4:decide ((2:Int)^d≤s)=false:=zA (by omega)
     go_wp2
     go_roundg j2
     case measure=>omega
     case rel=>exact ⟨k+1,by go_num,by omega,rfl⟩
theorem alike_yes {w:World} {p q:PicD} {g o:Nat} {B:Nat→Option Addr} {c:Nat→Nat} {G:List Nat} (cap:Nat) (h:PicAt w p g o B c G)
  {g' o':Nat} {B':Nat→Option Addr} {c':Nat→Nat} {G':List Nat} (cap':Nat) (h':PicAt w q g' o' B' c' G') (ha:AlikeD p q) :
  Calls Tryz.prog 23 #[picV p g o cap,picV q g' o' cap'] w fun e w'=>e=.returned (.bool true)∧Chg [] w w':=by
 have hia:=fun w' (hc:Chg [] w w')=>is_yes cap (h.same hc)
 have hib:=fun w' (hc:Chg [] w w')=>is_yes cap' (h'.same hc)
 unfold picV at hia hib ⊢
 rw [←ha.W,←ha.H,←ha.d,←ha.n] at hib ⊢
 obtain ⟨W,hW⟩:∃ W,W=p.W:=⟨_,rfl⟩
 obtain ⟨H,hH⟩:∃ H,H=p.H:=⟨_,rfl⟩
 obtain ⟨d,hd⟩:∃ d,d=p.d:=⟨_,rfl⟩
 obtain ⟨n,hn⟩:∃ n,n=p.P.length:=⟨_,rfl⟩
 rw [←hW,←hH,←hd,←hn] at hia hib ⊢
 obtain ⟨w1,hw1⟩:∃ w1,w1=(w.alloc (.cells #[.int .i64 W,.int .i64 H,.int .i64 d,.slice (some ⟨g,o,none⟩) n cap] 25)).alloc (.cells #[.int .i64 W,.int .i64 H,.int .i64 d,.slice (some ⟨g',o',none⟩) n cap'] 25):=⟨_,rfl⟩
 have ch1:Chg [] w w1:=by rw [hw1];exact ((Chg.refl [] w).alloc _).alloc _
 obtain ⟨bb,hbb⟩:∃ bb,bb=w.heap.size:=⟨_,rfl⟩
 have hbk:Blk w1 bb 25 #[.int .i64 W,.int .i64 H,.int .i64 d,.slice (some ⟨g,o,none⟩) n cap]:=by rw [hw1,hbb];exact (Blk.new w _ _).alloc _
 have hbk2:Blk w1 (bb+1) 25 #[.int .i64 W,.int .i64 H,.int .i64 d,.slice (some ⟨g',o',none⟩) n cap']:=by rw [hw1,hbb];exact Blk.new2 w _ _ _
 have HW1:=hid hw1
 have HBB:=hid hbb
 have HB1:=hid hbk
 have HB2:=hid hbk2
 have HCH:=hid ch1
 have HIA:=hid hia
 have HIB:=hid hib
 clear hW hH hd hn hw1 hbb hbk hbk2 ch1 h h' hia hib ha
 go_enter Tryz.func23,Tryz.ntmps23
 go_wp2_with fail
 rw [←HW1.out]
 refine (HIA.out w1 HCH.out).mono ?_
 rintro e w2 ⟨rfl,ch2⟩
 have HCH2:=hid (HCH.out.trans_same ch2)
 have d0:=(HB2.out.chg ch2 (by simp)).cell 0
 have d1:=(HB2.out.chg ch2 (by simp)).cell 1
 have d2:=(HB2.out.chg ch2 (by simp)).cell 2
 have d3:=(HB2.out.chg ch2 (by simp)).cell 3
 simp at d0 d1 d2 d3
 rw [HBB.out] at d0 d1 d2 d3
 go_wp2_with fail
 refine (HIB.out w2 HCH2.out).mono ?_
 rintro e w3 ⟨rfl,ch3⟩
 have HCH3:=hid (HCH2.out.trans_same ch3)
 have c0:=((HB1.out.chg ch2 (by simp)).chg ch3 (by simp)).cell 0
 have c1:=((HB1.out.chg ch2 (by simp)).chg ch3 (by simp)).cell 1
 have c2:=((HB1.out.chg ch2 (by simp)).chg ch3 (by simp)).cell 2
 have c3:=((HB1.out.chg ch2 (by simp)).chg ch3 (by simp)).cell 3
 have d0:=((HB2.out.chg ch2 (by simp)).chg ch3 (by simp)).cell 0
 have d1:=((HB2.out.chg ch2 (by simp)).chg ch3 (by simp)).cell 1
 have d2:=((HB2.out.chg ch2 (by simp)).chg ch3 (by simp)).cell 2
 have d3:=((HB2.out.chg ch2 (by simp)).chg ch3 (by simp)).cell 3
 simp at c0 c1 c2 c3 d0 d1 d2 d3
 rw [HBB.out] at c0 c1 c2 c3 d0 d1 d2 d3
 clear ch2 ch3
 go_wp2
 go_ret
 exact ⟨rfl,HCH3.out⟩
theorem alike_zero {w:World} {p:PicD} {g o:Nat} {B:Nat→Option Addr} {c:Nat→Nat} {G:List Nat} (cap:Nat) (h:PicAt w p g o B c G) :
  Calls Tryz.prog 23 #[picV p g o cap,.agg #[.int .i64 0,.int .i64 0,.int .i64 0,.slice none 0 0]] w fun e w'=>e=.returned (.bool false)∧Chg [] w w':=by
 have hia:=fun w' (hc:Chg [] w w')=>is_yes cap (h.same hc)
 have hiz:=fun w'=>is_zero w'
 unfold picV at hia ⊢
 obtain ⟨W,hW⟩:∃ W,W=p.W:=⟨_,rfl⟩
 obtain ⟨H,hH⟩:∃ H,H=p.H:=⟨_,rfl⟩
 obtain ⟨d,hd⟩:∃ d,d=p.d:=⟨_,rfl⟩
 obtain ⟨n,hn⟩:∃ n,n=p.P.length:=⟨_,rfl⟩
 rw [←hW,←hH,←hd,←hn] at hia ⊢
 obtain ⟨w1,hw1⟩:∃ w1,w1=(w.alloc (.cells #[.int .i64 W,.int .i64 H,.int .i64 d,.slice (some ⟨g,o,none⟩) n cap] 25)).alloc (.cells #[.int .i64 0,.int .i64 0,.int .i64 0,.slice none 0 0] 25):=⟨_,rfl⟩
 have ch1:Chg [] w w1:=by rw [hw1];exact ((Chg.refl [] w).alloc _).alloc _
 have hbk2:Blk w1 (w.heap.size+1) 25 #[.int .i64 0,.int .i64 0,.int .i64 0,.slice none 0 0]:=by rw [hw1];exact Blk.new2 w _ _ _
 have HW1:=hid hw1
 have HB2:=hid hbk2
 have HCH:=hid ch1
 have HIA:=hid hia
 clear hW hH hd hn hw1 hbk2 ch1 h hia
 go_enter Tryz.func23,Tryz.ntmps23
 go_wp2_with fail
 rw [←HW1.out]
 refine (HIA.out w1 HCH.out).mono ?_
 rintro e w2 ⟨rfl,ch2⟩
 have HCH2:=hid (HCH.out.trans_same ch2)
 have d0:=(HB2.out.chg ch2 (by simp)).cell 0
 have d1:=(HB2.out.chg ch2 (by simp)).cell 1
 have d2:=(HB2.out.chg ch2 (by simp)).cell 2
 have d3:=(HB2.out.chg ch2 (by simp)).cell 3
 simp at d0 d1 d2 d3
 go_wp2_with fail
 refine (hiz w2).mono ?_
 rintro e w3 ⟨rfl,ch3⟩
 have HCH3:=hid (HCH2.out.trans_same ch3)
 clear ch2 ch3
 go_wp2
 go_ret
 exact ⟨rfl,HCH3.out⟩
theorem alloc_size' (w:World) (o:Obj):(w.alloc o).heap.size=w.heap.size+1:=by
 show (w.heap.push o).size=_
 exact Array.size_push _
def revK (i a b c d:Nat):List Nat:=if i=0 then [a,b,c,d] else if i=1 then [d,b,c,a] else [d,c,b,a]
theorem rev4_ok (w:World) (g a b c d cap:Nat) (h:Row w 5 (.slice (some ⟨g,0,none⟩) 4 cap) g ([a,b,c,d].map b8)) :
  Calls Tryz.prog 73 #[.slice (some ⟨g,0,none⟩) 4 cap] w fun e w'=>e=.returned (.tuple #[])∧Row w' 5 (.slice (some ⟨g,0,none⟩) 4 cap) g ([d,c,b,a].map b8)∧Chg [g] w w':=by
 have HH:=hid h
 clear h
 go_enter Tryz.func73,Tryz.ntmps73
 go_wp2_with fail
 go_loopg [2,3] 2 (fun k s2 s3 wr=>∃ i:Nat,i+k=2∧s2=.int .i64 i∧s3=.int .i64 (3-(i:Int))∧Hid (Row wr 5 (.slice (some ⟨g,0,none⟩) 4 cap) g ((revK i a b c d).map b8))∧Hid (Chg [g] w wr))
 case atStart=>exact ⟨0,rfl,rfl,rfl,hid HH.out,hid (Chg.refl _ _)⟩
 case round =>
  obtain ⟨i,hik,rfl,rfl,HR,HC⟩:=hrel
  rcases (show i=0∨i=1∨i=2 by omega) with rfl | rfl | rfl
  ·obtain ⟨_,_,_,_,hce,hfr⟩:=HR.out.open_
   have c0:=hce 0 (by simp [revK])
   have c3:=hce 3 (by simp [revK])
   have f0:=hfr 0
   have f3:=hfr 3
   simp [revK,b8] at c0 c3
   obtain rfl:gk=2:=by omega
   have hrow:Row ((wr.setCell ⟨g,0,none⟩ (.int .u8 d)).setCell ⟨g,3,none⟩ (.int .u8 a)).drew 5 (.slice (some ⟨g,0,none⟩) 4 cap) g ((revK 1 a b c d).map b8) :=
    ((HR.out.set_ (i:=0) (by simp [revK]) (.int .u8 d)).set_ (i:=3) (by simp [revK]) (.int .u8 a)).drew
   have HROW:=hid hrow
   have HCH:=hid (((HC.out.setCell (p:=⟨g,0,none⟩) (.inl (by simp)) (.int .u8 d)).setCell (p:=⟨g,3,none⟩) (.inl (by simp)) (.int .u8 a)).drew)
   clear hce hfr hik hrow
   go_wp2_with fail
   go_region
   go_wp2
   go_roundg 1
   case measure=>omega
   case rel=>exact ⟨1,rfl,by go_num,by go_num,HROW,HCH⟩
  ·obtain ⟨_,_,_,_,hce,hfr⟩:=HR.out.open_
   have c1:=hce 1 (by simp [revK])
   have c2:=hce 2 (by simp [revK])
   have f1:=hfr 1
   have f2:=hfr 2
   simp [revK,b8] at c1 c2
   obtain rfl:gk=1:=by omega
   have hrow:Row ((wr.setCell ⟨g,1,none⟩ (.int .u8 c)).setCell ⟨g,2,none⟩ (.int .u8 b)).drew 5 (.slice (some ⟨g,0,none⟩) 4 cap) g ((revK 2 a b c d).map b8) :=
    ((HR.out.set_ (i:=1) (by simp [revK]) (.int .u8 c)).set_ (i:=2) (by simp [revK]) (.int .u8 b)).drew
   have HROW:=hid hrow
   have HCH:=hid (((HC.out.setCell (p:=⟨g,1,none⟩) (.inl (by simp)) (.int .u8 c)).setCell (p:=⟨g,2,none⟩) (.inl (by simp)) (.int .u8 b)).drew)
   clear hce hfr hik hrow
   go_wp2_with fail
   go_region
   go_wp2
   go_roundg 0
   case measure=>omega
   case rel=>exact ⟨2,rfl,by go_num,by go_num,HROW,HCH⟩
  ·go_wp2
   go_end0
   exact ⟨rfl,HR.out,HC.out⟩
theorem clamp4_ok (w:World):Calls Tryz.prog 95 #[.int .i64 4] w fun e w'=>e=.returned (.int .i64 4)∧w=w':=by
 go_enter Tryz.func95,Tryz.ntmps95
 go_wp2
 go_ret
 exact ⟨rfl,rfl⟩
def lowL (n i:Nat):List Nat:=(List.range i).map fun k=>n / 256^k%256
theorem lowL_succ (n i:Nat):lowL n (i+1)=lowL n i++[n / 256^i%256]:=by simp [lowL,List.range_succ]
theorem lowL_four (n:Nat):lowL n 4=[n%256,n / 256%256,n / 65536%256,n / 16777216%256]:=by simp [lowL,List.range_succ]
theorem small4_ok (n:Nat) (hn:n<4294967296) (w:World) :
  Calls Tryz.prog 72 #[.int .u64 n,.int .i64 4] w fun e w'=>∃ (g cap:Nat),e=.returned (.slice (some ⟨g,0,none⟩) 4 cap)∧Row w' 5 (.slice (some ⟨g,0,none⟩) 4 cap) g ((lowL n 4).map b8)∧Chg [] w w'∧w.heap.size≤g:=by
 have hcl:=fun w'=>clamp4_ok w'
 go_enter Tryz.func72,Tryz.ntmps72
 go_wp2_with fail
 refine (hcl _).mono ?_
 rintro e w' ⟨rfl,rfl⟩
 go_wp2_with fail
 go_loopg [0,5,8] 4 (fun j v0 v5 v8 wr=>∃ (i m:Nat) (F:List Nat),v8=.int .i64 i∧i+j=4∧v0=.int .u64 m∧Hid (m=n / 256^i)∧m<4294967296∧Hid (Own wr 5 v5 F ((lowL n i).map b8))∧Hid (Chg [] w wr)∧Hid (∀ x∈F,w.heap.size≤x)∧Hid (0<i→v5≠.slice none 0 0))
 case atStart=>exact ⟨0,n,[],rfl,rfl,rfl,hid (by simp),hn,hid (Own.nil _ _),hid (Chg.refl _ _),hid (by simp),hid (by simp)⟩
 case round =>
  obtain ⟨i,m,F,rfl,hij,rfl,HM,hm,HO,HC,HF,HV⟩:=hrel
  rcases gk with _ | j
  ·obtain rfl:i=4:=by omega
   rcases HO.out.cases with ⟨hv,_⟩ | ⟨g,hrow,hF⟩
   ·exact absurd hv (HV.out (by omega))
   ·obtain ⟨cap,rfl,_⟩:=hrow.open_map
    have hgn:=HF.out g (by rw [hF];simp)
    have HROW:=hid hrow
    clear hrow
    go_wp2
    go_ret
    exact ⟨g,cap,rfl,HROW.out,HC.out,hgn⟩
  ·have t1:decide ((i:Int)<4)=true:=zB (by omega)
   have hmod:(m:Int)%256=((m%256:Nat):Int):=by omega
   have hdiv:(m:Int) / 256=((m / 256:Nat):Int):=by omega
   obtain ⟨r,hr⟩:∃ r,r=m%256:=⟨_,rfl⟩
   obtain ⟨q,hq⟩:∃ q,q=m / 256:=⟨_,rfl⟩
   rw [←hr] at hmod
   rw [←hq] at hdiv
   have hr8:r<256:=by omega
   have hq32:q<4294967296:=by omega
   have hnl:lowL n (i+1)=lowL n i++[r]:=by rw [lowL_succ,←HM.out,←hr]
   have hqe:q=n / 256^(i+1):=by rw [hq,HM.out,Nat.pow_succ,Nat.div_div_eq_div_mul]
   have HNL:=hid hnl
   have HQE:=hid hqe
   have hown:=HO.out.alloc (.cells #[.int .u8 r] 5)
   have hw8:IntKind.u8.wrap (r:Int)=(r:Int):=by rw [IntKind.wrap_u8];omega
   have HLE:Hid ((lowL n i).length=i):=hid (by simp [lowL])
   clear hnl hqe hr hq
   go_wp2_with (at_builtin;refine wpList_append_o1 rfl rfl u8_elem rfl rfl hown (.int .u8 r) rfl ?c1 ?c2 ?c3 ?c4 ?_)
   case c1=>simp [go_sem]
   case c2=>rfl
   case c3=>simp [HLE.out];omega
   case c4=>simp [HLE.out];omega
   intro g2 cap2 w2 hr2 gr2
   go_wp2_with fail
   go_roundg j
   case measure=>omega
   case rel =>
    refine ⟨i+1,q,[g2],by go_num,by omega,rfl,hid HQE.out,hq32,hid ?_,hid ?_,hid ?_,hid (by simp)⟩
    ·rw [HNL.out,List.map_append]
     exact hr2.toOwn
    ·exact (HC.out.trans_same ((Chg.refl [] wr).alloc _)).trans gr2.chg fun x hx => .inr (HF.out x hx)
    ·intro x hx
     rcases gr2.new x hx with h | h
     ·exact HF.out x h
     ·have:=HC.out.size;rw [alloc_size'] at h;omega
theorem big4_ok (n:Nat) (hn:n<4294967296) (w:World) :
  Calls Tryz.prog 55 #[.int .u64 n,.int .i64 4] w fun e w'=>∃ (g cap:Nat),e=.returned (.slice (some ⟨g,0,none⟩) 4 cap)∧Row w' 5 (.slice (some ⟨g,0,none⟩) 4 cap) g ((big4 n).map b8)∧Chg [] w w'∧w.heap.size≤g:=by
 have hsm:=small4_ok n hn w
 go_enter Tryz.func55,Tryz.ntmps55
 go_wp2_with fail
 refine hsm.mono ?_
 rintro e w1 ⟨g,cap,rfl,hrow,ch1,hg⟩
 rw [lowL_four] at hrow
 have hrv:=rev4_ok w1 g _ _ _ _ cap hrow
 clear hsm hrow
 go_wp2_with fail
 refine hrv.mono ?_
 rintro e w2 ⟨rfl,hrow2,ch2⟩
 go_wp2
 go_ret
 exact ⟨g,cap,rfl,hrow2,ch1.trans ch2 (fun x hx => .inr (by simp at hx;omega)),hg⟩
def padF (bs:List Nat):List Nat:=bs++List.replicate ((8-bs.length%8)%8) 0
theorem padF_len (bs:List Nat):(padF bs).length=8*((bs.length+7) / 8):=by
 unfold padF
 rw [zC,List.length_replicate]
 omega
theorem walign_ok (w:World) (b:Nat) (F bs:List Nat) (h:IsWr w b F bs) (hlen:bs.length<549755813000) :
  Calls Tryz.prog 28 #[.pointer (some ⟨b,0,none⟩)] w fun e w'=>e=.returned (.tuple #[])∧∃ F',IsWr w' b F' (padF bs)∧Grow F F' w w':=by
 have HW:=hid h
 clear h
 go_enter Tryz.func28,Tryz.ntmps28
 go_wp2_with fail
 go_loopg [] ((8-bs.length%8)%8) (fun j wr=>∃ (i:Nat) (F':List Nat),i+j=(8-bs.length%8)%8∧Hid (IsWr wr b F' (bs++List.replicate i 0))∧Hid (Grow F F' w wr))
 case atStart=>exact ⟨0,F,by omega,hid (by simpa using HW.out),hid (Grow.refl _ _)⟩
 case round =>
  obtain ⟨i,F',hij,HR,HG⟩:=hrel
  obtain ⟨v,G,hb,-,-⟩:=HR.out.ex
  have c1:=hb.cell 1
  simp only [zC,List.length_replicate] at c1
  simp at c1
  obtain ⟨q,hq⟩:∃ q,q=bs.length+i:=⟨_,rfl⟩
  have hqe:((bs.length:Int)+(i:Int))=(q:Int):=by omega
  rw [hqe] at c1
  rcases gk with _ | j
  ·have hm:(q:Int)%8=0:=by omega
   obtain rfl:i=(8-bs.length%8)%8:=by omega
   clear hb hq hqe
   go_wp2
   go_end0
   exact ⟨rfl,F',HR.out,HG.out⟩
  ·obtain ⟨r,hr⟩:∃ r,r=q%8:=⟨_,rfl⟩
   have hm:(q:Int)%8=(r:Int):=by omega
   have hr0:((r:Int) != 0)=true:=by rw [bne_iff_ne];omega
   have hbt:=bit_any wr b F' _ 0 HR.out (by omega) (by rw [zC,List.length_replicate];omega)
   clear hb hq hqe hr
   go_wp2_with fail
   refine hbt.mono ?_
   rintro e w2 ⟨rfl,F2,hw2,hg2⟩
   go_wp2_with fail
   go_roundg j
   case measure=>omega
   case rel =>
    refine ⟨i+1,F2,by omega,hid ?_,hid (HG.out.trans hg2)⟩
    rw [List.replicate_succ',←List.append_assoc]
    exact hw2
theorem packed_dig {bs:List Nat} (h:∀ b∈bs,b<2):∀ d∈packed bs,d<256:=by
 intro d hd
 obtain ⟨i,_,rfl⟩:=List.mem_map.1 hd
 exact byteAt_lt h i
theorem bt_lt {bs:List Nat} (h:∀ b∈bs,b<2) (k:Nat):bt bs k<2:=by
 unfold bt
 rw [zD]
 cases hx:bs[k]? with
 | none=>simp
 | some x=>exact h x (List.mem_of_getElem? hx)
theorem bitAt_packed {bs:List Nat} (h:∀ b∈bs,b<2) {i:Nat} (hi:i<bs.length):bitAt (packed bs) i=bt bs i:=by
 have hq:i / 8<(bs.length+7) / 8:=by omega
 have e:(packed bs).getD (i / 8) 0=byteAt bs (i / 8):=by
  rw [zD]
  unfold packed
  rw [List.getElem?_map,List.getElem?_range hq]
  rfl
 unfold bitAt
 rw [e]
 obtain ⟨q,hqe⟩:∃ q,q=i / 8:=⟨_,rfl⟩
 obtain ⟨r,hre⟩:∃ r,r=i%8:=⟨_,rfl⟩
 have hie:i=8*q+r:=by omega
 have hr8:r<8:=by omega
 rw [←hqe,←hre,hie]
 have b0:=bt_lt h (8*q)
 have b1:=bt_lt h (8*q+1)
 have b2:=bt_lt h (8*q+2)
 have b3:=bt_lt h (8*q+3)
 have b4:=bt_lt h (8*q+4)
 have b5:=bt_lt h (8*q+5)
 have b6:=bt_lt h (8*q+6)
 have b7:=bt_lt h (8*q+7)
 unfold byteAt
 clear hqe hre hie hq e hi
 obtain rfl | rfl | rfl | rfl | rfl | rfl | rfl | rfl:r=0∨r=1∨r=2∨r=3∨r=4∨r=5∨r=6∨r=7:=by omega
 all_goals
  simp only [Nat.add_zero,Nat.sub_zero,Nat.sub_self,Nat.reduceSub,Nat.reducePow]
  omega
theorem allBits_packed {bs:List Nat} (h:∀ b∈bs,b<2):∃ rest,allBits (packed bs)=bs++rest:=by
 refine ⟨(allBits (packed bs)).drop bs.length,?_⟩
 have hlen:bs.length≤(allBits (packed bs)).length:=by rw [allBits_len,packed_len];omega
 have e:(allBits (packed bs)).take bs.length=bs:=by
  apply List.ext_getElem?
  intro i
  rcases Nat.lt_or_ge i bs.length with hi | hi
  ·rw [List.getElem?_take,if_pos hi,allBits_get (by rw [packed_len];omega),bitAt_packed h hi]
   unfold bt
   rw [zD,zF hi]
   rfl
  ·rw [List.getElem?_take,if_neg (by omega),List.getElem?_eq_none hi]
 have e2:=List.take_append_drop bs.length (allBits (packed bs))
 rw [e] at e2
 exact e2.symm
theorem ahead_packed {A B C:List Nat} (h:∀ b∈A++B++C,b<2):Ahead (packed (A++B++C)) A.length B:=by
 obtain ⟨rest,hr⟩:=allBits_packed h
 refine ⟨C++rest,?_⟩
 rw [hr,List.append_assoc,List.append_assoc,List.drop_left]
end Go.Proofs.YtijpbkakncglgaaGreatDoor
