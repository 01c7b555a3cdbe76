/- tile's readers by their contracts, the second part: getGuessed. -/
import Derived.Test.YtijpbkakncglgaaGreatDoorMg30
import Derived.Test.YtijpbkakncglgaaGreatDoorMg36
set_option linter.unusedVariables false
set_option linter.unusedSimpArgs false
set_option maxHeartbeats 4000000
set_option maxRecDepth 100000
namespace Go.Proofs.YtijpbkakncglgaaGreatDoor
open Go.RowKit
theorem maxN_below {l:List Nat} {B:Nat} (h:∀ x∈l,x≤B):maxN l≤B:=by
 unfold maxN
 suffices H:∀ (l:List Nat) (m:Nat),m≤B→(∀ x∈l,x≤B)→l.foldl max m≤B from H l 0 (Nat.zero_le _) h
 intro l
 induction l with
 | nil=>intro m hm _;exact hm
 | cons x l ih=>intro m hm hl;exact ih _ (by have := hl x (by simp);omega) (fun y hy=>hl y (by simp [hy]))
theorem getGuessed_ok (w:World) (b:Nat) (F ds:List Nat) (p:Nat) (l:List Int) (W H d:Nat) (h:IsRd w b F ds p) (hw0:1≤W) (hw1:W≤16) (hh0:1≤H) (hh1:H≤16) (h0:1≤d) (h1:d≤16) (hl:l.length=W*H) (hs:SmpOk d l) (ha:Ahead ds p (guessedBits l W H d)) :
  Calls Tryz.prog 77 #[.pointer (some ⟨b,0,none⟩),.int .i64 W,.int .i64 H,.int .i64 d] w fun e w'=>∃ v g,e=.returned (.tuple #[v,.int .i64 0])∧Row w' 3 v g (l.map vi)∧IsRd w' b F ds (p+(guessedBits l W H d).length)∧Chg [b] w w'∧w.heap.size≤g:=by
 have hgb:guessedBits l W H d=allOf (kindsI l W H d) 4++planBits (foreF l W H d) (W*H):=rfl
 rw [hgb] at ha ⊢
 rw [List.length_append]
 have hki:=kindsI_vi l W H d
 have hkl:=kindsI_len l W H d
 have hko:=kindsI_ok l W H d
 have hka:=fun hr=>getAll_ok w b F ds p 4 (kindsI l W H d) hr (by omega) hko (by rw [hkl];omega) ha.left
 have ha2:=ha.right
 have hfl:=foreF_len l W H d
 have hfw:=foreF_wide l W H d h0 h1
 obtain ⟨m,hm⟩:∃ m,m=W*H:=⟨_,rfl⟩
 have hm1:1≤m:=by rw [hm];exact Nat.mul_pos hw0 hh0
 have hm256:m≤256:=by rw [hm];exact Nat.mul_le_mul hw1 hh1
 have hmI:(W:Int)*(H:Int)=(m:Int):=by rw [hm];simp
 have hEF:foreF l W H d=(foreL l W H d (bestKinds l W H d)).map fun v=>foldI v d:=rfl
 have hEb:=fore_back l W H d (bestKinds l W H d)
 rw [←hEF] at hEb
 have hEo:=foreL_ok l W H d (bestKinds l W H d)
 have hEl:=foreL_len l W H d (bestKinds l W H d)
 have hEa:=fun y x (hy:y<H) (hx:x<W)=>foreL_at l d (bestKinds l W H d) hy hx
 have hfi:∀ x∈foreF l W H d,foldI x d=x:=fun x hx=>by
  rw [hEF] at hx
  obtain ⟨v,_,rfl⟩:=List.mem_map.1 hx
  obtain ⟨r0,r1⟩:=foldI_range v h0
  exact foldI_in h0 r0 r1
 have hbk:=fun A AK cap capk w' (hc:Cells vi w' A (foreL l W H d (bestKinds l W H d))) (hk:Cells i64 w' AK (bestKinds l W H d)) =>
  gback_ok l (foreL l W H d (bestKinds l W H d)) (bestKinds l W H d) A AK cap capk W H d w' hw0 (by omega) hh0 (by omega) h0 h1 hl hs hEl hEo (fun y x hy hx=>hEa y x hy hx) (bestKinds_len l W H d) (bestKinds_ok l W H d) hc hk
 rw [hEl,←hm,bestKinds_len] at hbk
 have hck':∀ Ak w,Cells vi w Ak (kindsI l W H d)→Cells i64 w Ak (bestKinds l W H d):=fun Ak w h=>Cells.map (f:=vi) (k:=Int.ofNat) h
 have hkmx:maxN (bestKinds l W H d)≤9:=maxN_below (fun x hx=>by have:=bestKinds_ok l W H d x hx;omega)
 have hkne:bestKinds l W H d≠[]:=fun e=>by have:=bestKinds_len l W H d;rw [e] at this;simp at this;omega
 have hmxn:=maxOf_nat (bestKinds l W H d) hkne
 have hkI:kindsI l W H d=(bestKinds l W H d).map Int.ofNat:=rfl
 rw [←hkI] at hmxn
 rw [←hm] at ha2 hfl ⊢
 have hpo:=bestPlan_ok (n:=m) (warm:=0) (most:=4) (by omega) (foreF l W H d)
 have hko':=ksOk_best (n:=m) (foreF l W H d)
 have hkl':=ks_len_best (n:=m) (foreF l W H d)
 have hpg:=fun w' (hr:IsRd w' b F ds (p+(allOf (kindsI l W H d) 4).length))=>pget_ok w' b F ds (p+(allOf (kindsI l W H d) 4).length) _ m 0 _ (foreF l W H d) hr hpo.2.1 hm1 (by omega) (by omega) hpo.1.1 hkl' hko' hfl hfw ha2
 have hpe:planBits (foreF l W H d) m=bitsP (bestPlan m 0 4 (foreF l W H d)).order (bestPlan m 0 4 (foreF l W H d)).ks (splitL (sizesL (bestPlan m 0 4 (foreF l W H d)).order m 0) (foreF l W H d)):=rfl
 rw [←hpe] at hpg
 obtain ⟨E,hE⟩:∃ E,E=foreL l W H d (bestKinds l W H d):=⟨_,rfl⟩
 obtain ⟨EF,hEFe⟩:∃ EF,EF=foreF l W H d:=⟨_,rfl⟩
 rw [←hE] at hEb hbk
 rw [←hEFe] at hEb hfi hfl hpg
 rw [←hEFe]
 obtain ⟨K,hK⟩:∃ K,K=kindsI l W H d:=⟨_,rfl⟩
 rw [←hK] at hka hkl hmxn hck' hpg
 rw [←hK]
 obtain ⟨mx,hmx⟩:∃ mx,mx=maxN (bestKinds l W H d):=⟨_,rfl⟩
 rw [←hmx] at hkmx hmxn
 obtain ⟨a1,ha1⟩:∃ a1,a1=(allOf K 4).length:=⟨_,rfl⟩
 obtain ⟨a2,ha2e⟩:∃ a2,a2=(planBits EF m).length:=⟨_,rfl⟩
 rw [←ha1] at hka hpg ⊢
 rw [←ha2e] at hpg ⊢
 rw [hkl] at hka
 generalize (bestPlan m 0 4 EF).order=po at hpg
 have hka1:=hka h
 rw [show ((4:Nat):Int)=4 from rfl] at hka1
 have t9:decide ((9:Int)<(mx:Int))=false:=decide_eq_false (by omega)
 have hbl:=h.lt b h.mem
 have hlt:=h.lt
 have HKL:=hid hkl
 have HMX:=hid hmxn
 have HCK:=hid hck'
 have HPG:=hid hpg
 have HEB:=hid hEb
 have HFI:=hid hfi
 have HBK:=hid hbk
 have HFL:=hid hfl
 have HLT:=hid hlt
 clear hgb hki hkl hko hka ha ha2 hfl hfw hm hEF hEb hEo hEl hEa hfi hbk hck' hkne hkI hpo hko' hkl' hpg hpe hE hEFe hK hmx ha1 ha2e hmxn hs hl h hlt
 go_enter Tryz.func77,Tryz.ntmps77
 go_wp2_with fail
 refine hka1.mono ?_
 rintro e w1 ⟨vk,gk',rfl,hrowk,hr1,ch1,hgk⟩
 obtain ⟨ck,rfl,hck1,hck2,_,_⟩:=hrowk.open_map
 have hcK:Cells vi w1 (some ⟨gk',0,none⟩) K:=hrowk.toOwn.cells
 have hmax:=Tryz.slices_Max_int gk' 0 H ck K w1 (by omega) (by rw [HKL.out];exact Nat.le_refl _) (by omega) (Cells.getD_ hcK)
 rw [List.take_of_length_le (by rw [HKL.out];exact Nat.le_refl _),HMX.out] at hmax
 rw [HKL.out]
 have hgklt:=hrowk.lt
 have hpg:=HPG.out w1 hr1
 rw [show ((0:Nat):Int)=0 from rfl] at hpg
 clear hka1 hrowk
 go_wp2_with (go_at_call 60;refine (err_ok _ b F ds _ hr1).mono ?_;rintro e w' ⟨rfl,rfl⟩)
 refine hmax.mono ?_
 rintro e w' ⟨rfl,rfl⟩
 clear hmax
 go_wp2_with fail
 refine hpg.mono ?_
 rintro e w2 ⟨Ap,np,cp,v2,G2,rfl,own2,hr2,ch2,hG2⟩
 have hgkb:gk'∉[b]:=by simp;omega
 have hcK2:Cells vi w2 (some ⟨gk',0,none⟩) K:=hcK.keep (fun _ ad e=>by injection e with e;subst e;exact hgkb) ch2
 rcases own2.cases with ⟨_,hnil,_⟩ | ⟨g,row2,rfl⟩
 ·exfalso
  have:=congrArg List.length hnil
  rw [List.length_map,HFL.out] at this
  simp at this
  omega
 obtain ⟨cg,rfl,hcg1,hcg2,_,_⟩:=row2.open_map
 rw [HFL.out] at hcg1 row2 ⊢
 have hg1:=hG2 g (by simp)
 have hch12:=ch1.trans_same ch2
 have hbp:=hr2.lt
 obtain ⟨w3,hw3⟩:∃ w3,w3=w2.alloc (.cells #[.int .i64 (po:Int),.slice Ap np cp] 121):=⟨_,rfl⟩
 have ch3:Chg [] w2 w3:=by rw [hw3];exact (Chg.refl [] w2).alloc _
 have hr3:=hr2.same ch3
 have row3:=row2.chg ch3 (by simp)
 have hcK3:=hcK2.same ch3
 have hch3:=hch12.trans ch3 (by simp)
 have hggk:g≠gk':=by omega
 have HW3:=hid hw3
 have hfoldd:=fun v w'=>fold_ok v d w' h0 h1
 have hwrapd:=fun v w'=>wrap_ok v d w' h0 h1
 clear own2 row2 hr2 hcK hcK2 hpg hw3 hch12 ch2 hG2 hr1 ch1
 go_wp2_with fail
 rw [←HW3.out]
 go_loopg [15,16,42] m (fun j va vb iv wr=>∃ (i:Nat),iv=.int .i64 (i:Int)∧i+j=m∧Row wr 3 (.slice (some ⟨g,0,none⟩) m cg) g ((mixL (fun v=>wrapI v d) EF i).map vi)∧Chg [g] w3 wr)
 case atStart=>exact ⟨0,rfl,by omega,by rw [mixL_zero];exact row3,Chg.refl _ _⟩
 case round =>
  clear row3
  obtain ⟨i,rfl,hij,hrow,hch⟩:=hrel
  rcases gk with _ | j
  ·obtain rfl:m=i:=by omega
   have t1:decide (m<m)=false:=by simp
   rw [←HFL.out,mixL_full,HEB.out,HFL.out] at hrow
   have hcE:Cells vi wr (some ⟨g,0,none⟩) E:=hrow.toOwn.cells
   have hcK4:=HCK.out _ _ (hcK3.chg hch (fun ad e=>by injection e with e;subst e;simp;omega))
   have hbk:=HBK.out _ _ cg ck wr hcE hcK4
   have hr4:=hr3.chg hch (fun x hx hm=>by simp at hm;have:=HLT.out x hx;omega)
   have hch4:=hch3.trans hch (fun x hx=>by simp at hx;right;omega)
   clear hcE hcK4 hcK3 hrow
   go_wp2_with fail
   refine hbk.mono ?_
   rintro e w5 ⟨v5,g5,rfl,hrow5,ch5,hg5⟩
   go_wp2
   go_ret2
   exact ⟨v5,g5,rfl,hrow5,(hr4.same ch5).cast (by omega),hch4.trans ch5 (by simp),by have:=hch4.size;omega⟩
  ·have him:i<m:=by omega
   have t1:decide (i<m)=true:=decide_eq_true him
   have hiE:i<EF.length:=by rw [HFL.out];exact him
   obtain ⟨cap',heq,_,_,hcell,hfro⟩:=hrow.open_map
   have hce:=hcell i _ (mixL_at (fun v=>wrapI v d) EF hiE)
   have hfr:=hfro i
   have hset:=hrow.set_ (i:=i) (by rw [List.length_map,mixL_len];exact hiE) (vi (wrapI (EF.getD i 0) d))
   rw [←List.map_set,mixL_set (fun v=>wrapI v d) EF hiE] at hset
   have hxf:=HFI.out (EF.getD i 0) (by rw [List.getD_eq_getElem?_getD,List.getElem?_eq_getElem hiE];exact List.getElem_mem hiE)
   have hfd:=fun w=>hfoldd (EF.getD i 0) w
   have hwd:=fun w=>hwrapd (EF.getD i 0) w
   rw [hxf] at hfd
   generalize EF.getD i 0=x at *
   have t2:(x != x)=false:=by simp
   obtain ⟨y,hy⟩:∃ y,y=wrapI x d:=⟨_,rfl⟩
   rw [←hy] at hset hwd
   have hce':wr.cell? ⟨g,i,none⟩=some (.int .i64 x):=hce
   have hset':Row (wr.setCell ⟨g,i,none⟩ (.int .i64 y)) _ _ _ _:=hset
   clear heq hcell hfro hce hset hy hrow hxf
   go_wp2_with (first | (go_at_call 67;refine (hfd _).mono ?_;rintro e w' ⟨rfl,rfl⟩) | (go_at_call 50;refine (hwd _).mono ?_;rintro e w' ⟨rfl,rfl⟩))
   go_roundg j
   case measure=>omega
   case rel=>exact ⟨i+1,by go_num,by omega,hset',hch.setCell (.inl (by simp)) _⟩
def pickD (D:List Int) (v:Int):Int:=D.getD v.toNat 0
theorem idx_back (l:List Int):(idxL l).map (pickD (diffL l))=l:=by
 unfold idxL
 rw [List.map_map]
 refine (List.map_congr_left fun s hs => ?_).trans (List.map_id _)
 have h:=(countP_index (diffL l) (diffL_lt l) ((mem_diffL l s).2 hs)).2
 show pickD (diffL l) ((diffL l).countP (· < s):Int)=s
 unfold pickD
 rw [Int.toNat_natCast,List.getD_eq_getElem?_getD,h]
 rfl
theorem getColoured_ok (w:World) (b:Nat) (F ds:List Nat) (p:Nat) (l:List Int) (d:Nat) (h:IsRd w b F ds p) (h0:1≤d) (h1:d≤16) (hl0:0<l.length) (hl:l.length≤256) (hs:SmpOk d l) (hk:(diffL l).length≤16) (ha:Ahead ds p (colouredBits l d)) :
  Calls Tryz.prog 81 #[.pointer (some ⟨b,0,none⟩),.int .i64 l.length,.int .i64 d] w fun e w'=>∃ v g,e=.returned (.tuple #[v,.int .i64 0])∧Row w' 3 v g (l.map vi)∧IsRd w' b F ds (p+(colouredBits l d).length)∧Chg [b] w w'∧w.heap.size≤g:=by
 have hdp:=diffL_pos hl0
 have hdo:=diffL_ok hs
 have hdlt:=diffL_lt l
 have hci:=fun x (hx:x∈l)=>(countP_index (diffL l) (diffL_lt l) ((mem_diffL l x).2 hx)).1
 have hcb:colouredBits l d=bitsOf ((diffL l).length-1) 4++allOf (diffL l) d++allOf (idxL l) (bitsN (diffL l).length):=rfl
 rw [hcb] at ha ⊢
 have hib:=idx_back l
 have hil:=idxL_len l
 obtain ⟨D,hD⟩:∃ D,D=diffL l:=⟨_,rfl⟩
 obtain ⟨k,hkl⟩:∃ k,k=D.length:=⟨_,rfl⟩
 have hio:∀ x∈idxL l,0≤x∧x<(k:Int):=fun x hx=>by
  obtain ⟨s,hss,rfl⟩:=List.mem_map.1 hx
  have:=hci s hss
  rw [hkl,hD]
  show (0:Int)≤_∧((diffL l).countP (· < s):Int)<((diffL l).length:Int)
  omega
 rw [←hD] at hdp hdo hdlt hk hib ha ⊢
 have hbr:=bitsN_room hk
 have hbl:=bitsN_le hk
 have hpb:=fun w=>palBits_ok D.length w hdp (by omega)
 rw [←hkl] at hdp hk hbr hbl hpb ha ⊢
 obtain ⟨q,hq⟩:∃ q,q=bitsN k:=⟨_,rfl⟩
 rw [←hq] at hbr hbl hpb ha ⊢
 obtain ⟨I,hI⟩:∃ I,I=idxL l:=⟨_,rfl⟩
 rw [←hI] at hib hil hio ha ⊢
 obtain ⟨n,hn⟩:∃ n,n=l.length:=⟨_,rfl⟩
 rw [←hn] at hil hl hl0 ⊢
 have hg1:=rget_ahead w b F ds p 4 (k-1) h (by omega) (by omega) ha.left.left
 have ha2:=ha.left.right
 have ha3:=ha.right
 rw [bitsOf_len] at ha2
 rw [List.length_append,bitsOf_len] at ha3
 have hga:=fun w' (hr:IsRd w' b F ds (p+4))=>getAll_ok w' b F ds (p+4) d D hr h1 hdo (by rw [←hkl];omega) ha2
 have hiq:SmpOk q I:=fun x hx=>by
  have:=hio x hx
  have e:(2:Int)^q=((2^q:Nat):Int):=by simp
  rw [e]
  omega
 have hgb:=fun w' (hr:IsRd w' b F ds (p+(4+(allOf D d).length)))=>getAll_ok w' b F ds (p+(4+(allOf D d).length)) q I hr (by omega) hiq (by rw [hil];omega) ha3
 rw [←hkl] at hga
 rw [hil] at hgb
 rw [List.length_append,List.length_append,bitsOf_len]
 generalize (allOf D d).length=a1 at *
 generalize (allOf I q).length=a2 at *
 obtain ⟨k1,hk1⟩:∃ k1,k1=k-1:=⟨_,rfl⟩
 have ek:(k1:Int)+1=(k:Int):=by omega
 rw [←hk1] at hg1
 have hw1:IntKind.i64.wrap (k1:Int)=(k1:Int):=IntWalk.i64_in _ (by omega)
 have hbl':=h.lt b h.mem
 have HKL:=hid hkl
 have HIB:=hid hib
 have HIL:=hid hil
 have HIO:=hid hio
 have HGA:=hid hga
 have HGB:=hid hgb
 have HDLT:=hid hdlt
 have HLT:=hid h.lt
 clear hn hkl hib hil hio hga hgb hdlt hcb hD hI hq hs hci hdo ha ha2 ha3 hiq hk1 hbr h
 go_enter Tryz.func81,Tryz.ntmps81
 go_wp2_with fail
 refine hg1.mono ?_
 rintro e w1 ⟨rfl,hr1,ch1⟩
 clear hg1
 go_wp2_with fail
 refine (HGA.out w1 hr1).mono ?_
 rintro e w2 ⟨vD,gD,rfl,rowD,hr2,ch2,hgD⟩
 obtain ⟨cD,rfl,hcD1,hcD2,_,_⟩:=rowD.open_map
 rw [←HKL.out]
 have hgDlt:=rowD.lt
 go_wp2_with fail
 refine (hpb w2).mono ?_
 rintro e w' ⟨rfl,rfl⟩
 go_wp2_with fail
 refine (HGB.out w2 (hr2.cast (by omega))).mono ?_
 rintro e w3 ⟨vI,gI,rfl,rowI,hr3,ch3,hgI⟩
 obtain ⟨cI,rfl,hcI1,hcI2,_,_⟩:=rowI.open_map
 rw [HIL.out] at hcI1 rowI ⊢
 have rowD3:=rowD.chg ch3 (by have:=ch1.size;simp;omega)
 have hch3:=(ch1.trans_same ch2).trans_same ch3
 have hs2:=(ch1.trans_same ch2).size
 clear rowD hr1 hr2 ch1 ch2 ch3 hpb
 have hgw:w.heap.size≤gI:=by omega
 have hgg:gD<gI:=by omega
 go_wp2_with (go_at_call 60;refine (err_ok _ b F ds _ hr3).mono ?_;rintro e w' ⟨rfl,rfl⟩)
 have HR3:=hid hr3
 have HC3:=hid hch3
 have HRI:=hid rowI
 have HRD:=hid rowD3
 clear hr3 hch3 rowI rowD3
 go_loopg [11] (k-1) (fun j iv wr=>∃ i q':Nat,iv=.int .i64 (i:Int)∧1≤i∧i+j=k∧wr=w3.drewN q')
 case atStart=>exact ⟨1,0,rfl,Nat.le_refl _,by omega,rfl⟩
 case round =>
  obtain ⟨i,q',rfl,hi1,hij,rfl⟩:=hrel
  rcases gk with _ | j
  ·obtain rfl:k=i:=by omega
   have u1:decide (k<k)=false:=by simp
   have hrow0:=HRI.out.drewN q'
   have hrd0:=HRD.out.drewN q'
   have hr0:=HR3.out.same ((Chg.refl [] w3).drewN q')
   have hch0:=HC3.out.drewN q'
   generalize w3.drewN q'=w4 at *
   go_wp2_with fail
   go_loopg [12,13,50] n (fun j va vb iv wr=>∃ (i:Nat),iv=.int .i64 (i:Int)∧i+j=n∧Row wr 3 (.slice (some ⟨gI,0,none⟩) n cI) gI ((mixL (pickD D) I i).map vi)∧Chg [gI] w4 wr)
   case atStart=>exact ⟨0,rfl,by omega,by rw [mixL_zero];exact hrow0,Chg.refl _ _⟩
   case round =>
    clear hrow0
    obtain ⟨i,rfl,hij,hrow,hch⟩:=hrel
    rcases gk with _ | j
    ·obtain rfl:n=i:=by omega
     have u2:decide (n<n)=false:=by simp
     rw [←HIL.out,mixL_full,HIB.out,HIL.out] at hrow
     have hr4:=hr0.chg hch (fun x hx hm=>by simp at hm;have:=HLT.out x hx;omega)
     have hch4:=hch0.trans hch (fun x hx=>by simp at hx;right;omega)
     go_wp2_with fail
     go_ret2
     exact ⟨_,gI,rfl,hrow,hr4.cast (by omega),hch4,hgw⟩
    ·have him:i<n:=by omega
     have u2:decide (i<n)=true:=decide_eq_true him
     have hiI:i<I.length:=by rw [HIL.out];exact him
     obtain ⟨cap',heq,_,_,hcell,hfro⟩:=hrow.open_map
     have hce:=hcell i _ (mixL_at (pickD D) I hiI)
     have hfr:=hfro i
     have hset:=hrow.set_ (i:=i) (by rw [List.length_map,mixL_len];exact hiI) (vi (pickD D (I.getD i 0)))
     rw [←List.map_set,mixL_set (pickD D) I hiI] at hset
     have hxo:=HIO.out (I.getD i 0) (by rw [List.getD_eq_getElem?_getD,List.getElem?_eq_getElem hiI];exact List.getElem_mem hiI)
     generalize I.getD i 0=x at *
     obtain ⟨X,hX⟩:∃ X:Nat,X=x.toNat:=⟨_,rfl⟩
     have hxX:x=(X:Int):=by omega
     have hXk:X<k:=by omega
     have hpk:pickD D x=D.getD X 0:=by unfold pickD;rw [hX]
     obtain ⟨cD',heqD,_,_,hcellD,_⟩:=(hrd0.chg hch (by simp;omega)).open_map
     have hXD:X<D.length:=by rw [←HKL.out];exact hXk
     have hcd:=hcellD X (D.getD X 0) (by rw [List.getD_eq_getElem?_getD,List.getElem?_eq_getElem hXD];rfl)
     rw [hpk] at hset
     generalize D.getD X 0=y at *
     subst hxX
     have u3:decide (k≤X)=false:=decide_eq_false (by omega)
     have hce':wr.cell? ⟨gI,i,none⟩=some (.int .i64 (X:Int)):=hce
     have hcd':wr.cell? ⟨gD,X,none⟩=some (.int .i64 y):=hcd
     have hset':Row (wr.setCell ⟨gI,i,none⟩ (.int .i64 y)) _ _ _ _:=hset
     clear heq hcell hfro hce hset hX hrow hxo hpk hcellD heqD hcd
     go_wp2
     go_roundg j
     case measure=>omega
     case rel=>exact ⟨i+1,by go_num,by omega,hset',hch.setCell (.inl (by simp)) _⟩
  ·have hik:i<k:=by omega
   have u1:decide (i<k)=true:=decide_eq_true hik
   obtain ⟨i0,hi0⟩:∃ i0,i0=i-1:=⟨_,rfl⟩
   have ei:(i:Int)-1=(i0:Int):=by omega
   have hiD:i<D.length:=by rw [←HKL.out];exact hik
   have hlt:=List.pairwise_iff_getElem.1 HDLT.out i0 i (by omega) hiD (by omega)
   obtain ⟨cD',heqD,_,_,hcellD,_⟩:=HRD.out.open_map
   have c1:=hcellD i0 _ (List.getElem?_eq_getElem (by omega))
   have c2:=hcellD i _ (List.getElem?_eq_getElem hiD)
   generalize D[i0]=x at *
   generalize D[i]=y at *
   have c1':w3.cell? ⟨gD,i0,none⟩=some (.int .i64 x):=c1
   have c2':w3.cell? ⟨gD,i,none⟩=some (.int .i64 y):=c2
   have u2:decide (y≤x)=false:=decide_eq_false (by omega)
   have hi0k:i0<k:=by omega
   clear hi0 hcellD heqD c1 c2 hlt hiD
   go_wp2
   go_quiet (fail)
   go_wp2
   go_roundg j
   case measure=>omega
   case rel=>exact ⟨i+1,q'+nq,by go_num,by omega,by omega,by first | rfl | rw [World.drewN_drewN]⟩
theorem fut_first4 {n:Nat} {F:List Nat} (hF:Fut F (newCod n)):valD (F.take 4)≠4294967295:=by
 have:=hF.hi
 simp [newCod,pre,valD] at this
 unfold valD
 simp
 omega
theorem newDec_okT (N:Nat) {F:List Nat} (hd:∀ d∈F,d<256) (h4:4≤F.length) (hF:Fut F (newCod N)):DecOk (newDec F N):=by
 have:=hF.hi
 simp [newCod,pre,valD] at this
 refine ⟨hd,by simp [newDec],by simp [newDec],?_,h4,by simp [newDec]⟩
 simp [newDec,valD]
 omega
theorem fold16 (l:List Int) (W:Nat) {d:Nat} (h0:1≤d) (h1:d≤16) (i:Nat):foldOf l W d i<65536 :=
 Nat.lt_of_lt_of_le (foldOf_lt l W h0 i) (Nat.pow_le_pow_right (n:=2) (by decide) h1)
theorem codR_fit (l:List Int) (W:Nat) {d:Nat} (h0:1≤d) (h1:d≤16):∀ i,CodFit (codR l W d i)
 | 0=>newCod_fit _
 | i+1=>by
  have h:=codR_ok l W h0 h1 i
  have hc:=clsN_le l W d i
  have hf:=fold16 l W h0 h1 i
  exact numL_fit h.1 (codR_fit l W h0 h1 i) (by omega) (by rw [h.2.1];omega)
theorem fut_codR (l:List Int) (W:Nat) {d:Nat} (h0:1≤d) (h1:d≤16) {F:List Nat} (hd:∀ x∈F,x<256):∀ (k i:Nat),Fut F (codR l W d (i+k))→Fut F (codR l W d i)
 | 0,_,h=>h
 | k+1,i,h=>by
  have hk:=codR_ok l W h0 h1 (i+k)
  have hc:=clsN_le l W d (i+k)
  have hf:=fold16 l W h0 h1 (i+k)
  have h':Fut F (numL (codR l W d (i+k)) (33*clsN l W d (i+k)) (foldOf l W d (i+k))):=h
  exact fut_codR l W h0 h1 hd k i (fut_num (v:=foldOf l W d (i+k)) (ctx:=33*clsN l W d (i+k)) hd hk.1 (codR_fit l W h0 h1 _) (by omega) (by rw [hk.2.1];omega) h')
theorem fold_back {l:List Int} {d:Nat} (hs:SmpOk d l) (W i:Nat):wrapI (guessI 7 (nbrAt l W i) d+unfoldI (foldOf l W d i)) d=l.getD i 0:=by
 obtain ⟨h0,h1⟩:=getD_ok hs i
 unfold foldOf
 rw [unfoldI_rfold]
 exact unfold_fold h0 h1
theorem nbr_fillAt {l:List Int} {W i:Nat} (hW:1≤W) (hi:i≤l.length):nbrAt (fillL (l.take i) l.length) W i=nbrAt l W i:=by
 unfold nbrAt
 exact nbr_fill (Nat.mod_lt _ (by omega)) (by rw [Nat.mul_comm];exact Nat.div_add_mod i W) hi
theorem fill_smpT {d:Nat} {l:List Int} (hs:SmpOk d l) (i n:Nat):SmpOk d (fillL (l.take i) n):=by
 intro s h
 unfold fillL at h
 rcases List.mem_append.1 h with h | h
 ·exact hs s (List.mem_of_mem_take h)
 ·rw [List.eq_of_mem_replicate h];exact ⟨Int.le_refl _,two_pow_pos' d⟩
theorem unfolded_ok (g:Int) (f d:Nat) (w:World) (h0:1≤d) (h1:d≤16) (hg0:0≤g) (hg1:g<65536) (hf:f<65536) :
  Calls Tryz.prog 110 #[.int .i64 g,.int .i64 f,.int .i64 d] w fun e w'=>e=.returned (.int .i64 (wrapI (g+unfoldI f) d))∧w=w':=by
 have hu:=unfold_ok f w (by omega)
 have hw1:IntKind.u64.wrap (f:Int)=(f:Int):=IntWalk.u64_in _ (by omega)
 have hub : -65536≤unfoldI f∧unfoldI f≤65536:=by unfold unfoldI;split<;>omega
 have hwp:=wrap_ok (g+unfoldI f) d w h0 h1
 generalize unfoldI f=u at *
 go_enter Tryz.func110,Tryz.ntmps110
 go_wp2_with fail
 refine hu.mono ?_
 rintro e w' ⟨rfl,rfl⟩
 go_wp2_with fail
 refine hwp.mono ?_
 rintro e w' ⟨rfl,rfl⟩
 go_wp2
 go_ret
 exact ⟨rfl,rfl⟩
theorem u8_elT:Elem Tryz.prog 29 5 (.int .u8 0) 1 1:=.mk' Tryz.underlying29 (by kernel_rfl)
def fillB (done:List Nat) (n:Nat):List Nat:=done++List.replicate (n-done.length) 0
theorem fillB_full {l:List Nat} {n:Nat} (h:l.length=n):fillB l n=l:=by simp [fillB,h]
theorem fillB_get {done:List Nat} {n:Nat} (h:done.length<n):(fillB done n)[done.length]?=some 0:=by
 unfold fillB
 rw [List.getElem?_append_right (Nat.le_refl _),Nat.sub_self,List.getElem?_replicate,if_pos (by omega)]
theorem fillB_set {done:List Nat} {n:Nat} (h:done.length<n) (x:Nat):(fillB done n).set done.length x=fillB (done++[x]) n:=by
 unfold fillB
 obtain ⟨k,hk⟩:∃ k,n-done.length=k+1:=⟨n-done.length-1,by omega⟩
 rw [hk,List.set_append_right _ _ (Nat.le_refl _),Nat.sub_self,List.replicate_succ,List.set_cons_zero,List.length_append,List.length_singleton,show n-(done.length+1)=k by omega]
 simp
theorem fillB_len {done:List Nat} {n:Nat} (h:done.length≤n):(fillB done n).length=n:=by simp [fillB];omega
theorem bytes_split (R:List Nat) {m:Nat} (hm:m<R.length):(R.drop m).flatMap (fun x=>bitsOf x 8)=bitsOf R[m] 8++(R.drop (m+1)).flatMap (fun x=>bitsOf x 8):=by
 rw [List.drop_eq_getElem_cons hm,List.flatMap_cons]
theorem getRanged_ok (w:World) (b:Nat) (F ds:List Nat) (p:Nat) (l:List Int) (W H d:Nat) (h:IsRd w b F ds p) (hw0:1≤W) (hw1:W≤16) (hh0:1≤H) (hh1:H≤16) (h0:1≤d) (h1:d≤16) (hl:l.length=W*H) (hs:SmpOk d l) (ha:Ahead ds p (rangedBits l W d)) :
  Calls Tryz.prog 80 #[.pointer (some ⟨b,0,none⟩),.int .i64 W,.int .i64 H,.int .i64 d] w fun e w'=>∃ v g,e=.returned (.tuple #[v,.int .i64 0])∧Row w' 3 v g (l.map vi)∧IsRd w' b F ds (p+(rangedBits l W d).length)∧Chg [b] w w'∧w.heap.size≤g:=by
 have hrb:rangedBits l W d=bitsOf (rangedL l W d).length 16++(rangedL l W d).flatMap fun x=>bitsOf x 8:=rfl
 have hrl:=rangedL_len l W h0 h1
 have hrt:=rangedL_lt l W h0 h1
 have hrd:rangedL l W d=(codR l W d l.length).low:=rfl
 rw [hrb] at ha ⊢
 rw [List.length_append,bitsOf_len]
 obtain ⟨R,hR⟩:∃ R,R=rangedL l W d:=⟨_,rfl⟩
 rw [←hR] at hrl hrt hrd ha ⊢
 obtain ⟨n,hn⟩:∃ n,n=l.length:=⟨_,rfl⟩
 have hn256:n≤256:=by rw [hn,hl];exact Nat.mul_le_mul hw1 hh1
 have hnW:n≤64*W:=by rw [hn,hl,Nat.mul_comm];exact Nat.mul_le_mul_right W (by omega)
 have hnI:(W:Int)*(H:Int)=(n:Int):=by rw [hn,hl];simp
 rw [←hn] at hrl hrd
 have hself:Fut R (codR l W d n):=by rw [hrd];exact fut_self (codR_ok l W h0 h1 n).1
 have hfut:=fun i (hi:i≤n)=>fut_codR l W h0 h1 hrt (n-i) i (by rw [show i+(n-i)=n by omega];exact hself)
 have hf0:Fut R (newCod 429):=hfut 0 (Nat.zero_le _)
 have hR4:4≤R.length:=by rw [hrd];exact (codR_ok l W h0 h1 n).1.len
 have hff:=fut_first4 hf0
 have hdok:=newDec_okT 429 hrt hR4 hf0
 have hcok:=fun i=>codR_ok l W h0 h1 i
 have hcfit:=fun i=>codR_fit l W h0 h1 i
 have hcl:=fun i=>clsN_le l W d i
 have hf16:=fun i=>fold16 l W h0 h1 i
 have hflt:=fun i=>foldOf_lt l W h0 i
 have hfb:=fun i=>fold_back hs W i
 obtain ⟨r,hr⟩:∃ r,r=R.length:=⟨_,rfl⟩
 rw [←hr] at hrl hR4 ha
 have hr16:r<2^16:=by omega
 have hg1:=rget_ahead w b F ds p 16 r h (by omega) hr16 ha.left
 have ha2:=ha.right
 rw [bitsOf_len] at ha2
 have hmkb:=run_make1 (P:=Tryz.prog) u8_elT rfl .i64 .i64 r (by omega) (by omega)
 have hmk:=run_make1 (P:=Tryz.prog) int_elem rfl .i64 .i64 n (by omega) (by omega)
 have hw1':IntKind.i64.wrap (r:Int)=(r:Int):=IntWalk.i64_in _ (by omega)
 have hbl:=h.lt b h.mem
 have HN:=hid hn
 have HR:=hid hr
 have HRT:=hid hrt
 have HRD:=hid hrd
 have HA:=hid ha2
 have HFUT:=hid hfut
 have HFF:=hid hff
 have HDOK:=hid hdok
 have HCOK:=hid hcok
 have HCF:=hid hcfit
 have HCL:=hid hcl
 have HF16:=hid hf16
 have HFLT:=hid hflt
 have HFB:=hid hfb
 have HS:=hid hs
 have HLT:=hid h.lt
 clear hn hr hrt hrd ha ha2 hfut hff hdok hcok hcfit hcl hf16 hflt hfb hs hrb hR hself hf0 hl h
 go_enter Tryz.func80,Tryz.ntmps80
 go_wp2_with fail
 refine hg1.mono ?_
 rintro e w1 ⟨rfl,hr1,ch1⟩
 obtain ⟨B,hB⟩:∃ B,B=w1.heap.size:=⟨_,rfl⟩
 have hwB:w.heap.size≤B:=by rw [hB];exact ch1.size
 have chA:Chg [] w1 (w1.alloc (.cells (List.replicate r (Value.int .u8 0)).toArray 5)):=(Chg.refl [] w1).alloc _
 have hrow0:Row (w1.alloc (.cells (List.replicate r (Value.int .u8 0)).toArray 5)) 5 (.slice (some ⟨B,0,none⟩) r r) B ((fillB [] r).map b8):=by
  have:=Row.made w1 5 (List.replicate r (Value.int .u8 0)) (by simp [maxLen];omega)
  rw [←hB,List.length_replicate] at this
  have e:(fillB [] r).map b8=List.replicate r (Value.int .u8 0):=by simp [fillB,b8]
  rw [e]
  exact this
 have hr1':=hr1.same chA
 have HB:=hid hB
 have ch1A:=(ch1.trans chA (by simp))
 clear hg1 hB hr1 ch1 chA
 go_wp2_with fail
 rw [←HB.out]
 go_loopg [11,27] r (fun j va iv wr=>∃ (i p':Nat),iv=.int .i64 (i:Int)∧i+j=r∧Row wr 5 (.slice (some ⟨B,0,none⟩) r r) B ((fillB (R.take i) r).map b8)∧IsRd wr b F ds p'∧Hid (Ahead ds p' ((R.drop i).flatMap fun x=>bitsOf x 8))∧Hid (p'+((R.drop i).flatMap fun x=>bitsOf x 8).length=p+(16+(R.flatMap fun x=>bitsOf x 8).length))∧Hid (Chg [b] w wr))
 case atStart=>exact ⟨0,p+16,rfl,by omega,hrow0,hr1',HA,hid (by rw [List.drop_zero];omega),hid ch1A⟩
 case round =>
  clear hrow0 hr1' ch1A
  obtain ⟨i,p',rfl,hij,hrow,hrd,Ha,Hp,HCH⟩:=hrel
  rcases gk with _ | j
  ·obtain rfl:r=i:=by omega
   have u1:decide ((r:Int)<(r:Int))=false:=by simp
   have u1':decide (r<r)=false:=by simp
   have e1:R.take r=R:=by rw [HR.out,List.take_length]
   have e2:R.drop r=[]:=by rw [HR.out,List.drop_length]
   rw [e1,fillB_full HR.out.symm] at hrow
   have hp:=Hp.out
   rw [e2] at hp
   have HP2:Hid (p'=p+(16+(R.flatMap fun x=>bitsOf x 8).length)):=hid (by
    rw [show (([]:List Nat).flatMap fun x=>bitsOf x 8)=[] from rfl,List.length_nil] at hp
    omega)
   obtain ⟨cap',heq,_,_,hcell,_⟩:=hrow.open_map
   have hnd:=newDecoder_ok B r R 429 wr (by decide) (by decide) (by rw [←HR.out];exact Nat.le_refl _) (by omega) hcell HRT.out (by rw [←HR.out];exact hR4) (by rw [←HR.out];omega) HFF.out
   rw [←HR.out,show ((429:Nat):Int)=429 from rfl] at hnd
   clear e1 e2 hp heq hcell Ha Hp hrow
   go_wp2_with (go_at_call 60;refine (err_ok _ b F ds _ hrd).mono ?_;rintro e w' ⟨rfl,rfl⟩)
   refine hnd.mono ?_
   rintro e w3 ⟨db,dg,dh,rfl,hdec,ch3,hdb,hdg,hdh⟩
   have hrow0:=Row.zeros w3 n (by omega)
   obtain ⟨G,hG⟩:∃ G,G=w3.heap.size:=⟨_,rfl⟩
   have chB:Chg [] w3 (w3.alloc (.cells (List.replicate n (Value.int .i64 0)).toArray 3)):=(Chg.refl [] w3).alloc _
   have hdec4:=hdec.same chB
   have hrd4:=(hrd.same ch3).same chB
   have hch4:=(HCH.out.trans ch3 (by simp)).trans chB (by simp)
   rw [←hG] at hrow0
   have hbwr:=hrd.lt b hrd.mem
   have hs3:=ch3.size
   have hltD:=hdec.lt
   rw [←hG] at hltD
   have hwwr:=HCH.out.size
   have hFw:=hrd.lt
   have HFW:=hid hFw
   have HG:=hid hG
   clear hnd hrd hdec ch3 chB hG hFw
   go_wp2_with fail
   rw [←HG.out]
   go_loopg [16,17,18,19,20,56] n (fun j va vb vc vd ve iv w5=>∃ (i:Nat) (D:Dec),iv=.int .i64 (i:Int)∧i+j=n∧Row w5 3 (.slice (some ⟨G,0,none⟩) n n) G ((fillL (l.take i) n).map vi)∧IsDec 190 w5 db dg dh D∧DecOk D∧Syn D (codR l W d i)∧D.data=R∧IsRd w5 b F ds p'∧Hid (Chg [b] w w5))
   case atStart=>exact ⟨0,newDec R 429,rfl,by omega,by simpa using hrow0,hdec4,HDOK.out,syn_new _ _,rfl,hrd4,hid hch4⟩
   case round =>
    clear hrow0 hdec4 hrd4 hch4
    obtain ⟨i,D,rfl,hij,hrow,hdec,hdk,hsy,hdat,hrd,HCH5⟩:=hrel
    rcases gk with _ | j
    ·obtain rfl:n=i:=by omega
     have u2:decide ((n:Int)<(n:Int))=false:=by simp
     have u2':decide (n<n)=false:=by simp
     have e:fillL (l.take n) n=l:=by
      have:=fill_all l
      rw [←HN.out] at this
      exact this
     rw [e] at hrow
     have hle:=left_any wr db dg dh D hdec hdk.pos
     have hz:D.data.length-D.pos=0:=by rw [hsy.pos,hdat,←HRD.out];omega
     rw [hz] at hle
     clear hdec hdk hsy hdat hz e
     go_wp2_with fail
     refine hle.mono ?_
     rintro e w' ⟨rfl,n6,rfl⟩
     go_wp2_with fail
     go_ret2
     exact ⟨_,G,rfl,hrow.drewN n6,(hrd.same ((Chg.refl [] _).drewN n6)).cast HP2.out,HCH5.out.drewN n6,by have:=HG.out;omega⟩
    ·have hin:i<n:=by omega
     have u2:decide ((i:Int)<(n:Int))=true:=decide_eq_true (by omega)
     have u2':decide (i<n)=true:=decide_eq_true hin
     have hil:i<l.length:=by rw [←HN.out];exact hin
     have hnf:=nbr_fillAt (l:=l) hw0 (i:=i) (by omega)
     rw [←HN.out] at hnf
     have hlen:(fillL (l.take i) n).length=n:=fillL_len (by rw [List.length_take];omega)
     have hnr:=tnear_ok (fillL (l.take i) n) (some ⟨G,0,none⟩) n W d i wr h0 h1 hw0 (by omega) (by rw [hlen];omega) (by omega) (fill_smpT HS.out i n) hrow.toOwn.cells (by rw [hlen];omega)
     have hck:=HCOK.out i
     have hcl:=HCL.out i
     have hfb:=HFB.out i
     have hf16:=HF16.out i
     have hflt:=HFLT.out i
     have hnx:codR l W d (i+1)=numL (codR l W d i) (33*clsN l W d i) (foldOf l W d i):=rfl
     have hF1:=HFUT.out (i+1) (by omega)
     rw [hnx] at hF1
     have hp2:2^d≤65536:=Nat.pow_le_pow_right (n:=2) (by decide) h1
     have hp2':=Nat.two_pow_pos d
     have hdnum:=fun w' (hq:IsDec 190 w' db dg dh D)=>dnum_syn w' db dg dh D (codR l W d i) (33*clsN l W d i) (foldOf l W d i) (2^d-1) hq hdk hsy hck.1 (HCF.out i) (by rw [hck.2.1];omega) (by omega) (by omega) (by rw [hdat];exact hF1)
     unfold NumPost at hdnum
     rw [if_pos (by omega:foldOf l W d i≤2^d-1)] at hdnum
     rw [hnf,hlen,←clsN_cast] at hnr
     have hgr:=guessI_ok (d:=d) (g:=nbrAt l W i) (nbr_ok HS.out W _ _) 7
     obtain ⟨gs,hgs⟩:∃ gs,gs=guessI 7 (nbrAt l W i) d:=⟨_,rfl⟩
     rw [←hgs] at hnr hgr hfb
     obtain ⟨f,hf⟩:∃ f,f=foldOf l W d i:=⟨_,rfl⟩
     rw [←hf] at hdnum hfb hf16 hflt hnx
     obtain ⟨cx,hcx⟩:∃ cx,cx=33*clsN l W d i:=⟨_,rfl⟩
     have ecx:(33:Int)*((clsN l W d i:Nat):Int)=(cx:Int):=by rw [hcx];simp
     rw [←hcx] at hdnum hnx
     have hcx5:cx≤500:=by omega
     obtain ⟨cl,hcle⟩:∃ cl,cl=clsN l W d i:=⟨_,rfl⟩
     rw [←hcle] at ecx hnr hcl
     obtain ⟨mo,hmo⟩:∃ mo,mo=2^d-1:=⟨_,rfl⟩
     rw [←hmo] at hdnum
     have hgs65:gs<65536:=by
      have e:((2^d:Nat):Int)=(2:Int)^d:=by simp
      have:=hgr.2
      omega
     have hun:=fun w'=>unfolded_ok gs f d w' h0 h1 hgr.1 hgs65 hf16
     rw [hfb] at hun
     have hfm:f≤mo:=by omega
     have htk:=take_snoc' l hil
     have hxg:l[i]=l.getD i 0:=by rw [List.getD_eq_getElem?_getD,List.getElem?_eq_getElem hil];rfl
     rw [hxg] at htk
     generalize l.getD i 0=xv at *
     have hdl:(l.take i).length=i:=by rw [List.length_take];omega
     have hpI:((2^d:Nat):Int)=(2:Int)^d:=by simp
     have hsh:IntKind.u64.wrap ((2:Int)^d)=(2:Int)^d:=IntWalk.u64_in _ (by omega)
     have hsb:IntKind.u64.wrap ((2:Int)^d-1)=(mo:Int):=by rw [IntWalk.u64_in _ (by omega)];omega
     have hwf:IntKind.i64.wrap (f:Int)=(f:Int):=IntWalk.i64_in _ (by omega)
     have HTK:=hid htk
     have HDL:=hid hdl
     have HDN:=hid hdnum
     have HUN:=hid hun
     have HNX:=hid hnx
     have HROW:=hid hrow
     have HMO:=hid hmo
     have HDAT:=hid hdat
     clear hnf hlen hck hfb hF1 hdnum hgs hf hcx hcle hmo hun htk hxg hdl hnx hrow hdk hsy hdat hil hflt hgr
     go_wp2_with fail
     refine hnr.mono ?_
     rintro e w6 ⟨rfl,ch6⟩
     have hdec6:=hdec.same ch6
     have hrd6:=hrd.same ch6
     have hch6:=HCH5.out.trans ch6 (by simp)
     have hrow6:=HROW.out.chg ch6 (by simp)
     have hdn6:=HDN.out w6 hdec6
     clear hnr hdec hrd
     go_wp2_with fail
     refine hdn6.mono ?_
     rintro e w7 ⟨rfl,D',hdec7,hx7,hdat7,ch7⟩
     rw [if_pos hfm] at hx7
     obtain ⟨hdk7,hsy7⟩:=hx7
     have her:=err_any w7 db dg dh D' hdec7
     rw [hsy7.err,show ((0:Nat):Int)=0 from rfl] at her
     have hnew:∀ z∈F,z∉[db,dh]:=fun z hz hm=>by have:=HFW.out z hz;simp at hm;omega
     have hrd7:=hrd6.chg ch7 hnew
     have hch7:=hch6.trans ch7 (fun z hz => .inr (by simp at hz;omega))
     have hrow7:=hrow6.chg ch7 (by simp;omega)
     obtain ⟨hce,hfr⟩:=hrow7.fill_cell (by rw [HDL.out];exact hin)
     have hfill:=hrow7.fill (by rw [HDL.out];exact hin) xv
     rw [HDL.out] at hce hfr hfill
     have HFI:=hid hfill
     have HDK:=hid hdk7
     have HSY:=hid hsy7
     have hun7:=HUN.out w7
     clear hdn6 hdec6 hrd6 hch6 hrow6 hrow7 hfill hdk7 hsy7 hnew
     go_wp2_with (first | (go_at_call 109;refine her.mono ?_;rintro e w' ⟨rfl,rfl⟩) | (go_at_call 110;refine hun7.mono ?_;rintro e w' ⟨rfl,rfl⟩))
     go_roundg j
     case measure=>omega
     case rel =>
      have hst:Chg [G] w' (w'.setCell ⟨G,i,none⟩ (.int .i64 xv)):=(Chg.refl _ _).setCell (.inl (by simp)) _
      refine ⟨i+1,D',by go_num,by omega,?_,hdec7.chg hst (by simp;omega) (by simp;omega) (by simp;omega),HDK.out,by rw [HNX.out];exact HSY.out,hdat7.trans HDAT.out,hrd7.chg hst (fun z hz hm=>by simp at hm;have:=HFW.out z hz;omega),hid (hch7.trans hst (fun z hz => .inr (by simp at hz;omega)))⟩
      rw [HTK.out]
      exact HFI.out
  ·have hin:i<r:=by omega
   have u1:decide ((i:Int)<(r:Int))=true:=decide_eq_true (by omega)
   have u1':decide (i<r)=true:=decide_eq_true hin
   have hml:i<R.length:=by rw [←HR.out];exact hin
   have hsp:=bytes_split R hml
   have htk:=take_snoc' R hml
   have hxl:=HRT.out R[i] (List.getElem_mem _)
   obtain ⟨x,hx⟩:∃ x,x=R[i]:=⟨_,rfl⟩
   rw [←hx] at hsp htk hxl
   have ha1:=Ha.out
   rw [hsp] at ha1
   have hget:=rget_ahead wr b F ds p' 8 x hrd (by omega) (by omega) ha1.left
   have HA2:=hid ha1.right
   have hdn:(R.take i).length=i:=by rw [List.length_take];omega
   have hwx:IntKind.u8.wrap (x:Int)=(x:Int):=by rw [IntKind.wrap_u8];omega
   have HSP:=hid hsp
   have HTK:=hid htk
   have HDN:=hid hdn
   have HROW:=hid hrow
   clear hsp htk hx ha1 hml hdn hrd hrow
   go_wp2_with fail
   refine hget.mono ?_
   rintro e w2 ⟨rfl,hr2,ch2⟩
   have hrow2:=HROW.out.chg ch2 (by simp;omega)
   obtain ⟨cap',heq,_,_,hcell,hfro⟩:=hrow2.open_map
   have hce:=hcell i 0 (by have:=fillB_get (done:=R.take i) (n:=r) (by rw [HDN.out];exact hin);rw [HDN.out] at this;exact this)
   have hce':w2.cell? ⟨B,i,none⟩=some (.int .u8 0):=hce
   have hfr:=hfro i
   have hset:=hrow2.set_ (i:=i) (by rw [List.length_map,fillB_len (by rw [HDN.out];omega)];exact hin) (b8 x)
   rw [←List.map_set] at hset
   have hfs:=fillB_set (done:=R.take i) (n:=r) (by rw [HDN.out];exact hin) x
   rw [HDN.out,←HTK.out] at hfs
   rw [hfs] at hset
   have hset':Row (w2.setCell ⟨B,i,none⟩ (.int .u8 (x:Int))) _ _ _ _:=hset
   clear hget hrow2 heq hcell hfro hce hset hfs
   go_wp2_with fail
   go_roundg j
   case measure=>omega
   case rel =>
    have hst:Chg [B] w2 (w2.setCell ⟨B,i,none⟩ (.int .u8 (x:Int))):=(Chg.refl _ _).setCell (.inl (by simp)) _
    refine ⟨i+1,p'+8,by go_num,by omega,hset',hr2.chg hst (fun z hz hm=>by simp at hm;have:=HLT.out z hz;omega),hid ?_,hid ?_,hid ((HCH.out.trans_same ch2).trans hst (fun z hz => .inr (by simp at hz;omega)))⟩
    ·have:=HA2.out
     rw [bitsOf_len] at this
     exact this
    ·have:=Hp.out
     rw [HSP.out,List.length_append,bitsOf_len] at this
     omega
def depthL:List Int:=[8,1,2,4,8,10,12,16,5,8]
theorem depthL_ok (k:Nat) (h:k<10):∃ d:Nat,depthL[k]?=some (d:Int)∧1≤d∧d≤16:=by
 rcases (by omega:k=0∨k=1∨k=2∨k=3∨k=4∨k=5∨k=6∨k=7∨k=8∨k=9) with rfl | rfl | rfl | rfl | rfl | rfl | rfl | rfl | rfl | rfl
 ·exact ⟨8,rfl,by omega,by omega⟩
 ·exact ⟨1,rfl,by omega,by omega⟩
 ·exact ⟨2,rfl,by omega,by omega⟩
 ·exact ⟨4,rfl,by omega,by omega⟩
 ·exact ⟨8,rfl,by omega,by omega⟩
 ·exact ⟨10,rfl,by omega,by omega⟩
 ·exact ⟨12,rfl,by omega,by omega⟩
 ·exact ⟨16,rfl,by omega,by omega⟩
 ·exact ⟨5,rfl,by omega,by omega⟩
 ·exact ⟨8,rfl,by omega,by omega⟩
theorem IsTp.fresh {w w':World} {b cap at_:Nat} {A:Option Addr} {L:List Int} (h:IsTp w b A cap L at_) (hc:Chg [] w w'):IsTp w' b A cap L at_:=h.same hc (by simp) (fun _ _ _=>by simp)
theorem depth_tp (w:World) (b cap at_:Nat) (A:Option Addr) (L:List Int) (h:IsTp w b A cap L at_) :
  Calls Tryz.prog 40 #[.pointer (some ⟨b,0,none⟩)] w fun e w'=>∃ d at':Nat,e=.returned (.int .i64 (d:Int))∧1≤d∧d≤16∧IsTp w' b A cap L at'∧Chg [b] w w':=by
 obtain ⟨w1,hw1⟩:∃ w1,w1=w.alloc (.cells #[.int .i64 8,.int .i64 1,.int .i64 2,.int .i64 4,.int .i64 8,.int .i64 10,.int .i64 12,.int .i64 16,.int .i64 5,.int .i64 8] 3):=⟨_,rfl⟩
 have hb1:Blk w1 w.heap.size 3 #[.int .i64 8,.int .i64 1,.int .i64 2,.int .i64 4,.int .i64 8,.int .i64 10,.int .i64 12,.int .i64 16,.int .i64 5,.int .i64 8]:=by rw [hw1];exact Blk.new w _ _
 have hc1:Chg [] w w1:=by rw [hw1];exact (Chg.refl [] w).alloc _
 have hn:=next_tp w1 b cap at_ 10 A L (h.fresh hc1) (by omega) (by omega)
 have hbb:w.heap.size≠b:=by have:=h.blk.lt;omega
 have HW1:=hid hw1
 obtain ⟨B,hB⟩:∃ B,B=w.heap.size:=⟨_,rfl⟩
 rw [←hB] at hb1 hbb
 have HB:=hid hB
 clear hw1 h hB
 go_enter Tryz.func40,Tryz.ntmps40
 go_wp2_with fail
 rw [←HW1.out,←HB.out]
 refine hn.mono ?_
 rintro e w2 ⟨k,at',rfl,hk,htp,ch2⟩
 obtain ⟨d,hd,hd0,hd1⟩:=depthL_ok k hk
 have hb2:=hb1.chg ch2 (by simpa using hbb)
 have hcell:w2.cell? ⟨B,k,none⟩=some (.int .i64 (d:Int)):=by
  rw [hb2.cell k]
  have e:(#[Value.int .i64 8,.int .i64 1,.int .i64 2,.int .i64 4,.int .i64 8,.int .i64 10,.int .i64 12,.int .i64 16,.int .i64 5,.int .i64 8]:Array Value)=(depthL.map vi).toArray:=rfl
  rw [e,List.getElem?_toArray,List.getElem?_map,hd]
  rfl
 have hk0:(0:Int)≤(k:Int):=by omega
 have hk1:(k:Int)<10:=by omega
 have HD:=hid (And.intro hd0 hd1)
 have HCH:Hid (Chg [b] w w2):=hid ((hc1.mono (by simp)).trans_same ch2)
 clear hd hb2 hb1 hn hd0 hd1
 go_wp2_with fail
 go_ret
 exact ⟨d,at',rfl,HD.out.1,HD.out.2,htp,HCH.out⟩
def IsRw (w:World) (b:Nat) (s:Nat):Prop:=Blk w b 101 #[.int .i64 (s:Int)]∧s<2147483648
theorem and_low64 (x:Int) (m:Nat) (hm:m<9223372036854775808):∃ k:Nat,k≤m∧bits .and .i64 x (m:Int)=(k:Int):=by
 refine ⟨(BitVec.ofInt 64 x &&& BitVec.ofInt 64 (m:Int)).toNat,?_,?_⟩
 ·rw [BitVec.toNat_and]
  have e:(BitVec.ofInt 64 (m:Int)).toNat=m:=by
   rw [BitVec.ofInt_natCast,BitVec.toNat_ofNat]
   exact Nat.mod_eq_of_lt (by omega)
  rw [e]
  exact Nat.and_le_right
 ·show IntKind.i64.wrap ((BitVec.ofInt 64 x &&& BitVec.ofInt 64 (m:Int)).toNat:Int)=_
  have hle:(BitVec.ofInt 64 x &&& BitVec.ofInt 64 (m:Int)).toNat≤m:=by
   rw [BitVec.toNat_and]
   have e:(BitVec.ofInt 64 (m:Int)).toNat=m:=by
    rw [BitVec.ofInt_natCast,BitVec.toNat_ofNat]
    exact Nat.mod_eq_of_lt (by omega)
   rw [e]
   exact Nat.and_le_right
  generalize (BitVec.ofInt 64 x &&& BitVec.ofInt 64 (m:Int)).toNat=q at *
  exact IntWalk.i64_in _ (by omega)
theorem next_rw (w:World) (b s n:Nat) (h:IsRw w b s) (hn0:1≤n) (hn1:n≤1073741824) :
  Calls Tryz.prog 65 #[.pointer (some ⟨b,0,none⟩),.int .i64 n] w fun e w'=>∃ v s':Nat,e=.returned (.int .i64 (v:Int))∧v<n∧IsRw w' b s'∧Chg [b] w w':=by
 obtain ⟨hb,hs⟩:=h
 have b0:=hb.cell 0
 have f0:=hb.frozen 0
 simp at b0
 obtain ⟨x,hx⟩:∃ x,x=s*1103515245+12345:=⟨_,rfl⟩
 have hxb:x<4611686018427387904:=by omega
 have hxI:(s:Int)*1103515245+12345=(x:Int):=by omega
 obtain ⟨y,hy,hand'⟩:=and_low64 (x:Int) 2147483647 (by omega)
 have hy1:y<2147483648:=by omega
 have hset:=hb.set_ 0 (.int .i64 (y:Int))
 have hand:bits BinOp.and IntKind.i64 (x:Int) 2147483647=(y:Int):=hand'
 obtain ⟨z,hz⟩:∃ z,z=y / 256:=⟨_,rfl⟩
 have hzI:(y:Int) / 256=(z:Int):=by omega
 have hz1:z<8388608:=by omega
 obtain ⟨r,hr⟩:∃ r,r=z%n:=⟨_,rfl⟩
 have hrn:r<n:=by rw [hr];exact Nat.mod_lt _ (by omega)
 have htm:(z:Int).tmod (n:Int)=(r:Int):=by rw [hr,Int.tmod_eq_emod_of_nonneg (by omega)];simp
 have hnne:(n:Int)≠0:=by omega
 have HS:=hid hset
 have HHB:=hid hb
 have HRN:=hid hrn
 clear hset hb hx hy hz hr hrn hand'
 go_enter Tryz.func65,Tryz.ntmps65
 go_wp2
 go_ret
 refine ⟨r,y,rfl,HRN.out,⟨?_,hy1⟩,(Chg.refl [b] w).setCell (.inl (by simp)) _⟩
 simpa using HS.out
theorem plane_round {w3 wx w4:World} {b cap a2 d P r i j n rb s:Nat} {A:Option Addr} {L:List Int} {l:List Int} {F:List Nat} {g2 cap2:Nat} {o:Obj}
  (hrw:IsRw wx rb s) (htp:IsTp wx b A cap L a2) (hch:Chg [rb] w3 wx) (hF:∀ x∈F,rb<x) (hll:l.length=i) (hsm:SmpOk d l) (hrP:r<P) (hP:P=2^d)
  (hsz:w3.heap.size≤wx.heap.size) (hs3:w3.heap.size=rb+1) (hb:b<rb) (hap:Apt A L F) (hij:i+(j+1)=n)
  (hr4:Row w4 3 (.slice (some ⟨g2,0,none⟩) (i+1) cap2) g2 (l.map vi++[.int .i64 (r:Int)])) (gr4:Grow F [g2] (wx.alloc o) w4) :
  ∃ (i' s':Nat) (l':List Int) (F':List Nat),Value.int .i64 ((i:Int)+1)=.int .i64 (i':Int)∧i'+j=n∧Own w4 3 (.slice (some ⟨g2,0,none⟩) (i+1) cap2) F' (l'.map vi)∧l'.length=i'∧Hid (SmpOk d l')∧IsRw w4 rb s'∧(∀ x∈F',rb<x)∧IsTp w4 b A cap L a2∧Chg [rb] w3 w4:=by
 have hch4:Chg F wx w4:=((Chg.refl [] wx).alloc o).mono (by simp) |>.trans_same gr4.chg
 have hrbF:rb∉F:=fun hm=>by have:=hF rb hm;omega
 have hbF:b∉F:=fun hm=>by have:=hF b hm;omega
 refine ⟨i+1,s,l++[(r:Int)],[g2],by simp,by omega,?_,by simp [hll],?_,⟨hrw.1.chg hch4 hrbF,hrw.2⟩,?_,?_,?_⟩
 ·have:=hr4.toOwn
  simpa [vi] using this
 ·refine hid ?_
  intro z hz
  rcases List.mem_append.1 hz with h1 | h1
  ·exact hsm z h1
  ·simp at h1
   subst h1
   have e:(2:Int)^d=(P:Int):=by rw [hP];simp
   rw [e]
   omega
 ·intro y hy
  simp at hy
  subst hy
  rcases gr4.new y (by simp) with h1 | h1
  ·exact hF y h1
  ·simp at h1
   omega
 ·exact htp.same hch4 hbF hap
 ·exact hch.trans hch4 fun x hx => .inr (by have:=hF x hx;omega)
theorem plane_tp (w:World) (b cap at_ W H d:Nat) (A:Option Addr) (L:List Int) (h:IsTp w b A cap L at_) (hw0:1≤W) (hw1:W≤64) (hh0:1≤H) (hh1:H≤64) (h0:1≤d) (h1:d≤16) :
  Calls Tryz.prog 41 #[.pointer (some ⟨b,0,none⟩),.int .i64 W,.int .i64 H,.int .i64 d] w fun e w'=>∃ (v:Value) (g:Nat) (l:List Int) (at':Nat),e=.returned v∧Row w' 3 v g (l.map vi)∧l.length=W*H∧SmpOk d l∧IsTp w' b A cap L at'∧Chg [b] w w'∧w.heap.size≤g:=by
 have hn7:=next_tp w b cap at_ 7 A L h (by omega) (by omega)
 obtain ⟨n,hn⟩:∃ n,n=W*H:=⟨_,rfl⟩
 have hnI:(W:Int)*(H:Int)=(n:Int):=by rw [hn];simp
 have hn4:n≤4096:=by rw [hn];exact Nat.mul_le_mul hw1 hh1
 have hn1:1≤n:=by rw [hn];exact Nat.mul_pos hw0 hh0
 have hnW:n≤64*W:=by rw [hn,Nat.mul_comm];exact Nat.mul_le_mul_right W hh1
 obtain ⟨P,hP⟩:∃ P,P=2^d:=⟨_,rfl⟩
 have hPI:(2:Int)^d=(P:Int):=by rw [hP];simp
 have hP0:1≤P:=by rw [hP];exact Nat.two_pow_pos d
 have hP1:P≤65536:=by rw [hP];exact Nat.pow_le_pow_right (n:=2) (by decide) h1
 have hPne:(P:Int)≠0:=by omega
 have hWne:(W:Int)≠0:=by omega
 have HP:=hid hP
 have HN:=hid hn
 have hbl:=h.blk.lt
 rw [←hn]
 clear hn hP h
 go_enter Tryz.func41,Tryz.ntmps41
 go_wp2_with fail
 refine hn7.mono ?_
 rintro e w1 ⟨kd,a1,rfl,hkd,htp1,ch1⟩
 have hn20:=next_tp w1 b cap a1 1048576 A L htp1 (by omega) (by omega)
 clear hn7 htp1
 go_wp2_with fail
 refine hn20.mono ?_
 rintro e w2 ⟨sd,a2,rfl,hsd,htp2,ch2⟩
 obtain ⟨rb,hrb⟩:∃ rb,rb=w2.heap.size:=⟨_,rfl⟩
 obtain ⟨w3,hw3⟩:∃ w3,w3=w2.alloc (.cells #[.int .i64 (sd:Int)] 101):=⟨_,rfl⟩
 have hrw:IsRw w3 rb sd:=⟨by rw [hw3,hrb];exact Blk.new w2 _ _,by omega⟩
 have HAF:Hid (∀ F:List Nat,(∀ x∈F,rb<x)→Apt A L F):=hid (fun F hF=>Apt.fresh htp2.cells (fun x hx=>by have:=hF x hx;omega))
 have HAP:Hid (Apt A L [rb]):=hid (Apt.fresh htp2.cells (by simp;omega))
 have htp3:IsTp w3 b A cap L a2:=htp2.fresh (by rw [hw3];exact (Chg.refl [] w2).alloc _)
 have ch12:=ch1.trans_same ch2
 have hs2:=ch12.size
 have hch3:Chg [b] w w3:=by rw [hw3];exact ch12.alloc _
 have hrbb:rb≠b:=by have:=htp2.blk.lt;omega
 have HRBB:Hid (b<rb):=hid (by have:=htp2.blk.lt;omega)
 have hs3:w3.heap.size=rb+1:=by rw [hw3,hrb];simp
 have HW3:=hid hw3
 have HRB:=hid hrb
 have HS3:=hid hs3
 have hrbw:w.heap.size≤rb:=by omega
 clear hn20 htp2 ch1 ch2 ch12 hw3 hrb hs3
 go_wp2_with fail
 rw [←HW3.out,←HRB.out]
 go_loopg [13,14,15,16,17] n (fun j vo vi' v15 v16 v17 wr=>∃ (i s:Nat) (l:List Int) (F:List Nat),vi'=.int .i64 (i:Int)∧i+j=n∧Own wr 3 vo F (l.map vi)∧l.length=i∧Hid (SmpOk d l)∧IsRw wr rb s∧(∀ x∈F,rb<x)∧IsTp wr b A cap L a2∧Chg [rb] w3 wr)
 case atStart=>exact ⟨0,sd,[],[],rfl,by omega,Own.nil _ _,rfl,hid (by intro s hs;simp at hs),hrw,by simp,htp3,Chg.refl _ _⟩
 case round =>
  clear hrw htp3
  obtain ⟨i,s,l,F,rfl,hij,hown,hll,HSM,hrw,hF,htp,hch⟩:=hrel
  obtain ⟨Ao,co,rfl,hco,hcom,_⟩:=hown.open_map
  rcases gk with _ | j
  ·obtain rfl:i=n:=by omega
   have hchw:Chg [b] w wr:=hch3.trans hch (fun x hx=>by rw [List.mem_singleton.1 hx];exact .inr hrbw)
   rcases hown.cases with ⟨_,hnil,_⟩ | ⟨g,hrow,rfl⟩
   ·exfalso
    have:=congrArg List.length hnil
    rw [List.length_map] at this
    simp at this
    rw [this] at hll
    simp at hll
    omega
   have hgF:=hF g (by simp)
   clear hown hF
   go_wp2
   go_ret
   exact ⟨_,g,l,a2,rfl,hrow,hll,HSM.out,htp,hchw,by omega⟩
  ·have hin:i<n:=by omega
   obtain ⟨x,hx⟩:∃ x,x=i%W:=⟨_,rfl⟩
   obtain ⟨y,hy⟩:∃ y,y=i / W:=⟨_,rfl⟩
   have hx64:x<64:=by have:=Nat.mod_lt i (show W>0 by omega);omega
   have hy64:y<64:=by rw [hy];exact Nat.div_lt_of_lt_mul (by rw [Nat.mul_comm];omega)
   have ex1:(i:Int)%(W:Int)=(x:Int):=by rw [hx];simp
   have ey1:(i:Int) / (W:Int)=(y:Int):=by rw [hy];simp
   have ex2:(i:Int).tmod (W:Int)=(x:Int):=by rw [Int.tmod_eq_emod_of_nonneg (by omega)];exact ex1
   have ey2:(i:Int).tdiv (W:Int)=(y:Int):=by rw [Int.tdiv_eq_ediv_of_nonneg (by omega)];exact ey1
   have hnx:=fun n (a:1≤n) (b:n≤1073741824) w' (hc:Chg [] wr w')=>next_rw w' rb s n ⟨hrw.1.chg hc (by simp),hrw.2⟩ a b
   have HNX:=hid hnx
   have HTP:=hid htp
   have HRW:=hid hrw
   have HOWN:Hid (Own wr 3 (.slice Ao i co) F (l.map vi)):=hid (by rw [←hll];exact hown)
   rw [hll]
   have HLL:=hid hll
   have HFF:=hid hF
   have HCH:=hid hch
   clear hx hy hnx htp hrw hown hF hch hll hco
   go_wp2
   go_quiet (fail)
   obtain ⟨p3,hp3⟩:∃ q,q=x / 3:=⟨_,rfl⟩
   obtain ⟨p4,hp4⟩:∃ q,q=y / 4:=⟨_,rfl⟩
   have hp3b:p3<64:=by omega
   have hp4b:p4<64:=by omega
   have x3:(x:Int) / 3=(p3:Int):=by omega
   have y4:(y:Int) / 4=(p4:Int):=by omega
   have x3t:(x:Int).tdiv 3=(p3:Int):=by rw [Int.tdiv_eq_ediv_of_nonneg (by omega)];exact x3
   have y4t:(y:Int).tdiv 4=(p4:Int):=by rw [Int.tdiv_eq_ediv_of_nonneg (by omega)];exact y4
   obtain ⟨xx,hxx⟩:∃ q,q=x*x:=⟨_,rfl⟩
   obtain ⟨yy,hyy⟩:∃ q,q=y*y:=⟨_,rfl⟩
   have hxxb:xx≤4096:=by rw [hxx];exact Nat.mul_le_mul (Nat.le_of_lt hx64) (Nat.le_of_lt hx64)
   have hyyb:yy≤4096:=by rw [hyy];exact Nat.mul_le_mul (Nat.le_of_lt hy64) (Nat.le_of_lt hy64)
   have hxxI:(x:Int)*(x:Int)=(xx:Int):=by rw [hxx];simp
   have hyyI:(y:Int)*(y:Int)=(yy:Int):=by rw [hyy];simp
   obtain ⟨p2,hp2⟩:∃ q,q=yy / 2:=⟨_,rfl⟩
   have hp2b:p2≤4096:=by omega
   have y2:(yy:Int) / 2=(p2:Int):=by omega
   have y2t:(yy:Int).tdiv 2=(p2:Int):=by rw [Int.tdiv_eq_ediv_of_nonneg (by omega)];exact y2
   obtain ⟨mm,hmm⟩:∃ q,q=(x+3*y)%5:=⟨_,rfl⟩
   have hmb:mm<5:=by omega
   have hmI:((x:Int)+3*(y:Int))%5=(mm:Int):=by omega
   have hmI2:((x:Int)+3*(y:Int)).tmod 5=(mm:Int):=by rw [Int.tmod_eq_emod_of_nonneg (by omega)];exact hmI
   clear hxx hyy hmm hp2 hp3 hp4
   obtain ⟨wy,hwy⟩:∃ wy,wy=wr.drewN nq:=⟨_,rfl⟩
   have HQ:Hid (Chg [rb] wr wy):=hid (by rw [hwy];exact ((Chg.refl [] wr).drewN nq).mono (by simp))
   have HQN:=fun n a b=>HNX.out n a b wy (by rw [hwy];exact (Chg.refl [] wr).drewN nq)
   have HRY:Hid (IsRw wy rb s):=hid (by rw [hwy];exact ⟨HRW.out.1.drewN _,HRW.out.2⟩)
   have HQM:=hid HQN
   rw [←hwy]
   clear HNX HRW HQN hwy
   rcases (by omega:kd=0∨kd=1∨kd=2∨kd=3∨kd=4∨kd=5∨kd=6) with rfl | rfl | rfl | rfl | rfl | rfl | rfl
   ·obtain ⟨v,rfl⟩:∃ v,v=sd:=⟨_,rfl⟩
    obtain ⟨r,hr⟩:∃ r,r=v%P:=⟨_,rfl⟩
    have hrP:r<P:=by rw [hr];exact Nat.mod_lt _ (by omega)
    have er1:(v:Int)%(P:Int)=(r:Int):=by rw [hr];simp
    have er2:(v:Int).tmod (P:Int)=(r:Int):=by rw [Int.tmod_eq_emod_of_nonneg (by omega)];exact er1
    have hchx:Chg [rb] wr wy:=HQ.out
    have hown2:Own wy 3 (.slice Ao i co) F (l.map vi):=HOWN.out.chg hchx (fun y hy=>by have:=HFF.out y hy;simp;omega)
    have HRW2:=HRY
    have hch2:=HCH.out.trans_same hchx
    have htp2:=HTP.out.same hchx (by simpa using hrbb.symm) HAP.out
    have HTP2:=hid htp2
    have HCH2:=hid hch2
    have HRP:=hid hrP
    have HSZ:=hid hch2.size
    clear hr hrP htp2 hchx hch2 HQM HTP HOWN HCH HQ HRY
    go_wp2_with (at_builtin;refine wpList_append_o1 rfl rfl int_elem rfl rfl (hown2.alloc _) (.int .i64 r) rfl ?c1 ?c2 ?c3 ?c4 ?_)
    case c1=>simp [go_sem]
    case c2=>rfl
    case c3=>rw [List.length_map,HLL.out];omega
    case c4=>rw [List.length_map,HLL.out];omega
    intro g2 cap2 w4 hr4 gr4
    rw [HLL.out] at hr4 ⊢
    go_wp2_with fail
    go_roundg j
    case measure=>omega
    case rel=>exact plane_round HRW2.out HTP2.out HCH2.out HFF.out HLL.out HSM.out HRP.out HP.out HSZ.out HS3.out HRBB.out (HAF.out F HFF.out) (by omega) hr4 gr4
   ·have hc1:=HQM.out 65536 (by omega) (by omega)
    rw [show ((65536:Nat):Int)=65536 from rfl] at hc1
    go_wp2_with fail
    refine hc1.mono ?_
    rintro e wz ⟨q,s1,rfl,hq,hr1,ch1⟩
    clear hc1
    obtain ⟨v,rfl⟩:∃ v,v=q:=⟨_,rfl⟩
    obtain ⟨r,hr⟩:∃ r,r=v%P:=⟨_,rfl⟩
    have hrP:r<P:=by rw [hr];exact Nat.mod_lt _ (by omega)
    have er1:(v:Int)%(P:Int)=(r:Int):=by rw [hr];simp
    have er2:(v:Int).tmod (P:Int)=(r:Int):=by rw [Int.tmod_eq_emod_of_nonneg (by omega)];exact er1
    have hchx:Chg [rb] wr wz:=HQ.out.trans_same ch1
    have hown2:Own wz 3 (.slice Ao i co) F (l.map vi):=HOWN.out.chg hchx (fun y hy=>by have:=HFF.out y hy;simp;omega)
    have HRW2:=hid hr1
    have hch2:=HCH.out.trans_same hchx
    have htp2:=HTP.out.same hchx (by simpa using hrbb.symm) HAP.out
    have HTP2:=hid htp2
    have HCH2:=hid hch2
    have HRP:=hid hrP
    have HSZ:=hid hch2.size
    clear hr hrP htp2 hchx hch2 HQM HTP HOWN HCH HQ HRY
    go_wp2_with (at_builtin;refine wpList_append_o1 rfl rfl int_elem rfl rfl (hown2.alloc _) (.int .i64 r) rfl ?c1 ?c2 ?c3 ?c4 ?_)
    case c1=>simp [go_sem]
    case c2=>rfl
    case c3=>rw [List.length_map,HLL.out];omega
    case c4=>rw [List.length_map,HLL.out];omega
    intro g2 cap2 w4 hr4 gr4
    rw [HLL.out] at hr4 ⊢
    go_wp2_with fail
    go_roundg j
    case measure=>omega
    case rel=>exact plane_round HRW2.out HTP2.out HCH2.out HFF.out HLL.out HSM.out HRP.out HP.out HSZ.out HS3.out HRBB.out (HAF.out F HFF.out) (by omega) hr4 gr4
   ·have hc1:=HQM.out 3 (by omega) (by omega)
    rw [show ((3:Nat):Int)=3 from rfl] at hc1
    go_wp2_with fail
    refine hc1.mono ?_
    rintro e wz ⟨q,s1,rfl,hq,hr1,ch1⟩
    clear hc1
    obtain ⟨v,hv⟩:∃ v,v=sd+3*x+2*y+q:=⟨_,rfl⟩
    have hvI:(sd:Int)+3*(x:Int)+2*(y:Int)+(q:Int)=(v:Int):=by omega
    have hvb:v<1073741824:=by omega
    clear hv
    obtain ⟨r,hr⟩:∃ r,r=v%P:=⟨_,rfl⟩
    have hrP:r<P:=by rw [hr];exact Nat.mod_lt _ (by omega)
    have er1:(v:Int)%(P:Int)=(r:Int):=by rw [hr];simp
    have er2:(v:Int).tmod (P:Int)=(r:Int):=by rw [Int.tmod_eq_emod_of_nonneg (by omega)];exact er1
    have hchx:Chg [rb] wr wz:=HQ.out.trans_same ch1
    have hown2:Own wz 3 (.slice Ao i co) F (l.map vi):=HOWN.out.chg hchx (fun y hy=>by have:=HFF.out y hy;simp;omega)
    have HRW2:=hid hr1
    have hch2:=HCH.out.trans_same hchx
    have htp2:=HTP.out.same hchx (by simpa using hrbb.symm) HAP.out
    have HTP2:=hid htp2
    have HCH2:=hid hch2
    have HRP:=hid hrP
    have HSZ:=hid hch2.size
    clear hr hrP htp2 hchx hch2 HQM HTP HOWN HCH HQ HRY
    go_wp2_with (at_builtin;refine wpList_append_o1 rfl rfl int_elem rfl rfl (hown2.alloc _) (.int .i64 r) rfl ?c1 ?c2 ?c3 ?c4 ?_)
    case c1=>simp [go_sem]
    case c2=>rfl
    case c3=>rw [List.length_map,HLL.out];omega
    case c4=>rw [List.length_map,HLL.out];omega
    intro g2 cap2 w4 hr4 gr4
    rw [HLL.out] at hr4 ⊢
    go_wp2_with fail
    go_roundg j
    case measure=>omega
    case rel=>exact plane_round HRW2.out HTP2.out HCH2.out HFF.out HLL.out HSM.out HRP.out HP.out HSZ.out HS3.out HRBB.out (HAF.out F HFF.out) (by omega) hr4 gr4
   ·have hc1:=HQM.out 5 (by omega) (by omega)
    rw [show ((5:Nat):Int)=5 from rfl] at hc1
    go_wp2_with fail
    refine hc1.mono ?_
    rintro e wz ⟨q,s1,rfl,hq,hr1,ch1⟩
    clear hc1
    obtain ⟨v,hv⟩:∃ v,v=sd+q*7:=⟨_,rfl⟩
    have hvI:(sd:Int)+(q:Int)*7=(v:Int):=by omega
    have hvb:v<1073741824:=by omega
    clear hv
    obtain ⟨r,hr⟩:∃ r,r=v%P:=⟨_,rfl⟩
    have hrP:r<P:=by rw [hr];exact Nat.mod_lt _ (by omega)
    have er1:(v:Int)%(P:Int)=(r:Int):=by rw [hr];simp
    have er2:(v:Int).tmod (P:Int)=(r:Int):=by rw [Int.tmod_eq_emod_of_nonneg (by omega)];exact er1
    have hchx:Chg [rb] wr wz:=HQ.out.trans_same ch1
    have hown2:Own wz 3 (.slice Ao i co) F (l.map vi):=HOWN.out.chg hchx (fun y hy=>by have:=HFF.out y hy;simp;omega)
    have HRW2:=hid hr1
    have hch2:=HCH.out.trans_same hchx
    have htp2:=HTP.out.same hchx (by simpa using hrbb.symm) HAP.out
    have HTP2:=hid htp2
    have HCH2:=hid hch2
    have HRP:=hid hrP
    have HSZ:=hid hch2.size
    clear hr hrP htp2 hchx hch2 HQM HTP HOWN HCH HQ HRY
    go_wp2_with (at_builtin;refine wpList_append_o1 rfl rfl int_elem rfl rfl (hown2.alloc _) (.int .i64 r) rfl ?c1 ?c2 ?c3 ?c4 ?_)
    case c1=>simp [go_sem]
    case c2=>rfl
    case c3=>rw [List.length_map,HLL.out];omega
    case c4=>rw [List.length_map,HLL.out];omega
    intro g2 cap2 w4 hr4 gr4
    rw [HLL.out] at hr4 ⊢
    go_wp2_with fail
    go_roundg j
    case measure=>omega
    case rel=>exact plane_round HRW2.out HTP2.out HCH2.out HFF.out HLL.out HSM.out HRP.out HP.out HSZ.out HS3.out HRBB.out (HAF.out F HFF.out) (by omega) hr4 gr4
   ·obtain ⟨v,hv⟩:∃ v,v=sd+p3*11+p4:=⟨_,rfl⟩
    have hvI:(sd:Int)+(p3:Int)*11+(p4:Int)=(v:Int):=by omega
    have hvb:v<1073741824:=by omega
    clear hv
    obtain ⟨r,hr⟩:∃ r,r=v%P:=⟨_,rfl⟩
    have hrP:r<P:=by rw [hr];exact Nat.mod_lt _ (by omega)
    have er1:(v:Int)%(P:Int)=(r:Int):=by rw [hr];simp
    have er2:(v:Int).tmod (P:Int)=(r:Int):=by rw [Int.tmod_eq_emod_of_nonneg (by omega)];exact er1
    have hchx:Chg [rb] wr wy:=HQ.out
    have hown2:Own wy 3 (.slice Ao i co) F (l.map vi):=HOWN.out.chg hchx (fun y hy=>by have:=HFF.out y hy;simp;omega)
    have HRW2:=HRY
    have hch2:=HCH.out.trans_same hchx
    have htp2:=HTP.out.same hchx (by simpa using hrbb.symm) HAP.out
    have HTP2:=hid htp2
    have HCH2:=hid hch2
    have HRP:=hid hrP
    have HSZ:=hid hch2.size
    clear hr hrP htp2 hchx hch2 HQM HTP HOWN HCH HQ HRY
    go_wp2_with (at_builtin;refine wpList_append_o1 rfl rfl int_elem rfl rfl (hown2.alloc _) (.int .i64 r) rfl ?c1 ?c2 ?c3 ?c4 ?_)
    case c1=>simp [go_sem]
    case c2=>rfl
    case c3=>rw [List.length_map,HLL.out];omega
    case c4=>rw [List.length_map,HLL.out];omega
    intro g2 cap2 w4 hr4 gr4
    rw [HLL.out] at hr4 ⊢
    go_wp2_with fail
    go_roundg j
    case measure=>omega
    case rel=>exact plane_round HRW2.out HTP2.out HCH2.out HFF.out HLL.out HSM.out HRP.out HP.out HSZ.out HS3.out HRBB.out (HAF.out F HFF.out) (by omega) hr4 gr4
   ·obtain ⟨v,hv⟩:∃ v,v=sd+xx+p2:=⟨_,rfl⟩
    have hvI:(sd:Int)+(xx:Int)+(p2:Int)=(v:Int):=by omega
    have hvb:v<1073741824:=by omega
    clear hv
    obtain ⟨r,hr⟩:∃ r,r=v%P:=⟨_,rfl⟩
    have hrP:r<P:=by rw [hr];exact Nat.mod_lt _ (by omega)
    have er1:(v:Int)%(P:Int)=(r:Int):=by rw [hr];simp
    have er2:(v:Int).tmod (P:Int)=(r:Int):=by rw [Int.tmod_eq_emod_of_nonneg (by omega)];exact er1
    have hchx:Chg [rb] wr wy:=HQ.out
    have hown2:Own wy 3 (.slice Ao i co) F (l.map vi):=HOWN.out.chg hchx (fun y hy=>by have:=HFF.out y hy;simp;omega)
    have HRW2:=HRY
    have hch2:=HCH.out.trans_same hchx
    have htp2:=HTP.out.same hchx (by simpa using hrbb.symm) HAP.out
    have HTP2:=hid htp2
    have HCH2:=hid hch2
    have HRP:=hid hrP
    have HSZ:=hid hch2.size
    clear hr hrP htp2 hchx hch2 HQM HTP HOWN HCH HQ HRY
    go_wp2_with (at_builtin;refine wpList_append_o1 rfl rfl int_elem rfl rfl (hown2.alloc _) (.int .i64 r) rfl ?c1 ?c2 ?c3 ?c4 ?_)
    case c1=>simp [go_sem]
    case c2=>rfl
    case c3=>rw [List.length_map,HLL.out];omega
    case c4=>rw [List.length_map,HLL.out];omega
    intro g2 cap2 w4 hr4 gr4
    rw [HLL.out] at hr4 ⊢
    go_wp2_with fail
    go_roundg j
    case measure=>omega
    case rel=>exact plane_round HRW2.out HTP2.out HCH2.out HFF.out HLL.out HSM.out HRP.out HP.out HSZ.out HS3.out HRBB.out (HAF.out F HFF.out) (by omega) hr4 gr4
   ·obtain ⟨v,hv⟩:∃ v,v=sd+mm*9:=⟨_,rfl⟩
    have hvI:(sd:Int)+(mm:Int)*9=(v:Int):=by omega
    have hvb:v<1073741824:=by omega
    clear hv
    obtain ⟨r,hr⟩:∃ r,r=v%P:=⟨_,rfl⟩
    have hrP:r<P:=by rw [hr];exact Nat.mod_lt _ (by omega)
    have er1:(v:Int)%(P:Int)=(r:Int):=by rw [hr];simp
    have er2:(v:Int).tmod (P:Int)=(r:Int):=by rw [Int.tmod_eq_emod_of_nonneg (by omega)];exact er1
    have hchx:Chg [rb] wr wy:=HQ.out
    have hown2:Own wy 3 (.slice Ao i co) F (l.map vi):=HOWN.out.chg hchx (fun y hy=>by have:=HFF.out y hy;simp;omega)
    have HRW2:=HRY
    have hch2:=HCH.out.trans_same hchx
    have htp2:=HTP.out.same hchx (by simpa using hrbb.symm) HAP.out
    have HTP2:=hid htp2
    have HCH2:=hid hch2
    have HRP:=hid hrP
    have HSZ:=hid hch2.size
    clear hr hrP htp2 hchx hch2 HQM HTP HOWN HCH HQ HRY
    go_wp2_with (at_builtin;refine wpList_append_o1 rfl rfl int_elem rfl rfl (hown2.alloc _) (.int .i64 r) rfl ?c1 ?c2 ?c3 ?c4 ?_)
    case c1=>simp [go_sem]
    case c2=>rfl
    case c3=>rw [List.length_map,HLL.out];omega
    case c4=>rw [List.length_map,HLL.out];omega
    intro g2 cap2 w4 hr4 gr4
    rw [HLL.out] at hr4 ⊢
    go_wp2_with fail
    go_roundg j
    case measure=>omega
    case rel=>exact plane_round HRW2.out HTP2.out HCH2.out HFF.out HLL.out HSM.out HRP.out HP.out HSZ.out HS3.out HRBB.out (HAF.out F HFF.out) (by omega) hr4 gr4
theorem tape_new (w:World) (A:Option Addr) (cap:Nat) (L:List Int) (hc:Cells vi w A L) (hin:∀ x∈L,In64 x) (hlen:L.length≤9223372036854775807) :
  Calls Tryz.prog 13 #[.slice A L.length cap] w fun e w'=>∃ b,e=.returned (.pointer (some ⟨b,0,none⟩))∧IsTp w' b A cap L 0∧Chg [] w w'∧w.heap.size≤b:=by
 have HC:=hid hc
 have HI:=hid hin
 clear hc hin
 go_enter Tryz.func13,Tryz.ntmps13
 go_wp2
 go_ret
 have ch:Chg [] w (w.alloc (.cells #[.slice A L.length cap,.int .i64 0] 74)):=(Chg.refl [] w).alloc _
 exact ⟨w.heap.size,rfl,⟨Blk.new w _ _,HC.out.chg ch (by simp),Apt.fresh HC.out (by simp),HI.out,Nat.zero_le _,hlen⟩,ch,Nat.le_refl _⟩
theorem ints_ok (w:World) (A B:Option Addr) (ca cb:Nat) (la lb:List Int) (hA:Cells vi w A la) (hB:Cells vi w B lb) (ha:la.length≤4096) (hb:lb.length≤4611686018427387904) :
  Calls Tryz.prog 64 #[.slice A la.length ca,.slice B lb.length cb] w fun e w'=>e=.returned (.bool (decide (la=lb)))∧∃ q,w'=w.drewN q:=by
 by_cases hne:la.length=lb.length
 ·obtain ⟨n,hn⟩:∃ n,n=la.length:=⟨_,rfl⟩
  have hn2:lb.length=n:=by rw [hn,hne]
  rw [hn2]
  rw [←hn] at ha ⊢
  have HA:=hid hn
  have HB:=hid hn2
  clear hn hn2 hne hb
  have t1:((n:Int)==(n:Int))=true:=by simp
  have t2:((n:Int) != (n:Int))=false:=by simp
  go_enter Tryz.func64,Tryz.ntmps64
  go_wp2_with fail
  go_loopg [5] n (fun j iv wr=>∃ i q:Nat,iv=.int .i64 (i:Int)∧i+j=n∧Hid (la.take i=lb.take i)∧wr=w.drewN q)
  case atStart=>exact ⟨0,0,rfl,by omega,hid rfl,rfl⟩
  case round =>
   obtain ⟨i,q,rfl,hij,HT,rfl⟩:=hrel
   rcases gk with _ | j
   ·obtain rfl:i=n:=by omega
    have ht:=HT.out
    rw [List.take_of_length_le (by rw [←HA.out];exact Nat.le_refl _),List.take_of_length_le (by rw [HB.out];exact Nat.le_refl _)] at ht
    have hE:Hid (decide (la=lb)=true):=hid (decide_eq_true ht)
    clear ht
    go_wp2
    go_ret
    exact ⟨by rw [hE.out];rfl,q,rfl⟩
   ·have hin:i<n:=by omega
    have hla:i<la.length:=by rw [←HA.out];exact hin
    have hlb:i<lb.length:=by rw [HB.out];exact hin
    obtain ⟨ga,oa,rfl,hcA⟩:=hA.at_ hla
    obtain ⟨gb,ob,rfl,hcB⟩:=hB.at_ hlb
    obtain ⟨x,hx⟩:∃ x,x=la[i]:=⟨_,rfl⟩
    obtain ⟨y,hy⟩:∃ y,y=lb[i]:=⟨_,rfl⟩
    rw [←hx] at hcA
    rw [←hy] at hcB
    have cA:w.cell? ⟨ga,oa+i,none⟩=some (.int .i64 x):=hcA
    have cB:w.cell? ⟨gb,ob+i,none⟩=some (.int .i64 y):=hcB
    have HX:=hid hx
    have HY:=hid hy
    have HLA:=hid hla
    have HLB:=hid hlb
    have HCA:=hid hA
    have HCB:=hid hB
    clear hx hy hcA hcB hA hB
    go_wp2
    go_quiet (fail)
    by_cases hxy:x=y
    ·subst hxy
     have t5:(x != x)=false:=by simp
     go_wp2
     go_roundg j
     case measure=>omega
     case rel =>
      refine ⟨i+1,q+nq,by go_num,by omega,hid ?_,by first | rfl | rw [World.drewN_drewN]⟩
      rw [List.take_succ_eq_append_getElem HLA.out,List.take_succ_eq_append_getElem HLB.out,HT.out,←HX.out,←HY.out]
    ·have t5:(x != y)=true:=by simpa using hxy
     have hd:decide (la=lb)=false:=decide_eq_false fun e=>hxy (by rw [HX.out,HY.out];subst e;rfl)
     have HD:=hid hd
     clear hd
     go_wp2
     go_ret
     exact ⟨by rw [HD.out];rfl,q+nq,by first | rfl | rw [World.drewN_drewN]⟩
 ·have hd:decide (la=lb)=false:=decide_eq_false fun e=>hne (by rw [e])
  rw [hd]
  have t1:((la.length:Int)==(lb.length:Int))=false:=by simpa using (by omega:¬ (la.length:Int)=lb.length)
  have t2:(la.length==lb.length)=false:=by simpa using hne
  go_enter Tryz.func64,Tryz.ntmps64
  go_wp2
  go_ret
  exact ⟨rfl,0,rfl⟩
theorem apt_block {α:Type} {g:Nat} {l:List α} {F:List Nat} (h:g∉F):Apt (some ⟨g,0,none⟩) l F:=fun _ ad e=>by
 injection e with e
 subst e
 exact h
theorem rows24_ok {w:World} {p q:PicD} {g o:Nat} {B:Nat→Option Addr} {c:Nat→Nat} {G:List Nat} (cap:Nat) (h:PicAt w p g o B c G)
  {g' o':Nat} {B':Nat→Option Addr} {c':Nat→Nat} {G':List Nat} (cap':Nat) (h':PicAt w q g' o' B' c' G') (hP:p.P=q.P) (hW:p.W=q.W) (hH:p.H=q.H) :
  Calls Tryz.prog 39 #[.slice (some ⟨g,o,none⟩) p.P.length cap,.slice (some ⟨g',o',none⟩) q.P.length cap'] w fun e w'=>e=.returned (.bool true)∧Chg [] w w':=by
 have hok:=h.ok
 obtain ⟨N,hN⟩:∃ N,N=p.W*p.H:=⟨_,rfl⟩
 have hcel:∀ wr,Chg [] w wr→∀ i,i<p.P.length→wr.cell? ⟨g,o+i,none⟩=some (.slice (B i) N (c i))∧wr.cell? ⟨g',o'+i,none⟩=some (.slice (B' i) N (c' i))∧∀ wz,Chg [] w wz→Calls Tryz.prog 64 #[.slice (B i) N (c i),.slice (B' i) N (c' i)] wz fun e w'=>e=.returned (.bool true)∧∃ q,w'=wz.drewN q:=by
  intro wr hc i hi
  have h1:=(h.same hc).cell i hi
  have h2:=(h'.same hc).cell i (by rw [←hP];exact hi)
  rw [←hN] at h1
  rw [←hW,←hH,←hN] at h2
  refine ⟨h1,h2,fun wz hz => ?_⟩
  have e1:=h.len hi
  have e2:=h'.len (i:=i) (by rw [←hP];exact hi)
  have k1:=(h.same hz).cells i hi
  have k2:=(h'.same hz).cells i (by rw [←hP];exact hi)
  rw [←hP] at k2 e2
  have h3:=ints_ok wz (B i) (B' i) (c i) (c' i) _ _ k1 k2 (by rw [e1];exact hok.area) (by rw [e1];have:=hok.area;omega)
  rw [e1,←hN] at h3
  simpa using h3
 rw [←hP]
 obtain ⟨n,hn⟩:∃ n,n=p.P.length:=⟨_,rfl⟩
 have hn4:n≤4:=by rw [hn];exact hok.n1
 rw [←hn] at hcel ⊢
 have HC:=hid hcel
 have t0:((n:Int) != (n:Int))=false:=by simp
 clear hcel hn hok h h' hP hW hH hN
 go_enter Tryz.func39,Tryz.ntmps39
 go_wp2_with fail
 go_loopg [5] n (fun j v5 wr=>∃ i:Nat,v5=.int .i64 (i:Int)∧i+j=n∧Hid (Chg [] w wr))
 case atStart=>exact ⟨0,rfl,by omega,hid (Chg.refl _ _)⟩
 case round =>
  obtain ⟨i,rfl,hij,HCH⟩:=hrel
  rcases gk with _ | j
  ·obtain rfl:i=n:=by omega
   have t1:decide (i<i)=false:=by simp
   go_wp2
   go_ret
   exact ⟨rfl,HCH.out⟩
  ·have hi:i<n:=by omega
   have t1:decide (i<n)=true:=decide_eq_true hi
   obtain ⟨c1,c2,hin⟩:=HC.out wr HCH.out i hi
   have HI:Hid (∀ k,Calls Tryz.prog 64 #[.slice (B i) N (c i),.slice (B' i) N (c' i)] (wr.drewN k) fun e w'=>e=.returned (.bool true)∧∃ q,w'=wr.drewN q):=hid (fun k=>(hin (wr.drewN k) (HCH.out.drewN k)).mono fun e w' h=>by
    obtain ⟨h1,q,h2⟩:=h
    exact ⟨h1,k+q,by rw [h2,World.drewN_drewN]⟩)
   clear hin
   go_wp2_with fail
   go_quiet ((go_at_call 64;exact HI.out _))
   go_wp2_with fail
   go_roundg j
   case measure=>omega
   case rel=>exact ⟨i+1,by go_num,by omega,hid (HCH.out.drewN nq)⟩
theorem picSame_ok {w:World} {p q:PicD} {g o:Nat} {B:Nat→Option Addr} {c:Nat→Nat} {G:List Nat} (cap:Nat) (h:PicAt w p g o B c G)
  {g' o':Nat} {B':Nat→Option Addr} {c':Nat→Nat} {G':List Nat} (cap':Nat) (h':PicAt w q g' o' B' c' G') (hP:p.P=q.P) (hW:p.W=q.W) (hH:p.H=q.H) (hd:p.d=q.d) :
  Calls Tryz.prog 11 #[picV p g o cap,picV q g' o' cap'] w fun e w'=>e=.returned (.bool true)∧Chg [] w w':=by
 have hr:=fun w' (hc:Chg [] w w')=>rows24_ok cap (h.same hc) cap' (h'.same hc) hP hW hH
 unfold picV
 rw [←hW,←hH,←hd]
 have hb1:Blk (w.alloc (.cells #[.int .i64 (p.W:Int),.int .i64 (p.H:Int),.int .i64 (p.d:Int),.slice (some ⟨g,o,none⟩) p.P.length cap] 25)) w.heap.size 25 #[.int .i64 (p.W:Int),.int .i64 (p.H:Int),.int .i64 (p.d:Int),.slice (some ⟨g,o,none⟩) p.P.length cap]:=Blk.new w _ _
 have hc1:Chg [] w ((w.alloc (.cells #[.int .i64 (p.W:Int),.int .i64 (p.H:Int),.int .i64 (p.d:Int),.slice (some ⟨g,o,none⟩) p.P.length cap] 25)).alloc (.cells #[.int .i64 (p.W:Int),.int .i64 (p.H:Int),.int .i64 (p.d:Int),.slice (some ⟨g',o',none⟩) q.P.length cap'] 25)):=((Chg.refl [] w).alloc _).alloc _
 have hrr:=hr _ hc1
 have HR:=hid hrr
 have HC:=hid hc1
 clear hr hrr hb1 hc1 h h' hW hH hd hP
 go_enter Tryz.func11,Tryz.ntmps11
 go_wp2_with fail
 refine HR.out.mono ?_
 rintro e w2 ⟨rfl,ch2⟩
 go_wp2
 go_ret
 exact ⟨rfl,HC.out.trans_same ch2⟩
end Go.Proofs.YtijpbkakncglgaaGreatDoor
