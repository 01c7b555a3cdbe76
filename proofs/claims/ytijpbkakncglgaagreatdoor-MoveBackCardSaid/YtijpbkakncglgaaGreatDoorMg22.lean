/- package tile by its contracts, the fifth part: putGuessed. -/
import Derived.Test.YtijpbkakncglgaaGreatDoorMg18
import Derived.Test.YtijpbkakncglgaaGreatDoorMg21
set_option linter.unusedVariables false
set_option linter.unusedSimpArgs false
set_option maxHeartbeats 4000000
set_option maxRecDepth 100000
namespace Go.Proofs.YtijpbkakncglgaaGreatDoor
open Go.RowKit
def mixL (f:Int→Int) (E:List Int) (i:Nat):List Int:=(E.take i).map f++E.drop i
theorem mixL_len (f:Int→Int) (E:List Int) (i:Nat):(mixL f E i).length=E.length:=by simp [mixL];omega
theorem mixL_zero (f:Int→Int) (E:List Int):mixL f E 0=E:=by simp [mixL]
theorem mixL_full (f:Int→Int) (E:List Int):mixL f E E.length=E.map f:=by simp [mixL]
theorem mixL_at (f:Int→Int) (E:List Int) {i:Nat} (h:i<E.length):(mixL f E i)[i]?=some (E.getD i 0):=by
 unfold mixL
 rw [List.getElem?_append_right (by simp;omega)]
 rw [zE,List.length_take,Nat.min_eq_left (by omega),Nat.sub_self,List.getElem?_drop,Nat.add_zero,zF h,zD,zF h]
 rfl
theorem mixL_set (f:Int→Int) (E:List Int) {i:Nat} (h:i<E.length):(mixL f E i).set i (f (E.getD i 0))=mixL f E (i+1):=by
 unfold mixL
 have hl:((E.take i).map f).length=i:=by simp;omega
 rw [List.set_append_right _ _ (by omega),hl,Nat.sub_self,List.drop_eq_getElem_cons h,List.set_cons_zero,take_snoc' E h,List.map_append,List.append_assoc]
 congr 2
 rw [zD,zF h]
 rfl
def foreF (l:List Int) (W H d:Nat):List Int:=(foreL l W H d (bestKinds l W H d)).map fun v=>foldI v d
theorem foreF_len (l:List Int) (W H d:Nat):(foreF l W H d).length=W*H:=by simp [foreF,foreL_len]
def planBits (e:List Int) (n:Nat):List Nat :=
 bitsP (bestPlan n 0 4 e).order (bestPlan n 0 4 e).ks (splitL (sizesL (bestPlan n 0 4 e).order n 0) e)
def kindsI (l:List Int) (W H d:Nat):List Int:=(bestKinds l W H d).map Int.ofNat
def guessedBits (l:List Int) (W H d:Nat):List Nat:=allOf (kindsI l W H d) 4++planBits (foreF l W H d) (W*H)
theorem kindsI_len (l:List Int) (W H d:Nat):(kindsI l W H d).length=H:=by simp [kindsI,bestKinds_len]
theorem kindsI_ok (l:List Int) (W H d:Nat):SmpOk 4 (kindsI l W H d):=by
 intro s hs
 obtain ⟨k,hk,rfl⟩:=List.mem_map.1 hs
 have:=bestKinds_ok l W H d k hk
 show (0:Int)≤(k:Int)∧(k:Int)<2^4
 omega
theorem kindsI_vi (l:List Int) (W H d:Nat):(bestKinds l W H d).map i64=(kindsI l W H d).map vi:=by
 unfold kindsI
 rw [List.map_map]
 rfl
theorem foreF_wide (l:List Int) (W H d:Nat) (h0:1≤d) (h1:d≤16):∀ x∈foreF l W H d,wideP x:=by
 intro x hx
 obtain ⟨v,_,rfl⟩:=List.mem_map.1 hx
 have:=errRange16 h1 (foldI_range v h0)
 unfold wideP
 omega
theorem ksOk_best {n:Nat} (e:List Int):KsOk (bestPlan n 0 4 e).ks:=by
 have h:=bestPlan_ok (n:=n) (warm:=0) (most:=4) (by omega) e
 rw [h.1.2.1]
 intro k hk
 obtain ⟨p,_,rfl⟩:=List.mem_map.1 hk
 exact chooseK_ok p
theorem ks_len_best {n:Nat} (e:List Int):(bestPlan n 0 4 e).ks.length=(sizesL (bestPlan n 0 4 e).order n 0).length:=by
 have h:=bestPlan_ok (n:=n) (warm:=0) (most:=4) (by omega) e
 have h2:=congrArg List.length h.1.2.1
 unfold planOf at h2
 rw [zE,splitL_len] at h2
 exact h2
theorem putGuessed_ok (w:World) (b:Nat) (F bs:List Nat) (l:List Int) (A:Option Addr) (cap W H d:Nat) (h:IsWr w b F bs) (hw0:1≤W) (hw1:W≤16) (hh0:1≤H) (hh1:H≤16) (h0:1≤d) (h1:d≤16) (hl:l.length=W*H) (hs:SmpOk d l) (hc:Cells vi w A l) (hA:Apt A l F) (hbs:bs.length<68719476736) :
  Calls Tryz.prog 88 #[.pointer (some ⟨b,0,none⟩),.slice A l.length cap,.int .i64 W,.int .i64 H,.int .i64 d] w fun e w'=>e=.returned (.tuple #[])∧∃ F',IsWr w' b F' (bs++guessedBits l W H d)∧Grow F F' w w':=by
 have hm256:l.length≤256:=by rw [hl];exact Nat.mul_le_mul hw1 hh1
 have hm1:1≤l.length:=by rw [hl];exact Nat.mul_le_mul hw0 hh0
 have hgb:=gbest_ok l A cap W H d w hw0 (by omega) hh0 (by omega) h0 h1 hl hs hc
 have hgf:=fun Ak capk w hc hck=>gfore_ok l A cap W H d (bestKinds l W H d) Ak capk w hw0 (by omega) hh0 (by omega) h0 h1 hl hs hc (bestKinds_len l W H d) (bestKinds_ok l W H d) hck
 have hel:=foreL_len l W H d (bestKinds l W H d)
 have hfl:=foreF_len l W H d
 have hfw:=foreF_wide l W H d h0 h1
 have hgbits:guessedBits l W H d=allOf (kindsI l W H d) 4++planBits (foreF l W H d) (W*H):=rfl
 rw [←hl] at hel hfl hgbits
 have hki:=kindsI_vi l W H d
 have hkl:=kindsI_len l W H d
 have hko:=kindsI_ok l W H d
 have hff:foreF l W H d=(foreL l W H d (bestKinds l W H d)).map fun v=>foldI v d:=rfl
 rw [hki] at hgb
 rw [bestKinds_len] at hgf
 have hck':∀ Ak w,Cells vi w Ak (kindsI l W H d)→Cells i64 w Ak (bestKinds l W H d):=fun Ak w h=>Cells.map (f:=vi) (k:=Int.ofNat) h
 generalize foreL l W H d (bestKinds l W H d)=E at *
 obtain ⟨EF,hEF⟩:∃ EF,EF=foreF l W H d:=⟨_,rfl⟩
 rw [←hEF] at hfl hfw hgbits hff
 obtain ⟨K,hK⟩:∃ K,K=kindsI l W H d:=⟨_,rfl⟩
 rw [←hK] at hgb hkl hko hgbits hck'
 rw [hgbits]
 have hlt:∀ x∈F,x<w.heap.size:=h.lt
 obtain ⟨m,hm⟩:∃ m,m=l.length:=⟨_,rfl⟩
 rw [←hm] at hgb hgf hel hfl hm256 hm1 ⊢
 have hko':=ksOk_best (n:=m) EF
 have hkl':=ks_len_best (n:=m) EF
 have hpo:=bestPlan_ok (n:=m) (warm:=0) (most:=4) (by omega) EF
 have hpb:planBits EF m=bitsP (bestPlan m 0 4 EF).order (bestPlan m 0 4 EF).ks (splitL (sizesL (bestPlan m 0 4 EF).order m 0) EF):=rfl
 rw [hpb]
 have hpn:=hpo.1.1
 have hpo8:=hpo.2.1
 have HKLEN:=hid hkl
 have HGF:=hid hgf
 have HCK:=hid hck'
 have HLT:=hid hlt
 have HFW:=hid hfw
 have HFF:=hid hff
 have HKO:=hid hko
 have HKO':=hid hko'
 have HKL':=hid hkl'
 have HPN:=hid hpn
 have HM:=hid hm
 have HA:=hid hA
 clear hgf hck' hlt hfw hff hko hko' hkl' hpn hm hl hs hgbits hEF hK hki hpo hpb hA hkl
 go_enter Tryz.func88,Tryz.ntmps88
 go_wp2_with fail
 refine hgb.mono ?_
 rintro e w1 ⟨v1,G1,rfl,own1,ch1,hG1⟩
 obtain ⟨A1,c1,rfl,hcp1,hcm1,hc1⟩:=own1.open_map
 have hap1:Apt A1 K F:=own1.apt (fun x hx hm=>by have:=HLT.out x hm;have:=hG1 x hx;omega)
 clear hgb own1
 go_wp2_with fail
 refine (putAll_ok w1 b F bs K A1 c1 4 (h.same ch1) (by omega) (by have:=HKLEN.out;omega) HKO.out hc1 hap1 (by omega)).mono ?_
 rintro e w2 ⟨rfl,F2,hwr2,hgr2⟩
 have hgrw:=Grow.pre ch1 hgr2
 have hc2:=hc.keep HA.out hgrw.chg
 have hc1':=hc1.keep hap1 hgr2.chg
 clear hgr2 hap1 hc1 h
 have hgf:=HGF.out A1 c1 w2 hc2 (HCK.out _ _ hc1')
 rw [HKLEN.out]
 clear hc1'
 go_wp2_with fail
 refine hgf.mono ?_
 rintro e w3 ⟨v3,G3,rfl,own3,ch3,hG3⟩
 have hsz:=hgrw.size
 have hcase:=own3.cases
 rcases hcase with ⟨_,hnil,_⟩ | ⟨g3,row3,rfl⟩
 ·exfalso
  have:=congrArg List.length hnil
  rw [zE,hel] at this
  simp at this
  omega
 obtain ⟨cap3,rfl,hcp3,hcm3,_,_⟩:=row3.open_map
 have hg3:w2.heap.size≤g3:=hG3 g3 (by simp)
 have hwr3:=hwr2.same ch3
 have hg3F:g3∉F2:=fun hm=>by have:=hwr2.lt _ hm;omega
 clear hgf own3 hG3 hwr2
 rw [hel] at hcp3 row3 ⊢
 go_wp2_with fail
 go_loopg [35] m (fun j iv wr=>∃ (i:Nat),iv=.int .i64 i∧i+j=m∧Row wr 3 (.slice (some ⟨g3,0,none⟩) m cap3) g3 ((mixL (fun v=>foldI v d) E i).map vi)∧Chg [g3] w3 wr)
 case atStart=>exact ⟨0,rfl,by omega,by rw [mixL_zero];exact row3,Chg.refl _ _⟩
 case round =>
  clear row3
  obtain ⟨i,rfl,hij,hrow,hch⟩:=hrel
  rcases gk with _ | j
  ·obtain rfl:i=m:=by omega
   rw [←hel,mixL_full,←HFF.out,hel] at hrow
   have hcF:Cells vi wr (some ⟨g3,0,none⟩) EF:=by
    have:=hrow.toOwn.cells
    exact this
   have hap3:Apt (some ⟨g3,0,none⟩) EF F2:=hrow.toOwn.apt (fun x hx=>by rw [List.mem_singleton.1 hx];exact hg3F)
   have hwr4:=hwr3.chg hch (fun x hx hm=>by rw [List.mem_singleton.1 hm] at hx;exact hg3F hx)
   have hgr4:Grow F F2 w wr:=⟨hgrw.chg.trans (ch3.trans hch (fun x hx=>by rw [List.mem_singleton.1 hx];exact .inr hg3)) (by simp),hgrw.new⟩
   have hbest:=pbest_ok i 0 4 EF (some ⟨g3,0,none⟩) cap3 wr hm1 (by omega) (by omega) (by omega) (by omega) HFW.out hcF (by omega) hcm3
   rw [hfl] at hbest
   clear hwr3 hgrw hrow hc2
   go_wp2_with fail
   refine hbest.mono ?_
   rintro e w5 ⟨v5,G5,rfl,own5,ch5,hG5⟩
   obtain ⟨A5,c5,rfl,hcp5,hcm5,hc5⟩:=own5.open_map
   have hsz4:=hgr4.size
   have hlt4:=hwr4.lt
   have hap5:Apt A5 (bestPlan i 0 4 EF).ks F2:=own5.apt (fun x hx hm=>by have:=hlt4 x hm;have:=hG5 x hx;omega)
   have hwr5:=hwr4.same ch5
   have hcF5:=hcF.same ch5
   have hgr5:=hgr4.same ch5
   clear hbest own5 hwr4 hcF hgr4 hG5 hlt4
   have HAL:=hid (allOf_len K 4)
   obtain ⟨ks,hks⟩:∃ ks,ks=(bestPlan i 0 4 EF).ks:=⟨_,rfl⟩
   obtain ⟨po,hpo⟩:∃ po,po=(bestPlan i 0 4 EF).order:=⟨_,rfl⟩
   have hkl':=HKL'.out
   have hpn:=HPN.out
   have hko':=HKO'.out
   rw [←hks,←hpo] at hkl'
   rw [←hpo] at hpn hpo8
   rw [←hks] at hko' hc5 hap5 hcp5
   rw [←hks,←hpo]
   have HKS:=hid hks
   have HPO:=hid hpo
   have HKL2:=hid hkl'
   have HPN2:=hid hpn
   have HKO2:=hid hko'
   clear hks hpo hkl' hpn hko'
   have hput:=fun o=>pput_ok _ b F2 _ po i 0 ks A5 c5 EF (some ⟨g3,0,none⟩) cap3 (hwr5.same ((Chg.refl [] w5).alloc o)) (by omega) hm1 (by omega) (by omega) HPN2.out HKL2.out HKO2.out (hc5.same ((Chg.refl [] w5).alloc _)) (by omega) HFW.out (hcF5.same ((Chg.refl [] w5).alloc _)) (by omega) hcm3 hap5 hap3 (by rw [zC,HAL.out];have:=HKLEN.out;omega)
   rw [hfl] at hput
   go_wp2_with fail
   refine (hput _).mono ?_
   rintro e w6 ⟨rfl,F6,hwr6,hgr6⟩
   go_wp2_with fail
   go_end0
   refine ⟨rfl,F6,?_,hgr5.trans (Grow.pre ((Chg.refl [] w5).alloc _) hgr6)⟩
   rw [←List.append_assoc,←HKS.out,←HPO.out]
   exact hwr6
  ·have him:i<m:=by omega
   have hiE:i<E.length:=by rw [hel];exact him
   obtain ⟨cap',heq,_,_,hcell,hfro⟩:=hrow.open_map
   have hce:=hcell i _ (mixL_at (fun v=>foldI v d) E hiE)
   have hfr:=hfro i
   have hset:=hrow.set_ (i:=i) (by rw [zE,mixL_len];exact hiE) (vi (foldI (E.getD i 0) d))
   rw [←List.map_set,mixL_set (fun v=>foldI v d) E hiE] at hset
   have hfd:=fun w=>fold_ok (E.getD i 0) d w h0 h1
   generalize E.getD i 0=x at *
   obtain ⟨y,hy⟩:∃ y,y=foldI x d:=⟨_,rfl⟩
   rw [←hy] at hset hfd
   have hce':wr.cell? ⟨g3,i,none⟩=some (.int .i64 x):=hce
   have hset':Row (wr.setCell ⟨g3,i,none⟩ (.int .i64 y)) _ _ _ _:=hset
   clear heq hcell hfro hce hset hy hrow
   go_wp2_with (go_at_call 67;refine (hfd _).mono ?_;rintro e w' ⟨rfl,rfl⟩)
   go_roundg j
   case measure=>omega
   case rel =>
    exact ⟨i+1,by go_num,by omega,hset',hch.setCell (.inl (by simp)) _⟩
end Go.Proofs.YtijpbkakncglgaaGreatDoor
