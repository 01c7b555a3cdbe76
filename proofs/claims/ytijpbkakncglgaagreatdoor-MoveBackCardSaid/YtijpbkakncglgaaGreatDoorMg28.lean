/- package tile by its contracts, the eighth part: putRanged. -/
import Derived.Test.YtijpbkakncglgaaGreatDoorMg24
import Derived.Test.YtijpbkakncglgaaGreatDoorMg27
set_option linter.unusedVariables false
set_option linter.unusedSimpArgs false
set_option maxHeartbeats 2000000
set_option maxRecDepth 100000
namespace Go.Proofs.YtijpbkakncglgaaGreatDoor
open Go.RowKit
def clsN (l:List Int) (W d i:Nat):Nat:=(classI (nbrAt l W i) d).toNat
theorem clsN_le (l:List Int) (W d i:Nat):clsN l W d i≤12:=by
 have:=classI_ok (nbrAt l W i) d
 unfold clsN
 omega
theorem clsN_cast (l:List Int) (W d i:Nat):((clsN l W d i:Nat):Int)=classI (nbrAt l W i) d:=by
 have:=classI_ok (nbrAt l W i) d
 unfold clsN
 omega
def codR (l:List Int) (W d:Nat):Nat→Cod
 | 0=>newCod 429
 | i+1=>numL (codR l W d i) (33*clsN l W d i) (foldOf l W d i)
theorem codR_ok (l:List Int) (W:Nat) {d:Nat} (h0:1≤d) (h1:d≤16):∀ i,CodOk (codR l W d i)∧(codR l W d i).odds.length=429∧(codR l W d i).low.length≤4+65*i
 | 0=>⟨newCod_ok _,List.length_replicate,by show ([0,0,0,0]:List Nat).length≤4+65*0;decide⟩
 | i+1=>by
  obtain ⟨k1,k2,k3⟩:=codR_ok l W h0 h1 i
  have hc:=clsN_le l W d i
  have hf:=foldOf_lt l W h0 i
  have hf2:foldOf l W d i<4294967296:=Nat.lt_of_lt_of_le hf (Nat.le_trans (Nat.pow_le_pow_right (n:=2) (by decide) h1) (by decide))
  have h5:=numL_len (codR l W d i) (33*clsN l W d i) hf2
  exact ⟨numL_ok k1 hf2 (by omega),by unfold codR;rw [numL_odds_len,k2],by unfold codR;omega⟩
def rangedL (l:List Int) (W d:Nat):List Nat:=(codR l W d l.length).low
def rangedBits (l:List Int) (W d:Nat):List Nat:=bitsOf (rangedL l W d).length 16++(rangedL l W d).flatMap fun x=>bitsOf x 8
theorem rangedL_len (l:List Int) (W:Nat) {d:Nat} (h0:1≤d) (h1:d≤16):(rangedL l W d).length≤4+65*l.length:=(codR_ok l W h0 h1 l.length).2.2
theorem rangedL_lt (l:List Int) (W:Nat) {d:Nat} (h0:1≤d) (h1:d≤16):∀ x∈rangedL l W d,x<256:=(codR_ok l W h0 h1 l.length).1.dig
theorem putRanged_ok (w:World) (b:Nat) (F bs:List Nat) (l:List Int) (A:Option Addr) (cap W d:Nat) (h:IsWr w b F bs) (hw0:1≤W) (hw1:W≤16) (h0:1≤d) (h1:d≤16) (hl:l.length≤256) (hlW:l.length≤64*W) (hs:SmpOk d l) (hc:Cells vi w A l) (hA:Apt A l F) (hbs:bs.length<68719476736) :
  Calls Tryz.prog 92 #[.pointer (some ⟨b,0,none⟩),.slice A l.length cap,.int .i64 W,.int .i64 d] w fun e w'=>e=.returned (.tuple #[])∧∃ F',IsWr w' b F' (bs++rangedBits l W d)∧Grow F F' w w':=by
 have hfo:=fun w hc=>folded_ok l A cap W d w h0 h1 hw0 (by omega) hlW hs hc (by omega)
 have hnear:=fun i (hi:i<l.length) w hc=>tnear_ok l A cap W d i w h0 h1 hw0 (by omega) (by omega) (by omega) hs hc (by omega)
 have hrb:rangedBits l W d=bitsOf (rangedL l W d).length 16++(rangedL l W d).flatMap fun x=>bitsOf x 8:=rfl
 have hrl:=rangedL_len l W h0 h1
 have hrt:=rangedL_lt l W h0 h1
 have hrd:rangedL l W d=(codR l W d l.length).low:=rfl
 rw [hrb]
 obtain ⟨R,hR⟩:∃ R,R=rangedL l W d:=⟨_,rfl⟩
 rw [←hR] at hrl hrt hrd ⊢
 have hfl:=foldedL_len l W d
 have hfg:∀ i,i<l.length→(foldedL l W d)[i]?=some (foldOf l W d i:Int):=fun i hi=>by simp [foldedL,foldedN,hi]
 have hflt:=fun i=>foldOf_lt l W h0 i
 have hcok:=fun i=>codR_ok l W h0 h1 i
 obtain ⟨f,hf⟩:∃ f,f=foldedL l W d:=⟨_,rfl⟩
 rw [←hf] at hfo hfl hfg
 obtain ⟨n,hn⟩:∃ n,n=l.length:=⟨_,rfl⟩
 rw [←hn] at hfo hnear hrl hrd hfl hfg hl ⊢
 have hlt:=h.lt
 have HFO:=hid hfo
 have HN:=hid hnear
 have HRT:=hid hrt
 have HRD:=hid hrd
 have HRL:=hid hrl
 have HFL:=hid hfl
 have HFG:=hid hfg
 have HFLT:=hid hflt
 have HCOK:=hid hcok
 have HLN:=hid hn
 have HA:=hid hA
 have HLT:=hid hlt
 clear hfo hnear hrt hrd hrl hfl hfg hflt hcok hn hA hlt hrb hR hf hs hlW
 go_enter Tryz.func92,Tryz.ntmps92
 go_wp2_with fail
 have hnc:=newCoder_ok 429 w (by omega) (by omega)
 refine hnc.mono ?_
 rintro e w1 ⟨cb,cg,ch,rfl,hcod,ch1,hb1,hb2,hb3⟩
 have hf1:=HFO.out w1 (hc.same ch1)
 clear hnc
 go_wp2_with fail
 refine hf1.mono ?_
 rintro e w2 ⟨fv,fg,rfl,hrow,ch2,hfg2⟩
 obtain ⟨fc,rfl,hfc,hfm,_,_⟩:=hrow.open_map
 rw [HFL.out] at hfc ⊢
 have hcf:Cells vi w2 (some ⟨fg,0,none⟩) f:=hrow.toOwn.cells
 have hcod2:=hcod.same ch2
 have hs1:=ch1.size
 have hlt1:=hcod.lt
 have ch12:=ch1.trans_same ch2
 clear hf1 hrow ch1 ch2 hcod
 go_wp2_with fail
 go_loopg [28] n (fun j iv wr=>∃ (i g':Nat),iv=.int .i64 i∧i+j=n∧IsCod 207 wr cb g' ch (codR l W d i)∧Cells vi wr (some ⟨fg,0,none⟩) f∧w.heap.size≤g'∧g'≠fg∧Chg [] w wr)
 case atStart=>exact ⟨0,cg,rfl,by omega,hcod2,hcf,hb2,by omega,ch12⟩
 case round =>
  clear hcod2 hcf ch12
  obtain ⟨i,g',rfl,hij,hcod,hcf,hg',hgf,hch⟩:=hrel
  have hck:=HCOK.out i
  rcases gk with _ | j
  ·obtain rfl:i=n:=by omega
   have hby:=bytes_ok wr cb g' ch _ hcod hck.1 (by have:=hck.2.2;omega)
   rw [←HRD.out] at hby
   clear hck hcod
   have HRD2:=HRD
   have hr1:R.length<2^16:=by have:=HRL.out;omega
   obtain ⟨r,hr⟩:∃ r,r=R.length:=⟨_,rfl⟩
   rw [←hr] at hby hr1
   have HR:=hid hr
   clear hr
   go_wp2_with fail
   refine hby.mono ?_
   rintro e w3 ⟨g3,c3,rfl,hrow3,ch3,hg3⟩
   have hwr3:=h.same (hch.trans_same ch3)
   have hcR:Cells b8 w3 (some ⟨g3,0,none⟩) R:=hrow3.toOwn.cells
   have hs3:=hch.size
   have hap:Apt (some ⟨g3,0,none⟩) R F:=fun _ ad e hm=>by
    injection e with e
    subst e
    have:=HLT.out _ hm
    simp at this
    omega
   have ch03:=hch.trans_same ch3
   clear hby hrow3 hcf h
   go_wp2_with fail
   have hr2:r<65536:=hr1
   refine (wput_ok w3 b F bs r 16 hwr3 (by omega) hr1 (by omega)).mono ?_
   rintro e w4 ⟨rfl,F4,hwr4,hgr4⟩
   have hcR4:=hcR.keep hap hgr4.chg
   have hap4:=hap.grow hcR hgr4
   have hgr:=Grow.pre ch03 hgr4
   clear hwr3 hcR hap hgr4
   go_wp2_with fail
   go_loopg [57] r (fun j iv wr=>∃ (q:Nat) (F' bs':List Nat),iv=.int .i64 q∧q+j=r∧IsWr wr b F' bs'∧Hid (bs'=bs++bitsOf r 16++(R.take q).flatMap fun x=>bitsOf x 8)∧bs'.length≤bs.length+16+8*q∧Cells b8 wr (some ⟨g3,0,none⟩) R∧Apt (some ⟨g3,0,none⟩) R F'∧Grow F F' w wr)
   case atStart=>exact ⟨0,F4,_,rfl,by omega,hwr4,hid (by simp),by rw [zC,bitsOf_len];omega,hcR4,hap4,hgr⟩
   case round =>
    clear hwr4 hcR4 hap4 hgr
    obtain ⟨q,F',bs',rfl,hqj,hwr,Hb,hbl,hcR,hap,hgr⟩:=hrel
    rcases gk with _ | j
    ·obtain rfl:q=r:=by omega
     go_wp2
     go_end0
     refine ⟨rfl,F',?_,hgr⟩
     have e:R.take q=R:=by rw [HR.out,List.take_length]
     have h5:=Hb.out
     rw [e,List.append_assoc] at h5
     rw [←HR.out,←h5]
     exact hwr
    ·have hqr:q<r:=by omega
     have hqR:q<R.length:=by rw [←HR.out];exact hqr
     obtain ⟨g5,o5,e5,cl⟩:=hcR.at_ hqR
     injection e5 with e5
     injection e5 with e5 e6 _
     subst e5
     subst e6
     have hx8:=HRT.out R[q] (zG hqR)
     have htk:(R.take (q+1)).flatMap (fun x=>bitsOf x 8)=(R.take q).flatMap (fun x=>bitsOf x 8)++bitsOf R[q] 8:=by rw [take_snoc' R hqR,List.flatMap_append,List.flatMap_cons,List.flatMap_nil,List.append_nil]
     obtain ⟨x,hx⟩:∃ x,x=R[q]:=⟨_,rfl⟩
     rw [←hx] at cl hx8 htk
     have cl':wr.cell? ⟨g3,0+q,none⟩=some (.int .u8 x):=cl
     rw [Nat.zero_add] at cl'
     have hx9:x<2^8:=hx8
     have HTK:=hid htk
     clear htk hx cl hqR
     go_wp2_with fail
     refine (wput_ok wr b F' bs' x 8 hwr (by omega) hx9 (by omega)).mono ?_
     rintro e w5 ⟨rfl,F5,hwr5,hgr5⟩
     go_wp2_with fail
     go_roundg j
     case measure=>omega
     case rel =>
      refine ⟨q+1,F5,_,by go_num,by omega,hwr5,hid ?_,?_,hcR.keep hap hgr5.chg,hap.grow hcR hgr5,hgr.trans hgr5⟩
      ·rw [HTK.out,Hb.out];simp only [List.append_assoc]
      ·rw [zC,bitsOf_len];omega
  ·have him:i<n:=by omega
   have hfi:=HFG.out i him
   have hil:i<f.length:=by rw [HFL.out];exact him
   obtain ⟨g5,o5,e5,_,hcc⟩:=hcf.ex (by omega)
   injection e5 with e5
   injection e5 with e5 e6 _
   subst e5
   subst e6
   have cl:=hcc i _ hfi
   rw [Nat.zero_add] at cl
   have cl':wr.cell? ⟨fg,i,none⟩=some (.int .i64 (foldOf l W d i:Int)):=cl
   have hnr:=HN.out i him wr (hc.same hch)
   rw [←clsN_cast] at hnr
   have hcl:=clsN_le l W d i
   have hstep:codR l W d (i+1)=numL (codR l W d i) (33*clsN l W d i) (foldOf l W d i):=rfl
   have hflt:=HFLT.out i
   have hf16:foldOf l W d i<65536:=Nat.lt_of_lt_of_le hflt (Nat.pow_le_pow_right (n:=2) (by decide) h1)
   obtain ⟨v,hv⟩:∃ v,v=foldOf l W d i:=⟨_,rfl⟩
   rw [←hv] at cl' hstep hf16
   obtain ⟨k,hk⟩:∃ k,k=clsN l W d i:=⟨_,rfl⟩
   rw [←hk] at hnr hcl hstep
   have hnum:=fun w hc=>num_ok w cb g' ch (codR l W d i) (33*k) v hc hck.1 (by rw [hck.2.1];omega) (by omega) (by have:=hck.2.2;omega)
   rw [←hstep] at hnum
   generalize guessI 7 (nbrAt l W i) d=gs at *
   have hlw:=hcod.lt
   have HNUM:=hid hnum
   have HCC:=hid hcf
   clear hstep hk hv hflt hnum cl hcc hfi hil hck
   go_wp2_with fail
   refine hnr.mono ?_
   rintro e w3 ⟨rfl,ch3⟩
   have hn3:=HNUM.out w3 (hcod.same ch3)
   have e33:((33*k:Nat):Int)=33*(k:Int):=by simp
   rw [e33] at hn3
   clear hnr
   go_wp2_with fail
   refine hn3.mono ?_
   rintro e w4 ⟨rfl,g4,hcod4,ch4,hg4⟩
   go_wp2_with fail
   go_roundg j
   case measure=>omega
   case rel =>
    have hs3:=ch3.size
    have hs0:=hch.size
    refine ⟨i+1,g4,by go_num,by omega,hcod4,?_,?_,?_,?_⟩
    ·exact (HCC.out.same ch3).chg ch4 (fun ad e hm=>by
      injection e with e
      subst e
      simp at hm
      omega)
    ·omega
    ·obtain ⟨b9,o9,e9,hb9,_⟩:=HCC.out.ex (by rw [HFL.out];omega)
     injection e9 with e9
     injection e9 with e9 _ _
     omega
    ·exact (hch.trans_same ch3).trans ch4 (fun x hx=>by
      simp at hx
      omega)
end Go.Proofs.YtijpbkakncglgaaGreatDoor
