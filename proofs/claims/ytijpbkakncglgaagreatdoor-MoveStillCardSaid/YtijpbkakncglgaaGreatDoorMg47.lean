/- package octet by its contracts: Big of four bytes; slices.Reverse of four bytes. -/
import Derived.Test.YtijpbkakncglgaaGreatDoorMg36
import Derived.Test.YtijpbkakncglgaaGreatDoorMg04
set_option linter.unusedVariables false
set_option linter.unusedSimpArgs false
set_option maxHeartbeats 1000000
set_option maxRecDepth 100000
namespace Go.Proofs.YtijpbkakncglgaaGreatDoor
open Go.RowKit
theorem alloc_size' (w:World) (o:Obj):(w.alloc o).heap.size=w.heap.size+1:=by
 show (w.heap.push o).size=_
 exact Array.size_push _
def revK (i a b c d:Nat):List Nat:=if i=0 then [a,b,c,d] else if i=1 then [d,b,c,a] else [d,c,b,a]
theorem rev4_ok (w:World) (g a b c d cap:Nat) (h:Row w 5 (.slice (some ⟨g,0,none⟩) 4 cap) g ([a,b,c,d].map b8)) :
  Calls Tryz.prog 73 #[.slice (some ⟨g,0,none⟩) 4 cap] w fun e w'=>e=.returned (.tuple #[])∧Row w' 5 (.slice (some ⟨g,0,none⟩) 4 cap) g ([d,c,b,a].map b8)∧Chg [g] w w':=by
 have HH:=hid h
 clear h
 go_enter Tryz.func73,Tryz.ntmps73
 go_wp2_with fail
 go_loopg [2,3] 2 (fun k s2 s3 wr=>∃ i:Nat,i+k=2∧s2=.int .i64 (i:Int)∧s3=.int .i64 (3-(i:Int))∧Hid (Row wr 5 (.slice (some ⟨g,0,none⟩) 4 cap) g ((revK i a b c d).map b8))∧Hid (Chg [g] w wr))
 case atStart=>exact ⟨0,rfl,rfl,rfl,hid HH.out,hid (Chg.refl _ _)⟩
 case round =>
  obtain ⟨i,hik,rfl,rfl,HR,HC⟩:=hrel
  rcases (show i=0∨i=1∨i=2 by omega) with rfl | rfl | rfl
  ·obtain ⟨_,_,_,_,hce,hfr⟩:=HR.out.open_
   have c0:=hce 0 (by simp [revK])
   have c3:=hce 3 (by simp [revK])
   have f0:=hfr 0
   have f3:=hfr 3
   simp [revK,b8] at c0 c3
   obtain rfl:gk=2:=by omega
   have hrow:Row ((wr.setCell ⟨g,0,none⟩ (.int .u8 (d:Int))).setCell ⟨g,3,none⟩ (.int .u8 (a:Int))).drew 5 (.slice (some ⟨g,0,none⟩) 4 cap) g ((revK 1 a b c d).map b8) :=
    ((HR.out.set_ (i:=0) (by simp [revK]) (.int .u8 (d:Int))).set_ (i:=3) (by simp [revK]) (.int .u8 (a:Int))).drew
   have HROW:=hid hrow
   have HCH:=hid (((HC.out.setCell (p:=⟨g,0,none⟩) (.inl (by simp)) (.int .u8 (d:Int))).setCell (p:=⟨g,3,none⟩) (.inl (by simp)) (.int .u8 (a:Int))).drew)
   clear hce hfr hik hrow
   go_wp2_with fail
   go_region
   go_wp2
   go_roundg 1
   case measure=>omega
   case rel=>exact ⟨1,rfl,by go_num,by go_num,HROW,HCH⟩
  ·obtain ⟨_,_,_,_,hce,hfr⟩:=HR.out.open_
   have c1:=hce 1 (by simp [revK])
   have c2:=hce 2 (by simp [revK])
   have f1:=hfr 1
   have f2:=hfr 2
   simp [revK,b8] at c1 c2
   obtain rfl:gk=1:=by omega
   have hrow:Row ((wr.setCell ⟨g,1,none⟩ (.int .u8 (c:Int))).setCell ⟨g,2,none⟩ (.int .u8 (b:Int))).drew 5 (.slice (some ⟨g,0,none⟩) 4 cap) g ((revK 2 a b c d).map b8) :=
    ((HR.out.set_ (i:=1) (by simp [revK]) (.int .u8 (c:Int))).set_ (i:=2) (by simp [revK]) (.int .u8 (b:Int))).drew
   have HROW:=hid hrow
   have HCH:=hid (((HC.out.setCell (p:=⟨g,1,none⟩) (.inl (by simp)) (.int .u8 (c:Int))).setCell (p:=⟨g,2,none⟩) (.inl (by simp)) (.int .u8 (b:Int))).drew)
   clear hce hfr hik hrow
   go_wp2_with fail
   go_region
   go_wp2
   go_roundg 0
   case measure=>omega
   case rel=>exact ⟨2,rfl,by go_num,by go_num,HROW,HCH⟩
  ·go_wp2
   go_end0
   exact ⟨rfl,HR.out,HC.out⟩
theorem clamp4_ok (w:World):Calls Tryz.prog 95 #[.int .i64 4] w fun e w'=>e=.returned (.int .i64 4)∧w=w':=by
 go_enter Tryz.func95,Tryz.ntmps95
 go_wp2
 go_ret
 exact ⟨rfl,rfl⟩
def lowL (n i:Nat):List Nat:=(List.range i).map fun k=>n / 256^k%256
theorem lowL_succ (n i:Nat):lowL n (i+1)=lowL n i++[n / 256^i%256]:=by simp [lowL,List.range_succ]
theorem lowL_four (n:Nat):lowL n 4=[n%256,n / 256%256,n / 65536%256,n / 16777216%256]:=by simp [lowL,List.range_succ]
theorem small4_ok (n:Nat) (hn:n<4294967296) (w:World) :
  Calls Tryz.prog 72 #[.int .u64 (n:Int),.int .i64 4] w fun e w'=>∃ (g cap:Nat),e=.returned (.slice (some ⟨g,0,none⟩) 4 cap)∧Row w' 5 (.slice (some ⟨g,0,none⟩) 4 cap) g ((lowL n 4).map b8)∧Chg [] w w'∧w.heap.size≤g:=by
 have hcl:=fun w'=>clamp4_ok w'
 go_enter Tryz.func72,Tryz.ntmps72
 go_wp2_with fail
 refine (hcl _).mono ?_
 rintro e w' ⟨rfl,rfl⟩
 go_wp2_with fail
 go_loopg [0,5,8] 4 (fun j v0 v5 v8 wr=>∃ (i m:Nat) (F:List Nat),v8=.int .i64 (i:Int)∧i+j=4∧v0=.int .u64 (m:Int)∧Hid (m=n / 256^i)∧m<4294967296∧Hid (Own wr 5 v5 F ((lowL n i).map b8))∧Hid (Chg [] w wr)∧Hid (∀ x∈F,w.heap.size≤x)∧Hid (0<i→v5≠.slice none 0 0))
 case atStart=>exact ⟨0,n,[],rfl,rfl,rfl,hid (by simp),hn,hid (Own.nil _ _),hid (Chg.refl _ _),hid (by simp),hid (by simp)⟩
 case round =>
  obtain ⟨i,m,F,rfl,hij,rfl,HM,hm,HO,HC,HF,HV⟩:=hrel
  rcases gk with _ | j
  ·obtain rfl:i=4:=by omega
   rcases HO.out.cases with ⟨hv,_⟩ | ⟨g,hrow,hF⟩
   ·exact absurd hv (HV.out (by omega))
   ·obtain ⟨cap,rfl,_⟩:=hrow.open_map
    have hgn:=HF.out g (by rw [hF];simp)
    have HROW:=hid hrow
    clear hrow
    go_wp2
    go_ret
    exact ⟨g,cap,rfl,HROW.out,HC.out,hgn⟩
  ·have t1:decide ((i:Int)<4)=true:=decide_eq_true (by omega)
   have hmod:(m:Int)%256=((m%256:Nat):Int):=by omega
   have hdiv:(m:Int) / 256=((m / 256:Nat):Int):=by omega
   obtain ⟨r,hr⟩:∃ r,r=m%256:=⟨_,rfl⟩
   obtain ⟨q,hq⟩:∃ q,q=m / 256:=⟨_,rfl⟩
   rw [←hr] at hmod
   rw [←hq] at hdiv
   have hr8:r<256:=by omega
   have hq32:q<4294967296:=by omega
   have hnl:lowL n (i+1)=lowL n i++[r]:=by rw [lowL_succ,←HM.out,←hr]
   have hqe:q=n / 256^(i+1):=by rw [hq,HM.out,Nat.pow_succ,Nat.div_div_eq_div_mul]
   have HNL:=hid hnl
   have HQE:=hid hqe
   have hown:=HO.out.alloc (.cells #[.int .u8 (r:Int)] 5)
   have hw8:IntKind.u8.wrap (r:Int)=(r:Int):=by rw [IntKind.wrap_u8];omega
   have HLE:Hid ((lowL n i).length=i):=hid (by simp [lowL])
   clear hnl hqe hr hq
   go_wp2_with (at_builtin;refine wpList_append_o1 rfl rfl u8_elem rfl rfl hown (.int .u8 (r:Int)) rfl ?c1 ?c2 ?c3 ?c4 ?_)
   case c1=>simp [go_sem]
   case c2=>rfl
   case c3=>simp [HLE.out];omega
   case c4=>simp [HLE.out];omega
   intro g2 cap2 w2 hr2 gr2
   go_wp2_with fail
   go_roundg j
   case measure=>omega
   case rel =>
    refine ⟨i+1,q,[g2],by go_num,by omega,rfl,hid HQE.out,hq32,hid ?_,hid ?_,hid ?_,hid (by simp)⟩
    ·rw [HNL.out,List.map_append]
     exact hr2.toOwn
    ·exact (HC.out.trans_same ((Chg.refl [] wr).alloc _)).trans gr2.chg fun x hx => .inr (HF.out x hx)
    ·intro x hx
     rcases gr2.new x hx with h | h
     ·exact HF.out x h
     ·have:=HC.out.size;rw [alloc_size'] at h;omega
theorem big4_ok (n:Nat) (hn:n<4294967296) (w:World) :
  Calls Tryz.prog 55 #[.int .u64 (n:Int),.int .i64 4] w fun e w'=>∃ (g cap:Nat),e=.returned (.slice (some ⟨g,0,none⟩) 4 cap)∧Row w' 5 (.slice (some ⟨g,0,none⟩) 4 cap) g ((big4 n).map b8)∧Chg [] w w'∧w.heap.size≤g:=by
 have hsm:=small4_ok n hn w
 go_enter Tryz.func55,Tryz.ntmps55
 go_wp2_with fail
 refine hsm.mono ?_
 rintro e w1 ⟨g,cap,rfl,hrow,ch1,hg⟩
 rw [lowL_four] at hrow
 have hrv:=rev4_ok w1 g _ _ _ _ cap hrow
 clear hsm hrow
 go_wp2_with fail
 refine hrv.mono ?_
 rintro e w2 ⟨rfl,hrow2,ch2⟩
 go_wp2
 go_ret
 exact ⟨g,cap,rfl,hrow2,ch1.trans ch2 (fun x hx => .inr (by simp at hx;omega)),hg⟩
def padF (bs:List Nat):List Nat:=bs++List.replicate ((8-bs.length%8)%8) 0
theorem padF_len (bs:List Nat):(padF bs).length=8*((bs.length+7) / 8):=by
 unfold padF
 rw [List.length_append,List.length_replicate]
 omega
theorem walign_ok (w:World) (b:Nat) (F bs:List Nat) (h:IsWr w b F bs) (hlen:bs.length<549755813000) :
  Calls Tryz.prog 28 #[.pointer (some ⟨b,0,none⟩)] w fun e w'=>e=.returned (.tuple #[])∧∃ F',IsWr w' b F' (padF bs)∧Grow F F' w w':=by
 have HW:=hid h
 clear h
 go_enter Tryz.func28,Tryz.ntmps28
 go_wp2_with fail
 go_loopg [] ((8-bs.length%8)%8) (fun j wr=>∃ (i:Nat) (F':List Nat),i+j=(8-bs.length%8)%8∧Hid (IsWr wr b F' (bs++List.replicate i 0))∧Hid (Grow F F' w wr))
 case atStart=>exact ⟨0,F,by omega,hid (by simpa using HW.out),hid (Grow.refl _ _)⟩
 case round =>
  obtain ⟨i,F',hij,HR,HG⟩:=hrel
  obtain ⟨v,G,hb,-,-⟩:=HR.out.ex
  have c1:=hb.cell 1
  simp only [List.length_append,List.length_replicate] at c1
  simp at c1
  obtain ⟨q,hq⟩:∃ q,q=bs.length+i:=⟨_,rfl⟩
  have hqe:((bs.length:Int)+(i:Int))=(q:Int):=by omega
  rw [hqe] at c1
  rcases gk with _ | j
  ·have hm:(q:Int)%8=0:=by omega
   obtain rfl:i=(8-bs.length%8)%8:=by omega
   clear hb hq hqe
   go_wp2
   go_end0
   exact ⟨rfl,F',HR.out,HG.out⟩
  ·obtain ⟨r,hr⟩:∃ r,r=q%8:=⟨_,rfl⟩
   have hm:(q:Int)%8=(r:Int):=by omega
   have hr0:((r:Int) != 0)=true:=by rw [bne_iff_ne];omega
   have hbt:=bit_any wr b F' _ 0 HR.out (by omega) (by rw [List.length_append,List.length_replicate];omega)
   clear hb hq hqe hr
   go_wp2_with fail
   refine hbt.mono ?_
   rintro e w2 ⟨rfl,F2,hw2,hg2⟩
   go_wp2_with fail
   go_roundg j
   case measure=>omega
   case rel =>
    refine ⟨i+1,F2,by omega,hid ?_,hid (HG.out.trans hg2)⟩
    rw [List.replicate_succ',←List.append_assoc]
    exact hw2
theorem packed_dig {bs:List Nat} (h:∀ b∈bs,b<2):∀ d∈packed bs,d<256:=by
 intro d hd
 obtain ⟨i,_,rfl⟩:=List.mem_map.1 hd
 exact byteAt_lt h i
theorem bt_lt {bs:List Nat} (h:∀ b∈bs,b<2) (k:Nat):bt bs k<2:=by
 unfold bt
 rw [List.getD_eq_getElem?_getD]
 cases hx:bs[k]? with
 | none=>simp
 | some x=>exact h x (List.mem_of_getElem? hx)
theorem bitAt_packed {bs:List Nat} (h:∀ b∈bs,b<2) {i:Nat} (hi:i<bs.length):bitAt (packed bs) i=bt bs i:=by
 have hq:i / 8<(bs.length+7) / 8:=by omega
 have e:(packed bs).getD (i / 8) 0=byteAt bs (i / 8):=by
  rw [List.getD_eq_getElem?_getD]
  unfold packed
  rw [List.getElem?_map,List.getElem?_range hq]
  rfl
 unfold bitAt
 rw [e]
 obtain ⟨q,hqe⟩:∃ q,q=i / 8:=⟨_,rfl⟩
 obtain ⟨r,hre⟩:∃ r,r=i%8:=⟨_,rfl⟩
 have hie:i=8*q+r:=by omega
 have hr8:r<8:=by omega
 rw [←hqe,←hre,hie]
 have b0:=bt_lt h (8*q)
 have b1:=bt_lt h (8*q+1)
 have b2:=bt_lt h (8*q+2)
 have b3:=bt_lt h (8*q+3)
 have b4:=bt_lt h (8*q+4)
 have b5:=bt_lt h (8*q+5)
 have b6:=bt_lt h (8*q+6)
 have b7:=bt_lt h (8*q+7)
 unfold byteAt
 clear hqe hre hie hq e hi
 obtain rfl | rfl | rfl | rfl | rfl | rfl | rfl | rfl:r=0∨r=1∨r=2∨r=3∨r=4∨r=5∨r=6∨r=7:=by omega
 all_goals
  simp only [Nat.add_zero,Nat.sub_zero,Nat.sub_self,Nat.reduceSub,Nat.reducePow]
  omega
theorem allBits_packed {bs:List Nat} (h:∀ b∈bs,b<2):∃ rest,allBits (packed bs)=bs++rest:=by
 refine ⟨(allBits (packed bs)).drop bs.length,?_⟩
 have hlen:bs.length≤(allBits (packed bs)).length:=by rw [allBits_len,packed_len];omega
 have e:(allBits (packed bs)).take bs.length=bs:=by
  apply List.ext_getElem?
  intro i
  rcases Nat.lt_or_ge i bs.length with hi | hi
  ·rw [List.getElem?_take,if_pos hi,allBits_get (by rw [packed_len];omega),bitAt_packed h hi]
   unfold bt
   rw [List.getD_eq_getElem?_getD,List.getElem?_eq_getElem hi]
   rfl
  ·rw [List.getElem?_take,if_neg (by omega),List.getElem?_eq_none hi]
 have e2:=List.take_append_drop bs.length (allBits (packed bs))
 rw [e] at e2
 exact e2.symm
theorem ahead_packed {A B C:List Nat} (h:∀ b∈A++B++C,b<2):Ahead (packed (A++B++C)) A.length B:=by
 obtain ⟨rest,hr⟩:=allBits_packed h
 refine ⟨C++rest,?_⟩
 rw [hr,List.append_assoc,List.append_assoc,List.drop_left]
end Go.Proofs.YtijpbkakncglgaaGreatDoor
