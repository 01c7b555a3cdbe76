/- pic.Wrap, Fold; guess.distance, nearest, isPlane, areKinds by their contracts. -/
import Derived.Test.YtijpbkakncglgaaGreatDoorMg04
import Derived.Test.YtijpbkakncglgaaGreatDoorMg17
set_option linter.unusedVariables false
set_option linter.unusedSimpArgs false
set_option maxHeartbeats 4000000
set_option maxRecDepth 100000
namespace Go.Proofs.YtijpbkakncglgaaGreatDoor
open Go.RowKit
theorem pow_d {d:Nat} (h0:1≤d) (h1:d≤16):(2:Int)≤2^d∧(2:Int)^d≤65536:=by
 have e0:(2:Int)^1≤2^d:=by
  have:=Nat.pow_le_pow_right (n:=2) (by decide) h0
  exact_mod_cast this
 have e1:(2:Int)^d≤2^16:=by
  have:=Nat.pow_le_pow_right (n:=2) (by decide) h1
  exact_mod_cast this
 omega
theorem wrap_ok (v:Int) (d:Nat) (w:World) (h0:1≤d) (h1:d≤16):Calls Tryz.prog 50 #[.int .i64 v,.int .i64 d] w fun e w'=>e=.returned (.int .i64 (wrapI v d))∧w=w':=by
 have t1:decide ((d:Int)<1)=false:=decide_eq_false (by omega)
 have t2:decide ((16:Int)<(d:Int))=false:=decide_eq_false (by omega)
 obtain ⟨hp0,hp1⟩:=pow_d h0 h1
 have hm:=band_mask v (i:=d) (by omega)
 have HM:=hid hm
 clear hm
 go_enter Tryz.func50,Tryz.ntmps50
 go_wp2
 go_ret
 refine ⟨?_,rfl⟩
 first | exact congrArg (fun z=>Ending.returned (.int .i64 z)) HM.out
theorem fold_ok (v:Int) (d:Nat) (w:World) (h0:1≤d) (h1:d≤16):Calls Tryz.prog 67 #[.int .i64 v,.int .i64 d] w fun e w'=>e=.returned (.int .i64 (foldI v d))∧w=w':=by
 have t1:decide ((d:Int)<1)=false:=decide_eq_false (by omega)
 have t2:decide ((16:Int)<(d:Int))=false:=decide_eq_false (by omega)
 obtain ⟨hp0,hp1⟩:=pow_d h0 h1
 have hh:=two_pow_half h0
 have hq0:=two_pow_pos' (d-1)
 have hw:=wrap_ok v d w h0 h1
 have hw0:=wrapI_lo v d
 have hw1:=wrapI_hi v d
 have hdef:foldI v d=if 2^(d-1)≤wrapI v d then wrapI v d-2^d else wrapI v d:=rfl
 obtain ⟨u,hu⟩:∃ u,u=wrapI v d:=⟨_,rfl⟩
 rw [←hu] at hw hw0 hw1 hdef
 have HD:=hid hdef
 have e1:(2:Int)^((d:Int)-1).toNat=2^(d-1):=by congr 1;omega
 have hq1:(2:Int)^(d-1)≤32768:=by omega
 clear hdef hu hh
 by_cases hs:2^(d-1)≤u
 ·have t3:decide ((2:Int)^(d-1)≤u)=true:=by simpa using hs
  rw [if_pos hs] at HD
  go_enter Tryz.func67,Tryz.ntmps67
  go_wp2_with (go_at_call 50;refine hw.mono ?_;rintro e w' ⟨rfl,rfl⟩)
  go_ret
  rw [HD.out]
  exact ⟨rfl,rfl⟩
 ·have t3:decide ((2:Int)^(d-1)≤u)=false:=by simpa using hs
  rw [if_neg hs] at HD
  go_enter Tryz.func67,Tryz.ntmps67
  go_wp2_with (go_at_call 50;refine hw.mono ?_;rintro e w' ⟨rfl,rfl⟩)
  go_ret
  rw [HD.out]
  exact ⟨rfl,rfl⟩
def midP (x:Int):Prop:=-1152921504606846976≤x∧x≤1152921504606846976
theorem dist_ok (a b:Int) (w:World) (ha:midP a) (hb:midP b):Calls Tryz.prog 201 #[.int .i64 a,.int .i64 b] w fun e w'=>e=.returned (.int .i64 (distI a b))∧w=w':=by
 obtain ⟨a1,a2⟩:=ha
 obtain ⟨b1,b2⟩:=hb
 by_cases h:a<b
 ·have t1:decide (a<b)=true:=decide_eq_true h
  have hd:distI a b=b-a:=by unfold distI;rw [if_pos h]
  have HD:=hid hd
  clear hd
  go_enter Tryz.func201,Tryz.ntmps201
  go_wp2
  go_ret
  rw [HD.out]
  exact ⟨rfl,rfl⟩
 ·have t1:decide (a<b)=false:=decide_eq_false h
  have hd:distI a b=a-b:=by unfold distI;rw [if_neg h]
  have HD:=hid hd
  clear hd
  go_enter Tryz.func201,Tryz.ntmps201
  go_wp2
  go_ret
  rw [HD.out]
  exact ⟨rfl,rfl⟩
theorem nearest_ok (t a b c:Int) (B:Nat) (cap:Nat) (w:World) (ht:midP t) (ha:midP a) (hb:midP b) (hc:midP c) (h0:w.cell? ⟨B,0,none⟩=some (.int .i64 a)) (h1:w.cell? ⟨B,1,none⟩=some (.int .i64 b)) (h2:w.cell? ⟨B,2,none⟩=some (.int .i64 c)) :
  Calls Tryz.prog 186 #[.int .i64 t,.slice (some ⟨B,0,none⟩) 3 cap] w fun e w'=>e=.returned (.int .i64 (nearest3 t a b c))∧w=w':=by
 obtain ⟨b1,hb1⟩:∃ b1,b1=if distI b t<distI a t then b else a:=⟨_,rfl⟩
 have hdef:nearest3 t a b c=if distI c t<distI b1 t then c else b1:=by rw [hb1];rfl
 have hmb1:midP b1:=by rw [hb1];split<;>assumption
 have ca:=dist_ok a t w ha ht
 have cb:=dist_ok b t w hb ht
 have cc:=dist_ok c t w hc ht
 have cb1:=dist_ok b1 t w hmb1 ht
 have HD:=hid hdef
 have HB:=hid hb1
 obtain ⟨da,hda⟩:∃ x,x=distI a t:=⟨_,rfl⟩
 obtain ⟨db,hdb⟩:∃ x,x=distI b t:=⟨_,rfl⟩
 obtain ⟨dc,hdc⟩:∃ x,x=distI c t:=⟨_,rfl⟩
 obtain ⟨d1,hd1⟩:∃ x,x=distI b1 t:=⟨_,rfl⟩
 rw [←hda] at ca HB
 rw [←hdb] at cb HB
 rw [←hdc] at cc HD
 rw [←hd1] at cb1 HD
 clear hdef hb1 hda hdb hdc hd1 hmb1 ht ha hb hc
 go_enter Tryz.func186,Tryz.ntmps186
 go_wp2_with fail
 go_loopg [5,13] 3 (fun j bv iv wr=>w=wr∧((j=3∧iv=.int .i64 0∧bv=.int .i64 a)∨(j=2∧iv=.int .i64 1∧bv=.int .i64 a)∨(j=1∧iv=.int .i64 2∧bv=.int .i64 b1)∨(j=0∧iv=.int .i64 3∧bv=.int .i64 (nearest3 t a b c))))
 case atStart=>exact ⟨rfl,.inl ⟨rfl,rfl,rfl⟩⟩
 case round =>
  obtain ⟨rfl,hrel⟩:=hrel
  rcases hrel with ⟨rfl,rfl,rfl⟩ | ⟨rfl,rfl,rfl⟩ | ⟨rfl,rfl,rfl⟩ | ⟨rfl,rfl,rfl⟩
  ·go_wp2_with (go_at_call 201;refine ca.mono ?_;rintro e w' ⟨rfl,rfl⟩)
   go_roundg 2
   case measure=>omega
   case rel=>exact ⟨rfl,.inr (.inl ⟨rfl,rfl,rfl⟩)⟩
  ·by_cases hlt:db<da
   ·have t1:decide (db<da)=true:=decide_eq_true hlt
    rw [if_pos hlt] at HB
    go_wp2_with (first | (go_at_call 201;((with_reducible refine cb.mono ?_);rintro e w' ⟨rfl,rfl⟩)) | (go_at_call 201;((with_reducible refine ca.mono ?_);rintro e w' ⟨rfl,rfl⟩)))
    go_roundg 1
    case measure=>omega
    case rel=>exact ⟨rfl,.inr (.inr (.inl ⟨rfl,rfl,by rw [HB.out]⟩))⟩
   ·have t1:decide (db<da)=false:=decide_eq_false hlt
    rw [if_neg hlt] at HB
    go_wp2_with (first | (go_at_call 201;((with_reducible refine cb.mono ?_);rintro e w' ⟨rfl,rfl⟩)) | (go_at_call 201;((with_reducible refine ca.mono ?_);rintro e w' ⟨rfl,rfl⟩)))
    go_roundg 1
    case measure=>omega
    case rel=>exact ⟨rfl,.inr (.inr (.inl ⟨rfl,rfl,by rw [HB.out]⟩))⟩
  ·by_cases hlt:dc<d1
   ·have t1:decide (dc<d1)=true:=decide_eq_true hlt
    rw [if_pos hlt] at HD
    go_wp2_with (first | (go_at_call 201;((with_reducible refine cc.mono ?_);rintro e w' ⟨rfl,rfl⟩)) | (go_at_call 201;((with_reducible refine cb1.mono ?_);rintro e w' ⟨rfl,rfl⟩)))
    go_roundg 0
    case measure=>omega
    case rel=>exact ⟨rfl,.inr (.inr (.inr ⟨rfl,rfl,by rw [HD.out]⟩))⟩
   ·have t1:decide (dc<d1)=false:=decide_eq_false hlt
    rw [if_neg hlt] at HD
    go_wp2_with (first | (go_at_call 201;((with_reducible refine cc.mono ?_);rintro e w' ⟨rfl,rfl⟩)) | (go_at_call 201;((with_reducible refine cb1.mono ?_);rintro e w' ⟨rfl,rfl⟩)))
    go_roundg 0
    case measure=>omega
    case rel=>exact ⟨rfl,.inr (.inr (.inr ⟨rfl,rfl,by rw [HD.out]⟩))⟩
  ·go_wp2
   go_ret
   exact ⟨rfl,rfl⟩
theorem isPlane_yes (l:List Int) (A:Option Addr) (cap W H d:Nat) (w:World) (hw0:1≤W) (hw1:W≤64) (hh0:1≤H) (hh1:H≤64) (h0:1≤d) (h1:d≤16) (hl:l.length=W*H) (hs:SmpOk d l) (hc:Cells vi w A l) :
  Calls Tryz.prog 142 #[.slice A l.length cap,.int .i64 W,.int .i64 H,.int .i64 d] w fun e w'=>e=.returned (.bool true)∧w=w':=by
 have t1:decide ((W:Int)<1)=false:=decide_eq_false (by omega)
 have t2:decide ((64:Int)<(W:Int))=false:=decide_eq_false (by omega)
 have t3:decide ((H:Int)<1)=false:=decide_eq_false (by omega)
 have t4:decide ((64:Int)<(H:Int))=false:=decide_eq_false (by omega)
 have t5:decide ((d:Int)<1)=false:=decide_eq_false (by omega)
 have t6:decide ((16:Int)<(d:Int))=false:=decide_eq_false (by omega)
 obtain ⟨hp0,hp1⟩:=pow_d h0 h1
 obtain ⟨m,hm⟩:∃ m,m=l.length:=⟨_,rfl⟩
 rw [←hm] at hl ⊢
 have hmul:(W:Int)*(H:Int)=(m:Int):=by rw [hl];simp
 have t7:((m:Int) != (m:Int))=false:=by simp
 have hm4:m≤4096:=by rw [hl];exact Nat.mul_le_mul hw1 hh1
 have HN:=hid hm
 have HS:=hid hs
 clear hm hl hs
 go_enter Tryz.func142,Tryz.ntmps142
 go_wp2_with fail
 go_loopg [41] m (fun j i wr=>j≤m∧i=.int .i64 ((m-j:Nat):Int)∧w=wr)
 case atStart=>exact ⟨Nat.le_refl _,by simp,rfl⟩
 case round =>
  obtain ⟨hj,rfl,rfl⟩:=hrel
  rcases gk with _ | j
  ·have t8:decide (((m-0:Nat):Int)<(m:Int))=false:=by simp
   go_wp2
   go_ret
   exact ⟨rfl,rfl⟩
  ·obtain ⟨i,hi1⟩:∃ i,i=m-(j+1):=⟨_,rfl⟩
   rw [←hi1]
   have hi2:i<m:=by omega
   have hi3:m-j=i+1:=by omega
   have HI:=hid hi3
   clear hi1 hi3
   have hml:i<l.length:=by rw [←HN.out];exact hi2
   obtain ⟨g,o,rfl,hcell⟩:=hc.at_ hml
   have hx:=HS.out l[i] (List.getElem_mem _)
   obtain ⟨x,hxx⟩:∃ x,x=l[i]:=⟨_,rfl⟩
   rw [←hxx] at hcell hx
   have hcell':w.cell? ⟨g,o+i,none⟩=some (.int .i64 x):=hcell
   obtain ⟨hx0,hx1⟩:=hx
   have t9:decide (x<0)=false:=decide_eq_false (by omega)
   have t10:decide ((2:Int)^d≤x)=false:=decide_eq_false (by omega)
   clear hcell hxx hml
   go_wp2
   go_roundg j
   case measure=>omega
   case rel =>
    rw [HI.out]
    exact ⟨by omega,by go_num,rfl⟩
theorem areKinds_yes (ks:List Nat) (A:Option Addr) (cap:Nat) (w:World) (hks:∀ k∈ks,k<10) (hl:ks.length≤64) (hc:Cells i64 w A ks) :
  Calls Tryz.prog 143 #[.slice A ks.length cap,.int .i64 ks.length] w fun e w'=>e=.returned (.bool true)∧w=w':=by
 obtain ⟨m,hm⟩:∃ m,m=ks.length:=⟨_,rfl⟩
 rw [←hm] at hl ⊢
 have t7:((m:Int) != (m:Int))=false:=by simp
 have HN:=hid hm
 have HS:=hid hks
 clear hm hks
 go_enter Tryz.func143,Tryz.ntmps143
 go_wp2_with fail
 go_loopg [13] m (fun j i wr=>j≤m∧i=.int .i64 ((m-j:Nat):Int)∧w=wr)
 case atStart=>exact ⟨Nat.le_refl _,by simp,rfl⟩
 case round =>
  obtain ⟨hj,rfl,rfl⟩:=hrel
  rcases gk with _ | j
  ·have t8:decide (((m-0:Nat):Int)<(m:Int))=false:=by simp
   go_wp2
   go_ret
   exact ⟨rfl,rfl⟩
  ·obtain ⟨i,hi1⟩:∃ i,i=m-(j+1):=⟨_,rfl⟩
   rw [←hi1]
   have hi2:i<m:=by omega
   have hi3:m-j=i+1:=by omega
   have HI:=hid hi3
   clear hi1 hi3
   have hml:i<ks.length:=by rw [←HN.out];exact hi2
   obtain ⟨g,o,rfl,hcell⟩:=hc.at_ hml
   have hx:=HS.out ks[i] (List.getElem_mem _)
   obtain ⟨x,hxx⟩:∃ x,x=ks[i]:=⟨_,rfl⟩
   rw [←hxx] at hcell hx
   have hcell':w.cell? ⟨g,o+i,none⟩=some (.int .i64 (x:Int)):=hcell
   have t9:decide ((x:Int)<0)=false:=decide_eq_false (by omega)
   have t10:decide ((10:Int)≤(x:Int))=false:=decide_eq_false (by omega)
   clear hcell hxx hml
   go_wp2
   go_roundg j
   case measure=>omega
   case rel =>
    rw [HI.out]
    exact ⟨by omega,by go_num,rfl⟩
theorem Cells.vi_getD {w:World} {b o:Nat} {l:List Int} (hc:∀ (i:Nat) (a:Int),l[i]?=some a→w.cell? ⟨b,o+i,none⟩=some (vi a)) {m:Nat} (hm:m<l.length):w.cell? ⟨b,o+m,none⟩=some (.int .i64 (l.getD m 0)):=by
 have:=hc m l[m] (List.getElem?_eq_getElem hm)
 rw [this,List.getD_eq_getElem?_getD,List.getElem?_eq_getElem hm]
 rfl
theorem near_ok (l:List Int) (A:Option Addr) (cap W x y:Nat) (w:World) (hw0:1≤W) (hw1:W≤64) (hx:x<W) (hy:y<64) (hl:y*W+x≤l.length) (hc:Cells vi w A l) (hlm:l.length≤1099511627776) :
  Calls Tryz.prog 144 #[.slice A l.length cap,.int .i64 W,.int .i64 x,.int .i64 y] w fun e w'=>e=.returned (.tuple #[.int .i64 (nbr l W x y).w,.int .i64 (nbr l W x y).n,.int .i64 (nbr l W x y).nw,.int .i64 (nbr l W x y).ne])∧∃ n,w'=w.drewN n:=by
 have t1:decide ((W:Int)<1)=false:=decide_eq_false (by omega)
 have t2:decide ((64:Int)<(W:Int))=false:=decide_eq_false (by omega)
 have t3:decide ((x:Int)<0)=false:=decide_eq_false (by omega)
 have t4:decide (W≤x)=false:=decide_eq_false (by omega)
 have t5:decide ((y:Int)<0)=false:=decide_eq_false (by omega)
 have t6:decide ((64:Int)≤(y:Int))=false:=decide_eq_false (by omega)
 obtain ⟨m,hm⟩:∃ m,m=l.length:=⟨_,rfl⟩
 obtain ⟨yw,hyw⟩:∃ yw,yw=y*W:=⟨_,rfl⟩
 obtain ⟨p,hp⟩:∃ p,p=y*W+x:=⟨_,rfl⟩
 have hywI:(y:Int)*(W:Int)=(yw:Int):=by rw [hyw];simp
 have hpI:(yw:Int)+(x:Int)=(p:Int):=by rw [hp,hyw];simp
 have hcell:=fun (h:0<l.length)=>hc.ex h
 have hdef:nbr l W x y=if y=0 then (if x=0 then ⟨0,0,0,0⟩ else ⟨l.getD (p-1) 0,l.getD (p-1) 0,l.getD (p-1) 0,l.getD (p-1) 0⟩)
   else ⟨if 0<x then l.getD (p-1) 0 else l.getD (p-W) 0,l.getD (p-W) 0,if 0<x then l.getD (p-W-1) 0 else l.getD (p-W) 0,if x<W-1 then l.getD (p-W+1) 0 else l.getD (p-W) 0⟩:=by
  unfold nbr;rw [←hp]
 have hyW:y≠0→W≤y*W:=fun h=>le_mul_pos h
 rw [←hp] at hl
 rw [←hyw] at hyW hp
 rw [←hm] at hl hlm ⊢
 have t7:decide ((m:Int)<(p:Int))=false:=decide_eq_false (by omega)
 have t7':decide (m<p)=false:=decide_eq_false (by omega)
 have HD:=hid hdef
 have HM:=hid hm
 have HC:=hid hcell
 have HYW:=hid hyW
 have HP:=hid hp
 clear hdef hm hcell hyw hp hc hyW
 by_cases hy0:y=0
 ·have t8:((y:Int)==0)=true:=by rw [beq_iff_eq];omega
  rw [if_pos hy0] at HD
  by_cases hx0:x=0
  ·have t9:((x:Int)==0)=true:=by rw [beq_iff_eq];omega
   rw [if_pos hx0] at HD
   clear hy0 hx0
   go_enter Tryz.func144,Tryz.ntmps144
   go_wp2
   refine bodyPost_ret (v:=.tuple #[.int .i64 0,.int .i64 0,.int .i64 0,.int .i64 0]) (by simp [results,Tryz.results144,go_sem]) rfl ⟨by rw [HD.out],0,rfl⟩
  ·have t9:((x:Int)==0)=false:=by rw [beq_eq_false_iff_ne];omega
   rw [if_neg hx0] at HD
   have hp1:1≤p:=by have:=HP.out;omega
   obtain ⟨p1,hp1d⟩:∃ p1,p1=p-1:=⟨_,rfl⟩
   have hpI1:(p:Int)-1=(p1:Int):=by omega
   rw [←hp1d] at HD
   have hp1m:p1<m:=by omega
   obtain ⟨b,o,rfl,_,hcc⟩:=HC.out (by rw [←HM.out];omega)
   have hv:=Cells.vi_getD hcc (m:=p1) (by rw [←HM.out];exact hp1m)
   obtain ⟨v,hvd⟩:∃ v,v=l.getD p1 0:=⟨_,rfl⟩
   rw [←hvd] at hv HD
   clear hy0 hx0 hcc hvd hp1d
   go_enter Tryz.func144,Tryz.ntmps144
   go_wp2
   refine bodyPost_ret (v:=.tuple #[.int .i64 v,.int .i64 v,.int .i64 v,.int .i64 v]) (by simp [results,Tryz.results144,go_sem]) rfl ⟨by rw [HD.out],0,rfl⟩
 ·have t8:((y:Int)==0)=false:=by rw [beq_eq_false_iff_ne];omega
  rw [if_neg hy0] at HD
  have hW:=HYW.out hy0
  have hpp:=HP.out
  obtain ⟨q,hq⟩:∃ q,q=p-W:=⟨_,rfl⟩
  have hqI:(p:Int)-(W:Int)=(q:Int):=by omega
  rw [←hq] at HD
  have hqm:q<m:=by omega
  obtain ⟨b,o,rfl,_,hcc⟩:=HC.out (by rw [←HM.out];omega)
  have hvn:=Cells.vi_getD hcc (m:=q) (by rw [←HM.out];exact hqm)
  obtain ⟨vn,hvnd⟩:∃ v,v=l.getD q 0:=⟨_,rfl⟩
  rw [←hvnd] at hvn HD
  obtain ⟨q2,hq2⟩:∃ q2,q2=q+1:=⟨_,rfl⟩
  have hqI2:(q:Int)+1=(q2:Int):=by omega
  rw [←hq2] at HD
  obtain ⟨W1,hW1⟩:∃ W1,W1=W-1:=⟨_,rfl⟩
  have hWI1:(W:Int)-1=(W1:Int):=by omega
  rw [←hW1] at HD
  by_cases hx0:0<x
  ·have t9:decide ((0:Int)<(x:Int))=true:=decide_eq_true (by omega)
   have t9':decide (0<x)=true:=decide_eq_true hx0
   rw [if_pos hx0,if_pos hx0] at HD
   obtain ⟨p1,hp1d⟩:∃ p1,p1=p-1:=⟨_,rfl⟩
   have hpI1:(p:Int)-1=(p1:Int):=by omega
   obtain ⟨q1,hq1d⟩:∃ q1,q1=q-1:=⟨_,rfl⟩
   have hqI1:(q:Int)-1=(q1:Int):=by omega
   rw [←hp1d,←hq1d] at HD
   have hp1m:p1<m:=by omega
   have hq1m:q1<m:=by omega
   have hvw:=Cells.vi_getD hcc (m:=p1) (by rw [←HM.out];exact hp1m)
   have hvnw:=Cells.vi_getD hcc (m:=q1) (by rw [←HM.out];exact hq1m)
   obtain ⟨vw,hvwd⟩:∃ v,v=l.getD p1 0:=⟨_,rfl⟩
   obtain ⟨vnw,hvnwd⟩:∃ v,v=l.getD q1 0:=⟨_,rfl⟩
   rw [←hvwd] at hvw HD
   rw [←hvnwd] at hvnw HD
   by_cases hx1:x<W1
   ·have t10:decide (x<W1)=true:=decide_eq_true hx1
    rw [if_pos hx1] at HD
    have hq2m:q2<m:=by omega
    have hvne:=Cells.vi_getD hcc (m:=q2) (by rw [←HM.out];exact hq2m)
    obtain ⟨vne,hvned⟩:∃ v,v=l.getD q2 0:=⟨_,rfl⟩
    rw [←hvned] at hvne HD
    clear hy0 hx0 hcc hvned hvnd hvwd hvnwd hp1d hq1d hq hq2 hW1 hpp
    go_enter Tryz.func144,Tryz.ntmps144
    go_wp2
    go_quiet (fail)
    go_wp2
    refine bodyPost_ret (v:=.tuple #[.int .i64 vw,.int .i64 vn,.int .i64 vnw,.int .i64 vne]) (by simp [results,Tryz.results144,go_sem]) rfl ⟨by rw [HD.out],_,rfl⟩
   ·have t10:decide (x<W1)=false:=decide_eq_false hx1
    rw [if_neg hx1] at HD
    clear hy0 hx0 hcc hvnd hvwd hvnwd hp1d hq1d hq hq2 hW1 hpp
    go_enter Tryz.func144,Tryz.ntmps144
    go_wp2
    go_quiet (fail)
    go_wp2
    refine bodyPost_ret (v:=.tuple #[.int .i64 vw,.int .i64 vn,.int .i64 vnw,.int .i64 vn]) (by simp [results,Tryz.results144,go_sem]) rfl ⟨by rw [HD.out],_,rfl⟩
  ·have t9:decide ((0:Int)<(x:Int))=false:=decide_eq_false (by omega)
   have t9':decide (0<x)=false:=decide_eq_false hx0
   rw [if_neg hx0,if_neg hx0] at HD
   by_cases hx1:x<W1
   ·have t10:decide (x<W1)=true:=decide_eq_true hx1
    rw [if_pos hx1] at HD
    have hq2m:q2<m:=by omega
    have hvne:=Cells.vi_getD hcc (m:=q2) (by rw [←HM.out];exact hq2m)
    obtain ⟨vne,hvned⟩:∃ v,v=l.getD q2 0:=⟨_,rfl⟩
    rw [←hvned] at hvne HD
    clear hy0 hx0 hcc hvned hvnd hq hq2 hW1 hpp
    go_enter Tryz.func144,Tryz.ntmps144
    go_wp2
    refine bodyPost_ret (v:=.tuple #[.int .i64 vn,.int .i64 vn,.int .i64 vn,.int .i64 vne]) (by simp [results,Tryz.results144,go_sem]) rfl ⟨by rw [HD.out],0,rfl⟩
   ·have t10:decide (x<W1)=false:=decide_eq_false hx1
    rw [if_neg hx1] at HD
    clear hy0 hx0 hcc hvnd hq hq2 hW1 hpp
    go_enter Tryz.func144,Tryz.ntmps144
    go_wp2
    refine bodyPost_ret (v:=.tuple #[.int .i64 vn,.int .i64 vn,.int .i64 vn,.int .i64 vn]) (by simp [results,Tryz.results144,go_sem]) rfl ⟨by rw [HD.out],0,rfl⟩
theorem one_ok (kind:Nat) (g:Nbr) (d:Nat) (w:World) (hk:kind<10) (h0:1≤d) (h1:d≤16) (hg:NbrOk d g) :
  Calls Tryz.prog 145 #[.int .i64 kind,.int .i64 g.w,.int .i64 g.n,.int .i64 g.nw,.int .i64 g.ne,.int .i64 d] w fun e w'=>e=.returned (.int .i64 (guessI kind g d))∧Chg [] w w':=by
 have t1:decide ((kind:Int)<0)=false:=decide_eq_false (by omega)
 have t2:decide ((10:Int)≤(kind:Int))=false:=decide_eq_false (by omega)
 have t5:decide ((d:Int)<1)=false:=decide_eq_false (by omega)
 have t6:decide ((16:Int)<(d:Int))=false:=decide_eq_false (by omega)
 obtain ⟨hp0,hp1⟩:=pow_d h0 h1
 obtain ⟨a,b,c,e⟩:=g
 obtain ⟨⟨a1,a2⟩,⟨b1,b2⟩,⟨c1,c2⟩,⟨e1,e2⟩⟩:=hg
 simp only at a1 a2 b1 b2 c1 c2 e1 e2 ⊢
 have u1:decide (a<0)=false:=decide_eq_false (by omega)
 have u2:decide ((2:Int)^d≤a)=false:=decide_eq_false (by omega)
 have u3:decide (b<0)=false:=decide_eq_false (by omega)
 have u4:decide ((2:Int)^d≤b)=false:=decide_eq_false (by omega)
 have u5:decide (c<0)=false:=decide_eq_false (by omega)
 have u6:decide ((2:Int)^d≤c)=false:=decide_eq_false (by omega)
 have u7:decide (e<0)=false:=decide_eq_false (by omega)
 have u8:decide ((2:Int)^d≤e)=false:=decide_eq_false (by omega)
 have i0:∀ w,(Instr.index 45 (.agg #[.int .i64 a,.int .i64 b,.int .i64 c,.int .i64 e]) (.int .i64 0)).run Tryz.prog w=.ok (.int .i64 a) w:=fun _=>by kernel_rfl
 have i1:∀ w,(Instr.index 45 (.agg #[.int .i64 a,.int .i64 b,.int .i64 c,.int .i64 e]) (.int .i64 1)).run Tryz.prog w=.ok (.int .i64 b) w:=fun _=>by kernel_rfl
 have i2:∀ w,(Instr.index 45 (.agg #[.int .i64 a,.int .i64 b,.int .i64 c,.int .i64 e]) (.int .i64 2)).run Tryz.prog w=.ok (.int .i64 c) w:=fun _=>by kernel_rfl
 have i3:∀ w,(Instr.index 45 (.agg #[.int .i64 a,.int .i64 b,.int .i64 c,.int .i64 e]) (.int .i64 3)).run Tryz.prog w=.ok (.int .i64 e) w:=fun _=>by kernel_rfl
 go_enter Tryz.func145,Tryz.ntmps145
 go_wp2_with fail
 go_loopg [35] 4 (fun j iv wr=>w=wr∧((j=4∧iv=.int .i64 0)∨(j=3∧iv=.int .i64 1)∨(j=2∧iv=.int .i64 2)∨(j=1∧iv=.int .i64 3)∨(j=0∧iv=.int .i64 4)))
 case atStart=>exact ⟨rfl,.inl ⟨rfl,rfl⟩⟩
 case round =>
  obtain ⟨rfl,hrel⟩:=hrel
  rcases hrel with ⟨rfl,rfl⟩ | ⟨rfl,rfl⟩ | ⟨rfl,rfl⟩ | ⟨rfl,rfl⟩ | ⟨rfl,rfl⟩
  ·go_wp2
   go_roundg 3
   case measure=>omega
   case rel=>exact ⟨rfl,.inr (.inl ⟨rfl,rfl⟩)⟩
  ·go_wp2
   go_roundg 2
   case measure=>omega
   case rel=>exact ⟨rfl,.inr (.inr (.inl ⟨rfl,rfl⟩))⟩
  ·go_wp2
   go_roundg 1
   case measure=>omega
   case rel=>exact ⟨rfl,.inr (.inr (.inr (.inl ⟨rfl,rfl⟩)))⟩
  ·go_wp2
   go_roundg 0
   case measure=>omega
   case rel=>exact ⟨rfl,.inr (.inr (.inr (.inr ⟨rfl,rfl⟩)))⟩
  ·clear i0 i1 i2 i3 u1 u2 u3 u4 u5 u6 u7 u8
   obtain rfl | rfl | rfl | rfl | rfl | rfl | rfl | rfl | rfl | rfl:kind=0∨kind=1∨kind=2∨kind=3∨kind=4∨kind=5∨kind=6∨kind=7∨kind=8∨kind=9:=by omega
   ·go_wp2
    go_ret
    exact ⟨rfl,Chg.refl _ _⟩
   ·go_wp2
    go_ret
    exact ⟨rfl,Chg.refl _ _⟩
   ·go_wp2
    go_ret
    exact ⟨rfl,Chg.refl _ _⟩
   ·go_wp2
    go_ret
    exact ⟨rfl,Chg.refl _ _⟩
   ·go_wp2
    go_ret
    exact ⟨rfl,Chg.refl _ _⟩
   ·go_wp2
    go_ret
    exact ⟨rfl,Chg.refl _ _⟩
   ·have hnear:=nearest_ok (a+b-c) a b c w.heap.size 3 (w.alloc (.cells #[.int .i64 a,.int .i64 b,.int .i64 c] 3)) (by unfold midP;omega) (by unfold midP;omega) (by unfold midP;omega) (by unfold midP;omega) (by simp [go_sem]) (by simp [go_sem]) (by simp [go_sem])
    go_wp2_with (go_at_call 186;refine hnear.mono ?_;rintro e w' ⟨rfl,rfl⟩)
    go_ret
    exact ⟨rfl,(Chg.refl _ _).alloc _⟩
   ·go_wp2
    all_goals
     go_ret
     exact ⟨congrArg (fun z=>Ending.returned (.int .i64 z)) (show _=max (min a b) (min (max a b) (a+b-c)) by omega),Chg.refl _ _⟩
   ·go_wp2
    all_goals
     go_ret
     exact ⟨congrArg (fun z=>Ending.returned (.int .i64 z)) (show _=min (max (a+b-c) 0) (2^d-1) by omega),Chg.refl _ _⟩
   ·go_wp2
    go_ret
    exact ⟨rfl,Chg.refl _ _⟩
theorem Row.zeros (w:World) (n:Nat) (h:n≤1048576):Row (w.alloc (.cells (List.replicate n (Value.int .i64 0)).toArray 3)) 3 (.slice (some ⟨w.heap.size,0,none⟩) n n) w.heap.size ((fillL [] n).map vi):=by
 have:=Row.made w 3 (List.replicate n (Value.int .i64 0)) (by simp [maxLen];omega)
 rw [fillL_nil,List.map_replicate]
 simpa [vi] using this
theorem Row.fill {w:World} {v:Value} {g:Nat} {done:List Int} {n:Nat} (h:Row w 3 v g ((fillL done n).map vi)) (hl:done.length<n) (x:Int) :
  Row (w.setCell ⟨g,done.length,none⟩ (.int .i64 x)) 3 v g ((fillL (done++[x]) n).map vi):=by
 have h1:=h.set_ (i:=done.length) (by rw [List.length_map,fillL_len (by omega)];exact hl) (vi x)
 rw [←List.map_set,fillL_set hl] at h1
 exact h1
theorem Row.fill_cell {w:World} {v:Value} {g:Nat} {done:List Int} {n:Nat} (h:Row w 3 v g ((fillL done n).map vi)) (hl:done.length<n) :
  w.cell? ⟨g,done.length,none⟩=some (.int .i64 0)∧w.frozen? ⟨g,done.length,none⟩=false:=by
 obtain ⟨cap,h1,h2,h3,h4,h5⟩:=h.open_map
 refine ⟨h4 done.length 0 ?_,h5 _⟩
 unfold fillL
 rw [List.getElem?_append_right (Nat.le_refl _),Nat.sub_self,List.getElem?_replicate]
 rw [if_pos (by omega)]
theorem row_ok (l:List Int) (A:Option Addr) (cap W H y d kind:Nat) (w:World) (hw0:1≤W) (hw1:W≤64) (hh1:H≤64) (hy:y<H) (h0:1≤d) (h1:d≤16) (hk:kind<10) (hl:l.length=W*H) (hs:SmpOk d l) (hc:Cells vi w A l) :
  Calls Tryz.prog 168 #[.slice A l.length cap,.int .i64 W,.int .i64 y,.int .i64 d,.int .i64 kind] w fun e w'=>∃ v G,e=.returned v∧Own w' 3 v G ((rowL l W y d kind).map vi)∧Chg [] w w'∧∀ x∈G,w.heap.size≤x:=by
 have hmk:=run_make1 (P:=Tryz.prog) int_elem rfl .i64 .i64 W (by omega) (by omega)
 have hnear:=fun x (hx:x<W) w hc=>near_ok l A cap W x y w hw0 hw1 hx (by omega) (by
  rw [hl]
  have:(y+1)*W≤H*W:=Nat.mul_le_mul_right W hy
  rw [Nat.add_mul,Nat.one_mul] at this
  rw [Nat.mul_comm W H]
  omega) hc (by rw [hl];exact Nat.le_trans (Nat.mul_le_mul hw1 hh1) (by decide))
 have hone:=fun x w=>one_ok kind (nbr l W x y) d w hk h0 h1 (nbr_ok hs W x y)
 have hin:∀ x,x<W→y*W+x<l.length:=fun x hx=>by
  rw [hl]
  have:(y+1)*W≤H*W:=Nat.mul_le_mul_right W hy
  rw [Nat.add_mul,Nat.one_mul] at this
  rw [Nat.mul_comm W H]
  omega
 have hl4:l.length≤4096:=by rw [hl];exact Nat.mul_le_mul hw1 hh1
 obtain ⟨m,hm⟩:∃ m,m=l.length:=⟨_,rfl⟩
 rw [←hm] at hnear hin hl4 ⊢
 obtain ⟨yw,hyw⟩:∃ yw,yw=y*W:=⟨_,rfl⟩
 have hywI:(y:Int)*(W:Int)=(yw:Int):=by rw [hyw];simp
 rw [←hyw] at hin
 have HN:=hid hnear
 have HO:=hid hone
 have HIn:=hid hin
 have HS:=hid hs
 have HM:=hid hm
 have HYW:=hid hyw
 clear hnear hone hin hs hm hl hyw
 go_enter Tryz.func168,Tryz.ntmps168
 go_wp2_with fail
 have hrow0:=Row.zeros w W (by omega)
 obtain ⟨B,hB⟩:∃ B,B=w.heap.size:=⟨_,rfl⟩
 rw [←hB] at hrow0 ⊢
 have HB:=hid hB
 have ch0:Chg [] w (w.alloc (.cells (List.replicate W (Value.int .i64 0)).toArray 3)):=(Chg.refl [] w).alloc _
 clear hB
 go_loopg [22] W (fun j iv wr=>∃ done:List Int,iv=.int .i64 (done.length:Int)∧done.length+j=W∧Hid (done=(List.range done.length).map (restAt l W d kind y))∧Row wr 3 (.slice (some ⟨B,0,none⟩) W W) B ((fillL done W).map vi)∧Chg [] w wr)
 case atStart=>exact ⟨[],rfl,by simp,hid (by simp),hrow0,ch0⟩
 case round =>
  obtain ⟨done,rfl,hdl,Hd,hrow,hch⟩:=hrel
  clear hrow0 ch0
  obtain ⟨m1,hm1⟩:∃ m1,m1=done.length:=⟨_,rfl⟩
  rcases gk with _ | j
  ·rw [←hm1] at hdl ⊢
   obtain rfl:m1=W:=by omega
   have t1:decide ((m1:Int)<(m1:Int))=false:=by simp
   have HM1:=hid hm1
   clear hm1 hdl
   go_wp2
   go_ret
   refine ⟨_,[B],rfl,?_,hch,fun x hx=>by have:=HB.out;simp at hx;omega⟩
   have e:fillL done m1=rowL l m1 y d kind:=by
    rw [fillL_full HM1.out.symm,Hd.out,←HM1.out]
    rfl
   rw [←e]
   exact hrow.toOwn
  ·obtain ⟨hce,hfr⟩:=hrow.fill_cell (by omega)
   have hfill:=fun x=>hrow.fill (by omega) x
   have hstep:∀ x,x=restAt l W d kind y m1→done++[x]=(List.range (m1+1)).map (restAt l W d kind y):=fun x hx=>by
    rw [hx,List.range_succ,List.map_append,hm1,←Hd.out]
    rfl
   rw [←hm1] at hdl hce hfr hfill ⊢
   have hmW:m1<W:=by omega
   have hin:=HIn.out m1 hmW
   have hcl:=hc.same hch
   obtain ⟨b,o,rfl,hbl,hcc⟩:=hcl.ex (by rw [←HM.out];omega)
   have hbB:b≠B:=by
    intro e
    subst e
    obtain ⟨b',o',e',hb',_⟩:=hc.ex (by rw [←HM.out];omega)
    injection e' with e'
    injection e' with e' _ _
    have:=HB.out
    omega
   obtain ⟨q,hq⟩:∃ q,q=yw+m1:=⟨_,rfl⟩
   have hqI:(yw:Int)+(m1:Int)=(q:Int):=by omega
   have hnr:=HN.out m1 hmW wr hcl
   have hon:=HO.out m1
   have hrest:restAt l W d kind y m1=wrapI (l.getD q 0-guessI kind (nbr l W m1 y) d) d:=by unfold restAt;rw [hq,HYW.out]
   have hgr:=guessI_ok (nbr_ok HS.out W m1 y) kind
   have hvr:=getD_ok HS.out q
   have hqm:q<m:=by omega
   obtain ⟨hp0,hp1⟩:=pow_d h0 h1
   have HP:=hid hp1
   obtain ⟨g,hg⟩:∃ g,g=nbr l W m1 y:=⟨_,rfl⟩
   rw [←hg] at hnr hon hrest hgr
   obtain ⟨gs,hgs⟩:∃ x,x=guessI kind g d:=⟨_,rfl⟩
   rw [←hgs] at hon hrest hgr
   obtain ⟨v,hv⟩:∃ x,x=l.getD q 0:=⟨_,rfl⟩
   rw [←hv] at hrest hvr
   have HST:=hid hstep
   have HRe:=hid hrest
   have HFi:=hid hfill
   have HDL:=hid hdl
   have HM1:=hid hm1
   have hcv:∀ w',Chg [] wr w'→w'.cell? ⟨b,o+q,none⟩=some (.int .i64 v):=fun w' h'=>by
    obtain ⟨b',o',e',_,hcc'⟩:=(hcl.same h').ex (by rw [←HM.out];omega)
    injection e' with e'
    injection e' with e1 e2 _
    subst e1
    subst e2
    rw [Cells.vi_getD hcc' (by rw [←HM.out];exact hqm),←hv]
   have HCV:=hid hcv
   have hv0 : -65536≤v-gs:=by omega
   have hv1:v-gs≤65536:=by omega
   have HVR:=hid hvr
   clear hstep hrest hfill hcv hv hgs hg hcc hq hdl hm1 hgr hcl hp0 hp1
   go_wp2_with fail
   refine hnr.mono ?_
   rintro e w1 ⟨rfl,nq,rfl⟩
   go_wp2_with fail
   refine (hon (wr.drewN nq)).mono ?_
   rintro e w2 ⟨rfl,ch2⟩
   have ch2':Chg [] wr w2:=((Chg.refl [] wr).drewN nq).trans_same ch2
   have hcv2:=HCV.out w2 ch2'
   have hce2:w2.cell? ⟨B,m1,none⟩=some (.int .i64 0):=by
    have:=(hrow.chg ch2' (by simp)).fill_cell (by have:=HDL.out;have:=HM1.out;omega)
    rw [HM1.out]
    exact this.1
   have hfr2:w2.frozen? ⟨B,m1,none⟩=false:=by
    have:=(hrow.chg ch2' (by simp)).fill_cell (by have:=HDL.out;have:=HM1.out;omega)
    rw [HM1.out]
    exact this.2
   have hwr:=wrap_ok (v-gs) d w2 h0 h1
   obtain ⟨rv,hrv⟩:∃ x,x=wrapI (v-gs) d:=⟨_,rfl⟩
   rw [←hrv] at hwr HRe
   have HRV:=hid hrv
   clear hce hfr hrv hnr hon
   have hvr:=HVR.out
   go_wp2_with fail
   refine hwr.mono ?_
   rintro e w3 ⟨rfl,rfl⟩
   go_wp2_with fail
   go_roundg j
   case measure=>omega
   case rel =>
    have hrow2:=(hrow.chg ch2' (by simp)).fill (by have:=HDL.out;have:=HM1.out;omega) rv
    refine ⟨done++[rv],?_,?_,hid ?_,?_,?_⟩
    ·rw [List.length_append,List.length_singleton,←HM1.out];go_num
    ·rw [List.length_append,List.length_singleton,←HM1.out];have:=HDL.out;omega
    ·rw [List.length_append,List.length_singleton,←HM1.out]
     exact HST.out rv HRe.out.symm
    ·rw [←HM1.out] at hrow2
     exact hrow2
    ·exact (hch.trans_same ch2').setCell (.inr (by have:=HB.out;simp;omega)) _
theorem weight_ok (l:List Int) (A:Option Addr) (cap d:Nat) (w:World) (h0:1≤d) (h1:d≤16) (hl:l.length≤65536) (hc:Cells vi w A l) :
  Calls Tryz.prog 167 #[.slice A l.length cap,.int .i64 d] w fun e w'=>e=.returned (.int .i64 (weightI l d))∧w=w':=by
 obtain ⟨n,hn⟩:∃ n,n=l.length:=⟨_,rfl⟩
 rw [←hn] at hl ⊢
 have HN:=hid hn
 clear hn
 go_enter Tryz.func167,Tryz.ntmps167
 go_wp2_with fail
 go_loopg [5,10] n (fun j s i wr=>j≤n∧i=.int .i64 ((n-j:Nat):Int)∧s=.int .i64 (weightI (l.take (n-j)) d)∧w=wr)
 case atStart=>exact ⟨Nat.le_refl _,by simp,by simp [weightI],rfl⟩
 case round =>
  obtain ⟨hj,rfl,rfl,rfl⟩:=hrel
  rcases gk with _ | j
  ·have t4:decide (((n-0:Nat):Int)<(n:Int))=false:=by simp
   have e:l.take n=l:=by rw [HN.out,List.take_length]
   rw [Nat.sub_zero,e]
   go_wp2
   go_ret
   exact ⟨rfl,rfl⟩
  ·obtain ⟨m,hm1⟩:∃ m,m=n-(j+1):=⟨_,rfl⟩
   rw [←hm1]
   have hm2:m<n:=by omega
   have hm3:n-j=m+1:=by omega
   have HM:=hid hm3
   clear hm1 hm3
   have hml:m<l.length:=by rw [←HN.out];exact hm2
   obtain ⟨b,o,rfl,hcell⟩:=hc.at_ hml
   have hsn:=weightI_snoc (l.take m) l[m] d
   rw [←take_snoc' l hml] at hsn
   have hle:=weightI_ok h0 h1 (l.take m)
   rw [List.length_take] at hle
   obtain ⟨x,hx⟩:∃ x,x=l[m]:=⟨_,rfl⟩
   rw [←hx] at hcell hsn
   have hcell':w.cell? ⟨b,o+m,none⟩=some (.int .i64 x):=hcell
   obtain ⟨s,hs⟩:∃ s,s=weightI (l.take m) d:=⟨_,rfl⟩
   rw [←hs] at hsn hle ⊢
   have hs0:0≤s:=hle.1
   have hs65:s≤2147483648:=by omega
   have hfo:=fold_ok x d w h0 h1
   have hfr:=foldI_range x h0
   have ha:=absFold_ok h0 h1 x
   have hdd:absFold d x=distI (foldI x d) 0:=rfl
   obtain ⟨f,hf⟩:∃ f,f=foldI x d:=⟨_,rfl⟩
   rw [←hf] at hfo hdd hfr
   have hp15:(2:Int)^(d-1)≤2^15:=by
    have:=Nat.pow_le_pow_right (n:=2) (by decide) (show d-1≤15 by omega)
    exact_mod_cast this
   have hdi:=dist_ok f 0 w (by unfold midP;omega) (by unfold midP;omega)
   rw [←hdd] at hdi
   obtain ⟨a,ha'⟩:∃ a,a=absFold d x:=⟨_,rfl⟩
   rw [←ha'] at hdi ha hsn
   obtain ⟨ha0,ha1⟩:=ha
   have HS:=hid hsn
   clear hsn hcell hx hs hle hml hfr hdd hf ha' hp15
   go_wp2_with (first | (go_at_call 67;refine hfo.mono ?_;rintro e w' ⟨rfl,rfl⟩) | (go_at_call 201;refine hdi.mono ?_;rintro e w' ⟨rfl,rfl⟩))
   go_roundg j
   case measure=>omega
   case rel =>
    rw [HM.out,HS.out]
    exact ⟨by omega,by go_num,rfl,rfl⟩
def bkI (l:List Int) (W d y:Nat):Int:=((bestUp l W y d 9:Nat):Int)
theorem bestKinds_vi (l:List Int) (W H d:Nat):((List.range H).map (bkI l W d)).map vi=(bestKinds l W H d).map i64:=by
 unfold bestKinds
 rw [List.map_map,List.map_map]
 rfl
theorem fillL_set0 (done:List Int) (n:Nat):(fillL done n).set done.length 0=fillL done n:=by
 unfold fillL
 rw [List.set_append_right _ _ (Nat.le_refl _),Nat.sub_self]
 congr 1
 rcases Nat.eq_zero_or_pos (n-done.length) with h | h
 ·rw [h];rfl
 ·obtain ⟨k,hk⟩:∃ k,n-done.length=k+1:=⟨n-done.length-1,by omega⟩
  rw [hk]
  rfl
theorem gbest_ok (l:List Int) (A:Option Addr) (cap W H d:Nat) (w:World) (hw0:1≤W) (hw1:W≤64) (hh0:1≤H) (hh1:H≤64) (h0:1≤d) (h1:d≤16) (hl:l.length=W*H) (hs:SmpOk d l) (hc:Cells vi w A l) :
  Calls Tryz.prog 118 #[.slice A l.length cap,.int .i64 W,.int .i64 H,.int .i64 d] w fun e w'=>∃ v G,e=.returned v∧Own w' 3 v G ((bestKinds l W H d).map i64)∧Chg [] w w'∧∀ x∈G,w.heap.size≤x:=by
 have hmk:=run_make1 (P:=Tryz.prog) int_elem rfl .i64 .i64 H (by omega) (by omega)
 have hpl:=isPlane_yes l A cap W H d w hw0 hw1 hh0 hh1 h0 h1 hl hs hc
 have hrow:=fun y (hy:y<H) k (hk:k<10) w hc=>row_ok l A cap W H y d k w hw0 hw1 hh1 hy h0 h1 hk hl hs hc
 have hwt:=fun y k A cap w hc=>weight_ok (rowL l W y d k) A cap d w h0 h1 (by rw [rowL_len];omega) hc
 obtain ⟨m,hm⟩:∃ m,m=l.length:=⟨_,rfl⟩
 rw [←hm] at hrow hpl ⊢
 have HR:=hid hrow
 have HWt:=hid hwt
 have HM:=hid hm
 clear hrow hwt hm hl hs
 go_enter Tryz.func118,Tryz.ntmps118
 go_wp2_with (go_at_call 142;refine hpl.mono ?_;rintro e w' ⟨rfl,rfl⟩)
 have hrow0:=Row.zeros w H (by omega)
 obtain ⟨B,hB⟩:∃ B,B=w.heap.size:=⟨_,rfl⟩
 rw [←hB] at hrow0 ⊢
 have HB:=hid hB
 have ch0:Chg [] w (w.alloc (.cells (List.replicate H (Value.int .i64 0)).toArray 3)):=(Chg.refl [] w).alloc _
 clear hB hpl
 go_loopg [24] H (fun j iv wr=>∃ done:List Int,iv=.int .i64 (done.length:Int)∧done.length+j=H∧Hid (done=(List.range done.length).map (bkI l W d))∧Row wr 3 (.slice (some ⟨B,0,none⟩) H H) B ((fillL done H).map vi)∧Chg [] w wr)
 case atStart=>exact ⟨[],rfl,by simp,hid (by simp),hrow0,ch0⟩
 case round =>
  obtain ⟨done,rfl,hdl,Hd,hrw,hch⟩:=hrel
  clear hrow0 ch0
  obtain ⟨m1,hm1⟩:∃ m1,m1=done.length:=⟨_,rfl⟩
  rcases gk with _ | j
  ·rw [←hm1] at hdl ⊢
   obtain rfl:m1=H:=by omega
   have t1:decide ((m1:Int)<(m1:Int))=false:=by simp
   have HM1:=hid hm1
   clear hm1 hdl
   go_wp2
   go_ret
   refine ⟨_,[B],rfl,?_,hch,fun x hx=>by have:=HB.out;simp at hx;omega⟩
   have e:fillL done m1=(List.range m1).map (bkI l W d):=by
    rw [fillL_full HM1.out.symm,Hd.out,←HM1.out]
   rw [←bestKinds_vi,←e]
   exact hrw.toOwn
  ·have hstep:done++[bkI l W d m1]=(List.range (m1+1)).map (bkI l W d):=by
    rw [List.range_succ,List.map_append,hm1,←Hd.out]
    rfl
   have hset0:=fillL_set0 done H
   have hset:=fillL_set (done:=done) (n:=H) (by omega) (bkI l W d m1)
   have hfl:=fillL_len (done:=done) (n:=H) (by omega)
   rw [←hm1] at hdl hset0 hset ⊢
   have hmW:m1<H:=by omega
   have HST:=hid hstep
   have HSet:=hid hset
   have HFL:=hid hfl
   have HM1:=hid hm1
   have HDL:=hid hdl
   have hcl:=hc.same hch
   have hr0:=HR.out m1 hmW 0 (by omega) wr hcl
   rw [←hset0] at hrw
   clear hstep hset hset0 hfl hm1 hdl hcl
   go_wp2_with fail
   refine hr0.mono ?_
   rintro e w1 ⟨v1,G1,rfl,hown1,ch1,hG1⟩
   have hw0':=HWt.out m1 0
   have hus:=bestUp_le l W m1 d
   obtain ⟨r0,hr0d⟩:∃ r,r=rowL l W m1 d 0:=⟨_,rfl⟩
   rw [←hr0d] at hown1 hw0'
   obtain ⟨A1,c1,rfl,-,-,hcc1⟩:=hown1.open_map
   have hw0c:=hw0' A1 c1 w1 hcc1
   have HR0:=hid hr0d
   clear hr0 hw0' hr0d
   go_wp2_with fail
   refine hw0c.mono ?_
   rintro e w1' ⟨rfl,rfl⟩
   have ch1':Chg [] w w1:=hch.trans_same ch1
   have hrw1:=hrw.chg ch1 (by simp)
   have HUS:=hid hus
   clear hown1 hcc1 hw0c hus hrw
   go_wp2_with fail
   go_loopg [11,12] 9 (fun q lv kv wx=>q≤9∧kv=.int .i64 ((10-q:Nat):Int)∧lv=.int .i64 (weightI (rowL l W m1 d (bestUp l W m1 d (9-q))) d)∧Row wx 3 (.slice (some ⟨B,0,none⟩) H H) B (((fillL done H).set m1 ((bestUp l W m1 d (9-q):Nat):Int)).map vi)∧Chg [] w wx)
   case atStart=>exact ⟨Nat.le_refl _,rfl,by rw [HR0.out];rfl,hrw1,ch1'⟩
   case round =>
    obtain ⟨hq,rfl,rfl,hrx,hchx⟩:=hrel
    clear hrw1 ch1'
    rcases gk with _ | q
    ·have t2:decide (((10-0:Nat):Int)<(10:Int))=false:=by simp
     rw [Nat.sub_zero] at hrx
     go_wp2
     go_roundg j
     case measure=>omega
     case rel =>
      refine ⟨done++[bkI l W d m1],?_,?_,hid ?_,?_,hchx⟩
      ·rw [List.length_append,List.length_singleton,←HM1.out];go_num
      ·rw [List.length_append,List.length_singleton,←HM1.out];have:=HDL.out;omega
      ·rw [List.length_append,List.length_singleton,←HM1.out]
       exact HST.out
      ·rw [←HSet.out]
       exact hrx
    ·obtain ⟨k,hk⟩:∃ k,k=9-(q+1):=⟨_,rfl⟩
     rw [←hk] at hrx ⊢
     have hk2:10-(q+1)=k+1:=by omega
     have hk3:9-q=k+1:=by omega
     have hk4:10-q=k+2:=by omega
     have hk9:k+1<10:=by omega
     rw [hk2]
     have HK3:=hid hk3
     have HK4:=hid hk4
     have hup:bestUp l W m1 d (k+1)=if weightI (rowL l W m1 d (k+1)) d<weightI (rowL l W m1 d (bestUp l W m1 d k)) d then k+1 else bestUp l W m1 d k:=rfl
     have hr1:=HR.out m1 hmW (k+1) hk9 wr (hc.same hchx)
     have hwc:=HWt.out m1 (k+1)
     have hcast:((k+1:Nat):Int)=(k:Int)+1:=by omega
     rw [hcast] at hr1 ⊢
     obtain ⟨r1,hr1d⟩:∃ r,r=rowL l W m1 d (k+1):=⟨_,rfl⟩
     rw [←hr1d] at hr1 hwc hup
     obtain ⟨b,hb⟩:∃ b,b=bestUp l W m1 d k:=⟨_,rfl⟩
     rw [←hb] at hup hrx ⊢
     obtain ⟨t,ht⟩:∃ t,t=weightI (rowL l W m1 d b) d:=⟨_,rfl⟩
     rw [←ht] at hup ⊢
     obtain ⟨s,hs⟩:∃ s,s=weightI r1 d:=⟨_,rfl⟩
     rw [←hs] at hwc hup
     have HUp:=hid hup
     have HB2:=hid hb
     have HT:=hid ht
     have HS2:=hid hs
     have HR1:=hid hr1d
     obtain ⟨_,hrcell,_⟩:=hrx.open_
     have hfl:=HFL.out
     have hce:∀ w',Chg [] wr w'→w'.cell? ⟨B,m1,none⟩=some (.int .i64 (b:Int))∧w'.frozen? ⟨B,m1,none⟩=false:=fun w' h'=>by
      obtain ⟨cap',h2,h3,h4,h5,h6⟩:=(hrx.chg h' (by simp)).open_map
      refine ⟨h5 m1 (b:Int) ?_,h6 m1⟩
      rw [List.getElem?_set_self (by rw [hfl];exact hmW)]
     have HCe:=hid hce
     clear hup hb ht hs hr1d hk hk2 hk3 hk4 hfl hce hrcell
     go_wp2_with fail
     refine hr1.mono ?_
     rintro e w2 ⟨v2,G2,rfl,hown2,ch2,hG2⟩
     obtain ⟨A2,c2,rfl,-,-,hcc2⟩:=hown2.open_map
     have hwc2:=hwc A2 c2 w2 hcc2
     obtain ⟨hce2,hfr2⟩:=HCe.out w2 ch2
     clear hr1 hwc hown2 hcc2
     by_cases hlt:s<t
     ·have t3:decide (s<t)=true:=decide_eq_true hlt
      have hres:=HUp.out
      rw [if_pos hlt] at hres
      have HRes:=hid hres
      clear hres hlt
      go_wp2_with fail
      refine hwc2.mono ?_
      rintro e w2' ⟨rfl,rfl⟩
      go_wp2_with fail
      go_roundg q
      case measure=>omega
      case rel =>
       rw [HK3.out,HK4.out,HRes.out,←HR1.out,←HS2.out]
       have h1:=(hrx.chg ch2 (by simp)).set_ (i:=m1) (by rw [List.length_map,List.length_set,HFL.out];exact hmW) (vi ((k+1:Nat):Int))
       rw [←List.map_set,List.set_set] at h1
       refine ⟨by omega,by go_num,rfl,?_,(hchx.trans_same ch2).setCell (.inr (by have:=HB.out;simp;omega)) _⟩
       have e7:vi ((k+1:Nat):Int)=.int .i64 ((k:Int)+1):=by unfold vi;go_num
       rw [e7] at h1
       exact h1
     ·have t3:decide (s<t)=false:=decide_eq_false hlt
      have hres:=HUp.out
      rw [if_neg hlt] at hres
      have HRes:=hid hres
      clear hres hlt
      go_wp2_with fail
      refine hwc2.mono ?_
      rintro e w2' ⟨rfl,rfl⟩
      go_wp2_with fail
      go_roundg q
      case measure=>omega
      case rel =>
       rw [HK3.out,HK4.out,HRes.out,←HT.out]
       exact ⟨by omega,by go_num,rfl,hrx.chg ch2 (by simp),hchx.trans_same ch2⟩
theorem Row.room (w:World) (n:Nat) (h:n≤1048576):Row (w.alloc (.cells (List.replicate n (Value.int .i64 0)).toArray 3)) 3 (.slice (some ⟨w.heap.size,0,none⟩) 0 n) w.heap.size [] :=
 ⟨n,_,rfl,Blk.new w _ _,Nat.zero_le _,by simp [maxLen];omega,by simp,by simp⟩
theorem run_make_room {P:Program} {t e:TypeId} {z:Value} {bytes:Nat} (E:Elem P t e z 1 bytes) (hzs:z.cells=#[z]) (kl kc:IntKind) (n:Nat) (hb:bytes*n≤281474976710656) (h63:n≤9223372036854775807) (w:World) :
  (Instr.makeSlice t (.int kl 0) (.int kc (n:Int))).run P w=.ok (.slice (some ⟨w.heap.size,0,none⟩) 0 n) (w.alloc (.cells (List.replicate n z).toArray e)):=by
 obtain ⟨i,hi,hz,hsize,hby⟩:=E.hi
 subst hby
 have hb':(i.bytes:Int)*(n:Int)≤281474976710656:=by
  have h:((i.bytes*n:Nat):Int)≤281474976710656:=by omega
  rwa [Int.natCast_mul] at h
 have hr:=run_make (P:=P) w t e i z E.ht hi hz kl kc 0 n (by omega) (by omega) hb' (by omega)
 rw [hr,hsize,hzs]
 simp only [Int.toNat_natCast,Nat.mul_one]
 have:madeCells #[z] n=(List.replicate n z).toArray:=by
  apply Array.toList_inj.1
  rw [toList_madeCells_one]
 rw [this]
 rfl
theorem gfore_ok (l:List Int) (A:Option Addr) (cap W H d:Nat) (ks:List Nat) (Ak:Option Addr) (capk:Nat) (w:World) (hw0:1≤W) (hw1:W≤64) (hh0:1≤H) (hh1:H≤64) (h0:1≤d) (h1:d≤16) (hl:l.length=W*H) (hs:SmpOk d l) (hc:Cells vi w A l)
  (hkl:ks.length=H) (hks:∀ k∈ks,k<10) (hck:Cells i64 w Ak ks) :
  Calls Tryz.prog 119 #[.slice A l.length cap,.int .i64 W,.int .i64 H,.int .i64 d,.slice Ak ks.length capk] w fun e w'=>∃ v G,e=.returned (.tuple #[v,.int .i64 0])∧Own w' 3 v G ((foreL l W H d ks).map vi)∧Chg [] w w'∧∀ x∈G,w.heap.size≤x:=by
 have hl4:l.length≤4096:=by rw [hl];exact Nat.mul_le_mul hw1 hh1
 have hmk:=run_make_room (P:=Tryz.prog) int_elem rfl .i64 .i64 l.length (by omega) (by omega)
 have hpl:=isPlane_yes l A cap W H d w hw0 hw1 hh0 hh1 h0 h1 hl hs hc
 have hak:=areKinds_yes ks Ak capk w hks (by omega) hck
 rw [hkl] at hak
 have hrow:=fun y (hy:y<H) k (hk:k<10) w hc=>row_ok l A cap W H y d k w hw0 hw1 hh1 hy h0 h1 hk hl hs hc
 obtain ⟨m,hm⟩:∃ m,m=l.length:=⟨_,rfl⟩
 rw [←hm] at hrow hpl hmk hl4 ⊢
 rw [hkl]
 have HR:=hid hrow
 have HKs:=hid hks
 have HM:=hid hm
 have HKL:=hid hkl
 have hmW:=hl
 rw [←hm] at hmW
 have HMW:=hid hmW
 clear hrow hm hl hs hks hkl hmW
 go_enter Tryz.func119,Tryz.ntmps119
 go_wp2_with (first | (go_at_call 142;refine hpl.mono ?_;rintro e w' ⟨rfl,rfl⟩) | (go_at_call 143;refine hak.mono ?_;rintro e w' ⟨rfl,rfl⟩))
 have hrow0:=(Row.room w m (by omega)).toOwn
 obtain ⟨B,hB⟩:∃ B,B=w.heap.size:=⟨_,rfl⟩
 rw [←hB] at hrow0 ⊢
 have HB:=hid hB
 have ch0:Chg [] w (w.alloc (.cells (List.replicate m (Value.int .i64 0)).toArray 3)):=(Chg.refl [] w).alloc _
 clear hB hpl hak
 go_loopg [12,32] H (fun j ov iv wr=>∃ (out:List Int) (G:List Nat),j≤H∧iv=.int .i64 ((H-j:Nat):Int)∧Own wr 3 ov G (out.map vi)∧Hid (out=(List.range (H-j)).flatMap (fun y=>rowL l W y d (ks.getD y 0)))∧Chg [] w wr∧∀ x∈G,w.heap.size≤x)
 case atStart=>exact ⟨[],[B],Nat.le_refl _,by simp,hrow0,hid (by simp),ch0,fun x hx=>by have := HB.out;simp at hx;omega⟩
 case round =>
  obtain ⟨out,G,hj,rfl,hown,Ho,hch,hG⟩:=hrel
  obtain ⟨Ao,co,rfl,-,-,-⟩:=hown.open_map
  have HG:=hid hG
  clear hG hrow0 ch0
  rcases gk with _ | j
  ·have t4:decide (((H-0:Nat):Int)<(H:Int))=false:=by simp
   go_wp2
   go_ret2
   refine ⟨_,G,rfl,?_,hch,HG.out⟩
   have e:=Ho.out
   rw [Nat.sub_zero] at e
   rw [e] at hown
   rw [e]
   exact hown
  ·obtain ⟨i,hi1⟩:∃ i,i=H-(j+1):=⟨_,rfl⟩
   rw [←hi1] at Ho ⊢
   have hi2:i<H:=by omega
   have hi3:H-j=i+1:=by omega
   have HI:=hid hi3
   clear hi1 hi3
   have hik:i<ks.length:=by rw [HKL.out];exact hi2
   obtain ⟨g,o,rfl,hcell⟩:=(hck.same hch).at_ hik
   have hk:=HKs.out _ (List.getElem_mem hik)
   have hgd:ks.getD i 0=ks[i]:=by rw [List.getD_eq_getElem?_getD,List.getElem?_eq_getElem hik];rfl
   have hstep:(List.range (i+1)).flatMap (fun y=>rowL l W y d (ks.getD y 0))=out++rowL l W i d ks[i]:=by
    rw [List.range_succ,List.flatMap_append,←Ho.out,List.flatMap_cons,List.flatMap_nil,List.append_nil,hgd]
   obtain ⟨k,hkk⟩:∃ k,k=ks[i]:=⟨_,rfl⟩
   rw [←hkk] at hcell hk hstep
   have hcell':wr.cell? ⟨g,o+i,none⟩=some (.int .i64 (k:Int)):=hcell
   have hr:=HR.out i hi2 k hk wr (hc.same hch)
   have hrl:=rowL_len l W i d k
   obtain ⟨r,hrd⟩:∃ r,r=rowL l W i d k:=⟨_,rfl⟩
   rw [←hrd] at hr hstep hrl
   have HS:=hid hstep
   have HRL:=hid hrl
   have hol:out.length≤4096:=by
    have hml:=HMW.out
    rw [Ho.out,flatMap_len_const _ W _ fun y _=>rowL_len _ _ _ _ _,List.length_range]
    have:=Nat.mul_le_mul_left W (show i≤H by omega)
    omega
   clear hkk hik hgd hstep hrd hcell hrl
   go_wp2_with fail
   refine hr.mono ?_
   rintro e w1 ⟨v1,G1,rfl,hown1,ch1,hG1⟩
   obtain ⟨A1,c1,rfl,-,-,hcc1⟩:=hown1.open_map
   have hown':=hown.same ch1
   have hcv:Cells (fun u=>u) w1 A1 (r.map vi):=by
    obtain ⟨A',c',h5,_,_,h6,_⟩:=hown1.open_
    injection h5 with h5
    subst h5
    exact h6
   have hrl2:r.length≤64:=by rw [HRL.out];exact hw1
   clear hr hown1 hcc1
   go_wp2_with (at_builtin;refine wpList_append_s rfl rfl int_elem rfl rfl hown' (r.map vi) r.length rfl ?c1 ?c2 ?c3 ?c4 ?c5 ?_)
   case c1=>exact (List.length_map _).symm
   case c2=>exact hcv
   case c3=>exact vi_one _
   case c4=>rw [List.length_map,List.length_map];omega
   case c5=>rw [List.length_map,List.length_map];omega
   intro v' F' w2 h2 h3
   go_wp2_with fail
   go_roundg j
   case measure=>omega
   case rel =>
    rw [HI.out]
    refine ⟨out++r,F',by omega,by go_num,?_,hid HS.out.symm,(hch.trans_same ch1).trans h3.chg fun x hx => .inr (HG.out x hx),fun x hx => ?_⟩
    ·rw [List.map_append]
     exact h2
    ·rcases h3.new x hx with h9 | h9
     ·exact HG.out x h9
     ·have:=hch.size
      have:=ch1.size
      omega
structure DSt where
 runs:List Nat
 dists:List Nat
 longest:Nat
structure DSt.Ok (s:DSt):Prop where
 rl:s.runs.length=1025
 dl:s.dists.length=65
 r64:∀ x∈s.runs,x≤64
 d1024:∀ x∈s.dists,x≤1024
 l64:s.longest≤64
def fillD:Nat→List Nat→Nat→Nat→List Nat
 | 0,D,_,_=>D
 | f+1,D,m,d=>fillD f (D.set (m+1) d) (m+1) d
theorem fillD_len:∀ f D m d,(fillD f D m d).length=D.length
 | 0,_,_,_=>rfl
 | f+1,D,m,d=>by rw [fillD,fillD_len,List.length_set]
theorem mem_set_le {l:List Nat} {i v B:Nat} (h:∀ x∈l,x≤B) (hv:v≤B):∀ x∈l.set i v,x≤B:=fun x hx=>by
 rcases List.mem_or_eq_of_mem_set hx with h1 | h1
 ·exact h x h1
 ·omega
theorem fillD_le {B:Nat}:∀ f D m d,(∀ x∈D,x≤B)→d≤B→∀ x∈fillD f D m d,x≤B
 | 0,_,_,_,h,_=>h
 | f+1,D,m,d,h,hd=>fillD_le f _ _ d (mem_set_le h hd) hd
def runAt (l:List Int) (at_:Nat) (rs:List Nat) (d:Nat):Nat:=if l.getD at_ 0=l.getD (at_-d) 0 then min (rs.getD d 0+1) 64 else 0
theorem runAt_le (l:List Int) (at_:Nat) (rs:List Nat) (d:Nat):runAt l at_ rs d≤64:=by
 unfold runAt
 split<;>omega
def dStep (l:List Int) (at_:Nat) (s:DSt) (d:Nat):DSt :=
 ⟨s.runs.set d (runAt l at_ s.runs d),fillD (runAt l at_ s.runs d-s.longest) s.dists s.longest d,max s.longest (runAt l at_ s.runs d)⟩
theorem dStep_ok {l:List Int} {at_ d:Nat} {s:DSt} (h:s.Ok) (hd:d≤1024):(dStep l at_ s d).Ok:=by
 have:=runAt_le l at_ s.runs d
 exact ⟨by simp [dStep,h.rl],by simp [dStep,fillD_len,h.dl],mem_set_le h.r64 this,fillD_le _ _ _ _ h.d1024 hd,by have:=h.l64;simp only [dStep];omega⟩
def dGo (l:List Int) (at_:Nat):Nat→Nat→DSt→DSt
 | 0,_,s=>s
 | f+1,d,s=>dGo l at_ f (d+1) (dStep l at_ s d)
theorem dGo_ok {l:List Int} {at_:Nat}:∀ f d s,s.Ok→d+f≤1025→(dGo l at_ f d s).Ok
 | 0,_,_,h,_=>h
 | f+1,d,s,h,hd=>dGo_ok f (d+1) _ (dStep_ok h (by omega)) (by omega)
def dStart (rs:List Nat):DSt:=⟨rs,List.replicate 65 0,0⟩
def distF (l:List Int) (at_:Nat) (rs:List Nat):DSt:=dGo l at_ (min at_ 1024) 1 (dStart rs)
def RunsOk (rs:List Nat):Prop:=rs.length=1025∧∀ x∈rs,x≤64
theorem dStart_ok {rs:List Nat} (h:RunsOk rs):(dStart rs).Ok :=
 ⟨h.1,by simp [dStart],h.2,fun x hx=>by rw [List.eq_of_mem_replicate hx];exact Nat.zero_le _,Nat.zero_le _⟩
theorem distF_ok {l:List Int} {at_:Nat} {rs:List Nat} (h:RunsOk rs):(distF l at_ rs).Ok:=dGo_ok _ _ _ (dStart_ok h) (by omega)
structure DSt.In (s:DSt) (B:Nat):Prop where
 rb:∀ x∈s.runs,x≤B
 lb:s.longest≤B
 db:∀ n,s.dists.getD n 0≠0→n≤s.longest
theorem getD_set (l:List Nat) (i v j:Nat):(l.set i v).getD j 0=if i=j∧i<l.length then v else l.getD j 0:=by
 rw [List.getD_eq_getElem?_getD,List.getD_eq_getElem?_getD,List.getElem?_set]
 by_cases h:i=j
 ·subst h
  by_cases h2:i<l.length
  ·simp [h2]
  ·simp [h2]
 ·simp [h]
theorem fillD_in:∀ f D m d n,(∀ n,D.getD n 0≠0→n≤m)→(fillD f D m d).getD n 0≠0→n≤m+f
 | 0,_,_,_,n,h,hn=>h n hn
 | f+1,D,m,d,n,h,hn=>by
  have:=fillD_in f (D.set (m+1) d) (m+1) d n (fun k hk=>by
   rw [getD_set] at hk
   split at hk
   ·omega
   ·have:=h k hk;omega) hn
  omega
theorem dStep_in {l:List Int} {at_ d B:Nat} {s:DSt} (h:s.In B) (hr:runAt l at_ s.runs d≤B):(dStep l at_ s d).In B:=by
 refine ⟨mem_set_le h.rb hr,?_,fun n hn => ?_⟩
 ·have:=h.lb;simp only [dStep];omega
 ·have:=fillD_in _ _ _ _ n h.db hn
  simp only [dStep]
  omega
theorem dGo_in {l:List Int} {at_ B:Nat}:∀ f d s,s.In (B+1)→(∀ k,d≤k→s.runs.getD k 0≤B)→(dGo l at_ f d s).In (B+1)
 | 0,_,_,h,_=>h
 | f+1,d,s,h,hb=>by
  have h1:=hb d (Nat.le_refl _)
  have hr:runAt l at_ s.runs d≤B+1:=by
   unfold runAt
   split<;>omega
  refine dGo_in f (d+1) _ (dStep_in h hr) fun k hk => ?_
  show (s.runs.set d _).getD k 0≤B
  rw [getD_set,if_neg (by omega)]
  exact hb k (by omega)
theorem distF_in {l:List Int} {at_ B:Nat} {rs:List Nat} (h:∀ x∈rs,x≤B):(distF l at_ rs).In (B+1):=by
 have hg:∀ k,rs.getD k 0≤B:=fun k=>by
  rcases Nat.lt_or_ge k rs.length with hk | hk
  ·rw [List.getD_eq_getElem?_getD,List.getElem?_eq_getElem hk];exact h _ (List.getElem_mem hk)
  ·rw [List.getD_eq_getElem?_getD,List.getElem?_eq_none hk];exact Nat.zero_le _
 refine dGo_in _ _ _ ⟨fun x hx=>by have:=h x hx;omega,Nat.zero_le _,fun n hn => ?_⟩ fun k _=>hg k
 exfalso
 apply hn
 show (List.replicate 65 0).getD n 0=0
 rw [List.getD_eq_getElem?_getD,List.getElem?_replicate]
 split<;>rfl
structure LSt where
 costs:List Nat
 first:List Tok
 runs:List Nat
def lOne (cp at_:Nat) (D:List Nat) (n:Nat) (s:List Nat × List Tok):List Nat × List Tok :=
 if n<3∨D.getD n 0=0 then s else if s.1.getD (at_+n) 0+cp≤s.1.getD at_ 0 then (s.1.set at_ (s.1.getD (at_+n) 0+cp),s.2.set at_ ⟨n,D.getD n 0,0⟩) else s
def lPick (cp at_:Nat) (D:List Nat):Nat→Nat→List Nat × List Tok→List Nat × List Tok
 | 0,_,s=>s
 | f+1,n,s=>lPick cp at_ D f (n+1) (lOne cp at_ D n s)
def lBeg (l:List Int) (lit at_:Nat) (s:LSt):List Nat × List Tok:=(s.costs.set at_ (s.costs.getD (at_+1) 0+lit),s.first.set at_ ⟨0,0,l.getD at_ 0⟩)
def lStep (l:List Int) (lit cp at_:Nat) (s:LSt):LSt :=
 ⟨(lPick cp at_ (distF l at_ s.runs).dists 65 0 (lBeg l lit at_ s)).1,(lPick cp at_ (distF l at_ s.runs).dists 65 0 (lBeg l lit at_ s)).2,(distF l at_ s.runs).runs⟩
def lGo (l:List Int) (lit cp:Nat):Nat→LSt→LSt
 | 0,s=>s
 | k+1,s=>lGo l lit cp k (lStep l lit cp k s)
def lStart (n:Nat):LSt:=⟨List.replicate (n+1) 0,List.replicate n ⟨0,0,0⟩,List.replicate 1025 0⟩
def leastSt (l:List Int) (lit cp:Nat):LSt:=lGo l lit cp l.length (lStart l.length)
def tokAt (F:List Tok) (i:Nat):Tok:=F.getD i ⟨0,0,0⟩
def tokGo (F:List Tok) (n:Nat):Nat→Nat→List Tok
 | 0,_=>[]
 | f+1,i=>if i<n then tokAt F i::tokGo F n f (i+max (tokAt F i).len 1) else []
def leastF (l:List Int) (lit cp:Nat):List Tok:=tokGo (leastSt l lit cp).first l.length l.length 0
structure PairOk (n B:Nat) (p:List Nat × List Tok):Prop where
 cl:p.1.length=n+1
 fl:p.2.length=n
 cb:∀ x∈p.1,x≤B
 fo:∀ t∈p.2,t.ok
structure LSt.Ok (n lit k:Nat) (s:LSt):Prop where
 pair:PairOk n ((n-k)*lit) (s.costs,s.first)
 rl:s.runs.length=1025
 rb:∀ x∈s.runs,x≤64∧x≤n-k
theorem getD_le {l:List Nat} {B:Nat} (h:∀ x∈l,x≤B) (i:Nat):l.getD i 0≤B:=by
 rcases Nat.lt_or_ge i l.length with hk | hk
 ·rw [List.getD_eq_getElem?_getD,List.getElem?_eq_getElem hk];exact h _ (List.getElem_mem hk)
 ·rw [List.getD_eq_getElem?_getD,List.getElem?_eq_none hk];exact Nat.zero_le _
theorem lOne_ok {n B cp at_:Nat} {D:List Nat} {m:Nat} {p:List Nat × List Tok} (h:PairOk n B p) (hm:m≤64) (hD:∀ x∈D,x≤1024):PairOk n B (lOne cp at_ D m p):=by
 unfold lOne
 split
 ·exact h
 ·rename_i h1
  split
  ·rename_i h2
   have h3:=getD_le h.cb at_
   have h4:=getD_le hD m
   refine ⟨by simp [h.cl],by simp [h.fl],mem_set_le h.cb (by omega),fun t ht => ?_⟩
   rcases List.mem_or_eq_of_mem_set ht with h5 | rfl
   ·exact h.fo t h5
   ·right
    rw [Tok.isCopy_iff]
    exact ⟨by simp only;omega,by simp only;omega,by simp only;omega,by simp only;omega,rfl⟩
  ·exact h
theorem lPick_ok {n B cp at_:Nat} {D:List Nat} (hD:∀ x∈D,x≤1024):∀ f m p,PairOk n B p→m+f≤65→PairOk n B (lPick cp at_ D f m p)
 | 0,_,_,h,_=>h
 | f+1,m,p,h,hm=>lPick_ok hD f (m+1) _ (lOne_ok h (by omega) hD) (by omega)
theorem lBeg_ok {l:List Int} {n lit k:Nat} {s:LSt} (h:s.Ok n lit (k+1)) (hk:k<n):PairOk n ((n-k)*lit) (lBeg l lit k s):=by
 have e:(n-k)*lit=(n-(k+1))*lit+lit:=by rw [show n-k=n-(k+1)+1 by omega,Nat.add_mul,Nat.one_mul]
 have h1:=getD_le h.pair.cb (k+1)
 rw [e]
 refine ⟨by simp [lBeg,h.pair.cl],by simp [lBeg,h.pair.fl],mem_set_le (fun x hx => ?_) (by simp only at h1;omega),fun t ht => ?_⟩
 ·have:=h.pair.cb x hx;omega
 ·rcases List.mem_or_eq_of_mem_set ht with h5 | rfl
  ·exact h.pair.fo t h5
  ·left
   rfl
theorem lStep_ok {l:List Int} {n lit cp k:Nat} {s:LSt} (h:s.Ok n lit (k+1)) (hk:k<n):(lStep l lit cp k s).Ok n lit k:=by
 have hro:RunsOk s.runs:=⟨h.rl,fun x hx=>(h.rb x hx).1⟩
 have hd:=distF_ok (l:=l) (at_:=k) hro
 have hin:=distF_in (l:=l) (at_:=k) (rs:=s.runs) (B:=n-(k+1)) (fun x hx=>(h.rb x hx).2)
 refine ⟨lPick_ok hd.d1024 65 0 _ (lBeg_ok h hk) (by omega),hd.rl,fun x hx=>⟨hd.r64 x hx,?_⟩⟩
 have:=hin.rb x hx
 omega
theorem lStart_ok (n lit:Nat):(lStart n).Ok n lit n :=
 ⟨⟨List.length_replicate,List.length_replicate,fun x hx=>by rw [List.eq_of_mem_replicate hx];exact Nat.zero_le _,fun t ht=>by rw [List.eq_of_mem_replicate ht];exact .inl rfl⟩,List.length_replicate,fun x hx=>by rw [List.eq_of_mem_replicate hx];omega⟩
theorem lGo_ok {l:List Int} {n lit cp:Nat}:∀ k s,s.Ok n lit k→k≤n→(lGo l lit cp k s).Ok n lit 0
 | 0,_,h,_=>h
 | k+1,s,h,hk=>lGo_ok k _ (lStep_ok h (by omega)) (by omega)
theorem leastSt_ok (l:List Int) (lit cp:Nat):(leastSt l lit cp).Ok l.length lit 0:=lGo_ok _ _ (lStart_ok _ _) (Nat.le_refl _)
theorem tokGo_ok {F:List Tok} (h:∀ t∈F,t.ok) {n:Nat} (hn:n≤F.length):∀ f i,∀ t∈tokGo F n f i,t.ok
 | 0,_,t,ht=>by simp [tokGo] at ht
 | f+1,i,t,ht=>by
  unfold tokGo at ht
  split at ht
  ·rename_i hi
   rcases List.mem_cons.1 ht with rfl | h1
   ·unfold tokAt
    rw [List.getD_eq_getElem?_getD,List.getElem?_eq_getElem (by omega)]
    exact h _ (List.getElem_mem _)
   ·exact tokGo_ok h hn f _ t h1
  ·simp at ht
theorem tokGo_len {F:List Tok} {n:Nat}:∀ f i,(tokGo F n f i).length≤f
 | 0,_=>by simp [tokGo]
 | f+1,i=>by
  unfold tokGo
  split
  ·have:=tokGo_len (F:=F) (n:=n) f (i+max (tokAt F i).len 1)
   simp only [List.length_cons]
   omega
  ·exact Nat.zero_le _
theorem leastF_ok (l:List Int) (lit cp:Nat):∀ t∈leastF l lit cp,t.ok :=
 tokGo_ok (leastSt_ok l lit cp).pair.fo (by rw [(leastSt_ok l lit cp).pair.fl];exact Nat.le_refl _) _ _
theorem leastF_len (l:List Int) (lit cp:Nat):(leastF l lit cp).length≤l.length:=tokGo_len _ _
theorem rbitsAll_snoc (k:Nat) (l:List Int) (x:Int):rbitsAll k (l++[x])=rbitsAll k l++rbits k x:=by simp [rbitsAll]
theorem rput_ok (w:World) (b:Nat) (F bs:List Nat) (k:Nat) (l:List Int) (A:Option Addr) (cap:Nat) (h:IsWr w b F bs) (hk:k≤25) (hw:∀ x∈l,wideP x) (hc:Cells vi w A l)
  (hA:Apt A l F) (hlen:bs.length+65*l.length<274877906944) :
  Calls Tryz.prog 123 #[.pointer (some ⟨b,0,none⟩),.int .i64 k,.slice A l.length cap] w fun e w'=>e=.returned (.int .i64 0)∧∃ F',IsWr w' b F' (bs++rbitsAll k l)∧Grow F F' w w':=by
 have HW:=hid hw
 clear hw
 obtain ⟨n,hn⟩:∃ n,n=l.length:=⟨_,rfl⟩
 rw [←hn] at hlen ⊢
 have HN:=hid hn
 have HA:=hid hA
 clear hn hA
 go_enter Tryz.func123,Tryz.ntmps123
 go_wp2_with (go_at_call 149;refine (param_yes _ _ hk).mono ?_;rintro e w' ⟨rfl,rfl⟩)
 go_loopg [18] n (fun j i wr=>j≤n∧i=.int .i64 ((n-j:Nat):Int)∧w=wr)
 case atStart=>exact ⟨Nat.le_refl _,by simp,rfl⟩
 case round =>
  obtain ⟨hj,rfl,rfl⟩:=hrel
  rcases gk with _ | j
  ·have t4:decide (((n-0:Nat):Int)<(n:Int))=false:=by simp
   go_wp2_with fail
   go_loopg [28] n (fun j i wr=>∃ F' bs',j≤n∧i=.int .i64 ((n-j:Nat):Int)∧IsWr wr b F' bs'∧Hid (bs'=bs++rbitsAll k (l.take (n-j)))∧bs'.length≤bs.length+65*(n-j)∧Grow F F' w wr)
   case atStart=>exact ⟨F,bs,Nat.le_refl _,by simp,h,hid (by simp [rbitsAll]),by omega,Grow.refl _ _⟩
   case round =>
    obtain ⟨F',bs',hj',rfl,hb,Hb,hbl,hgr⟩:=hrel
    rcases gk with _ | j
    ·go_wp2
     go_ret
     refine ⟨rfl,F',?_,hgr⟩
     have e:l.take n=l:=by rw [HN.out,List.take_length]
     rw [Hb.out,Nat.sub_zero,e] at hb
     exact hb
    ·obtain ⟨m,hm1⟩:∃ m,m=n-(j+1):=⟨_,rfl⟩
     rw [←hm1] at Hb hbl ⊢
     have hm2:m<n:=by omega
     have hm3:n-j=m+1:=by omega
     have HM:=hid hm3
     clear hm1 hm3
     have hml:m<l.length:=by rw [←HN.out];exact hm2
     obtain ⟨g,o,rfl,hcell⟩:=(hc.keep HA.out hgr.chg).at_ hml
     have hsn:=rbitsAll_snoc k (l.take m) l[m]
     rw [←take_snoc' l hml] at hsn
     obtain ⟨x,hx⟩:∃ x,x=l[m]:=⟨_,rfl⟩
     rw [←hx] at hcell hsn
     have hcell':wr.cell? ⟨g,o+m,none⟩=some (.int .i64 x):=hcell
     have hxw:wideP x:=by rw [hx];exact HW.out _ (List.getElem_mem _)
     have HS:Hid (bs++rbitsAll k (l.take (m+1))=bs'++rbits k x):=by
      refine hid ?_
      rw [hsn,Hb.out,List.append_assoc]
     have hcl:=rbits_len k x
     have hcle:=rcost_le k x hk
     have hu:=rfold_lt hxw
     have hfo:=rfold_ok x wr hxw
     obtain ⟨u,hu'⟩:∃ u,u=rfold x:=⟨_,rfl⟩
     rw [←hu'] at hu hfo
     have hq:u / 2^k≤u:=Nat.div_le_self _ _
     have hqm:=Nat.div_add_mod u (2^k)
     have hlt2:=Nat.mod_lt u (Nat.two_pow_pos k)
     have hp25:2^k≤33554432:=Nat.pow_le_pow_right (n:=2) (j:=25) (by decide) hk
     obtain ⟨q,hq'⟩:∃ q,q=u / 2^k:=⟨_,rfl⟩
     obtain ⟨r,hr'⟩:∃ r,r=u%2^k:=⟨_,rfl⟩
     have e1:(u:Int) / 2^k=(q:Int):=by rw [hq'];simp
     have hrb:rbits k x=if q<32 then List.replicate q 0++1::bitsOf r k else List.replicate 32 0++1::bitsOf u 32:=by unfold rbits;rw [←hu',←hq',←hr']
     rw [←hq'] at hq hqm
     rw [←hr'] at hqm hlt2
     have hqp:(q:Int)*2^k=(u:Int)-r:=by
      have:((2^k*q+r:Nat):Int)=(u:Int):=by rw [hqm]
      rw [Int.natCast_add,Int.natCast_mul,Int.natCast_pow] at this
      rw [Int.mul_comm]
      simp at this
      omega
     have HRB:=hid hrb
     have hbl2:bs'.length+65<274877906944:=by omega
     have HCL:Hid ((bs'++rbits k x).length≤bs.length+65*(m+1)):=hid (by rw [List.length_append,hcl];omega)
     have hru:r≤u:=by rw [hr'];exact Nat.mod_le _ _
     have HLT2:=hid hlt2
     clear hrb hqm hu' hq' hr' hcell hx hsn hml hcl hcle hlt2 hp25
     by_cases hs:q<32
     ·have t1:decide ((q:Int)<32)=true:=by simp;omega
      rw [if_pos hs] at HRB
      go_wp2_with (go_at_call 117;refine hfo.mono ?_;rintro e w' ⟨rfl,rfl⟩)
      refine (wunary_ok _ b F' bs' q hb (by omega) (by omega)).mono ?_
      rintro e w1 ⟨rfl,F2,h2,g2⟩
      go_wp2_with fail
      rw [show (u:Int)-((u:Int)-r)=r by omega]
      refine (wput_ok _ b F2 _ r k h2 (by omega) HLT2.out (by simp;omega)).mono ?_
      rintro e w2 ⟨rfl,F3,h3,g3⟩
      go_wp2_with fail
      go_roundg j
      case measure=>omega
      case rel =>
       rw [HM.out]
       refine ⟨F3,bs'++rbits k x,by omega,by go_num,?_,hid HS.out.symm,HCL.out,(hgr.trans g2).trans g3⟩
       rw [HRB.out]
       simpa using h3
     ·have t1:decide ((q:Int)<32)=false:=by simp;omega
      rw [if_neg hs] at HRB
      go_wp2_with (go_at_call 117;refine hfo.mono ?_;rintro e w' ⟨rfl,rfl⟩)
      refine (wunary_ok _ b F' bs' 32 hb (by omega) (by omega)).mono ?_
      rintro e w1 ⟨rfl,F2,h2,g2⟩
      go_wp2_with fail
      refine (wput_ok _ b F2 _ u 32 h2 (by omega) (by omega) (by simp;omega)).mono ?_
      rintro e w2 ⟨rfl,F3,h3,g3⟩
      go_wp2_with fail
      go_roundg j
      case measure=>omega
      case rel =>
       rw [HM.out]
       refine ⟨F3,bs'++rbits k x,by omega,by go_num,?_,hid HS.out.symm,HCL.out,(hgr.trans g2).trans g3⟩
       rw [HRB.out]
       simpa using h3
  ·obtain ⟨m,hm1⟩:∃ m,m=n-(j+1):=⟨_,rfl⟩
   rw [←hm1]
   have hm2:m<n:=by omega
   have hm3:n-j=m+1:=by omega
   have HM:=hid hm3
   clear hm1 hm3
   have hml:m<l.length:=by rw [←HN.out];exact hm2
   obtain ⟨g,o,rfl,hcell⟩:=hc.at_ hml
   have hxw:wideP l[m]:=HW.out _ (List.getElem_mem _)
   obtain ⟨x,hx⟩:∃ x,x=l[m]:=⟨_,rfl⟩
   rw [←hx] at hcell hxw
   have hcell':w.cell? ⟨g,o+m,none⟩=some (.int .i64 x):=hcell
   clear hcell hx hml
   go_wp2_with (go_at_call 166;refine (wide_yes _ _ hxw).mono ?_;rintro e w' ⟨rfl,rfl⟩)
   go_roundg j
   case measure=>omega
   case rel =>
    rw [HM.out]
    exact ⟨by omega,by go_num,rfl⟩
end Go.Proofs.YtijpbkakncglgaaGreatDoor
