/- package kinorakeep2 by its contracts, the third part: Plane. -/
import Derived.Test.YtijpbkakncglgaaGreatDoorMg29
set_option linter.unusedVariables false
set_option linter.unusedSimpArgs false
set_option maxHeartbeats 4000000
set_option maxRecDepth 100000
namespace Go.Proofs.YtijpbkakncglgaaGreatDoor
open Go.RowKit
theorem plane_round {w3 wx w4:World} {b cap a2 d P r i j n rb s:Nat} {A:Option Addr} {L:List Int} {l:List Int} {F:List Nat} {g2 cap2:Nat} {o:Obj}
  (hrw:IsRw wx rb s) (htp:IsTp wx b A cap L a2) (hch:Chg [rb] w3 wx) (hF:∀ x∈F,rb<x) (hll:l.length=i) (hsm:SmpOk d l) (hrP:r<P) (hP:P=2^d)
  (hsz:w3.heap.size≤wx.heap.size) (hs3:w3.heap.size=rb+1) (hb:b<rb) (hap:Apt A L F) (hij:i+(j+1)=n)
  (hr4:Row w4 3 (.slice (some ⟨g2,0,none⟩) (i+1) cap2) g2 (l.map vi++[.int .i64 r])) (gr4:Grow F [g2] (wx.alloc o) w4) :
  ∃ (i' s':Nat) (l':List Int) (F':List Nat),Value.int .i64 ((i:Int)+1)=.int .i64 i'∧i'+j=n∧Own w4 3 (.slice (some ⟨g2,0,none⟩) (i+1) cap2) F' (l'.map vi)∧l'.length=i'∧Hid (SmpOk d l')∧IsRw w4 rb s'∧(∀ x∈F',rb<x)∧IsTp w4 b A cap L a2∧Chg [rb] w3 w4:=by
 have hch4:Chg F wx w4:=((Chg.refl [] wx).alloc o).mono (by simp) |>.trans_same gr4.chg
 have hrbF:rb∉F:=fun hm=>by have:=hF rb hm;omega
 have hbF:b∉F:=fun hm=>by have:=hF b hm;omega
 refine ⟨i+1,s,l++[(r:Int)],[g2],by simp,by omega,?_,by simp [hll],?_,⟨hrw.1.chg hch4 hrbF,hrw.2⟩,?_,?_,?_⟩
 ·have:=hr4.toOwn
  simpa [vi] using this
 ·refine hid ?_
  intro z hz
  rcases List.mem_append.1 hz with h1 | h1
  ·exact hsm z h1
  ·simp at h1
   subst h1
   have e:(2:Int)^d=(P:Int):=by rw [hP];simp
   rw [e]
   omega
 ·intro y hy
  simp at hy
  subst hy
  rcases gr4.new y (by simp) with h1 | h1
  ·exact hF y h1
  ·simp at h1
   omega
 ·exact htp.same hch4 hbF hap
 ·exact hch.trans hch4 fun x hx => .inr (by have:=hF x hx;omega)
theorem plane_tp (w:World) (b cap at_ W H d:Nat) (A:Option Addr) (L:List Int) (h:IsTp w b A cap L at_) (hw0:1≤W) (hw1:W≤64) (hh0:1≤H) (hh1:H≤64) (h0:1≤d) (h1:d≤16) :
  Calls Tryz.prog 41 #[.pointer (some ⟨b,0,none⟩),.int .i64 W,.int .i64 H,.int .i64 d] w fun e w'=>∃ (v:Value) (g:Nat) (l:List Int) (at':Nat),e=.returned v∧Row w' 3 v g (l.map vi)∧l.length=W*H∧SmpOk d l∧IsTp w' b A cap L at'∧Chg [b] w w'∧w.heap.size≤g:=by
 have hn7:=next_tp w b cap at_ 7 A L h (by omega) (by omega)
 obtain ⟨n,hn⟩:∃ n,n=W*H:=⟨_,rfl⟩
 have hnI:(W:Int)*(H:Int)=(n:Int):=by rw [hn];simp
 have hn4:n≤4096:=by rw [hn];exact Nat.mul_le_mul hw1 hh1
 have hn1:1≤n:=by rw [hn];exact Nat.mul_pos hw0 hh0
 have hnW:n≤64*W:=by rw [hn,Nat.mul_comm];exact Nat.mul_le_mul_right W hh1
 obtain ⟨P,hP⟩:∃ P,P=2^d:=⟨_,rfl⟩
 have hPI:(2:Int)^d=(P:Int):=by rw [hP];simp
 have hP0:1≤P:=by rw [hP];exact Nat.two_pow_pos d
 have hP1:P≤65536:=by rw [hP];exact Nat.pow_le_pow_right (n:=2) (by decide) h1
 have hPne:(P:Int)≠0:=by omega
 have hWne:(W:Int)≠0:=by omega
 have HP:=hid hP
 have HN:=hid hn
 have hbl:=h.blk.lt
 rw [←hn]
 clear hn hP h
 go_enter Tryz.func41,Tryz.ntmps41
 go_wp2_with fail
 refine hn7.mono ?_
 rintro e w1 ⟨kd,a1,rfl,hkd,htp1,ch1⟩
 have hn20:=next_tp w1 b cap a1 1048576 A L htp1 (by omega) (by omega)
 clear hn7 htp1
 go_wp2_with fail
 refine hn20.mono ?_
 rintro e w2 ⟨sd,a2,rfl,hsd,htp2,ch2⟩
 obtain ⟨rb,hrb⟩:∃ rb,rb=w2.heap.size:=⟨_,rfl⟩
 obtain ⟨w3,hw3⟩:∃ w3,w3=w2.alloc (.cells #[.int .i64 sd] 101):=⟨_,rfl⟩
 have hrw:IsRw w3 rb sd:=⟨by rw [hw3,hrb];exact Blk.new w2 _ _,by omega⟩
 have HAF:Hid (∀ F:List Nat,(∀ x∈F,rb<x)→Apt A L F):=hid (fun F hF=>Apt.fresh htp2.cells (fun x hx=>by have:=hF x hx;omega))
 have HAP:Hid (Apt A L [rb]):=hid (Apt.fresh htp2.cells (by simp;omega))
 have htp3:IsTp w3 b A cap L a2:=htp2.fresh (by rw [hw3];exact (Chg.refl [] w2).alloc _)
 have ch12:=ch1.trans_same ch2
 have hs2:=ch12.size
 have hch3:Chg [b] w w3:=by rw [hw3];exact ch12.alloc _
 have hrbb:rb≠b:=by have:=htp2.blk.lt;omega
 have HRBB:Hid (b<rb):=hid (by have:=htp2.blk.lt;omega)
 have hs3:w3.heap.size=rb+1:=by rw [hw3,hrb];simp
 have HW3:=hid hw3
 have HRB:=hid hrb
 have HS3:=hid hs3
 have hrbw:w.heap.size≤rb:=by omega
 clear hn20 htp2 ch1 ch2 ch12 hw3 hrb hs3
 go_wp2_with fail
 rw [←HW3.out,←HRB.out]
 go_loopg [13,14,15,16,17] n (fun j vo vi' v15 v16 v17 wr=>∃ (i s:Nat) (l:List Int) (F:List Nat),vi'=.int .i64 i∧i+j=n∧Own wr 3 vo F (l.map vi)∧l.length=i∧Hid (SmpOk d l)∧IsRw wr rb s∧(∀ x∈F,rb<x)∧IsTp wr b A cap L a2∧Chg [rb] w3 wr)
 case atStart=>exact ⟨0,sd,[],[],rfl,by omega,Own.nil _ _,rfl,hid (by intro s hs;simp at hs),hrw,by simp,htp3,Chg.refl _ _⟩
 case round =>
  clear hrw htp3
  obtain ⟨i,s,l,F,rfl,hij,hown,hll,HSM,hrw,hF,htp,hch⟩:=hrel
  obtain ⟨Ao,co,rfl,hco,hcom,_⟩:=hown.open_map
  rcases gk with _ | j
  ·obtain rfl:i=n:=by omega
   have hchw:Chg [b] w wr:=hch3.trans hch (fun x hx=>by rw [List.mem_singleton.1 hx];exact .inr hrbw)
   rcases hown.cases with ⟨_,hnil,_⟩ | ⟨g,hrow,rfl⟩
   ·exfalso
    have:=congrArg List.length hnil
    rw [zE] at this
    simp at this
    rw [this] at hll
    simp at hll
    omega
   have hgF:=hF g (by simp)
   clear hown hF
   go_wp2
   go_ret
   exact ⟨_,g,l,a2,rfl,hrow,hll,HSM.out,htp,hchw,by omega⟩
  ·have hin:i<n:=by omega
   obtain ⟨x,hx⟩:∃ x,x=i%W:=⟨_,rfl⟩
   obtain ⟨y,hy⟩:∃ y,y=i / W:=⟨_,rfl⟩
   have hx64:x<64:=by have:=Nat.mod_lt i (show W>0 by omega);omega
   have hy64:y<64:=by rw [hy];exact Nat.div_lt_of_lt_mul (by rw [Nat.mul_comm];omega)
   have ex1:(i:Int)%(W:Int)=(x:Int):=by rw [hx];simp
   have ey1:(i:Int) / (W:Int)=(y:Int):=by rw [hy];simp
   have ex2:(i:Int).tmod (W:Int)=(x:Int):=by rw [Int.tmod_eq_emod_of_nonneg (by omega)];exact ex1
   have ey2:(i:Int).tdiv (W:Int)=(y:Int):=by rw [Int.tdiv_eq_ediv_of_nonneg (by omega)];exact ey1
   have hnx:=fun n (a:1≤n) (b:n≤1073741824) w' (hc:Chg [] wr w')=>next_rw w' rb s n ⟨hrw.1.chg hc (by simp),hrw.2⟩ a b
   have HNX:=hid hnx
   have HTP:=hid htp
   have HRW:=hid hrw
   have HOWN:Hid (Own wr 3 (.slice Ao i co) F (l.map vi)):=hid (by rw [←hll];exact hown)
   rw [hll]
   have HLL:=hid hll
   have HFF:=hid hF
   have HCH:=hid hch
   clear hx hy hnx htp hrw hown hF hch hll hco
   go_wp2
   go_quiet (fail)
   obtain ⟨p3,hp3⟩:∃ q,q=x / 3:=⟨_,rfl⟩
   obtain ⟨p4,hp4⟩:∃ q,q=y / 4:=⟨_,rfl⟩
   have hp3b:p3<64:=by omega
   have hp4b:p4<64:=by omega
   have x3:(x:Int) / 3=(p3:Int):=by omega
   have y4:(y:Int) / 4=(p4:Int):=by omega
   have x3t:(x:Int).tdiv 3=(p3:Int):=by rw [Int.tdiv_eq_ediv_of_nonneg (by omega)];exact x3
   have y4t:(y:Int).tdiv 4=(p4:Int):=by rw [Int.tdiv_eq_ediv_of_nonneg (by omega)];exact y4
   obtain ⟨xx,hxx⟩:∃ q,q=x*x:=⟨_,rfl⟩
   obtain ⟨yy,hyy⟩:∃ q,q=y*y:=⟨_,rfl⟩
   have hxxb:xx≤4096:=by rw [hxx];exact Nat.mul_le_mul (Nat.le_of_lt hx64) (Nat.le_of_lt hx64)
   have hyyb:yy≤4096:=by rw [hyy];exact Nat.mul_le_mul (Nat.le_of_lt hy64) (Nat.le_of_lt hy64)
   have hxxI:(x:Int)*(x:Int)=(xx:Int):=by rw [hxx];simp
   have hyyI:(y:Int)*(y:Int)=(yy:Int):=by rw [hyy];simp
   obtain ⟨p2,hp2⟩:∃ q,q=yy / 2:=⟨_,rfl⟩
   have hp2b:p2≤4096:=by omega
   have y2:(yy:Int) / 2=(p2:Int):=by omega
   have y2t:(yy:Int).tdiv 2=(p2:Int):=by rw [Int.tdiv_eq_ediv_of_nonneg (by omega)];exact y2
   obtain ⟨mm,hmm⟩:∃ q,q=(x+3*y)%5:=⟨_,rfl⟩
   have hmb:mm<5:=by omega
   have hmI:((x:Int)+3*(y:Int))%5=(mm:Int):=by omega
   have hmI2:((x:Int)+3*(y:Int)).tmod 5=(mm:Int):=by rw [Int.tmod_eq_emod_of_nonneg (by omega)];exact hmI
   clear hxx hyy hmm hp2 hp3 hp4
   obtain ⟨wy,hwy⟩:∃ wy,wy=wr.drewN nq:=⟨_,rfl⟩
   have HQ:Hid (Chg [rb] wr wy):=hid (by rw [hwy];exact ((Chg.refl [] wr).drewN nq).mono (by simp))
   have HQN:=fun n a b=>HNX.out n a b wy (by rw [hwy];exact (Chg.refl [] wr).drewN nq)
   have HRY:Hid (IsRw wy rb s):=hid (by rw [hwy];exact ⟨HRW.out.1.drewN _,HRW.out.2⟩)
   have HQM:=hid HQN
   rw [←hwy]
   clear HNX HRW HQN hwy
   rcases (by omega:kd=0∨kd=1∨kd=2∨kd=3∨kd=4∨kd=5∨kd=6) with rfl | rfl | rfl | rfl | rfl | rfl | rfl
   ·obtain ⟨v,rfl⟩:∃ v,v=sd:=⟨_,rfl⟩
    obtain ⟨r,hr⟩:∃ r,r=v%P:=⟨_,rfl⟩
    have hrP:r<P:=by rw [hr];exact Nat.mod_lt _ (by omega)
    have er1:(v:Int)%(P:Int)=(r:Int):=by rw [hr];simp
    have er2:(v:Int).tmod (P:Int)=(r:Int):=by rw [Int.tmod_eq_emod_of_nonneg (by omega)];exact er1
    have hchx:Chg [rb] wr wy:=HQ.out
    have hown2:Own wy 3 (.slice Ao i co) F (l.map vi):=HOWN.out.chg hchx (fun y hy=>by have:=HFF.out y hy;simp;omega)
    have HRW2:=HRY
    have hch2:=HCH.out.trans_same hchx
    have htp2:=HTP.out.same hchx (by simpa using hrbb.symm) HAP.out
    have HTP2:=hid htp2
    have HCH2:=hid hch2
    have HRP:=hid hrP
    have HSZ:=hid hch2.size
    clear hr hrP htp2 hchx hch2 HQM HTP HOWN HCH HQ HRY
    go_wp2_with (at_builtin;refine wpList_append_o1 rfl rfl int_elem rfl rfl (hown2.alloc _) (.int .i64 r) rfl ?c1 ?c2 ?c3 ?c4 ?_)
    case c1=>simp [go_sem]
    case c2=>rfl
    case c3=>rw [zE,HLL.out];omega
    case c4=>rw [zE,HLL.out];omega
    intro g2 cap2 w4 hr4 gr4
    rw [HLL.out] at hr4 ⊢
    go_wp2_with fail
    go_roundg j
    case measure=>omega
    case rel=>exact plane_round HRW2.out HTP2.out HCH2.out HFF.out HLL.out HSM.out HRP.out HP.out HSZ.out HS3.out HRBB.out (HAF.out F HFF.out) (by omega) hr4 gr4
   ·have hc1:=HQM.out 65536 (by omega) (by omega)
    rw [show ((65536:Nat):Int)=65536 from rfl] at hc1
    go_wp2_with fail
    refine hc1.mono ?_
    rintro e wz ⟨q,s1,rfl,hq,hr1,ch1⟩
    clear hc1
    obtain ⟨v,rfl⟩:∃ v,v=q:=⟨_,rfl⟩
    obtain ⟨r,hr⟩:∃ r,r=v%P:=⟨_,rfl⟩
    have hrP:r<P:=by rw [hr];exact Nat.mod_lt _ (by omega)
    have er1:(v:Int)%(P:Int)=(r:Int):=by rw [hr];simp
    have er2:(v:Int).tmod (P:Int)=(r:Int):=by rw [Int.tmod_eq_emod_of_nonneg (by omega)];exact er1
    have hchx:Chg [rb] wr wz:=HQ.out.trans_same ch1
    have hown2:Own wz 3 (.slice Ao i co) F (l.map vi):=HOWN.out.chg hchx (fun y hy=>by have:=HFF.out y hy;simp;omega)
    have HRW2:=hid hr1
    have hch2:=HCH.out.trans_same hchx
    have htp2:=HTP.out.same hchx (by simpa using hrbb.symm) HAP.out
    have HTP2:=hid htp2
    have HCH2:=hid hch2
    have HRP:=hid hrP
    have HSZ:=hid hch2.size
    clear hr hrP htp2 hchx hch2 HQM HTP HOWN HCH HQ HRY
    go_wp2_with (at_builtin;refine wpList_append_o1 rfl rfl int_elem rfl rfl (hown2.alloc _) (.int .i64 r) rfl ?c1 ?c2 ?c3 ?c4 ?_)
    case c1=>simp [go_sem]
    case c2=>rfl
    case c3=>rw [zE,HLL.out];omega
    case c4=>rw [zE,HLL.out];omega
    intro g2 cap2 w4 hr4 gr4
    rw [HLL.out] at hr4 ⊢
    go_wp2_with fail
    go_roundg j
    case measure=>omega
    case rel=>exact plane_round HRW2.out HTP2.out HCH2.out HFF.out HLL.out HSM.out HRP.out HP.out HSZ.out HS3.out HRBB.out (HAF.out F HFF.out) (by omega) hr4 gr4
   ·have hc1:=HQM.out 3 (by omega) (by omega)
    rw [show ((3:Nat):Int)=3 from rfl] at hc1
    go_wp2_with fail
    refine hc1.mono ?_
    rintro e wz ⟨q,s1,rfl,hq,hr1,ch1⟩
    clear hc1
    obtain ⟨v,hv⟩:∃ v,v=sd+3*x+2*y+q:=⟨_,rfl⟩
    have hvI:(sd:Int)+3*(x:Int)+2*(y:Int)+(q:Int)=(v:Int):=by omega
    have hvb:v<1073741824:=by omega
    clear hv
    obtain ⟨r,hr⟩:∃ r,r=v%P:=⟨_,rfl⟩
    have hrP:r<P:=by rw [hr];exact Nat.mod_lt _ (by omega)
    have er1:(v:Int)%(P:Int)=(r:Int):=by rw [hr];simp
    have er2:(v:Int).tmod (P:Int)=(r:Int):=by rw [Int.tmod_eq_emod_of_nonneg (by omega)];exact er1
    have hchx:Chg [rb] wr wz:=HQ.out.trans_same ch1
    have hown2:Own wz 3 (.slice Ao i co) F (l.map vi):=HOWN.out.chg hchx (fun y hy=>by have:=HFF.out y hy;simp;omega)
    have HRW2:=hid hr1
    have hch2:=HCH.out.trans_same hchx
    have htp2:=HTP.out.same hchx (by simpa using hrbb.symm) HAP.out
    have HTP2:=hid htp2
    have HCH2:=hid hch2
    have HRP:=hid hrP
    have HSZ:=hid hch2.size
    clear hr hrP htp2 hchx hch2 HQM HTP HOWN HCH HQ HRY
    go_wp2_with (at_builtin;refine wpList_append_o1 rfl rfl int_elem rfl rfl (hown2.alloc _) (.int .i64 r) rfl ?c1 ?c2 ?c3 ?c4 ?_)
    case c1=>simp [go_sem]
    case c2=>rfl
    case c3=>rw [zE,HLL.out];omega
    case c4=>rw [zE,HLL.out];omega
    intro g2 cap2 w4 hr4 gr4
    rw [HLL.out] at hr4 ⊢
    go_wp2_with fail
    go_roundg j
    case measure=>omega
    case rel=>exact plane_round HRW2.out HTP2.out HCH2.out HFF.out HLL.out HSM.out HRP.out HP.out HSZ.out HS3.out HRBB.out (HAF.out F HFF.out) (by omega) hr4 gr4
   ·have hc1:=HQM.out 5 (by omega) (by omega)
    rw [show ((5:Nat):Int)=5 from rfl] at hc1
    go_wp2_with fail
    refine hc1.mono ?_
    rintro e wz ⟨q,s1,rfl,hq,hr1,ch1⟩
    clear hc1
    obtain ⟨v,hv⟩:∃ v,v=sd+q*7:=⟨_,rfl⟩
    have hvI:(sd:Int)+(q:Int)*7=(v:Int):=by omega
    have hvb:v<1073741824:=by omega
    clear hv
    obtain ⟨r,hr⟩:∃ r,r=v%P:=⟨_,rfl⟩
    have hrP:r<P:=by rw [hr];exact Nat.mod_lt _ (by omega)
    have er1:(v:Int)%(P:Int)=(r:Int):=by rw [hr];simp
    have er2:(v:Int).tmod (P:Int)=(r:Int):=by rw [Int.tmod_eq_emod_of_nonneg (by omega)];exact er1
    have hchx:Chg [rb] wr wz:=HQ.out.trans_same ch1
    have hown2:Own wz 3 (.slice Ao i co) F (l.map vi):=HOWN.out.chg hchx (fun y hy=>by have:=HFF.out y hy;simp;omega)
    have HRW2:=hid hr1
    have hch2:=HCH.out.trans_same hchx
    have htp2:=HTP.out.same hchx (by simpa using hrbb.symm) HAP.out
    have HTP2:=hid htp2
    have HCH2:=hid hch2
    have HRP:=hid hrP
    have HSZ:=hid hch2.size
    clear hr hrP htp2 hchx hch2 HQM HTP HOWN HCH HQ HRY
    go_wp2_with (at_builtin;refine wpList_append_o1 rfl rfl int_elem rfl rfl (hown2.alloc _) (.int .i64 r) rfl ?c1 ?c2 ?c3 ?c4 ?_)
    case c1=>simp [go_sem]
    case c2=>rfl
    case c3=>rw [zE,HLL.out];omega
    case c4=>rw [zE,HLL.out];omega
    intro g2 cap2 w4 hr4 gr4
    rw [HLL.out] at hr4 ⊢
    go_wp2_with fail
    go_roundg j
    case measure=>omega
    case rel=>exact plane_round HRW2.out HTP2.out HCH2.out HFF.out HLL.out HSM.out HRP.out HP.out HSZ.out HS3.out HRBB.out (HAF.out F HFF.out) (by omega) hr4 gr4
   ·obtain ⟨v,hv⟩:∃ v,v=sd+p3*11+p4:=⟨_,rfl⟩
    have hvI:(sd:Int)+(p3:Int)*11+(p4:Int)=(v:Int):=by omega
    have hvb:v<1073741824:=by omega
    clear hv
    obtain ⟨r,hr⟩:∃ r,r=v%P:=⟨_,rfl⟩
    have hrP:r<P:=by rw [hr];exact Nat.mod_lt _ (by omega)
    have er1:(v:Int)%(P:Int)=(r:Int):=by rw [hr];simp
    have er2:(v:Int).tmod (P:Int)=(r:Int):=by rw [Int.tmod_eq_emod_of_nonneg (by omega)];exact er1
    have hchx:Chg [rb] wr wy:=HQ.out
    have hown2:Own wy 3 (.slice Ao i co) F (l.map vi):=HOWN.out.chg hchx (fun y hy=>by have:=HFF.out y hy;simp;omega)
    have HRW2:=HRY
    have hch2:=HCH.out.trans_same hchx
    have htp2:=HTP.out.same hchx (by simpa using hrbb.symm) HAP.out
    have HTP2:=hid htp2
    have HCH2:=hid hch2
    have HRP:=hid hrP
    have HSZ:=hid hch2.size
    clear hr hrP htp2 hchx hch2 HQM HTP HOWN HCH HQ HRY
    go_wp2_with (at_builtin;refine wpList_append_o1 rfl rfl int_elem rfl rfl (hown2.alloc _) (.int .i64 r) rfl ?c1 ?c2 ?c3 ?c4 ?_)
    case c1=>simp [go_sem]
    case c2=>rfl
    case c3=>rw [zE,HLL.out];omega
    case c4=>rw [zE,HLL.out];omega
    intro g2 cap2 w4 hr4 gr4
    rw [HLL.out] at hr4 ⊢
    go_wp2_with fail
    go_roundg j
    case measure=>omega
    case rel=>exact plane_round HRW2.out HTP2.out HCH2.out HFF.out HLL.out HSM.out HRP.out HP.out HSZ.out HS3.out HRBB.out (HAF.out F HFF.out) (by omega) hr4 gr4
   ·obtain ⟨v,hv⟩:∃ v,v=sd+xx+p2:=⟨_,rfl⟩
    have hvI:(sd:Int)+(xx:Int)+(p2:Int)=(v:Int):=by omega
    have hvb:v<1073741824:=by omega
    clear hv
    obtain ⟨r,hr⟩:∃ r,r=v%P:=⟨_,rfl⟩
    have hrP:r<P:=by rw [hr];exact Nat.mod_lt _ (by omega)
    have er1:(v:Int)%(P:Int)=(r:Int):=by rw [hr];simp
    have er2:(v:Int).tmod (P:Int)=(r:Int):=by rw [Int.tmod_eq_emod_of_nonneg (by omega)];exact er1
    have hchx:Chg [rb] wr wy:=HQ.out
    have hown2:Own wy 3 (.slice Ao i co) F (l.map vi):=HOWN.out.chg hchx (fun y hy=>by have:=HFF.out y hy;simp;omega)
    have HRW2:=HRY
    have hch2:=HCH.out.trans_same hchx
    have htp2:=HTP.out.same hchx (by simpa using hrbb.symm) HAP.out
    have HTP2:=hid htp2
    have HCH2:=hid hch2
    have HRP:=hid hrP
    have HSZ:=hid hch2.size
    clear hr hrP htp2 hchx hch2 HQM HTP HOWN HCH HQ HRY
    go_wp2_with (at_builtin;refine wpList_append_o1 rfl rfl int_elem rfl rfl (hown2.alloc _) (.int .i64 r) rfl ?c1 ?c2 ?c3 ?c4 ?_)
    case c1=>simp [go_sem]
    case c2=>rfl
    case c3=>rw [zE,HLL.out];omega
    case c4=>rw [zE,HLL.out];omega
    intro g2 cap2 w4 hr4 gr4
    rw [HLL.out] at hr4 ⊢
    go_wp2_with fail
    go_roundg j
    case measure=>omega
    case rel=>exact plane_round HRW2.out HTP2.out HCH2.out HFF.out HLL.out HSM.out HRP.out HP.out HSZ.out HS3.out HRBB.out (HAF.out F HFF.out) (by omega) hr4 gr4
   ·obtain ⟨v,hv⟩:∃ v,v=sd+mm*9:=⟨_,rfl⟩
    have hvI:(sd:Int)+(mm:Int)*9=(v:Int):=by omega
    have hvb:v<1073741824:=by omega
    clear hv
    obtain ⟨r,hr⟩:∃ r,r=v%P:=⟨_,rfl⟩
    have hrP:r<P:=by rw [hr];exact Nat.mod_lt _ (by omega)
    have er1:(v:Int)%(P:Int)=(r:Int):=by rw [hr];simp
    have er2:(v:Int).tmod (P:Int)=(r:Int):=by rw [Int.tmod_eq_emod_of_nonneg (by omega)];exact er1
    have hchx:Chg [rb] wr wy:=HQ.out
    have hown2:Own wy 3 (.slice Ao i co) F (l.map vi):=HOWN.out.chg hchx (fun y hy=>by have:=HFF.out y hy;simp;omega)
    have HRW2:=HRY
    have hch2:=HCH.out.trans_same hchx
    have htp2:=HTP.out.same hchx (by simpa using hrbb.symm) HAP.out
    have HTP2:=hid htp2
    have HCH2:=hid hch2
    have HRP:=hid hrP
    have HSZ:=hid hch2.size
    clear hr hrP htp2 hchx hch2 HQM HTP HOWN HCH HQ HRY
    go_wp2_with (at_builtin;refine wpList_append_o1 rfl rfl int_elem rfl rfl (hown2.alloc _) (.int .i64 r) rfl ?c1 ?c2 ?c3 ?c4 ?_)
    case c1=>simp [go_sem]
    case c2=>rfl
    case c3=>rw [zE,HLL.out];omega
    case c4=>rw [zE,HLL.out];omega
    intro g2 cap2 w4 hr4 gr4
    rw [HLL.out] at hr4 ⊢
    go_wp2_with fail
    go_roundg j
    case measure=>omega
    case rel=>exact plane_round HRW2.out HTP2.out HCH2.out HFF.out HLL.out HSM.out HRP.out HP.out HSZ.out HS3.out HRBB.out (HAF.out F HFF.out) (by omega) hr4 gr4
theorem side24_yes (c:Nat) (w:World) (h0:1≤c) (h1:c≤64):Calls Tryz.prog 66 #[.int .i64 c] w fun e w'=>e=.returned (.bool true)∧w=w':=by
 have t1:decide ((1:Int)≤(c:Int))=true:=zB (by omega)
 have t2:decide ((c:Int)≤64)=true:=zB (by omega)
 go_enter Tryz.func66,Tryz.ntmps66
 go_wp2
 go_ret
 exact ⟨rfl,rfl⟩
theorem depth24_yes (c:Nat) (w:World) (h0:1≤c) (h1:c≤16):Calls Tryz.prog 44 #[.int .i64 c] w fun e w'=>e=.returned (.bool true)∧w=w':=by
 have t1:decide ((1:Int)≤(c:Int))=true:=zB (by omega)
 have t2:decide ((c:Int)≤16)=true:=zB (by omega)
 go_enter Tryz.func44,Tryz.ntmps44
 go_wp2
 go_ret
 exact ⟨rfl,rfl⟩
theorem wrap24_ok (v:Int) (d:Nat) (w:World) (h0:1≤d) (h1:d≤16):Calls Tryz.prog 43 #[.int .i64 v,.int .i64 d] w fun e w'=>e=.returned (.int .i64 (wrapI v d))∧w=w':=by
 obtain ⟨hp0,hp1⟩:=pow_d h0 h1
 have hm:=band_mask v (i:=d) (by omega)
 have hdp:=depth24_yes d w h0 h1
 have HM:=hid hm
 clear hm
 go_enter Tryz.func43,Tryz.ntmps43
 go_wp2_with fail
 refine hdp.mono ?_
 rintro e w1 ⟨rfl,rfl⟩
 go_wp2
 go_ret
 exact ⟨congrArg (fun z=>Ending.returned (.int .i64 z)) HM.out,rfl⟩
theorem tape_new (w:World) (A:Option Addr) (cap:Nat) (L:List Int) (hc:Cells vi w A L) (hin:∀ x∈L,In64 x) (hlen:L.length≤9223372036854775807) :
  Calls Tryz.prog 13 #[.slice A L.length cap] w fun e w'=>∃ b,e=.returned (.pointer (some ⟨b,0,none⟩))∧IsTp w' b A cap L 0∧Chg [] w w'∧w.heap.size≤b:=by
 have HC:=hid hc
 have HI:=hid hin
 clear hc hin
 go_enter Tryz.func13,Tryz.ntmps13
 go_wp2
 go_ret
 have ch:Chg [] w (w.alloc (.cells #[.slice A L.length cap,.int .i64 0] 74)):=(Chg.refl [] w).alloc _
 exact ⟨w.heap.size,rfl,⟨Blk.new w _ _,HC.out.chg ch (by simp),Apt.fresh HC.out (by simp),HI.out,Nat.zero_le _,hlen⟩,ch,Nat.le_refl _⟩
theorem ints_ok (w:World) (A B:Option Addr) (ca cb:Nat) (la lb:List Int) (hA:Cells vi w A la) (hB:Cells vi w B lb) (ha:la.length≤4096) (hb:lb.length≤4611686018427387904) :
  Calls Tryz.prog 64 #[.slice A la.length ca,.slice B lb.length cb] w fun e w'=>e=.returned (.bool (decide (la=lb)))∧∃ q,w'=w.drewN q:=by
 by_cases hne:la.length=lb.length
 ·obtain ⟨n,hn⟩:∃ n,n=la.length:=⟨_,rfl⟩
  have hn2:lb.length=n:=by rw [hn,hne]
  rw [hn2]
  rw [←hn] at ha ⊢
  have HA:=hid hn
  have HB:=hid hn2
  clear hn hn2 hne hb
  have t1:((n:Int)==(n:Int))=true:=by simp
  have t2:((n:Int) != (n:Int))=false:=by simp
  go_enter Tryz.func64,Tryz.ntmps64
  go_wp2_with fail
  go_loopg [5] n (fun j iv wr=>∃ i q:Nat,iv=.int .i64 i∧i+j=n∧Hid (la.take i=lb.take i)∧wr=w.drewN q)
  case atStart=>exact ⟨0,0,rfl,by omega,hid rfl,rfl⟩
  case round =>
   obtain ⟨i,q,rfl,hij,HT,rfl⟩:=hrel
   rcases gk with _ | j
   ·obtain rfl:i=n:=by omega
    have ht:=HT.out
    rw [List.take_of_length_le (by rw [←HA.out];exact Nat.le_refl _),List.take_of_length_le (by rw [HB.out];exact Nat.le_refl _)] at ht
    have hE:Hid (decide (la=lb)=true):=hid (zB ht)
    clear ht
    go_wp2
    go_ret
    exact ⟨by rw [hE.out];rfl,q,rfl⟩
   ·have hin:i<n:=by omega
    have hla:i<la.length:=by rw [←HA.out];exact hin
    have hlb:i<lb.length:=by rw [HB.out];exact hin
    obtain ⟨ga,oa,rfl,hcA⟩:=hA.at_ hla
    obtain ⟨gb,ob,rfl,hcB⟩:=hB.at_ hlb
    obtain ⟨x,hx⟩:∃ x,x=la[i]:=⟨_,rfl⟩
    obtain ⟨y,hy⟩:∃ y,y=lb[i]:=⟨_,rfl⟩
    rw [←hx] at hcA
    rw [←hy] at hcB
    have cA:w.cell? ⟨ga,oa+i,none⟩=some (.int .i64 x):=hcA
    have cB:w.cell? ⟨gb,ob+i,none⟩=some (.int .i64 y):=hcB
    have HX:=hid hx
    have HY:=hid hy
    have HLA:=hid hla
    have HLB:=hid hlb
    have HCA:=hid hA
    have HCB:=hid hB
    clear hx hy hcA hcB hA hB
    go_wp2
    go_quiet (fail)
    by_cases hxy:x=y
    ·subst hxy
     have t5:(x != x)=false:=by simp
     go_wp2
     go_roundg j
     case measure=>omega
     case rel =>
      refine ⟨i+1,q+nq,by go_num,by omega,hid ?_,by first | rfl | rw [World.drewN_drewN]⟩
      rw [List.take_succ_eq_append_getElem HLA.out,List.take_succ_eq_append_getElem HLB.out,HT.out,←HX.out,←HY.out]
    ·have t5:(x != y)=true:=by simpa using hxy
     have hd:decide (la=lb)=false:=zA fun e=>hxy (by rw [HX.out,HY.out];subst e;rfl)
     have HD:=hid hd
     clear hd
     go_wp2
     go_ret
     exact ⟨by rw [HD.out];rfl,q+nq,by first | rfl | rw [World.drewN_drewN]⟩
 ·have hd:decide (la=lb)=false:=zA fun e=>hne (by rw [e])
  rw [hd]
  have t1:((la.length:Int)==(lb.length:Int))=false:=by simpa using (by omega:¬ (la.length:Int)=lb.length)
  have t2:(la.length==lb.length)=false:=by simpa using hne
  go_enter Tryz.func64,Tryz.ntmps64
  go_wp2
  go_ret
  exact ⟨rfl,0,rfl⟩
theorem apt_block {α:Type} {g:Nat} {l:List α} {F:List Nat} (h:g∉F):Apt (some ⟨g,0,none⟩) l F:=fun _ ad e=>by
 injection e with e
 subst e
 exact h
theorem rows24_ok {w:World} {p q:PicD} {g o:Nat} {B:Nat→Option Addr} {c:Nat→Nat} {G:List Nat} (cap:Nat) (h:PicAt w p g o B c G)
  {g' o':Nat} {B':Nat→Option Addr} {c':Nat→Nat} {G':List Nat} (cap':Nat) (h':PicAt w q g' o' B' c' G') (hP:p.P=q.P) (hW:p.W=q.W) (hH:p.H=q.H) :
  Calls Tryz.prog 39 #[.slice (some ⟨g,o,none⟩) p.P.length cap,.slice (some ⟨g',o',none⟩) q.P.length cap'] w fun e w'=>e=.returned (.bool true)∧Chg [] w w':=by
 have hok:=h.ok
 obtain ⟨N,hN⟩:∃ N,N=p.W*p.H:=⟨_,rfl⟩
 have hcel:∀ wr,Chg [] w wr→∀ i,i<p.P.length→wr.cell? ⟨g,o+i,none⟩=some (.slice (B i) N (c i))∧wr.cell? ⟨g',o'+i,none⟩=some (.slice (B' i) N (c' i))∧∀ wz,Chg [] w wz→Calls Tryz.prog 64 #[.slice (B i) N (c i),.slice (B' i) N (c' i)] wz fun e w'=>e=.returned (.bool true)∧∃ q,w'=wz.drewN q:=by
  intro wr hc i hi
  have h1:=(h.same hc).cell i hi
  have h2:=(h'.same hc).cell i (by rw [←hP];exact hi)
  rw [←hN] at h1
  rw [←hW,←hH,←hN] at h2
  refine ⟨h1,h2,fun wz hz => ?_⟩
  have e1:=h.len hi
  have e2:=h'.len (i:=i) (by rw [←hP];exact hi)
  have k1:=(h.same hz).cells i hi
  have k2:=(h'.same hz).cells i (by rw [←hP];exact hi)
  rw [←hP] at k2 e2
  have h3:=ints_ok wz (B i) (B' i) (c i) (c' i) _ _ k1 k2 (by rw [e1];exact hok.area) (by rw [e1];have:=hok.area;omega)
  rw [e1,←hN] at h3
  simpa using h3
 rw [←hP]
 obtain ⟨n,hn⟩:∃ n,n=p.P.length:=⟨_,rfl⟩
 have hn4:n≤4:=by rw [hn];exact hok.n1
 rw [←hn] at hcel ⊢
 have HC:=hid hcel
 have t0:((n:Int) != (n:Int))=false:=by simp
 clear hcel hn hok h h' hP hW hH hN
 go_enter Tryz.func39,Tryz.ntmps39
 go_wp2_with fail
 go_loopg [5] n (fun j v5 wr=>∃ i:Nat,v5=.int .i64 i∧i+j=n∧Hid (Chg [] w wr))
 case atStart=>exact ⟨0,rfl,by omega,hid (Chg.refl _ _)⟩
 case round =>
  obtain ⟨i,rfl,hij,HCH⟩:=hrel
  rcases gk with _ | j
  ·obtain rfl:i=n:=by omega
   have t1:decide (i<i)=false:=by simp
   go_wp2
   go_ret
   exact ⟨rfl,HCH.out⟩
  ·have hi:i<n:=by omega
   have t1:decide (i<n)=true:=zB hi
   obtain ⟨c1,c2,hin⟩:=HC.out wr HCH.out i hi
   have HI:Hid (∀ k,Calls Tryz.prog 64 #[.slice (B i) N (c i),.slice (B' i) N (c' i)] (wr.drewN k) fun e w'=>e=.returned (.bool true)∧∃ q,w'=wr.drewN q):=hid (fun k=>(hin (wr.drewN k) (HCH.out.drewN k)).mono fun e w' h=>by
    obtain ⟨h1,q,h2⟩:=h
    exact ⟨h1,k+q,by rw [h2,World.drewN_drewN]⟩)
   clear hin
   go_wp2_with fail
   go_quiet ((go_at_call 64;exact HI.out _))
   go_wp2_with fail
   go_roundg j
   case measure=>omega
   case rel=>exact ⟨i+1,by go_num,by omega,hid (HCH.out.drewN nq)⟩
theorem picSame_ok {w:World} {p q:PicD} {g o:Nat} {B:Nat→Option Addr} {c:Nat→Nat} {G:List Nat} (cap:Nat) (h:PicAt w p g o B c G)
  {g' o':Nat} {B':Nat→Option Addr} {c':Nat→Nat} {G':List Nat} (cap':Nat) (h':PicAt w q g' o' B' c' G') (hP:p.P=q.P) (hW:p.W=q.W) (hH:p.H=q.H) (hd:p.d=q.d) :
  Calls Tryz.prog 11 #[picV p g o cap,picV q g' o' cap'] w fun e w'=>e=.returned (.bool true)∧Chg [] w w':=by
 have hr:=fun w' (hc:Chg [] w w')=>rows24_ok cap (h.same hc) cap' (h'.same hc) hP hW hH
 unfold picV
 rw [←hW,←hH,←hd]
 have hb1:Blk (w.alloc (.cells #[.int .i64 p.W,.int .i64 p.H,.int .i64 p.d,.slice (some ⟨g,o,none⟩) p.P.length cap] 25)) w.heap.size 25 #[.int .i64 p.W,.int .i64 p.H,.int .i64 p.d,.slice (some ⟨g,o,none⟩) p.P.length cap]:=Blk.new w _ _
 have hc1:Chg [] w ((w.alloc (.cells #[.int .i64 p.W,.int .i64 p.H,.int .i64 p.d,.slice (some ⟨g,o,none⟩) p.P.length cap] 25)).alloc (.cells #[.int .i64 p.W,.int .i64 p.H,.int .i64 p.d,.slice (some ⟨g',o',none⟩) q.P.length cap'] 25)):=((Chg.refl [] w).alloc _).alloc _
 have hrr:=hr _ hc1
 have HR:=hid hrr
 have HC:=hid hc1
 clear hr hrr hb1 hc1 h h' hW hH hd hP
 go_enter Tryz.func11,Tryz.ntmps11
 go_wp2_with fail
 refine HR.out.mono ?_
 rintro e w2 ⟨rfl,ch2⟩
 go_wp2
 go_ret
 exact ⟨rfl,HC.out.trans_same ch2⟩
end Go.Proofs.YtijpbkakncglgaaGreatDoor
