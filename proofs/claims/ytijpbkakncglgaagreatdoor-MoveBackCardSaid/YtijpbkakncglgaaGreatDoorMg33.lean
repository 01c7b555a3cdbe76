/- tile.Get of the flat kind by its contract. -/
import Derived.Test.YtijpbkakncglgaaGreatDoorMg32
import Derived.Test.YtijpbkakncglgaaGreatDoorMg29
import Derived.Test.YtijpbkakncglgaaGreatDoorMg38
set_option linter.unusedVariables false
set_option linter.unusedSimpArgs false
set_option maxHeartbeats 4000000
set_option maxRecDepth 100000
namespace Go.Proofs.YtijpbkakncglgaaGreatDoor
open Go.RowKit
def GetPost (w:World) (b:Nat) (F ds:List Nat) (p:Nat) (l:List Int) (n:Nat) (e:Ending) (w':World):Prop :=
 ∃ v G,e=.returned (.tuple #[v,.int .i64 0])∧Own w' 3 v G (l.map vi)∧IsRd w' b F ds (p+n)∧Chg [b] w w'∧∀ x∈G,w.heap.size≤x
theorem flat_all {l:List Int} {W d:Nat} (hm:mayB 0 l W d=true):l=List.replicate l.length (l.getD 0 0):=by
 unfold mayB at hm
 rw [if_pos rfl] at hm
 have h1:(diffL l).length=1:=by simpa using hm
 obtain ⟨a,ha⟩:=List.length_eq_one_iff.1 h1
 have h2:∀ x∈l,x=a:=fun x hx=>by
  have:=(mem_diffL l x).2 hx
  rw [ha] at this
  simpa using this
 have h3:l.getD 0 0=a∨l=[]:=by
  cases l with
  | nil=>exact .inr rfl
  | cons y l=>left;exact h2 y (by simp)
 rcases h3 with h3 | h3
 ·rw [h3];exact List.eq_replicate_of_mem h2
 ·subst h3;rfl
section
variable {w:World} {b:Nat} {F ds:List Nat} {p:Nat} {l:List Int} {W H d:Nat} (h:IsRd w b F ds p) (hw0:1≤W) (hw1:W≤16) (hh0:1≤H) (hh1:H≤16) (h0:1≤d) (h1:d≤16) (hl:l.length=W*H) (hs:SmpOk d l)
include h hw0 hw1 hh0 hh1 h0 h1 hl hs
theorem tget_flat (hm:mayB 0 l W d=true) (ha:Ahead ds p (tileBits 0 l W H d)) :
  Calls Tryz.prog 61 #[.pointer (some ⟨b,0,none⟩),.int .i64 W,.int .i64 H,.int .i64 d] w (GetPost w b F ds p l (tileBits 0 l W H d).length):=by
 have hsz:=isSize_yes W H d w hw0 hw1 hh0 hh1 h0 h1
 have hfl:=flat_all hm
 obtain ⟨n,hn⟩:∃ n,n=W*H:=⟨_,rfl⟩
 have hnI:(W:Int)*(H:Int)=(n:Int):=by rw [hn];simp
 have hn0:1≤n:=by rw [hn];exact Nat.mul_pos hw0 hh0
 have hn1:n≤256:=by rw [hn];exact Nat.mul_le_mul hw1 hh1
 rw [hl,←hn] at hfl
 have hx:=getD_ok hs 0
 obtain ⟨x,hxx⟩:∃ x,x=l.getD 0 0:=⟨_,rfl⟩
 have htb:tileBits 0 l W H d=bitsOf 0 3++bitsOf x.toNat d:=by rw [hxx];rfl
 rw [←hxx] at hfl hx
 have htl:(tileBits 0 l W H d).length=3+d:=by rw [htb,zC,bitsOf_len,bitsOf_len]
 rw [htl]
 rw [htb] at ha
 obtain ⟨X,hX⟩:∃ X:Nat,X=x.toNat:=⟨_,rfl⟩
 have hxX:x=(X:Int):=by omega
 rw [←hX] at ha
 have hXd:X<2^d:=by
  have e:(2:Int)^d=((2^d:Nat):Int):=by simp
  have:=hx.2
  rw [e,hxX] at this
  omega
 have hX16:X<65536:=Nat.lt_of_lt_of_le hXd (show 2^d≤2^16 from Nat.pow_le_pow_right (by decide) h1)
 have ha2:=ha.right
 rw [bitsOf_len] at ha2
 have hg1:=rget_ahead w b F ds p 3 0 h (by omega) (by decide) ha.left
 have hg2:=fun w' (hr:IsRd w' b F ds (p+3))=>rget_ahead w' b F ds (p+3) d X hr (by omega) hXd ha2
 have hrp:=fun w' ad cap (hc:w'.cell? ad=some (.int .i64 X)) hb=>repeat_ok w' ad cap n (X:Int) hn0 (by omega) hc hb
 rw [←hxX] at hrp
 rw [←hfl] at hrp
 have HG2:=hid hg2
 have HRP:=hid hrp
 have HXX:=hid hxX
 unfold GetPost
 clear hn htb htl hX hXd ha ha2 hs hm hl hfl hxx hg2 hrp hxX hx
 go_enter Tryz.func61,Tryz.ntmps61
 go_wp2_with (go_at_call 74;refine hsz.mono ?_;rintro e w' ⟨rfl,rfl⟩)
 refine hg1.mono ?_
 rintro e w1 ⟨rfl,hr1,ch1⟩
 go_wp2_with (go_at_call 60;refine (err_ok _ b F ds _ hr1).mono ?_;rintro e w' ⟨rfl,rfl⟩)
 refine (HG2.out _ hr1).mono ?_
 rintro e w2 ⟨rfl,hr2,ch2⟩
 have hblk:=Blk.new w2 3 #[.int .i64 X]
 have hc3:(w2.alloc (Obj.cells #[.int .i64 X] 3)).cell? ⟨w2.heap.size,0,none⟩=some (.int .i64 x):=by rw [hblk.cell,HXX.out];rfl
 have ch3:Chg [] w2 (w2.alloc (Obj.cells #[.int .i64 X] 3)):=(Chg.refl [] w2).alloc _
 go_wp2_with fail
 refine (HRP.out _ _ _ hc3 hblk.lt).mono ?_
 rintro e w4 ⟨v,g,rfl,hrow,ch4,hg⟩
 have ch24:=ch3.trans_same ch4
 have hr4:=hr2.same ch24
 have ch14:=ch1.trans_same (ch2.trans ch24 (by simp))
 have hgw:w.heap.size≤g:=by have:=ch1.size;have:=ch2.size;have:=ch3.size;omega
 clear hblk hc3 ch3
 go_wp2_with (go_at_call 60;refine (err_ok _ b F ds _ hr4).mono ?_;rintro e w' ⟨rfl,rfl⟩)
 go_ret2
 exact ⟨v,[g],rfl,hrow.toOwn,hr4.cast (by omega),ch14,by simpa using hgw⟩
end
theorem sq_elem:Elem Tryz.prog 43 45 (.agg #[.int .i64 0,.int .i64 0,.int .i64 0,.int .i64 0]) 4 32:=.mk' Tryz.underlying43 (by kernel_rfl)
def SqOwn (w:World) (v:Value) (F:List Nat) (l:List Sq):Prop:=OwnK w 45 4 v F l.length (l.flatMap sqCells)
theorem SqOwn.snoc {w:World} {g cap n:Nat} {l:List Sq} {q:Sq} {xs:List Value} (h:OwnK w 45 4 (.slice (some ⟨g,0,none⟩) (n+1) cap) [g] (n+1) (l.flatMap sqCells++xs)) (hn:n=l.length) (hx:xs=sqCells q) :
  SqOwn w (.slice (some ⟨g,0,none⟩) (n+1) cap) [g] (l++[q]):=by
 unfold SqOwn
 rw [List.flatMap_append,zC,List.length_singleton,←hn]
 rw [hx] at h
 simpa using h
theorem tgrid_ok (W H S:Nat) (w:World) (hw0:1≤W) (hw1:W≤64) (hh0:1≤H) (hh1:H≤64) (hs0:1≤S) (hs1:S≤64) :
  Calls Tryz.prog 45 #[.int .i64 W,.int .i64 H,.int .i64 S] w fun e w'=>∃ v F,e=.returned v∧SqOwn w' v F (gridL W H S)∧Chg [] w w'∧∀ x∈F,w.heap.size≤x:=by
 have hgl:=grid_len W H S
 have hg4:H*W≤64*64:=Nat.mul_le_mul hh1 hw1
 obtain ⟨G,hG⟩:∃ G,G=gridL W H S:=⟨_,rfl⟩
 have hstart:(pieces S H H 0).flatMap (gridRow W S)=G:=hG.symm
 rw [←hG] at hgl ⊢
 have hGL:G.length≤4096:=by omega
 have HST:=hid hstart
 clear hstart hG hgl hg4
 have t1:decide ((W:Int)<1)=false:=zA (by omega)
 have t2:decide ((64:Int)<(W:Int))=false:=zA (by omega)
 have t3:decide ((H:Int)<1)=false:=zA (by omega)
 have t4:decide ((64:Int)<(H:Int))=false:=zA (by omega)
 have t5:decide ((S:Int)<1)=false:=zA (by omega)
 have t6:decide ((64:Int)<(S:Int))=false:=zA (by omega)
 go_enter Tryz.func45,Tryz.ntmps45
 go_wp2_with fail
 go_loopg [7,8,9] H (fun j vl vy vx wr=>∃ (y:Nat) (done:List Sq) (F:List Nat),vy=.int .i64 y∧H≤y+j∧y≤128∧Hid (done++(pieces S H j y).flatMap (gridRow W S)=G)∧SqOwn wr vl F done∧Hid (Chg [] w wr)∧Hid (∀ x∈F,w.heap.size≤x))
 case atStart=>exact ⟨0,[],[],rfl,by omega,by omega,hid HST.out,OwnK.nil _ _ _,hid (Chg.refl _ _),hid (by simp)⟩
 case round =>
  obtain ⟨y,done,F,rfl,hyj,hy128,HD,hown,HC,HF⟩:=hrel
  by_cases hyH:H≤y
  ·have t5:decide (y<H)=false:=zA (by omega)
   have hfin:done=G:=by
    have:=HD.out
    rw [pieces_end _ hyH] at this
    simpa using this
   obtain ⟨A,cap,rfl⟩:=OwnK.shape hown
   have HFI:=hid hfin
   clear hfin
   go_wp2
   go_ret
   exact ⟨_,F,rfl,by rw [←HFI.out];exact hown,HC.out,HF.out⟩
  ·rcases gk with _ | j
   ·exfalso;omega
   have t5:decide (y<H)=true:=zB (by omega)
   obtain ⟨hh,hhe⟩:∃ hh,hh=min S (H-y):=⟨_,rfl⟩
   have hrest:=grid_rest (w:=W) (s:=S) (f:=j) (show y<H by omega)
   rw [←hhe] at hrest
   obtain ⟨R2,hR2⟩:∃ R2,R2=(pieces S H j (y+S)).flatMap (gridRow W S):=⟨_,rfl⟩
   rw [←hR2] at hrest
   have hst2:Hid (done++(rowRest W S W 0 (y,hh)++R2)=G):=hid (by
    have:=HD.out
    rw [hrest] at this
    exact this)
   have HR2:=hid hR2
   obtain ⟨b,hb⟩:∃ b:Nat,b=H-y:=⟨_,rfl⟩
   have eb:(H:Int)-(y:Int)=(b:Int):=by omega
   have hm2:hh=min S b:=by rw [hhe,hb]
   have HH2:=hid hhe
   have HHM:=hid hm2
   clear hrest hR2 HD hhe hb hm2
   go_wp2_with fail
   obtain ⟨wo,hwo⟩:∃ wo,wo=wr:=⟨_,rfl⟩
   go_loopg [7,9] W (fun j2 vl vx wr=>∃ (x:Nat) (done:List Sq) (F:List Nat),vx=.int .i64 x∧W≤x+j2∧x≤128∧Hid (done++(rowRest W S j2 x (y,hh)++R2)=G)∧SqOwn wr vl F done∧Hid (Chg [] w wr)∧Hid (∀ x∈F,w.heap.size≤x))
   case atStart=>exact ⟨0,done,F,rfl,by omega,by omega,hst2,hown,HC,HF⟩
   case round =>
    clear hown HC HF hst2
    obtain ⟨x,done,F,rfl,hxj,hx128,HD,hown,HC,HF⟩:=hrel
    by_cases hxW:W≤x
    ·have t6:decide (x<W)=false:=zA (by omega)
     have hnext:Hid (done++R2=G):=hid (by
      have:=HD.out
      rw [rowRest_end _ _ hxW,List.nil_append] at this
      exact this)
     clear HD
     obtain ⟨A,cap,rfl⟩:=OwnK.shape hown
     go_wp2_with fail
     go_roundg j
     case measure=>omega
     case rel=>exact ⟨y+S,done,F,by go_num,by omega,by omega,hid (by rw [←HR2.out];exact hnext.out),hown,HC,HF⟩
    ·rcases gk with _ | j2
     ·exfalso;omega
     have t6:decide (x<W)=true:=zB (by omega)
     obtain ⟨a,ha⟩:∃ a:Nat,a=W-x:=⟨_,rfl⟩
     have ea:(W:Int)-(x:Int)=(a:Int):=by omega
     obtain ⟨m1,hm1⟩:∃ m:Nat,m=min S a:=⟨_,rfl⟩
     have em1:min (S:Int) (a:Int)=(m1:Int):=by omega
     have em2:min (S:Int) (b:Int)=(hh:Int):=by have:=HHM.out;omega
     have hstep:Hid (done++[⟨x,y,m1,hh⟩]++(rowRest W S j2 (x+S) (y,hh)++R2)=G):=hid (by
      have:=HD.out
      rw [rowRest_step j2 (y,hh) (show x<W by omega)] at this
      rw [List.append_assoc,hm1,ha]
      exact this)
     have hlen:done.length<4096:=by
      have:=congrArg List.length HD.out
      rw [rowRest_step j2 (y,hh) (show x<W by omega),zC,zC,List.length_cons] at this
      omega
     obtain ⟨dn,hdn⟩:∃ dn,dn=done.length:=⟨_,rfl⟩
     have hown':=hown
     unfold SqOwn at hown'
     rw [←hdn] at hown'
     rw [←hdn] at hlen
     have HDN:=hid hdn
     have hblk:=Blk.new wr 45 #[.int .i64 x,.int .i64 y,.int .i64 m1,.int .i64 hh]
     have hown1:=hown'.same ((Chg.refl [] wr).alloc (.cells #[.int .i64 x,.int .i64 y,.int .i64 m1,.int .i64 hh] 45))
     obtain ⟨A,cap,rfl⟩:=OwnK.shape hown'
     clear hm1 ha hdn HD hown hown'
     go_wp2_with (at_builtin;refine wpList_append_k1 rfl rfl sq_elem rfl (by decide) rfl hown1 [.int .i64 x,.int .i64 y,.int .i64 m1,.int .i64 hh] rfl rfl ?c1 ?c2 ?c3 ?c4 ?_)
     case c1 =>
      intro q u hq
      match q,hq with
      | 0,hq=>rw [←hq];exact hblk.cell 0
      | 1,hq=>rw [←hq];exact hblk.cell 1
      | 2,hq=>rw [←hq];exact hblk.cell 2
      | 3,hq=>rw [←hq];exact hblk.cell 3
      | q+4,hq=>simp at hq
     case c2=>intro u hu;simp at hu;rcases hu with rfl | rfl | rfl | rfl<;>rfl
     case c3=>omega
     case c4=>omega
     intro g' cap2 w3 hown3 hgr3
     have hch3:Chg [] w w3:=(HC.out.alloc _).trans hgr3.chg (fun z hz => .inr (HF.out _ hz))
     have hF3:∀ z∈[g'],w.heap.size≤z:=fun z hz=>by
      rcases hgr3.new z hz with h | h
      ·exact HF.out _ h
      ·have h8:(wr.alloc (.cells #[.int .i64 x,.int .i64 y,.int .i64 m1,.int .i64 hh] 45)).heap.size=wr.heap.size+1:=by simp
       have h9:=HC.out.size
       omega
     have hsn:=SqOwn.snoc (q:=⟨x,y,m1,hh⟩) hown3 HDN.out rfl
     have HSN:=hid hsn
     have HC3:=hid hch3
     have HF3:=hid hF3
     clear hblk hown1 hown3 hgr3 hch3 hF3 hsn
     go_wp2_with fail
     go_roundg j2
     case measure=>omega
     case rel=>exact ⟨x+S,done++[⟨x,y,m1,hh⟩],[g'],by go_num,by omega,by omega,hstep,HSN.out,HC3,HF3⟩
theorem rgrid_ok (W H S:Nat) (w:World) (hw0:1≤W) (hw1:W≤64) (hh0:1≤H) (hh1:H≤64) (hs0:1≤S) (hs1:S≤64) :
  Calls Tryz.prog 42 #[.int .i64 W,.int .i64 H,.int .i64 S] w fun e w'=>∃ v F,e=.returned v∧SqOwn w' v F (gridL W H S)∧Chg [] w w'∧∀ x∈F,w.heap.size≤x:=by
 have hgl:=grid_len W H S
 have hg4:H*W≤64*64:=Nat.mul_le_mul hh1 hw1
 obtain ⟨G,hG⟩:∃ G,G=gridL W H S:=⟨_,rfl⟩
 have hstart:(pieces S H H 0).flatMap (gridRow W S)=G:=hG.symm
 rw [←hG] at hgl ⊢
 have hGL:G.length≤4096:=by omega
 have HST:=hid hstart
 clear hstart hG hgl hg4
 have hsd:=fun c (h0:1≤c) (h1:c≤64)=>side24_yes c w h0 h1
 go_enter Tryz.func42,Tryz.ntmps42
 go_wp2_with (go_at_call 66;refine (hsd _ (by assumption) (by assumption)).mono ?_;rintro e w' ⟨rfl,rfl⟩)
 go_loopg [7,8,9] H (fun j vl vy vx wr=>∃ (y:Nat) (done:List Sq) (F:List Nat),vy=.int .i64 y∧H≤y+j∧y≤128∧Hid (done++(pieces S H j y).flatMap (gridRow W S)=G)∧SqOwn wr vl F done∧Hid (Chg [] w wr)∧Hid (∀ x∈F,w.heap.size≤x))
 case atStart=>exact ⟨0,[],[],rfl,by omega,by omega,hid HST.out,OwnK.nil _ _ _,hid (Chg.refl _ _),hid (by simp)⟩
 case round =>
  obtain ⟨y,done,F,rfl,hyj,hy128,HD,hown,HC,HF⟩:=hrel
  by_cases hyH:H≤y
  ·have t5:decide (y<H)=false:=zA (by omega)
   have hfin:done=G:=by
    have:=HD.out
    rw [pieces_end _ hyH] at this
    simpa using this
   obtain ⟨A,cap,rfl⟩:=OwnK.shape hown
   have HFI:=hid hfin
   clear hfin
   go_wp2
   go_ret
   exact ⟨_,F,rfl,by rw [←HFI.out];exact hown,HC.out,HF.out⟩
  ·rcases gk with _ | j
   ·exfalso;omega
   have t5:decide (y<H)=true:=zB (by omega)
   obtain ⟨hh,hhe⟩:∃ hh,hh=min S (H-y):=⟨_,rfl⟩
   have hrest:=grid_rest (w:=W) (s:=S) (f:=j) (show y<H by omega)
   rw [←hhe] at hrest
   obtain ⟨R2,hR2⟩:∃ R2,R2=(pieces S H j (y+S)).flatMap (gridRow W S):=⟨_,rfl⟩
   rw [←hR2] at hrest
   have hst2:Hid (done++(rowRest W S W 0 (y,hh)++R2)=G):=hid (by
    have:=HD.out
    rw [hrest] at this
    exact this)
   have HR2:=hid hR2
   obtain ⟨b,hb⟩:∃ b:Nat,b=H-y:=⟨_,rfl⟩
   have eb:(H:Int)-(y:Int)=(b:Int):=by omega
   have hm2:hh=min S b:=by rw [hhe,hb]
   have HH2:=hid hhe
   have HHM:=hid hm2
   clear hrest hR2 HD hhe hb hm2
   go_wp2_with fail
   obtain ⟨wo,hwo⟩:∃ wo,wo=wr:=⟨_,rfl⟩
   go_loopg [7,9] W (fun j2 vl vx wr=>∃ (x:Nat) (done:List Sq) (F:List Nat),vx=.int .i64 x∧W≤x+j2∧x≤128∧Hid (done++(rowRest W S j2 x (y,hh)++R2)=G)∧SqOwn wr vl F done∧Hid (Chg [] w wr)∧Hid (∀ x∈F,w.heap.size≤x))
   case atStart=>exact ⟨0,done,F,rfl,by omega,by omega,hst2,hown,HC,HF⟩
   case round =>
    clear hown HC HF hst2
    obtain ⟨x,done,F,rfl,hxj,hx128,HD,hown,HC,HF⟩:=hrel
    by_cases hxW:W≤x
    ·have t6:decide (x<W)=false:=zA (by omega)
     have hnext:Hid (done++R2=G):=hid (by
      have:=HD.out
      rw [rowRest_end _ _ hxW,List.nil_append] at this
      exact this)
     clear HD
     obtain ⟨A,cap,rfl⟩:=OwnK.shape hown
     go_wp2_with fail
     go_roundg j
     case measure=>omega
     case rel=>exact ⟨y+S,done,F,by go_num,by omega,by omega,hid (by rw [←HR2.out];exact hnext.out),hown,HC,HF⟩
    ·rcases gk with _ | j2
     ·exfalso;omega
     have t6:decide (x<W)=true:=zB (by omega)
     obtain ⟨a,ha⟩:∃ a:Nat,a=W-x:=⟨_,rfl⟩
     have ea:(W:Int)-(x:Int)=(a:Int):=by omega
     obtain ⟨m1,hm1⟩:∃ m:Nat,m=min S a:=⟨_,rfl⟩
     have em1:min (S:Int) (a:Int)=(m1:Int):=by omega
     have em2:min (S:Int) (b:Int)=(hh:Int):=by have:=HHM.out;omega
     have hstep:Hid (done++[⟨x,y,m1,hh⟩]++(rowRest W S j2 (x+S) (y,hh)++R2)=G):=hid (by
      have:=HD.out
      rw [rowRest_step j2 (y,hh) (show x<W by omega)] at this
      rw [List.append_assoc,hm1,ha]
      exact this)
     have hlen:done.length<4096:=by
      have:=congrArg List.length HD.out
      rw [rowRest_step j2 (y,hh) (show x<W by omega),zC,zC,List.length_cons] at this
      omega
     obtain ⟨dn,hdn⟩:∃ dn,dn=done.length:=⟨_,rfl⟩
     have hown':=hown
     unfold SqOwn at hown'
     rw [←hdn] at hown'
     rw [←hdn] at hlen
     have HDN:=hid hdn
     have hblk:=Blk.new wr 45 #[.int .i64 x,.int .i64 y,.int .i64 m1,.int .i64 hh]
     have hown1:=hown'.same ((Chg.refl [] wr).alloc (.cells #[.int .i64 x,.int .i64 y,.int .i64 m1,.int .i64 hh] 45))
     obtain ⟨A,cap,rfl⟩:=OwnK.shape hown'
     clear hm1 ha hdn HD hown hown'
     go_wp2_with (at_builtin;refine wpList_append_k1 rfl rfl sq_elem rfl (by decide) rfl hown1 [.int .i64 x,.int .i64 y,.int .i64 m1,.int .i64 hh] rfl rfl ?c1 ?c2 ?c3 ?c4 ?_)
     case c1 =>
      intro q u hq
      match q,hq with
      | 0,hq=>rw [←hq];exact hblk.cell 0
      | 1,hq=>rw [←hq];exact hblk.cell 1
      | 2,hq=>rw [←hq];exact hblk.cell 2
      | 3,hq=>rw [←hq];exact hblk.cell 3
      | q+4,hq=>simp at hq
     case c2=>intro u hu;simp at hu;rcases hu with rfl | rfl | rfl | rfl<;>rfl
     case c3=>omega
     case c4=>omega
     intro g' cap2 w3 hown3 hgr3
     have hch3:Chg [] w w3:=(HC.out.alloc _).trans hgr3.chg (fun z hz => .inr (HF.out _ hz))
     have hF3:∀ z∈[g'],w.heap.size≤z:=fun z hz=>by
      rcases hgr3.new z hz with h | h
      ·exact HF.out _ h
      ·have h8:(wr.alloc (.cells #[.int .i64 x,.int .i64 y,.int .i64 m1,.int .i64 hh] 45)).heap.size=wr.heap.size+1:=by simp
       have h9:=HC.out.size
       omega
     have hsn:=SqOwn.snoc (q:=⟨x,y,m1,hh⟩) hown3 HDN.out rfl
     have HSN:=hid hsn
     have HC3:=hid hch3
     have HF3:=hid hF3
     clear hblk hown1 hown3 hgr3 hch3 hF3 hsn
     go_wp2_with fail
     go_roundg j2
     case measure=>omega
     case rel=>exact ⟨x+S,done++[⟨x,y,m1,hh⟩],[g'],by go_num,by omega,by omega,hstep,HSN.out,HC3,HF3⟩
end Go.Proofs.YtijpbkakncglgaaGreatDoor
