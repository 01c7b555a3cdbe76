/- Put of package match in plain Lean. No program. -/
import Derived.Test.YtijpbkakncglgaaGreatDoorMg16
set_option linter.unusedVariables false
set_option linter.unusedSimpArgs false
set_option maxHeartbeats 4000000
set_option maxRecDepth 100000
namespace Go.Proofs.YtijpbkakncglgaaGreatDoor
open Go.RowKit
def lenOf (t:Tok):Int:=unfoldI (t.len-3)
def codeOf (W:Nat) (t:Tok):Int:=unfoldI (codeN t.dist W-1)
def copyLens (T:List Tok):List Int:=T.flatMap fun t=>if t.isLit then [] else [lenOf t]
def copyCodes (W:Nat) (T:List Tok):List Int:=T.flatMap fun t=>if t.isLit then [] else [codeOf W t]
def tokBits (k j W d:Nat) (t:Tok):List Nat:=if t.isLit then bitsOf 0 1++bitsOf t.lit.toNat d else bitsOf 1 1++rbits k (lenOf t)++rbits j (codeOf W t)
def matchBits (T:List Tok) (W d:Nat):List Nat :=
 bitsOf (rbest (copyLens T)) 5++bitsOf (rbest (copyCodes W T)) 5++T.flatMap (tokBits (rbest (copyLens T)) (rbest (copyCodes W T)) W d)
def TokOk (d:Nat) (t:Tok):Prop:=(t.isLit=true∧0≤t.lit∧t.lit<2^d)∨(t.isLit=false∧t.isCopy=true)
theorem TokOk.ok {d:Nat} {t:Tok} (h:TokOk d t):t.ok:=by
 rcases h with h | h
 ·exact .inl h.1
 ·exact .inr h.2
theorem unfoldI_wide {u:Nat} (h:u≤1073741823):wideP (unfoldI u):=by
 unfold wideP unfoldI
 split<;>omega
theorem lenOf_wide {t:Tok} (h:t.isCopy=true):wideP (lenOf t):=by
 have:=Tok.isCopy_iff.1 h
 exact unfoldI_wide (by omega)
theorem codeOf_wide {t:Tok} (W:Nat) (h:t.isCopy=true):wideP (codeOf W t):=by
 have h1:=Tok.isCopy_iff.1 h
 have h2:=(codeN_ok (d:=t.dist) (W:=W) (by omega)).1
 exact unfoldI_wide (by omega)
theorem copyLens_wide {d:Nat} {T:List Tok} (h:∀ t∈T,TokOk d t):∀ x∈copyLens T,wideP x:=fun x hx=>by
 obtain ⟨t,ht,hxt⟩:=List.mem_flatMap.1 hx
 rcases h t ht with h1 | h1
 ·rw [if_pos h1.1] at hxt;simp at hxt
 ·rw [if_neg (by simp [h1.1])] at hxt
  rw [List.mem_singleton.1 hxt]
  exact lenOf_wide h1.2
theorem copyCodes_wide {d W:Nat} {T:List Tok} (h:∀ t∈T,TokOk d t):∀ x∈copyCodes W T,wideP x:=fun x hx=>by
 obtain ⟨t,ht,hxt⟩:=List.mem_flatMap.1 hx
 rcases h t ht with h1 | h1
 ·rw [if_pos h1.1] at hxt;simp at hxt
 ·rw [if_neg (by simp [h1.1])] at hxt
  rw [List.mem_singleton.1 hxt]
  exact codeOf_wide W h1.2
theorem copyLens_len (T:List Tok):(copyLens T).length≤T.length:=by
 induction T with
 | nil=>exact Nat.le_refl _
 | cons t T ih =>
  have e:copyLens (t::T)=(if t.isLit then [] else [lenOf t])++copyLens T:=rfl
  rw [e,List.length_append]
  split<;>simp<;>omega
theorem copyCodes_len (W:Nat) (T:List Tok):(copyCodes W T).length=(copyLens T).length:=by
 induction T with
 | nil=>rfl
 | cons t T ih =>
  have e:copyLens (t::T)=(if t.isLit then [] else [lenOf t])++copyLens T:=rfl
  have e2:copyCodes W (t::T)=(if t.isLit then [] else [codeOf W t])++copyCodes W T:=rfl
  rw [e,e2,List.length_append,List.length_append,ih]
  split<;>rfl
theorem copyLens_snoc (T:List Tok) (t:Tok):copyLens (T++[t])=copyLens T++(if t.isLit then [] else [lenOf t]):=by simp [copyLens]
theorem copyCodes_snoc (W:Nat) (T:List Tok) (t:Tok):copyCodes W (T++[t])=copyCodes W T++(if t.isLit then [] else [codeOf W t]):=by simp [copyCodes]
theorem copyLens_at (T:List Tok) {i:Nat} {t:Tok} (h:T[i]?=some t) (hl:t.isLit=false) :
  (copyLens T)[(copyLens (T.take i)).length]?=some (lenOf t):=by
 have hi:i<T.length:=(List.getElem?_eq_some_iff.1 h).1
 have e:T=T.take i++t::T.drop (i+1):=by
  have h2:=(List.getElem?_eq_some_iff.1 h).2
  rw [←h2,←List.drop_eq_getElem_cons hi,List.take_append_drop]
 have e2:copyLens T=copyLens (T.take i)++(lenOf t::copyLens (T.drop (i+1))):=by
  have e3:∀ a b:List Tok,copyLens (a++b)=copyLens a++copyLens b:=fun a b=>by simp [copyLens]
  have e4:copyLens (t::T.drop (i+1))=(if t.isLit then [] else [lenOf t])++copyLens (T.drop (i+1)):=rfl
  rw [hl] at e4
  rw [show copyLens T=copyLens (T.take i++t::T.drop (i+1)) from congrArg copyLens e,e3,e4]
  rfl
 rw [e2,List.getElem?_append_right (Nat.le_refl _),Nat.sub_self]
 rfl
theorem copyCodes_at (W:Nat) (T:List Tok) {i:Nat} {t:Tok} (h:T[i]?=some t) (hl:t.isLit=false) :
  (copyCodes W T)[(copyLens (T.take i)).length]?=some (codeOf W t):=by
 have hi:i<T.length:=(List.getElem?_eq_some_iff.1 h).1
 have e:T=T.take i++t::T.drop (i+1):=by
  have h2:=(List.getElem?_eq_some_iff.1 h).2
  rw [←h2,←List.drop_eq_getElem_cons hi,List.take_append_drop]
 have e2:copyCodes W T=copyCodes W (T.take i)++(codeOf W t::copyCodes W (T.drop (i+1))):=by
  have e3:∀ a b:List Tok,copyCodes W (a++b)=copyCodes W a++copyCodes W b:=fun a b=>by simp [copyCodes]
  have e4:copyCodes W (t::T.drop (i+1))=(if t.isLit then [] else [codeOf W t])++copyCodes W (T.drop (i+1)):=rfl
  rw [hl] at e4
  rw [show copyCodes W T=copyCodes W (T.take i++t::T.drop (i+1)) from congrArg (copyCodes W) e,e3,e4]
  rfl
 rw [e2,←copyCodes_len W,List.getElem?_append_right (Nat.le_refl _),Nat.sub_self]
 rfl
theorem tokBits_len {k j W d:Nat} (hk:k≤25) (hj:j≤25) (hd:d≤16) (t:Tok):(tokBits k j W d t).length≤131:=by
 unfold tokBits
 have h1:=rcost_le k (lenOf t) hk
 have h2:=rcost_le j (codeOf W t) hj
 split
 ·rw [List.length_append,bitsOf_len,bitsOf_len];omega
 ·rw [List.length_append,List.length_append,bitsOf_len,rbits_len,rbits_len];omega
theorem flat_len_le {α:Type} (f:α→List Nat) (B:Nat) (h:∀ a,(f a).length≤B) (l:List α):(l.flatMap f).length≤B*l.length:=by
 induction l with
 | nil=>simp
 | cons a l ih =>
  rw [List.flatMap_cons,List.length_append,List.length_cons,Nat.mul_add,Nat.mul_one]
  have:=h a
  omega
theorem matchBits_len (T:List Tok) (W d:Nat) (hd:d≤16):(matchBits T W d).length≤10+131*T.length:=by
 unfold matchBits
 have h1:=flat_len_le (tokBits (rbest (copyLens T)) (rbest (copyCodes W T)) W d) 131 (fun t=>tokBits_len (rbest_le _) (rbest_le _) hd t) T
 rw [List.length_append,List.length_append,bitsOf_len,bitsOf_len]
 omega
theorem mvalid_yes (d:Nat) (w:World) (h0:1≤d) (h1:d≤16):Calls Tryz.prog 146 #[.int .i64 d] w fun e w'=>e=.returned (.bool true)∧w=w':=by
 have t1:decide ((1:Int)≤(d:Int))=true:=decide_eq_true (by omega)
 have t2:decide ((d:Int)≤16)=true:=decide_eq_true (by omega)
 go_enter Tryz.func146,Tryz.ntmps146
 go_wp2
 go_ret
 exact ⟨rfl,rfl⟩
theorem isCtx_yes (c:Nat) (w:World) (h1:c<365):Calls Tryz.prog 151 #[.int .i64 c] w fun e w'=>e=.returned (.bool true)∧w=w':=by
 have t1:decide ((0:Int)≤(c:Int))=true:=decide_eq_true (by omega)
 have t2:decide ((c:Int)<365)=true:=decide_eq_true (by omega)
 go_enter Tryz.func151,Tryz.ntmps151
 go_wp2
 go_ret
 exact ⟨rfl,rfl⟩
theorem abs_ok (x:Int) (w:World) (h:midP x):Calls Tryz.prog 152 #[.int .i64 x] w fun e w'=>e=.returned (.int .i64 (absI x))∧w=w':=by
 obtain ⟨h1,h2⟩:=h
 by_cases hx:x<0
 ·have t1:decide (x<0)=true:=decide_eq_true hx
  have hd:absI x=-x:=by unfold absI;rw [if_pos hx]
  have HD:=hid hd
  clear hd
  go_enter Tryz.func152,Tryz.ntmps152
  go_wp2
  go_ret
  rw [HD.out]
  exact ⟨rfl,rfl⟩
 ·have t1:decide (x<0)=false:=decide_eq_false hx
  have hd:absI x=x:=by unfold absI;rw [if_neg hx]
  have HD:=hid hd
  clear hd
  go_enter Tryz.func152,Tryz.ntmps152
  go_wp2
  go_ret
  rw [HD.out]
  exact ⟨rfl,rfl⟩
theorem level_ok (g:Int) (d:Nat) (w:World) (h0:1≤d) (h1:d≤16) (hg0 : -2^d<g) (hg1:g<2^d):Calls Tryz.prog 210 #[.int .i64 g,.int .i64 d] w fun e w'=>e=.returned (.int .i64 (levelI g d))∧w=w':=by
 obtain ⟨hp0,hp1⟩:=pow_d h0 h1
 have t1:decide (g≤(-2^d:Int))=false:=decide_eq_false (by omega)
 have t2:decide ((2:Int)^d≤g)=false:=decide_eq_false (by omega)
 have hv:=mvalid_yes d w h0 h1
 by_cases hz:g=0
 ·have t3:(g==0)=true:=by rw [beq_iff_eq];exact hz
  have hd:levelI g d=0:=by unfold levelI;rw [if_pos hz]
  have HD:=hid hd
  clear hd hz
  go_enter Tryz.func210,Tryz.ntmps210
  go_wp2_with (go_at_call 146;refine hv.mono ?_;rintro e w' ⟨rfl,rfl⟩)
  go_ret
  rw [HD.out]
  exact ⟨rfl,rfl⟩
 ·have t3:(g==0)=false:=by rw [beq_eq_false_iff_ne];exact hz
  have ha:=abs_ok g w (by unfold midP;omega)
  have har:0≤absI g∧absI g≤65536:=by unfold absI;split<;>omega
  have hd:levelI g d=if g<0 then -steep (absI g*256 / 2^d) else steep (absI g*256 / 2^d):=by unfold levelI;rw [if_neg hz]
  obtain ⟨a,ha'⟩:∃ a,a=absI g:=⟨_,rfl⟩
  rw [←ha'] at ha har hd
  obtain ⟨ha0,ha1⟩:=har
  obtain ⟨u,hu⟩:∃ u,u=a*256 / 2^d:=⟨_,rfl⟩
  have hu0:0≤u:=by rw [hu];exact Int.ediv_nonneg (by omega) (by omega)
  rw [←hu] at hd
  have huI:a*256 / 2^d=u:=hu.symm
  have hul:u≤a*256:=by rw [hu];exact Int.ediv_le_self _ (by omega)
  obtain ⟨st,hst⟩:∃ st,st=steep u:=⟨_,rfl⟩
  have hsd:st=if u<3 then 1 else if u<7 then 2 else if u<21 then 3 else 4:=by rw [hst];rfl
  rw [←hst] at hd
  have HD:=hid hd
  have HS:=hid hsd
  clear hd hst hsd hu ha'
  have key:∀ k:Int,st=k→-4≤k→k≤4→Hid (levelI g d=if g<0 then -k else k):=fun k hk _ _=>hid (by rw [HD.out,hk])
  have tn:∀ (h:g<0),decide (g<0)=true:=fun h=>decide_eq_true h
  have tp:∀ (h:¬ g<0),decide (g<0)=false:=fun h=>decide_eq_false h
  have Htn:=hid tn
  have Htp:=hid tp
  have HKey:=hid key
  clear tn tp key HD
  by_cases u3:u<3
  ·have c1:decide (u<3)=true:=decide_eq_true u3
   have hs:=HS.out
   rw [if_pos u3] at hs
   have HK:=HKey.out 1 hs (by omega) (by omega)
   clear hs
   by_cases hn:g<0
   ·have t4:=Htn.out hn
    rw [if_pos hn] at HK
    go_enter Tryz.func210,Tryz.ntmps210
    go_wp2_with (first | (go_at_call 146;refine hv.mono ?_;rintro e w' ⟨rfl,rfl⟩) | (go_at_call 152;refine ha.mono ?_;rintro e w' ⟨rfl,rfl⟩))
    go_ret
    rw [HK.out]
    exact ⟨rfl,rfl⟩
   ·have t4:=Htp.out hn
    rw [if_neg hn] at HK
    go_enter Tryz.func210,Tryz.ntmps210
    go_wp2_with (first | (go_at_call 146;refine hv.mono ?_;rintro e w' ⟨rfl,rfl⟩) | (go_at_call 152;refine ha.mono ?_;rintro e w' ⟨rfl,rfl⟩))
    go_ret
    rw [HK.out]
    exact ⟨rfl,rfl⟩
  ·have c1:decide (u<3)=false:=decide_eq_false u3
   by_cases u7:u<7
   ·have c2:decide (u<7)=true:=decide_eq_true u7
    have hs:=HS.out
    rw [if_neg u3,if_pos u7] at hs
    have HK:=HKey.out 2 hs (by omega) (by omega)
    clear hs
    by_cases hn:g<0
    ·have t4:=Htn.out hn
     rw [if_pos hn] at HK
     go_enter Tryz.func210,Tryz.ntmps210
     go_wp2_with (first | (go_at_call 146;refine hv.mono ?_;rintro e w' ⟨rfl,rfl⟩) | (go_at_call 152;refine ha.mono ?_;rintro e w' ⟨rfl,rfl⟩))
     go_ret
     rw [HK.out]
     exact ⟨rfl,rfl⟩
    ·have t4:=Htp.out hn
     rw [if_neg hn] at HK
     go_enter Tryz.func210,Tryz.ntmps210
     go_wp2_with (first | (go_at_call 146;refine hv.mono ?_;rintro e w' ⟨rfl,rfl⟩) | (go_at_call 152;refine ha.mono ?_;rintro e w' ⟨rfl,rfl⟩))
     go_ret
     rw [HK.out]
     exact ⟨rfl,rfl⟩
   ·have c2:decide (u<7)=false:=decide_eq_false u7
    by_cases u21:u<21
    ·have c3:decide (u<21)=true:=decide_eq_true u21
     have hs:=HS.out
     rw [if_neg u3,if_neg u7,if_pos u21] at hs
     have HK:=HKey.out 3 hs (by omega) (by omega)
     clear hs
     by_cases hn:g<0
     ·have t4:=Htn.out hn
      rw [if_pos hn] at HK
      go_enter Tryz.func210,Tryz.ntmps210
      go_wp2_with (first | (go_at_call 146;refine hv.mono ?_;rintro e w' ⟨rfl,rfl⟩) | (go_at_call 152;refine ha.mono ?_;rintro e w' ⟨rfl,rfl⟩))
      go_ret
      rw [HK.out]
      exact ⟨rfl,rfl⟩
     ·have t4:=Htp.out hn
      rw [if_neg hn] at HK
      go_enter Tryz.func210,Tryz.ntmps210
      go_wp2_with (first | (go_at_call 146;refine hv.mono ?_;rintro e w' ⟨rfl,rfl⟩) | (go_at_call 152;refine ha.mono ?_;rintro e w' ⟨rfl,rfl⟩))
      go_ret
      rw [HK.out]
      exact ⟨rfl,rfl⟩
    ·have c3:decide (u<21)=false:=decide_eq_false u21
     have hs:=HS.out
     rw [if_neg u3,if_neg u7,if_neg u21] at hs
     have HK:=HKey.out 4 hs (by omega) (by omega)
     clear hs
     by_cases hn:g<0
     ·have t4:=Htn.out hn
      rw [if_pos hn] at HK
      go_enter Tryz.func210,Tryz.ntmps210
      go_wp2_with (first | (go_at_call 146;refine hv.mono ?_;rintro e w' ⟨rfl,rfl⟩) | (go_at_call 152;refine ha.mono ?_;rintro e w' ⟨rfl,rfl⟩))
      go_ret
      rw [HK.out]
      exact ⟨rfl,rfl⟩
     ·have t4:=Htp.out hn
      rw [if_neg hn] at HK
      go_enter Tryz.func210,Tryz.ntmps210
      go_wp2_with (first | (go_at_call 146;refine hv.mono ?_;rintro e w' ⟨rfl,rfl⟩) | (go_at_call 152;refine ha.mono ?_;rintro e w' ⟨rfl,rfl⟩))
      go_ret
      rw [HK.out]
      exact ⟨rfl,rfl⟩
theorem quiet_eq {P:Program} {f:FuncId} {args:Array Value} {w:World} {n:Nat} {v:Value}
  (h:Calls P f args (w.drewN n) fun e w'=>e=.returned v∧w.drewN n=w'):Calls P f args (w.drewN n) fun e w''=>e=.returned v∧∃ m,w''=w.drewN m :=
 h.mono fun _ _ ⟨he,hm⟩=>⟨he,n,hm.symm⟩
theorem levels_ok (g:Nbr) (d:Nat) (w:World) (h0:1≤d) (h1:d≤16) (hg:NbrOk d g) :
  Calls Tryz.prog 187 #[.int .i64 g.w,.int .i64 g.n,.int .i64 g.nw,.int .i64 g.ne,.int .i64 d] w fun e w'=>e=.returned (.agg #[.int .i64 (levelI (g.ne-g.n) d),.int .i64 (levelI (g.n-g.nw) d),.int .i64 (levelI (g.nw-g.w) d)])∧Chg [] w w':=by
 obtain ⟨hp0,hp1⟩:=pow_d h0 h1
 obtain ⟨a,b,c,e⟩:=g
 obtain ⟨⟨a1,a2⟩,⟨b1,b2⟩,⟨c1,c2⟩,⟨e1,e2⟩⟩:=hg
 simp only at a1 a2 b1 b2 c1 c2 e1 e2 ⊢
 have hv:=fun w=>mvalid_yes d w h0 h1
 have u1:decide (a<0)=false:=decide_eq_false (by omega)
 have u2:decide ((2:Int)^d≤a)=false:=decide_eq_false (by omega)
 have u3:decide (b<0)=false:=decide_eq_false (by omega)
 have u4:decide ((2:Int)^d≤b)=false:=decide_eq_false (by omega)
 have u5:decide (c<0)=false:=decide_eq_false (by omega)
 have u6:decide ((2:Int)^d≤c)=false:=decide_eq_false (by omega)
 have u7:decide (e<0)=false:=decide_eq_false (by omega)
 have u8:decide ((2:Int)^d≤e)=false:=decide_eq_false (by omega)
 have i0:∀ w,(Instr.index 45 (.agg #[.int .i64 a,.int .i64 b,.int .i64 c,.int .i64 e]) (.int .i64 0)).run Tryz.prog w=.ok (.int .i64 a) w:=fun _=>by kernel_rfl
 have i1:∀ w,(Instr.index 45 (.agg #[.int .i64 a,.int .i64 b,.int .i64 c,.int .i64 e]) (.int .i64 1)).run Tryz.prog w=.ok (.int .i64 b) w:=fun _=>by kernel_rfl
 have i2:∀ w,(Instr.index 45 (.agg #[.int .i64 a,.int .i64 b,.int .i64 c,.int .i64 e]) (.int .i64 2)).run Tryz.prog w=.ok (.int .i64 c) w:=fun _=>by kernel_rfl
 have i3:∀ w,(Instr.index 45 (.agg #[.int .i64 a,.int .i64 b,.int .i64 c,.int .i64 e]) (.int .i64 3)).run Tryz.prog w=.ok (.int .i64 e) w:=fun _=>by kernel_rfl
 go_enter Tryz.func187,Tryz.ntmps187
 go_wp2_with (go_at_call 146;refine (hv _).mono ?_;rintro e w' ⟨rfl,rfl⟩)
 have hbr:=Blk.new w 217 #[.int .i64 0,.int .i64 0,.int .i64 0]
 have ch0:Chg [] w (w.alloc (.cells #[.int .i64 0,.int .i64 0,.int .i64 0] 217)):=(Chg.refl [] w).alloc _
 obtain ⟨B,hB⟩:∃ B,B=w.heap.size:=⟨_,rfl⟩
 rw [←hB] at hbr ⊢
 generalize w.alloc (.cells #[.int .i64 0,.int .i64 0,.int .i64 0] 217)=w0 at *
 have HB:=hid hB
 clear hB
 go_loopg [22] 4 (fun j iv wr=>w0=wr∧((j=4∧iv=.int .i64 0)∨(j=3∧iv=.int .i64 1)∨(j=2∧iv=.int .i64 2)∨(j=1∧iv=.int .i64 3)∨(j=0∧iv=.int .i64 4)))
 case atStart=>exact ⟨rfl,.inl ⟨rfl,rfl⟩⟩
 case round =>
  obtain ⟨rfl,hrel⟩:=hrel
  rcases hrel with ⟨rfl,rfl⟩ | ⟨rfl,rfl⟩ | ⟨rfl,rfl⟩ | ⟨rfl,rfl⟩ | ⟨rfl,rfl⟩
  ·go_wp2
   go_roundg 3
   case measure=>omega
   case rel=>exact ⟨rfl,.inr (.inl ⟨rfl,rfl⟩)⟩
  ·go_wp2
   go_roundg 2
   case measure=>omega
   case rel=>exact ⟨rfl,.inr (.inr (.inl ⟨rfl,rfl⟩))⟩
  ·go_wp2
   go_roundg 1
   case measure=>omega
   case rel=>exact ⟨rfl,.inr (.inr (.inr (.inl ⟨rfl,rfl⟩)))⟩
  ·go_wp2
   go_roundg 0
   case measure=>omega
   case rel=>exact ⟨rfl,.inr (.inr (.inr (.inr ⟨rfl,rfl⟩)))⟩
  ·clear i0 i1 i2 i3 u1 u2 u3 u4 u5 u6 u7 u8
   have l0:=level_ok (e-b) d w0 h0 h1 (by omega) (by omega)
   have l1:=level_ok (b-c) d w0 h0 h1 (by omega) (by omega)
   have l2:=level_ok (c-a) d w0 h0 h1 (by omega) (by omega)
   obtain ⟨x0,hx0⟩:∃ x,x=levelI (e-b) d:=⟨_,rfl⟩
   obtain ⟨x1,hx1⟩:∃ x,x=levelI (b-c) d:=⟨_,rfl⟩
   obtain ⟨x2,hx2⟩:∃ x,x=levelI (c-a) d:=⟨_,rfl⟩
   rw [←hx0] at l0
   rw [←hx1] at l1
   rw [←hx2] at l2
   have HX0:=hid hx0
   have HX1:=hid hx1
   have HX2:=hid hx2
   clear hx0 hx1 hx2
   have q0:=hbr.cell 0
   have q1:=hbr.cell 1
   have q2:=hbr.cell 2
   have f0:=hbr.frozen 0
   have f1:=hbr.frozen 1
   have f2:=hbr.frozen 2
   simp at q0 q1 q2
   go_wp2_with fail
   refine l0.mono ?_
   rintro e w' ⟨rfl,rfl⟩
   go_wp2_with fail
   refine l1.mono ?_
   rintro e w' ⟨rfl,rfl⟩
   go_wp2_with fail
   refine l2.mono ?_
   rintro e w' ⟨rfl,rfl⟩
   go_wp2_with fail
   have hF:=((hbr.set_ 0 (.int .i64 x0)).set_ 1 (.int .i64 x1)).set_ 2 (.int .i64 x2)
   have chF:Chg [] w (((w0.setCell ⟨B,0,none⟩ (.int .i64 x0)).setCell ⟨B,1,none⟩ (.int .i64 x1)).setCell ⟨B,2,none⟩ (.int .i64 x2)):=((ch0.setCell (.inr (by have:=HB.out;simp;omega)) _).setCell (.inr (by have:=HB.out;simp;omega)) _).setCell (.inr (by have:=HB.out;simp;omega)) _
   generalize ((w0.setCell ⟨B,0,none⟩ (.int .i64 x0)).setCell ⟨B,1,none⟩ (.int .i64 x1)).setCell ⟨B,2,none⟩ (.int .i64 x2)=wF at *
   have g0:=hF.cell 0
   have g1:=hF.cell 1
   have g2:=hF.cell 2
   simp at g0 g1 g2
   exact bodyPost_ret (v:=.agg #[.int .i64 x0,.int .i64 x1,.int .i64 x2]) (by simp [results,Tryz.results187,go_sem,g0,g1,g2]) rfl ⟨by rw [HX0.out,HX1.out,HX2.out],chF⟩
theorem context_ok (g:Nbr) (d:Nat) (w:World) (h0:1≤d) (h1:d≤16) (hg:NbrOk d g) :
  Calls Tryz.prog 147 #[.int .i64 g.w,.int .i64 g.n,.int .i64 g.nw,.int .i64 g.ne,.int .i64 d] w fun e w'=>e=.returned (.tuple #[.int .i64 (ctxN g d),.bool (turnB g d)])∧Chg [] w w':=by
 have hl:=levels_ok g d w h0 h1 hg
 have r0:=levelI_ok (g.ne-g.n) d
 have r1:=levelI_ok (g.n-g.nw) d
 have r2:=levelI_ok (g.nw-g.w) d
 have hc:ctxI g d=81*levelI (g.ne-g.n) d+9*levelI (g.n-g.nw) d+levelI (g.nw-g.w) d:=rfl
 have ht:turnB g d=decide (ctxI g d<0):=rfl
 have hn:((ctxN g d:Nat):Int)=absI (ctxI g d):=by
  unfold ctxN
  exact Int.toNat_of_nonneg (by unfold absI;split<;>omega)
 obtain ⟨x0,hx0⟩:∃ x,x=levelI (g.ne-g.n) d:=⟨_,rfl⟩
 obtain ⟨x1,hx1⟩:∃ x,x=levelI (g.n-g.nw) d:=⟨_,rfl⟩
 obtain ⟨x2,hx2⟩:∃ x,x=levelI (g.nw-g.w) d:=⟨_,rfl⟩
 rw [←hx0,←hx1,←hx2] at hl hc
 rw [←hx0] at r0
 rw [←hx1] at r1
 rw [←hx2] at r2
 obtain ⟨n,hnn⟩:∃ n,n=ctxI g d:=⟨_,rfl⟩
 rw [←hnn] at ht hn hc
 obtain ⟨r00,r01⟩:=r0
 obtain ⟨r10,r11⟩:=r1
 obtain ⟨r20,r21⟩:=r2
 have hab:=fun w=>abs_ok n w (by unfold midP;omega)
 have HT:=hid ht
 have HN:=hid hn
 have hc':81*x0+9*x1+x2=n:=hc.symm
 clear ht hn hx0 hx1 hx2 hnn hc
 go_enter Tryz.func147,Tryz.ntmps147
 go_wp2_with fail
 refine hl.mono ?_
 rintro e w1 ⟨rfl,ch1⟩
 go_wp2_with (go_at_call 152;refine (hab _).mono ?_;rintro e w' ⟨rfl,rfl⟩)
 go_ret2
 rw [HT.out,HN.out]
 exact ⟨rfl,ch1.alloc _⟩
theorem class_ok (g:Nbr) (d:Nat) (w:World) (h0:1≤d) (h1:d≤16) (hg:NbrOk d g) :
  Calls Tryz.prog 156 #[.int .i64 g.w,.int .i64 g.n,.int .i64 g.nw,.int .i64 g.ne,.int .i64 d] w fun e w'=>e=.returned (.int .i64 (classI g d))∧Chg [] w w':=by
 have hl:=levels_ok g d w h0 h1 hg
 have r0:=levelI_ok (g.ne-g.n) d
 have r1:=levelI_ok (g.n-g.nw) d
 have r2:=levelI_ok (g.nw-g.w) d
 have hc:classI g d=absI (levelI (g.ne-g.n) d)+absI (levelI (g.n-g.nw) d)+absI (levelI (g.nw-g.w) d):=rfl
 obtain ⟨x0,hx0⟩:∃ x,x=levelI (g.ne-g.n) d:=⟨_,rfl⟩
 obtain ⟨x1,hx1⟩:∃ x,x=levelI (g.n-g.nw) d:=⟨_,rfl⟩
 obtain ⟨x2,hx2⟩:∃ x,x=levelI (g.nw-g.w) d:=⟨_,rfl⟩
 rw [←hx0,←hx1,←hx2] at hl hc
 rw [←hx0] at r0
 rw [←hx1] at r1
 rw [←hx2] at r2
 have ab:∀ x:Int,-4≤x∧x≤4→0≤absI x∧absI x≤4:=fun x hx=>by unfold absI;split<;>omega
 have b0:=ab x0 r0
 have b1:=ab x1 r1
 have b2:=ab x2 r2
 have a0:=fun w=>abs_ok x0 w (by unfold midP;omega)
 have a1:=fun w=>abs_ok x1 w (by unfold midP;omega)
 have a2:=fun w=>abs_ok x2 w (by unfold midP;omega)
 generalize absI x0=y0 at *
 generalize absI x1=y1 at *
 generalize absI x2=y2 at *
 obtain ⟨b00,b01⟩:=b0
 obtain ⟨b10,b11⟩:=b1
 obtain ⟨b20,b21⟩:=b2
 have HC:=hid hc
 clear hx0 hx1 hx2 hc ab r0 r1 r2
 go_enter Tryz.func156,Tryz.ntmps156
 go_wp2_with fail
 refine hl.mono ?_
 rintro e w1 ⟨rfl,ch1⟩
 go_wp2_with fail
 go_quiet ((first | (go_at_call 152;with_reducible exact quiet_eq (a0 _)) | (go_at_call 152;with_reducible exact quiet_eq (a1 _)) | (go_at_call 152;with_reducible exact quiet_eq (a2 _))))
 go_wp2
 go_ret
 rw [HC.out]
 exact ⟨rfl,(ch1.alloc _).drewN _⟩
def mdZero (z:Array Value) (v:Int):Array Value:=z.setIfInBounds 0 (.int .i64 v)
theorem md_zeros:Tryz.zeroCells181=(List.replicate 1461 (Value.int .i64 0)).toArray:=by kernel_rfl
theorem md_zsize:(Tryz.zeroCells181).size=1461:=by rw [md_zeros,List.size_toArray,List.length_replicate]
theorem mdZero_size {z:Array Value} (hz:z.size=1461) (v:Int):(mdZero z v).size=1461:=by
 unfold mdZero
 rw [Array.size_setIfInBounds,hz]
theorem mdZero_get0 {z:Array Value} (hz:z.size=1461) (v:Int):(mdZero z v)[0]?=some (.int .i64 v):=by
 unfold mdZero
 rw [Array.getElem?_setIfInBounds,if_pos rfl,if_pos (by omega)]
theorem mdZero_get {z:Array Value} (hz:z=(List.replicate 1461 (Value.int .i64 0)).toArray) (v:Int) (i:Nat) (h0:0<i) (h1:i<1461):(mdZero z v)[i]?=some (.int .i64 0):=by
 unfold mdZero
 rw [Array.getElem?_setIfInBounds,if_neg (by omega),hz,List.getElem?_toArray,List.getElem?_replicate,if_pos h1]
structure MdRep (cs:Array Value) (d:Nat) (m:List Stat):Prop where
 size:cs.size=1461
 len:m.length=365
 depth:cs[0]?=some (.int .i64 (d:Int))
 n:∀ i s,m[i]?=some s→cs[1+i*4]?=some (.int .i64 s.n)
 a:∀ i s,m[i]?=some s→cs[1+i*4+1]?=some (.int .i64 s.a)
 b:∀ i s,m[i]?=some s→cs[1+i*4+2]?=some (.int .i64 s.b)
 c:∀ i s,m[i]?=some s→cs[1+i*4+3]?=some (.int .i64 s.c)
theorem MdRep.set4 {cs:Array Value} {d:Nat} {m:List Stat} (h:MdRep cs d m) {i:Nat} (hi:i<365) (s:Stat) :
  MdRep ((((cs.setIfInBounds (1+i*4) (.int .i64 s.n)).setIfInBounds (1+i*4+1) (.int .i64 s.a)).setIfInBounds (1+i*4+2) (.int .i64 s.b)).setIfInBounds (1+i*4+3) (.int .i64 s.c)) d (m.set i s):=by
 have hs:=h.size
 have hl:=h.len
 refine ⟨by simp [hs],by simp [hl],?_,?_,?_,?_,?_⟩
 ·simp only [Array.getElem?_setIfInBounds]
  rw [if_neg (by omega),if_neg (by omega),if_neg (by omega),if_neg (by omega)]
  exact h.depth
 all_goals
  intro j t hj
  rw [List.getElem?_set] at hj
  simp only [Array.getElem?_setIfInBounds,Array.size_setIfInBounds,hs]
  by_cases hij:i=j
  ·subst hij
   rw [if_pos rfl,if_pos (by omega)] at hj
   injection hj with hj
   subst hj
   first
    | (rw [if_pos (by omega),if_pos (by omega)])
    | (rw [if_neg (by omega),if_pos (by omega),if_pos (by omega)])
    | (rw [if_neg (by omega),if_neg (by omega),if_pos (by omega),if_pos (by omega)])
    | (rw [if_neg (by omega),if_neg (by omega),if_neg (by omega),if_pos (by omega),if_pos (by omega)])
  ·rw [if_neg hij] at hj
   rw [if_neg (by omega),if_neg (by omega),if_neg (by omega),if_neg (by omega)]
   first | exact h.n j t hj | exact h.a j t hj | exact h.b j t hj | exact h.c j t hj
structure IsMd (w:World) (b d:Nat) (m:List Stat):Prop where
 ex:∃ cs,Blk w b 181 cs∧MdRep cs d m
theorem IsMd.chg {w w':World} {b d:Nat} {m:List Stat} {F:List Nat} (h:IsMd w b d m) (hc:Chg F w w') (hb:b∉F):IsMd w' b d m:=by
 obtain ⟨cs,h1,h2⟩:=h.ex
 exact ⟨cs,h1.chg hc hb,h2⟩
theorem IsMd.set4 {w:World} {b d:Nat} {m:List Stat} (h:IsMd w b d m) {i:Nat} (hi:i<365) (s:Stat) :
  IsMd ((((w.setCell ⟨b,1+i*4,none⟩ (.int .i64 s.n)).setCell ⟨b,1+i*4+1,none⟩ (.int .i64 s.a)).setCell ⟨b,1+i*4+2,none⟩ (.int .i64 s.b)).setCell ⟨b,1+i*4+3,none⟩ (.int .i64 s.c)) b d (m.set i s):=by
 obtain ⟨cs,h1,h2⟩:=h.ex
 exact ⟨_,(((h1.set_ _ _).set_ _ _).set_ _ _).set_ _ _,h2.set4 hi s⟩
theorem IsMd.lt {w:World} {b d:Nat} {m:List Stat} (h:IsMd w b d m):b<w.heap.size:=by
 obtain ⟨cs,h1,_⟩:=h.ex
 exact h1.lt
theorem IsMd.cells {w:World} {b d:Nat} {m:List Stat} (h:IsMd w b d m):w.cell? ⟨b,0,none⟩=some (.int .i64 (d:Int))∧(∀ i,w.frozen? ⟨b,i,none⟩=false) ∧
  ∀ i s,m[i]?=some s→w.cell? ⟨b,1+i*4,none⟩=some (.int .i64 s.n)∧w.cell? ⟨b,1+i*4+1,none⟩=some (.int .i64 s.a)∧w.cell? ⟨b,1+i*4+2,none⟩=some (.int .i64 s.b)∧w.cell? ⟨b,1+i*4+3,none⟩=some (.int .i64 s.c):=by
 obtain ⟨cs,h1,h2⟩:=h.ex
 refine ⟨by rw [h1.cell];exact h2.depth,h1.frozen,fun i s hs=>⟨?_,?_,?_,?_⟩⟩
 ·rw [h1.cell];exact h2.n i s hs
 ·rw [h1.cell];exact h2.a i s hs
 ·rw [h1.cell];exact h2.b i s hs
 ·rw [h1.cell];exact h2.c i s hs
theorem mguess_ok (b d:Nat) (m:List Stat) (ctx:Nat) (p:Int) (t:Bool) (w:World) (h:IsMd w b d m) (hm:ModelOk m) (h0:1≤d) (h1:d≤16) (hc:ctx<365) (hp0:0≤p) (hp1:p<2^d) :
  Calls Tryz.prog 148 #[.pointer (some ⟨b,0,none⟩),.int .i64 ctx,.int .i64 p,.bool t] w fun e w'=>e=.returned (.int .i64 (guessM (statAt m ctx) p t d))∧w=w':=by
 obtain ⟨hd0,hd1⟩:=pow_d h0 h1
 obtain ⟨hg,hso⟩:=statAt_mem hm hc
 obtain ⟨q0,_,hcells⟩:=h.cells
 obtain ⟨_,_,_,qc⟩:=hcells ctx _ hg
 have c0:=hso.c0
 have c1:=hso.c1
 have hdef:guessM (statAt m ctx) p t d=min (max (p+(if t then -(statAt m ctx).c else (statAt m ctx).c)) 0) (2^d-1):=rfl
 obtain ⟨s,hs⟩:∃ s,s=(statAt m ctx).c:=⟨_,rfl⟩
 rw [←hs] at qc c0 c1 hdef
 have HD:=hid hdef
 have t1:decide (p<0)=false:=decide_eq_false (by omega)
 have t2:decide ((2:Int)^d-1<p)=false:=decide_eq_false (by omega)
 have hic:=isCtx_yes ctx w hc
 clear hdef hs hg hso hcells h
 cases t with
 | false =>
  go_enter Tryz.func148,Tryz.ntmps148
  go_wp2_with (go_at_call 151;refine hic.mono ?_;rintro e w' ⟨rfl,rfl⟩)
  all_goals
   go_ret
   rw [HD.out]
   exact ⟨congrArg (fun z=>Ending.returned (.int .i64 z)) (show _=min (max (p+s) 0) (2^d-1) by omega),rfl⟩
 | true =>
  go_enter Tryz.func148,Tryz.ntmps148
  go_wp2_with (go_at_call 151;refine hic.mono ?_;rintro e w' ⟨rfl,rfl⟩)
  all_goals
   go_ret
   rw [HD.out]
   exact ⟨congrArg (fun z=>Ending.returned (.int .i64 z)) (show _=min (max (p + -s) 0) (2^d-1) by omega),rfl⟩
theorem mk_ok (b d:Nat) (m:List Stat) (ctx:Nat) (w:World) (h:IsMd w b d m) (hm:ModelOk m) (hc:ctx<365) :
  Calls Tryz.prog 102 #[.pointer (some ⟨b,0,none⟩),.int .i64 ctx] w fun e w'=>e=.returned (.int .i64 (kOf (statAt m ctx)))∧∃ n,w'=w.drewN n:=by
 obtain ⟨hg,hso⟩:=statAt_mem hm hc
 obtain ⟨_,_,hcells⟩:=h.cells
 obtain ⟨qn,qa,_,_⟩:=hcells ctx _ hg
 have n0:=hso.n0
 have n1:=hso.n1
 have a0:=hso.a0
 have a1:=hso.a1
 obtain ⟨s,hs⟩:∃ s,s=statAt m ctx:=⟨_,rfl⟩
 rw [←hs] at qn qa n0 n1 a0 a1 hso ⊢
 have hic:=isCtx_yes ctx w hc
 have hdef:kOf s=kFrom s 16 0:=rfl
 obtain ⟨sn,hsn⟩:∃ x,x=s.n:=⟨_,rfl⟩
 obtain ⟨sa,hsa⟩:∃ x,x=s.a:=⟨_,rfl⟩
 rw [←hsn] at qn n0 n1 a1
 rw [←hsa] at qa a0 a1
 have HD:=hid hdef
 have HSN:=hid hsn
 have HSA:=hid hsa
 have HSO:=hid hso
 clear hdef hs hg hso hcells h hsn hsa hm
 go_enter Tryz.func102,Tryz.ntmps102
 go_wp2_with (go_at_call 151;refine hic.mono ?_;rintro e w' ⟨rfl,rfl⟩)
 go_loopg [5] 16 (fun j v wr=>∃ (k n:Nat),v=.int .i64 (k:Int)∧k+j=16∧Hid (kOf s=kFrom s j k)∧wr=w.drewN n)
 case atStart=>exact ⟨0,0,rfl,rfl,HD,rfl⟩
 case round =>
  obtain ⟨k,nd,rfl,hkj,Hk,rfl⟩:=hrel
  have hp0:=two_pow_pos' k
  by_cases hlt:sn*2^k<sa
  ·have hk15:k<15:=kFrom_lt HSO.out (by rw [←HSN.out,←HSA.out];exact hlt)
   have hp1:(2:Int)^k≤32768:=by
    have:=Nat.pow_le_pow_right (n:=2) (by decide) (show k≤15 by omega)
    have e:(2:Int)^k≤2^15:=by exact_mod_cast this
    exact e
   have hm0:0≤sn*2^k:=Int.mul_nonneg (by omega) (by omega)
   have hm1:sn*2^k≤64*32768:=Int.le_trans (Int.mul_le_mul_of_nonneg_right n1 (by omega)) (by omega)
   have hw:IntKind.i64.wrap (sn*2^k)=sn*2^k:=IntWalk.i64_in _ (by omega)
   have t1:decide (sn*2^k<sa)=true:=decide_eq_true hlt
   obtain ⟨g,rfl⟩:∃ g,gk=g+1:=⟨gk-1,by omega⟩
   have hst:kOf s=kFrom s g (k+1):=by rw [Hk.out,kFrom_step (by rw [←HSN.out,←HSA.out];exact hlt)]
   have HST:=hid hst
   clear hst hlt
   go_wp2_with fail
   go_quiet (fail)
   go_wp2
   go_roundg g
   case measure=>omega
   case rel=>exact ⟨k+1,_,by go_num,by omega,HST,rfl⟩
  ·have hst:=kFrom_stop (s:=s) (k:=k) (by rw [←HSN.out,←HSA.out];exact hlt) gk
   rw [←Hk.out] at hst
   have HST:=hid hst
   have hk15:k≤15:=by have:=kOf_le HSO.out;omega
   have hp1:(2:Int)^k≤32768:=by
    have:=Nat.pow_le_pow_right (n:=2) (by decide) (show k≤15 by omega)
    have e:(2:Int)^k≤2^15:=by exact_mod_cast this
    exact e
   have hm0:0≤sn*2^k:=Int.mul_nonneg (by omega) (by omega)
   have hm1:sn*2^k≤64*32768:=Int.le_trans (Int.mul_le_mul_of_nonneg_right n1 (by omega)) (by omega)
   have hw:IntKind.i64.wrap (sn*2^k)=sn*2^k:=IntWalk.i64_in _ (by omega)
   have t1:decide (sn*2^k<sa)=false:=decide_eq_false hlt
   clear hst hlt
   go_wp2_with fail
   go_quiet (fail)
   go_wp2
   go_ret
   rw [HST.out]
   exact ⟨rfl,nd+nq,by rw [World.drewN_drewN]⟩
theorem mnew_step {wr:World} {B d k j nq:Nat} {va:Int} (hmd:IsMd wr B d (List.replicate k (newStat d)++List.replicate (j+1) ⟨0,0,0,0⟩)) (hk:k<365) (hva:va=startA d) :
  IsMd (((((wr.drewN nq).setCell ⟨B,1+k*4,none⟩ (.int .i64 1)).setCell ⟨B,1+k*4+1,none⟩ (.int .i64 va)).setCell ⟨B,1+k*4+2,none⟩ (.int .i64 0)).setCell ⟨B,1+k*4+3,none⟩ (.int .i64 0)) B d (List.replicate (k+1) (newStat d)++List.replicate j ⟨0,0,0,0⟩):=by
 have h1:=(hmd.chg ((Chg.refl [] wr).drewN nq) (by simp)).set4 hk (newStat d)
 have e:(List.replicate k (newStat d)++List.replicate (j+1) (⟨0,0,0,0⟩:Stat)).set k (newStat d)=List.replicate (k+1) (newStat d)++List.replicate j ⟨0,0,0,0⟩:=by
  rw [List.set_append_right _ _ (by simp),List.length_replicate,Nat.sub_self,List.replicate_succ' (n:=k)]
  simp [List.replicate_succ]
 rw [e] at h1
 subst hva
 exact h1
theorem mnew_ok (d : Nat) (w : World) (h0 : 1 ≤ d) (h1 : d ≤ 16) :
    Calls Tryz.prog 99 #[.int .i64 d] w fun e w'=>∃ b,e=.returned (.tuple #[.pointer (some ⟨b,0,none⟩),.int .i64 0])∧IsMd w' b d (newModel d)∧Chg [] w w'∧w.heap.size≤b:=by
  obtain ⟨hd0,hd1⟩:=pow_d h0 h1
  have hv:=mvalid_yes d w h0 h1
  have hblk:=Blk.new w 181 (mdZero Tryz.zeroCells181 (d:Int))
  have ch0:Chg [] w (w.alloc (.cells (mdZero Tryz.zeroCells181 (d:Int)) 181)):=(Chg.refl [] w).alloc _
  have hmd0:IsMd (w.alloc (.cells (mdZero Tryz.zeroCells181 (d:Int)) 181)) w.heap.size d (List.replicate 365 ⟨0,0,0,0⟩):=by
    have hr:∀ i s,(List.replicate 365 (⟨0,0,0,0⟩:Stat))[i]?=some s→i<365∧s=⟨0,0,0,0⟩:=fun i s h=>by
      rw [List.getElem?_replicate] at h
      split at h
      · rename_i hi
        injection h with h
        exact ⟨hi,h.symm⟩
      · cases h
    refine ⟨⟨_,hblk,mdZero_size md_zsize _,List.length_replicate,mdZero_get0 md_zsize _,?_,?_,?_,?_⟩⟩
    all_goals
      intro i s h
      obtain ⟨hi,rfl⟩:=hr i s h
      exact mdZero_get md_zeros _ _ (by omega) (by omega)
  unfold mdZero at ch0 hmd0
  go_enter Tryz.func99,Tryz.ntmps99
  go_wp2_with (go_at_call 146;refine hv.mono ?_;rintro e w' ⟨rfl,rfl⟩)
  obtain ⟨B,hB⟩:∃ B,B=w.heap.size:=⟨_,rfl⟩
  rw [←hB] at hmd0 ⊢
  have HB:=hid hB
  obtain ⟨cs0,hcs0⟩:∃ cs,cs=Tryz.zeroCells181.setIfInBounds 0 (Value.int .i64 (d:Int)):=⟨_,rfl⟩
  rw [←hcs0] at ch0 hmd0 ⊢
  clear hB hcs0 hblk hv
  have hst:Hid (startA d=max 2 ((2^d+32) / 64)):=hid rfl
  go_loopg [12] 365 (fun j iv wr=>∃ k:Nat,iv=.int .i64 (k:Int)∧k+j=365∧IsMd wr B d (List.replicate k (newStat d)++List.replicate j ⟨0,0,0,0⟩)∧Chg [] w wr)
  case atStart=>exact ⟨0,rfl,rfl,by simpa using hmd0,ch0⟩
  case round =>
    obtain ⟨k,rfl,hkj,hmd,hch⟩:=hrel
    clear hmd0 ch0
    rcases gk with _ | j
    · obtain rfl:k=365:=by omega
      go_wp2
      go_ret2
      exact ⟨B,rfl,by simpa [newModel] using hmd,hch,by rw [HB.out];exact Nat.le_refl _⟩
    · have hk:k<365:=by omega
      have tk:decide ((k:Int)<365)=true:=decide_eq_true (by omega)
      obtain ⟨_,hfr,hcells⟩:=hmd.cells
      obtain ⟨q0,q1,q2,q3⟩:=hcells k ⟨0,0,0,0⟩ (by rw [List.getElem?_append_right (by simp),List.length_replicate,Nat.sub_self];rfl)
      have f0:=hfr (1+k*4)
      have f1:=hfr (1+k*4+1)
      have f2:=hfr (1+k*4+2)
      have f3:=hfr (1+k*4+3)
      clear hfr hcells
      go_wp2_with fail
      refine wp_region_quiet_tail 11 (by kernel_rfl) (by kernel_rfl) ?_
      simp only [List.take_succ_cons,List.take_zero,List.drop_succ_cons,List.drop_zero]
      repeat (go_big_quiet_step (fail))
      all_goals
        refine wpQuiet_nil ?_
        intro _ hw'
        obtain ⟨nq,rfl⟩:=hw'
        go_wp2_with fail
        all_goals
         go_roundg j
         case measure=>omega
         case rel =>
          refine ⟨k+1,by go_num,by omega,?_,(((((hch.drewN nq).setCell (.inr (by have:=HB.out;simp;omega)) _).setCell (.inr (by have:=HB.out;simp;omega)) _).setCell (.inr (by have:=HB.out;simp;omega)) _).setCell (.inr (by have:=HB.out;simp;omega)) _)⟩
          exact mnew_step hmd hk (by rw [hst.out];omega)
theorem MdRep.set1 {cs:Array Value} {d:Nat} {m:List Stat} (h:MdRep cs d m) {i:Nat} (hi:i<365) {s:Stat} (hs:m[i]?=some s) (k:Nat) (v:Int) (s':Stat)
  (hk:(k=0∧s'=⟨v,s.a,s.b,s.c⟩)∨(k=1∧s'=⟨s.n,v,s.b,s.c⟩)∨(k=2∧s'=⟨s.n,s.a,v,s.c⟩)∨(k=3∧s'=⟨s.n,s.a,s.b,v⟩)) :
  MdRep (cs.setIfInBounds (1+i*4+k) (.int .i64 v)) d (m.set i s'):=by
 have hsz:=h.size
 have hl:=h.len
 have h1:=h.n i s hs
 have h2:=h.a i s hs
 have h3:=h.b i s hs
 have h4:=h.c i s hs
 have hk4:k<4:=by omega
 refine ⟨by simp [hsz],by simp [hl],?_,?_,?_,?_,?_⟩
 ·rw [Array.getElem?_setIfInBounds,if_neg (by omega)]
  exact h.depth
 all_goals
  intro j t hj
  rw [List.getElem?_set] at hj
  rw [Array.getElem?_setIfInBounds]
  by_cases hij:i=j
  ·subst hij
   rw [if_pos rfl,if_pos (by omega)] at hj
   injection hj with hj
   subst hj
   rcases hk with ⟨rfl,rfl⟩ | ⟨rfl,rfl⟩ | ⟨rfl,rfl⟩ | ⟨rfl,rfl⟩
   all_goals first
    | (rw [if_pos (by omega),if_pos (by omega)])
    | (rw [if_neg (by omega)];first | exact h1 | exact h2 | exact h3 | exact h4)
  ·rw [if_neg hij] at hj
   rw [if_neg (by omega)]
   first | exact h.n j t hj | exact h.a j t hj | exact h.b j t hj | exact h.c j t hj
theorem IsMd.set1 {w:World} {b d:Nat} {m:List Stat} (h:IsMd w b d m) {i:Nat} (hi:i<365) {s:Stat} (hs:m[i]?=some s) (k:Nat) (v:Int) (s':Stat)
  (hk:(k=0∧s'=⟨v,s.a,s.b,s.c⟩)∨(k=1∧s'=⟨s.n,v,s.b,s.c⟩)∨(k=2∧s'=⟨s.n,s.a,v,s.c⟩)∨(k=3∧s'=⟨s.n,s.a,s.b,v⟩)) :
  IsMd (w.setCell ⟨b,1+i*4+k,none⟩ (.int .i64 v)) b d (m.set i s')∧(m.set i s')[i]?=some s':=by
 obtain ⟨cs,h1,h2⟩:=h.ex
 exact ⟨⟨_,h1.set_ _ _,h2.set1 hi hs k v s' hk⟩,by rw [List.getElem?_set_self (by rw [h2.len];exact hi)]⟩
theorem IsMd.toSet {w:World} {b d:Nat} {m:List Stat} {i:Nat} {s t:Stat} (h:IsMd w b d ((m.set i s).set i t)):IsMd w b d (m.set i t):=by rw [←List.set_set (a:=s)];exact h
theorem IsMd.count {w:World} {b d:Nat} {m:List Stat} (h:IsMd w b d m) {i:Nat} (hi:i<365) {s:Stat} (hs:m[i]?=some s) (va vb vn:Int) :
  IsMd (((w.setCell ⟨b,1+i*4+1,none⟩ (.int .i64 va)).setCell ⟨b,1+i*4+2,none⟩ (.int .i64 vb)).setCell ⟨b,1+i*4,none⟩ (.int .i64 vn)) b d (m.set i ⟨vn,va,vb,s.c⟩)∧(m.set i ⟨vn,va,vb,s.c⟩)[i]?=some ⟨vn,va,vb,s.c⟩:=by
 obtain ⟨a1,e1⟩:=h.set1 hi hs 1 va ⟨s.n,va,s.b,s.c⟩ (.inr (.inl ⟨rfl,rfl⟩))
 obtain ⟨a2,e2⟩:=a1.set1 hi e1 2 vb ⟨s.n,va,vb,s.c⟩ (.inr (.inr (.inl ⟨rfl,rfl⟩)))
 obtain ⟨a3,e3⟩:=a2.set1 hi e2 0 vn ⟨vn,va,vb,s.c⟩ (.inl ⟨rfl,rfl⟩)
 rw [List.set_set,List.set_set] at e3
 exact ⟨a3.toSet.toSet,e3⟩
theorem IsMd.count64 {w:World} {b d:Nat} {m:List Stat} (h:IsMd w b d m) {i:Nat} (hi:i<365) {s:Stat} (hs:m[i]?=some s) (va vb wa wb wn vn:Int) :
  IsMd ((((((w.setCell ⟨b,1+i*4+1,none⟩ (.int .i64 va)).setCell ⟨b,1+i*4+2,none⟩ (.int .i64 vb)).setCell ⟨b,1+i*4+1,none⟩ (.int .i64 wa)).setCell ⟨b,1+i*4+2,none⟩ (.int .i64 wb)).setCell ⟨b,1+i*4,none⟩ (.int .i64 wn)).setCell ⟨b,1+i*4,none⟩ (.int .i64 vn)) b d (m.set i ⟨vn,wa,wb,s.c⟩)∧(m.set i ⟨vn,wa,wb,s.c⟩)[i]?=some ⟨vn,wa,wb,s.c⟩:=by
 obtain ⟨a1,e1⟩:=h.set1 hi hs 1 va ⟨s.n,va,s.b,s.c⟩ (.inr (.inl ⟨rfl,rfl⟩))
 obtain ⟨a2,e2⟩:=a1.set1 hi e1 2 vb ⟨s.n,va,vb,s.c⟩ (.inr (.inr (.inl ⟨rfl,rfl⟩)))
 obtain ⟨a3,e3⟩:=a2.set1 hi e2 1 wa ⟨s.n,wa,vb,s.c⟩ (.inr (.inl ⟨rfl,rfl⟩))
 obtain ⟨a4,e4⟩:=a3.set1 hi e3 2 wb ⟨s.n,wa,wb,s.c⟩ (.inr (.inr (.inl ⟨rfl,rfl⟩)))
 obtain ⟨a5,e5⟩:=a4.set1 hi e4 0 wn ⟨wn,wa,wb,s.c⟩ (.inl ⟨rfl,rfl⟩)
 obtain ⟨a6,e6⟩:=a5.set1 hi e5 0 vn ⟨vn,wa,wb,s.c⟩ (.inl ⟨rfl,rfl⟩)
 rw [List.set_set,List.set_set,List.set_set,List.set_set,List.set_set] at e6
 exact ⟨a6.toSet.toSet.toSet.toSet.toSet,e6⟩
theorem IsMd.even {w:World} {b d:Nat} {m:List Stat} {i:Nat} {s:Stat} (h:IsMd w b d (m.set i s)) (hi:i<365) (hs:(m.set i s)[i]?=some s) (vb vc:Int) :
  IsMd ((w.setCell ⟨b,1+i*4+2,none⟩ (.int .i64 vb)).setCell ⟨b,1+i*4+3,none⟩ (.int .i64 vc)) b d (m.set i ⟨s.n,s.a,vb,vc⟩):=by
 obtain ⟨a1,e1⟩:=h.set1 hi hs 2 vb ⟨s.n,s.a,vb,s.c⟩ (.inr (.inr (.inl ⟨rfl,rfl⟩)))
 obtain ⟨a2,e2⟩:=a1.set1 hi e1 3 vc ⟨s.n,s.a,vb,vc⟩ (.inr (.inr (.inr ⟨rfl,rfl⟩)))
 exact a2.toSet.toSet
theorem learn_ok (b d:Nat) (m:List Stat) (ctx:Nat) (e:Int) (w:World) (h:IsMd w b d m) (hm:ModelOk m) (h0:1≤d) (h1:d≤16) (hc:ctx<365) (he0 : -2^(d-1)≤e) (he1:e<2^(d-1)) :
  Calls Tryz.prog 103 #[.pointer (some ⟨b,0,none⟩),.int .i64 ctx,.int .i64 e] w fun x w'=>x=.returned (.tuple #[])∧IsMd w' b d (m.set ctx (learnS (statAt m ctx) e))∧Chg [b] w w':=by
 obtain ⟨hd0,hd1⟩:=pow_d h0 h1
 obtain ⟨hg,hso⟩:=statAt_mem hm hc
 obtain ⟨q0,hfr,hcells⟩:=h.cells
 obtain ⟨qn,qa,qb,qc⟩:=hcells ctx _ hg
 have fn:=hfr (1+ctx*4)
 have fa:=hfr (1+ctx*4+1)
 have fb:=hfr (1+ctx*4+2)
 have fc:=hfr (1+ctx*4+3)
 have hic:=isCtx_yes ctx w hc
 have hhalf:=two_pow_half h0
 have hp0:=two_pow_pos' (d-1)
 have e1:(2:Int)^((d:Int)-1).toNat=2^(d-1):=by congr 1;omega
 obtain ⟨n0,n1,a0,a1,b0,b1,c0,c1⟩:=hso
 have ha:0≤absI e∧absI e≤32768:=by unfold absI;split<;>omega
 have hab:=fun w=>abs_ok e w (by unfold midP;omega)
 obtain ⟨s,hs⟩:∃ s,s=statAt m ctx:=⟨_,rfl⟩
 rw [←hs] at qn qa qb qc n0 n1 a0 a1 b0 b1 c0 c1 hg ⊢
 have hcount:=fun w' (hw':Chg [] w w') va vb vn=>(h.chg hw' (by simp)).count hc hg va vb vn
 have hcount64:=fun w' (hw':Chg [] w w') va vb wa wb wn vn=>(h.chg hw' (by simp)).count64 hc hg va vb wa wb wn vn
 obtain ⟨sn,sa,sb,sc⟩:=s
 simp only at qn qa qb qc n0 n1 a0 a1 b0 b1 c0 c1 hcount hcount64
 have hP32:(2:Int)^(d-1)≤32768:=by omega
 have t1:decide (e<(-2^(d-1):Int))=false:=decide_eq_false (by omega)
 have t2:decide ((2:Int)^(d-1)≤e)=false:=decide_eq_false (by omega)
 have he32 : -32768≤e:=by omega
 have he33:e≤32767:=by omega
 obtain ⟨u,hu⟩:∃ u,u=absI e:=⟨_,rfl⟩
 rw [←hu] at ha hab
 obtain ⟨u0,u1⟩:=ha
 have HU:=hid hu
 have HC1:=hid hcount
 have HC64:=hid hcount64
 have HE0:Hid (∀ w,Chg [b] w w):=hid fun w=>Chg.refl _ _
 clear hhalf hu hcount hcount64 hs hg hfr hcells h hm
 have hok2:=countS_ok (s:=⟨sn,sa,sb,sc⟩) ⟨n0,n1,a0,a1,b0,b1,c0,c1⟩ he32 (by omega)
 have HOK2:=hid hok2
 clear hok2
 by_cases hn:sn=64
 ·subst hn
  have hcs:countS ⟨64,sa,sb,sc⟩ e=⟨33,(sa+u) / 2,(sb+e) / 2,sc⟩:=by unfold countS;rw [if_pos rfl,HU.out]
  have HCS:=hid hcs
  clear hcs
  go_enter Tryz.func103,Tryz.ntmps103
  go_wp2_with fail
  refine hic.mono ?_
  rintro e w' ⟨rfl,rfl⟩
  go_wp2_with fail
  refine wp_region_quiet_tail 9 (by kernel_rfl) (by kernel_rfl) ?_
  simp only [List.take_succ_cons,List.take_zero,List.drop_succ_cons,List.drop_zero]
  repeat (go_big_quiet_step ((go_at_call 152;exact quiet_eq (hab _))))
  refine wpQuiet_nil ?_
  intro _ hw'
  obtain ⟨nq,rfl⟩:=hw'
  go_wp2_with fail
  obtain ⟨hmd2,hg2⟩:=HC64.out _ ((Chg.refl [] w).drewN nq) (sa+u) (sb+e) ((sa+u) / 2) ((sb+e) / 2) 32 33
  have hch2:Chg [b] w (((((((w.drewN nq).setCell ⟨b,1+ctx*4+1,none⟩ (.int .i64 (sa+u))).setCell ⟨b,1+ctx*4+2,none⟩ (.int .i64 (sb+e))).setCell ⟨b,1+ctx*4+1,none⟩ (.int .i64 ((sa+u) / 2))).setCell ⟨b,1+ctx*4+2,none⟩ (.int .i64 ((sb+e) / 2))).setCell ⟨b,1+ctx*4,none⟩ (.int .i64 32)).setCell ⟨b,1+ctx*4,none⟩ (.int .i64 33)) :=
   (((((((HE0.out w).drewN nq).setCell (by simp) _).setCell (by simp) _).setCell (by simp) _).setCell (by simp) _).setCell (by simp) _).setCell (by simp) _
  generalize ((((((w.drewN nq).setCell ⟨b,1+ctx*4+1,none⟩ (.int .i64 (sa+u))).setCell ⟨b,1+ctx*4+2,none⟩ (.int .i64 (sb+e))).setCell ⟨b,1+ctx*4+1,none⟩ (.int .i64 ((sa+u) / 2))).setCell ⟨b,1+ctx*4+2,none⟩ (.int .i64 ((sb+e) / 2))).setCell ⟨b,1+ctx*4,none⟩ (.int .i64 32)).setCell ⟨b,1+ctx*4,none⟩ (.int .i64 33)=w2 at *
  have hok2:=HOK2.out
  rw [HCS.out] at hok2
  simp only at hok2
  obtain ⟨n3,hn3⟩:∃ x,x=(33:Int):=⟨_,rfl⟩
  obtain ⟨a2,ha2⟩:∃ x,x=(sa+u) / 2:=⟨_,rfl⟩
  obtain ⟨b2,hb2⟩:∃ x,x=(sb+e) / 2:=⟨_,rfl⟩
  rw [←hn3,←ha2,←hb2] at hok2 hmd2 hg2 HCS
  obtain ⟨m0,m1,m2,m3,m4,m5,-⟩:=hok2
  obtain ⟨_,hfr2,hcells2⟩:=hmd2.cells
  obtain ⟨rn,ra,rb,rc⟩:=hcells2 ctx _ hg2
  simp only at rn ra rb rc
  have gb:=hfr2 (1+ctx*4+2)
  have gc:=hfr2 (1+ctx*4+3)
  have HEv:=hid (fun w' (hw':Chg [] w2 w') vb vc=>(hmd2.chg hw' (by simp)).even hc hg2 vb vc)
  have hls:learnS ⟨64,sa,sb,sc⟩ e=evenS ⟨n3,a2,b2,sc⟩:=by unfold learnS;rw [HCS.out]
  have HLS:=hid hls
  have HMD:=hid hmd2
  clear hls hfr2 hcells2 hn3 ha2 hb2 qn qa qb qc fn fa fb fc q0  a0 a1 b0 b1 hmd2 hg2
  by_cases hA:b2≤-n3
  ·have u1:decide (b2≤-n3)=true:=decide_eq_true hA
   have hev:evenS ⟨n3,a2,b2,sc⟩=⟨n3,a2,max (b2+n3) (1-n3),max (sc-1) (-128)⟩:=by unfold evenS;rw [if_pos hA]
   have HEV:=hid hev
   clear hev
   go_quiet (fail)
   go_wp2_with fail
   refine wp_region_quiet_tail 18 (by kernel_rfl) (by kernel_rfl) ?_
   simp only [List.take_succ_cons,List.take_zero,List.drop_succ_cons,List.drop_zero]
   repeat (any_goals (go_big_quiet_step (fail)))
   all_goals
    refine wpQuiet_nil ?_
    intro _ hw'
    obtain ⟨nq2,rfl⟩:=hw'
    go_wp2_with fail
   all_goals
    go_end0
    refine ⟨rfl,?_,?_⟩
    ·rw [HLS.out,HEV.out]
     first | rw [show max (b2+n3) (1-n3)=1-n3 by omega] | rw [show max (b2+n3) (1-n3)=b2+n3 by omega]
     first | rw [show max (sc-1) (-128)=-128 by omega] | rw [show max (sc-1) (-128)=sc-1 by omega]
     exact HEv.out _ ((Chg.refl [] w2).drewN _) _ _
    ·exact ((hch2.drewN _).setCell (by simp) _).setCell (by simp) _
  ·have u1:decide (b2≤-n3)=false:=decide_eq_false hA
   by_cases hB:0<b2
   ·have u2:decide (0<b2)=true:=decide_eq_true hB
    have hev:evenS ⟨n3,a2,b2,sc⟩=⟨n3,a2,min (b2-n3) 0,min (sc+1) 127⟩:=by unfold evenS;rw [if_neg hA,if_pos hB]
    have HEV:=hid hev
    clear hev
    go_quiet (fail)
    go_wp2_with fail
    refine wp_region_quiet_tail 13 (by kernel_rfl) (by kernel_rfl) ?_
    simp only [List.take_succ_cons,List.take_zero,List.drop_succ_cons,List.drop_zero]
    repeat (any_goals (go_big_quiet_step (fail)))
    all_goals
     refine wpQuiet_nil ?_
     intro _ hw'
     obtain ⟨nq2,rfl⟩:=hw'
     go_wp2_with fail
    all_goals
     go_end0
     refine ⟨rfl,?_,?_⟩
     ·rw [HLS.out,HEV.out]
      first | rw [show min (b2-n3) 0=0 by omega] | rw [show min (b2-n3) 0=b2-n3 by omega]
      first | rw [show min (sc+1) 127=127 by omega] | rw [show min (sc+1) 127=sc+1 by omega]
      exact HEv.out _ ((Chg.refl [] w2).drewN _) _ _
     ·exact ((hch2.drewN _).setCell (by simp) _).setCell (by simp) _
   ·have u2:decide (0<b2)=false:=decide_eq_false hB
    have hev:evenS ⟨n3,a2,b2,sc⟩=⟨n3,a2,b2,sc⟩:=by unfold evenS;rw [if_neg hA,if_neg hB]
    have HEV:=hid hev
    clear hev
    go_quiet (fail)
    go_wp2_with fail
    go_end0
    refine ⟨rfl,?_,hch2.drewN _⟩
    rw [HLS.out,HEV.out]
    exact HMD.out.chg ((Chg.refl [] w2).drewN _) (by simp)
 ·have t3:(sn==64)=false:=by rw [beq_eq_false_iff_ne];exact hn
  have hcs:countS ⟨sn,sa,sb,sc⟩ e=⟨sn+1,sa+u,sb+e,sc⟩:=by unfold countS;rw [if_neg hn,HU.out]
  have HCS:=hid hcs
  clear hcs hn
  go_enter Tryz.func103,Tryz.ntmps103
  go_wp2_with fail
  refine hic.mono ?_
  rintro e w' ⟨rfl,rfl⟩
  go_wp2_with fail
  refine wp_region_quiet_tail 9 (by kernel_rfl) (by kernel_rfl) ?_
  simp only [List.take_succ_cons,List.take_zero,List.drop_succ_cons,List.drop_zero]
  repeat (go_big_quiet_step ((go_at_call 152;exact quiet_eq (hab _))))
  refine wpQuiet_nil ?_
  intro _ hw'
  obtain ⟨nq,rfl⟩:=hw'
  go_wp2_with fail
  obtain ⟨hmd2,hg2⟩:=HC1.out _ ((Chg.refl [] w).drewN nq) (sa+u) (sb+e) (sn+1)
  have hch2:Chg [b] w ((((w.drewN nq).setCell ⟨b,1+ctx*4+1,none⟩ (.int .i64 (sa+u))).setCell ⟨b,1+ctx*4+2,none⟩ (.int .i64 (sb+e))).setCell ⟨b,1+ctx*4,none⟩ (.int .i64 (sn+1))) :=
   ((((HE0.out w).drewN nq).setCell (by simp) _).setCell (by simp) _).setCell (by simp) _
  generalize (((w.drewN nq).setCell ⟨b,1+ctx*4+1,none⟩ (.int .i64 (sa+u))).setCell ⟨b,1+ctx*4+2,none⟩ (.int .i64 (sb+e))).setCell ⟨b,1+ctx*4,none⟩ (.int .i64 (sn+1))=w2 at *
  have hok2:=HOK2.out
  rw [HCS.out] at hok2
  simp only at hok2
  obtain ⟨n3,hn3⟩:∃ x,x=sn+1:=⟨_,rfl⟩
  obtain ⟨a2,ha2⟩:∃ x,x=sa+u:=⟨_,rfl⟩
  obtain ⟨b2,hb2⟩:∃ x,x=sb+e:=⟨_,rfl⟩
  rw [←hn3,←ha2,←hb2] at hok2 hmd2 hg2 HCS
  obtain ⟨m0,m1,m2,m3,m4,m5,-⟩:=hok2
  obtain ⟨_,hfr2,hcells2⟩:=hmd2.cells
  obtain ⟨rn,ra,rb,rc⟩:=hcells2 ctx _ hg2
  simp only at rn ra rb rc
  have gb:=hfr2 (1+ctx*4+2)
  have gc:=hfr2 (1+ctx*4+3)
  have HEv:=hid (fun w' (hw':Chg [] w2 w') vb vc=>(hmd2.chg hw' (by simp)).even hc hg2 vb vc)
  have hls:learnS ⟨sn,sa,sb,sc⟩ e=evenS ⟨n3,a2,b2,sc⟩:=by unfold learnS;rw [HCS.out]
  have HLS:=hid hls
  have HMD:=hid hmd2
  clear hls hfr2 hcells2 hn3 ha2 hb2 qn qa qb qc fn fa fb fc q0 n0 n1 a0 a1 b0 b1 hmd2 hg2
  by_cases hA:b2≤-n3
  ·have u1:decide (b2≤-n3)=true:=decide_eq_true hA
   have hev:evenS ⟨n3,a2,b2,sc⟩=⟨n3,a2,max (b2+n3) (1-n3),max (sc-1) (-128)⟩:=by unfold evenS;rw [if_pos hA]
   have HEV:=hid hev
   clear hev
   go_quiet (fail)
   go_wp2_with fail
   refine wp_region_quiet_tail 18 (by kernel_rfl) (by kernel_rfl) ?_
   simp only [List.take_succ_cons,List.take_zero,List.drop_succ_cons,List.drop_zero]
   repeat (any_goals (go_big_quiet_step (fail)))
   all_goals
    refine wpQuiet_nil ?_
    intro _ hw'
    obtain ⟨nq2,rfl⟩:=hw'
    go_wp2_with fail
   all_goals
    go_end0
    refine ⟨rfl,?_,?_⟩
    ·rw [HLS.out,HEV.out]
     first | rw [show max (b2+n3) (1-n3)=1-n3 by omega] | rw [show max (b2+n3) (1-n3)=b2+n3 by omega]
     first | rw [show max (sc-1) (-128)=-128 by omega] | rw [show max (sc-1) (-128)=sc-1 by omega]
     exact HEv.out _ ((Chg.refl [] w2).drewN _) _ _
    ·exact ((hch2.drewN _).setCell (by simp) _).setCell (by simp) _
  ·have u1:decide (b2≤-n3)=false:=decide_eq_false hA
   by_cases hB:0<b2
   ·have u2:decide (0<b2)=true:=decide_eq_true hB
    have hev:evenS ⟨n3,a2,b2,sc⟩=⟨n3,a2,min (b2-n3) 0,min (sc+1) 127⟩:=by unfold evenS;rw [if_neg hA,if_pos hB]
    have HEV:=hid hev
    clear hev
    go_quiet (fail)
    go_wp2_with fail
    refine wp_region_quiet_tail 13 (by kernel_rfl) (by kernel_rfl) ?_
    simp only [List.take_succ_cons,List.take_zero,List.drop_succ_cons,List.drop_zero]
    repeat (any_goals (go_big_quiet_step (fail)))
    all_goals
     refine wpQuiet_nil ?_
     intro _ hw'
     obtain ⟨nq2,rfl⟩:=hw'
     go_wp2_with fail
    all_goals
     go_end0
     refine ⟨rfl,?_,?_⟩
     ·rw [HLS.out,HEV.out]
      first | rw [show min (b2-n3) 0=0 by omega] | rw [show min (b2-n3) 0=b2-n3 by omega]
      first | rw [show min (sc+1) 127=127 by omega] | rw [show min (sc+1) 127=sc+1 by omega]
      exact HEv.out _ ((Chg.refl [] w2).drewN _) _ _
     ·exact ((hch2.drewN _).setCell (by simp) _).setCell (by simp) _
   ·have u2:decide (0<b2)=false:=decide_eq_false hB
    have hev:evenS ⟨n3,a2,b2,sc⟩=⟨n3,a2,b2,sc⟩:=by unfold evenS;rw [if_neg hA,if_neg hB]
    have HEV:=hid hev
    clear hev
    go_quiet (fail)
    go_wp2_with fail
    go_end0
    refine ⟨rfl,?_,hch2.drewN _⟩
    rw [HLS.out,HEV.out]
    exact HMD.out.chg ((Chg.refl [] w2).drewN _) (by simp)
theorem quiet_drew {P:Program} {f:FuncId} {args:Array Value} {w:World} {n:Nat} {v:Value}
  (h:Calls P f args (w.drewN n) fun e w'=>e=.returned v∧∃ m,w'=(w.drewN n).drewN m):Calls P f args (w.drewN n) fun e w''=>e=.returned v∧∃ m,w''=w.drewN m:=Calls.quiet_of h
theorem Grow.forget {a b c:World} {x:Nat} {F F':List Nat} (k:Chg [] a b) (h:Grow (x::F) (x::F') b c) (hx:a.heap.size≤x):Grow F F' a c :=
 ⟨⟨h.chg.os.trans k.os,h.chg.tape.trans k.tape,h.chg.output.trans k.output,Nat.le_trans k.size h.chg.size,fun y hy hn =>
   (h.chg.block y (Nat.lt_of_lt_of_le hy k.size) (by simp;exact ⟨by omega,hn⟩)).trans (k.block y hy (by simp))⟩,
  fun y hy=>by
   rcases h.new y (by simp [hy]) with h1 | h1
   ·rcases List.mem_cons.1 h1 with rfl | h1
    ·exact .inr hx
    ·exact .inl h1
   ·exact .inr (Nat.le_trans k.size h1)⟩
theorem look_ok' (b d:Nat) (m:List Stat) (l:List Int) (A:Option Addr) (cap W i:Nat) (w:World) (h:IsMd w b d m) (hm:ModelOk m) (h0:1≤d) (h1:d≤16) (hW0:1≤W) (hW1:W≤64) (hi:i≤l.length) (hiW:i<64*W) (hs:SmpOk d l) (hc:Cells vi w A l) (hll:l.length≤4096) :
  Calls Tryz.prog 100 #[.pointer (some ⟨b,0,none⟩),.slice A l.length cap,.int .i64 W,.int .i64 i] w fun e w'=>e=.returned (.tuple #[.int .i64 (ctxAt l W d i),.bool (turnAt l W d i),.int .i64 (predAt m l W d i)])∧Chg [] w w':=by
 obtain ⟨x,hx⟩:∃ x,x=i%W:=⟨_,rfl⟩
 obtain ⟨y,hy⟩:∃ y,y=i / W:=⟨_,rfl⟩
 have hxW:x<W:=by rw [hx];exact Nat.mod_lt _ (by omega)
 have hy64:y<64:=by rw [hy];exact Nat.div_lt_of_lt_mul (by rw [Nat.mul_comm];exact hiW)
 have hyx:y*W+x=i:=by rw [hx,hy,Nat.mul_comm];exact Nat.div_add_mod i W
 have e1:(i:Int)%(W:Int)=(x:Int):=by rw [hx];simp
 have e2:(i:Int) / (W:Int)=(y:Int):=by rw [hy];simp
 have hnear:=fun w hc=>near_ok l A cap W x y w hW0 hW1 hxW hy64 (by omega) hc (by omega)
 have hnb:=nbr_ok hs W x y
 have hctx:=fun w=>context_ok (nbr l W x y) d w h0 h1 hnb
 have hone:=fun w=>one_ok 7 (nbr l W x y) d w (by omega) h0 h1 hnb
 have hgr:=guessI_ok hnb 7
 have hclt:=ctxN_lt (nbr l W x y) d
 have d1:ctxAt l W d i=ctxN (nbr l W x y) d:=by unfold ctxAt;rw [←hx,←hy]
 have d2:turnAt l W d i=turnB (nbr l W x y) d:=by unfold turnAt;rw [←hx,←hy]
 have d3:predAt m l W d i=guessM (statAt m (ctxN (nbr l W x y) d)) (guessI 7 (nbr l W x y) d) (turnB (nbr l W x y) d) d:=by unfold predAt ctxAt turnAt;rw [←hx,←hy]
 rw [d1,d2,d3]
 have hguess:=fun w h=>mguess_ok b d m (ctxN (nbr l W x y) d) (guessI 7 (nbr l W x y) d) (turnB (nbr l W x y) d) w h hm h0 h1 hclt hgr.1 hgr.2
 obtain ⟨n,hn⟩:∃ n,n=l.length:=⟨_,rfl⟩
 rw [←hn] at hnear ⊢
 generalize nbr l W x y=g at *
 generalize ctxN g d=cx at *
 generalize turnB g d=tb at *
 generalize guessI 7 g d=gs at *
 generalize guessM (statAt m cx) gs tb d=gm at *
 obtain ⟨ga,gb,gc,ge⟩:=g
 simp only at hnear hctx hone
 have HN:=hid hnear
 have hW1':(1:Int)≤(W:Int):=by omega
 clear hx hy hyx hnear hnb hgr d1 d2 d3 hn hs hi hm
 go_enter Tryz.func100,Tryz.ntmps100
 go_wp2_with fail
 go_quiet ((go_at_call 144;exact quiet_drew (HN.out _ (hc.same ((Chg.refl [] w).drewN _)))))
 have hmd:=h.chg ((Chg.refl [] w).drewN nq) (by simp)
 obtain ⟨q0,_,_⟩:=hmd.cells
 go_wp2_with fail
 refine (hctx _).mono ?_
 rintro e w1 ⟨rfl,ch1⟩
 have hmd1:=hmd.chg ch1 (by simp)
 obtain ⟨q1,_,_⟩:=hmd1.cells
 go_wp2_with fail
 refine (hone _).mono ?_
 rintro e w2 ⟨rfl,ch2⟩
 have hmd2:=hmd1.chg ch2 (by simp)
 go_wp2_with fail
 refine (hguess _ hmd2).mono ?_
 rintro e w3 ⟨rfl,rfl⟩
 go_wp2_with fail
 go_ret3
 exact ⟨rfl,(((Chg.refl [] w).drewN nq).trans_same ch1).trans_same ch2⟩
theorem mPlane_yes (l:List Int) (A:Option Addr) (cap W H d:Nat) (w:World) (hw0:1≤W) (hw1:W≤64) (hh0:1≤H) (hh1:H≤64) (h0:1≤d) (h1:d≤16) (hl:l.length=W*H) (hs:SmpOk d l) (hc:Cells vi w A l) :
  Calls Tryz.prog 122 #[.slice A l.length cap,.int .i64 W,.int .i64 H,.int .i64 d] w fun e w'=>e=.returned (.bool true)∧w=w':=by
 have t1:decide ((W:Int)<1)=false:=decide_eq_false (by omega)
 have t2:decide ((64:Int)<(W:Int))=false:=decide_eq_false (by omega)
 have t3:decide ((H:Int)<1)=false:=decide_eq_false (by omega)
 have t4:decide ((64:Int)<(H:Int))=false:=decide_eq_false (by omega)
 have t5:decide ((d:Int)<1)=false:=decide_eq_false (by omega)
 have t6:decide ((16:Int)<(d:Int))=false:=decide_eq_false (by omega)
 obtain ⟨hp0,hp1⟩:=pow_d h0 h1
 obtain ⟨m,hm⟩:∃ m,m=l.length:=⟨_,rfl⟩
 rw [←hm] at hl ⊢
 have hmul:(W:Int)*(H:Int)=(m:Int):=by rw [hl];simp
 have t7:((m:Int) != (m:Int))=false:=by simp
 have hm4:m≤4096:=by rw [hl];exact Nat.mul_le_mul hw1 hh1
 have HN:=hid hm
 have HS:=hid hs
 clear hm hl hs
 go_enter Tryz.func122,Tryz.ntmps122
 go_wp2_with (go_at_call 146;refine (mvalid_yes _ _ h0 h1).mono ?_;rintro e w' ⟨rfl,rfl⟩)
 go_loopg [38] m (fun j i wr=>j≤m∧i=.int .i64 ((m-j:Nat):Int)∧w=wr)
 case atStart=>exact ⟨Nat.le_refl _,by simp,rfl⟩
 case round =>
  obtain ⟨hj,rfl,rfl⟩:=hrel
  rcases gk with _ | j
  ·have t8:decide (((m-0:Nat):Int)<(m:Int))=false:=by simp
   go_wp2
   go_ret
   exact ⟨rfl,rfl⟩
  ·obtain ⟨i,hi1⟩:∃ i,i=m-(j+1):=⟨_,rfl⟩
   rw [←hi1]
   have hi2:i<m:=by omega
   have hi3:m-j=i+1:=by omega
   have HI:=hid hi3
   clear hi1 hi3
   have hml:i<l.length:=by rw [←HN.out];exact hi2
   obtain ⟨g,o,rfl,hcell⟩:=hc.at_ hml
   have hx:=HS.out l[i] (List.getElem_mem _)
   obtain ⟨x,hxx⟩:∃ x,x=l[i]:=⟨_,rfl⟩
   rw [←hxx] at hcell hx
   have hcell':w.cell? ⟨g,o+i,none⟩=some (.int .i64 x):=hcell
   obtain ⟨hx0,hx1⟩:=hx
   have t9:decide (x<0)=false:=decide_eq_false (by omega)
   have t10:decide ((2:Int)^d≤x)=false:=decide_eq_false (by omega)
   clear hcell hxx hml
   go_wp2
   go_roundg j
   case measure=>omega
   case rel =>
    rw [HI.out]
    exact ⟨by omega,by go_num,rfl⟩
theorem errOf_mid (s g:Int) (t:Bool) {d:Nat} (h0:1≤d) (h1:d≤16):wideP (errOf s g t d):=by
 have:=errRange16 h1 (errOf_range s g t h0)
 unfold wideP
 omega
theorem rput1_ok (w:World) (b:Nat) (F bs:List Nat) (k:Nat) (x:Int) (h:IsWr w b F bs) (hk:k≤25) (hw:wideP x) (hlen:bs.length+65<274877906944) :
  Calls Tryz.prog 123 #[.pointer (some ⟨b,0,none⟩),.int .i64 k,.slice (some ⟨w.heap.size,0,none⟩) 1 1] (w.alloc (.cells #[.int .i64 x] 3)) fun e w'=>e=.returned (.int .i64 0)∧∃ F',IsWr w' b F' (bs++rbits k x)∧Grow F F' w w':=by
 have ch:Chg [] w (w.alloc (.cells #[.int .i64 x] 3)):=(Chg.refl [] w).alloc _
 have hrow:Row (w.alloc (.cells #[.int .i64 x] 3)) 3 (.slice (some ⟨w.heap.size,0,none⟩) 1 1) w.heap.size ([x].map vi):=Row.made w 3 [.int .i64 x] (by simp [maxLen])
 have hce:=hrow.toOwn.cells
 have hap:=hrow.toOwn.apt (l':=[x]) (F':=F) (fun y hy=>by
  rw [List.mem_singleton.1 hy]
  intro hm
  have:=h.lt _ hm
  omega)
 refine (rput_ok _ b F bs k [x] _ 1 (h.same ch) hk (fun y hy=>by rw [List.mem_singleton.1 hy];exact hw) hce hap (by simpa using hlen)).mono ?_
 rintro e w' ⟨rfl,F',h',g'⟩
 refine ⟨rfl,F',?_,g'.pre ch⟩
 have e:rbitsAll k [x]=rbits k x:=by simp [rbitsAll]
 rw [←e]
 exact h'
theorem mput_ok (w:World) (b:Nat) (F bs:List Nat) (l:List Int) (A:Option Addr) (cap W H d:Nat) (h:IsWr w b F bs) (hw0:1≤W) (hw1:W≤64) (hh0:1≤H) (hh1:H≤64) (h0:1≤d) (h1:d≤16) (hl:l.length=W*H) (hs:SmpOk d l) (hc:Cells vi w A l) (hA:Apt A l F) (hbs:bs.length<137438953472) :
  Calls Tryz.prog 89 #[.pointer (some ⟨b,0,none⟩),.slice A l.length cap,.int .i64 W,.int .i64 H,.int .i64 d] w fun e w'=>e=.returned (.int .i64 0)∧∃ F',IsWr w' b F' (bs++modelBits l W d (W*H))∧Grow F F' w w':=by
 have hl4:l.length≤4096:=by rw [hl];exact Nat.mul_le_mul hw1 hh1
 have hpl:=mPlane_yes l A cap W H d w hw0 hw1 hh0 hh1 h0 h1 hl hs hc
 obtain ⟨hp0,hp1⟩:=pow_d h0 h1
 have hmo:=fun i=>modelTo_ok l W h0 h1 hp1 i
 have hml:=fun i=>modelBits_len l W h0 h1 hp1 i
 have hlook:=fun i (hi:i<l.length) m (hm:ModelOk m) bm w (h:IsMd w bm d m) (hc:Cells vi w A l)=>look_ok' bm d m l A cap W i w h hm h0 h1 hw0 hw1 (by omega) (by rw [hl] at hi;have:=Nat.mul_le_mul_left W hh1;rw [Nat.mul_comm 64 W];omega) hs hc hl4
 have hlt:∀ x∈F,x<w.heap.size:=h.lt
 obtain ⟨n,hn⟩:∃ n,n=l.length:=⟨_,rfl⟩
 rw [←hn] at hpl hlook hl4 hl ⊢
 rw [←hl]
 have HL:=hid hlook
 have HMO:=hid hmo
 have HML:=hid hml
 have HS:=hid hs
 have HN:=hid hn
 have HLT:=hid hlt
 have HP:=hid hp1
 have HA:=hid hA
 clear hlook hmo hml hs hn hl hlt hp1 hA
 go_enter Tryz.func89,Tryz.ntmps89
 go_wp2_with fail
 refine hpl.mono ?_
 rintro e w' ⟨rfl,rfl⟩
 go_wp2_with fail
 refine (mnew_ok d w h0 h1).mono ?_
 rintro e w1 ⟨bm,rfl,hmd,ch1,hbm⟩
 have hwr1:=h.same ch1
 have hbmF:bm∉F:=fun hm=>by have:=HLT.out _ hm;omega
 have hc1:=hc.same ch1
 have hA2:Hid (Apt A l (bm::F)):=hid fun h0 ad e hm=>by
  rcases List.mem_cons.1 hm with h9 | h9
  ·exact Apt.fresh hc (F:=[bm]) (by simpa using hbm) h0 ad e (by rw [h9];simp)
  ·exact HA.out h0 ad e h9
 clear hpl h hc
 go_wp2_with fail
 go_loopg [36] n (fun j iv wr=>∃ (i:Nat) (F' bs':List Nat),iv=.int .i64 (i:Int)∧i+j=n∧IsWr wr b F' bs'∧Hid (bs'=bs++modelBits l W d i)∧bs'.length≤bs.length+65*i∧IsMd wr bm d (modelTo l W d i)∧bm∉F'∧Grow (bm::F) (bm::F') w1 wr)
 case atStart=>exact ⟨0,F,bs,rfl,by simp,hwr1,hid (by simp [modelBits]),by omega,hmd,hbmF,Grow.refl _ _⟩
 case round =>
  obtain ⟨i,F',bs',rfl,hij,hwr,Hb,hbl,hmdr,hbF,hgr⟩:=hrel
  rcases gk with _ | j
  ·obtain rfl:i=n:=by omega
   go_wp2
   go_ret
   refine ⟨rfl,F',?_,Grow.forget ch1 hgr hbm⟩
   rw [←Hb.out]
   exact hwr
  ·have hin:i<n:=by omega
   have hcr:Cells vi wr A l:=hc1.keep hA2.out hgr.chg
   have hnx:modelBits l W d (i+1)=modelBits l W d i++bitsAtM (modelTo l W d i) l W d i:=rfl
   have hnm:modelTo l W d (i+1)=nextM (modelTo l W d i) l W d i:=rfl
   have hmok:=HMO.out i
   have hlen1:=HML.out (i+1)
   rw [hnx,List.length_append] at hlen1
   obtain ⟨m,hm⟩:∃ m,m=modelTo l W d i:=⟨_,rfl⟩
   rw [←hm] at hmdr hnx hnm hmok hlen1
   have hct:=ctxN_lt (nbr l W (i%W) (i / W)) d
   have hlk:=HL.out i hin m hmok bm wr hmdr hcr
   have hil:i<l.length:=by rw [←HN.out];exact hin
   obtain ⟨g,o,rfl,hcell⟩:=hcr.at_ hil
   have hxg:l[i]=l.getD i 0:=by rw [List.getD_eq_getElem?_getD,List.getElem?_eq_getElem hil];rfl
   have hx:=HS.out l[i] (List.getElem_mem _)
   rw [hxg] at hcell hx
   have hcell':wr.cell? ⟨g,o+i,none⟩=some (.int .i64 (l.getD i 0)):=hcell
   clear hcell
   have hpr:=guessM_ok (statAt m (ctxAt l W d i)) (guessI 7 (nbr l W (i%W) (i / W)) d) (turnAt l W d i) (d:=d) hp0
   have hpe:predAt m l W d i=guessM (statAt m (ctxAt l W d i)) (guessI 7 (nbr l W (i%W) (i / W)) d) (turnAt l W d i) d:=rfl
   rw [←hpe] at hpr
   have her:=errOf_range (l.getD i 0) (predAt m l W d i) (turnAt l W d i) h0
   have hew:=errOf_mid (l.getD i 0) (predAt m l W d i) (turnAt l W d i) h0 h1
   have hee:errAt m l W d i=errOf (l.getD i 0) (predAt m l W d i) (turnAt l W d i) d:=rfl
   rw [←hee] at her hew
   have hbe:bitsAtM m l W d i=rbits (kOf (statAt m (ctxAt l W d i))) (errAt m l W d i):=rfl
   have hne:nextM m l W d i=m.set (ctxAt l W d i) (learnS (statAt m (ctxAt l W d i)) (errAt m l W d i)):=rfl
   rw [hbe] at hnx hlen1
   rw [hne] at hnm
   have hct':ctxAt l W d i<365:=hct
   have hkl:=kOf_le (statAt_mem hmok hct').2
   generalize ctxAt l W d i=cx at *
   generalize predAt m l W d i=pr at *
   generalize turnAt l W d i=tb at *
   generalize errAt m l W d i=er at *
   generalize l.getD i 0=x at *
   have hkk:=fun w h=>mk_ok bm d m cx w h hmok hct'
   generalize kOf (statAt m cx)=kk at *
   have hlearn:=fun w h=>learn_ok bm d m cx er w h hmok h0 h1 hct' her.1 her.2
   obtain ⟨hx0,hx1⟩:=hx
   obtain ⟨hr0,hr1⟩:=hpr
   have hx2:x<65536:=Int.lt_of_lt_of_le hx1 HP.out
   have hr2:pr<65536:=Int.lt_of_lt_of_le hr1 HP.out
   clear hx1 hr1
   have HLN:=hid hlearn
   have HKK:=hid hkk
   have HNX:=hid hnx
   have HNM:=hid hnm
   have HEE:=hid hee
   have HLE:=hid hlen1
   have HML':=hid hm
   clear hlearn hkk hnx hnm hee hlen1 hm hpe hct hxg hbe hne hmok hcr her
   go_wp2_with fail
   refine hlk.mono ?_
   rintro e w2 ⟨rfl,ch2⟩
   clear hlk
   have hwr2:=hwr.same ch2
   have hmd2:=hmdr.chg ch2 (by simp)
   have hgr2:=hgr.same ch2
   cases tb with
   | false =>
    have hfd:=fold_ok (x-pr) d w2 h0 h1
    have e1:foldI (x-pr) d=er:=by rw [HEE.out];rfl
    rw [e1] at hfd
    go_wp2_with fail
    refine hfd.mono ?_
    rintro e w' ⟨rfl,rfl⟩
    go_wp2_with fail
    refine (HKK.out _ hmd2).mono ?_
    rintro e w3 ⟨rfl,n3,rfl⟩
    go_wp2_with fail
    refine (rput1_ok _ b F' bs' kk er (hwr2.same ((Chg.refl [] w2).drewN n3)) (by omega) hew (by omega)).mono ?_
    rintro e w4 ⟨rfl,F2,hwr4,hgr4⟩
    have hb2:bm∉F2:=hgr4.out hmd2.lt hbF
    have hmd4:=(hmd2.chg ((Chg.refl [] w2).drewN n3) (by simp)).chg hgr4.chg hbF
    have hgr5:=(hgr2.drewN n3).trans (hgr4.cons bm)
    go_wp2_with fail
    refine (HLN.out _ hmd4).mono ?_
    rintro e w5 ⟨rfl,hmd5,ch5⟩
    go_wp2_with fail
    go_roundg j
    case measure=>omega
    case rel =>
     refine ⟨i+1,F2,bs'++rbits kk er,by go_num,by omega,hwr4.chg ch5 (fun y hy hm=>by rw [List.mem_singleton.1 hm] at hy;exact hb2 hy),hid (by rw [HNX.out,←List.append_assoc,←Hb.out]),?_,?_,hb2,?_⟩
     ·rw [List.length_append];have:=rbits_len kk er;have:=rcost_le kk er (by omega);omega
     ·rw [HNM.out];exact hmd5
     ·exact hgr5.trans ⟨ch5.mono fun y hy _=>by rw [List.mem_singleton.1 hy];simp,fun y hy => .inl hy⟩
   | true =>
    have hfd:=fold_ok (x-pr) d w2 h0 h1
    have hfd2:=fold_ok (-foldI (x-pr) d) d w2 h0 h1
    have hfr:=foldI_range (x-pr) h0
    have e1:foldI (-foldI (x-pr) d) d=er:=by rw [HEE.out];rfl
    rw [e1] at hfd2
    have hfm:=errRange16 h1 hfr
    generalize foldI (x-pr) d=fo at *
    clear hfr
    go_wp2_with fail
    refine hfd.mono ?_
    rintro e w' ⟨rfl,rfl⟩
    go_wp2_with fail
    refine hfd2.mono ?_
    rintro e w' ⟨rfl,rfl⟩
    go_wp2_with fail
    refine (HKK.out _ hmd2).mono ?_
    rintro e w3 ⟨rfl,n3,rfl⟩
    go_wp2_with fail
    refine (rput1_ok _ b F' bs' kk er (hwr2.same ((Chg.refl [] w2).drewN n3)) (by omega) hew (by omega)).mono ?_
    rintro e w4 ⟨rfl,F2,hwr4,hgr4⟩
    have hb2:bm∉F2:=hgr4.out hmd2.lt hbF
    have hmd4:=(hmd2.chg ((Chg.refl [] w2).drewN n3) (by simp)).chg hgr4.chg hbF
    have hgr5:=(hgr2.drewN n3).trans (hgr4.cons bm)
    go_wp2_with fail
    refine (HLN.out _ hmd4).mono ?_
    rintro e w5 ⟨rfl,hmd5,ch5⟩
    go_wp2_with fail
    go_roundg j
    case measure=>omega
    case rel =>
     refine ⟨i+1,F2,bs'++rbits kk er,by go_num,by omega,hwr4.chg ch5 (fun y hy hm=>by rw [List.mem_singleton.1 hm] at hy;exact hb2 hy),hid (by rw [HNX.out,←List.append_assoc,←Hb.out]),?_,?_,hb2,?_⟩
     ·rw [List.length_append];have:=rbits_len kk er;have:=rcost_le kk er (by omega);omega
     ·rw [HNM.out];exact hmd5
     ·exact hgr5.trans ⟨ch5.mono fun y hy _=>by rw [List.mem_singleton.1 hy];simp,fun y hy => .inl hy⟩
theorem bitAt_zeros {ds:List Nat} {p n:Nat} {bs:List Nat} (h:Ahead ds p (List.replicate n 0++1::bs)):(∀ i,i<n→bitAt ds (p+i)=0)∧bitAt ds (p+n)=1 :=
 ⟨fun i hi=>h.get (by rw [List.getElem?_append_left (by simpa using hi)];simp [hi]),h.get (by rw [List.getElem?_append_right (by simp)];simp)⟩
theorem ahead_one {ds:List Nat} {p n:Nat} {bs:List Nat} (h:Ahead ds p (List.replicate n 0++1::bs)):Ahead ds (p+n+1) bs:=by
 have h1:Ahead ds p ((List.replicate n 0++[1])++bs):=by simpa using h
 have:=h1.right
 rw [List.length_append,List.length_replicate,List.length_singleton,←Nat.add_assoc] at this
 exact this
theorem rone_ok (w:World) (b:Nat) (F ds:List Nat) (p k:Nat) (x:Int) (h:IsRd w b F ds p) (hk:k≤25) (hx:wideP x) (ha:Ahead ds p (rbits k x)) :
  Calls Tryz.prog 150 #[.pointer (some ⟨b,0,none⟩),.int .i64 k] w fun e w'=>e=.returned (.tuple #[.int .i64 x,.int .i64 0])∧IsRd w' b F ds (p+(rbits k x).length)∧Chg [b] w w':=by
 have hu:=rfold_lt hx
 have hux:=unfoldI_rfold x
 have hle:=h.at_le
 obtain ⟨u,hu'⟩:∃ u,u=rfold x:=⟨_,rfl⟩
 have hrb:rbits k x=if u / 2^k<32 then List.replicate (u / 2^k) 0++1::bitsOf (u%2^k) k else List.replicate 32 0++1::bitsOf u 32:=by unfold rbits;rw [←hu']
 rw [←hu'] at hu hux
 have hqm:=Nat.div_add_mod u (2^k)
 have hlt2:=Nat.mod_lt u (Nat.two_pow_pos k)
 have hp25:2^k≤33554432:=Nat.pow_le_pow_right (n:=2) (j:=25) (by decide) hk
 obtain ⟨q,hq'⟩:∃ q,q=u / 2^k:=⟨_,rfl⟩
 obtain ⟨r,hr'⟩:∃ r,r=u%2^k:=⟨_,rfl⟩
 have e1:(u:Int) / 2^k=(q:Int):=by rw [hq'];simp
 rw [←hq'] at hqm hrb
 rw [←hr'] at hqm hlt2 hrb
 have hqp:(q:Int)*2^k=(u:Int)-r:=by
  have:((2^k*q+r:Nat):Int)=(u:Int):=by rw [hqm]
  rw [Int.natCast_add,Int.natCast_mul,Int.natCast_pow] at this
  rw [Int.mul_comm]
  simp at this
  omega
 have hru:r≤u:=by rw [hr'];exact Nat.mod_le _ _
 have HLT2:=hid hlt2
 have HUX:=hid hux
 clear hqm hq' hr' hu' hlt2 hp25 hux
 by_cases hs:q<32
 ·rw [if_pos hs] at hrb
  rw [hrb] at ha ⊢
  obtain ⟨hz,h1⟩:=bitAt_zeros ha
  have ha2:=ahead_one ha
  have hl:=ha.le hle
  simp only [List.length_append,List.length_replicate,List.length_cons,bitsOf_len] at hl
  have hlen:(List.replicate q 0++1::bitsOf r k).length=q+1+k:=by simp [bitsOf_len];omega
  rw [hlen]
  have t1:decide ((q:Int)<32)=true:=by simp;omega
  have HP1:=hid hz
  have HP2:=hid h1
  have HA2:=hid ha2
  clear hz h1 ha2 ha hrb hlen
  go_enter Tryz.func150,Tryz.ntmps150
  go_wp2_with fail
  refine (runary_ok w b F ds p q 32 h (by omega) (by omega) HP1.out HP2.out (by omega)).mono ?_
  rintro e w1 ⟨rfl,hr1,ch1⟩
  go_wp2_with (go_at_call 60;refine (err_ok _ b F ds _ hr1).mono ?_;rintro e w' ⟨rfl,rfl⟩)
  refine (rget_ahead _ b F ds (p+q+1) k r hr1 (by omega) HLT2.out HA2.out).mono ?_
  rintro e w2 ⟨rfl,hr2,ch2⟩
  go_wp2_with fail
  have hun:=unfold_ok u w2 hu
  rw [HUX.out] at hun
  refine hun.mono ?_
  rintro e w3 ⟨rfl,rfl⟩
  go_wp2_with (go_at_call 60;refine (err_ok _ b F ds _ hr2).mono ?_;rintro e w' ⟨rfl,rfl⟩)
  go_ret2
  exact ⟨rfl,by rw [show p+(q+1+k)=p+q+1+k by omega];exact hr2,ch1.trans_same ch2⟩
 ·rw [if_neg hs] at hrb
  rw [hrb] at ha ⊢
  obtain ⟨hz,h1⟩:=bitAt_zeros ha
  have ha2:=ahead_one ha
  have hl:=ha.le hle
  simp only [List.length_append,List.length_replicate,List.length_cons,bitsOf_len] at hl
  have hlen:(List.replicate 32 0++1::bitsOf u 32).length=32+1+32:=by simp [bitsOf_len]
  rw [hlen]
  have t1:decide ((2147483648:Int)≤(u:Int))=false:=by simp;omega
  have t2:decide ((q:Int)<32)=false:=by simp;omega
  have HP1:=hid hz
  have HP2:=hid h1
  have HA2:=hid ha2
  clear hz h1 ha2 ha hrb hlen hqp
  go_enter Tryz.func150,Tryz.ntmps150
  go_wp2_with fail
  refine (runary_ok w b F ds p 32 32 h (by omega) (by omega) HP1.out HP2.out (by omega)).mono ?_
  rintro e w1 ⟨rfl,hr1,ch1⟩
  go_wp2_with (go_at_call 60;refine (err_ok _ b F ds _ hr1).mono ?_;rintro e w' ⟨rfl,rfl⟩)
  refine (rget_ahead _ b F ds (p+32+1) 32 u hr1 (by omega) (by omega) HA2.out).mono ?_
  rintro e w2 ⟨rfl,hr2,ch2⟩
  have hun:=unfold_ok u w2 hu
  rw [HUX.out] at hun
  go_wp2_with (first | (go_at_call 60;refine (err_ok _ b F ds _ hr2).mono ?_;rintro e w' ⟨rfl,rfl⟩) | (go_at_call 126;refine hun.mono ?_;rintro e w' ⟨rfl,rfl⟩))
  go_ret2
  exact ⟨rfl,hr2,ch1.trans_same ch2⟩
theorem rbitsAll_cons (k:Nat) (x:Int) (l:List Int):rbitsAll k (x::l)=rbits k x++rbitsAll k l:=by simp [rbitsAll]
theorem rbitsAll_split (k:Nat) (l:List Int) {m:Nat} (hm:m<l.length):rbitsAll k (l.drop m)=rbits k l[m]++rbitsAll k (l.drop (m+1)):=by
 rw [List.drop_eq_getElem_cons hm,rbitsAll_cons]
theorem Ahead.cast {ds:List Nat} {p q:Nat} {bs:List Nat} (h:Ahead ds p bs) (e:p=q):Ahead ds q bs:=e ▸ h
theorem IsRd.cast {w:World} {b:Nat} {F ds:List Nat} {p q:Nat} (h:IsRd w b F ds p) (e:p=q):IsRd w b F ds q:=e ▸ h
theorem rgets_ok (w:World) (b:Nat) (F ds:List Nat) (p k:Nat) (l:List Int) (h:IsRd w b F ds p) (hk:k≤25) (hw:∀ x∈l,wideP x) (hl:l.length≤4194304) (ha:Ahead ds p (rbitsAll k l)) :
  Calls Tryz.prog 101 #[.pointer (some ⟨b,0,none⟩),.int .i64 k,.int .i64 l.length] w fun e w'=>∃ v G,e=.returned (.tuple #[v,.int .i64 0])∧Own w' 3 v G (l.map vi)∧IsRd w' b F ds (p+(rbitsAll k l).length)∧Chg [b] w w'∧∀ x∈G,w.heap.size≤x:=by
 have HW:=hid hw
 have HA:=hid ha
 clear hw ha
 have hbl:=h.lt b h.mem
 obtain ⟨n,hn⟩:∃ n,n=l.length:=⟨_,rfl⟩
 rw [←hn] at hl ⊢
 have HN:=hid hn
 clear hn
 have t1:decide ((n:Int)<0)=false:=by simp
 have t2:decide ((4194304:Int)<(n:Int))=false:=by simp;omega
 go_enter Tryz.func101,Tryz.ntmps101
 go_wp2_with (first | (go_at_call 149;refine (param_yes _ _ hk).mono ?_;rintro e w' ⟨rfl,rfl⟩) | (go_at_call 60;refine (err_ok _ b F ds _ h).mono ?_;rintro e w' ⟨rfl,rfl⟩))
 go_loopg [8,28] n (fun j v i wr=>∃ G p' out,j≤n∧i=.int .i64 ((n-j:Nat):Int)∧Own wr 3 v G (out.map vi)∧Hid (out=l.take (n-j))∧IsRd wr b F ds p'∧Hid (Ahead ds p' (rbitsAll k (l.drop (n-j))))∧Hid (p'+(rbitsAll k (l.drop (n-j))).length=p+(rbitsAll k l).length)∧Chg [b] w wr∧∀ x∈G,w.heap.size≤x)
 case atStart=>exact ⟨[],p,[],Nat.le_refl _,by simp,Own.nil _ _,hid (by simp),h,by simpa using HA,hid (by simp),Chg.refl _ _,by simp⟩
 case round =>
  obtain ⟨G,p',out,hj,rfl,ho,Ho,hrd,Ha,Hp,hch,hG⟩:=hrel
  obtain ⟨A,cap,rfl,hcl,hcm,-⟩:=ho.open_map
  have HG:=hid hG
  clear hG
  rcases gk with _ | j
  ·have t4:decide (((n-0:Nat):Int)<(n:Int))=false:=by simp
   go_wp2
   go_ret2
   have e:l.take (n-0)=l:=by rw [HN.out,Nat.sub_zero,List.take_length]
   have e2:l.drop (n-0)=[]:=by rw [HN.out,Nat.sub_zero,List.drop_length]
   rw [Ho.out,e] at ho
   have hp:=Hp.out
   rw [e2] at hp
   refine ⟨_,G,rfl,?_,hrd.cast (by simpa [rbitsAll] using hp),hch,HG.out⟩
   rw [Ho.out,e]
   exact ho
  ·obtain ⟨m,hm1⟩:∃ m,m=n-(j+1):=⟨_,rfl⟩
   rw [←hm1] at Ha Hp Ho ⊢
   have hm2:m<n:=by omega
   have hm3:n-j=m+1:=by omega
   have HM:=hid hm3
   clear hm1 hm3
   have hml:m<l.length:=by rw [←HN.out];exact hm2
   have hsp:=rbitsAll_split k l hml
   have htk:=take_snoc' l hml
   have hxw:wideP l[m]:=HW.out _ (List.getElem_mem _)
   obtain ⟨x,hx⟩:∃ x,x=l[m]:=⟨_,rfl⟩
   rw [←hx] at hsp hxw htk
   have ha1:=Ha.out
   rw [hsp] at ha1
   have hone:=rone_ok wr b F ds p' k x hrd hk hxw ha1.left
   have HA2:=hid ha1.right
   have hol:out.length≤4194304:=by rw [Ho.out,List.length_take];omega
   have HTK:=hid htk
   have HSP:=hid hsp
   clear hsp htk hx ha1 hml
   go_wp2_with fail
   refine hone.mono ?_
   rintro e w1 ⟨rfl,hr1,ch1⟩
   have hbG:∀ y∈G,y∉[b]:=fun y hy=>by have:=HG.out y hy;simp;omega
   have ho1:=ho.chg ch1 hbG
   have HB:=hid hbG
   clear hone hbG
   go_wp2_with (at_builtin;refine wpList_append_o1 rfl rfl int_elem rfl rfl (ho1.alloc _) (.int .i64 x) rfl ?c1 ?c2 ?c3 ?c4 ?_)
   case c1=>simp [go_sem]
   case c2=>rfl
   case c3=>rw [List.length_map];omega
   case c4=>rw [List.length_map];omega
   intro g2 cap2 w2 hr2 gr2
   go_wp2_with fail
   go_roundg j
   case measure=>omega
   case rel =>
    rw [HM.out]
    have ch2:Chg [b] w w2:=(hch.trans_same (ch1.alloc _)).trans gr2.chg fun x hx => .inr (HG.out x hx)
    have hng:∀ y∈F,y∉G:=fun y hy hyG=>by have:=HG.out y hyG;have:=h.lt y hy;omega
    refine ⟨[g2],_,out++[x],by omega,by go_num,?_,?_,(hr1.same ((Chg.refl [] w1).alloc _)).chg gr2.chg hng,HA2,?_,ch2,?_⟩
    ·have:=hr2.toOwn
     simpa [vi] using this
    ·exact hid (by rw [Ho.out,HTK.out])
    ·refine hid ?_
     rw [←Hp.out,HSP.out,List.length_append]
     omega
    ·intro y hy
     simp at hy
     subst hy
     rcases gr2.new y (by simp) with h1 | h1
     ·exact HG.out y h1
     ·have:=hch.size
      have:=ch1.size
      simp at h1
      omega
end Go.Proofs.YtijpbkakncglgaaGreatDoor
