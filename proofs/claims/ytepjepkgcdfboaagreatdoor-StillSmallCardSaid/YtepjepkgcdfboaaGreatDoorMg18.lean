/- Put of package match in plain Lean. No program. -/
import Derived.Test.YtepjepkgcdfboaaGreatDoorMg04
import Derived.Test.YtepjepkgcdfboaaGreatDoorMg31
set_option linter.unusedVariables false
set_option linter.unusedSimpArgs false
set_option maxHeartbeats 4000000
set_option maxRecDepth 100000
namespace Go.Proofs.YtepjepkgcdfboaaGreatDoor
open Go.RowKit
def lenOf (t:Tok):Int:=unfoldI (t.len-3)
def codeOf (W:Nat) (t:Tok):Int:=unfoldI (codeN t.dist W-1)
def copyLens (T:List Tok):List Int:=T.flatMap fun t=>if t.isLit then [] else [lenOf t]
def copyCodes (W:Nat) (T:List Tok):List Int:=T.flatMap fun t=>if t.isLit then [] else [codeOf W t]
def tokBits (k j W d:Nat) (t:Tok):List Nat:=if t.isLit then bitsOf 0 1++bitsOf t.lit.toNat d else bitsOf 1 1++rbits k (lenOf t)++rbits j (codeOf W t)
def matchBits (T:List Tok) (W d:Nat):List Nat :=
 bitsOf (rbest (copyLens T)) 5++bitsOf (rbest (copyCodes W T)) 5++T.flatMap (tokBits (rbest (copyLens T)) (rbest (copyCodes W T)) W d)
def TokOk (d:Nat) (t:Tok):Prop:=(t.isLit=true/\0<=t.lit/\t.lit<2^d)\/(t.isLit=false/\t.isCopy=true)
theorem TokOk.ok {d:Nat} {t:Tok} (h:TokOk d t):t.ok:=by
 rcases h with h | h
 ·exact .inl h.1
 ·exact .inr h.2
theorem unfoldI_wide {u:Nat} (h:u<=1073741823):wideP (unfoldI u):=by
 unfold wideP unfoldI
 split<;>omega
theorem lenOf_wide {t:Tok} (h:t.isCopy=true):wideP (lenOf t):=by
 have:=Tok.isCopy_iff.1 h
 exact unfoldI_wide (by omega)
theorem codeOf_wide {t:Tok} (W:Nat) (h:t.isCopy=true):wideP (codeOf W t):=by
 have h1:=Tok.isCopy_iff.1 h
 have h2:=(codeN_ok (d:=t.dist) (W:=W) (by omega)).1
 exact unfoldI_wide (by omega)
theorem copyLens_wide {d:Nat} {T:List Tok} (h:∀ t∈T,TokOk d t):∀ x∈copyLens T,wideP x:=fun x hx=>by
 obtain ⟨t,ht,hxt⟩:=List.mem_flatMap.1 hx
 rcases h t ht with h1 | h1
 ·rw [if_pos h1.1] at hxt;simp at hxt
 ·rw [if_neg (by simp [h1.1])] at hxt
  rw [zU.1 hxt]
  exact lenOf_wide h1.2
theorem copyCodes_wide {d W:Nat} {T:List Tok} (h:∀ t∈T,TokOk d t):∀ x∈copyCodes W T,wideP x:=fun x hx=>by
 obtain ⟨t,ht,hxt⟩:=List.mem_flatMap.1 hx
 rcases h t ht with h1 | h1
 ·rw [if_pos h1.1] at hxt;simp at hxt
 ·rw [if_neg (by simp [h1.1])] at hxt
  rw [zU.1 hxt]
  exact codeOf_wide W h1.2
theorem copyLens_len (T:List Tok):(copyLens T).length<=T.length:=by
 induction T with
 | nil=>exact zQ _
 | cons t T ih =>
  have e:copyLens (t::T)=(if t.isLit then [] else [lenOf t])++copyLens T:=rfl
  rw [e,zC]
  split<;>simp<;>omega
theorem copyCodes_len (W:Nat) (T:List Tok):(copyCodes W T).length=(copyLens T).length:=by
 induction T with
 | nil=>rfl
 | cons t T ih =>
  have e:copyLens (t::T)=(if t.isLit then [] else [lenOf t])++copyLens T:=rfl
  have e2:copyCodes W (t::T)=(if t.isLit then [] else [codeOf W t])++copyCodes W T:=rfl
  rw [e,e2,zC,zC,ih]
  split<;>rfl
theorem copyLens_snoc (T:List Tok) (t:Tok):copyLens (T++[t])=copyLens T++(if t.isLit then [] else [lenOf t]):=by simp [copyLens]
theorem copyCodes_snoc (W:Nat) (T:List Tok) (t:Tok):copyCodes W (T++[t])=copyCodes W T++(if t.isLit then [] else [codeOf W t]):=by simp [copyCodes]
theorem copyLens_at (T:List Tok) {i:Nat} {t:Tok} (h:T[i]?=some t) (hl:t.isLit=false) :
  (copyLens T)[(copyLens (T.take i)).length]?=some (lenOf t):=by
 have hi:i<T.length:=(List.getElem?_eq_some_iff.1 h).1
 have e:T=T.take i++t::T.drop (i+1):=by
  have h2:=(List.getElem?_eq_some_iff.1 h).2
  rw [<-h2,<-List.drop_eq_getElem_cons hi,List.take_append_drop]
 have e2:copyLens T=copyLens (T.take i)++(lenOf t::copyLens (T.drop (i+1))):=by
  have e3:∀ a b:List Tok,copyLens (a++b)=copyLens a++copyLens b:=fun a b=>by simp [copyLens]
  have e4:copyLens (t::T.drop (i+1))=(if t.isLit then [] else [lenOf t])++copyLens (T.drop (i+1)):=rfl
  rw [hl] at e4
  rw [show copyLens T=copyLens (T.take i++t::T.drop (i+1)) from congrArg copyLens e,e3,e4]
  rfl
 rw [e2,zS (zQ _),Nat.sub_self]
 rfl
theorem copyCodes_at (W:Nat) (T:List Tok) {i:Nat} {t:Tok} (h:T[i]?=some t) (hl:t.isLit=false) :
  (copyCodes W T)[(copyLens (T.take i)).length]?=some (codeOf W t):=by
 have hi:i<T.length:=(List.getElem?_eq_some_iff.1 h).1
 have e:T=T.take i++t::T.drop (i+1):=by
  have h2:=(List.getElem?_eq_some_iff.1 h).2
  rw [<-h2,<-List.drop_eq_getElem_cons hi,List.take_append_drop]
 have e2:copyCodes W T=copyCodes W (T.take i)++(codeOf W t::copyCodes W (T.drop (i+1))):=by
  have e3:∀ a b:List Tok,copyCodes W (a++b)=copyCodes W a++copyCodes W b:=fun a b=>by simp [copyCodes]
  have e4:copyCodes W (t::T.drop (i+1))=(if t.isLit then [] else [codeOf W t])++copyCodes W (T.drop (i+1)):=rfl
  rw [hl] at e4
  rw [show copyCodes W T=copyCodes W (T.take i++t::T.drop (i+1)) from congrArg (copyCodes W) e,e3,e4]
  rfl
 rw [e2,<-copyCodes_len W,zS (zQ _),Nat.sub_self]
 rfl
theorem tokBits_len {k j W d:Nat} (hk:k<=25) (hj:j<=25) (hd:d<=16) (t:Tok):(tokBits k j W d t).length<=131:=by
 unfold tokBits
 have h1:=rcost_le k (lenOf t) hk
 have h2:=rcost_le j (codeOf W t) hj
 split
 ·rw [zC,bitsOf_len,bitsOf_len];omega
 ·rw [zC,zC,bitsOf_len,rbits_len,rbits_len];omega
theorem flat_len_le {α:Type} (f:α->List Nat) (B:Nat) (h:∀ a,(f a).length<=B) (l:List α):(l.flatMap f).length<=B*l.length:=by
 induction l with
 | nil=>simp
 | cons a l ih =>
  rw [List.flatMap_cons,zC,zK,Nat.mul_add,Nat.mul_one]
  have:=h a
  omega
theorem matchBits_len (T:List Tok) (W d:Nat) (hd:d<=16):(matchBits T W d).length<=10+131*T.length:=by
 unfold matchBits
 have h1:=flat_len_le (tokBits (rbest (copyLens T)) (rbest (copyCodes W T)) W d) 131 (fun t=>tokBits_len (rbest_le _) (rbest_le _) hd t) T
 rw [zC,zC,bitsOf_len,bitsOf_len]
 omega
theorem mvalid_yes (d:Nat) (w:World) (h0:1<=d) (h1:d<=16):Calls Tryz.prog 203 #[.int .i64 d] w fun e w'=>e=.returned (.bool true)/\w=w':=by
 have t1:decide ((1:Int)<=(d:Int))=true:=zB (by omega)
 have t2:decide ((d:Int)<=16)=true:=zB (by omega)
 go_enter Tryz.func203,Tryz.ntmps203
 go_wp2
 go_ret
 exact ⟨rfl,rfl⟩
theorem isCtx_yes (c:Nat) (w:World) (h1:c<365):Calls Tryz.prog 208 #[.int .i64 c] w fun e w'=>e=.returned (.bool true)/\w=w':=by
 have t1:decide ((0:Int)<=(c:Int))=true:=zB (by omega)
 have t2:decide ((c:Int)<365)=true:=zB (by omega)
 go_enter Tryz.func208,Tryz.ntmps208
 go_wp2
 go_ret
 exact ⟨rfl,rfl⟩
theorem abs_ok (x:Int) (w:World) (h:midP x):Calls Tryz.prog 209 #[.int .i64 x] w fun e w'=>e=.returned (.int .i64 (absI x))/\w=w':=by
 obtain ⟨h1,h2⟩:=h
 by_cases hx:x<0
 ·have t1:decide (x<0)=true:=zB hx
  have hd:absI x=-x:=by unfold absI;rw [if_pos hx]
  have HD:=hid hd
  clear hd
  go_enter Tryz.func209,Tryz.ntmps209
  go_wp2
  go_ret
  rw [HD.out]
  exact ⟨rfl,rfl⟩
 ·have t1:decide (x<0)=false:=zA hx
  have hd:absI x=x:=by unfold absI;rw [if_neg hx]
  have HD:=hid hd
  clear hd
  go_enter Tryz.func209,Tryz.ntmps209
  go_wp2
  go_ret
  rw [HD.out]
  exact ⟨rfl,rfl⟩
theorem level_ok (g:Int) (d:Nat) (w:World) (h0:1<=d) (h1:d<=16) (hg0 : -2^d<g) (hg1:g<2^d):Calls Tryz.prog 272 #[.int .i64 g,.int .i64 d] w fun e w'=>e=.returned (.int .i64 (levelI g d))/\w=w':=by
 obtain ⟨ak,aj⟩:=pow_d h0 h1
 have t1:decide (g<=(-2^d:Int))=false:=zA (by omega)
 have t2:decide ((2:Int)^d<=g)=false:=zA (by omega)
 have hv:=mvalid_yes d w h0 h1
 by_cases hz:g=0
 ·have t3:(g==0)=true:=by rw [beq_iff_eq];exact hz
  have hd:levelI g d=0:=by unfold levelI;rw [if_pos hz]
  have HD:=hid hd
  clear hd hz
  go_enter Tryz.func272,Tryz.ntmps272
  go_wp2_with (go_at_call 203;refine hv.mono ?_;rintro e w' ⟨rfl,rfl⟩)
  go_ret
  rw [HD.out]
  exact ⟨rfl,rfl⟩
 ·have t3:(g==0)=false:=by rw [beq_eq_false_iff_ne];exact hz
  have ha:=abs_ok g w (by unfold midP;omega)
  have af:0<=absI g/\absI g<=65536:=by unfold absI;split<;>omega
  have hd:levelI g d=if g<0 then -steep (absI g*256 / 2^d) else steep (absI g*256 / 2^d):=by unfold levelI;rw [if_neg hz]
  obtain ⟨a,ae⟩:=zX (absI g)
  rw [<-ae] at ha af hd
  obtain ⟨am,ai⟩:=af
  obtain ⟨u,hu⟩:=zX (a*256 / 2^d)
  have an:0<=u:=by rw [hu];exact Int.ediv_nonneg (by omega) (by omega)
  rw [<-hu] at hd
  have al:a*256 / 2^d=u:=hu.symm
  have ao:u<=a*256:=by rw [hu];exact Int.ediv_le_self _ (by omega)
  obtain ⟨st,ad⟩:=zX (steep u)
  have ah:st=if u<3 then 1 else if u<7 then 2 else if u<21 then 3 else 4:=by rw [ad];rfl
  rw [<-ad] at hd
  have HD:=hid hd
  have HS:=hid ah
  clear hd ad ah hu ae
  have ag:∀ k:Int,st=k->-4<=k->k<=4->Hid (levelI g d=if g<0 then -k else k):=fun k hk _ _=>hid (by rw [HD.out,hk])
  have tn:∀ (h:g<0),decide (g<0)=true:=fun h=>zB h
  have tp:∀ (h:¬ g<0),decide (g<0)=false:=fun h=>zA h
  have ab:=hid tn
  have ac:=hid tp
  have aa:=hid ag
  clear tn tp ag HD
  by_cases u3:u<3
  ·have c1:decide (u<3)=true:=zB u3
   have hs:=HS.out
   rw [if_pos u3] at hs
   have HK:=aa.out 1 hs (by omega) (by omega)
   clear hs
   by_cases hn:g<0
   ·have t4:=ab.out hn
    rw [if_pos hn] at HK
    go_enter Tryz.func272,Tryz.ntmps272
    go_wp2_with (first | (go_at_call 203;refine hv.mono ?_;rintro e w' ⟨rfl,rfl⟩) | (go_at_call 209;refine ha.mono ?_;rintro e w' ⟨rfl,rfl⟩))
    go_ret
    rw [HK.out]
    exact ⟨rfl,rfl⟩
   ·have t4:=ac.out hn
    rw [if_neg hn] at HK
    go_enter Tryz.func272,Tryz.ntmps272
    go_wp2_with (first | (go_at_call 203;refine hv.mono ?_;rintro e w' ⟨rfl,rfl⟩) | (go_at_call 209;refine ha.mono ?_;rintro e w' ⟨rfl,rfl⟩))
    go_ret
    rw [HK.out]
    exact ⟨rfl,rfl⟩
  ·have c1:decide (u<3)=false:=zA u3
   by_cases u7:u<7
   ·have c2:decide (u<7)=true:=zB u7
    have hs:=HS.out
    rw [if_neg u3,if_pos u7] at hs
    have HK:=aa.out 2 hs (by omega) (by omega)
    clear hs
    by_cases hn:g<0
    ·have t4:=ab.out hn
     rw [if_pos hn] at HK
     go_enter Tryz.func272,Tryz.ntmps272
     go_wp2_with (first | (go_at_call 203;refine hv.mono ?_;rintro e w' ⟨rfl,rfl⟩) | (go_at_call 209;refine ha.mono ?_;rintro e w' ⟨rfl,rfl⟩))
     go_ret
     rw [HK.out]
     exact ⟨rfl,rfl⟩
    ·have t4:=ac.out hn
     rw [if_neg hn] at HK
     go_enter Tryz.func272,Tryz.ntmps272
     go_wp2_with (first | (go_at_call 203;refine hv.mono ?_;rintro e w' ⟨rfl,rfl⟩) | (go_at_call 209;refine ha.mono ?_;rintro e w' ⟨rfl,rfl⟩))
     go_ret
     rw [HK.out]
     exact ⟨rfl,rfl⟩
   ·have c2:decide (u<7)=false:=zA u7
    by_cases u21:u<21
    ·have c3:decide (u<21)=true:=zB u21
     have hs:=HS.out
     rw [if_neg u3,if_neg u7,if_pos u21] at hs
     have HK:=aa.out 3 hs (by omega) (by omega)
     clear hs
     by_cases hn:g<0
     ·have t4:=ab.out hn
      rw [if_pos hn] at HK
      go_enter Tryz.func272,Tryz.ntmps272
      go_wp2_with (first | (go_at_call 203;refine hv.mono ?_;rintro e w' ⟨rfl,rfl⟩) | (go_at_call 209;refine ha.mono ?_;rintro e w' ⟨rfl,rfl⟩))
      go_ret
      rw [HK.out]
      exact ⟨rfl,rfl⟩
     ·have t4:=ac.out hn
      rw [if_neg hn] at HK
      go_enter Tryz.func272,Tryz.ntmps272
      go_wp2_with (first | (go_at_call 203;refine hv.mono ?_;rintro e w' ⟨rfl,rfl⟩) | (go_at_call 209;refine ha.mono ?_;rintro e w' ⟨rfl,rfl⟩))
      go_ret
      rw [HK.out]
      exact ⟨rfl,rfl⟩
    ·have c3:decide (u<21)=false:=zA u21
     have hs:=HS.out
     rw [if_neg u3,if_neg u7,if_neg u21] at hs
     have HK:=aa.out 4 hs (by omega) (by omega)
     clear hs
     by_cases hn:g<0
     ·have t4:=ab.out hn
      rw [if_pos hn] at HK
      go_enter Tryz.func272,Tryz.ntmps272
      go_wp2_with (first | (go_at_call 203;refine hv.mono ?_;rintro e w' ⟨rfl,rfl⟩) | (go_at_call 209;refine ha.mono ?_;rintro e w' ⟨rfl,rfl⟩))
      go_ret
      rw [HK.out]
      exact ⟨rfl,rfl⟩
     ·have t4:=ac.out hn
      rw [if_neg hn] at HK
      go_enter Tryz.func272,Tryz.ntmps272
      go_wp2_with (first | (go_at_call 203;refine hv.mono ?_;rintro e w' ⟨rfl,rfl⟩) | (go_at_call 209;refine ha.mono ?_;rintro e w' ⟨rfl,rfl⟩))
      go_ret
      rw [HK.out]
      exact ⟨rfl,rfl⟩
theorem quiet_eq {P:Program} {f:FuncId} {args:Array Value} {w:World} {n:Nat} {v:Value}
  (h:Calls P f args (w.drewN n) fun e w'=>e=.returned v/\w.drewN n=w'):Calls P f args (w.drewN n) fun e w''=>e=.returned v/\∃ m,w''=w.drewN m :=
 h.mono fun _ _ ⟨he,hm⟩=>⟨he,n,hm.symm⟩
theorem levels_ok (g:Nbr) (d:Nat) (w:World) (h0:1<=d) (h1:d<=16) (hg:NbrOk d g) :
  Calls Tryz.prog 246 #[.int .i64 g.w,.int .i64 g.n,.int .i64 g.nw,.int .i64 g.ne,.int .i64 d] w fun e w'=>e=.returned (.agg #[.int .i64 (levelI (g.ne-g.n) d),.int .i64 (levelI (g.n-g.nw) d),.int .i64 (levelI (g.nw-g.w) d)])/\Chg [] w w':=by
 obtain ⟨aj,ak⟩:=pow_d h0 h1
 obtain ⟨a,b,c,e⟩:=g
 obtain ⟨⟨a1,a2⟩,⟨b1,b2⟩,⟨c1,c2⟩,⟨e1,e2⟩⟩:=hg
 simp only at a1 a2 b1 b2 c1 c2 e1 e2 ⊢
 have hv:=fun w=>mvalid_yes d w h0 h1
 have u1:decide (a<0)=false:=zA (by omega)
 have u2:decide ((2:Int)^d<=a)=false:=zA (by omega)
 have u3:decide (b<0)=false:=zA (by omega)
 have u4:decide ((2:Int)^d<=b)=false:=zA (by omega)
 have u5:decide (c<0)=false:=zA (by omega)
 have u6:decide ((2:Int)^d<=c)=false:=zA (by omega)
 have u7:decide (e<0)=false:=zA (by omega)
 have u8:decide ((2:Int)^d<=e)=false:=zA (by omega)
 have i0:∀ w,(Instr.index 86 (.agg #[.int .i64 a,.int .i64 b,.int .i64 c,.int .i64 e]) (.int .i64 0)).run Tryz.prog w=.ok (.int .i64 a) w:=fun _=>by kernel_rfl
 have i1:∀ w,(Instr.index 86 (.agg #[.int .i64 a,.int .i64 b,.int .i64 c,.int .i64 e]) (.int .i64 1)).run Tryz.prog w=.ok (.int .i64 b) w:=fun _=>by kernel_rfl
 have i2:∀ w,(Instr.index 86 (.agg #[.int .i64 a,.int .i64 b,.int .i64 c,.int .i64 e]) (.int .i64 2)).run Tryz.prog w=.ok (.int .i64 c) w:=fun _=>by kernel_rfl
 have i3:∀ w,(Instr.index 86 (.agg #[.int .i64 a,.int .i64 b,.int .i64 c,.int .i64 e]) (.int .i64 3)).run Tryz.prog w=.ok (.int .i64 e) w:=fun _=>by kernel_rfl
 go_enter Tryz.func246,Tryz.ntmps246
 go_wp2_with (go_at_call 203;refine (hv _).mono ?_;rintro e w' ⟨rfl,rfl⟩)
 have aa:=Blk.new w 280 #[.int .i64 0,.int .i64 0,.int .i64 0]
 have af:Chg [] w (w.alloc (.cells #[.int .i64 0,.int .i64 0,.int .i64 0] 280)):=(zR [] w).alloc _
 obtain ⟨B,hB⟩:=zX (w.heap.size)
 rw [<-hB] at aa ⊢
 generalize w.alloc (.cells #[.int .i64 0,.int .i64 0,.int .i64 0] 280)=w0 at *
 have HB:=hid hB
 clear hB
 go_loopg [22] 4 (fun j iv wr=>w0=wr/\((j=4/\iv=.int .i64 0)\/(j=3/\iv=.int .i64 1)\/(j=2/\iv=.int .i64 2)\/(j=1/\iv=.int .i64 3)\/(j=0/\iv=.int .i64 4)))
 case atStart=>exact ⟨rfl,.inl ⟨rfl,rfl⟩⟩
 case round =>
  obtain ⟨rfl,hrel⟩:=hrel
  rcases hrel with ⟨rfl,rfl⟩ | ⟨rfl,rfl⟩ | ⟨rfl,rfl⟩ | ⟨rfl,rfl⟩ | ⟨rfl,rfl⟩
  ·go_wp2
   go_roundg 3
   case measure=>omega
   case rel=>exact ⟨rfl,.inr (.inl ⟨rfl,rfl⟩)⟩
  ·go_wp2
   go_roundg 2
   case measure=>omega
   case rel=>exact ⟨rfl,.inr (.inr (.inl ⟨rfl,rfl⟩))⟩
  ·go_wp2
   go_roundg 1
   case measure=>omega
   case rel=>exact ⟨rfl,.inr (.inr (.inr (.inl ⟨rfl,rfl⟩)))⟩
  ·go_wp2
   go_roundg 0
   case measure=>omega
   case rel=>exact ⟨rfl,.inr (.inr (.inr (.inr ⟨rfl,rfl⟩)))⟩
  ·clear i0 i1 i2 i3 u1 u2 u3 u4 u5 u6 u7 u8
   have l0:=level_ok (e-b) d w0 h0 h1 (by omega) (by omega)
   have l1:=level_ok (b-c) d w0 h0 h1 (by omega) (by omega)
   have l2:=level_ok (c-a) d w0 h0 h1 (by omega) (by omega)
   obtain ⟨x0,ad⟩:=zX (levelI (e-b) d)
   obtain ⟨x1,ab⟩:=zX (levelI (b-c) d)
   obtain ⟨x2,ac⟩:=zX (levelI (c-a) d)
   rw [<-ad] at l0
   rw [<-ab] at l1
   rw [<-ac] at l2
   have ah:=hid ad
   have ag:=hid ab
   have ae:=hid ac
   clear ad ab ac
   have q0:=aa.cell 0
   have q1:=aa.cell 1
   have q2:=aa.cell 2
   have f0:=aa.frozen 0
   have f1:=aa.frozen 1
   have f2:=aa.frozen 2
   simp at q0 q1 q2
   go_wp2_with fail
   refine l0.mono ?_
   rintro e w' ⟨rfl,rfl⟩
   go_wp2_with fail
   refine l1.mono ?_
   rintro e w' ⟨rfl,rfl⟩
   go_wp2_with fail
   refine l2.mono ?_
   rintro e w' ⟨rfl,rfl⟩
   go_wp2_with fail
   have hF:=((aa.set_ 0 (.int .i64 x0)).set_ 1 (.int .i64 x1)).set_ 2 (.int .i64 x2)
   have ai:Chg [] w (((w0.setCell ⟨B,0,none⟩ (.int .i64 x0)).setCell ⟨B,1,none⟩ (.int .i64 x1)).setCell ⟨B,2,none⟩ (.int .i64 x2)):=((af.setCell (.inr (by have:=HB.out;simp;omega)) _).setCell (.inr (by have:=HB.out;simp;omega)) _).setCell (.inr (by have:=HB.out;simp;omega)) _
   generalize ((w0.setCell ⟨B,0,none⟩ (.int .i64 x0)).setCell ⟨B,1,none⟩ (.int .i64 x1)).setCell ⟨B,2,none⟩ (.int .i64 x2)=wF at *
   have g0:=hF.cell 0
   have g1:=hF.cell 1
   have g2:=hF.cell 2
   simp at g0 g1 g2
   exact bodyPost_ret (v:=.agg #[.int .i64 x0,.int .i64 x1,.int .i64 x2]) (by simp [results,Tryz.results246,go_sem,g0,g1,g2]) rfl ⟨by rw [ah.out,ag.out,ae.out],ai⟩
theorem context_ok (g:Nbr) (d:Nat) (w:World) (h0:1<=d) (h1:d<=16) (hg:NbrOk d g) :
  Calls Tryz.prog 204 #[.int .i64 g.w,.int .i64 g.n,.int .i64 g.nw,.int .i64 g.ne,.int .i64 d] w fun e w'=>e=.returned (.tuple #[.int .i64 (ctxN g d),.bool (turnB g d)])/\Chg [] w w':=by
 have hl:=levels_ok g d w h0 h1 hg
 have r0:=levelI_ok (g.ne-g.n) d
 have r1:=levelI_ok (g.n-g.nw) d
 have r2:=levelI_ok (g.nw-g.w) d
 have hc:ctxI g d=81*levelI (g.ne-g.n) d+9*levelI (g.n-g.nw) d+levelI (g.nw-g.w) d:=rfl
 have ht:turnB g d=decide (ctxI g d<0):=rfl
 have hn:((ctxN g d:Nat):Int)=absI (ctxI g d):=by
  unfold ctxN
  exact Int.toNat_of_nonneg (by unfold absI;split<;>omega)
 obtain ⟨x0,ac⟩:=zX (levelI (g.ne-g.n) d)
 obtain ⟨x1,aa⟩:=zX (levelI (g.n-g.nw) d)
 obtain ⟨x2,ab⟩:=zX (levelI (g.nw-g.w) d)
 rw [<-ac,<-aa,<-ab] at hl hc
 rw [<-ac] at r0
 rw [<-aa] at r1
 rw [<-ab] at r2
 obtain ⟨n,ad⟩:=zX (ctxI g d)
 rw [<-ad] at ht hn hc
 obtain ⟨ah,ag⟩:=r0
 obtain ⟨am,ai⟩:=r1
 obtain ⟨aj,al⟩:=r2
 have ae:=fun w=>abs_ok n w (by unfold midP;omega)
 have HT:=hid ht
 have HN:=hid hn
 have ak:81*x0+9*x1+x2=n:=hc.symm
 clear ht hn ac aa ab ad hc
 go_enter Tryz.func204,Tryz.ntmps204
 go_wp2_with fail
 refine hl.mono ?_
 rintro e w1 ⟨rfl,af⟩
 go_wp2_with (go_at_call 209;refine (ae _).mono ?_;rintro e w' ⟨rfl,rfl⟩)
 go_ret2
 rw [HT.out,HN.out]
 exact ⟨rfl,af.alloc _⟩
theorem class_ok (g:Nbr) (d:Nat) (w:World) (h0:1<=d) (h1:d<=16) (hg:NbrOk d g) :
  Calls Tryz.prog 192 #[.int .i64 g.w,.int .i64 g.n,.int .i64 g.nw,.int .i64 g.ne,.int .i64 d] w fun e w'=>e=.returned (.int .i64 (classI g d))/\Chg [] w w':=by
 have hl:=levels_ok g d w h0 h1 hg
 have r0:=levelI_ok (g.ne-g.n) d
 have r1:=levelI_ok (g.n-g.nw) d
 have r2:=levelI_ok (g.nw-g.w) d
 have hc:classI g d=absI (levelI (g.ne-g.n) d)+absI (levelI (g.n-g.nw) d)+absI (levelI (g.nw-g.w) d):=rfl
 obtain ⟨x0,ad⟩:=zX (levelI (g.ne-g.n) d)
 obtain ⟨x1,aa⟩:=zX (levelI (g.n-g.nw) d)
 obtain ⟨x2,ac⟩:=zX (levelI (g.nw-g.w) d)
 rw [<-ad,<-aa,<-ac] at hl hc
 rw [<-ad] at r0
 rw [<-aa] at r1
 rw [<-ac] at r2
 have ab:∀ x:Int,-4<=x/\x<=4->0<=absI x/\absI x<=4:=fun x hx=>by unfold absI;split<;>omega
 have b0:=ab x0 r0
 have b1:=ab x1 r1
 have b2:=ab x2 r2
 have a0:=fun w=>abs_ok x0 w (by unfold midP;omega)
 have a1:=fun w=>abs_ok x1 w (by unfold midP;omega)
 have a2:=fun w=>abs_ok x2 w (by unfold midP;omega)
 generalize absI x0=y0 at *
 generalize absI x1=y1 at *
 generalize absI x2=y2 at *
 obtain ⟨af,ag⟩:=b0
 obtain ⟨ak,ai⟩:=b1
 obtain ⟨aj,ah⟩:=b2
 have HC:=hid hc
 clear ad aa ac hc ab r0 r1 r2
 go_enter Tryz.func192,Tryz.ntmps192
 go_wp2_with fail
 refine hl.mono ?_
 rintro e w1 ⟨rfl,ae⟩
 go_wp2_with fail
 go_quiet ((first | (go_at_call 209;with_reducible exact quiet_eq (a0 _)) | (go_at_call 209;with_reducible exact quiet_eq (a1 _)) | (go_at_call 209;with_reducible exact quiet_eq (a2 _))))
 go_wp2
 go_ret
 rw [HC.out]
 exact ⟨rfl,(ae.alloc _).drewN _⟩
def mdZero (z:Array Value) (v:Int):Array Value:=z.setIfInBounds 0 (.int .i64 v)
theorem md_zeros:Tryz.zeroCells239=(List.replicate 1461 (Value.int .i64 0)).toArray:=by kernel_rfl
theorem md_zsize:(Tryz.zeroCells239).size=1461:=by rw [md_zeros,List.size_toArray,zV]
theorem mdZero_size {z:Array Value} (hz:z.size=1461) (v:Int):(mdZero z v).size=1461:=by
 unfold mdZero
 rw [Array.size_setIfInBounds,hz]
theorem mdZero_get0 {z:Array Value} (hz:z.size=1461) (v:Int):(mdZero z v)[0]?=some (.int .i64 v):=by
 unfold mdZero
 rw [Array.getElem?_setIfInBounds,if_pos rfl,if_pos (by omega)]
theorem mdZero_get {z:Array Value} (hz:z=(List.replicate 1461 (Value.int .i64 0)).toArray) (v:Int) (i:Nat) (h0:0<i) (h1:i<1461):(mdZero z v)[i]?=some (.int .i64 0):=by
 unfold mdZero
 rw [Array.getElem?_setIfInBounds,if_neg (by omega),hz,List.getElem?_toArray,List.getElem?_replicate,if_pos h1]
structure MdRep (cs:Array Value) (d:Nat) (m:List Stat):Prop where
 size:cs.size=1461
 len:m.length=365
 depth:cs[0]?=some (.int .i64 d)
 n:∀ i s,m[i]?=some s->cs[1+i*4]?=some (.int .i64 s.n)
 a:∀ i s,m[i]?=some s->cs[1+i*4+1]?=some (.int .i64 s.a)
 b:∀ i s,m[i]?=some s->cs[1+i*4+2]?=some (.int .i64 s.b)
 c:∀ i s,m[i]?=some s->cs[1+i*4+3]?=some (.int .i64 s.c)
theorem MdRep.set4 {cs:Array Value} {d:Nat} {m:List Stat} (h:MdRep cs d m) {i:Nat} (hi:i<365) (s:Stat) :
  MdRep ((((cs.setIfInBounds (1+i*4) (.int .i64 s.n)).setIfInBounds (1+i*4+1) (.int .i64 s.a)).setIfInBounds (1+i*4+2) (.int .i64 s.b)).setIfInBounds (1+i*4+3) (.int .i64 s.c)) d (m.set i s):=by
 have hs:=h.size
 have hl:=h.len
 refine ⟨by simp [hs],by simp [hl],?_,?_,?_,?_,?_⟩
 ·simp only [Array.getElem?_setIfInBounds]
  rw [if_neg (by omega),if_neg (by omega),if_neg (by omega),if_neg (by omega)]
  exact h.depth
 all_goals
  intro j t hj
  rw [List.getElem?_set] at hj
  simp only [Array.getElem?_setIfInBounds,Array.size_setIfInBounds,hs]
  by_cases hij:i=j
  ·subst hij
   rw [if_pos rfl,if_pos (by omega)] at hj
   injection hj with hj
   subst hj
   first
    | (rw [if_pos (by omega),if_pos (by omega)])
    | (rw [if_neg (by omega),if_pos (by omega),if_pos (by omega)])
    | (rw [if_neg (by omega),if_neg (by omega),if_pos (by omega),if_pos (by omega)])
    | (rw [if_neg (by omega),if_neg (by omega),if_neg (by omega),if_pos (by omega),if_pos (by omega)])
  ·rw [if_neg hij] at hj
   rw [if_neg (by omega),if_neg (by omega),if_neg (by omega),if_neg (by omega)]
   first | exact h.n j t hj | exact h.a j t hj | exact h.b j t hj | exact h.c j t hj
structure IsMd (w:World) (b d:Nat) (m:List Stat):Prop where
 ex:∃ cs,Blk w b 239 cs/\MdRep cs d m
theorem IsMd.chg {w w':World} {b d:Nat} {m:List Stat} {F:List Nat} (h:IsMd w b d m) (hc:Chg F w w') (hb:b∉F):IsMd w' b d m:=by
 obtain ⟨cs,h1,h2⟩:=h.ex
 exact ⟨cs,h1.chg hc hb,h2⟩
theorem IsMd.set4 {w:World} {b d:Nat} {m:List Stat} (h:IsMd w b d m) {i:Nat} (hi:i<365) (s:Stat) :
  IsMd ((((w.setCell ⟨b,1+i*4,none⟩ (.int .i64 s.n)).setCell ⟨b,1+i*4+1,none⟩ (.int .i64 s.a)).setCell ⟨b,1+i*4+2,none⟩ (.int .i64 s.b)).setCell ⟨b,1+i*4+3,none⟩ (.int .i64 s.c)) b d (m.set i s):=by
 obtain ⟨cs,h1,h2⟩:=h.ex
 exact ⟨_,(((h1.set_ _ _).set_ _ _).set_ _ _).set_ _ _,h2.set4 hi s⟩
theorem IsMd.lt {w:World} {b d:Nat} {m:List Stat} (h:IsMd w b d m):b<w.heap.size:=by
 obtain ⟨cs,h1,_⟩:=h.ex
 exact h1.lt
theorem IsMd.cells {w:World} {b d:Nat} {m:List Stat} (h:IsMd w b d m):w.cell? ⟨b,0,none⟩=some (.int .i64 d)/\(∀ i,w.frozen? ⟨b,i,none⟩=false) /\
  ∀ i s,m[i]?=some s->w.cell? ⟨b,1+i*4,none⟩=some (.int .i64 s.n)/\w.cell? ⟨b,1+i*4+1,none⟩=some (.int .i64 s.a)/\w.cell? ⟨b,1+i*4+2,none⟩=some (.int .i64 s.b)/\w.cell? ⟨b,1+i*4+3,none⟩=some (.int .i64 s.c):=by
 obtain ⟨cs,h1,h2⟩:=h.ex
 refine ⟨by rw [h1.cell];exact h2.depth,h1.frozen,fun i s hs=>⟨?_,?_,?_,?_⟩⟩
 ·rw [h1.cell];exact h2.n i s hs
 ·rw [h1.cell];exact h2.a i s hs
 ·rw [h1.cell];exact h2.b i s hs
 ·rw [h1.cell];exact h2.c i s hs
theorem mguess_ok (b d:Nat) (m:List Stat) (ctx:Nat) (p:Int) (t:Bool) (w:World) (h:IsMd w b d m) (hm:ModelOk m) (h0:1<=d) (h1:d<=16) (hc:ctx<365) (hp0:0<=p) (hp1:p<2^d) :
  Calls Tryz.prog 205 #[.pointer (some ⟨b,0,none⟩),.int .i64 ctx,.int .i64 p,.bool t] w fun e w'=>e=.returned (.int .i64 (guessM (statAt m ctx) p t d))/\w=w':=by
 obtain ⟨af,ae⟩:=pow_d h0 h1
 obtain ⟨hg,ac⟩:=statAt_mem hm hc
 obtain ⟨q0,_,aa⟩:=h.cells
 obtain ⟨_,_,_,qc⟩:=aa ctx _ hg
 have c0:=ac.c0
 have c1:=ac.c1
 have ab:guessM (statAt m ctx) p t d=min (max (p+(if t then -(statAt m ctx).c else (statAt m ctx).c)) 0) (2^d-1):=rfl
 obtain ⟨s,hs⟩:=zX ((statAt m ctx).c)
 rw [<-hs] at qc c0 c1 ab
 have HD:=hid ab
 have t1:decide (p<0)=false:=zA (by omega)
 have t2:decide ((2:Int)^d-1<p)=false:=zA (by omega)
 have ad:=isCtx_yes ctx w hc
 clear ab hs hg ac aa h
 cases t with
 | false =>
  go_enter Tryz.func205,Tryz.ntmps205
  go_wp2_with (go_at_call 208;refine ad.mono ?_;rintro e w' ⟨rfl,rfl⟩)
  all_goals
   go_ret
   rw [HD.out]
   exact ⟨congrArg (fun z=>Ending.returned (.int .i64 z)) (show _=min (max (p+s) 0) (2^d-1) by omega),rfl⟩
 | true =>
  go_enter Tryz.func205,Tryz.ntmps205
  go_wp2_with (go_at_call 208;refine ad.mono ?_;rintro e w' ⟨rfl,rfl⟩)
  all_goals
   go_ret
   rw [HD.out]
   exact ⟨congrArg (fun z=>Ending.returned (.int .i64 z)) (show _=min (max (p + -s) 0) (2^d-1) by omega),rfl⟩
theorem mk_ok (b d:Nat) (m:List Stat) (ctx:Nat) (w:World) (h:IsMd w b d m) (hm:ModelOk m) (hc:ctx<365) :
  Calls Tryz.prog 156 #[.pointer (some ⟨b,0,none⟩),.int .i64 ctx] w fun e w'=>e=.returned (.int .i64 (kOf (statAt m ctx)))/\∃ n,w'=w.drewN n:=by
 obtain ⟨hg,ab⟩:=statAt_mem hm hc
 obtain ⟨_,_,aa⟩:=h.cells
 obtain ⟨qn,qa,_,_⟩:=aa ctx _ hg
 have n0:=ab.n0
 have n1:=ab.n1
 have a0:=ab.a0
 have a1:=ab.a1
 obtain ⟨s,hs⟩:=zX (statAt m ctx)
 rw [<-hs] at qn qa n0 n1 a0 a1 ab ⊢
 have ao:=isCtx_yes ctx w hc
 have ad:kOf s=kFrom s 16 0:=rfl
 obtain ⟨sn,ah⟩:=zX (s.n)
 obtain ⟨sa,aj⟩:=zX (s.a)
 rw [<-ah] at qn n0 n1 a1
 rw [<-aj] at qa a0 a1
 have HD:=hid ad
 have ag:=hid ah
 have ae:=hid aj
 have ak:=hid ab
 clear ad hs hg ab aa h ah aj hm
 go_enter Tryz.func156,Tryz.ntmps156
 go_wp2_with (go_at_call 208;refine ao.mono ?_;rintro e w' ⟨rfl,rfl⟩)
 go_loopg [5] 16 (fun j v wr=>∃ (k n:Nat),v=.int .i64 k/\k+j=16/\Hid (kOf s=kFrom s j k)/\wr=w.drewN n)
 case atStart=>exact ⟨0,0,rfl,rfl,HD,rfl⟩
 case round =>
  obtain ⟨k,nd,rfl,aq,Hk,rfl⟩:=hrel
  have ap:=two_pow_pos' k
  by_cases hlt:sn*2^k<sa
  ·have af:k<15:=kFrom_lt ak.out (by rw [<-ag.out,<-ae.out];exact hlt)
   have al:(2:Int)^k<=32768:=by
    have:=Nat.pow_le_pow_right (n:=2) (by decide) (show k<=15 by omega)
    have e:(2:Int)^k<=2^15:=by exact_mod_cast this
    exact e
   have am:0<=sn*2^k:=Int.mul_nonneg (by omega) (by omega)
   have an:sn*2^k<=64*32768:=Int.le_trans (Int.mul_le_mul_of_nonneg_right n1 (by omega)) (by omega)
   have hw:IntKind.i64.wrap (sn*2^k)=sn*2^k:=IntWalk.i64_in _ (by omega)
   have t1:decide (sn*2^k<sa)=true:=zB hlt
   obtain ⟨g,rfl⟩:∃ g,gk=g+1:=⟨gk-1,by omega⟩
   have ac:kOf s=kFrom s g (k+1):=by rw [Hk.out,kFrom_step (by rw [<-ag.out,<-ae.out];exact hlt)]
   have ai:=hid ac
   clear ac hlt
   go_wp2_with fail
   go_quiet (fail)
   go_wp2
   go_roundg g
   case measure=>omega
   case rel=>exact ⟨k+1,_,by go_num,by omega,ai,rfl⟩
  ·have ac:=kFrom_stop (s:=s) (k:=k) (by rw [<-ag.out,<-ae.out];exact hlt) gk
   rw [<-Hk.out] at ac
   have ai:=hid ac
   have af:k<=15:=by have:=kOf_le ak.out;omega
   have al:(2:Int)^k<=32768:=by
    have:=Nat.pow_le_pow_right (n:=2) (by decide) (show k<=15 by omega)
    have e:(2:Int)^k<=2^15:=by exact_mod_cast this
    exact e
   have am:0<=sn*2^k:=Int.mul_nonneg (by omega) (by omega)
   have an:sn*2^k<=64*32768:=Int.le_trans (Int.mul_le_mul_of_nonneg_right n1 (by omega)) (by omega)
   have hw:IntKind.i64.wrap (sn*2^k)=sn*2^k:=IntWalk.i64_in _ (by omega)
   have t1:decide (sn*2^k<sa)=false:=zA hlt
   clear ac hlt
   go_wp2_with fail
   go_quiet (fail)
   go_wp2
   go_ret
   rw [ai.out]
   exact ⟨rfl,nd+nq,by rw [World.drewN_drewN]⟩
theorem mnew_step {wr:World} {B d k j nq:Nat} {va:Int} (hmd:IsMd wr B d (List.replicate k (newStat d)++List.replicate (j+1) ⟨0,0,0,0⟩)) (hk:k<365) (hva:va=startA d) :
  IsMd (((((wr.drewN nq).setCell ⟨B,1+k*4,none⟩ (.int .i64 1)).setCell ⟨B,1+k*4+1,none⟩ (.int .i64 va)).setCell ⟨B,1+k*4+2,none⟩ (.int .i64 0)).setCell ⟨B,1+k*4+3,none⟩ (.int .i64 0)) B d (List.replicate (k+1) (newStat d)++List.replicate j ⟨0,0,0,0⟩):=by
 have h1:=(hmd.chg ((zR [] wr).drewN nq) (by simp)).set4 hk (newStat d)
 have e:(List.replicate k (newStat d)++List.replicate (j+1) (⟨0,0,0,0⟩:Stat)).set k (newStat d)=List.replicate (k+1) (newStat d)++List.replicate j ⟨0,0,0,0⟩:=by
  rw [List.set_append_right _ _ (by simp),zV,Nat.sub_self,List.replicate_succ' (n:=k)]
  simp [List.replicate_succ]
 rw [e] at h1
 subst hva
 exact h1
theorem mnew_ok (d : Nat) (w : World) (h0 : 1 <= d) (h1 : d <= 16) :
    Calls Tryz.prog 153 #[.int .i64 d] w fun e w'=>∃ b,e=.returned (.tuple #[.pointer (some ⟨b,0,none⟩),.int .i64 0])/\IsMd w' b d (newModel d)/\Chg [] w w'/\w.heap.size<=b:=by
  obtain ⟨an,am⟩:=pow_d h0 h1
  have hv:=mvalid_yes d w h0 h1
  have ac:=Blk.new w 239 (mdZero Tryz.zeroCells239 (d:Int))
  have af:Chg [] w (w.alloc (.cells (mdZero Tryz.zeroCells239 (d:Int)) 239)):=(zR [] w).alloc _
  have ab:IsMd (w.alloc (.cells (mdZero Tryz.zeroCells239 (d:Int)) 239)) w.heap.size d (List.replicate 365 ⟨0,0,0,0⟩):=by
    have hr:∀ i s,(List.replicate 365 (⟨0,0,0,0⟩:Stat))[i]?=some s->i<365/\s=⟨0,0,0,0⟩:=fun i s h=>by
      rw [List.getElem?_replicate] at h
      split at h
      · rename_i hi
        injection h with h
        exact ⟨hi,h.symm⟩
      · cases h
    refine ⟨⟨_,ac,mdZero_size md_zsize _,zV,mdZero_get0 md_zsize _,?_,?_,?_,?_⟩⟩
    all_goals
      intro i s h
      obtain ⟨hi,rfl⟩:=hr i s h
      exact mdZero_get md_zeros _ _ (by omega) (by omega)
  unfold mdZero at af ab
  go_enter Tryz.func153,Tryz.ntmps153
  go_wp2_with (go_at_call 203;refine hv.mono ?_;rintro e w' ⟨rfl,rfl⟩)
  obtain ⟨B,hB⟩:=zX (w.heap.size)
  rw [<-hB] at ab ⊢
  have HB:=hid hB
  obtain ⟨ak,ad⟩:=zX (Tryz.zeroCells239.setIfInBounds 0 (Value.int .i64 d))
  rw [<-ad] at af ab ⊢
  clear hB ad ac hv
  have ai:Hid (startA d=max 2 ((2^d+32) / 64)):=hid rfl
  go_loopg [12] 365 (fun j iv wr=>∃ k:Nat,iv=.int .i64 k/\k+j=365/\IsMd wr B d (List.replicate k (newStat d)++List.replicate j ⟨0,0,0,0⟩)/\Chg [] w wr)
  case atStart=>exact ⟨0,rfl,rfl,by simpa using ab,af⟩
  case round =>
    obtain ⟨k,rfl,al,ag,ah⟩:=hrel
    clear ab af
    rcases gk with _ | j
    · obtain rfl:k=365:=by omega
      go_wp2
      go_ret2
      exact ⟨B,rfl,by simpa [newModel] using ag,ah,by rw [HB.out];exact zQ _⟩
    · have hk:k<365:=by omega
      have tk:decide ((k:Int)<365)=true:=zB (by omega)
      obtain ⟨_,ae,aa⟩:=ag.cells
      obtain ⟨q0,q1,q2,q3⟩:=aa k ⟨0,0,0,0⟩ (by rw [zS (by simp),zV,Nat.sub_self];rfl)
      have f0:=ae (1+k*4)
      have f1:=ae (1+k*4+1)
      have f2:=ae (1+k*4+2)
      have f3:=ae (1+k*4+3)
      clear ae aa
      go_wp2_with fail
      refine wp_region_quiet_tail 11 (by kernel_rfl) (by kernel_rfl) ?_
      simp only [List.take_succ_cons,List.take_zero,List.drop_succ_cons,List.drop_zero]
      repeat (go_big_quiet_step (fail))
      all_goals
        refine wpQuiet_nil ?_
        intro _ aj
        obtain ⟨nq,rfl⟩:=aj
        go_wp2_with fail
        all_goals
         go_roundg j
         case measure=>omega
         case rel =>
          refine ⟨k+1,by go_num,by omega,?_,(((((ah.drewN nq).setCell (.inr (by have:=HB.out;simp;omega)) _).setCell (.inr (by have:=HB.out;simp;omega)) _).setCell (.inr (by have:=HB.out;simp;omega)) _).setCell (.inr (by have:=HB.out;simp;omega)) _)⟩
          exact mnew_step ag hk (by rw [ai.out];omega)
theorem MdRep.set1 {cs:Array Value} {d:Nat} {m:List Stat} (h:MdRep cs d m) {i:Nat} (hi:i<365) {s:Stat} (hs:m[i]?=some s) (k:Nat) (v:Int) (s':Stat)
  (hk:(k=0/\s'=⟨v,s.a,s.b,s.c⟩)\/(k=1/\s'=⟨s.n,v,s.b,s.c⟩)\/(k=2/\s'=⟨s.n,s.a,v,s.c⟩)\/(k=3/\s'=⟨s.n,s.a,s.b,v⟩)) :
  MdRep (cs.setIfInBounds (1+i*4+k) (.int .i64 v)) d (m.set i s'):=by
 have aa:=h.size
 have hl:=h.len
 have h1:=h.n i s hs
 have h2:=h.a i s hs
 have h3:=h.b i s hs
 have h4:=h.c i s hs
 have ab:k<4:=by omega
 refine ⟨by simp [aa],by simp [hl],?_,?_,?_,?_,?_⟩
 ·rw [Array.getElem?_setIfInBounds,if_neg (by omega)]
  exact h.depth
 all_goals
  intro j t hj
  rw [List.getElem?_set] at hj
  rw [Array.getElem?_setIfInBounds]
  by_cases hij:i=j
  ·subst hij
   rw [if_pos rfl,if_pos (by omega)] at hj
   injection hj with hj
   subst hj
   rcases hk with ⟨rfl,rfl⟩ | ⟨rfl,rfl⟩ | ⟨rfl,rfl⟩ | ⟨rfl,rfl⟩
   all_goals first
    | (rw [if_pos (by omega),if_pos (by omega)])
    | (rw [if_neg (by omega)];first | exact h1 | exact h2 | exact h3 | exact h4)
  ·rw [if_neg hij] at hj
   rw [if_neg (by omega)]
   first | exact h.n j t hj | exact h.a j t hj | exact h.b j t hj | exact h.c j t hj
theorem IsMd.set1 {w:World} {b d:Nat} {m:List Stat} (h:IsMd w b d m) {i:Nat} (hi:i<365) {s:Stat} (hs:m[i]?=some s) (k:Nat) (v:Int) (s':Stat)
  (hk:(k=0/\s'=⟨v,s.a,s.b,s.c⟩)\/(k=1/\s'=⟨s.n,v,s.b,s.c⟩)\/(k=2/\s'=⟨s.n,s.a,v,s.c⟩)\/(k=3/\s'=⟨s.n,s.a,s.b,v⟩)) :
  IsMd (w.setCell ⟨b,1+i*4+k,none⟩ (.int .i64 v)) b d (m.set i s')/\(m.set i s')[i]?=some s':=by
 obtain ⟨cs,h1,h2⟩:=h.ex
 exact ⟨⟨_,h1.set_ _ _,h2.set1 hi hs k v s' hk⟩,by rw [List.getElem?_set_self (by rw [h2.len];exact hi)]⟩
theorem IsMd.toSet {w:World} {b d:Nat} {m:List Stat} {i:Nat} {s t:Stat} (h:IsMd w b d ((m.set i s).set i t)):IsMd w b d (m.set i t):=by rw [<-List.set_set (a:=s)];exact h
theorem IsMd.count {w:World} {b d:Nat} {m:List Stat} (h:IsMd w b d m) {i:Nat} (hi:i<365) {s:Stat} (hs:m[i]?=some s) (va vb vn:Int) :
  IsMd (((w.setCell ⟨b,1+i*4+1,none⟩ (.int .i64 va)).setCell ⟨b,1+i*4+2,none⟩ (.int .i64 vb)).setCell ⟨b,1+i*4,none⟩ (.int .i64 vn)) b d (m.set i ⟨vn,va,vb,s.c⟩)/\(m.set i ⟨vn,va,vb,s.c⟩)[i]?=some ⟨vn,va,vb,s.c⟩:=by
 obtain ⟨a1,e1⟩:=h.set1 hi hs 1 va ⟨s.n,va,s.b,s.c⟩ (.inr (.inl ⟨rfl,rfl⟩))
 obtain ⟨a2,e2⟩:=a1.set1 hi e1 2 vb ⟨s.n,va,vb,s.c⟩ (.inr (.inr (.inl ⟨rfl,rfl⟩)))
 obtain ⟨a3,e3⟩:=a2.set1 hi e2 0 vn ⟨vn,va,vb,s.c⟩ (.inl ⟨rfl,rfl⟩)
 rw [List.set_set,List.set_set] at e3
 exact ⟨a3.toSet.toSet,e3⟩
theorem IsMd.count64 {w:World} {b d:Nat} {m:List Stat} (h:IsMd w b d m) {i:Nat} (hi:i<365) {s:Stat} (hs:m[i]?=some s) (va vb wa wb wn vn:Int) :
  IsMd ((((((w.setCell ⟨b,1+i*4+1,none⟩ (.int .i64 va)).setCell ⟨b,1+i*4+2,none⟩ (.int .i64 vb)).setCell ⟨b,1+i*4+1,none⟩ (.int .i64 wa)).setCell ⟨b,1+i*4+2,none⟩ (.int .i64 wb)).setCell ⟨b,1+i*4,none⟩ (.int .i64 wn)).setCell ⟨b,1+i*4,none⟩ (.int .i64 vn)) b d (m.set i ⟨vn,wa,wb,s.c⟩)/\(m.set i ⟨vn,wa,wb,s.c⟩)[i]?=some ⟨vn,wa,wb,s.c⟩:=by
 obtain ⟨a1,e1⟩:=h.set1 hi hs 1 va ⟨s.n,va,s.b,s.c⟩ (.inr (.inl ⟨rfl,rfl⟩))
 obtain ⟨a2,e2⟩:=a1.set1 hi e1 2 vb ⟨s.n,va,vb,s.c⟩ (.inr (.inr (.inl ⟨rfl,rfl⟩)))
 obtain ⟨a3,e3⟩:=a2.set1 hi e2 1 wa ⟨s.n,wa,vb,s.c⟩ (.inr (.inl ⟨rfl,rfl⟩))
 obtain ⟨a4,e4⟩:=a3.set1 hi e3 2 wb ⟨s.n,wa,wb,s.c⟩ (.inr (.inr (.inl ⟨rfl,rfl⟩)))
 obtain ⟨a5,e5⟩:=a4.set1 hi e4 0 wn ⟨wn,wa,wb,s.c⟩ (.inl ⟨rfl,rfl⟩)
 obtain ⟨a6,e6⟩:=a5.set1 hi e5 0 vn ⟨vn,wa,wb,s.c⟩ (.inl ⟨rfl,rfl⟩)
 rw [List.set_set,List.set_set,List.set_set,List.set_set,List.set_set] at e6
 exact ⟨a6.toSet.toSet.toSet.toSet.toSet,e6⟩
theorem IsMd.even {w:World} {b d:Nat} {m:List Stat} {i:Nat} {s:Stat} (h:IsMd w b d (m.set i s)) (hi:i<365) (hs:(m.set i s)[i]?=some s) (vb vc:Int) :
  IsMd ((w.setCell ⟨b,1+i*4+2,none⟩ (.int .i64 vb)).setCell ⟨b,1+i*4+3,none⟩ (.int .i64 vc)) b d (m.set i ⟨s.n,s.a,vb,vc⟩):=by
 obtain ⟨a1,e1⟩:=h.set1 hi hs 2 vb ⟨s.n,s.a,vb,s.c⟩ (.inr (.inr (.inl ⟨rfl,rfl⟩)))
 obtain ⟨a2,e2⟩:=a1.set1 hi e1 3 vc ⟨s.n,s.a,vb,vc⟩ (.inr (.inr (.inr ⟨rfl,rfl⟩)))
 exact a2.toSet.toSet
theorem learn_ok (b d:Nat) (m:List Stat) (ctx:Nat) (e:Int) (w:World) (h:IsMd w b d m) (hm:ModelOk m) (h0:1<=d) (h1:d<=16) (hc:ctx<365) (he0 : -2^(d-1)<=e) (he1:e<2^(d-1)) :
  Calls Tryz.prog 157 #[.pointer (some ⟨b,0,none⟩),.int .i64 ctx,.int .i64 e] w fun x w'=>x=.returned (.tuple #[])/\IsMd w' b d (m.set ctx (learnS (statAt m ctx) e))/\Chg [b] w w':=by
 obtain ⟨aL,aM⟩:=pow_d h0 h1
 obtain ⟨hg,aG⟩:=statAt_mem hm hc
 obtain ⟨q0,ax,aj⟩:=h.cells
 obtain ⟨qn,qa,qb,qc⟩:=aj ctx _ hg
 have fn:=ax (1+ctx*4)
 have fa:=ax (1+ctx*4+1)
 have fb:=ax (1+ctx*4+2)
 have fc:=ax (1+ctx*4+3)
 have aF:=isCtx_yes ctx w hc
 have av:=two_pow_half h0
 have aK:=two_pow_pos' (d-1)
 have e1:(2:Int)^((d:Int)-1).toNat=2^(d-1):=by congr 1;omega
 obtain ⟨n0,n1,a0,a1,b0,b1,c0,c1⟩:=aG
 have ha:0<=absI e/\absI e<=32768:=by unfold absI;split<;>omega
 have az:=fun w=>abs_ok e w (by unfold midP;omega)
 obtain ⟨s,hs⟩:=zX (statAt m ctx)
 rw [<-hs] at qn qa qb qc n0 n1 a0 a1 b0 b1 c0 c1 hg ⊢
 have ah:=fun w' (ae:Chg [] w w') va vb vn=>(h.chg ae (by simp)).count hc hg va vb vn
 have ac:=fun w' (ae:Chg [] w w') va vb wa wb wn vn=>(h.chg ae (by simp)).count64 hc hg va vb wa wb wn vn
 obtain ⟨sn,sa,sb,sc⟩:=s
 simp only at qn qa qb qc n0 n1 a0 a1 b0 b1 c0 c1 ah ac
 have aI:(2:Int)^(d-1)<=32768:=by omega
 have t1:decide (e<(-2^(d-1):Int))=false:=zA (by omega)
 have t2:decide ((2:Int)^(d-1)<=e)=false:=zA (by omega)
 have aA : -32768<=e:=by omega
 have aJ:e<=32767:=by omega
 obtain ⟨u,hu⟩:=zX (absI e)
 rw [<-hu] at ha az
 obtain ⟨u0,u1⟩:=ha
 have HU:=hid hu
 have aH:=hid ah
 have aD:=hid ac
 have aE:Hid (∀ w,Chg [b] w w):=hid fun w=>zR _ _
 clear av hu ah ac hs hg ax aj h hm
 have ab:=countS_ok (s:=⟨sn,sa,sb,sc⟩) ⟨n0,n1,a0,a1,b0,b1,c0,c1⟩ aA (by omega)
 have ap:=hid ab
 clear ab
 by_cases hn:sn=64
 ·subst hn
  have aw:countS ⟨64,sa,sb,sc⟩ e=⟨33,(sa+u) / 2,(sb+e) / 2,sc⟩:=by unfold countS;rw [if_pos rfl,HU.out]
  have am:=hid aw
  clear aw
  go_enter Tryz.func157,Tryz.ntmps157
  go_wp2_with fail
  refine aF.mono ?_
  rintro e w' ⟨rfl,rfl⟩
  go_wp2_with fail
  refine wp_region_quiet_tail 9 (by kernel_rfl) (by kernel_rfl) ?_
  simp only [List.take_succ_cons,List.take_zero,List.drop_succ_cons,List.drop_zero]
  repeat (go_big_quiet_step ((go_at_call 209;exact quiet_eq (az _))))
  refine wpQuiet_nil ?_
  intro _ ae
  obtain ⟨nq,rfl⟩:=ae
  go_wp2_with fail
  obtain ⟨ad,al⟩:=aD.out _ ((zR [] w).drewN nq) (sa+u) (sb+e) ((sa+u) / 2) ((sb+e) / 2) 32 33
  have ai:Chg [b] w (((((((w.drewN nq).setCell ⟨b,1+ctx*4+1,none⟩ (.int .i64 (sa+u))).setCell ⟨b,1+ctx*4+2,none⟩ (.int .i64 (sb+e))).setCell ⟨b,1+ctx*4+1,none⟩ (.int .i64 ((sa+u) / 2))).setCell ⟨b,1+ctx*4+2,none⟩ (.int .i64 ((sb+e) / 2))).setCell ⟨b,1+ctx*4,none⟩ (.int .i64 32)).setCell ⟨b,1+ctx*4,none⟩ (.int .i64 33)) :=
   (((((((aE.out w).drewN nq).setCell (by simp) _).setCell (by simp) _).setCell (by simp) _).setCell (by simp) _).setCell (by simp) _).setCell (by simp) _
  generalize ((((((w.drewN nq).setCell ⟨b,1+ctx*4+1,none⟩ (.int .i64 (sa+u))).setCell ⟨b,1+ctx*4+2,none⟩ (.int .i64 (sb+e))).setCell ⟨b,1+ctx*4+1,none⟩ (.int .i64 ((sa+u) / 2))).setCell ⟨b,1+ctx*4+2,none⟩ (.int .i64 ((sb+e) / 2))).setCell ⟨b,1+ctx*4,none⟩ (.int .i64 32)).setCell ⟨b,1+ctx*4,none⟩ (.int .i64 33)=w2 at *
  have ab:=ap.out
  rw [am.out] at ab
  simp only at ab
  obtain ⟨n3,ar⟩:=zX ((33:Int))
  obtain ⟨a2,au⟩:=zX ((sa+u) / 2)
  obtain ⟨b2,ao⟩:=zX ((sb+e) / 2)
  rw [<-ar,<-au,<-ao] at ab ad al am
  obtain ⟨m0,m1,m2,m3,m4,m5,-⟩:=ab
  obtain ⟨_,ag,aa⟩:=ad.cells
  obtain ⟨rn,ra,rb,rc⟩:=aa ctx _ al
  simp only at rn ra rb rc
  have gb:=ag (1+ctx*4+2)
  have gc:=ag (1+ctx*4+3)
  have aq:=hid (fun w' (ae:Chg [] w2 w') vb vc=>(ad.chg ae (by simp)).even hc al vb vc)
  have ay:learnS ⟨64,sa,sb,sc⟩ e=evenS ⟨n3,a2,b2,sc⟩:=by unfold learnS;rw [am.out]
  have an:=hid ay
  have aB:=hid ad
  clear ay ag aa ar au ao qn qa qb qc fn fa fb fc q0  a0 a1 b0 b1 ad al
  by_cases hA:b2<=-n3
  ·have u1:decide (b2<=-n3)=true:=zB hA
   have af:evenS ⟨n3,a2,b2,sc⟩=⟨n3,a2,max (b2+n3) (1-n3),max (sc-1) (-128)⟩:=by unfold evenS;rw [if_pos hA]
   have ak:=hid af
   clear af
   go_quiet (fail)
   go_wp2_with fail
   refine wp_region_quiet_tail 18 (by kernel_rfl) (by kernel_rfl) ?_
   simp only [List.take_succ_cons,List.take_zero,List.drop_succ_cons,List.drop_zero]
   repeat (any_goals (go_big_quiet_step (fail)))
   all_goals
    refine wpQuiet_nil ?_
    intro _ ae
    obtain ⟨aC,rfl⟩:=ae
    go_wp2_with fail
   all_goals
    go_end0
    refine ⟨rfl,?_,?_⟩
    ·rw [an.out,ak.out]
     first | rw [show max (b2+n3) (1-n3)=1-n3 by omega] | rw [show max (b2+n3) (1-n3)=b2+n3 by omega]
     first | rw [show max (sc-1) (-128)=-128 by omega] | rw [show max (sc-1) (-128)=sc-1 by omega]
     exact aq.out _ ((zR [] w2).drewN _) _ _
    ·exact ((ai.drewN _).setCell (by simp) _).setCell (by simp) _
  ·have u1:decide (b2<=-n3)=false:=zA hA
   by_cases hB:0<b2
   ·have u2:decide (0<b2)=true:=zB hB
    have af:evenS ⟨n3,a2,b2,sc⟩=⟨n3,a2,min (b2-n3) 0,min (sc+1) 127⟩:=by unfold evenS;rw [if_neg hA,if_pos hB]
    have ak:=hid af
    clear af
    go_quiet (fail)
    go_wp2_with fail
    refine wp_region_quiet_tail 13 (by kernel_rfl) (by kernel_rfl) ?_
    simp only [List.take_succ_cons,List.take_zero,List.drop_succ_cons,List.drop_zero]
    repeat (any_goals (go_big_quiet_step (fail)))
    all_goals
     refine wpQuiet_nil ?_
     intro _ ae
     obtain ⟨aC,rfl⟩:=ae
     go_wp2_with fail
    all_goals
     go_end0
     refine ⟨rfl,?_,?_⟩
     ·rw [an.out,ak.out]
      first | rw [show min (b2-n3) 0=0 by omega] | rw [show min (b2-n3) 0=b2-n3 by omega]
      first | rw [show min (sc+1) 127=127 by omega] | rw [show min (sc+1) 127=sc+1 by omega]
      exact aq.out _ ((zR [] w2).drewN _) _ _
     ·exact ((ai.drewN _).setCell (by simp) _).setCell (by simp) _
   ·have u2:decide (0<b2)=false:=zA hB
    have af:evenS ⟨n3,a2,b2,sc⟩=⟨n3,a2,b2,sc⟩:=by unfold evenS;rw [if_neg hA,if_neg hB]
    have ak:=hid af
    clear af
    go_quiet (fail)
    go_wp2_with fail
    go_end0
    refine ⟨rfl,?_,ai.drewN _⟩
    rw [an.out,ak.out]
    exact aB.out.chg ((zR [] w2).drewN _) (by simp)
 ·have t3:(sn==64)=false:=by rw [beq_eq_false_iff_ne];exact hn
  have aw:countS ⟨sn,sa,sb,sc⟩ e=⟨sn+1,sa+u,sb+e,sc⟩:=by unfold countS;rw [if_neg hn,HU.out]
  have am:=hid aw
  clear aw hn
  go_enter Tryz.func157,Tryz.ntmps157
  go_wp2_with fail
  refine aF.mono ?_
  rintro e w' ⟨rfl,rfl⟩
  go_wp2_with fail
  refine wp_region_quiet_tail 9 (by kernel_rfl) (by kernel_rfl) ?_
  simp only [List.take_succ_cons,List.take_zero,List.drop_succ_cons,List.drop_zero]
  repeat (go_big_quiet_step ((go_at_call 209;exact quiet_eq (az _))))
  refine wpQuiet_nil ?_
  intro _ ae
  obtain ⟨nq,rfl⟩:=ae
  go_wp2_with fail
  obtain ⟨ad,al⟩:=aH.out _ ((zR [] w).drewN nq) (sa+u) (sb+e) (sn+1)
  have ai:Chg [b] w ((((w.drewN nq).setCell ⟨b,1+ctx*4+1,none⟩ (.int .i64 (sa+u))).setCell ⟨b,1+ctx*4+2,none⟩ (.int .i64 (sb+e))).setCell ⟨b,1+ctx*4,none⟩ (.int .i64 (sn+1))) :=
   ((((aE.out w).drewN nq).setCell (by simp) _).setCell (by simp) _).setCell (by simp) _
  generalize (((w.drewN nq).setCell ⟨b,1+ctx*4+1,none⟩ (.int .i64 (sa+u))).setCell ⟨b,1+ctx*4+2,none⟩ (.int .i64 (sb+e))).setCell ⟨b,1+ctx*4,none⟩ (.int .i64 (sn+1))=w2 at *
  have ab:=ap.out
  rw [am.out] at ab
  simp only at ab
  obtain ⟨n3,ar⟩:=zX (sn+1)
  obtain ⟨a2,au⟩:=zX (sa+u)
  obtain ⟨b2,ao⟩:=zX (sb+e)
  rw [<-ar,<-au,<-ao] at ab ad al am
  obtain ⟨m0,m1,m2,m3,m4,m5,-⟩:=ab
  obtain ⟨_,ag,aa⟩:=ad.cells
  obtain ⟨rn,ra,rb,rc⟩:=aa ctx _ al
  simp only at rn ra rb rc
  have gb:=ag (1+ctx*4+2)
  have gc:=ag (1+ctx*4+3)
  have aq:=hid (fun w' (ae:Chg [] w2 w') vb vc=>(ad.chg ae (by simp)).even hc al vb vc)
  have ay:learnS ⟨sn,sa,sb,sc⟩ e=evenS ⟨n3,a2,b2,sc⟩:=by unfold learnS;rw [am.out]
  have an:=hid ay
  have aB:=hid ad
  clear ay ag aa ar au ao qn qa qb qc fn fa fb fc q0 n0 n1 a0 a1 b0 b1 ad al
  by_cases hA:b2<=-n3
  ·have u1:decide (b2<=-n3)=true:=zB hA
   have af:evenS ⟨n3,a2,b2,sc⟩=⟨n3,a2,max (b2+n3) (1-n3),max (sc-1) (-128)⟩:=by unfold evenS;rw [if_pos hA]
   have ak:=hid af
   clear af
   go_quiet (fail)
   go_wp2_with fail
   refine wp_region_quiet_tail 18 (by kernel_rfl) (by kernel_rfl) ?_
   simp only [List.take_succ_cons,List.take_zero,List.drop_succ_cons,List.drop_zero]
   repeat (any_goals (go_big_quiet_step (fail)))
   all_goals
    refine wpQuiet_nil ?_
    intro _ ae
    obtain ⟨aC,rfl⟩:=ae
    go_wp2_with fail
   all_goals
    go_end0
    refine ⟨rfl,?_,?_⟩
    ·rw [an.out,ak.out]
     first | rw [show max (b2+n3) (1-n3)=1-n3 by omega] | rw [show max (b2+n3) (1-n3)=b2+n3 by omega]
     first | rw [show max (sc-1) (-128)=-128 by omega] | rw [show max (sc-1) (-128)=sc-1 by omega]
     exact aq.out _ ((zR [] w2).drewN _) _ _
    ·exact ((ai.drewN _).setCell (by simp) _).setCell (by simp) _
  ·have u1:decide (b2<=-n3)=false:=zA hA
   by_cases hB:0<b2
   ·have u2:decide (0<b2)=true:=zB hB
    have af:evenS ⟨n3,a2,b2,sc⟩=⟨n3,a2,min (b2-n3) 0,min (sc+1) 127⟩:=by unfold evenS;rw [if_neg hA,if_pos hB]
    have ak:=hid af
    clear af
    go_quiet (fail)
    go_wp2_with fail
    refine wp_region_quiet_tail 13 (by kernel_rfl) (by kernel_rfl) ?_
    simp only [List.take_succ_cons,List.take_zero,List.drop_succ_cons,List.drop_zero]
    repeat (any_goals (go_big_quiet_step (fail)))
    all_goals
     refine wpQuiet_nil ?_
     intro _ ae
     obtain ⟨aC,rfl⟩:=ae
     go_wp2_with fail
    all_goals
     go_end0
     refine ⟨rfl,?_,?_⟩
     ·rw [an.out,ak.out]
      first | rw [show min (b2-n3) 0=0 by omega] | rw [show min (b2-n3) 0=b2-n3 by omega]
      first | rw [show min (sc+1) 127=127 by omega] | rw [show min (sc+1) 127=sc+1 by omega]
      exact aq.out _ ((zR [] w2).drewN _) _ _
     ·exact ((ai.drewN _).setCell (by simp) _).setCell (by simp) _
   ·have u2:decide (0<b2)=false:=zA hB
    have af:evenS ⟨n3,a2,b2,sc⟩=⟨n3,a2,b2,sc⟩:=by unfold evenS;rw [if_neg hA,if_neg hB]
    have ak:=hid af
    clear af
    go_quiet (fail)
    go_wp2_with fail
    go_end0
    refine ⟨rfl,?_,ai.drewN _⟩
    rw [an.out,ak.out]
    exact aB.out.chg ((zR [] w2).drewN _) (by simp)
theorem quiet_drew {P:Program} {f:FuncId} {args:Array Value} {w:World} {n:Nat} {v:Value}
  (h:Calls P f args (w.drewN n) fun e w'=>e=.returned v/\∃ m,w'=(w.drewN n).drewN m):Calls P f args (w.drewN n) fun e w''=>e=.returned v/\∃ m,w''=w.drewN m:=Calls.quiet_of h
theorem Grow.forget {a b c:World} {x:Nat} {F F':List Nat} (k:Chg [] a b) (h:Grow (x::F) (x::F') b c) (hx:a.heap.size<=x):Grow F F' a c :=
 ⟨⟨h.chg.os.trans k.os,h.chg.tape.trans k.tape,h.chg.output.trans k.output,Nat.le_trans k.size h.chg.size,fun y hy hn =>
   (h.chg.block y (Nat.lt_of_lt_of_le hy k.size) (by simp;exact ⟨by omega,hn⟩)).trans (k.block y hy (by simp))⟩,
  fun y hy=>by
   rcases h.new y (by simp [hy]) with h1 | h1
   ·rcases zJ.1 h1 with rfl | h1
    ·exact .inr hx
    ·exact .inl h1
   ·exact .inr (Nat.le_trans k.size h1)⟩
theorem look_ok' (b d:Nat) (m:List Stat) (l:List Int) (A:Option Addr) (cap W i:Nat) (w:World) (h:IsMd w b d m) (hm:ModelOk m) (h0:1<=d) (h1:d<=16) (hW0:1<=W) (hW1:W<=64) (hi:i<=l.length) (hiW:i<64*W) (hs:SmpOk d l) (hc:Cells vi w A l) (hll:l.length<=4096) :
  Calls Tryz.prog 154 #[.pointer (some ⟨b,0,none⟩),.slice A l.length cap,.int .i64 W,.int .i64 i] w fun e w'=>e=.returned (.tuple #[.int .i64 (ctxAt l W d i),.bool (turnAt l W d i),.int .i64 (predAt m l W d i)])/\Chg [] w w':=by
 obtain ⟨x,hx⟩:=zX (i%W)
 obtain ⟨y,hy⟩:=zX (i / W)
 have ao:x<W:=by rw [hx];exact Nat.mod_lt _ (by omega)
 have ah:y<64:=by rw [hy];exact Nat.div_lt_of_lt_mul (by rw [zY];exact hiW)
 have ap:y*W+x=i:=by rw [hx,hy,zY];exact Nat.div_add_mod i W
 have e1:(i:Int)%(W:Int)=(x:Int):=by rw [hx];simp
 have e2:(i:Int) / (W:Int)=(y:Int):=by rw [hy];simp
 have aa:=fun w hc=>near_ok l A cap W x y w hW0 hW1 ao ah (by omega) hc (by omega)
 have af:=nbr_ok hs W x y
 have ac:=fun w=>context_ok (nbr l W x y) d w h0 h1 af
 have ae:=fun w=>one_ok 7 (nbr l W x y) d w (by omega) h0 h1 af
 have aj:=guessI_ok af 7
 have ag:=ctxN_lt (nbr l W x y) d
 have d1:ctxAt l W d i=ctxN (nbr l W x y) d:=by unfold ctxAt;rw [<-hx,<-hy]
 have d2:turnAt l W d i=turnB (nbr l W x y) d:=by unfold turnAt;rw [<-hx,<-hy]
 have d3:predAt m l W d i=guessM (statAt m (ctxN (nbr l W x y) d)) (guessI 7 (nbr l W x y) d) (turnB (nbr l W x y) d) d:=by unfold predAt ctxAt turnAt;rw [<-hx,<-hy]
 rw [d1,d2,d3]
 have ab:=fun w h=>mguess_ok b d m (ctxN (nbr l W x y) d) (guessI 7 (nbr l W x y) d) (turnB (nbr l W x y) d) w h hm h0 h1 ag aj.1 aj.2
 obtain ⟨n,hn⟩:=zX (l.length)
 rw [<-hn] at aa ⊢
 generalize nbr l W x y=g at *
 generalize ctxN g d=cx at *
 generalize turnB g d=tb at *
 generalize guessI 7 g d=gs at *
 generalize guessM (statAt m cx) gs tb d=gm at *
 obtain ⟨ga,gb,gc,ge⟩:=g
 simp only at aa ac ae
 have HN:=hid aa
 have an:(1:Int)<=(W:Int):=by omega
 clear hx hy ap aa af aj d1 d2 d3 hn hs hi hm
 go_enter Tryz.func154,Tryz.ntmps154
 go_wp2_with fail
 go_quiet ((go_at_call 190;exact quiet_drew (HN.out _ (hc.same ((zR [] w).drewN _)))))
 have am:=h.chg ((zR [] w).drewN nq) (by simp)
 obtain ⟨q0,_,_⟩:=am.cells
 go_wp2_with fail
 refine (ac _).mono ?_
 rintro e w1 ⟨rfl,al⟩
 have ad:=am.chg al (by simp)
 obtain ⟨q1,_,_⟩:=ad.cells
 go_wp2_with fail
 refine (ae _).mono ?_
 rintro e w2 ⟨rfl,ak⟩
 have ai:=ad.chg ak (by simp)
 go_wp2_with fail
 refine (ab _ ai).mono ?_
 rintro e w3 ⟨rfl,rfl⟩
 go_wp2_with fail
 go_ret3
 exact ⟨rfl,(((zR [] w).drewN nq).trans_same al).trans_same ak⟩
theorem mPlane_yes (l:List Int) (A:Option Addr) (cap W H d:Nat) (w:World) (hw0:1<=W) (hw1:W<=64) (hh0:1<=H) (hh1:H<=64) (h0:1<=d) (h1:d<=16) (hl:l.length=W*H) (hs:SmpOk d l) (hc:Cells vi w A l) :
  Calls Tryz.prog 152 #[.slice A l.length cap,.int .i64 W,.int .i64 H,.int .i64 d] w fun e w'=>e=.returned (.bool true)/\w=w':=by
 have t1:decide ((W:Int)<1)=false:=zA (by omega)
 have t2:decide ((64:Int)<(W:Int))=false:=zA (by omega)
 have t3:decide ((H:Int)<1)=false:=zA (by omega)
 have t4:decide ((64:Int)<(H:Int))=false:=zA (by omega)
 have t5:decide ((d:Int)<1)=false:=zA (by omega)
 have t6:decide ((16:Int)<(d:Int))=false:=zA (by omega)
 obtain ⟨ak,ai⟩:=pow_d h0 h1
 obtain ⟨m,hm⟩:=zX (l.length)
 rw [<-hm] at hl ⊢
 have ag:(W:Int)*(H:Int)=(m:Int):=by rw [hl];simp
 have t7:((m:Int) != (m:Int))=false:=by simp
 have an:m<=4096:=by rw [hl];exact zL hw1 hh1
 have HN:=hid hm
 have HS:=hid hs
 clear hm hl hs
 go_enter Tryz.func152,Tryz.ntmps152
 go_wp2_with (go_at_call 203;refine (mvalid_yes _ _ h0 h1).mono ?_;rintro e w' ⟨rfl,rfl⟩)
 go_loopg [38] m (fun j i wr=>j<=m/\i=.int .i64 ((m-j:Nat):Int)/\w=wr)
 case atStart=>exact ⟨zQ _,by simp,rfl⟩
 case round =>
  obtain ⟨hj,rfl,rfl⟩:=hrel
  rcases gk with _ | j
  ·have t8:decide (((m-0:Nat):Int)<(m:Int))=false:=by simp
   go_wp2
   go_ret
   exact ⟨rfl,rfl⟩
  ·obtain ⟨i,ac⟩:=zX (m-(j+1))
   rw [<-ac]
   have ah:i<m:=by omega
   have af:m-j=i+1:=by omega
   have HI:=hid af
   clear ac af
   have ae:i<l.length:=by rw [<-HN.out];exact ah
   obtain ⟨g,o,rfl,aa⟩:=hc.at_ ae
   have hx:=HS.out l[i] (zG _)
   obtain ⟨x,ad⟩:=zX (l[i])
   rw [<-ad] at aa hx
   have ab:w.cell? ⟨g,o+i,none⟩=some (.int .i64 x):=aa
   obtain ⟨am,al⟩:=hx
   have t9:decide (x<0)=false:=zA (by omega)
   have aj:decide ((2:Int)^d<=x)=false:=zA (by omega)
   clear aa ad ae
   go_wp2
   go_roundg j
   case measure=>omega
   case rel =>
    rw [HI.out]
    exact ⟨by omega,by go_num,rfl⟩
theorem errOf_mid (s g:Int) (t:Bool) {d:Nat} (h0:1<=d) (h1:d<=16):wideP (errOf s g t d):=by
 have:=errRange16 h1 (errOf_range s g t h0)
 unfold wideP
 omega
theorem rput1_ok (w:World) (b:Nat) (F bs:List Nat) (k:Nat) (x:Int) (h:IsWr w b F bs) (hk:k<=25) (hw:wideP x) (hlen:bs.length+65<274877906944) :
  Calls Tryz.prog 155 #[.pointer (some ⟨b,0,none⟩),.int .i64 k,.slice (some ⟨w.heap.size,0,none⟩) 1 1] (w.alloc (.cells #[.int .i64 x] 3)) fun e w'=>e=.returned (.int .i64 0)/\∃ F',IsWr w' b F' (bs++rbits k x)/\Grow F F' w w':=by
 have ch:Chg [] w (w.alloc (.cells #[.int .i64 x] 3)):=(zR [] w).alloc _
 have aa:Row (w.alloc (.cells #[.int .i64 x] 3)) 3 (.slice (some ⟨w.heap.size,0,none⟩) 1 1) w.heap.size ([x].map vi):=Row.made w 3 [.int .i64 x] (by simp [maxLen])
 have ac:=aa.toOwn.cells
 have ab:=aa.toOwn.apt (l':=[x]) (F':=F) (fun y hy=>by
  rw [zU.1 hy]
  intro hm
  have:=h.lt _ hm
  omega)
 refine (rput_ok _ b F bs k [x] _ 1 (h.same ch) hk (fun y hy=>by rw [zU.1 hy];exact hw) ac ab (by simpa using hlen)).mono ?_
 rintro e w' ⟨rfl,F',h',g'⟩
 refine ⟨rfl,F',?_,g'.pre ch⟩
 have e:rbitsAll k [x]=rbits k x:=by simp [rbitsAll]
 rw [<-e]
 exact h'
theorem mput_ok (w:World) (b:Nat) (F bs:List Nat) (l:List Int) (A:Option Addr) (cap W H d:Nat) (h:IsWr w b F bs) (hw0:1<=W) (hw1:W<=64) (hh0:1<=H) (hh1:H<=64) (h0:1<=d) (h1:d<=16) (hl:l.length=W*H) (hs:SmpOk d l) (hc:Cells vi w A l) (hA:Apt A l F) (hbs:bs.length<137438953472) :
  Calls Tryz.prog 116 #[.pointer (some ⟨b,0,none⟩),.slice A l.length cap,.int .i64 W,.int .i64 H,.int .i64 d] w fun e w'=>e=.returned (.int .i64 0)/\∃ F',IsWr w' b F' (bs++modelBits l W d (W*H))/\Grow F F' w w':=by
 have a8:l.length<=4096:=by rw [hl];exact zL hw1 hh1
 have aH:=mPlane_yes l A cap W H d w hw0 hw1 hh0 hh1 h0 h1 hl hs hc
 obtain ⟨bb,ay⟩:=pow_d h0 h1
 have a4:=fun i=>modelTo_ok l W h0 h1 ay i
 have aY:=fun i=>modelBits_len l W h0 h1 ay i
 have af:=fun i (hi:i<l.length) m (hm:ModelOk m) bm w (h:IsMd w bm d m) (hc:Cells vi w A l)=>look_ok' bm d m l A cap W i w h hm h0 h1 hw0 hw1 (by omega) (by rw [hl] at hi;have:=Nat.mul_le_mul_left W hh1;rw [zY 64 W];omega) hs hc a8
 have aQ:∀ x∈F,x<w.heap.size:=h.lt
 obtain ⟨n,hn⟩:=zX (l.length)
 rw [<-hn] at aH af a8 hl ⊢
 rw [<-hl]
 have HL:=hid af
 have ba:=hid a4
 have be:=hid aY
 have HS:=hid hs
 have HN:=hid hn
 have bd:=hid aQ
 have HP:=hid ay
 have HA:=hid hA
 clear af a4 aY hs hn hl aQ ay hA
 go_enter Tryz.func116,Tryz.ntmps116
 go_wp2_with fail
 refine aH.mono ?_
 rintro e w' ⟨rfl,rfl⟩
 go_wp2_with fail
 refine (mnew_ok d w h0 h1).mono ?_
 rintro e w1 ⟨bm,rfl,bg,aL,a9⟩
 have aC:=h.same aL
 have aJ:bm∉F:=fun hm=>by have:=bd.out _ hm;omega
 have bh:=hc.same aL
 have bf:Hid (Apt A l (bm::F)):=hid fun h0 ad e hm=>by
  rcases zJ.1 hm with h9 | h9
  ·exact Apt.fresh hc (F:=[bm]) (by simpa using a9) h0 ad e (by rw [h9];simp)
  ·exact HA.out h0 ad e h9
 clear aH h hc
 go_wp2_with fail
 go_loopg [36] n (fun j iv wr=>∃ (i:Nat) (F' ai:List Nat),iv=.int .i64 i/\i+j=n/\IsWr wr b F' ai/\Hid (ai=bs++modelBits l W d i)/\ai.length<=bs.length+65*i/\IsMd wr bm d (modelTo l W d i)/\bm∉F'/\Grow (bm::F) (bm::F') w1 wr)
 case atStart=>exact ⟨0,F,bs,rfl,by simp,aC,hid (by simp [modelBits]),by omega,bg,aJ,Grow.refl _ _⟩
 case round =>
  obtain ⟨i,F',ai,rfl,br,a0,Hb,bo,aj,aB,aK⟩:=hrel
  rcases gk with _ | j
  ·obtain rfl:i=n:=by omega
   go_wp2
   go_ret
   refine ⟨rfl,F',?_,Grow.forget aL aK a9⟩
   rw [<-Hb.out]
   exact a0
  ·have aT:i<n:=by omega
   have aG:Cells vi wr A l:=bh.keep bf.out aK.chg
   have aw:modelBits l W d (i+1)=modelBits l W d i++bitsAtM (modelTo l W d i) l W d i:=rfl
   have ax:modelTo l W d (i+1)=nextM (modelTo l W d i) l W d i:=rfl
   have ac:=ba.out i
   have aa:=be.out (i+1)
   rw [aw,zC] at aa
   obtain ⟨m,hm⟩:=zX (modelTo l W d i)
   rw [<-hm] at aj aw ax ac aa
   have a1:=ctxN_lt (nbr l W (i%W) (i / W)) d
   have aO:=HL.out i aT m ac bm wr aj aG
   have aZ:i<l.length:=by rw [<-HN.out];exact aT
   obtain ⟨g,o,rfl,ag⟩:=aG.at_ aZ
   have a6:l[i]=l.getD i 0:=by rw [zD,zF aZ];rfl
   have hx:=HS.out l[i] (zG _)
   rw [a6] at ag hx
   have aD:wr.cell? ⟨g,o+i,none⟩=some (.int .i64 (l.getD i 0)):=ag
   clear ag
   have aV:=guessM_ok (statAt m (ctxAt l W d i)) (guessI 7 (nbr l W (i%W) (i / W)) d) (turnAt l W d i) (d:=d) bb
   have a5:predAt m l W d i=guessM (statAt m (ctxAt l W d i)) (guessI 7 (nbr l W (i%W) (i / W)) d) (turnAt l W d i) d:=rfl
   rw [<-a5] at aV
   have aA:=errOf_range (l.getD i 0) (predAt m l W d i) (turnAt l W d i) h0
   have aF:=errOf_mid (l.getD i 0) (predAt m l W d i) (turnAt l W d i) h0 h1
   have aE:errAt m l W d i=errOf (l.getD i 0) (predAt m l W d i) (turnAt l W d i) d:=rfl
   rw [<-aE] at aA aF
   have aX:bitsAtM m l W d i=rbits (kOf (statAt m (ctxAt l W d i))) (errAt m l W d i):=rfl
   have aM:nextM m l W d i=m.set (ctxAt l W d i) (learnS (statAt m (ctxAt l W d i)) (errAt m l W d i)):=rfl
   rw [aX] at aw aa
   rw [aM] at ax
   have al:ctxAt l W d i<365:=a1
   have bn:=kOf_le (statAt_mem ac al).2
   generalize ctxAt l W d i=cx at *
   generalize predAt m l W d i=pr at *
   generalize turnAt l W d i=tb at *
   generalize errAt m l W d i=er at *
   generalize l.getD i 0=x at *
   have aS:=fun w h=>mk_ok bm d m cx w h ac al
   generalize kOf (statAt m cx)=kk at *
   have ah:=fun w h=>learn_ok bm d m cx er w h ac h0 h1 al aA.1 aA.2
   obtain ⟨bk,a7⟩:=hx
   obtain ⟨bp,aN⟩:=aV
   have bi:x<65536:=Int.lt_of_lt_of_le a7 HP.out
   have bq:pr<65536:=Int.lt_of_lt_of_le aN HP.out
   clear a7 aN
   have aU:=hid ah
   have aW:=hid aS
   have aR:=hid aw
   have aP:=hid ax
   have a2:=hid aE
   have bl:=hid aa
   have bc:=hid hm
   clear ah aS aw ax aE aa hm a5 a1 a6 aX aM ac aG aA
   go_wp2_with fail
   refine aO.mono ?_
   rintro e w2 ⟨rfl,aI⟩
   clear aO
   have ar:=a0.same aI
   have ae:=aj.chg aI (by simp)
   have av:=aK.same aI
   cases tb with
   | false =>
    have az:=fold_ok (x-pr) d w2 h0 h1
    have e1:foldI (x-pr) d=er:=by rw [a2.out];rfl
    rw [e1] at az
    go_wp2_with fail
    refine az.mono ?_
    rintro e w' ⟨rfl,rfl⟩
    go_wp2_with fail
    refine (aW.out _ ae).mono ?_
    rintro e w3 ⟨rfl,n3,rfl⟩
    go_wp2_with fail
    refine (rput1_ok _ b F' ai kk er (ar.same ((zR [] w2).drewN n3)) (by omega) aF (by omega)).mono ?_
    rintro e w4 ⟨rfl,F2,ao,ab⟩
    have aq:bm∉F2:=ab.out ae.lt aB
    have an:=(ae.chg ((zR [] w2).drewN n3) (by simp)).chg ab.chg aB
    have ak:=(av.drewN n3).trans (ab.cons bm)
    go_wp2_with fail
    refine (aU.out _ an).mono ?_
    rintro e w5 ⟨rfl,am,ap⟩
    go_wp2_with fail
    go_roundg j
    case measure=>omega
    case rel =>
     refine ⟨i+1,F2,ai++rbits kk er,by go_num,by omega,ao.chg ap (fun y hy hm=>by rw [zU.1 hm] at hy;exact aq hy),hid (by rw [aR.out,<-zH,<-Hb.out]),?_,?_,aq,?_⟩
     ·rw [zC];have:=rbits_len kk er;have:=rcost_le kk er (by omega);omega
     ·rw [aP.out];exact am
     ·exact ak.trans ⟨ap.mono fun y hy _=>by rw [zU.1 hy];simp,fun y hy => .inl hy⟩
   | true =>
    have az:=fold_ok (x-pr) d w2 h0 h1
    have au:=fold_ok (-foldI (x-pr) d) d w2 h0 h1
    have a3:=foldI_range (x-pr) h0
    have e1:foldI (-foldI (x-pr) d) d=er:=by rw [a2.out];rfl
    rw [e1] at au
    have bj:=errRange16 h1 a3
    generalize foldI (x-pr) d=fo at *
    clear a3
    go_wp2_with fail
    refine az.mono ?_
    rintro e w' ⟨rfl,rfl⟩
    go_wp2_with fail
    refine au.mono ?_
    rintro e w' ⟨rfl,rfl⟩
    go_wp2_with fail
    refine (aW.out _ ae).mono ?_
    rintro e w3 ⟨rfl,n3,rfl⟩
    go_wp2_with fail
    refine (rput1_ok _ b F' ai kk er (ar.same ((zR [] w2).drewN n3)) (by omega) aF (by omega)).mono ?_
    rintro e w4 ⟨rfl,F2,ao,ab⟩
    have aq:bm∉F2:=ab.out ae.lt aB
    have an:=(ae.chg ((zR [] w2).drewN n3) (by simp)).chg ab.chg aB
    have ak:=(av.drewN n3).trans (ab.cons bm)
    go_wp2_with fail
    refine (aU.out _ an).mono ?_
    rintro e w5 ⟨rfl,am,ap⟩
    go_wp2_with fail
    go_roundg j
    case measure=>omega
    case rel =>
     refine ⟨i+1,F2,ai++rbits kk er,by go_num,by omega,ao.chg ap (fun y hy hm=>by rw [zU.1 hm] at hy;exact aq hy),hid (by rw [aR.out,<-zH,<-Hb.out]),?_,?_,aq,?_⟩
     ·rw [zC];have:=rbits_len kk er;have:=rcost_le kk er (by omega);omega
     ·rw [aP.out];exact am
     ·exact ak.trans ⟨ap.mono fun y hy _=>by rw [zU.1 hy];simp,fun y hy => .inl hy⟩
theorem bitAt_zeros {ds:List Nat} {p n:Nat} {bs:List Nat} (h:Ahead ds p (List.replicate n 0++1::bs)):(∀ i,i<n->bitAt ds (p+i)=0)/\bitAt ds (p+n)=1 :=
 ⟨fun i hi=>h.get (by rw [List.getElem?_append_left (by simpa using hi)];simp [hi]),h.get (by rw [zS (by simp)];simp)⟩
theorem ahead_one {ds:List Nat} {p n:Nat} {bs:List Nat} (h:Ahead ds p (List.replicate n 0++1::bs)):Ahead ds (p+n+1) bs:=by
 have h1:Ahead ds p ((List.replicate n 0++[1])++bs):=by simpa using h
 have:=h1.right
 rw [zC,zV,List.length_singleton,<-Nat.add_assoc] at this
 exact this
theorem rone_ok (w:World) (b:Nat) (F ds:List Nat) (p k:Nat) (x:Int) (h:IsRd w b F ds p) (hk:k<=25) (hx:wideP x) (ha:Ahead ds p (rbits k x)) :
  Calls Tryz.prog 261 #[.pointer (some ⟨b,0,none⟩),.int .i64 k] w fun e w'=>e=.returned (.tuple #[.int .i64 x,.int .i64 0])/\IsRd w' b F ds (p+(rbits k x).length)/\Chg [b] w w':=by
 have hu:=rfold_lt hx
 have al:=unfoldI_rfold x
 have aw:=h.at_le
 obtain ⟨u,ar⟩:=zX (rfold x)
 have ab:rbits k x=if u / 2^k<32 then List.replicate (u / 2^k) 0++1::bitsOf (u%2^k) k else List.replicate 32 0++1::bitsOf u 32:=by unfold rbits;rw [<-ar]
 rw [<-ar] at hu al
 have ah:=Nat.div_add_mod u (2^k)
 have ac:=Nat.mod_lt u (Nat.two_pow_pos k)
 have aj:2^k<=33554432:=Nat.pow_le_pow_right (n:=2) (j:=25) (by decide) hk
 obtain ⟨q,ao⟩:=zX (u / 2^k)
 obtain ⟨r,am⟩:=zX (u%2^k)
 have e1:(u:Int) / 2^k=(q:Int):=by rw [ao];simp
 rw [<-ao] at ah ab
 rw [<-am] at ah ac ab
 have ax:(q:Int)*2^k=(u:Int)-r:=by
  have:((2^k*q+r:Nat):Int)=(u:Int):=by rw [ah]
  rw [Int.natCast_add,Int.natCast_mul,Int.natCast_pow] at this
  rw [Int.mul_comm]
  simp at this
  omega
 have ay:r<=u:=by rw [am];exact Nat.mod_le _ _
 have aq:=hid ac
 have av:=hid al
 clear ah ao am ar ac aj al
 by_cases hs:q<32
 ·rw [if_pos hs] at ab
  rw [ab] at ha ⊢
  obtain ⟨hz,h1⟩:=bitAt_zeros ha
  have af:=ahead_one ha
  have hl:=ha.le aw
  simp only [zC,zV,zK,bitsOf_len] at hl
  have aa:(List.replicate q 0++1::bitsOf r k).length=q+1+k:=by simp [bitsOf_len];omega
  rw [aa]
  have t1:decide ((q:Int)<32)=true:=by simp;omega
  have ai:=hid hz
  have ap:=hid h1
  have an:=hid af
  clear hz h1 af ha ab aa
  go_enter Tryz.func261,Tryz.ntmps261
  go_wp2_with fail
  refine (runary_ok w b F ds p q 32 h (by omega) (by omega) ai.out ap.out (by omega)).mono ?_
  rintro e w1 ⟨rfl,ad,au⟩
  go_wp2_with (go_at_call 69;refine (err_ok _ b F ds _ ad).mono ?_;rintro e w' ⟨rfl,rfl⟩)
  refine (rget_ahead _ b F ds (p+q+1) k r ad (by omega) aq.out an.out).mono ?_
  rintro e w2 ⟨rfl,ag,ak⟩
  go_wp2_with fail
  have ae:=unfold_ok u w2 hu
  rw [av.out] at ae
  refine ae.mono ?_
  rintro e w3 ⟨rfl,rfl⟩
  go_wp2_with (go_at_call 69;refine (err_ok _ b F ds _ ag).mono ?_;rintro e w' ⟨rfl,rfl⟩)
  go_ret2
  exact ⟨rfl,by rw [show p+(q+1+k)=p+q+1+k by omega];exact ag,au.trans_same ak⟩
 ·rw [if_neg hs] at ab
  rw [ab] at ha ⊢
  obtain ⟨hz,h1⟩:=bitAt_zeros ha
  have af:=ahead_one ha
  have hl:=ha.le aw
  simp only [zC,zV,zK,bitsOf_len] at hl
  have aa:(List.replicate 32 0++1::bitsOf u 32).length=32+1+32:=by simp [bitsOf_len]
  rw [aa]
  have t1:decide ((2147483648:Int)<=(u:Int))=false:=by simp;omega
  have t2:decide ((q:Int)<32)=false:=by simp;omega
  have ai:=hid hz
  have ap:=hid h1
  have an:=hid af
  clear hz h1 af ha ab aa ax
  go_enter Tryz.func261,Tryz.ntmps261
  go_wp2_with fail
  refine (runary_ok w b F ds p 32 32 h (by omega) (by omega) ai.out ap.out (by omega)).mono ?_
  rintro e w1 ⟨rfl,ad,au⟩
  go_wp2_with (go_at_call 69;refine (err_ok _ b F ds _ ad).mono ?_;rintro e w' ⟨rfl,rfl⟩)
  refine (rget_ahead _ b F ds (p+32+1) 32 u ad (by omega) (by omega) an.out).mono ?_
  rintro e w2 ⟨rfl,ag,ak⟩
  have ae:=unfold_ok u w2 hu
  rw [av.out] at ae
  go_wp2_with (first | (go_at_call 69;refine (err_ok _ b F ds _ ag).mono ?_;rintro e w' ⟨rfl,rfl⟩) | (go_at_call 160;refine ae.mono ?_;rintro e w' ⟨rfl,rfl⟩))
  go_ret2
  exact ⟨rfl,ag,au.trans_same ak⟩
theorem rbitsAll_cons (k:Nat) (x:Int) (l:List Int):rbitsAll k (x::l)=rbits k x++rbitsAll k l:=by simp [rbitsAll]
theorem rbitsAll_split (k:Nat) (l:List Int) {m:Nat} (hm:m<l.length):rbitsAll k (l.drop m)=rbits k l[m]++rbitsAll k (l.drop (m+1)):=by
 rw [List.drop_eq_getElem_cons hm,rbitsAll_cons]
theorem Ahead.cast {ds:List Nat} {p q:Nat} {bs:List Nat} (h:Ahead ds p bs) (e:p=q):Ahead ds q bs:=e ▸ h
theorem IsRd.cast {w:World} {b:Nat} {F ds:List Nat} {p q:Nat} (h:IsRd w b F ds p) (e:p=q):IsRd w b F ds q:=e ▸ h
theorem rgets_ok (w:World) (b:Nat) (F ds:List Nat) (p k:Nat) (l:List Int) (h:IsRd w b F ds p) (hk:k<=25) (hw:∀ x∈l,wideP x) (hl:l.length<=4194304) (ha:Ahead ds p (rbitsAll k l)) :
  Calls Tryz.prog 227 #[.pointer (some ⟨b,0,none⟩),.int .i64 k,.int .i64 l.length] w fun e w'=>∃ v G,e=.returned (.tuple #[v,.int .i64 0])/\Own w' 3 v G (l.map vi)/\IsRd w' b F ds (p+(rbitsAll k l).length)/\Chg [b] w w'/\∀ x∈G,w.heap.size<=x:=by
 have HW:=hid hw
 have HA:=hid ha
 clear hw ha
 have aB:=h.lt b h.mem
 obtain ⟨n,hn⟩:=zX (l.length)
 rw [<-hn] at hl ⊢
 have HN:=hid hn
 clear hn
 have t1:decide ((n:Int)<0)=false:=by simp
 have t2:decide ((4194304:Int)<(n:Int))=false:=by simp;omega
 go_enter Tryz.func227,Tryz.ntmps227
 go_wp2_with (first | (go_at_call 206;refine (param_yes _ _ hk).mono ?_;rintro e w' ⟨rfl,rfl⟩) | (go_at_call 69;refine (err_ok _ b F ds _ h).mono ?_;rintro e w' ⟨rfl,rfl⟩))
 go_loopg [8,28] n (fun j v i wr=>∃ G p' out,j<=n/\i=.int .i64 ((n-j:Nat):Int)/\Own wr 3 v G (out.map vi)/\Hid (out=l.take (n-j))/\IsRd wr b F ds p'/\Hid (Ahead ds p' (rbitsAll k (l.drop (n-j))))/\Hid (p'+(rbitsAll k (l.drop (n-j))).length=p+(rbitsAll k l).length)/\Chg [b] w wr/\∀ x∈G,w.heap.size<=x)
 case atStart=>exact ⟨[],p,[],zQ _,by simp,Own.nil _ _,hid (by simp),h,by simpa using HA,hid (by simp),zR _ _,by simp⟩
 case round =>
  obtain ⟨G,p',out,hj,rfl,ho,Ho,aj,Ha,Hp,ad,hG⟩:=hrel
  obtain ⟨A,aA,rfl,aC,az,-⟩:=ho.open_map
  have HG:=hid hG
  clear hG
  rcases gk with _ | j
  ·have t4:decide (((n-0:Nat):Int)<(n:Int))=false:=by simp
   go_wp2
   go_ret2
   have e:l.take (n-0)=l:=by rw [HN.out,Nat.sub_zero,zN]
   have e2:l.drop (n-0)=[]:=by rw [HN.out,Nat.sub_zero,List.drop_length]
   rw [Ho.out,e] at ho
   have hp:=Hp.out
   rw [e2] at hp
   refine ⟨_,G,rfl,?_,aj.cast (by simpa [rbitsAll] using hp),ad,HG.out⟩
   rw [Ho.out,e]
   exact ho
  ·obtain ⟨m,ak⟩:=zX (n-(j+1))
   rw [<-ak] at Ha Hp Ho ⊢
   have ax:m<n:=by omega
   have am:n-j=m+1:=by omega
   have HM:=hid am
   clear ak am
   have ag:m<l.length:=by rw [<-HN.out];exact ax
   have ac:=rbitsAll_split k l ag
   have ae:=take_snoc' l ag
   have al:wideP l[m]:=HW.out _ (zG _)
   obtain ⟨x,hx⟩:=zX (l[m])
   rw [<-hx] at ac al ae
   have ab:=Ha.out
   rw [ac] at ab
   have aa:=rone_ok wr b F ds p' k x aj hk al ab.left
   have aq:=hid ab.right
   have aD:out.length<=4194304:=by rw [Ho.out,zI];omega
   have av:=hid ae
   have ay:=hid ac
   clear ac ae hx ab ag
   go_wp2_with fail
   refine aa.mono ?_
   rintro e w1 ⟨rfl,an,ah⟩
   have af:∀ y∈G,y∉[b]:=fun y hy=>by have:=HG.out y hy;simp;omega
   have au:=ho.chg ah af
   have HB:=hid af
   clear aa af
   go_wp2_with (at_builtin;refine wpList_append_o1 rfl rfl int_elem rfl rfl (au.alloc _) (.int .i64 x) rfl ?c1 ?c2 ?c3 ?c4 ?_)
   case c1=>simp [go_sem]
   case c2=>rfl
   case c3=>rw [zE];omega
   case c4=>rw [zE];omega
   intro g2 ar w2 aw ai
   go_wp2_with fail
   go_roundg j
   case measure=>omega
   case rel =>
    rw [HM.out]
    have ap:Chg [b] w w2:=(ad.trans_same (ah.alloc _)).trans ai.chg fun x hx => .inr (HG.out x hx)
    have ao:∀ y∈F,y∉G:=fun y hy hyG=>by have:=HG.out y hyG;have:=h.lt y hy;omega
    refine ⟨[g2],_,out++[x],by omega,by go_num,?_,?_,(an.same ((zR [] w1).alloc _)).chg ai.chg ao,aq,?_,ap,?_⟩
    ·have:=aw.toOwn
     simpa [vi] using this
    ·exact hid (by rw [Ho.out,av.out])
    ·refine hid ?_
     rw [<-Hp.out,ay.out,zC]
     omega
    ·intro y hy
     simp at hy
     subst hy
     rcases ai.new y (by simp) with h1 | h1
     ·exact HG.out y h1
     ·have:=ad.size
      have:=ah.size
      simp at h1
      omega
theorem low_ok (m:Nat) (w:World) (hm:m<=30):Calls Tryz.prog 273 #[.int .i64 ((m:Int)+1)] w fun e w'=>e=.returned (.int .i64 (-2^m))/\w=w':=by
 have t1:decide ((m:Int)+1<1)=false:=by simp;omega
 have t2:decide ((31:Int)<(m:Int)+1)=false:=by simp;omega
 have hp:(2:Int)^m<=1073741824:=pow_half_mono (n:=30) hm
 have aa:=two_pow_pos' m
 go_enter Tryz.func273,Tryz.ntmps273
 go_wp2
 go_ret
 refine ⟨?_,rfl⟩
 first | rfl | (go_num)
theorem high_ok (m:Nat) (w:World) (hm:m<=30):Calls Tryz.prog 274 #[.int .i64 ((m:Int)+1)] w fun e w'=>e=.returned (.int .i64 (2^m-1))/\w=w':=by
 have t1:decide ((m:Int)+1<1)=false:=by simp;omega
 have t2:decide ((31:Int)<(m:Int)+1)=false:=by simp;omega
 have hp:(2:Int)^m<=1073741824:=pow_half_mono (n:=30) hm
 have aa:=two_pow_pos' m
 go_enter Tryz.func274,Tryz.ntmps274
 go_wp2
 go_ret
 refine ⟨?_,rfl⟩
 first | rfl | (go_num)
theorem fits_ok (x:Int) (n:Nat) (w:World) (hn:n<=31) (hx0 : -4611686018427387904<=x) (hx1:x<=4611686018427387904):Calls Tryz.prog 251 #[.int .i64 x,.int .i64 n] w fun e w'=>e=.returned (.bool (fitsB x n))/\w=w':=by
 rcases n with _ | m
 ·have hf:fitsB x 0=false:=by simp [fitsB]
  rw [hf]
  go_enter Tryz.func251,Tryz.ntmps251
  go_wp2
  go_ret
  exact ⟨rfl,rfl⟩
 ·have hm:m<=30:=by omega
  have aa:((m+1:Nat):Int)=(m:Int)+1:=by omega
  rw [aa]
  have t1:decide ((1:Int)<=(m:Int)+1)=true:=by simp;omega
  have t2:decide ((m:Int)+1<=31)=true:=by simp;omega
  have hp:(2:Int)^m<=1073741824:=pow_half_mono (n:=30) hm
  have ab:=two_pow_pos' m
  have hf:fitsB x (m+1)=(decide (-2^m<=x)&&decide (x<=2^m-1)):=by
   unfold fitsB
   simp [hn]
  rw [hf]
  clear hf
  by_cases h1 : -2^m<=x
  ·have t3:decide ((-2^m:Int)<=x)=true:=by simpa using h1
   by_cases h2:x<=2^m-1
   ·have t4:decide (x<=(2^m-1:Int))=true:=by simpa using h2
    rw [t3,t4]
    go_enter Tryz.func251,Tryz.ntmps251
    go_wp2_with (first | (go_at_call 273;refine (low_ok m _ hm).mono ?_;rintro e w' ⟨rfl,rfl⟩) | (go_at_call 274;refine (high_ok m _ hm).mono ?_;rintro e w' ⟨rfl,rfl⟩))
    go_ret
    exact ⟨rfl,rfl⟩
   ·have t4:decide (x<=(2^m-1:Int))=false:=by simpa using h2
    rw [t3,t4]
    go_enter Tryz.func251,Tryz.ntmps251
    go_wp2_with (first | (go_at_call 273;refine (low_ok m _ hm).mono ?_;rintro e w' ⟨rfl,rfl⟩) | (go_at_call 274;refine (high_ok m _ hm).mono ?_;rintro e w' ⟨rfl,rfl⟩))
    go_ret
    exact ⟨rfl,rfl⟩
  ·have t3:decide ((-2^m:Int)<=x)=false:=by simpa using h1
   rw [t3]
   go_enter Tryz.func251,Tryz.ntmps251
   go_wp2_with (first | (go_at_call 273;refine (low_ok m _ hm).mono ?_;rintro e w' ⟨rfl,rfl⟩) | (go_at_call 274;refine (high_ok m _ hm).mono ?_;rintro e w' ⟨rfl,rfl⟩))
   go_ret
   exact ⟨rfl,rfl⟩
theorem width_ok (l:List Int) (A:Option Addr) (cap:Nat) (w:World) (hw:∀ x∈l,wideP x) (hc:Cells vi w A l) (hl:l.length<=1099511627776) :
  Calls Tryz.prog 202 #[.slice A l.length cap] w fun e w'=>e=.returned (.int .i64 (widthL l))/\w=w':=by
 have HW:=hid hw
 clear hw
 obtain ⟨n,hn⟩:=zX (l.length)
 rw [<-hn] at hl ⊢
 have HN:=hid hn
 clear hn
 go_enter Tryz.func202,Tryz.ntmps202
 go_wp2_with fail
 go_loopg [3,8] n (fun j s i wr=>j<=n/\i=.int .i64 ((n-j:Nat):Int)/\s=.int .i64 ((widthL (l.take (n-j)):Nat):Int)/\w=wr)
 case atStart=>exact ⟨zQ _,by simp,by simp [widthL],rfl⟩
 case round =>
  obtain ⟨hj,rfl,rfl,rfl⟩:=hrel
  rcases gk with _ | j
  ·have t4:decide (((n-0:Nat):Int)<(n:Int))=false:=by simp
   have e:l.take n=l:=by rw [HN.out,zN]
   rw [Nat.sub_zero,e]
   go_wp2
   go_ret
   exact ⟨rfl,rfl⟩
  ·obtain ⟨m,am⟩:=zX (n-(j+1))
   rw [<-am]
   have aq:m<n:=by omega
   have an:n-j=m+1:=by omega
   have HM:=hid an
   clear am an
   have al:m<l.length:=by rw [<-HN.out];exact aq
   obtain ⟨b,o,rfl,aa⟩:=hc.at_ al
   have af:=widthL_snoc (l.take m) l[m]
   rw [<-take_snoc' l al] at af
   have ag:=widthL_le (l:=l.take m) (fun x hx=>HW.out x (List.mem_of_mem_take hx))
   obtain ⟨x,hx⟩:=zX (l[m])
   rw [<-hx] at aa af
   have aj:w.cell? ⟨b,o+m,none⟩=some (.int .i64 x):=aa
   have ai:wideP x:=by rw [hx];exact HW.out _ (zG _)
   have ap:=ai
   obtain ⟨au,aw⟩:=ap
   obtain ⟨s,hs⟩:=zX (widthL (l.take m))
   rw [<-hs] at af ag ⊢
   have HS:=hid af
   have ad:=need_le ai 32 s ag
   clear af aa hx hs al
   go_wp2_with fail
   go_loopg [3] (32-s) (fun f v wr=>∃ v':Nat,v=.int .i64 v'/\v'+f=32/\Hid (needFrom x 32 s=needFrom x f v')/\v'<=31/\w=wr)
   case atStart=>exact ⟨s,rfl,by omega,hid (by
    have:∀ d,d+(32-s)=32->needFrom x 32 s=needFrom x (32-s) s:=by
     intro d _
     have ao:∀ f g w',w'<=31->32<=w'+f->32<=w'+g->needFrom x f w'=needFrom x g w':=by
      intro f
      induction f with
      | zero=>intro g w' h1 h2 h3;omega
      | succ f ih =>
       intro g w' h1 h2 h3
       rcases g with _ | g
       ·omega
       ·unfold needFrom
        split
        ·rename_i hcc
         have:w'≠31:=fun e=>by rw [e,fits_wide ai] at hcc;simp at hcc
         exact ih g (w'+1) (by omega) (by omega) (by omega)
        ·rfl
     exact ao 32 (32-s) s ag (by omega) (by omega)
    exact this s (by omega)),ag,rfl⟩
   case round =>
    obtain ⟨v,rfl,av,Hn,ak,rfl⟩:=hrel
    have ah:=fits_ok x v w ak (by omega) (by omega)
    by_cases hx00:x=0
    ·have ab:=need_stop (x:=x) (w:=v) (f:=gk) (.inl hx00)
     rw [<-Hn.out,<-HS.out] at ab
     have ae:=hid ab
     clear ab Hn ad HS
     have t5:(x != 0)=false:=by simp [hx00]
     clear hx00
     go_wp2
     go_roundg j
     case measure=>omega
     case rel=>rw [HM.out,ae.out];exact ⟨by omega,by go_num,rfl,rfl⟩
    ·have t5:(x != 0)=true:=by simp [hx00]
     have t6:decide ((v:Int)<32)=true:=by simp;omega
     have ac:x≠0:=hx00
     have HX:=hid ac
     clear hx00 ac
     cases hfb:fitsB x v with
     | true =>
      rw [hfb] at ah
      have ab:=need_stop (x:=x) (w:=v) (f:=gk) (.inr hfb)
      rw [<-Hn.out,<-HS.out] at ab
      have ae:=hid ab
      clear ab Hn hfb ad HS
      go_wp2_with (go_at_call 251;refine ah.mono ?_;rintro e w' ⟨rfl,rfl⟩)
      go_roundg j
      case measure=>omega
      case rel=>rw [HM.out,ae.out];exact ⟨by omega,by go_num,rfl,rfl⟩
     | false =>
      rw [hfb] at ah
      have ar:v≠31:=fun e=>by rw [e,fits_wide ai] at hfb;cases hfb
      obtain ⟨g,rfl⟩:∃ g,gk=g+1:=⟨gk-1,by omega⟩
      have ab:=need_step HX.out (by omega) hfb g
      rw [<-Hn.out] at ab
      have ae:=hid ab
      clear ab Hn hfb
      go_wp2_with (go_at_call 251;refine ah.mono ?_;rintro e w' ⟨rfl,rfl⟩)
      go_roundg g
      case measure=>omega
      case rel=>exact ⟨v+1,by go_num,by omega,ae,by omega,rfl⟩
theorem prow_yes (n warm:Nat) (w:World) (h1:1<=n) (h2:n<=4096) (h3:warm<=n):Calls Tryz.prog 248 #[.int .i64 n,.int .i64 warm] w fun e w'=>e=.returned (.bool true)/\w=w':=by
 have t1:decide ((1:Int)<=(n:Int))=true:=by simp;omega
 have t2:decide ((n:Int)<=4096)=true:=by simp;omega
 have t3:decide ((0:Int)<=(warm:Int))=true:=by simp
 have t4:decide (warm<=n)=true:=by simp;omega
 go_enter Tryz.func248,Tryz.ntmps248
 go_wp2
 go_ret
 exact ⟨rfl,rfl⟩
theorem Own.one (w:World) (e:TypeId) (u:Value):Own (w.alloc (.cells #[u] e)) e (.slice (some ⟨w.heap.size,0,none⟩) 1 1) [w.heap.size] [u]:=by
 have:=(Row.made w e [u] (by simp [maxLen])).toOwn
 simpa using this
theorem sizes_ok (o n warm:Nat) (w:World) (ho:o<=8) (h1:1<=n) (h2:n<=4096) (h3:warm<=n) :
  Calls Tryz.prog 199 #[.int .i64 o,.int .i64 n,.int .i64 warm] w fun e w'=>∃ v G,e=.returned v/\Own w' 3 v G ((sizesL o n warm).map i64)/\Chg [] w w'/\∀ x∈G,w.heap.size<=x:=by
 have t1:decide ((o:Int)<0)=false:=by simp
 have t2:decide ((8:Int)<(o:Int))=false:=by simp;omega
 have am:2^o<=256:=Nat.pow_le_pow_right (n:=2) (j:=8) (by decide) ho
 have ai:=Nat.two_pow_pos o
 obtain ⟨P,hP⟩:=zX (2^o)
 obtain ⟨s,hs⟩:=zX (n / 2^o)
 have ar:(2:Int)^o=(P:Int):=by rw [hP];simp
 have av:s<=n:=by rw [hs];exact Nat.div_le_self _ _
 have an:s*P<=n:=by rw [hs,hP];exact Nat.div_mul_le_self _ _
 have ab:sizesL o n warm=if s*P=n/\warm<=s then (s-warm)::List.replicate (P-1) s else []:=by unfold sizesL;rw [<-hs,<-hP]
 have e1:(n:Int) / (P:Int)=(s:Int):=by rw [hs,hP];simp
 rw [<-hP] at ai am
 have HD:=hid ab
 clear ab hs
 have HP:=hid hP
 clear hP
 by_cases c1:s*P=n
 ·have t3:(((s:Int)*(P:Int)) != (n:Int))=false:=by
   rw [bne_eq_false_iff_eq]
   exact_mod_cast c1
  by_cases c2:warm<=s
  ·have t4:decide (s<warm)=false:=by simp;omega
   rw [if_pos ⟨c1,c2⟩] at HD
   have ah:((s:Int)-(warm:Int))=((s-warm:Nat):Int):=by omega
   have af:=hid c1
   clear c1
   go_enter Tryz.func199,Tryz.ntmps199
   go_wp2_with (go_at_call 248;refine (prow_yes n warm _ h1 h2 h3).mono ?_;rintro e w' ⟨rfl,rfl⟩)
   go_loopg [8] (P-1) (fun j v wr=>∃ G out,Own wr 3 v G (out.map i64)/\Hid (out=(s-warm)::List.replicate (P-1-j) s)/\out.length+j=P/\Chg [] w wr/\∀ x∈G,w.heap.size<=x)
   case atStart=>exact ⟨[w.heap.size],[s-warm],by simpa [i64] using Own.one w 3 (.int .i64 ((s-warm:Nat):Int)),hid (by simp),by simp;omega,(zR _ _).alloc _,by simp⟩
   case round =>
    obtain ⟨G,out,aa,Ho,ac,ad,hG⟩:=hrel
    obtain ⟨A,ap,rfl,au,ao,-⟩:=aa.open_map
    have HG:=hid hG
    clear hG
    rcases gk with _ | j
    ·have t5:decide (out.length<P)=false:=by simp;omega
     have ae:=hid ac
     clear ac
     go_wp2
     go_ret
     refine ⟨_,G,rfl,?_,ad,HG.out⟩
     rw [HD.out]
     have ho:=Ho.out
     rw [Nat.sub_zero] at ho
     rw [<-ho]
     exact aa
    ·have t5:decide (out.length<P)=true:=by simp;omega
     have ae:=hid ac
     have aj:out.length<=256:=by omega
     clear ac
     go_wp2_with (at_builtin;refine wpList_append_o1 rfl rfl int_elem rfl rfl (aa.alloc _) (.int .i64 s) rfl ?c1 ?c2 ?c3 ?c4 ?_)
     case c1=>simp [go_sem]
     case c2=>rfl
     case c3=>rw [zE];omega
     case c4=>rw [zE];omega
     intro g2 ak w2 al ag
     go_wp2_with fail
     go_roundg j
     case measure=>omega
     case rel =>
      have ac:=ae.out
      refine ⟨[g2],out++[s],?_,hid ?_,by rw [zC,List.length_singleton];omega,(ad.alloc _).trans ag.chg fun x hx => .inr (HG.out x hx),?_⟩
      ·have:=al.toOwn
       simpa [i64] using this
      ·have aq:1<=out.length:=by rw [Ho.out];simp
       rw [Ho.out]
       have e:P-1-j=P-1-(j+1)+1:=by omega
       rw [e,List.replicate_succ',List.cons_append]
      ·intro y hy
       simp at hy
       subst hy
       rcases ag.new y (by simp) with h5 | h5
       ·exact HG.out y h5
       ·have:=ad.size
        simp at h5
        omega
  ·have t4:decide (s<warm)=true:=by simp;omega
   rw [if_neg (fun h=>c2 h.2)] at HD
   have af:=hid c1
   clear c1
   go_enter Tryz.func199,Tryz.ntmps199
   go_wp2_with (go_at_call 248;refine (prow_yes n warm _ h1 h2 h3).mono ?_;rintro e w' ⟨rfl,rfl⟩)
   go_ret
   refine ⟨_,[],rfl,?_,zR _ _,by simp⟩
   rw [HD.out]
   exact Own.nil _ _
 ·have t3:(((s:Int)*(P:Int)) != (n:Int))=true:=by
   rw [bne_iff_ne]
   intro h
   exact c1 (by exact_mod_cast h)
  rw [if_neg (fun h=>c1 h.1)] at HD
  have af:=hid c1
  clear c1
  go_enter Tryz.func199,Tryz.ntmps199
  go_wp2_with (go_at_call 248;refine (prow_yes n warm _ h1 h2 h3).mono ?_;rintro e w' ⟨rfl,rfl⟩)
  go_ret
  refine ⟨_,[],rfl,?_,zR _ _,by simp⟩
  rw [HD.out]
  exact Own.nil _ _
theorem right_yes (n warm:Nat) (l:List Int) (A:Option Addr) (cap:Nat) (w:World) (h1:1<=n) (h2:n<=4096) (h3:warm<=n) (hl:l.length=n-warm) (hw:∀ x∈l,wideP x) (hc:Cells vi w A l) :
  Calls Tryz.prog 198 #[.int .i64 n,.int .i64 warm,.slice A l.length cap] w fun e w'=>e=.returned (.bool true)/\w=w':=by
 have HW:=hid hw
 clear hw
 obtain ⟨m,hm⟩:=zX (l.length)
 rw [<-hm] at hl ⊢
 have ah:((n:Int)-(warm:Int))=(m:Int):=by omega
 have t1:((m:Int) != (m:Int))=false:=by simp
 have HN:=hid hm
 have HL:=hid hl
 have ak:m<=4096:=by omega
 clear hm hl
 go_enter Tryz.func198,Tryz.ntmps198
 go_wp2_with (go_at_call 248;refine (prow_yes n warm _ h1 h2 h3).mono ?_;rintro e w' ⟨rfl,rfl⟩)
 go_loopg [23] m (fun j i wr=>j<=m/\i=.int .i64 ((m-j:Nat):Int)/\w=wr)
 case atStart=>exact ⟨zQ _,by simp,rfl⟩
 case round =>
  obtain ⟨hj,rfl,rfl⟩:=hrel
  rcases gk with _ | j
  ·have t4:decide (((m-0:Nat):Int)<(m:Int))=false:=by simp
   go_wp2
   go_ret
   exact ⟨rfl,rfl⟩
  ·obtain ⟨i,ac⟩:=zX (m-(j+1))
   rw [<-ac]
   have ag:i<m:=by omega
   have af:m-j=i+1:=by omega
   have HI:=hid af
   clear ac af
   have ae:i<l.length:=by rw [<-HN.out];exact ag
   obtain ⟨g,o,rfl,aa⟩:=hc.at_ ae
   have ad:wideP l[i]:=HW.out _ (zG _)
   obtain ⟨x,hx⟩:=zX (l[i])
   rw [<-hx] at aa ad
   have ab:w.cell? ⟨g,o+i,none⟩=some (.int .i64 x):=aa
   obtain ⟨aj,ai⟩:=ad
   have t5:decide (x < -1073741824)=false:=zA (by omega)
   have t6:decide ((1073741824:Int)<=x)=false:=zA (by omega)
   clear aa hx ae
   go_wp2
   go_roundg j
   case measure=>omega
   case rel =>
    rw [HI.out]
    exact ⟨by omega,by go_num,rfl⟩
theorem raw_ok' (l:List Int) (A:Option Addr) (cap:Nat) (w:World) (hw:∀ x∈l,wideP x) (hc:Cells vi w A l) (hl:l.length<=4194304) :
  Calls Tryz.prog 249 #[.slice A l.length cap] w fun e w'=>e=.returned (.int .i64 (rawCost l))/\w=w':=by
 have ab:=width_ok l A cap w hw hc (by omega)
 have ac:=widthL_le hw
 obtain ⟨s,hs⟩:=zX (widthL l)
 have aa:rawCost l=5+s*l.length:=by unfold rawCost;rw [<-hs]
 rw [<-hs] at ab ac
 have HD:=hid aa
 have hb:s*l.length<=31*4194304:=zL ac hl
 obtain ⟨n,hn⟩:=zX (l.length)
 rw [<-hn] at ab hb HD ⊢
 have ae:(s:Int)*(n:Int)<=130023424:=by
  have:((s*n:Nat):Int)<=130023424:=by omega
  rwa [Int.natCast_mul] at this
 have ad:(0:Int)<=(s:Int)*(n:Int):=Int.mul_nonneg (by omega) (by omega)
 clear aa hs hw hc hn hb
 go_enter Tryz.func249,Tryz.ntmps249
 go_wp2_with (go_at_call 202;refine ab.mono ?_;rintro e w' ⟨rfl,rfl⟩)
 go_ret
 rw [HD.out]
 refine ⟨?_,rfl⟩
 first | rfl | (go_num)
theorem choose_ok (l:List Int) (A:Option Addr) (cap:Nat) (w:World) (hw:∀ x∈l,wideP x) (hc:Cells vi w A l) (hl:l.length<=4194304) :
  Calls Tryz.prog 200 #[.slice A l.length cap] w fun e w'=>e=.returned (.int .i64 (chooseK l))/\w=w':=by
 have h1:=rbest_ok l A cap w hw hc (by omega)
 have h2:=raw_ok' l A cap w hw hc hl
 have h3:=rsum_ok (rbest l) l A cap w (rbest_le l) hw hc (by omega)
 have aa:chooseK l=if rawCost l<rsum (rbest l) l then 31 else rbest l:=rfl
 obtain ⟨s,hs⟩:=zX (rawCost l)
 obtain ⟨b,hb⟩:=zX (rbest l)
 rw [<-hs,<-hb] at aa
 rw [<-hs] at h2
 rw [<-hb] at h1 h3
 obtain ⟨t,ht⟩:=zX (rsum b l)
 rw [<-ht] at aa h3
 have HD:=hid aa
 clear aa hs hb ht hw hc
 by_cases hlt:s<t
 ·have t5:decide (s<t)=true:=by simpa using hlt
  rw [if_pos hlt] at HD
  go_enter Tryz.func200,Tryz.ntmps200
  go_wp2_with (first | (go_at_call 162;refine h1.mono ?_;rintro e w' ⟨rfl,rfl⟩) | (go_at_call 249;refine h2.mono ?_;rintro e w' ⟨rfl,rfl⟩) | (go_at_call 212;refine h3.mono ?_;rintro e w' ⟨rfl,rfl⟩))
  go_ret
  rw [HD.out]
  exact ⟨rfl,rfl⟩
 ·have t5:decide (s<t)=false:=by simpa using hlt
  rw [if_neg hlt] at HD
  go_enter Tryz.func200,Tryz.ntmps200
  go_wp2_with (first | (go_at_call 162;refine h1.mono ?_;rintro e w' ⟨rfl,rfl⟩) | (go_at_call 249;refine h2.mono ?_;rintro e w' ⟨rfl,rfl⟩) | (go_at_call 212;refine h3.mono ?_;rintro e w' ⟨rfl,rfl⟩))
  go_ret
  rw [HD.out]
  exact ⟨rfl,rfl⟩
theorem Cells.i64_at {w:World} {A:Option Addr} {l:List Nat} (h:Cells i64 w A l) {m:Nat} (hm:m<l.length) :
  ∃ b o,A=some ⟨b,o,none⟩/\w.cell? ⟨b,o+m,none⟩=some (.int .i64 (l[m]:Nat)):=h.at_ hm
def KsOk (ks:List Nat):Prop:=∀ k∈ks,k<=25\/k=31
theorem pmay_yes (o n warm:Nat) (ks:List Nat) (A:Option Addr) (cap:Nat) (w:World) (ho:o<=8) (h1:1<=n) (h2:n<=4096) (h3:warm<=n) (hne:sizesL o n warm≠[]) (hlen:ks.length=(sizesL o n warm).length) (hks:KsOk ks) (hc:Cells i64 w A ks) :
  Calls Tryz.prog 250 #[.agg #[.int .i64 o,.slice A ks.length cap],.int .i64 n,.int .i64 warm] w fun e w'=>e=.returned (.bool true)/\Chg [] w w':=by
 have ak:=sizesL_len hne
 have ar:2^o<=256:=Nat.pow_le_pow_right (n:=2) (j:=8) (by decide) ho
 have am:=Nat.two_pow_pos o
 obtain ⟨N,hN⟩:=zX (ks.length)
 have ag:N=(sizesL o n warm).length:=by rw [hN,hlen]
 have az:1<=N:=by omega
 have ay:N<=256:=by omega
 rw [<-hN]
 have au:=hid hks
 have HN:=hid hN
 have al:=hid ag
 clear ak ar am hN ag hlen hks hne
 go_enter Tryz.func250,Tryz.ntmps250
 go_wp2_with fail
 refine (sizes_ok o n warm _ ho h1 h2 h3).mono ?_
 rintro e w1 ⟨v,G,rfl,ab,ad,hG⟩
 obtain ⟨A2,ao,rfl,av,aq,-⟩:=ab.open_map
 rw [<-al.out]
 have ai:=(Blk.new w 188 #[.int .i64 o,.slice A N cap]).chg ad (by simp)
 have an:=ai.cell 1
 simp at an
 have ac:Chg [] w w1:=((zR [] w).alloc _).trans_same ad
 have aw:=hc.same ac
 have t1:((N:Int)==0)=false:=by rw [beq_eq_false_iff_ne];omega
 have t2:((N:Int) != (N:Int))=false:=by simp
 clear ad ai ab hc
 go_wp2_with fail
 go_loopg [29] N (fun j i wr=>j<=N/\i=.int .i64 ((N-j:Nat):Int)/\w1=wr)
 case atStart=>exact ⟨zQ _,by simp,rfl⟩
 case round =>
  obtain ⟨hj,rfl,rfl⟩:=hrel
  rcases gk with _ | j
  ·have t4:decide (((N-0:Nat):Int)<(N:Int))=false:=by simp
   go_wp2
   go_ret
   exact ⟨rfl,ac⟩
  ·obtain ⟨i,af⟩:=zX (N-(j+1))
   rw [<-af]
   have ap:i<N:=by omega
   have aj:N-j=i+1:=by omega
   have HI:=hid aj
   clear af aj
   have ae:i<ks.length:=by rw [<-HN.out];exact ap
   obtain ⟨g,ax,rfl,aa⟩:=aw.i64_at ae
   have hk:=au.out _ (zG ae)
   obtain ⟨k,ah⟩:=zX (ks[i])
   rw [<-ah] at aa hk
   have t5:decide ((k:Int)<0)=false:=by simp
   clear ah ae
   rcases hk with hk | rfl
   ·have t6:decide ((25:Int)<(k:Int))=false:=by simp;omega
    go_wp2
    go_roundg j
    case measure=>omega
    case rel =>
     rw [HI.out]
     exact ⟨by omega,by go_num,rfl⟩
   ·go_wp2
    go_roundg j
    case measure=>omega
    case rel =>
     rw [HI.out]
     exact ⟨by omega,by go_num,rfl⟩
theorem costP_take {ks:List Nat} {ps:List (List Int)} {i k:Nat} {p:List Int} (hk:ks[i]?=some k) (hp:ps[i]?=some p) :
  costP (ks.take (i+1)) (ps.take (i+1))=costP (ks.take i) (ps.take i)+partCost k p:=by
 have aa:=(List.getElem?_eq_some_iff.1 hk).1
 have ab:=(List.getElem?_eq_some_iff.1 hp).1
 have ek:=(List.getElem?_eq_some_iff.1 hk).2
 have ep:=(List.getElem?_eq_some_iff.1 hp).2
 unfold costP
 rw [List.take_succ_eq_append_getElem aa,List.take_succ_eq_append_getElem ab,List.zip_append (by simp;omega),zM,List.sum_append,ek,ep]
 simp
 omega
theorem partCost_le {k:Nat} {p:List Int} (hk:k<=25\/k=31) (hw:∀ x∈p,wideP x):partCost k p<=10+65*p.length:=by
 unfold partCost rawCost
 split
 ·have:=Nat.mul_le_mul_right p.length (widthL_le hw)
  omega
 ·have:=rsum_le k p (by omega)
  omega
theorem size_int (w:World):(sizeOf 3).run Tryz.prog w=.ok 1 w:=by
 exact Tryz.sizeOf3 w
theorem drop_startOf {α:Type} (l:List α) (ss:List Nat) (i:Nat) (h:i<ss.length):(l.drop (startOf ss i)).drop ss[i]=l.drop (startOf ss (i+1)):=by
 rw [List.drop_drop,startOf_succ ss i h]
theorem pcost_ok (o n warm:Nat) (ks:List Nat) (A:Option Addr) (cap:Nat) (l:List Int) (Al:Option Addr) (capl:Nat) (w:World) (ho:o<=8) (h1:1<=n) (h2:n<=4096) (h3:warm<=n) (hne:sizesL o n warm≠[]) (hlen:ks.length=(sizesL o n warm).length) (hks:KsOk ks) (hc:Cells i64 w A ks)
  (hll:l.length=n-warm) (hw:∀ x∈l,wideP x) (hcl:Cells vi w Al l) (hcap1:l.length<=capl) (hcap2:capl<=9223372036854775807) :
  Calls Tryz.prog 201 #[.agg #[.int .i64 o,.slice A ks.length cap],.int .i64 n,.int .i64 warm,.slice Al l.length capl] w fun e w'=>e=.returned (.int .i64 (costP ks (splitL (sizesL o n warm) l)))/\Chg [] w w':=by
 have aW:=sizesL_sum hne
 have am:=sizesL_len hne
 have bl:2^o<=256:=Nat.pow_le_pow_right (n:=2) (j:=8) (by decide) ho
 obtain ⟨ss,aG⟩:=zX (sizesL o n warm)
 obtain ⟨N,hN⟩:=zX (ks.length)
 obtain ⟨L,hL⟩:=zX (l.length)
 have ay:=fun w hc=>pmay_yes o n warm ks A cap w ho h1 h2 h3 hne hlen hks hc
 have ab:=fun w hc=>right_yes n warm l Al capl w h1 h2 h3 hll hw hc
 have ad:=fun w=>sizes_ok o n warm w ho h1 h2 h3
 rw [<-aG] at hlen aW am ad ⊢
 rw [<-hN] at ay hlen ⊢
 rw [<-hL] at ab hll hcap1 ⊢
 have aX:=hid ay
 have az:=hid ab
 have aw:=hid ad
 have bn:=hid hks
 have HW:=hid hw
 have HN:=hid hN
 have HL:=hid hL
 have aP:=hid hlen
 have a9:=hid aW
 have be:=hid hll
 have a2:N<=256:=by omega
 have bi:L<=4096:=by omega
 clear ay ab ad hks hw hN hL hlen aW am bl aG hll hne
 go_enter Tryz.func201,Tryz.ntmps201
 go_wp2_with fail
 refine (aX.out _ (hc.same ((zR [] w).alloc _))).mono ?_
 rintro e w1 ⟨rfl,aR⟩
 have aE:Chg [] w w1:=((zR [] w).alloc _).trans_same aR
 have aY:=(Blk.new w 188 #[.int .i64 o,.slice A N cap]).chg aR (by simp)
 have aZ:=aY.cell 0
 simp at aZ
 go_wp2_with fail
 refine (az.out _ (hcl.same aE)).mono ?_
 rintro e bo ⟨rfl,rfl⟩
 go_wp2_with fail
 refine (aw.out _).mono ?_
 rintro e w2 ⟨v,G,rfl,aH,aU,hG⟩
 obtain ⟨A2,ba,rfl,aS,bc,al⟩:=aH.open_map
 have ar:Chg [] w w2:=aE.trans_same aU
 have aF:=aY.chg aU (by simp)
 have bh:=aF.cell 1
 simp at bh
 have bg:=hc.same ar
 have bm:=hcl.same ar
 have ag:=aP.out
 rw [<-ag]
 clear aY aF aZ aR aU aH hc hcl hG
 have ao:=hid ag
 clear ag
 have aQ:=hid hcap2
 clear aS hcap2
 go_wp2_with fail
 go_loopg [3,9,31] N (fun j lv cv i wr=>j<=N/\i=.int .i64 ((N-j:Nat):Int)/\w2=wr/\cv=.int .i64 ((costP (ks.take (N-j)) ((splitL ss l).take (N-j)):Nat):Int)/\costP (ks.take (N-j)) ((splitL ss l).take (N-j))<=4+(N-j)*300000 /\
   ∃ A' c' rest,lv=.slice A' rest.length c'/\Hid (rest=l.drop (startOf ss (N-j)))/\Cells vi w2 A' rest/\rest.length<=c'/\c'<=9223372036854775807/\rest.length<=4096)
 case atStart =>
  refine ⟨zQ _,by simp,rfl,by simp [costP],by simp [costP],Al,capl,l,?_,hid (by simp [startOf]),bm,?_,aQ.out,?_⟩
  ·rw [<-HL.out]
  ·rw [<-HL.out];exact hcap1
  ·rw [<-HL.out];exact bi
 case round =>
  obtain ⟨hj,rfl,rfl,rfl,aM,A',c',rest,rfl,ae,aK,bb,bu,bq⟩:=hrel
  rcases gk with _ | j
  ·have t4:decide (((N-0:Nat):Int)<(N:Int))=false:=by simp
   have e1:ks.take N=ks:=by rw [HN.out,zN]
   have e2:(splitL ss l).take N=splitL ss l:=by rw [ao.out,<-splitL_len ss l,zN]
   rw [Nat.sub_zero,e1,e2]
   go_wp2
   go_ret
   exact ⟨rfl,ar⟩
  ·obtain ⟨i,a6⟩:=zX (N-(j+1))
   rw [<-a6] at aM ae ⊢
   have a4:i<N:=by omega
   have a8:N-j=i+1:=by omega
   have HI:=hid a8
   clear a6 a8
   have aJ:i<ks.length:=by rw [<-HN.out];exact a4
   have aC:i<ss.length:=by rw [<-ao.out];exact a4
   obtain ⟨br,bs,rfl,au⟩:=bg.i64_at aJ
   obtain ⟨bw,bp,rfl,aq⟩:=al.i64_at aC
   have hk:=bn.out _ (zG aJ)
   have ax:=splitL_get ss l i aC
   have aj:=costP_take (ks:=ks) (ps:=splitL ss l) (i:=i) (zF aJ) ax
   have aB:=startOf_fit ss i aC
   have aL:=drop_startOf l ss i aC
   rw [<-ae.out] at ax aj aL
   obtain ⟨k,a0⟩:=zX (ks[i])
   obtain ⟨s,hs⟩:=zX (ss[i])
   rw [<-a0] at au hk aj
   rw [<-hs] at aq aj aB aL
   have bd:s<=rest.length:=by
    have:=a9.out
    have:=be.out
    have:=HL.out
    rw [ae.out,zO]
    omega
   have aN:∀ x∈rest.take s,wideP x:=fun x hx=>HW.out x (by
    have:=List.mem_of_mem_take hx
    rw [ae.out] at this
    exact List.mem_of_mem_drop this)
   have aI:(rest.take s).length=s:=by rw [zI];omega
   have aA:=partCost_le hk aN
   rw [aI] at aA
   have ai:=raw_ok' (rest.take s) A' c' w2 aN (aK.take s) (by omega)
   have af:=fun (hk:k<=25)=>rsum_ok k (rest.take s) A' c' w2 hk aN (aK.take s) (by omega)
   rw [aI] at ai af
   obtain ⟨A3,a3,bj,aD⟩:=slice_from (P:=Tryz.prog) Tryz.underlying22 size_int A' rest.length c' s bd bb
   have av:=aD Int vi w2 rest rfl aK
   have HS:=hid af
   have ak:=hid aj
   have aO:Hid (rest.drop s=l.drop (startOf ss (i+1))):=hid aL
   have a1:rest.length-s=(rest.drop s).length:=by rw [zO]
   rw [a1] at a3
   have aV:(rest.drop s).length<=4096:=by rw [zO];omega
   have aT:(rest.drop s).length<=c'-s:=by rw [zO];omega
   obtain ⟨ap,ah⟩:=zX (rest.drop s)
   rw [<-ah] at a3 aV aT av aO
   have bf:s<=c':=by omega
   have bv:=hid aI
   obtain ⟨part,an⟩:=zX (rest.take s)
   rw [<-an] at ai ak aA HS
   clear aj ax aL a0 hs aN bj aD af aB a1 ah aI an aK aJ aC
   obtain ⟨c0,a5⟩:=zX (costP (ks.take i) ((splitL ss l).take i))
   rw [<-a5] at ak aM ⊢
   have bk:c0<=76800004:=by omega
   have a7:=hid aM
   clear a5 aM
   have aa:∀ q,q=partCost k part->Hid (costP (ks.take (i+1)) ((splitL ss l).take (i+1))=c0+q):=fun q hq=>hid (by rw [ak.out,hq])
   by_cases hk31:k=31
   ·have t6:((k:Int)==31)=true:=by rw [beq_iff_eq];omega
    have ac:partCost k part=5+rawCost part:=by unfold partCost;rw [if_pos hk31]
    rw [ac] at aA
    have HF:=aa _ ac.symm
    obtain ⟨q,hq⟩:=zX (rawCost part)
    rw [<-hq] at ai aA HF
    clear hk ac hk31 hq aa ak HS
    go_wp2_with (go_at_call 249;refine ai.mono ?_;rintro e w' ⟨rfl,rfl⟩)
    go_roundg j
    case measure=>omega
    case rel =>
     rw [HI.out,HF.out]
     refine ⟨by omega,by go_num,rfl,by go_num,?_,A3,_,ap,rfl,aO,av,aT,by omega,aV⟩
     have:=a7.out
     rw [Nat.add_mul]
     omega
   ·have t6:((k:Int)==31)=false:=by rw [beq_eq_false_iff_ne];omega
    have ac:partCost k part=5+rsum k part:=by unfold partCost;rw [if_neg hk31]
    rw [ac] at aA
    have HF:=aa _ ac.symm
    have af:=HS.out (by omega)
    obtain ⟨q,hq⟩:=zX (rsum k part)
    rw [<-hq] at af aA HF
    clear hk ac hk31 hq aa ak HS ai
    go_wp2_with (go_at_call 212;refine af.mono ?_;rintro e w' ⟨rfl,rfl⟩)
    go_roundg j
    case measure=>omega
    case rel =>
     rw [HI.out,HF.out]
     refine ⟨by omega,by go_num,rfl,by go_num,?_,A3,_,ap,rfl,aO,av,aT,by omega,aV⟩
     have:=a7.out
     rw [Nat.add_mul]
     omega
theorem bitsP_take {o:Nat} {ks:List Nat} {ps:List (List Int)} {i k:Nat} {p:List Int} (hk:ks[i]?=some k) (hp:ps[i]?=some p) :
  bitsP o (ks.take (i+1)) (ps.take (i+1))=bitsP o (ks.take i) (ps.take i)++partBits k p:=by
 have aa:=(List.getElem?_eq_some_iff.1 hk).1
 have ab:=(List.getElem?_eq_some_iff.1 hp).1
 have ek:=(List.getElem?_eq_some_iff.1 hk).2
 have ep:=(List.getElem?_eq_some_iff.1 hp).2
 unfold bitsP
 rw [List.take_succ_eq_append_getElem aa,List.take_succ_eq_append_getElem ab,List.zip_append (by simp;omega),List.flatMap_append,ek,ep]
 simp
theorem flat_snoc (n:Nat) (l:List Int) (x:Int):(l++[x]).flatMap (fun x=>bitsOf (modN x n) n)=l.flatMap (fun x=>bitsOf (modN x n) n)++bitsOf (modN x n) n:=by simp
theorem and_mod (x:Int) {n:Nat} (hn:n<=31):bits .and .u64 (x%18446744073709551616) (2^n-1)=((modN x n:Nat):Int):=by
 have h0:0<=x%18446744073709551616:=Int.emod_nonneg _ (by decide)
 have h1:x%18446744073709551616<18446744073709551616:=Int.emod_lt_of_pos _ (by decide)
 rw [band_mask_u h0 h1 (by omega),modN_cast]
 have aa:((2:Int)^n)∣18446744073709551616:=by
  have:(18446744073709551616:Int)=2^n*2^(64-n):=by
   rw [<-Int.pow_add]
   have:n+(64-n)=64:=by omega
   rw [this];rfl
  rw [this]
  exact Int.dvd_mul_right _ _
 exact Int.emod_emod_of_dvd x aa
theorem pput_ok (w:World) (b:Nat) (F bs:List Nat) (o n warm:Nat) (ks:List Nat) (A:Option Addr) (cap:Nat) (l:List Int) (Al:Option Addr) (capl:Nat) (h:IsWr w b F bs) (ho:o<=8) (h1:1<=n) (h2:n<=4096) (h3:warm<=n) (hne:sizesL o n warm≠[]) (hlen:ks.length=(sizesL o n warm).length) (hks:KsOk ks) (hc:Cells i64 w A ks)
  (hll:l.length=n-warm) (hw:∀ x∈l,wideP x) (hcl:Cells vi w Al l) (hcap1:l.length<=capl) (hcap2:capl<=9223372036854775807) (hA:Apt A ks F) (hAl:Apt Al l F) (hbs:bs.length<137438953472) :
  Calls Tryz.prog 151 #[.pointer (some ⟨b,0,none⟩),.agg #[.int .i64 o,.slice A ks.length cap],.int .i64 n,.int .i64 warm,.slice Al l.length capl] w fun e w'=>e=.returned (.int .i64 0)/\∃ F',IsWr w' b F' (bs++bitsP o ks (splitL (sizesL o n warm) l))/\Grow F F' w w':=by
 have bV:=sizesL_sum hne
 have az:=sizesL_len hne
 have cC:2^o<=256:=Nat.pow_le_pow_right (n:=2) (j:=8) (by decide) ho
 have ac:=fun w hc hcl=>pcost_ok o n warm ks A cap l Al capl w ho h1 h2 h3 hne hlen hks hc hll hw hcl hcap1 hcap2
 obtain ⟨ss,bf⟩:=zX (sizesL o n warm)
 obtain ⟨N,hN⟩:=zX (ks.length)
 obtain ⟨L,hL⟩:=zX (l.length)
 have ae:=fun w=>sizes_ok o n warm w ho h1 h2 h3
 have bZ:=costP_pos ks (splitL (sizesL o n warm) l)
 rw [<-bf] at hlen bV az ae ac bZ ⊢
 obtain ⟨CC,cf⟩:=zX (costP ks (splitL ss l))
 rw [<-cf] at ac bZ
 rw [<-hN] at ac hlen ⊢
 rw [<-hL] at ac hll hcap1 ⊢
 have bb:=hid ac
 have aQ:=hid ae
 have cF:=hid hks
 have HW:=hid hw
 have HN:=hid hN
 have HL:=hid hL
 have bC:=hid hlen
 have cj:=hid bV
 have cr:=hid hll
 have HA:=hid hA
 have bU:=hid hAl
 have HF:=hid h.lt
 have b5:N<=256:=by omega
 have cx:L<=4096:=by omega
 have t0:((CC:Int)==0)=false:=by rw [beq_eq_false_iff_ne];omega
 clear ac ae hks hw hN hL hlen bV az cC bf hll hne cf hA hAl
 go_enter Tryz.func151,Tryz.ntmps151
 go_wp2_with fail
 have bn:Chg [] w (w.alloc (.cells #[.int .i64 o,.slice A N cap] 188)):=(zR [] w).alloc _
 refine (bb.out _ (hc.same bn) (hcl.same bn)).mono ?_
 rintro e w1 ⟨rfl,bF⟩
 have bo:=(Blk.new w 188 #[.int .i64 o,.slice A N cap]).chg bF (by simp)
 have ah:Chg [] w w1:=bn.trans_same bF
 have ba:=bo.lt
 have aW:=bo.cell 0
 simp at aW
 have bd:=h.same ah
 clear bF bn
 go_wp2_with fail
 refine (wput_ok _ b F bs o 4 bd (by omega) (by omega) (by omega)).mono ?_
 rintro e cL ⟨rfl,F1,aj,al⟩
 have ch:w.heap.size∉F:=fun hm=>by have:=HF.out _ hm;omega
 have aM:=bo.chg al.chg ch
 have a3:=aM.cell 0
 simp at a3
 clear aW bo
 go_wp2_with fail
 refine (aQ.out _).mono ?_
 rintro e w2 ⟨v,G,rfl,ay,a7,hG⟩
 obtain ⟨A2,ck,rfl,bH,cp,-⟩:=ay.open_map
 have aY:Grow F F1 w1 w2:=al.same a7
 have aO:=aM.chg a7 (by simp)
 have aN:=hc.same ah
 have aF:=hcl.same ah
 have bS:=aN.keep HA.out aY.chg
 have cD:=aF.keep bU.out aY.chg
 have bT:=aj.same a7
 have cG:=ah.size
 have cu:=al.size
 have cH:=a7.size
 have b7:∀ x∈G,x∉F1:=fun x hx hm=>by
  have h5:=hG x hx
  have h6:=aj.lt x hm
  omega
 have bK:w.heap.size∉F1:=al.out ba ch
 have bQ:=hid (HA.out.grow aN aY)
 have bB:=hid (bU.out.grow aF aY)
 have co:Hid (Apt A2 ss F1):=hid (ay.apt b7)
 have cw:Cells i64 w2 A2 ss:=ay.cells
 have br:Grow F F1 w w2:=Grow.pre ah aY
 have cs:bs.length+4<=137438953476:=by omega
 have ai:=bC.out
 rw [<-ai]
 have aB:=hid ai
 clear ai aM a3 hc hcl hG al a7 aj bd aY ah aN aF ay HA bU ba b7
 have bD:=hid hcap2
 clear bH hcap2
 go_wp2_with fail
 go_loopg [4,34] N (fun j lv i wr=>j<=N/\i=.int .i64 ((N-j:Nat):Int) /\
   ∃ A' c' rest F' ap,lv=.slice A' rest.length c'/\Hid (rest=l.drop (startOf ss (N-j)))/\Hid (Apt A' rest F1)/\Cells vi w2 A' rest/\rest.length<=c'/\c'<=9223372036854775807/\rest.length<=4096 /\
    IsWr wr b F' ap/\Hid (ap=bs++bitsP o (ks.take (N-j)) ((splitL ss l).take (N-j)))/\ap.length<=bs.length+4+(N-j)*300000/\Grow F1 F' w2 wr)
 case atStart =>
  refine ⟨zQ _,by simp,Al,capl,l,F1,bs++bitsOf o 4,?_,hid (by simp [startOf]),bB,cD,?_,bD.out,?_,bT,hid (by simp [bitsP]),by simp [bitsOf_len],Grow.refl _ _⟩
  ·rw [<-HL.out]
  ·rw [<-HL.out];exact hcap1
  ·rw [<-HL.out];exact cx
 case round =>
  obtain ⟨hj,rfl,A',c',rest,F',ap,rfl,af,ca,bx,cl,cP,cK,cg,a5,bz,aJ⟩:=hrel
  have a8:=aO.chg aJ.chg bK
  have aW:=a8.cell 1
  simp at aW
  clear a8
  rcases gk with _ | j
  ·have t4:decide (((N-0:Nat):Int)<(N:Int))=false:=by simp
   have e1:ks.take N=ks:=by rw [HN.out,zN]
   have e2:(splitL ss l).take N=splitL ss l:=by rw [aB.out,<-splitL_len ss l,zN]
   rw [Nat.sub_zero,e1,e2] at a5
   go_wp2
   go_ret
   refine ⟨rfl,F',?_,br.trans aJ⟩
   rw [<-a5.out]
   exact cg
  ·obtain ⟨i,cb⟩:=zX (N-(j+1))
   rw [<-cb] at bz a5 af ⊢
   have b9:i<N:=by omega
   have cc:N-j=i+1:=by omega
   have HI:=hid cc
   clear cb cc
   have bi:i<ks.length:=by rw [<-HN.out];exact b9
   have a1:i<ss.length:=by rw [<-aB.out];exact b9
   obtain ⟨cM,cN,rfl,aH⟩:=(bS.keep bQ.out aJ.chg).i64_at bi
   obtain ⟨cQ,cJ,rfl,aD⟩:=(cw.keep co.out aJ.chg).i64_at a1
   have hk:=cF.out _ (zG bi)
   have aU:=splitL_get ss l i a1
   have a0:=startOf_fit ss i a1
   have bl:=drop_startOf l ss i a1
   rw [<-af.out] at aU bl
   have au:=bitsP_take (o:=o) (ks:=ks) (ps:=splitL ss l) (i:=i) (zF bi) aU
   obtain ⟨k,bv⟩:=zX (ks[i])
   obtain ⟨s,hs⟩:=zX (ss[i])
   rw [<-bv] at aH hk au
   rw [<-hs] at aD au a0 bl
   have cq:s<=rest.length:=by
    have:=cj.out
    have:=cr.out
    have:=HL.out
    rw [af.out,zO]
    omega
   have bp:∀ x∈rest.take s,wideP x:=fun x hx=>HW.out x (by
    have:=List.mem_of_mem_take hx
    rw [af.out] at this
    exact List.mem_of_mem_drop this)
   have bh:(rest.take s).length=s:=by rw [zI];omega
   have bj:=partCost_le hk bp
   have aL:=partBits_len k (rest.take s)
   rw [bh] at bj
   obtain ⟨A3,b6,ce,a9⟩:=slice_from (P:=Tryz.prog) Tryz.underlying22 size_int A' rest.length c' s cq cl
   have aK:=a9 Int vi w2 rest rfl bx
   have aG:Apt A3 (rest.drop s) F1:=ca.out.to (by rw [zO];omega) ce
   have bJ:bs++bitsP o (ks.take (i+1)) ((splitL ss l).take (i+1))=ap++partBits k (rest.take s):=by rw [au,a5.out,zH]
   have bu:Hid (rest.drop s=l.drop (startOf ss (i+1))):=hid bl
   have b1:rest.length-s=(rest.drop s).length:=by rw [zO]
   rw [b1] at b6
   have bR:(rest.drop s).length<=4096:=by rw [zO];omega
   have bL:(rest.drop s).length<=c'-s:=by rw [zO];omega
   have aX:=bx.take s
   have ax:Apt A' (rest.take s) F1:=ca.out.of (by rw [zI];omega)
   obtain ⟨aC,an⟩:=zX (rest.drop s)
   rw [<-an] at b6 bR bL aK bu aG
   have ct:s<=c':=by omega
   obtain ⟨part,aA⟩:=zX (rest.take s)
   rw [<-aA] at bj bJ aX bh bp aL ax
   have bY:=hid bJ
   have be:=hid aG
   have aw:=hid ax
   have bX:=hid bp
   have cE:=aX.keep (ax) aJ.chg
   have cd:=hid aL
   have aZ:=hid bh
   have b3:=hid bi
   have b0:=hid bv
   have bg:=hid bj
   have cm:s<=4096:=by omega
   have aq:k<=31:=by omega
   have HK:=hid hk
   have b2:=hid bz
   have cz:ap.length<=137515753476:=by omega
   clear au aU bl bv hs ce a9 a0 b1 an aA bx a1 bJ aG ax bp aL hk bz a5 bh bj
   have ag:=wput_ok wr b F' ap k 5 cg (by omega) (by omega) (by omega)
   by_cases aq:k=31
   ·have t6:((k:Int) != 31)=false:=by rw [bne_eq_false_iff_eq];omega
    have ak:partBits k part=bitsOf k 5++(bitsOf (widthL part) 5++part.flatMap (fun x=>bitsOf (modN x (widthL part)) (widthL part))):=by unfold partBits;rw [if_pos aq]
    have bm:=hid ak
    clear ak aq
    go_wp2_with fail
    refine ag.mono ?_
    rintro e w3 ⟨rfl,F3,aR,bG⟩
    have ab:=aJ.trans bG
    have am:=aO.chg ab.chg bK
    have bc:=am.cell 1
    simp at bc
    obtain ⟨_,_,e4,aa⟩:=(bS.keep bQ.out ab.chg).i64_at b3.out
    injection e4 with e4
    injection e4 with e4 e5 _
    subst e4
    subst e5
    rw [<-b0.out] at aa
    have ao:=aX.keep aw.out ab.chg
    have aT:=width_ok part A' c' w3 bX.out ao (by rw [aZ.out];omega)
    have ar:=widthL_le bX.out
    rw [aZ.out] at aT
    obtain ⟨W,hW⟩:=zX (widthL part)
    rw [<-hW] at aT ar bm
    have cO:=hid hW
    clear am aW ag hW
    go_wp2_with (go_at_call 202;refine aT.mono ?_;rintro e w' ⟨rfl,rfl⟩)
    refine (wput_ok w3 b F3 _ W 5 aR (by omega) (by omega) (by rw [zC,bitsOf_len];omega)).mono ?_
    rintro e w4 ⟨rfl,F4,av,bq⟩
    have aP:=ab.trans bq
    have cI:(2:Int)^W<=2147483648:=pow_half_mono (n:=31) ar
    have cn:=two_pow_pos' W
    clear bc aa ao
    go_wp2_with fail
    go_loopg [75] s (fun q iv wx=>q<=s/\iv=.int .i64 ((s-q:Nat):Int)/\∃ F5 aE,IsWr wx b F5 aE/\Hid (aE=(ap++bitsOf k 5++bitsOf W 5)++(part.take (s-q)).flatMap (fun x=>bitsOf (modN x W) W))/\aE.length<=ap.length+10+W*(s-q)/\Grow F1 F5 w2 wx)
    case atStart=>exact ⟨zQ _,by simp,F4,_,av,hid (by simp),by simp [bitsOf_len],aP⟩
    case round =>
     obtain ⟨hq,rfl,F5,aE,a4,aV,aS,aI⟩:=hrel
     rcases gk with _ | q
     ·have t7:decide (((s-0:Nat):Int)<(s:Int))=false:=by simp
      go_wp2
      go_roundg j
      case measure=>omega
      case rel =>
       rw [HI.out]
       have e7:part.take (s-0)=part:=by rw [Nat.sub_zero,<-aZ.out,zN]
       have bW:=aV.out
       rw [e7,zH,zH,<-bm.out] at bW
       refine ⟨by omega,by go_num,A3,_,aC,F5,aE,rfl,bu,be,aK,bL,by omega,bR,a4,hid (by rw [bW,bY.out]),?_,aI⟩
       have e8:=cd.out
       have e9:=b2.out
       rw [bW,zC,e8,Nat.add_mul]
       have:=bg.out
       omega
     ·obtain ⟨m,b4⟩:=zX (s-(q+1))
      rw [<-b4] at aV aS ⊢
      have cB:m<s:=by omega
      have ci:s-q=m+1:=by omega
      have HM:=hid ci
      clear b4 ci
      have bN:m<part.length:=by rw [aZ.out];exact cB
      obtain ⟨g8,o8,rfl,ad⟩:=(aX.keep aw.out aI.chg).at_ bN
      have bk:=flat_snoc W (part.take m) part[m]
      rw [<-take_snoc' part bN] at bk
      obtain ⟨x,hx⟩:=zX (part[m])
      rw [<-hx] at ad bk
      have bI:wr.cell? ⟨g8,o8+m,none⟩=some (.int .i64 x):=ad
      have a2:bits BinOp.and IntKind.u64 (IntKind.u64.wrap x) (2^W-1)=((modN x W:Nat):Int):=by rw [IntKind.wrap_u64];exact and_mod x ar
      have bE:=hid a2
      clear a2
      have a6:=modN_lt x W
      have cv:=hid bk
      have bO:=hid a6
      have cA:aE.length<=137520000000:=by
       have:W*m<=31*4096:=zL ar (by omega)
       omega
      have bM:=hid aS
      clear ad hx bN bk a6 aS
      go_wp2_with fail
      rw [bE.out]
      refine (wput_ok wr b F5 aE (modN x W) W a4 (by omega) bO.out (by omega)).mono ?_
      rintro e w6 ⟨rfl,F6,bA,cy⟩
      go_wp2_with fail
      go_roundg q
      case measure=>omega
      case rel =>
       rw [HM.out]
       refine ⟨by omega,by go_num,F6,_,bA,hid ?_,?_,aI.trans cy⟩
       ·rw [cv.out,aV.out,zH]
       ·have e9:=bM.out
        rw [zC,bitsOf_len,Nat.mul_add]
        omega
   ·have t6:((k:Int) != 31)=true:=by rw [bne_iff_ne];omega
    have ak:partBits k part=bitsOf k 5++rbitsAll k part:=by unfold partBits;rw [if_neg aq]
    have bm:=hid ak
    have bw:k<=25:=by have:=HK.out;omega
    clear ak
    go_wp2_with fail
    refine ag.mono ?_
    rintro e w3 ⟨rfl,F3,aR,bG⟩
    have ab:=aJ.trans bG
    have am:=aO.chg ab.chg bK
    have bc:=am.cell 1
    simp at bc
    obtain ⟨_,_,e4,aa⟩:=(bS.keep bQ.out ab.chg).i64_at b3.out
    injection e4 with e4
    injection e4 with e4 e5 _
    subst e4
    subst e5
    rw [<-b0.out] at aa
    have ao:=aX.keep aw.out ab.chg
    have bP:=rput_ok w3 b F3 (ap++bitsOf k 5) k part A' c' aR bw bX.out ao (aw.out.grow aX ab) (by rw [zC,bitsOf_len,aZ.out];omega)
    rw [aZ.out] at bP
    clear am aW ag
    go_wp2_with fail
    refine bP.mono ?_
    rintro e w4 ⟨rfl,F4,av,bq⟩
    have aP:=ab.trans bq
    clear bc aa ao bP
    go_wp2_with fail
    go_roundg j
    case measure=>omega
    case rel =>
     rw [HI.out]
     rw [zH,<-bm.out] at av
     refine ⟨by omega,by go_num,A3,_,aC,F4,_,rfl,bu,be,aK,bL,by omega,bR,av,hid bY.out.symm,?_,aP⟩
     have e8:=cd.out
     have e9:=b2.out
     rw [zC,e8,Nat.add_mul]
     have:=bg.out
     omega
theorem adapt_any (o bit:Nat) (w:World) (h2:o<=4096) (hbit:bit=0\/bit=1) :
  Calls Tryz.prog 254 #[.int .i64 o,.int .i64 bit] w fun e w'=>e=.returned (.int .i64 (adaptN o bit:Nat))/\w'=w:=by
 rcases hbit with rfl | rfl
 all_goals
  go_enter Tryz.func254,Tryz.ntmps254
  go_wp2
  go_ret
  exact ⟨by unfold adaptN;simp;go_num,rfl⟩
theorem grow_any (w:World) (b g:Nat) (v odds:Value) (W:Int) (ds:List Nat) (n0:Nat)
  (hb:Blk w b 247 #[v,.int .u64 W,odds]) (hr:Row w 5 v g (ds.map b8)) (hd:∀ d∈ds,d<256) (hn:n0<9223372036854775808) :
  Calls Tryz.prog 275 #[.pointer (some ⟨b,0,none⟩),.int .u64 n0] w fun e w'=>e=.returned (.tuple #[])/\Row w' 5 v g ((growL ds n0).map b8)/\Chg [g] w w':=by
 obtain ⟨al,rfl,ao,ap,-,-⟩:=hr.open_map
 have ah:=hr.ne_ hb (by decide)
 have HD:=hid hd
 clear hd
 have ag:=hb.cell 0
 simp at ag
 go_enter Tryz.func275,Tryz.ntmps275
 go_wp2
 go_loopw [1,4] (fun n i wr=>∃ (l t:List Nat) (c:Nat) (j:Int),i=.int .i64 j/\n=.int .u64 c/\j=(l.length:Int)-1/\c<9223372036854775808/\l.length+t.length=ds.length /\
   growL ds n0=growL l c++t/\(∀ d∈l,d<256)/\Row wr 5 (.slice (some ⟨g,0,none⟩) ds.length al) g ((l++t).map b8)/\Chg [g] w wr)
  (fun n i _=>(intOf i+1).toNat)
 case atStart=>exact ⟨ds,[],n0,_,rfl,rfl,rfl,hn,by simp,by simp,HD.out,by simpa using hr,zR _ _⟩
 case round =>
  obtain ⟨l,t,c,j,rfl,rfl,hj,hc,ab,ad,hl,aa,ac⟩:=hrel
  have ai:=hb.chg ac (by simpa using ah.symm)
  have ae:=ai.cell 0
  simp at ae
  clear ag
  rcases List.eq_nil_or_concat l with rfl | ⟨l',d,rfl⟩
  ·obtain rfl:j=-1:=by simpa using hj
   have HG:=hid ad
   clear hj ab ad hl
   go_wp2
   all_goals
    go_end0
    refine ⟨rfl,?_,ac⟩
    rw [HG.out];simpa [growL_nil] using aa
  ·have aq:wr.cell? ⟨g,l'.length,none⟩=some (.int .u8 d):=by
    obtain ⟨_,h1,_,_,h2,_⟩:=aa.open_map
    exact h2 l'.length d (by simp)
   have ar:wr.frozen? ⟨g,l'.length,none⟩=false:=by
    obtain ⟨_,h1,_,_,_,h2⟩:=aa.open_map
    exact h2 _
   obtain rfl:j=(l'.length:Int):=by simp at hj;omega
   have af:d<256:=hl d (by simp)
   have am:l'.length<ds.length:=by simp at ab;omega
   have HL:=hid ab
   have HG:=hid ad
   have aj:=hid hl
   clear hj ab ad hl
   go_wp2
   ·have an:0<c:=by omega
    go_roundw
    case rel =>
     have e1:=growL_snoc l' d c (by omega)
     have ak:=HL.out
     refine ⟨l',(c+d)%256::t,(c+d) / 256,_,rfl,by go_num,rfl,by omega,by simp at ak ⊢; omega,?_,fun x hx=>aj.out x (by simp [hx]),?_,ac.setCell (by simp) _⟩
     ·rw [HG.out,List.concat_eq_append,e1,zH];rfl
     ·have h2:=aa.set_ (i:=l'.length) (by simp) (b8 ((c+d)%256))
      have e2:((l'.concat d++t).map b8).set l'.length (b8 ((c+d)%256))=(l'++(c+d)%256::t).map b8:=by
       rw [List.concat_eq_append,zH,zM,zM,List.set_append_right _ _ (by simp)]
       simp
      rw [e2] at h2
      have e3:b8 ((c+d)%256)=.int .u8 (((c:Int)+d)%256):=by unfold b8;go_num
      rw [e3] at h2
      exact h2
    case measure=>simp [intOf]
   ·obtain rfl:c=0:=by omega
    go_end0
    refine ⟨rfl,?_,ac⟩
    rw [HG.out,growL_zero];exact aa
theorem u8_el:Elem Tryz.prog 39 5 (.int .u8 0) 1 1:=.mk' Tryz.underlying39 (by kernel_rfl)
theorem code_any (w:World) (b g h:Nat) (c:Cod) (bound bit:Nat) (hc:IsCod 247 w b g h c) (hok:CodOk c) (hbd:BoundOk c bound) (hbit:bit=0\/bit=1)
  (hlen:c.low.length<=1099511627776) :
  Calls Tryz.prog 253 #[.pointer (some ⟨b,0,none⟩),.int .u64 bound,.int .i64 bit] w fun e w'=>e=.returned (.tuple #[]) /\
   ∃ g',IsCod 247 w' b g' h (codeL c bound bit)/\Chg [b,g] w w'/\(g'=g\/w.heap.size<=g'):=by
 obtain ⟨vl,vo,hb,hl,ho⟩:=hc.ex
 obtain ⟨ai,aX⟩:=hbd
 have aZ:=hok.hi
 have aF:=hl.ne_ hb (by decide)
 have aS:=ho.ne_ hb (by decide)
 have aU:=hl.ne_row ho (by decide)
 obtain ⟨az,rfl,a1,aY,-,-⟩:=hl.open_map
 have aJ:=hb.cell 0
 have aP:=hb.cell 1
 have aQ:=hb.frozen 1
 simp at aJ aP
 have ay:=widA_ok hok ⟨ai,by omega⟩ bit
 obtain ⟨W1,aA⟩:=zX (widA c bound bit)
 obtain ⟨l1,ax⟩:=zX (lowA c bound bit)
 rw [<-aA] at ay
 have au:=hid aA
 have aq:=hid ax
 clear aA ax
 have am:l1.length=c.low.length:=by rw [aq.out,lowA_len]
 have ab:=hid am
 clear am
 go_enter Tryz.func253,Tryz.ntmps253
 go_upto_if 7 with fail
 go_cut [] (fun wx=>Blk wx b 247 #[.slice (some ⟨g,0,none⟩) c.low.length az,.int .u64 W1,vo]/\Row wx 5 (.slice (some ⟨g,0,none⟩) c.low.length az) g (l1.map b8)/\Chg [b,g] w wx)
 case first =>
  rcases hbit with rfl | rfl
  ·go_wp2
   go_meet
   case rel =>
    refine ⟨?_,?_,(zR _ _).setCell (by simp) _⟩
    ·have:=hb.set_ 1 (.int .u64 W1)
     rw [au.out] at this ⊢
     exact this
    ·rw [aq.out]
     exact hl.far (p:=⟨b,1,none⟩) aF _
  ·go_wp2_with (go_at_call 275;refine (grow_any _ _ _ _ _ _ _ _ hb hl hok.dig (by omega)).mono ?_;rintro e w1 ⟨rfl,ax,al⟩;have ai:=hb.chg al (by simpa using aF.symm);have aE:=ai.cell 1;have aT:=ai.frozen 1;simp at aE)
   go_meet
   case rel =>
    refine ⟨?_,?_,(al.mono (F':=[b,g]) (by simp)).setCell (by simp) _⟩
    ·have:=ai.set_ 1 (.int .u64 ((c.W:Int)-bound))
     have e:((W1:Nat):Int)=(c.W:Int)-bound:=by rw [au.out];unfold widA;simp;omega
     rw [e]
     exact this
    ·rw [aq.out]
     exact ax.far (p:=⟨b,1,none⟩) aF _
 case rest =>
  obtain ⟨ah,aO,aC⟩:=hcut
  have ar:=ah.cell 0
  have av:=ah.cell 1
  have aK:=ah.frozen 0
  have aL:=ah.frozen 1
  simp at ar av
  clear aJ aP aQ
  go_wp2_with fail
  go_loopg [] 1 (fun k wr=>∃ (g' ae:Nat) (l:List Nat) (W:Nat),Blk wr b 247 #[.slice (some ⟨g',0,none⟩) l.length ae,.int .u64 W,vo] /\
    Row wr 5 (.slice (some ⟨g',0,none⟩) l.length ae) g' (l.map b8)/\Chg [b,g] w wr/\(g'=g\/w.heap.size<=g') /\
    ((k=1/\W=W1/\l=l1)\/(k=0/\16777216<=W/\W<4294967296/\Hid (codeL c bound bit=⟨l,W,c.odds⟩))))
  case atStart=>exact ⟨g,az,l1,W1,by rw [ab.out];exact ah,by rw [ab.out];exact aO,aC,.inl rfl,.inl ⟨rfl,rfl,rfl⟩⟩
  case round =>
   clear ar av aK aL ah aO
   obtain ⟨g',ae,l,W,ac,aD,aa,ag,an⟩:=hrel
   have ao:=aD.ne_ ac (by decide)
   have ar:=ac.cell 0
   have av:=ac.cell 1
   have aK:=ac.frozen 0
   have aL:=ac.frozen 1
   simp at ar av
   have ap:∀ W',W'=W->codeL c bound bit=⟨l,W',c.odds⟩->IsCod 247 wr b g' h (codeL c bound bit):=fun W' e he=>by
    subst e
    rw [he]
    have aV:h∉[b,g]:=by simp;exact ⟨aS,aU.symm⟩
    exact ⟨_,vo,ac,aD,ho.chg aa aV⟩
   have ak:=hid ap
   clear ap
   rcases an with ⟨rfl,rfl,rfl⟩ | ⟨rfl,hW,a2,aG⟩
   ·by_cases hs:W<16777216
    ·have aj:decide ((W:Int)<16777216)=true:=by simp;omega
     go_wp2_with (at_builtin;refine wpList_append_row1 rfl rfl u8_el rfl rfl ((aD.far (p:=⟨b,1,none⟩) ao _).alloc _) (.int .u8 0) rfl ?c1 ?c2 ?c3 ?c4 ?_)
     case c1=>simp [go_sem]
     case c2=>rfl
     case c3=>simp;have := ab.out;omega
     case c4=>simp;have := ab.out;omega
     intro g2 ad w2 aM af aN
     have aw:=((ac.set_ 1 (.int .u64 ((W:Int)*256))).alloc (.cells #[.int .u8 0] 5)).chg af (by simpa using ao.symm)
     have aI:=aM.ne_ aw (by decide)
     have aH:Chg [b,g] w w2:=((aa.setCell (p:=⟨b,1,none⟩) (by simp) _).alloc _).trans af (by
      intro x hx
      simp at hx
      subst hx
      rcases ag with rfl | ag
      ·exact .inl (by simp)
      ·exact .inr ag)
     have aB:=aw.cell 0
     have aR:=aw.frozen 0
     simp at aB
     have a0:=aa.size
     have aW:g2=g\/w.heap.size<=g2:=by
      rcases aN with rfl | aN
      ·exact ag
      ·exact .inr (by omega)
     clear af
     go_wp2
     go_roundg 0
     case measure=>omega
     case rel =>
      refine ⟨g2,ad,l++[0],W*256,?_,?_,aH.setCell (by simp) _,aW,.inr ⟨rfl,by omega,by omega,?_⟩⟩
      ·have h1:=aw.set_ 0 (.slice (some ⟨g2,0,none⟩) (l.length+1) ad)
       simp at h1
       simpa using h1
      ·have h1:=aM.far (p:=⟨b,0,none⟩) aI (.slice (some ⟨g2,0,none⟩) (l.length+1) ad)
       simpa [b8] using h1
      ·refine hid ?_
       unfold codeL
       rw [<-au.out,if_pos hs,<-aq.out]
    ·have aj:decide ((W:Int)<16777216)=false:=by simp;omega
     go_wp2
     go_end0
     refine ⟨rfl,g',?_,aa,ag⟩
     refine ak.out W rfl ?_
     unfold codeL
     rw [<-au.out,if_neg hs,<-aq.out]
   ·have aj:decide ((W:Int)<16777216)=false:=by simp;omega
    go_wp2
    go_end0
    exact ⟨rfl,g',ak.out W rfl aG.out,aa,ag⟩
theorem cod_oddsAt {c:Cod} {ctx:Nat} (hc:ctx<c.odds.length):c.odds[ctx]?=some (oddsAt c ctx):=by
 unfold oddsAt
 rw [zD,zF hc]
 rfl
theorem put_ok (w:World) (b g h:Nat) (c:Cod) (ctx bit:Nat) (hc:IsCod 247 w b g h c) (hok:CodOk c) (hctx:ctx<c.odds.length) (hbit:bit=0\/bit=1)
  (hlen:c.low.length<=1099511627776) :
  Calls Tryz.prog 214 #[.pointer (some ⟨b,0,none⟩),.int .i64 ctx,.int .i64 bit] w fun e w'=>e=.returned (.int .i64 0) /\
   ∃ g',IsCod 247 w' b g' h (putL c ctx bit)/\Chg [b,g,h] w w'/\(g'=g\/w.heap.size<=g'):=by
 obtain ⟨vl,vo,hb,hl,ho⟩:=hc.ex
 have ae:=bound_put hok hctx
 have aI:=hok.hi
 have aL:=hl.ne_ hb (by decide)
 have az:=ho.ne_ hb (by decide)
 have aM:=hl.ne_row ho (by decide)
 obtain ⟨ax,rfl,aJ,aE,ab,aj⟩:=ho.open_map
 have al:=ab ctx _ (cod_oddsAt hctx)
 replace al:w.cell? ⟨h,ctx,none⟩=some (.int .i64 (oddsAt c ctx:Int)):=al
 clear ab
 obtain ⟨o1,ai⟩:=zX (oddsAt c ctx)
 have aw:=oddsAt_ok hok hctx
 rw [<-ai] at al aw ae
 have ar:=hid ai
 clear ai
 have aq:=hb.cell 1
 have aD:=hb.cell 2
 simp at aq aD
 have t1:decide ((ctx:Int)<0)=false:=by simp
 have t2:decide (c.odds.length<=ctx)=false:=by simp;omega
 obtain ⟨bd,ac⟩:=zX (c.W / 4096*o1)
 have aA:IntKind.u64.wrap ((c.W:Int) / 4096*(o1:Int))=(bd:Int):=by
  rw [<-ac] at ae
  have:=ae.2
  have e:((c.W:Int) / 4096*(o1:Int))=(bd:Int):=by rw [ac];simp
  rw [e]
  exact IntWalk.u64_in _ (by omega)
 rw [<-ac] at ae
 have am:Hid (putL c ctx bit={ codeL c bd bit with odds:=c.odds.set ctx (adaptN o1 bit) }):=by
  refine hid ?_
  rw [ac,ar.out]
  rfl
 clear ac
 go_enter Tryz.func214,Tryz.ntmps214
 rcases hbit with rfl | rfl
 all_goals
  go_wp2
  refine wp_region_quiet_tail 16 (by kernel_rfl) (by kernel_rfl) ?_
  simp only [List.take_succ_cons,List.take_zero,List.drop_succ_cons,List.drop_zero]
  repeat (go_big_quiet_step (fail))
  refine wpQuiet_nil ?_
  intro _ ah
  obtain ⟨nq,rfl⟩:=ah
  go_wp2_with fail
  refine (code_any (w.drewN nq) b g h c bd _ (hc.same (((zR _ _).drewN nq))) hok ae (by simp) hlen).mono ?_
  rintro e w1 ⟨rfl,g',aq,ak,ay⟩
  obtain ⟨aH,aG,ag,ap,af⟩:=aq.ex
  rw [codeL_odds] at af
  have aC:=ap.ne_ ag (by decide)
  have an:=ap.ne_row af (by decide)
  obtain ⟨au,rfl,aF,av,aa,ad⟩:=af.open_map
  have aN:w1.cell? ⟨h,ctx,none⟩=some (.int .i64 o1):=by rw [ar.out];exact aa ctx _ (cod_oddsAt hctx)
  have aK:=ad ctx
  have aB:=ag.cell 2
  simp at aB
  clear aa ad aj
  go_wp2_with fail
  refine wp_region_quiet_tail 14 (by kernel_rfl) (by kernel_rfl) ?_
  simp only [List.take_succ_cons,List.take_zero,List.drop_succ_cons,List.drop_zero]
  repeat (go_big_quiet_step ((go_at_call 254;exact Calls.quiet_of_same (adapt_any o1 _ _ (by omega) (by simp)))))
  refine wpQuiet_nil ?_
  intro _ ah
  obtain ⟨ao,rfl⟩:=ah
  go_wp2
  go_ret
  refine ⟨rfl,g',?_,?_,ay⟩
  ·rw [am.out]
   refine ⟨_,_,(ag.drewN ao).far (p:=⟨h,ctx,none⟩) az.symm _,(ap.drewN ao).far (p:=⟨h,ctx,none⟩) an _,?_⟩
   simp only
   rw [List.map_set]
   exact (af.drewN ao).set_ (i:=ctx) (by simpa using hctx) _
  ·refine Chg.setCell (Chg.drewN ?_ _) (by simp) _
   exact ((zR _ _).drewN nq).trans ak (by simp)
def LitOk (d:Nat) (t:Tok):Prop:=0<=t.lit/\t.lit<2^d
theorem lit_zero (d a b:Nat):LitOk d ⟨a,b,0⟩:=⟨Int.le_refl _,two_pow_pos' d⟩
theorem lOne_lit {d cp at_ n:Nat} {D:List Nat} {p:List Nat × List Tok} (h:∀ t∈p.2,LitOk d t):∀ t∈(lOne cp at_ D n p).2,LitOk d t:=by
 unfold lOne
 split
 ·exact h
 ·split
  ·intro t ht
   rcases List.mem_or_eq_of_mem_set ht with h5 | rfl
   ·exact h t h5
   ·exact lit_zero d _ _
  ·exact h
theorem lPick_lit {d cp at_:Nat} {D:List Nat}:∀ f m p,(∀ t∈p.2,LitOk d t)->∀ t∈(lPick cp at_ D f m p).2,LitOk d t
 | 0,_,_,h=>h
 | f+1,m,p,h=>lPick_lit f (m+1) _ (lOne_lit h)
theorem lStep_lit {d lit cp k:Nat} {l:List Int} (hs:SmpOk d l) {s:LSt} (h:∀ t∈s.first,LitOk d t):∀ t∈(lStep l lit cp k s).first,LitOk d t:=by
 refine lPick_lit 65 0 _ fun t ht => ?_
 rcases List.mem_or_eq_of_mem_set ht with h5 | rfl
 ·exact h t h5
 ·exact getD_ok hs k
theorem lGo_lit {d lit cp:Nat} {l:List Int} (hs:SmpOk d l):∀ k s,(∀ t∈s.first,LitOk d t)->∀ t∈(lGo l lit cp k s).first,LitOk d t
 | 0,_,h=>h
 | k+1,s,h=>lGo_lit hs k _ (lStep_lit hs h)
theorem tokGo_all {Q:Tok->Prop} {F:List Tok} (h:∀ t∈F,Q t) {n:Nat} (hn:n<=F.length):∀ f i,∀ t∈tokGo F n f i,Q t
 | 0,_,t,ht=>by simp [tokGo] at ht
 | f+1,i,t,ht=>by
  unfold tokGo at ht
  split at ht
  ·rename_i hi
   rcases zJ.1 ht with rfl | h1
   ·unfold tokAt
    rw [zD,zF (by omega)]
    exact h _ (zG _)
   ·exact tokGo_all h hn f _ t h1
  ·simp at ht
theorem leastF_lit {d:Nat} {l:List Int} (hs:SmpOk d l) (lit cp:Nat):∀ t∈leastF l lit cp,LitOk d t :=
 tokGo_all (lGo_lit hs _ _ fun t ht=>by
  have:t=⟨0,0,0⟩:=List.eq_of_mem_replicate ht
  rw [this]
  exact lit_zero d _ _) (by
   have:=(leastSt_ok l lit cp).pair.fl
   unfold leastSt at this
   rw [this]
   exact zQ _) _ _
theorem leastF_tok {d:Nat} {l:List Int} (hs:SmpOk d l) (lit cp:Nat):∀ t∈leastF l lit cp,TokOk d t:=by
 intro t ht
 have h1:=leastF_ok l lit cp t ht
 have h2:=leastF_lit hs lit cp t ht
 unfold Tok.ok at h1
 unfold TokOk
 cases hl:t.isLit with
 | true=>exact .inl ⟨rfl,h2.1,h2.2⟩
 | false =>
  right
  refine ⟨rfl,?_⟩
  rcases h1 with h1 | h1
  ·rw [hl] at h1;cases h1
  ·exact h1
theorem Chg.cell {F:List Nat} {a b:World} {p:Addr} {v:Value} (h:Chg F a b) (hp:p.block∉F) (hc:a.cell? p=some v):b.cell? p=some v:=by
 have aa:p.block<a.heap.size:=by
  rcases zZ p.block a.heap.size with h1 | h1
  ·exact h1
  ·have e:a.heap[p.block]?=none:=Array.getElem?_eq_none h1
   simp [World.cell?,e] at hc
 exact (World.cell?_of_block (w:=a) (h.block p.block aa hp)).trans hc
theorem gback_ok (l R:List Int) (ks:List Nat) (A AK:Option Addr) (cap capk W H d:Nat) (w:World) (hw0:1<=W) (hw1:W<=64) (hh0:1<=H) (hh1:H<=64) (h0:1<=d) (h1:d<=16) (hl:l.length=W*H) (hs:SmpOk d l)
  (hR:R.length=W*H) (hRs:SmpOk d R) (hRi:∀ y x,y<H->x<W->R.getD (y*W+x) 0=restAt l W d (ks.getD y 0) y x) (hkl:ks.length=H) (hks:∀ k∈ks,k<10) (hc:Cells vi w A R) (hk:Cells i64 w AK ks) :
  Calls Tryz.prog 226 #[.slice A R.length cap,.int .i64 W,.int .i64 H,.int .i64 d,.slice AK ks.length capk] w fun e w'=>∃ v g,e=.returned (.tuple #[v,.int .i64 0])/\Row w' 3 v g (l.map vi)/\Chg [] w w'/\w.heap.size<=g:=by
 obtain ⟨n,hn⟩:=zX (W*H)
 have a8:n<=4096:=by rw [hn];exact zL hw1 hh1
 have a3:n<=64*W:=by rw [hn,zY];exact Nat.mul_le_mul_right W hh1
 have au:=isPlane_yes R A cap W H d w hw0 hw1 hh0 hh1 h0 h1 hR hRs hc
 have aA:=areKinds_yes ks AK capk w hks (by omega) hk
 have bb:=run_make1 (P:=Tryz.prog) int_elem rfl .i64 .i64 n (by omega) (by omega)
 have aa:=Row.zeros w n (by omega)
 obtain ⟨B,hB⟩:=zX (w.heap.size)
 have aJ:Chg [] w (w.alloc (.cells (List.replicate n (Value.int .i64 0)).toArray 3)):=(zR [] w).alloc _
 rw [<-hB] at aa
 rw [hkl] at aA ⊢
 rw [hR,<-hn] at au ⊢
 have HN:=hid hn
 have HR:=hid (hR.trans hn.symm)
 have HL:=hid (hl.trans hn.symm)
 have aS:=hid hkl
 have HS:=hid hs
 have aZ:=hid hRi
 have a1:=hid hks
 have HC:=hid hc
 have aW:=hid hRs
 have HK:=hid hk
 have HB:=hid hB
 clear hn hR hl hkl hs hRi hks hc hk hB hRs
 go_enter Tryz.func226,Tryz.ntmps226
 go_wp2_with (first | (go_at_call 194;refine au.mono ?_;rintro e w' ⟨rfl,rfl⟩) | (go_at_call 197;refine aA.mono ?_;rintro e w' ⟨rfl,rfl⟩))
 rw [<-HB.out]
 go_loopg [38] n (fun j iv wr=>∃ i:Nat,iv=.int .i64 i/\i+j=n/\Row wr 3 (.slice (some ⟨B,0,none⟩) n n) B ((fillL (l.take i) n).map vi)/\Chg [] w wr)
 case atStart=>exact ⟨0,rfl,by omega,aa,aJ⟩
 case round =>
  clear aa aJ au aA
  obtain ⟨i,rfl,a9,ab,ak⟩:=hrel
  rcases gk with _ | j
  ·obtain rfl:i=n:=by omega
   have e:fillL (l.take i) i=l:=by
    have:=fill_all l
    rw [HL.out] at this
    exact this
   rw [e] at ab
   go_wp2
   refine bodyPost_ret (v:=.tuple #[.slice (some ⟨B,0,none⟩) i i,.int .i64 0]) (by simp [results,Tryz.results226,go_sem]) rfl ?_
   exact ⟨_,B,rfl,ab,ak,by have:=HB.out;omega⟩
  ·have an:i<n:=by omega
   obtain ⟨x,hx⟩:=zX (i%W)
   obtain ⟨y,hy⟩:=zX (i / W)
   have ar:x<W:=by rw [hx];exact Nat.mod_lt _ (by omega)
   have aH:y<H:=by rw [hy];exact Nat.div_lt_of_lt_mul (by have:=HN.out;omega)
   have ah:y*W+x=i:=by rw [hx,hy,zY];exact Nat.div_add_mod i W
   have aT:(i:Int)%(W:Int)=(x:Int):=by rw [hx];simp
   have aR:(i:Int) / (W:Int)=(y:Int):=by rw [hy];simp
   have a5:(i:Int).tmod (W:Int)=(x:Int):=by rw [Int.tmod_eq_emod_of_nonneg (by omega)];exact aT
   have bd:(i:Int).tdiv (W:Int)=(y:Int):=by rw [Int.tdiv_eq_ediv_of_nonneg (by omega)];exact aR
   have aN:(W:Int)≠0:=by omega
   have ae:(fillL (l.take i) n).length=n:=fillL_len (by rw [zI];omega)
   have aL:nbr (fillL (l.take i) n) W x y=nbr l W x y:=by
    have:=nbr_fill (l:=l) ar ah (by rw [HL.out];omega)
    rw [HL.out] at this
    exact this
   have am:=fun w' (h:Chg [] wr w')=>near_ok (fillL (l.take i) n) (some ⟨B,0,none⟩) n W x y w' hw0 hw1 ar (by omega) (by rw [ah,ae];omega) (ab.toOwn.cells.same h) (by omega)
   rw [ae,aL] at am
   obtain ⟨k,ai⟩:=zX (ks.getD y 0)
   have aq:y<ks.length:=by rw [aS.out];exact aH
   have aw:k<10:=by rw [ai,zD,zF aq];exact a1.out _ (zG _)
   have ap:=fun w'=>one_ok k (nbr l W x y) d w' aw h0 h1 (nbr_ok HS.out W x y)
   have af:=back_one HS.out W k y x
   have aB:=aZ.out y x aH ar
   rw [<-ai,ah] at aB
   rw [ah] at af
   obtain ⟨g,hg⟩:=zX (nbr l W x y)
   rw [<-hg] at am ap af
   obtain ⟨gs,ax⟩:=zX (guessI k g d)
   have aj:=guessI_ok (d:=d) (g:=g) (by rw [hg];exact nbr_ok HS.out W x y) k
   rw [<-ax] at aj
   rw [<-ax] at ap af
   rw [<-aB] at af
   obtain ⟨r,hr⟩:=zX (R.getD i 0)
   rw [<-hr] at af
   obtain ⟨bk,ok,rfl,ag⟩:=(HK.out.same ak).at_ aq
   have aF:wr.cell? ⟨bk,ok+y,none⟩=some (.int .i64 k):=by
    rw [ag,ai,zD,zF aq];rfl
   have az:i<R.length:=by rw [HR.out];exact an
   obtain ⟨ba,oa,rfl,al⟩:=(HC.out.same ak).at_ az
   have ao:wr.cell? ⟨ba,oa+i,none⟩=some (.int .i64 r):=by
    rw [al,hr,zD,zF az];rfl
   clear ag al az
   have a7:wrap64 (r+gs)=r+gs:=by
    have h3:=getD_ok aW.out i
    rw [<-hr] at h3
    have h4:=aj
    have hp:(2:Int)^d<=65536:=by
     have:=Nat.pow_le_pow_right (n:=2) (by decide) h1
     have e:((2^d:Nat):Int)=(2:Int)^d:=by simp
     omega
    exact IntWalk.wrap64_in _ (by omega)
   have aO:=hid am
   have aY:=hid ap
   have aQ:=hid ao
   have aP:Hid (l.take (i+1)=l.take i++[wrapI (r+gs) d]):=hid (by
    have aM:i<l.length:=by rw [HL.out];exact an
    rw [af,zD,zF aM]
    exact take_snoc' l aM)
   have ay:Hid ((l.take i).length=i):=hid (by rw [zI,HL.out];omega)
   have aK:=hid af
   have bc:=hid hr
   have a6:=hid ai
   have av:=hid ab
   have a2:=hid ak
   have a4:=hid ae
   clear hx hy ah aL am ap af aB hg ax hr ai ab ak ae
   go_wp2_with fail
   go_quiet (fail)
   go_wp2_with fail
   refine (aO.out _ ((zR [] wr).drewN nq)).mono ?_
   obtain ⟨ga,gb,gc,ge⟩:=g
   rintro e w1 ⟨rfl,q,rfl⟩
   obtain ⟨wy,aC⟩:=zX ((wr.drewN nq).drewN q)
   have aI:Chg [] wr wy:=by rw [aC];exact ((zR [] wr).drewN nq).drewN q
   rw [<-aC]
   have aF:=aI.cell (by simp) aF
   clear ao aC
   go_wp2_with fail
   refine (aY.out _).mono ?_
   rintro e w2 ⟨rfl,aU⟩
   have aG:Chg [] wr w2:=aI.trans_same aU
   have ao:=aG.cell (by simp) aQ.out
   have aE:=fun w'=>wrap_ok (r+gs) d w' h0 h1
   rw [aK.out] at aE
   go_wp2_with fail
   refine (aE _).mono ?_
   rintro e w3 ⟨rfl,rfl⟩
   have ad:=av.out.chg aG (by simp)
   obtain ⟨aV,a0⟩:=ad.fill_cell (by rw [ay.out];exact an)
   have ac:=ad.fill (by rw [ay.out];exact an) (l.getD i 0)
   rw [ay.out] at aV a0 ac
   have aX:=hid ac
   clear ad ac ao aE aF
   go_wp2_with fail
   go_roundg j
   case measure=>omega
   case rel =>
    have aD:Chg [B] w2 (w2.setCell ⟨B,i,none⟩ (.int .i64 (l.getD i 0))):=(zR _ _).setCell (.inl (by simp)) _
    refine ⟨i+1,by go_num,by omega,?_,(a2.out.trans_same aG).trans aD fun z hz => .inr (by have:=HB.out;simp at hz;omega)⟩
    have e:=aP.out
    rw [aK.out] at e
    rw [e]
    exact aX.out
end Go.Proofs.YtepjepkgcdfboaaGreatDoor
