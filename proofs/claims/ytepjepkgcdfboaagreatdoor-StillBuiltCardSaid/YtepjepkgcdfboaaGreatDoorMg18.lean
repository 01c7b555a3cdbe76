/- Put of package match in plain Lean. No program. -/
import Derived.Test.YtepjepkgcdfboaaGreatDoorMg04
import Derived.Test.YtepjepkgcdfboaaGreatDoorMg31
set_option linter.unusedVariables false
set_option linter.unusedSimpArgs false
set_option maxHeartbeats 4000000
set_option maxRecDepth 100000
namespace Go.Proofs.YtepjepkgcdfboaaGreatDoor
open Go.RowKit
def lenOf (t:Tok):Int:=a1l (t.len-3)
def a7c (W:Nat) (t:Tok):Int:=a1l (b4z t.dist W-1)
def a0h (T:List Tok):List Int:=T.flatMap fun t=>if t.isLit then [] else [lenOf t]
def a0l (W:Nat) (T:List Tok):List Int:=T.flatMap fun t=>if t.isLit then [] else [a7c W t]
def a2v (k j W d:Nat) (t:Tok):List Nat:=if t.isLit then a0b 0 1++a0b t.lit.toNat d else a0b 1 1++a4d k (lenOf t)++a4d j (a7c W t)
def a3h (T:List Tok) (W d:Nat):List Nat :=
 a0b (a6u (a0h T)) 5++a0b (a6u (a0l W T)) 5++T.flatMap (a2v (a6u (a0h T)) (a6u (a0l W T)) W d)
def c3j (d:Nat) (t:Tok):Prop:=(t.isLit=true/\0<=t.lit/\t.lit<2^d)\/(t.isLit=false/\t.isCopy=true)
theorem c3j.ok {d:Nat} {t:Tok} (h:c3j d t):t.ok:=by
 rcases h with h | h
 ·exact .inl h.1
 ·exact .inr h.2
theorem b2i {u:Nat} (h:u<=1073741823):a2e (a1l u):=by
 unfold a2e a1l
 split<;>omega
theorem c5i {t:Tok} (h:t.isCopy=true):a2e (lenOf t):=by
 have:=Tok.isCopy_iff.1 h
 exact b2i (by omega)
theorem c0k {t:Tok} (W:Nat) (h:t.isCopy=true):a2e (a7c W t):=by
 have h1:=Tok.isCopy_iff.1 h
 have h2:=(c6l (d:=t.dist) (W:=W) (by omega)).1
 exact b2i (by omega)
theorem c6n {d:Nat} {T:List Tok} (h:∀ t∈T,c3j d t):∀ x∈a0h T,a2e x:=fun x hx=>by
 obtain ⟨t,ht,hxt⟩:=List.mem_flatMap.1 hx
 rcases h t ht with h1 | h1
 ·rw [if_pos h1.1] at hxt;simp at hxt
 ·rw [if_neg (by simp [h1.1])] at hxt
  rw [zU.1 hxt]
  exact c5i h1.2
theorem c3o {d W:Nat} {T:List Tok} (h:∀ t∈T,c3j d t):∀ x∈a0l W T,a2e x:=fun x hx=>by
 obtain ⟨t,ht,hxt⟩:=List.mem_flatMap.1 hx
 rcases h t ht with h1 | h1
 ·rw [if_pos h1.1] at hxt;simp at hxt
 ·rw [if_neg (by simp [h1.1])] at hxt
  rw [zU.1 hxt]
  exact c0k W h1.2
theorem b8a (T:List Tok):(a0h T).length<=T.length:=by
 induction T with
 | nil=>exact zQ _
 | cons t T ih =>
  have e:a0h (t::T)=(if t.isLit then [] else [lenOf t])++a0h T:=rfl
  rw [e,zC]
  split<;>simp<;>omega
theorem b0i (W:Nat) (T:List Tok):(a0l W T).length=(a0h T).length:=by
 induction T with
 | nil=>rfl
 | cons t T ih =>
  have e:a0h (t::T)=(if t.isLit then [] else [lenOf t])++a0h T:=rfl
  have e2:a0l W (t::T)=(if t.isLit then [] else [a7c W t])++a0l W T:=rfl
  rw [e,e2,zC,zC,ih]
  split<;>rfl
theorem b5b (T:List Tok) (t:Tok):a0h (T++[t])=a0h T++(if t.isLit then [] else [lenOf t]):=by simp [a0h]
theorem c3n (W:Nat) (T:List Tok) (t:Tok):a0l W (T++[t])=a0l W T++(if t.isLit then [] else [a7c W t]):=by simp [a0l]
theorem d3a (T:List Tok) {i:Nat} {t:Tok} (h:T[i]?=some t) (hl:t.isLit=false) :
  (a0h T)[(a0h (T.take i)).length]?=some (lenOf t):=by
 have hi:i<T.length:=(List.getElem?_eq_some_iff.1 h).1
 have e:T=T.take i++t::T.drop (i+1):=by
  have h2:=(List.getElem?_eq_some_iff.1 h).2
  rw [<-h2,<-List.drop_eq_getElem_cons hi,List.take_append_drop]
 have e2:a0h T=a0h (T.take i)++(lenOf t::a0h (T.drop (i+1))):=by
  have e3:∀ a b:List Tok,a0h (a++b)=a0h a++a0h b:=fun a b=>by simp [a0h]
  have e4:a0h (t::T.drop (i+1))=(if t.isLit then [] else [lenOf t])++a0h (T.drop (i+1)):=rfl
  rw [hl] at e4
  rw [show a0h T=a0h (T.take i++t::T.drop (i+1)) from congrArg a0h e,e3,e4]
  rfl
 rw [e2,zS (zQ _),Nat.sub_self]
 rfl
theorem c9w (W:Nat) (T:List Tok) {i:Nat} {t:Tok} (h:T[i]?=some t) (hl:t.isLit=false) :
  (a0l W T)[(a0h (T.take i)).length]?=some (a7c W t):=by
 have hi:i<T.length:=(List.getElem?_eq_some_iff.1 h).1
 have e:T=T.take i++t::T.drop (i+1):=by
  have h2:=(List.getElem?_eq_some_iff.1 h).2
  rw [<-h2,<-List.drop_eq_getElem_cons hi,List.take_append_drop]
 have e2:a0l W T=a0l W (T.take i)++(a7c W t::a0l W (T.drop (i+1))):=by
  have e3:∀ a b:List Tok,a0l W (a++b)=a0l W a++a0l W b:=fun a b=>by simp [a0l]
  have e4:a0l W (t::T.drop (i+1))=(if t.isLit then [] else [a7c W t])++a0l W (T.drop (i+1)):=rfl
  rw [hl] at e4
  rw [show a0l W T=a0l W (T.take i++t::T.drop (i+1)) from congrArg (a0l W) e,e3,e4]
  rfl
 rw [e2,<-b0i W,zS (zQ _),Nat.sub_self]
 rfl
theorem d4v {k j W d:Nat} (hk:k<=25) (hj:j<=25) (hd:d<=16) (t:Tok):(a2v k j W d t).length<=131:=by
 unfold a2v
 have h1:=a6j k (lenOf t) hk
 have h2:=a6j j (a7c W t) hj
 split
 ·rw [zC,a0a,a0a];omega
 ·rw [zC,zC,a0a,a5x,a5x];omega
theorem d3h {α:Type} (f:α->List Nat) (B:Nat) (h:∀ a,(f a).length<=B) (l:List α):(l.flatMap f).length<=B*l.length:=by
 induction l with
 | nil=>simp
 | cons a l ih =>
  rw [List.flatMap_cons,zC,zK,Nat.mul_add,Nat.mul_one]
  have:=h a
  omega
theorem c7f (T:List Tok) (W d:Nat) (hd:d<=16):(a3h T W d).length<=10+131*T.length:=by
 unfold a3h
 have h1:=d3h (a2v (a6u (a0h T)) (a6u (a0l W T)) W d) 131 (fun t=>d4v (a8p _) (a8p _) hd t) T
 rw [zC,zC,a0a,a0a]
 omega
theorem b2y (d:Nat) (w:World) (h0:1<=d) (h1:d<=16):Calls Tryz.prog 203 #[.int .i64 d] w fun e w'=>e=.returned (.bool true)/\w=w':=by
 have t1:decide ((1:Int)<=(d:Int))=true:=zB (by omega)
 have t2:decide ((d:Int)<=16)=true:=zB (by omega)
 go_enter Tryz.func203,Tryz.ntmps203
 go_wp2
 go_ret
 exact ⟨rfl,rfl⟩
theorem c1c (c:Nat) (w:World) (h1:c<365):Calls Tryz.prog 208 #[.int .i64 c] w fun e w'=>e=.returned (.bool true)/\w=w':=by
 have t1:decide ((0:Int)<=(c:Int))=true:=zB (by omega)
 have t2:decide ((c:Int)<365)=true:=zB (by omega)
 go_enter Tryz.func208,Tryz.ntmps208
 go_wp2
 go_ret
 exact ⟨rfl,rfl⟩
theorem c4o (x:Int) (w:World) (h:c5k x):Calls Tryz.prog 209 #[.int .i64 x] w fun e w'=>e=.returned (.int .i64 (b0e x))/\w=w':=by
 obtain ⟨h1,h2⟩:=h
 by_cases hx:x<0
 ·have t1:decide (x<0)=true:=zB hx
  have hd:b0e x=-x:=by unfold b0e;rw [if_pos hx]
  have HD:=hid hd
  clear hd
  go_enter Tryz.func209,Tryz.ntmps209
  go_wp2
  go_ret
  rw [HD.out]
  exact ⟨rfl,rfl⟩
 ·have t1:decide (x<0)=false:=zA hx
  have hd:b0e x=x:=by unfold b0e;rw [if_neg hx]
  have HD:=hid hd
  clear hd
  go_enter Tryz.func209,Tryz.ntmps209
  go_wp2
  go_ret
  rw [HD.out]
  exact ⟨rfl,rfl⟩
theorem c7d (g:Int) (d:Nat) (w:World) (h0:1<=d) (h1:d<=16) (hg0 : -2^d<g) (hg1:g<2^d):Calls Tryz.prog 272 #[.int .i64 g,.int .i64 d] w fun e w'=>e=.returned (.int .i64 (a2o g d))/\w=w':=by
 obtain ⟨al,an⟩:=a9c h0 h1
 have t1:decide (g<=(-2^d:Int))=false:=zA (by omega)
 have t2:decide ((2:Int)^d<=g)=false:=zA (by omega)
 have hv:=b2y d w h0 h1
 by_cases hz:g=0
 ·have t3:(g==0)=true:=by rw [beq_iff_eq];exact hz
  have hd:a2o g d=0:=by unfold a2o;rw [if_pos hz]
  have HD:=hid hd
  clear hd hz
  go_enter Tryz.func272,Tryz.ntmps272
  go_wp2_with (go_at_call 203;refine hv.mono ?_;rintro e w' ⟨rfl,rfl⟩)
  go_ret
  rw [HD.out]
  exact ⟨rfl,rfl⟩
 ·have t3:(g==0)=false:=by rw [beq_eq_false_iff_ne];exact hz
  have ha:=c4o g w (by unfold c5k;omega)
  have ae:0<=b0e g/\b0e g<=65536:=by unfold b0e;split<;>omega
  have hd:a2o g d=if g<0 then -d1y (b0e g*256 / 2^d) else d1y (b0e g*256 / 2^d):=by unfold a2o;rw [if_neg hz]
  obtain ⟨a,ah⟩:=zX (b0e g)
  rw [<-ah] at ha ae hd
  obtain ⟨ak,aj⟩:=ae
  obtain ⟨u,hu⟩:=zX (a*256 / 2^d)
  have ao:0<=u:=by rw [hu];exact Int.ediv_nonneg (by omega) (by omega)
  rw [<-hu] at hd
  have am:a*256 / 2^d=u:=hu.symm
  have ai:u<=a*256:=by rw [hu];exact Int.ediv_le_self _ (by omega)
  obtain ⟨st,ad⟩:=zX (d1y u)
  have af:st=if u<3 then 1 else if u<7 then 2 else if u<21 then 3 else 4:=by rw [ad];rfl
  rw [<-ad] at hd
  have HD:=hid hd
  have HS:=hid af
  clear hd ad af hu ah
  have ag:∀ k:Int,st=k->-4<=k->k<=4->Hid (a2o g d=if g<0 then -k else k):=fun k hk _ _=>hid (by rw [HD.out,hk])
  have tn:∀ (h:g<0),decide (g<0)=true:=fun h=>zB h
  have tp:∀ (h:¬ g<0),decide (g<0)=false:=fun h=>zA h
  have ab:=hid tn
  have ac:=hid tp
  have aa:=hid ag
  clear tn tp ag HD
  by_cases u3:u<3
  ·have c1:decide (u<3)=true:=zB u3
   have hs:=HS.out
   rw [if_pos u3] at hs
   have HK:=aa.out 1 hs (by omega) (by omega)
   clear hs
   by_cases hn:g<0
   ·have t4:=ab.out hn
    rw [if_pos hn] at HK
    go_enter Tryz.func272,Tryz.ntmps272
    go_wp2_with (first | (go_at_call 203;refine hv.mono ?_;rintro e w' ⟨rfl,rfl⟩) | (go_at_call 209;refine ha.mono ?_;rintro e w' ⟨rfl,rfl⟩))
    go_ret
    rw [HK.out]
    exact ⟨rfl,rfl⟩
   ·have t4:=ac.out hn
    rw [if_neg hn] at HK
    go_enter Tryz.func272,Tryz.ntmps272
    go_wp2_with (first | (go_at_call 203;refine hv.mono ?_;rintro e w' ⟨rfl,rfl⟩) | (go_at_call 209;refine ha.mono ?_;rintro e w' ⟨rfl,rfl⟩))
    go_ret
    rw [HK.out]
    exact ⟨rfl,rfl⟩
  ·have c1:decide (u<3)=false:=zA u3
   by_cases u7:u<7
   ·have c2:decide (u<7)=true:=zB u7
    have hs:=HS.out
    rw [if_neg u3,if_pos u7] at hs
    have HK:=aa.out 2 hs (by omega) (by omega)
    clear hs
    by_cases hn:g<0
    ·have t4:=ab.out hn
     rw [if_pos hn] at HK
     go_enter Tryz.func272,Tryz.ntmps272
     go_wp2_with (first | (go_at_call 203;refine hv.mono ?_;rintro e w' ⟨rfl,rfl⟩) | (go_at_call 209;refine ha.mono ?_;rintro e w' ⟨rfl,rfl⟩))
     go_ret
     rw [HK.out]
     exact ⟨rfl,rfl⟩
    ·have t4:=ac.out hn
     rw [if_neg hn] at HK
     go_enter Tryz.func272,Tryz.ntmps272
     go_wp2_with (first | (go_at_call 203;refine hv.mono ?_;rintro e w' ⟨rfl,rfl⟩) | (go_at_call 209;refine ha.mono ?_;rintro e w' ⟨rfl,rfl⟩))
     go_ret
     rw [HK.out]
     exact ⟨rfl,rfl⟩
   ·have c2:decide (u<7)=false:=zA u7
    by_cases u21:u<21
    ·have c3:decide (u<21)=true:=zB u21
     have hs:=HS.out
     rw [if_neg u3,if_neg u7,if_pos u21] at hs
     have HK:=aa.out 3 hs (by omega) (by omega)
     clear hs
     by_cases hn:g<0
     ·have t4:=ab.out hn
      rw [if_pos hn] at HK
      go_enter Tryz.func272,Tryz.ntmps272
      go_wp2_with (first | (go_at_call 203;refine hv.mono ?_;rintro e w' ⟨rfl,rfl⟩) | (go_at_call 209;refine ha.mono ?_;rintro e w' ⟨rfl,rfl⟩))
      go_ret
      rw [HK.out]
      exact ⟨rfl,rfl⟩
     ·have t4:=ac.out hn
      rw [if_neg hn] at HK
      go_enter Tryz.func272,Tryz.ntmps272
      go_wp2_with (first | (go_at_call 203;refine hv.mono ?_;rintro e w' ⟨rfl,rfl⟩) | (go_at_call 209;refine ha.mono ?_;rintro e w' ⟨rfl,rfl⟩))
      go_ret
      rw [HK.out]
      exact ⟨rfl,rfl⟩
    ·have c3:decide (u<21)=false:=zA u21
     have hs:=HS.out
     rw [if_neg u3,if_neg u7,if_neg u21] at hs
     have HK:=aa.out 4 hs (by omega) (by omega)
     clear hs
     by_cases hn:g<0
     ·have t4:=ab.out hn
      rw [if_pos hn] at HK
      go_enter Tryz.func272,Tryz.ntmps272
      go_wp2_with (first | (go_at_call 203;refine hv.mono ?_;rintro e w' ⟨rfl,rfl⟩) | (go_at_call 209;refine ha.mono ?_;rintro e w' ⟨rfl,rfl⟩))
      go_ret
      rw [HK.out]
      exact ⟨rfl,rfl⟩
     ·have t4:=ac.out hn
      rw [if_neg hn] at HK
      go_enter Tryz.func272,Tryz.ntmps272
      go_wp2_with (first | (go_at_call 203;refine hv.mono ?_;rintro e w' ⟨rfl,rfl⟩) | (go_at_call 209;refine ha.mono ?_;rintro e w' ⟨rfl,rfl⟩))
      go_ret
      rw [HK.out]
      exact ⟨rfl,rfl⟩
theorem b3c {P:Program} {f:FuncId} {args:Array Value} {w:World} {n:Nat} {v:Value}
  (h:Calls P f args (w.drewN n) fun e w'=>e=.returned v/\w.drewN n=w'):Calls P f args (w.drewN n) fun e w''=>e=.returned v/\∃ m,w''=w.drewN m :=
 h.mono fun _ _ ⟨he,hm⟩=>⟨he,n,hm.symm⟩
theorem d0x (g:Nbr) (d:Nat) (w:World) (h0:1<=d) (h1:d<=16) (hg:d7y d g) :
  Calls Tryz.prog 246 #[.int .i64 g.w,.int .i64 g.n,.int .i64 g.nw,.int .i64 g.ne,.int .i64 d] w fun e w'=>e=.returned (.agg #[.int .i64 (a2o (g.ne-g.n) d),.int .i64 (a2o (g.n-g.nw) d),.int .i64 (a2o (g.nw-g.w) d)])/\Chg [] w w':=by
 obtain ⟨aj,ak⟩:=a9c h0 h1
 obtain ⟨a,b,c,e⟩:=g
 obtain ⟨⟨a1,a2⟩,⟨b1,b2⟩,⟨c1,c2⟩,⟨e1,e2⟩⟩:=hg
 simp only at a1 a2 b1 b2 c1 c2 e1 e2 ⊢
 have hv:=fun w=>b2y d w h0 h1
 have u1:decide (a<0)=false:=zA (by omega)
 have u2:decide ((2:Int)^d<=a)=false:=zA (by omega)
 have u3:decide (b<0)=false:=zA (by omega)
 have u4:decide ((2:Int)^d<=b)=false:=zA (by omega)
 have u5:decide (c<0)=false:=zA (by omega)
 have u6:decide ((2:Int)^d<=c)=false:=zA (by omega)
 have u7:decide (e<0)=false:=zA (by omega)
 have u8:decide ((2:Int)^d<=e)=false:=zA (by omega)
 have i0:∀ w,(Instr.index 86 (.agg #[.int .i64 a,.int .i64 b,.int .i64 c,.int .i64 e]) (.int .i64 0)).run Tryz.prog w=.ok (.int .i64 a) w:=fun _=>by kernel_rfl
 have i1:∀ w,(Instr.index 86 (.agg #[.int .i64 a,.int .i64 b,.int .i64 c,.int .i64 e]) (.int .i64 1)).run Tryz.prog w=.ok (.int .i64 b) w:=fun _=>by kernel_rfl
 have i2:∀ w,(Instr.index 86 (.agg #[.int .i64 a,.int .i64 b,.int .i64 c,.int .i64 e]) (.int .i64 2)).run Tryz.prog w=.ok (.int .i64 c) w:=fun _=>by kernel_rfl
 have i3:∀ w,(Instr.index 86 (.agg #[.int .i64 a,.int .i64 b,.int .i64 c,.int .i64 e]) (.int .i64 3)).run Tryz.prog w=.ok (.int .i64 e) w:=fun _=>by kernel_rfl
 go_enter Tryz.func246,Tryz.ntmps246
 go_wp2_with (go_at_call 203;refine (hv _).mono ?_;rintro e w' ⟨rfl,rfl⟩)
 have aa:=Blk.new w 280 #[.int .i64 0,.int .i64 0,.int .i64 0]
 have ag:Chg [] w (w.alloc (.cells #[.int .i64 0,.int .i64 0,.int .i64 0] 280)):=(zR [] w).alloc _
 obtain ⟨B,hB⟩:=zX (w.heap.size)
 rw [<-hB] at aa ⊢
 generalize w.alloc (.cells #[.int .i64 0,.int .i64 0,.int .i64 0] 280)=w0 at *
 have HB:=hid hB
 clear hB
 go_loopg [22] 4 (fun j iv wr=>w0=wr/\((j=4/\iv=.int .i64 0)\/(j=3/\iv=.int .i64 1)\/(j=2/\iv=.int .i64 2)\/(j=1/\iv=.int .i64 3)\/(j=0/\iv=.int .i64 4)))
 case atStart=>exact ⟨rfl,.inl ⟨rfl,rfl⟩⟩
 case round =>
  obtain ⟨rfl,hrel⟩:=hrel
  rcases hrel with ⟨rfl,rfl⟩ | ⟨rfl,rfl⟩ | ⟨rfl,rfl⟩ | ⟨rfl,rfl⟩ | ⟨rfl,rfl⟩
  ·go_wp2
   go_roundg 3
   case measure=>omega
   case rel=>exact ⟨rfl,.inr (.inl ⟨rfl,rfl⟩)⟩
  ·go_wp2
   go_roundg 2
   case measure=>omega
   case rel=>exact ⟨rfl,.inr (.inr (.inl ⟨rfl,rfl⟩))⟩
  ·go_wp2
   go_roundg 1
   case measure=>omega
   case rel=>exact ⟨rfl,.inr (.inr (.inr (.inl ⟨rfl,rfl⟩)))⟩
  ·go_wp2
   go_roundg 0
   case measure=>omega
   case rel=>exact ⟨rfl,.inr (.inr (.inr (.inr ⟨rfl,rfl⟩)))⟩
  ·clear i0 i1 i2 i3 u1 u2 u3 u4 u5 u6 u7 u8
   have l0:=c7d (e-b) d w0 h0 h1 (by omega) (by omega)
   have l1:=c7d (b-c) d w0 h0 h1 (by omega) (by omega)
   have l2:=c7d (c-a) d w0 h0 h1 (by omega) (by omega)
   obtain ⟨x0,ac⟩:=zX (a2o (e-b) d)
   obtain ⟨x1,ad⟩:=zX (a2o (b-c) d)
   obtain ⟨x2,ab⟩:=zX (a2o (c-a) d)
   rw [<-ac] at l0
   rw [<-ad] at l1
   rw [<-ab] at l2
   have ae:=hid ac
   have af:=hid ad
   have ai:=hid ab
   clear ac ad ab
   have q0:=aa.cell 0
   have q1:=aa.cell 1
   have q2:=aa.cell 2
   have f0:=aa.frozen 0
   have f1:=aa.frozen 1
   have f2:=aa.frozen 2
   simp at q0 q1 q2
   go_wp2_with fail
   refine l0.mono ?_
   rintro e w' ⟨rfl,rfl⟩
   go_wp2_with fail
   refine l1.mono ?_
   rintro e w' ⟨rfl,rfl⟩
   go_wp2_with fail
   refine l2.mono ?_
   rintro e w' ⟨rfl,rfl⟩
   go_wp2_with fail
   have hF:=((aa.set_ 0 (.int .i64 x0)).set_ 1 (.int .i64 x1)).set_ 2 (.int .i64 x2)
   have ah:Chg [] w (((w0.setCell ⟨B,0,none⟩ (.int .i64 x0)).setCell ⟨B,1,none⟩ (.int .i64 x1)).setCell ⟨B,2,none⟩ (.int .i64 x2)):=((ag.setCell (.inr (by have:=HB.out;simp;omega)) _).setCell (.inr (by have:=HB.out;simp;omega)) _).setCell (.inr (by have:=HB.out;simp;omega)) _
   generalize ((w0.setCell ⟨B,0,none⟩ (.int .i64 x0)).setCell ⟨B,1,none⟩ (.int .i64 x1)).setCell ⟨B,2,none⟩ (.int .i64 x2)=wF at *
   have g0:=hF.cell 0
   have g1:=hF.cell 1
   have g2:=hF.cell 2
   simp at g0 g1 g2
   exact bodyPost_ret (v:=.agg #[.int .i64 x0,.int .i64 x1,.int .i64 x2]) (by simp [results,Tryz.results246,go_sem,g0,g1,g2]) rfl ⟨by rw [ae.out,af.out,ai.out],ah⟩
theorem d8l (g:Nbr) (d:Nat) (w:World) (h0:1<=d) (h1:d<=16) (hg:d7y d g) :
  Calls Tryz.prog 204 #[.int .i64 g.w,.int .i64 g.n,.int .i64 g.nw,.int .i64 g.ne,.int .i64 d] w fun e w'=>e=.returned (.tuple #[.int .i64 (e6o g d),.bool (d4w g d)])/\Chg [] w w':=by
 have hl:=d0x g d w h0 h1 hg
 have r0:=a3t (g.ne-g.n) d
 have r1:=a3t (g.n-g.nw) d
 have r2:=a3t (g.nw-g.w) d
 have hc:f1i g d=81*a2o (g.ne-g.n) d+9*a2o (g.n-g.nw) d+a2o (g.nw-g.w) d:=rfl
 have ht:d4w g d=decide (f1i g d<0):=rfl
 have hn:((e6o g d:Nat):Int)=b0e (f1i g d):=by
  unfold e6o
  exact Int.toNat_of_nonneg (by unfold b0e;split<;>omega)
 obtain ⟨x0,ab⟩:=zX (a2o (g.ne-g.n) d)
 obtain ⟨x1,ac⟩:=zX (a2o (g.n-g.nw) d)
 obtain ⟨x2,aa⟩:=zX (a2o (g.nw-g.w) d)
 rw [<-ab,<-ac,<-aa] at hl hc
 rw [<-ab] at r0
 rw [<-ac] at r1
 rw [<-aa] at r2
 obtain ⟨n,ad⟩:=zX (f1i g d)
 rw [<-ad] at ht hn hc
 obtain ⟨ak,ag⟩:=r0
 obtain ⟨ah,al⟩:=r1
 obtain ⟨aj,am⟩:=r2
 have ae:=fun w=>c4o n w (by unfold c5k;omega)
 have HT:=hid ht
 have HN:=hid hn
 have ai:81*x0+9*x1+x2=n:=hc.symm
 clear ht hn ab ac aa ad hc
 go_enter Tryz.func204,Tryz.ntmps204
 go_wp2_with fail
 refine hl.mono ?_
 rintro e w1 ⟨rfl,af⟩
 go_wp2_with (go_at_call 209;refine (ae _).mono ?_;rintro e w' ⟨rfl,rfl⟩)
 go_ret2
 rw [HT.out,HN.out]
 exact ⟨rfl,af.alloc _⟩
theorem e6z (g:Nbr) (d:Nat) (w:World) (h0:1<=d) (h1:d<=16) (hg:d7y d g) :
  Calls Tryz.prog 192 #[.int .i64 g.w,.int .i64 g.n,.int .i64 g.nw,.int .i64 g.ne,.int .i64 d] w fun e w'=>e=.returned (.int .i64 (b3h g d))/\Chg [] w w':=by
 have hl:=d0x g d w h0 h1 hg
 have r0:=a3t (g.ne-g.n) d
 have r1:=a3t (g.n-g.nw) d
 have r2:=a3t (g.nw-g.w) d
 have hc:b3h g d=b0e (a2o (g.ne-g.n) d)+b0e (a2o (g.n-g.nw) d)+b0e (a2o (g.nw-g.w) d):=rfl
 obtain ⟨x0,ac⟩:=zX (a2o (g.ne-g.n) d)
 obtain ⟨x1,ad⟩:=zX (a2o (g.n-g.nw) d)
 obtain ⟨x2,aa⟩:=zX (a2o (g.nw-g.w) d)
 rw [<-ac,<-ad,<-aa] at hl hc
 rw [<-ac] at r0
 rw [<-ad] at r1
 rw [<-aa] at r2
 have ab:∀ x:Int,-4<=x/\x<=4->0<=b0e x/\b0e x<=4:=fun x hx=>by unfold b0e;split<;>omega
 have b0:=ab x0 r0
 have b1:=ab x1 r1
 have b2:=ab x2 r2
 have a0:=fun w=>c4o x0 w (by unfold c5k;omega)
 have a1:=fun w=>c4o x1 w (by unfold c5k;omega)
 have a2:=fun w=>c4o x2 w (by unfold c5k;omega)
 generalize b0e x0=y0 at *
 generalize b0e x1=y1 at *
 generalize b0e x2=y2 at *
 obtain ⟨aj,ak⟩:=b0
 obtain ⟨ai,ag⟩:=b1
 obtain ⟨ah,af⟩:=b2
 have HC:=hid hc
 clear ac ad aa hc ab r0 r1 r2
 go_enter Tryz.func192,Tryz.ntmps192
 go_wp2_with fail
 refine hl.mono ?_
 rintro e w1 ⟨rfl,ae⟩
 go_wp2_with fail
 go_quiet ((first | (go_at_call 209;with_reducible exact b3c (a0 _)) | (go_at_call 209;with_reducible exact b3c (a1 _)) | (go_at_call 209;with_reducible exact b3c (a2 _))))
 go_wp2
 go_ret
 rw [HC.out]
 exact ⟨rfl,(ae.alloc _).drewN _⟩
def b3l (z:Array Value) (v:Int):Array Value:=z.setIfInBounds 0 (.int .i64 v)
theorem d6t:Tryz.zeroCells239=(List.replicate 1461 (Value.int .i64 0)).toArray:=by kernel_rfl
theorem d6u:(Tryz.zeroCells239).size=1461:=by rw [d6t,List.size_toArray,zV]
theorem d3u {z:Array Value} (hz:z.size=1461) (v:Int):(b3l z v).size=1461:=by
 unfold b3l
 rw [Array.size_setIfInBounds,hz]
theorem d3t {z:Array Value} (hz:z.size=1461) (v:Int):(b3l z v)[0]?=some (.int .i64 v):=by
 unfold b3l
 rw [Array.getElem?_setIfInBounds,if_pos rfl,if_pos (by omega)]
theorem d9q {z:Array Value} (hz:z=(List.replicate 1461 (Value.int .i64 0)).toArray) (v:Int) (i:Nat) (h0:0<i) (h1:i<1461):(b3l z v)[i]?=some (.int .i64 0):=by
 unfold b3l
 rw [Array.getElem?_setIfInBounds,if_neg (by omega),hz,List.getElem?_toArray,List.getElem?_replicate,if_pos h1]
structure d2l (cs:Array Value) (d:Nat) (m:List a5k):Prop where
 size:cs.size=1461
 len:m.length=365
 depth:cs[0]?=some (.int .i64 d)
 n:∀ i s,m[i]?=some s->cs[1+i*4]?=some (.int .i64 s.n)
 a:∀ i s,m[i]?=some s->cs[1+i*4+1]?=some (.int .i64 s.a)
 b:∀ i s,m[i]?=some s->cs[1+i*4+2]?=some (.int .i64 s.b)
 c:∀ i s,m[i]?=some s->cs[1+i*4+3]?=some (.int .i64 s.c)
theorem d2l.set4 {cs:Array Value} {d:Nat} {m:List a5k} (h:d2l cs d m) {i:Nat} (hi:i<365) (s:a5k) :
  d2l ((((cs.setIfInBounds (1+i*4) (.int .i64 s.n)).setIfInBounds (1+i*4+1) (.int .i64 s.a)).setIfInBounds (1+i*4+2) (.int .i64 s.b)).setIfInBounds (1+i*4+3) (.int .i64 s.c)) d (m.set i s):=by
 have hs:=h.size
 have hl:=h.len
 refine ⟨by simp [hs],by simp [hl],?_,?_,?_,?_,?_⟩
 ·simp only [Array.getElem?_setIfInBounds]
  rw [if_neg (by omega),if_neg (by omega),if_neg (by omega),if_neg (by omega)]
  exact h.depth
 all_goals
  intro j t hj
  rw [List.getElem?_set] at hj
  simp only [Array.getElem?_setIfInBounds,Array.size_setIfInBounds,hs]
  by_cases hij:i=j
  ·subst hij
   rw [if_pos rfl,if_pos (by omega)] at hj
   injection hj with hj
   subst hj
   first
    | (rw [if_pos (by omega),if_pos (by omega)])
    | (rw [if_neg (by omega),if_pos (by omega),if_pos (by omega)])
    | (rw [if_neg (by omega),if_neg (by omega),if_pos (by omega),if_pos (by omega)])
    | (rw [if_neg (by omega),if_neg (by omega),if_neg (by omega),if_pos (by omega),if_pos (by omega)])
  ·rw [if_neg hij] at hj
   rw [if_neg (by omega),if_neg (by omega),if_neg (by omega),if_neg (by omega)]
   first | exact h.n j t hj | exact h.a j t hj | exact h.b j t hj | exact h.c j t hj
structure b0v (w:World) (b d:Nat) (m:List a5k):Prop where
 ex:∃ cs,Blk w b 239 cs/\d2l cs d m
theorem b0v.chg {w w':World} {b d:Nat} {m:List a5k} {F:List Nat} (h:b0v w b d m) (hc:Chg F w w') (hb:b∉F):b0v w' b d m:=by
 obtain ⟨cs,h1,h2⟩:=h.ex
 exact ⟨cs,h1.chg hc hb,h2⟩
theorem b0v.set4 {w:World} {b d:Nat} {m:List a5k} (h:b0v w b d m) {i:Nat} (hi:i<365) (s:a5k) :
  b0v ((((w.setCell ⟨b,1+i*4,none⟩ (.int .i64 s.n)).setCell ⟨b,1+i*4+1,none⟩ (.int .i64 s.a)).setCell ⟨b,1+i*4+2,none⟩ (.int .i64 s.b)).setCell ⟨b,1+i*4+3,none⟩ (.int .i64 s.c)) b d (m.set i s):=by
 obtain ⟨cs,h1,h2⟩:=h.ex
 exact ⟨_,(((h1.set_ _ _).set_ _ _).set_ _ _).set_ _ _,h2.set4 hi s⟩
theorem b0v.lt {w:World} {b d:Nat} {m:List a5k} (h:b0v w b d m):b<w.heap.size:=by
 obtain ⟨cs,h1,_⟩:=h.ex
 exact h1.lt
theorem b0v.cells {w:World} {b d:Nat} {m:List a5k} (h:b0v w b d m):w.cell? ⟨b,0,none⟩=some (.int .i64 d)/\(∀ i,w.frozen? ⟨b,i,none⟩=false) /\
  ∀ i s,m[i]?=some s->w.cell? ⟨b,1+i*4,none⟩=some (.int .i64 s.n)/\w.cell? ⟨b,1+i*4+1,none⟩=some (.int .i64 s.a)/\w.cell? ⟨b,1+i*4+2,none⟩=some (.int .i64 s.b)/\w.cell? ⟨b,1+i*4+3,none⟩=some (.int .i64 s.c):=by
 obtain ⟨cs,h1,h2⟩:=h.ex
 refine ⟨by rw [h1.cell];exact h2.depth,h1.frozen,fun i s hs=>⟨?_,?_,?_,?_⟩⟩
 ·rw [h1.cell];exact h2.n i s hs
 ·rw [h1.cell];exact h2.a i s hs
 ·rw [h1.cell];exact h2.b i s hs
 ·rw [h1.cell];exact h2.c i s hs
theorem e3s (b d:Nat) (m:List a5k) (ctx:Nat) (p:Int) (t:Bool) (w:World) (h:b0v w b d m) (hm:a8t m) (h0:1<=d) (h1:d<=16) (hc:ctx<365) (hp0:0<=p) (hp1:p<2^d) :
  Calls Tryz.prog 205 #[.pointer (some ⟨b,0,none⟩),.int .i64 ctx,.int .i64 p,.bool t] w fun e w'=>e=.returned (.int .i64 (b3i (a3e m ctx) p t d))/\w=w':=by
 obtain ⟨ae,af⟩:=a9c h0 h1
 obtain ⟨hg,ac⟩:=a6e hm hc
 obtain ⟨q0,_,aa⟩:=h.cells
 obtain ⟨_,_,_,qc⟩:=aa ctx _ hg
 have c0:=ac.c0
 have c1:=ac.c1
 have ab:b3i (a3e m ctx) p t d=min (max (p+(if t then -(a3e m ctx).c else (a3e m ctx).c)) 0) (2^d-1):=rfl
 obtain ⟨s,hs⟩:=zX ((a3e m ctx).c)
 rw [<-hs] at qc c0 c1 ab
 have HD:=hid ab
 have t1:decide (p<0)=false:=zA (by omega)
 have t2:decide ((2:Int)^d-1<p)=false:=zA (by omega)
 have ad:=c1c ctx w hc
 clear ab hs hg ac aa h
 cases t with
 | false =>
  go_enter Tryz.func205,Tryz.ntmps205
  go_wp2_with (go_at_call 208;refine ad.mono ?_;rintro e w' ⟨rfl,rfl⟩)
  all_goals
   go_ret
   rw [HD.out]
   exact ⟨congrArg (fun z=>Ending.returned (.int .i64 z)) (show _=min (max (p+s) 0) (2^d-1) by omega),rfl⟩
 | true =>
  go_enter Tryz.func205,Tryz.ntmps205
  go_wp2_with (go_at_call 208;refine ad.mono ?_;rintro e w' ⟨rfl,rfl⟩)
  all_goals
   go_ret
   rw [HD.out]
   exact ⟨congrArg (fun z=>Ending.returned (.int .i64 z)) (show _=min (max (p + -s) 0) (2^d-1) by omega),rfl⟩
theorem f3u (b d:Nat) (m:List a5k) (ctx:Nat) (w:World) (h:b0v w b d m) (hm:a8t m) (hc:ctx<365) :
  Calls Tryz.prog 156 #[.pointer (some ⟨b,0,none⟩),.int .i64 ctx] w fun e w'=>e=.returned (.int .i64 (kOf (a3e m ctx)))/\∃ n,w'=w.drewN n:=by
 obtain ⟨hg,ab⟩:=a6e hm hc
 obtain ⟨_,_,aa⟩:=h.cells
 obtain ⟨qn,qa,_,_⟩:=aa ctx _ hg
 have n0:=ab.n0
 have n1:=ab.n1
 have a0:=ab.a0
 have a1:=ab.a1
 obtain ⟨s,hs⟩:=zX (a3e m ctx)
 rw [<-hs] at qn qa n0 n1 a0 a1 ab ⊢
 have ao:=c1c ctx w hc
 have ad:kOf s=b8y s 16 0:=rfl
 obtain ⟨sn,ae⟩:=zX (s.n)
 obtain ⟨sa,ai⟩:=zX (s.a)
 rw [<-ae] at qn n0 n1 a1
 rw [<-ai] at qa a0 a1
 have HD:=hid ad
 have aj:=hid ae
 have af:=hid ai
 have ak:=hid ab
 clear ad hs hg ab aa h ae ai hm
 go_enter Tryz.func156,Tryz.ntmps156
 go_wp2_with (go_at_call 208;refine ao.mono ?_;rintro e w' ⟨rfl,rfl⟩)
 go_loopg [5] 16 (fun j v wr=>∃ (k n:Nat),v=.int .i64 k/\k+j=16/\Hid (kOf s=b8y s j k)/\wr=w.drewN n)
 case atStart=>exact ⟨0,0,rfl,rfl,HD,rfl⟩
 case round =>
  obtain ⟨k,nd,rfl,ap,Hk,rfl⟩:=hrel
  have aq:=a0i k
  by_cases hlt:sn*2^k<sa
  ·have ag:k<15:=e8e ak.out (by rw [<-aj.out,<-af.out];exact hlt)
   have an:(2:Int)^k<=32768:=by
    have:=Nat.pow_le_pow_right (n:=2) (by decide) (show k<=15 by omega)
    have e:(2:Int)^k<=2^15:=by exact_mod_cast this
    exact e
   have am:0<=sn*2^k:=Int.mul_nonneg (by omega) (by omega)
   have al:sn*2^k<=64*32768:=Int.le_trans (Int.mul_le_mul_of_nonneg_right n1 (by omega)) (by omega)
   have hw:IntKind.i64.wrap (sn*2^k)=sn*2^k:=IntWalk.i64_in _ (by omega)
   have t1:decide (sn*2^k<sa)=true:=zB hlt
   obtain ⟨g,rfl⟩:∃ g,gk=g+1:=⟨gk-1,by omega⟩
   have ac:kOf s=b8y s g (k+1):=by rw [Hk.out,d9b (by rw [<-aj.out,<-af.out];exact hlt)]
   have ah:=hid ac
   clear ac hlt
   go_wp2_with fail
   go_quiet (fail)
   go_wp2
   go_roundg g
   case measure=>omega
   case rel=>exact ⟨k+1,_,by go_num,by omega,ah,rfl⟩
  ·have ac:=d9c (s:=s) (k:=k) (by rw [<-aj.out,<-af.out];exact hlt) gk
   rw [<-Hk.out] at ac
   have ah:=hid ac
   have ag:k<=15:=by have:=d6j ak.out;omega
   have an:(2:Int)^k<=32768:=by
    have:=Nat.pow_le_pow_right (n:=2) (by decide) (show k<=15 by omega)
    have e:(2:Int)^k<=2^15:=by exact_mod_cast this
    exact e
   have am:0<=sn*2^k:=Int.mul_nonneg (by omega) (by omega)
   have al:sn*2^k<=64*32768:=Int.le_trans (Int.mul_le_mul_of_nonneg_right n1 (by omega)) (by omega)
   have hw:IntKind.i64.wrap (sn*2^k)=sn*2^k:=IntWalk.i64_in _ (by omega)
   have t1:decide (sn*2^k<sa)=false:=zA hlt
   clear ac hlt
   go_wp2_with fail
   go_quiet (fail)
   go_wp2
   go_ret
   rw [ah.out]
   exact ⟨rfl,nd+nq,by rw [World.drewN_drewN]⟩
theorem e3x {wr:World} {B d k j nq:Nat} {va:Int} (hmd:b0v wr B d (List.replicate k (a8b d)++List.replicate (j+1) ⟨0,0,0,0⟩)) (hk:k<365) (hva:va=d7q d) :
  b0v (((((wr.drewN nq).setCell ⟨B,1+k*4,none⟩ (.int .i64 1)).setCell ⟨B,1+k*4+1,none⟩ (.int .i64 va)).setCell ⟨B,1+k*4+2,none⟩ (.int .i64 0)).setCell ⟨B,1+k*4+3,none⟩ (.int .i64 0)) B d (List.replicate (k+1) (a8b d)++List.replicate j ⟨0,0,0,0⟩):=by
 have h1:=(hmd.chg ((zR [] wr).drewN nq) (by simp)).set4 hk (a8b d)
 have e:(List.replicate k (a8b d)++List.replicate (j+1) (⟨0,0,0,0⟩:a5k)).set k (a8b d)=List.replicate (k+1) (a8b d)++List.replicate j ⟨0,0,0,0⟩:=by
  rw [List.set_append_right _ _ (by simp),zV,Nat.sub_self,List.replicate_succ' (n:=k)]
  simp [List.replicate_succ]
 rw [e] at h1
 subst hva
 exact h1
theorem e3w (d : Nat) (w : World) (h0 : 1 <= d) (h1 : d <= 16) :
    Calls Tryz.prog 153 #[.int .i64 d] w fun e w'=>∃ b,e=.returned (.tuple #[.pointer (some ⟨b,0,none⟩),.int .i64 0])/\b0v w' b d (b9l d)/\Chg [] w w'/\w.heap.size<=b:=by
  obtain ⟨ak,an⟩:=a9c h0 h1
  have hv:=b2y d w h0 h1
  have ae:=Blk.new w 239 (b3l Tryz.zeroCells239 (d:Int))
  have af:Chg [] w (w.alloc (.cells (b3l Tryz.zeroCells239 (d:Int)) 239)):=(zR [] w).alloc _
  have ab:b0v (w.alloc (.cells (b3l Tryz.zeroCells239 (d:Int)) 239)) w.heap.size d (List.replicate 365 ⟨0,0,0,0⟩):=by
    have hr:∀ i s,(List.replicate 365 (⟨0,0,0,0⟩:a5k))[i]?=some s->i<365/\s=⟨0,0,0,0⟩:=fun i s h=>by
      rw [List.getElem?_replicate] at h
      split at h
      · rename_i hi
        injection h with h
        exact ⟨hi,h.symm⟩
      · cases h
    refine ⟨⟨_,ae,d3u d6u _,zV,d3t d6u _,?_,?_,?_,?_⟩⟩
    all_goals
      intro i s h
      obtain ⟨hi,rfl⟩:=hr i s h
      exact d9q d6t _ _ (by omega) (by omega)
  unfold b3l at af ab
  go_enter Tryz.func153,Tryz.ntmps153
  go_wp2_with (go_at_call 203;refine hv.mono ?_;rintro e w' ⟨rfl,rfl⟩)
  obtain ⟨B,hB⟩:=zX (w.heap.size)
  rw [<-hB] at ab ⊢
  have HB:=hid hB
  obtain ⟨am,ac⟩:=zX (Tryz.zeroCells239.setIfInBounds 0 (Value.int .i64 d))
  rw [<-ac] at af ab ⊢
  clear hB ac ae hv
  have aj:Hid (d7q d=max 2 ((2^d+32) / 64)):=hid rfl
  go_loopg [12] 365 (fun j iv wr=>∃ k:Nat,iv=.int .i64 k/\k+j=365/\b0v wr B d (List.replicate k (a8b d)++List.replicate j ⟨0,0,0,0⟩)/\Chg [] w wr)
  case atStart=>exact ⟨0,rfl,rfl,by simpa using ab,af⟩
  case round =>
    obtain ⟨k,rfl,al,ag,ah⟩:=hrel
    clear ab af
    rcases gk with _ | j
    · obtain rfl:k=365:=by omega
      go_wp2
      go_ret2
      exact ⟨B,rfl,by simpa [b9l] using ag,ah,by rw [HB.out];exact zQ _⟩
    · have hk:k<365:=by omega
      have tk:decide ((k:Int)<365)=true:=zB (by omega)
      obtain ⟨_,ad,aa⟩:=ag.cells
      obtain ⟨q0,q1,q2,q3⟩:=aa k ⟨0,0,0,0⟩ (by rw [zS (by simp),zV,Nat.sub_self];rfl)
      have f0:=ad (1+k*4)
      have f1:=ad (1+k*4+1)
      have f2:=ad (1+k*4+2)
      have f3:=ad (1+k*4+3)
      clear ad aa
      go_wp2_with fail
      refine a0c 11 (by kernel_rfl) (by kernel_rfl) ?_
      simp only [List.take_succ_cons,List.take_zero,List.drop_succ_cons,List.drop_zero]
      repeat (go_big_quiet_step (fail))
      all_goals
        refine wpQuiet_nil ?_
        intro _ ai
        obtain ⟨nq,rfl⟩:=ai
        go_wp2_with fail
        all_goals
         go_roundg j
         case measure=>omega
         case rel =>
          refine ⟨k+1,by go_num,by omega,?_,(((((ah.drewN nq).setCell (.inr (by have:=HB.out;simp;omega)) _).setCell (.inr (by have:=HB.out;simp;omega)) _).setCell (.inr (by have:=HB.out;simp;omega)) _).setCell (.inr (by have:=HB.out;simp;omega)) _)⟩
          exact e3x ag hk (by rw [aj.out];omega)
theorem d2l.set1 {cs:Array Value} {d:Nat} {m:List a5k} (h:d2l cs d m) {i:Nat} (hi:i<365) {s:a5k} (hs:m[i]?=some s) (k:Nat) (v:Int) (s':a5k)
  (hk:(k=0/\s'=⟨v,s.a,s.b,s.c⟩)\/(k=1/\s'=⟨s.n,v,s.b,s.c⟩)\/(k=2/\s'=⟨s.n,s.a,v,s.c⟩)\/(k=3/\s'=⟨s.n,s.a,s.b,v⟩)) :
  d2l (cs.setIfInBounds (1+i*4+k) (.int .i64 v)) d (m.set i s'):=by
 have aa:=h.size
 have hl:=h.len
 have h1:=h.n i s hs
 have h2:=h.a i s hs
 have h3:=h.b i s hs
 have h4:=h.c i s hs
 have ab:k<4:=by omega
 refine ⟨by simp [aa],by simp [hl],?_,?_,?_,?_,?_⟩
 ·rw [Array.getElem?_setIfInBounds,if_neg (by omega)]
  exact h.depth
 all_goals
  intro j t hj
  rw [List.getElem?_set] at hj
  rw [Array.getElem?_setIfInBounds]
  by_cases hij:i=j
  ·subst hij
   rw [if_pos rfl,if_pos (by omega)] at hj
   injection hj with hj
   subst hj
   rcases hk with ⟨rfl,rfl⟩ | ⟨rfl,rfl⟩ | ⟨rfl,rfl⟩ | ⟨rfl,rfl⟩
   all_goals first
    | (rw [if_pos (by omega),if_pos (by omega)])
    | (rw [if_neg (by omega)];first | exact h1 | exact h2 | exact h3 | exact h4)
  ·rw [if_neg hij] at hj
   rw [if_neg (by omega)]
   first | exact h.n j t hj | exact h.a j t hj | exact h.b j t hj | exact h.c j t hj
theorem b0v.set1 {w:World} {b d:Nat} {m:List a5k} (h:b0v w b d m) {i:Nat} (hi:i<365) {s:a5k} (hs:m[i]?=some s) (k:Nat) (v:Int) (s':a5k)
  (hk:(k=0/\s'=⟨v,s.a,s.b,s.c⟩)\/(k=1/\s'=⟨s.n,v,s.b,s.c⟩)\/(k=2/\s'=⟨s.n,s.a,v,s.c⟩)\/(k=3/\s'=⟨s.n,s.a,s.b,v⟩)) :
  b0v (w.setCell ⟨b,1+i*4+k,none⟩ (.int .i64 v)) b d (m.set i s')/\(m.set i s')[i]?=some s':=by
 obtain ⟨cs,h1,h2⟩:=h.ex
 exact ⟨⟨_,h1.set_ _ _,h2.set1 hi hs k v s' hk⟩,by rw [List.getElem?_set_self (by rw [h2.len];exact hi)]⟩
theorem b0v.toSet {w:World} {b d:Nat} {m:List a5k} {i:Nat} {s t:a5k} (h:b0v w b d ((m.set i s).set i t)):b0v w b d (m.set i t):=by rw [<-List.set_set (a:=s)];exact h
theorem b0v.count {w:World} {b d:Nat} {m:List a5k} (h:b0v w b d m) {i:Nat} (hi:i<365) {s:a5k} (hs:m[i]?=some s) (va vb vn:Int) :
  b0v (((w.setCell ⟨b,1+i*4+1,none⟩ (.int .i64 va)).setCell ⟨b,1+i*4+2,none⟩ (.int .i64 vb)).setCell ⟨b,1+i*4,none⟩ (.int .i64 vn)) b d (m.set i ⟨vn,va,vb,s.c⟩)/\(m.set i ⟨vn,va,vb,s.c⟩)[i]?=some ⟨vn,va,vb,s.c⟩:=by
 obtain ⟨a1,e1⟩:=h.set1 hi hs 1 va ⟨s.n,va,s.b,s.c⟩ (.inr (.inl ⟨rfl,rfl⟩))
 obtain ⟨a2,e2⟩:=a1.set1 hi e1 2 vb ⟨s.n,va,vb,s.c⟩ (.inr (.inr (.inl ⟨rfl,rfl⟩)))
 obtain ⟨a3,e3⟩:=a2.set1 hi e2 0 vn ⟨vn,va,vb,s.c⟩ (.inl ⟨rfl,rfl⟩)
 rw [List.set_set,List.set_set] at e3
 exact ⟨a3.toSet.toSet,e3⟩
theorem b0v.count64 {w:World} {b d:Nat} {m:List a5k} (h:b0v w b d m) {i:Nat} (hi:i<365) {s:a5k} (hs:m[i]?=some s) (va vb wa wb wn vn:Int) :
  b0v ((((((w.setCell ⟨b,1+i*4+1,none⟩ (.int .i64 va)).setCell ⟨b,1+i*4+2,none⟩ (.int .i64 vb)).setCell ⟨b,1+i*4+1,none⟩ (.int .i64 wa)).setCell ⟨b,1+i*4+2,none⟩ (.int .i64 wb)).setCell ⟨b,1+i*4,none⟩ (.int .i64 wn)).setCell ⟨b,1+i*4,none⟩ (.int .i64 vn)) b d (m.set i ⟨vn,wa,wb,s.c⟩)/\(m.set i ⟨vn,wa,wb,s.c⟩)[i]?=some ⟨vn,wa,wb,s.c⟩:=by
 obtain ⟨a1,e1⟩:=h.set1 hi hs 1 va ⟨s.n,va,s.b,s.c⟩ (.inr (.inl ⟨rfl,rfl⟩))
 obtain ⟨a2,e2⟩:=a1.set1 hi e1 2 vb ⟨s.n,va,vb,s.c⟩ (.inr (.inr (.inl ⟨rfl,rfl⟩)))
 obtain ⟨a3,e3⟩:=a2.set1 hi e2 1 wa ⟨s.n,wa,vb,s.c⟩ (.inr (.inl ⟨rfl,rfl⟩))
 obtain ⟨a4,e4⟩:=a3.set1 hi e3 2 wb ⟨s.n,wa,wb,s.c⟩ (.inr (.inr (.inl ⟨rfl,rfl⟩)))
 obtain ⟨a5,e5⟩:=a4.set1 hi e4 0 wn ⟨wn,wa,wb,s.c⟩ (.inl ⟨rfl,rfl⟩)
 obtain ⟨a6,e6⟩:=a5.set1 hi e5 0 vn ⟨vn,wa,wb,s.c⟩ (.inl ⟨rfl,rfl⟩)
 rw [List.set_set,List.set_set,List.set_set,List.set_set,List.set_set] at e6
 exact ⟨a6.toSet.toSet.toSet.toSet.toSet,e6⟩
theorem b0v.even {w:World} {b d:Nat} {m:List a5k} {i:Nat} {s:a5k} (h:b0v w b d (m.set i s)) (hi:i<365) (hs:(m.set i s)[i]?=some s) (vb vc:Int) :
  b0v ((w.setCell ⟨b,1+i*4+2,none⟩ (.int .i64 vb)).setCell ⟨b,1+i*4+3,none⟩ (.int .i64 vc)) b d (m.set i ⟨s.n,s.a,vb,vc⟩):=by
 obtain ⟨a1,e1⟩:=h.set1 hi hs 2 vb ⟨s.n,s.a,vb,s.c⟩ (.inr (.inr (.inl ⟨rfl,rfl⟩)))
 obtain ⟨a2,e2⟩:=a1.set1 hi e1 3 vc ⟨s.n,s.a,vb,vc⟩ (.inr (.inr (.inr ⟨rfl,rfl⟩)))
 exact a2.toSet.toSet
theorem d6o (b d:Nat) (m:List a5k) (ctx:Nat) (e:Int) (w:World) (h:b0v w b d m) (hm:a8t m) (h0:1<=d) (h1:d<=16) (hc:ctx<365) (he0 : -2^(d-1)<=e) (he1:e<2^(d-1)) :
  Calls Tryz.prog 157 #[.pointer (some ⟨b,0,none⟩),.int .i64 ctx,.int .i64 e] w fun x w'=>x=.returned (.tuple #[])/\b0v w' b d (m.set ctx (b3j (a3e m ctx) e))/\Chg [b] w w':=by
 obtain ⟨aL,aM⟩:=a9c h0 h1
 obtain ⟨hg,aH⟩:=a6e hm hc
 obtain ⟨q0,av,aj⟩:=h.cells
 obtain ⟨qn,qa,qb,qc⟩:=aj ctx _ hg
 have fn:=av (1+ctx*4)
 have fa:=av (1+ctx*4+1)
 have fb:=av (1+ctx*4+2)
 have fc:=av (1+ctx*4+3)
 have aF:=c1c ctx w hc
 have ap:=a6w h0
 have aK:=a0i (d-1)
 have e1:(2:Int)^((d:Int)-1).toNat=2^(d-1):=by congr 1;omega
 obtain ⟨n0,n1,a0,a1,b0,b1,c0,c1⟩:=aH
 have ha:0<=b0e e/\b0e e<=32768:=by unfold b0e;split<;>omega
 have aB:=fun w=>c4o e w (by unfold c5k;omega)
 obtain ⟨s,hs⟩:=zX (a3e m ctx)
 rw [<-hs] at qn qa qb qc n0 n1 a0 a1 b0 b1 c0 c1 hg ⊢
 have ag:=fun w' (ae:Chg [] w w') va vb vn=>(h.chg ae (by simp)).count hc hg va vb vn
 have ad:=fun w' (ae:Chg [] w w') va vb wa wb wn vn=>(h.chg ae (by simp)).count64 hc hg va vb wa wb wn vn
 obtain ⟨sn,sa,sb,sc⟩:=s
 simp only at qn qa qb qc n0 n1 a0 a1 b0 b1 c0 c1 ag ad
 have aJ:(2:Int)^(d-1)<=32768:=by omega
 have t1:decide (e<(-2^(d-1):Int))=false:=zA (by omega)
 have t2:decide ((2:Int)^(d-1)<=e)=false:=zA (by omega)
 have aA : -32768<=e:=by omega
 have aG:e<=32767:=by omega
 obtain ⟨u,hu⟩:=zX (b0e e)
 rw [<-hu] at ha aB
 obtain ⟨u0,u1⟩:=ha
 have HU:=hid hu
 have aI:=hid ag
 have aC:=hid ad
 have aE:Hid (∀ w,Chg [b] w w):=hid fun w=>zR _ _
 clear ap hu ag ad hs hg av aj h hm
 have ab:=c9x (s:=⟨sn,sa,sb,sc⟩) ⟨n0,n1,a0,a1,b0,b1,c0,c1⟩ aA (by omega)
 have ao:=hid ab
 clear ab
 by_cases hn:sn=64
 ·subst hn
  have ar:a7v ⟨64,sa,sb,sc⟩ e=⟨33,(sa+u) / 2,(sb+e) / 2,sc⟩:=by unfold a7v;rw [if_pos rfl,HU.out]
  have am:=hid ar
  clear ar
  go_enter Tryz.func157,Tryz.ntmps157
  go_wp2_with fail
  refine aF.mono ?_
  rintro e w' ⟨rfl,rfl⟩
  go_wp2_with fail
  refine a0c 9 (by kernel_rfl) (by kernel_rfl) ?_
  simp only [List.take_succ_cons,List.take_zero,List.drop_succ_cons,List.drop_zero]
  repeat (go_big_quiet_step ((go_at_call 209;exact b3c (aB _))))
  refine wpQuiet_nil ?_
  intro _ ae
  obtain ⟨nq,rfl⟩:=ae
  go_wp2_with fail
  obtain ⟨ac,al⟩:=aC.out _ ((zR [] w).drewN nq) (sa+u) (sb+e) ((sa+u) / 2) ((sb+e) / 2) 32 33
  have ai:Chg [b] w (((((((w.drewN nq).setCell ⟨b,1+ctx*4+1,none⟩ (.int .i64 (sa+u))).setCell ⟨b,1+ctx*4+2,none⟩ (.int .i64 (sb+e))).setCell ⟨b,1+ctx*4+1,none⟩ (.int .i64 ((sa+u) / 2))).setCell ⟨b,1+ctx*4+2,none⟩ (.int .i64 ((sb+e) / 2))).setCell ⟨b,1+ctx*4,none⟩ (.int .i64 32)).setCell ⟨b,1+ctx*4,none⟩ (.int .i64 33)) :=
   (((((((aE.out w).drewN nq).setCell (by simp) _).setCell (by simp) _).setCell (by simp) _).setCell (by simp) _).setCell (by simp) _).setCell (by simp) _
  generalize ((((((w.drewN nq).setCell ⟨b,1+ctx*4+1,none⟩ (.int .i64 (sa+u))).setCell ⟨b,1+ctx*4+2,none⟩ (.int .i64 (sb+e))).setCell ⟨b,1+ctx*4+1,none⟩ (.int .i64 ((sa+u) / 2))).setCell ⟨b,1+ctx*4+2,none⟩ (.int .i64 ((sb+e) / 2))).setCell ⟨b,1+ctx*4,none⟩ (.int .i64 32)).setCell ⟨b,1+ctx*4,none⟩ (.int .i64 33)=w2 at *
  have ab:=ao.out
  rw [am.out] at ab
  simp only at ab
  obtain ⟨n3,ay⟩:=zX ((33:Int))
  obtain ⟨a2,aq⟩:=zX ((sa+u) / 2)
  obtain ⟨b2,ax⟩:=zX ((sb+e) / 2)
  rw [<-ay,<-aq,<-ax] at ab ac al am
  obtain ⟨m0,m1,m2,m3,m4,m5,-⟩:=ab
  obtain ⟨_,ah,aa⟩:=ac.cells
  obtain ⟨rn,ra,rb,rc⟩:=aa ctx _ al
  simp only at rn ra rb rc
  have gb:=ah (1+ctx*4+2)
  have gc:=ah (1+ctx*4+3)
  have au:=hid (fun w' (ae:Chg [] w2 w') vb vc=>(ac.chg ae (by simp)).even hc al vb vc)
  have aw:b3j ⟨64,sa,sb,sc⟩ e=b3d ⟨n3,a2,b2,sc⟩:=by unfold b3j;rw [am.out]
  have an:=hid aw
  have aD:=hid ac
  clear aw ah aa ay aq ax qn qa qb qc fn fa fb fc q0  a0 a1 b0 b1 ac al
  by_cases hA:b2<=-n3
  ·have u1:decide (b2<=-n3)=true:=zB hA
   have af:b3d ⟨n3,a2,b2,sc⟩=⟨n3,a2,max (b2+n3) (1-n3),max (sc-1) (-128)⟩:=by unfold b3d;rw [if_pos hA]
   have ak:=hid af
   clear af
   go_quiet (fail)
   go_wp2_with fail
   refine a0c 18 (by kernel_rfl) (by kernel_rfl) ?_
   simp only [List.take_succ_cons,List.take_zero,List.drop_succ_cons,List.drop_zero]
   repeat (any_goals (go_big_quiet_step (fail)))
   all_goals
    refine wpQuiet_nil ?_
    intro _ ae
    obtain ⟨az,rfl⟩:=ae
    go_wp2_with fail
   all_goals
    go_end0
    refine ⟨rfl,?_,?_⟩
    ·rw [an.out,ak.out]
     first | rw [show max (b2+n3) (1-n3)=1-n3 by omega] | rw [show max (b2+n3) (1-n3)=b2+n3 by omega]
     first | rw [show max (sc-1) (-128)=-128 by omega] | rw [show max (sc-1) (-128)=sc-1 by omega]
     exact au.out _ ((zR [] w2).drewN _) _ _
    ·exact ((ai.drewN _).setCell (by simp) _).setCell (by simp) _
  ·have u1:decide (b2<=-n3)=false:=zA hA
   by_cases hB:0<b2
   ·have u2:decide (0<b2)=true:=zB hB
    have af:b3d ⟨n3,a2,b2,sc⟩=⟨n3,a2,min (b2-n3) 0,min (sc+1) 127⟩:=by unfold b3d;rw [if_neg hA,if_pos hB]
    have ak:=hid af
    clear af
    go_quiet (fail)
    go_wp2_with fail
    refine a0c 13 (by kernel_rfl) (by kernel_rfl) ?_
    simp only [List.take_succ_cons,List.take_zero,List.drop_succ_cons,List.drop_zero]
    repeat (any_goals (go_big_quiet_step (fail)))
    all_goals
     refine wpQuiet_nil ?_
     intro _ ae
     obtain ⟨az,rfl⟩:=ae
     go_wp2_with fail
    all_goals
     go_end0
     refine ⟨rfl,?_,?_⟩
     ·rw [an.out,ak.out]
      first | rw [show min (b2-n3) 0=0 by omega] | rw [show min (b2-n3) 0=b2-n3 by omega]
      first | rw [show min (sc+1) 127=127 by omega] | rw [show min (sc+1) 127=sc+1 by omega]
      exact au.out _ ((zR [] w2).drewN _) _ _
     ·exact ((ai.drewN _).setCell (by simp) _).setCell (by simp) _
   ·have u2:decide (0<b2)=false:=zA hB
    have af:b3d ⟨n3,a2,b2,sc⟩=⟨n3,a2,b2,sc⟩:=by unfold b3d;rw [if_neg hA,if_neg hB]
    have ak:=hid af
    clear af
    go_quiet (fail)
    go_wp2_with fail
    go_end0
    refine ⟨rfl,?_,ai.drewN _⟩
    rw [an.out,ak.out]
    exact aD.out.chg ((zR [] w2).drewN _) (by simp)
 ·have t3:(sn==64)=false:=by rw [beq_eq_false_iff_ne];exact hn
  have ar:a7v ⟨sn,sa,sb,sc⟩ e=⟨sn+1,sa+u,sb+e,sc⟩:=by unfold a7v;rw [if_neg hn,HU.out]
  have am:=hid ar
  clear ar hn
  go_enter Tryz.func157,Tryz.ntmps157
  go_wp2_with fail
  refine aF.mono ?_
  rintro e w' ⟨rfl,rfl⟩
  go_wp2_with fail
  refine a0c 9 (by kernel_rfl) (by kernel_rfl) ?_
  simp only [List.take_succ_cons,List.take_zero,List.drop_succ_cons,List.drop_zero]
  repeat (go_big_quiet_step ((go_at_call 209;exact b3c (aB _))))
  refine wpQuiet_nil ?_
  intro _ ae
  obtain ⟨nq,rfl⟩:=ae
  go_wp2_with fail
  obtain ⟨ac,al⟩:=aI.out _ ((zR [] w).drewN nq) (sa+u) (sb+e) (sn+1)
  have ai:Chg [b] w ((((w.drewN nq).setCell ⟨b,1+ctx*4+1,none⟩ (.int .i64 (sa+u))).setCell ⟨b,1+ctx*4+2,none⟩ (.int .i64 (sb+e))).setCell ⟨b,1+ctx*4,none⟩ (.int .i64 (sn+1))) :=
   ((((aE.out w).drewN nq).setCell (by simp) _).setCell (by simp) _).setCell (by simp) _
  generalize (((w.drewN nq).setCell ⟨b,1+ctx*4+1,none⟩ (.int .i64 (sa+u))).setCell ⟨b,1+ctx*4+2,none⟩ (.int .i64 (sb+e))).setCell ⟨b,1+ctx*4,none⟩ (.int .i64 (sn+1))=w2 at *
  have ab:=ao.out
  rw [am.out] at ab
  simp only at ab
  obtain ⟨n3,ay⟩:=zX (sn+1)
  obtain ⟨a2,aq⟩:=zX (sa+u)
  obtain ⟨b2,ax⟩:=zX (sb+e)
  rw [<-ay,<-aq,<-ax] at ab ac al am
  obtain ⟨m0,m1,m2,m3,m4,m5,-⟩:=ab
  obtain ⟨_,ah,aa⟩:=ac.cells
  obtain ⟨rn,ra,rb,rc⟩:=aa ctx _ al
  simp only at rn ra rb rc
  have gb:=ah (1+ctx*4+2)
  have gc:=ah (1+ctx*4+3)
  have au:=hid (fun w' (ae:Chg [] w2 w') vb vc=>(ac.chg ae (by simp)).even hc al vb vc)
  have aw:b3j ⟨sn,sa,sb,sc⟩ e=b3d ⟨n3,a2,b2,sc⟩:=by unfold b3j;rw [am.out]
  have an:=hid aw
  have aD:=hid ac
  clear aw ah aa ay aq ax qn qa qb qc fn fa fb fc q0 n0 n1 a0 a1 b0 b1 ac al
  by_cases hA:b2<=-n3
  ·have u1:decide (b2<=-n3)=true:=zB hA
   have af:b3d ⟨n3,a2,b2,sc⟩=⟨n3,a2,max (b2+n3) (1-n3),max (sc-1) (-128)⟩:=by unfold b3d;rw [if_pos hA]
   have ak:=hid af
   clear af
   go_quiet (fail)
   go_wp2_with fail
   refine a0c 18 (by kernel_rfl) (by kernel_rfl) ?_
   simp only [List.take_succ_cons,List.take_zero,List.drop_succ_cons,List.drop_zero]
   repeat (any_goals (go_big_quiet_step (fail)))
   all_goals
    refine wpQuiet_nil ?_
    intro _ ae
    obtain ⟨az,rfl⟩:=ae
    go_wp2_with fail
   all_goals
    go_end0
    refine ⟨rfl,?_,?_⟩
    ·rw [an.out,ak.out]
     first | rw [show max (b2+n3) (1-n3)=1-n3 by omega] | rw [show max (b2+n3) (1-n3)=b2+n3 by omega]
     first | rw [show max (sc-1) (-128)=-128 by omega] | rw [show max (sc-1) (-128)=sc-1 by omega]
     exact au.out _ ((zR [] w2).drewN _) _ _
    ·exact ((ai.drewN _).setCell (by simp) _).setCell (by simp) _
  ·have u1:decide (b2<=-n3)=false:=zA hA
   by_cases hB:0<b2
   ·have u2:decide (0<b2)=true:=zB hB
    have af:b3d ⟨n3,a2,b2,sc⟩=⟨n3,a2,min (b2-n3) 0,min (sc+1) 127⟩:=by unfold b3d;rw [if_neg hA,if_pos hB]
    have ak:=hid af
    clear af
    go_quiet (fail)
    go_wp2_with fail
    refine a0c 13 (by kernel_rfl) (by kernel_rfl) ?_
    simp only [List.take_succ_cons,List.take_zero,List.drop_succ_cons,List.drop_zero]
    repeat (any_goals (go_big_quiet_step (fail)))
    all_goals
     refine wpQuiet_nil ?_
     intro _ ae
     obtain ⟨az,rfl⟩:=ae
     go_wp2_with fail
    all_goals
     go_end0
     refine ⟨rfl,?_,?_⟩
     ·rw [an.out,ak.out]
      first | rw [show min (b2-n3) 0=0 by omega] | rw [show min (b2-n3) 0=b2-n3 by omega]
      first | rw [show min (sc+1) 127=127 by omega] | rw [show min (sc+1) 127=sc+1 by omega]
      exact au.out _ ((zR [] w2).drewN _) _ _
     ·exact ((ai.drewN _).setCell (by simp) _).setCell (by simp) _
   ·have u2:decide (0<b2)=false:=zA hB
    have af:b3d ⟨n3,a2,b2,sc⟩=⟨n3,a2,b2,sc⟩:=by unfold b3d;rw [if_neg hA,if_neg hB]
    have ak:=hid af
    clear af
    go_quiet (fail)
    go_wp2_with fail
    go_end0
    refine ⟨rfl,?_,ai.drewN _⟩
    rw [an.out,ak.out]
    exact aD.out.chg ((zR [] w2).drewN _) (by simp)
theorem c5p {P:Program} {f:FuncId} {args:Array Value} {w:World} {n:Nat} {v:Value}
  (h:Calls P f args (w.drewN n) fun e w'=>e=.returned v/\∃ m,w'=(w.drewN n).drewN m):Calls P f args (w.drewN n) fun e w''=>e=.returned v/\∃ m,w''=w.drewN m:=Calls.quiet_of h
theorem a0u.forget {a b c:World} {x:Nat} {F F':List Nat} (k:Chg [] a b) (h:a0u (x::F) (x::F') b c) (hx:a.heap.size<=x):a0u F F' a c :=
 ⟨⟨h.chg.os.trans k.os,h.chg.tape.trans k.tape,h.chg.output.trans k.output,Nat.le_trans k.size h.chg.size,fun y hy hn =>
   (h.chg.block y (Nat.lt_of_lt_of_le hy k.size) (by simp;exact ⟨by omega,hn⟩)).trans (k.block y hy (by simp))⟩,
  fun y hy=>by
   rcases h.new y (by simp [hy]) with h1 | h1
   ·rcases zJ.1 h1 with rfl | h1
    ·exact .inr hx
    ·exact .inl h1
   ·exact .inr (Nat.le_trans k.size h1)⟩
theorem d6r (b d:Nat) (m:List a5k) (l:List Int) (A:Option Addr) (cap W i:Nat) (w:World) (h:b0v w b d m) (hm:a8t m) (h0:1<=d) (h1:d<=16) (hW0:1<=W) (hW1:W<=64) (hi:i<=l.length) (hiW:i<64*W) (hs:a1u d l) (hc:a0d vi w A l) (hll:l.length<=4096) :
  Calls Tryz.prog 154 #[.pointer (some ⟨b,0,none⟩),.slice A l.length cap,.int .i64 W,.int .i64 i] w fun e w'=>e=.returned (.tuple #[.int .i64 (a6b l W d i),.bool (a4k l W d i),.int .i64 (a5v m l W d i)])/\Chg [] w w':=by
 obtain ⟨x,hx⟩:=zX (i%W)
 obtain ⟨y,hy⟩:=zX (i / W)
 have ap:x<W:=by rw [hx];exact Nat.mod_lt _ (by omega)
 have ai:y<64:=by rw [hy];exact Nat.div_lt_of_lt_mul (by rw [zY];exact hiW)
 have ao:y*W+x=i:=by rw [hx,hy,zY];exact Nat.div_add_mod i W
 have e1:(i:Int)%(W:Int)=(x:Int):=by rw [hx];simp
 have e2:(i:Int) / (W:Int)=(y:Int):=by rw [hy];simp
 have aa:=fun w hc=>c7l l A cap W x y w hW0 hW1 ap ai (by omega) hc (by omega)
 have af:=b5s hs W x y
 have ac:=fun w=>d8l (nbr l W x y) d w h0 h1 af
 have ae:=fun w=>d6y 7 (nbr l W x y) d w (by omega) h0 h1 af
 have ah:=a9p af 7
 have ag:=c0o (nbr l W x y) d
 have d1:a6b l W d i=e6o (nbr l W x y) d:=by unfold a6b;rw [<-hx,<-hy]
 have d2:a4k l W d i=d4w (nbr l W x y) d:=by unfold a4k;rw [<-hx,<-hy]
 have d3:a5v m l W d i=b3i (a3e m (e6o (nbr l W x y) d)) (a3d 7 (nbr l W x y) d) (d4w (nbr l W x y) d) d:=by unfold a5v a6b a4k;rw [<-hx,<-hy]
 rw [d1,d2,d3]
 have ab:=fun w h=>e3s b d m (e6o (nbr l W x y) d) (a3d 7 (nbr l W x y) d) (d4w (nbr l W x y) d) w h hm h0 h1 ag ah.1 ah.2
 obtain ⟨n,hn⟩:=zX (l.length)
 rw [<-hn] at aa ⊢
 generalize nbr l W x y=g at *
 generalize e6o g d=cx at *
 generalize d4w g d=tb at *
 generalize a3d 7 g d=gs at *
 generalize b3i (a3e m cx) gs tb d=gm at *
 obtain ⟨ga,gb,gc,ge⟩:=g
 simp only at aa ac ae
 have HN:=hid aa
 have an:(1:Int)<=(W:Int):=by omega
 clear hx hy ao aa af ah d1 d2 d3 hn hs hi hm
 go_enter Tryz.func154,Tryz.ntmps154
 go_wp2_with fail
 go_quiet ((go_at_call 190;exact c5p (HN.out _ (hc.same ((zR [] w).drewN _)))))
 have ak:=h.chg ((zR [] w).drewN nq) (by simp)
 obtain ⟨q0,_,_⟩:=ak.cells
 go_wp2_with fail
 refine (ac _).mono ?_
 rintro e w1 ⟨rfl,am⟩
 have ad:=ak.chg am (by simp)
 obtain ⟨q1,_,_⟩:=ad.cells
 go_wp2_with fail
 refine (ae _).mono ?_
 rintro e w2 ⟨rfl,al⟩
 have aj:=ad.chg al (by simp)
 go_wp2_with fail
 refine (ab _ aj).mono ?_
 rintro e w3 ⟨rfl,rfl⟩
 go_wp2_with fail
 go_ret3
 exact ⟨rfl,(((zR [] w).drewN nq).tq am).tq al⟩
theorem d9n (l:List Int) (A:Option Addr) (cap W H d:Nat) (w:World) (hw0:1<=W) (hw1:W<=64) (hh0:1<=H) (hh1:H<=64) (h0:1<=d) (h1:d<=16) (hl:l.length=W*H) (hs:a1u d l) (hc:a0d vi w A l) :
  Calls Tryz.prog 152 #[.slice A l.length cap,.int .i64 W,.int .i64 H,.int .i64 d] w fun e w'=>e=.returned (.bool true)/\w=w':=by
 have t1:decide ((W:Int)<1)=false:=zA (by omega)
 have t2:decide ((64:Int)<(W:Int))=false:=zA (by omega)
 have t3:decide ((H:Int)<1)=false:=zA (by omega)
 have t4:decide ((64:Int)<(H:Int))=false:=zA (by omega)
 have t5:decide ((d:Int)<1)=false:=zA (by omega)
 have t6:decide ((16:Int)<(d:Int))=false:=zA (by omega)
 obtain ⟨ak,am⟩:=a9c h0 h1
 obtain ⟨m,hm⟩:=zX (l.length)
 rw [<-hm] at hl ⊢
 have ah:(W:Int)*(H:Int)=(m:Int):=by rw [hl];simp
 have t7:((m:Int) != (m:Int))=false:=by simp
 have ai:m<=4096:=by rw [hl];exact zL hw1 hh1
 have HN:=hid hm
 have HS:=hid hs
 clear hm hl hs
 go_enter Tryz.func152,Tryz.ntmps152
 go_wp2_with (go_at_call 203;refine (b2y _ _ h0 h1).mono ?_;rintro e w' ⟨rfl,rfl⟩)
 go_loopg [38] m (fun j i wr=>j<=m/\i=.int .i64 ((m-j:Nat):Int)/\w=wr)
 case atStart=>exact ⟨zQ _,by simp,rfl⟩
 case round =>
  obtain ⟨hj,rfl,rfl⟩:=hrel
  rcases gk with _ | j
  ·have t8:decide (((m-0:Nat):Int)<(m:Int))=false:=by simp
   go_wp2
   go_ret
   exact ⟨rfl,rfl⟩
  ·obtain ⟨i,ae⟩:=zX (m-(j+1))
   rw [<-ae]
   have ag:i<m:=by omega
   have ad:m-j=i+1:=by omega
   have HI:=hid ad
   clear ae ad
   have af:i<l.length:=by rw [<-HN.out];exact ag
   obtain ⟨g,o,rfl,aa⟩:=hc.at_ af
   have hx:=HS.out l[i] (zG _)
   obtain ⟨x,ac⟩:=zX (l[i])
   rw [<-ac] at aa hx
   have ab:w.cell? ⟨g,o+i,none⟩=some (.int .i64 x):=aa
   obtain ⟨al,an⟩:=hx
   have t9:decide (x<0)=false:=zA (by omega)
   have aj:decide ((2:Int)^d<=x)=false:=zA (by omega)
   clear aa ac af
   go_wp2
   go_roundg j
   case measure=>omega
   case rel =>
    rw [HI.out]
    exact ⟨by omega,by go_num,rfl⟩
theorem d0e (s g:Int) (t:Bool) {d:Nat} (h0:1<=d) (h1:d<=16):a2e (c3q s g t d):=by
 have:=a7k h1 (b0j s g t h0)
 unfold a2e
 omega
theorem d7n (w:World) (b:Nat) (F bs:List Nat) (k:Nat) (x:Int) (h:a2n w b F bs) (hk:k<=25) (hw:a2e x) (hlen:bs.length+65<274877906944) :
  Calls Tryz.prog 155 #[.pointer (some ⟨b,0,none⟩),.int .i64 k,.slice (some ⟨w.heap.size,0,none⟩) 1 1] (w.alloc (.cells #[.int .i64 x] 3)) fun e w'=>e=.returned (.int .i64 0)/\∃ F',a2n w' b F' (bs++a4d k x)/\a0u F F' w w':=by
 have ch:Chg [] w (w.alloc (.cells #[.int .i64 x] 3)):=(zR [] w).alloc _
 have aa:Row (w.alloc (.cells #[.int .i64 x] 3)) 3 (.slice (some ⟨w.heap.size,0,none⟩) 1 1) w.heap.size ([x].map vi):=Row.made w 3 [.int .i64 x] (by simp [maxLen])
 have ac:=aa.toOwn.cells
 have ab:=aa.toOwn.apt (l':=[x]) (F':=F) (fun y hy=>by
  rw [zU.1 hy]
  intro hm
  have:=h.lt _ hm
  omega)
 refine (c8i _ b F bs k [x] _ 1 (h.same ch) hk (fun y hy=>by rw [zU.1 hy];exact hw) ac ab (by simpa using hlen)).mono ?_
 rintro e w' ⟨rfl,F',h',g'⟩
 refine ⟨rfl,F',?_,g'.pre ch⟩
 have e:a0r k [x]=a4d k x:=by simp [a0r]
 rw [<-e]
 exact h'
theorem f1v (w:World) (b:Nat) (F bs:List Nat) (l:List Int) (A:Option Addr) (cap W H d:Nat) (h:a2n w b F bs) (hw0:1<=W) (hw1:W<=64) (hh0:1<=H) (hh1:H<=64) (h0:1<=d) (h1:d<=16) (hl:l.length=W*H) (hs:a1u d l) (hc:a0d vi w A l) (hA:Apt A l F) (hbs:bs.length<137438953472) :
  Calls Tryz.prog 116 #[.pointer (some ⟨b,0,none⟩),.slice A l.length cap,.int .i64 W,.int .i64 H,.int .i64 d] w fun e w'=>e=.returned (.int .i64 0)/\∃ F',a2n w' b F' (bs++a1c l W d (W*H))/\a0u F F' w w':=by
 have aX:l.length<=4096:=by rw [hl];exact zL hw1 hh1
 have aI:=d9n l A cap W H d w hw0 hw1 hh0 hh1 h0 h1 hl hs hc
 obtain ⟨be,ay⟩:=a9c h0 h1
 have a2:=fun i=>b2x l W h0 h1 ay i
 have aS:=fun i=>b0n l W h0 h1 ay i
 have ag:=fun i (hi:i<l.length) m (hm:a8t m) bm w (h:b0v w bm d m) (hc:a0d vi w A l)=>d6r bm d m l A cap W i w h hm h0 h1 hw0 hw1 (by omega) (by rw [hl] at hi;have:=Nat.mul_le_mul_left W hh1;rw [zY 64 W];omega) hs hc aX
 have aT:∀ x∈F,x<w.heap.size:=h.lt
 obtain ⟨n,hn⟩:=zX (l.length)
 rw [<-hn] at aI ag aX hl ⊢
 rw [<-hl]
 have HL:=hid ag
 have bd:=hid a2
 have bc:=hid aS
 have HS:=hid hs
 have HN:=hid hn
 have bb:=hid aT
 have HP:=hid ay
 have HA:=hid hA
 clear ag a2 aS hs hn hl aT ay hA
 go_enter Tryz.func116,Tryz.ntmps116
 go_wp2_with fail
 refine aI.mono ?_
 rintro e w' ⟨rfl,rfl⟩
 go_wp2_with fail
 refine (e3w d w h0 h1).mono ?_
 rintro e w1 ⟨bm,rfl,bf,aC,a3⟩
 have aE:=h.same aC
 have aG:bm∉F:=fun hm=>by have:=bb.out _ hm;omega
 have bh:=hc.same aC
 have bg:Hid (Apt A l (bm::F)):=hid fun h0 ad e hm=>by
  rcases zJ.1 hm with h9 | h9
  ·exact Apt.fresh hc (F:=[bm]) (by simpa using a3) h0 ad e (by rw [h9];simp)
  ·exact HA.out h0 ad e h9
 clear aI h hc
 go_wp2_with fail
 go_loopg [36] n (fun j iv wr=>∃ (i:Nat) (F' ai:List Nat),iv=.int .i64 i/\i+j=n/\a2n wr b F' ai/\Hid (ai=bs++a1c l W d i)/\ai.length<=bs.length+65*i/\b0v wr bm d (a4r l W d i)/\bm∉F'/\a0u (bm::F) (bm::F') w1 wr)
 case atStart=>exact ⟨0,F,bs,rfl,by simp,aE,hid (by simp [a1c]),by omega,bf,aG,a0u.refl _ _⟩
 case round =>
  obtain ⟨i,F',ai,rfl,bl,a1,Hb,bo,an,az,aH⟩:=hrel
  rcases gk with _ | j
  ·obtain rfl:i=n:=by omega
   go_wp2
   go_ret
   refine ⟨rfl,F',?_,a0u.forget aC aH a3⟩
   rw [<-Hb.out]
   exact a1
  ·have aV:i<n:=by omega
   have aF:a0d vi wr A l:=bh.keep bg.out aH.chg
   have ar:a1c l W d (i+1)=a1c l W d i++b3s (a4r l W d i) l W d i:=rfl
   have aA:a4r l W d (i+1)=d4a (a4r l W d i) l W d i:=rfl
   have ae:=bd.out i
   have aa:=bc.out (i+1)
   rw [ar,zC] at aa
   obtain ⟨m,hm⟩:=zX (a4r l W d i)
   rw [<-hm] at an ar aA ae aa
   have aR:=c0o (nbr l W (i%W) (i / W)) d
   have aU:=HL.out i aV m ae bm wr an aF
   have a6:i<l.length:=by rw [<-HN.out];exact aV
   obtain ⟨g,o,rfl,af⟩:=aF.at_ a6
   have aN:l[i]=l.getD i 0:=by rw [zD,zF a6];rfl
   have hx:=HS.out l[i] (zG _)
   rw [aN] at af hx
   have aD:wr.cell? ⟨g,o+i,none⟩=some (.int .i64 (l.getD i 0)):=af
   clear af
   have a8:=d0m (a3e m (a6b l W d i)) (a3d 7 (nbr l W (i%W) (i / W)) d) (a4k l W d i) (d:=d) be
   have a0:a5v m l W d i=b3i (a3e m (a6b l W d i)) (a3d 7 (nbr l W (i%W) (i / W)) d) (a4k l W d i) d:=rfl
   rw [<-a0] at a8
   have ax:=b0j (l.getD i 0) (a5v m l W d i) (a4k l W d i) h0
   have aK:=d0e (l.getD i 0) (a5v m l W d i) (a4k l W d i) h0 h1
   have aL:c0r m l W d i=c3q (l.getD i 0) (a5v m l W d i) (a4k l W d i) d:=rfl
   rw [<-aL] at ax aK
   have aO:b3s m l W d i=a4d (kOf (a3e m (a6b l W d i))) (c0r m l W d i):=rfl
   have aP:d4a m l W d i=m.set (a6b l W d i) (b3j (a3e m (a6b l W d i)) (c0r m l W d i)):=rfl
   rw [aO] at ar aa
   rw [aP] at aA
   have al:a6b l W d i<365:=aR
   have bp:=d6j (a6e ae al).2
   generalize a6b l W d i=cx at *
   generalize a5v m l W d i=pr at *
   generalize a4k l W d i=tb at *
   generalize c0r m l W d i=er at *
   generalize l.getD i 0=x at *
   have aQ:=fun w h=>f3u bm d m cx w h ae al
   generalize kOf (a3e m cx)=kk at *
   have ah:=fun w h=>d6o bm d m cx er w h ae h0 h1 al ax.1 ax.2
   obtain ⟨br,aY⟩:=hx
   obtain ⟨bk,aM⟩:=a8
   have bn:x<65536:=Int.lt_of_lt_of_le aY HP.out
   have bq:pr<65536:=Int.lt_of_lt_of_le aM HP.out
   clear aY aM
   have a5:=hid ah
   have a9:=hid aQ
   have a4:=hid ar
   have aW:=hid aA
   have a7:=hid aL
   have bi:=hid aa
   have ba:=hid hm
   clear ah aQ ar aA aL aa hm a0 aR aN aO aP ae aF ax
   go_wp2_with fail
   refine aU.mono ?_
   rintro e w2 ⟨rfl,aJ⟩
   clear aU
   have au:=a1.same aJ
   have ac:=an.chg aJ (by simp)
   have aq:=aH.same aJ
   cases tb with
   | false =>
    have aB:=a7x (x-pr) d w2 h0 h1
    have e1:a1b (x-pr) d=er:=by rw [a7.out];rfl
    rw [e1] at aB
    go_wp2_with fail
    refine aB.mono ?_
    rintro e w' ⟨rfl,rfl⟩
    go_wp2_with fail
    refine (a9.out _ ac).mono ?_
    rintro e w3 ⟨rfl,n3,rfl⟩
    go_wp2_with fail
    refine (d7n _ b F' ai kk er (au.same ((zR [] w2).drewN n3)) (by omega) aK (by omega)).mono ?_
    rintro e w4 ⟨rfl,F2,ao,ab⟩
    have ap:bm∉F2:=ab.out ac.lt az
    have am:=(ac.chg ((zR [] w2).drewN n3) (by simp)).chg ab.chg az
    have ak:=(aq.drewN n3).trans (ab.cons bm)
    go_wp2_with fail
    refine (a5.out _ am).mono ?_
    rintro e w5 ⟨rfl,aj,aw⟩
    go_wp2_with fail
    go_roundg j
    case measure=>omega
    case rel =>
     refine ⟨i+1,F2,ai++a4d kk er,by go_num,by omega,ao.chg aw (fun y hy hm=>by rw [zU.1 hm] at hy;exact ap hy),hid (by rw [a4.out,<-zH,<-Hb.out]),?_,?_,ap,?_⟩
     ·rw [zC];have:=a5x kk er;have:=a6j kk er (by omega);omega
     ·rw [aW.out];exact aj
     ·exact ak.trans ⟨aw.mono fun y hy _=>by rw [zU.1 hy];simp,fun y hy => .inl hy⟩
   | true =>
    have aB:=a7x (x-pr) d w2 h0 h1
    have av:=a7x (-a1b (x-pr) d) d w2 h0 h1
    have aZ:=a2s (x-pr) h0
    have e1:a1b (-a1b (x-pr) d) d=er:=by rw [a7.out];rfl
    rw [e1] at av
    have bj:=a7k h1 aZ
    generalize a1b (x-pr) d=fo at *
    clear aZ
    go_wp2_with fail
    refine aB.mono ?_
    rintro e w' ⟨rfl,rfl⟩
    go_wp2_with fail
    refine av.mono ?_
    rintro e w' ⟨rfl,rfl⟩
    go_wp2_with fail
    refine (a9.out _ ac).mono ?_
    rintro e w3 ⟨rfl,n3,rfl⟩
    go_wp2_with fail
    refine (d7n _ b F' ai kk er (au.same ((zR [] w2).drewN n3)) (by omega) aK (by omega)).mono ?_
    rintro e w4 ⟨rfl,F2,ao,ab⟩
    have ap:bm∉F2:=ab.out ac.lt az
    have am:=(ac.chg ((zR [] w2).drewN n3) (by simp)).chg ab.chg az
    have ak:=(aq.drewN n3).trans (ab.cons bm)
    go_wp2_with fail
    refine (a5.out _ am).mono ?_
    rintro e w5 ⟨rfl,aj,aw⟩
    go_wp2_with fail
    go_roundg j
    case measure=>omega
    case rel =>
     refine ⟨i+1,F2,ai++a4d kk er,by go_num,by omega,ao.chg aw (fun y hy hm=>by rw [zU.1 hm] at hy;exact ap hy),hid (by rw [a4.out,<-zH,<-Hb.out]),?_,?_,ap,?_⟩
     ·rw [zC];have:=a5x kk er;have:=a6j kk er (by omega);omega
     ·rw [aW.out];exact aj
     ·exact ak.trans ⟨aw.mono fun y hy _=>by rw [zU.1 hy];simp,fun y hy => .inl hy⟩
theorem c0c {ds:List Nat} {p n:Nat} {bs:List Nat} (h:a0y ds p (List.replicate n 0++1::bs)):(∀ i,i<n->a8h ds (p+i)=0)/\a8h ds (p+n)=1 :=
 ⟨fun i hi=>h.get (by rw [List.getElem?_append_left (by simpa using hi)];simp [hi]),h.get (by rw [zS (by simp)];simp)⟩
theorem c9g {ds:List Nat} {p n:Nat} {bs:List Nat} (h:a0y ds p (List.replicate n 0++1::bs)):a0y ds (p+n+1) bs:=by
 have h1:a0y ds p ((List.replicate n 0++[1])++bs):=by simpa using h
 have:=h1.right
 rw [zC,zV,List.length_singleton,<-Nat.add_assoc] at this
 exact this
theorem f2k (w:World) (b:Nat) (F ds:List Nat) (p k:Nat) (x:Int) (h:a1r w b F ds p) (hk:k<=25) (hx:a2e x) (ha:a0y ds p (a4d k x)) :
  Calls Tryz.prog 261 #[.pointer (some ⟨b,0,none⟩),.int .i64 k] w fun e w'=>e=.returned (.tuple #[.int .i64 x,.int .i64 0])/\a1r w' b F ds (p+(a4d k x).length)/\Chg [b] w w':=by
 have hu:=c8f hx
 have al:=b6h x
 have aw:=h.at_le
 obtain ⟨u,an⟩:=zX (a8f x)
 have ab:a4d k x=if u / 2^k<32 then List.replicate (u / 2^k) 0++1::a0b (u%2^k) k else List.replicate 32 0++1::a0b u 32:=by unfold a4d;rw [<-an]
 rw [<-an] at hu al
 have ah:=Nat.div_add_mod u (2^k)
 have ac:=Nat.mod_lt u (Nat.two_pow_pos k)
 have ak:2^k<=33554432:=Nat.pow_le_pow_right (n:=2) (j:=25) (by decide) hk
 obtain ⟨q,aq⟩:=zX (u / 2^k)
 obtain ⟨r,ao⟩:=zX (u%2^k)
 have e1:(u:Int) / 2^k=(q:Int):=by rw [aq];simp
 rw [<-aq] at ah ab
 rw [<-ao] at ah ac ab
 have ax:(q:Int)*2^k=(u:Int)-r:=by
  have:((2^k*q+r:Nat):Int)=(u:Int):=by rw [ah]
  rw [Int.natCast_add,Int.natCast_mul,Int.natCast_pow] at this
  rw [Int.mul_comm]
  simp at this
  omega
 have ay:r<=u:=by rw [ao];exact Nat.mod_le _ _
 have am:=hid ac
 have av:=hid al
 clear ah aq ao an ac ak al
 by_cases hs:q<32
 ·rw [if_pos hs] at ab
  rw [ab] at ha ⊢
  obtain ⟨hz,h1⟩:=c0c ha
  have ae:=c9g ha
  have hl:=ha.le aw
  simp only [zC,zV,zK,a0a] at hl
  have aa:(List.replicate q 0++1::a0b r k).length=q+1+k:=by simp [a0a];omega
  rw [aa]
  have t1:decide ((q:Int)<32)=true:=by simp;omega
  have ap:=hid hz
  have aj:=hid h1
  have au:=hid ae
  clear hz h1 ae ha ab aa
  go_enter Tryz.func261,Tryz.ntmps261
  go_wp2_with fail
  refine (d1u w b F ds p q 32 h (by omega) (by omega) ap.out aj.out (by omega)).mono ?_
  rintro e w1 ⟨rfl,ad,ai⟩
  go_wp2_with (go_at_call 69;refine (a2b _ b F ds _ ad).mono ?_;rintro e w' ⟨rfl,rfl⟩)
  refine (a0j _ b F ds (p+q+1) k r ad (by omega) am.out au.out).mono ?_
  rintro e w2 ⟨rfl,ag,ar⟩
  go_wp2_with fail
  have af:=b2j u w2 hu
  rw [av.out] at af
  refine af.mono ?_
  rintro e w3 ⟨rfl,rfl⟩
  go_wp2_with (go_at_call 69;refine (a2b _ b F ds _ ag).mono ?_;rintro e w' ⟨rfl,rfl⟩)
  go_ret2
  exact ⟨rfl,by rw [show p+(q+1+k)=p+q+1+k by omega];exact ag,ai.tq ar⟩
 ·rw [if_neg hs] at ab
  rw [ab] at ha ⊢
  obtain ⟨hz,h1⟩:=c0c ha
  have ae:=c9g ha
  have hl:=ha.le aw
  simp only [zC,zV,zK,a0a] at hl
  have aa:(List.replicate 32 0++1::a0b u 32).length=32+1+32:=by simp [a0a]
  rw [aa]
  have t1:decide ((2147483648:Int)<=(u:Int))=false:=by simp;omega
  have t2:decide ((q:Int)<32)=false:=by simp;omega
  have ap:=hid hz
  have aj:=hid h1
  have au:=hid ae
  clear hz h1 ae ha ab aa ax
  go_enter Tryz.func261,Tryz.ntmps261
  go_wp2_with fail
  refine (d1u w b F ds p 32 32 h (by omega) (by omega) ap.out aj.out (by omega)).mono ?_
  rintro e w1 ⟨rfl,ad,ai⟩
  go_wp2_with (go_at_call 69;refine (a2b _ b F ds _ ad).mono ?_;rintro e w' ⟨rfl,rfl⟩)
  refine (a0j _ b F ds (p+32+1) 32 u ad (by omega) (by omega) au.out).mono ?_
  rintro e w2 ⟨rfl,ag,ar⟩
  have af:=b2j u w2 hu
  rw [av.out] at af
  go_wp2_with (first | (go_at_call 69;refine (a2b _ b F ds _ ag).mono ?_;rintro e w' ⟨rfl,rfl⟩) | (go_at_call 160;refine af.mono ?_;rintro e w' ⟨rfl,rfl⟩))
  go_ret2
  exact ⟨rfl,ag,ai.tq ar⟩
theorem c8c (k:Nat) (x:Int) (l:List Int):a0r k (x::l)=a4d k x++a0r k l:=by simp [a0r]
theorem c4d (k:Nat) (l:List Int) {m:Nat} (hm:m<l.length):a0r k (l.drop m)=a4d k l[m]++a0r k (l.drop (m+1)):=by
 rw [List.drop_eq_getElem_cons hm,c8c]
theorem a0y.cast {ds:List Nat} {p q:Nat} {bs:List Nat} (h:a0y ds p bs) (e:p=q):a0y ds q bs:=e ▸ h
theorem a1r.cast {w:World} {b:Nat} {F ds:List Nat} {p q:Nat} (h:a1r w b F ds p) (e:p=q):a1r w b F ds q:=e ▸ h
theorem c8h (w:World) (b:Nat) (F ds:List Nat) (p k:Nat) (l:List Int) (h:a1r w b F ds p) (hk:k<=25) (hw:∀ x∈l,a2e x) (hl:l.length<=4194304) (ha:a0y ds p (a0r k l)) :
  Calls Tryz.prog 227 #[.pointer (some ⟨b,0,none⟩),.int .i64 k,.int .i64 l.length] w fun e w'=>∃ v G,e=.returned (.tuple #[v,.int .i64 0])/\Own w' 3 v G (l.map vi)/\a1r w' b F ds (p+(a0r k l).length)/\Chg [b] w w'/\∀ x∈G,w.heap.size<=x:=by
 have HW:=hid hw
 have HA:=hid ha
 clear hw ha
 have aC:=h.lt b h.mem
 obtain ⟨n,hn⟩:=zX (l.length)
 rw [<-hn] at hl ⊢
 have HN:=hid hn
 clear hn
 have t1:decide ((n:Int)<0)=false:=by simp
 have t2:decide ((4194304:Int)<(n:Int))=false:=by simp;omega
 go_enter Tryz.func227,Tryz.ntmps227
 go_wp2_with (first | (go_at_call 206;refine (b5v _ _ hk).mono ?_;rintro e w' ⟨rfl,rfl⟩) | (go_at_call 69;refine (a2b _ b F ds _ h).mono ?_;rintro e w' ⟨rfl,rfl⟩))
 go_loopg [8,28] n (fun j v i wr=>∃ G p' out,j<=n/\i=.int .i64 ((n-j:Nat):Int)/\Own wr 3 v G (out.map vi)/\Hid (out=l.take (n-j))/\a1r wr b F ds p'/\Hid (a0y ds p' (a0r k (l.drop (n-j))))/\Hid (p'+(a0r k (l.drop (n-j))).length=p+(a0r k l).length)/\Chg [b] w wr/\∀ x∈G,w.heap.size<=x)
 case atStart=>exact ⟨[],p,[],zQ _,by simp,Own.nil _ _,hid (by simp),h,by simpa using HA,hid (by simp),zR _ _,by simp⟩
 case round =>
  obtain ⟨G,p',out,hj,rfl,ho,Ho,al,Ha,Hp,ai,hG⟩:=hrel
  obtain ⟨A,aD,rfl,aB,aA,-⟩:=ho.oq
  have HG:=hid hG
  clear hG
  rcases gk with _ | j
  ·have t4:decide (((n-0:Nat):Int)<(n:Int))=false:=by simp
   go_wp2
   go_ret2
   have e:l.take (n-0)=l:=by rw [HN.out,Nat.sub_zero,zN]
   have e2:l.drop (n-0)=[]:=by rw [HN.out,Nat.sub_zero,List.drop_length]
   rw [Ho.out,e] at ho
   have hp:=Hp.out
   rw [e2] at hp
   refine ⟨_,G,rfl,?_,al.cast (by simpa [a0r] using hp),ai,HG.out⟩
   rw [Ho.out,e]
   exact ho
  ·obtain ⟨m,ak⟩:=zX (n-(j+1))
   rw [<-ak] at Ha Hp Ho ⊢
   have ar:m<n:=by omega
   have aj:n-j=m+1:=by omega
   have HM:=hid aj
   clear ak aj
   have af:m<l.length:=by rw [<-HN.out];exact ar
   have ab:=c4d k l af
   have ad:=a0o l af
   have am:a2e l[m]:=HW.out _ (zG _)
   obtain ⟨x,hx⟩:=zX (l[m])
   rw [<-hx] at ab am ad
   have ac:=Ha.out
   rw [ab] at ac
   have aa:=f2k wr b F ds p' k x al hk am ac.left
   have ay:=hid ac.right
   have az:out.length<=4194304:=by rw [Ho.out,zI];omega
   have ao:=hid ad
   have ap:=hid ab
   clear ab ad hx ac af
   go_wp2_with fail
   refine aa.mono ?_
   rintro e w1 ⟨rfl,an,ae⟩
   have ag:∀ y∈G,y∉[b]:=fun y hy=>by have:=HG.out y hy;simp;omega
   have aq:=ho.chg ae ag
   have HB:=hid ag
   clear aa ag
   go_wp2_with (at_builtin;refine a0f rfl rfl a0p rfl rfl (aq.alloc _) (.int .i64 x) rfl ?c1 ?c2 ?c3 ?c4 ?_)
   case c1=>simp [go_sem]
   case c2=>rfl
   case c3=>rw [zE];omega
   case c4=>rw [zE];omega
   intro g2 ax w2 av ah
   go_wp2_with fail
   go_roundg j
   case measure=>omega
   case rel =>
    rw [HM.out]
    have au:Chg [b] w w2:=(ai.tq (ae.alloc _)).trans ah.chg fun x hx => .inr (HG.out x hx)
    have aw:∀ y∈F,y∉G:=fun y hy hyG=>by have:=HG.out y hyG;have:=h.lt y hy;omega
    refine ⟨[g2],_,out++[x],by omega,by go_num,?_,?_,(an.same ((zR [] w1).alloc _)).chg ah.chg aw,ay,?_,au,?_⟩
    ·have:=av.toOwn
     simpa [vi] using this
    ·exact hid (by rw [Ho.out,ao.out])
    ·refine hid ?_
     rw [<-Hp.out,ap.out,zC]
     omega
    ·intro y hy
     simp at hy
     subst hy
     rcases ah.new y (by simp) with h1 | h1
     ·exact HG.out y h1
     ·have:=ai.size
      have:=ae.size
      simp at h1
      omega
theorem e3o (m:Nat) (w:World) (hm:m<=30):Calls Tryz.prog 273 #[.int .i64 ((m:Int)+1)] w fun e w'=>e=.returned (.int .i64 (-2^m))/\w=w':=by
 have t1:decide ((m:Int)+1<1)=false:=by simp;omega
 have t2:decide ((31:Int)<(m:Int)+1)=false:=by simp;omega
 have hp:(2:Int)^m<=1073741824:=a5u (n:=30) hm
 have aa:=a0i m
 go_enter Tryz.func273,Tryz.ntmps273
 go_wp2
 go_ret
 refine ⟨?_,rfl⟩
 first | rfl | (go_num)
theorem d3q (m:Nat) (w:World) (hm:m<=30):Calls Tryz.prog 274 #[.int .i64 ((m:Int)+1)] w fun e w'=>e=.returned (.int .i64 (2^m-1))/\w=w':=by
 have t1:decide ((m:Int)+1<1)=false:=by simp;omega
 have t2:decide ((31:Int)<(m:Int)+1)=false:=by simp;omega
 have hp:(2:Int)^m<=1073741824:=a5u (n:=30) hm
 have aa:=a0i m
 go_enter Tryz.func274,Tryz.ntmps274
 go_wp2
 go_ret
 refine ⟨?_,rfl⟩
 first | rfl | (go_num)
theorem f1k (x:Int) (n:Nat) (w:World) (hn:n<=31) (hx0 : -4611686018427387904<=x) (hx1:x<=4611686018427387904):Calls Tryz.prog 251 #[.int .i64 x,.int .i64 n] w fun e w'=>e=.returned (.bool (a7w x n))/\w=w':=by
 rcases n with _ | m
 ·have hf:a7w x 0=false:=by simp [a7w]
  rw [hf]
  go_enter Tryz.func251,Tryz.ntmps251
  go_wp2
  go_ret
  exact ⟨rfl,rfl⟩
 ·have hm:m<=30:=by omega
  have aa:((m+1:Nat):Int)=(m:Int)+1:=by omega
  rw [aa]
  have t1:decide ((1:Int)<=(m:Int)+1)=true:=by simp;omega
  have t2:decide ((m:Int)+1<=31)=true:=by simp;omega
  have hp:(2:Int)^m<=1073741824:=a5u (n:=30) hm
  have ab:=a0i m
  have hf:a7w x (m+1)=(decide (-2^m<=x)&&decide (x<=2^m-1)):=by
   unfold a7w
   simp [hn]
  rw [hf]
  clear hf
  by_cases h1 : -2^m<=x
  ·have t3:decide ((-2^m:Int)<=x)=true:=by simpa using h1
   by_cases h2:x<=2^m-1
   ·have t4:decide (x<=(2^m-1:Int))=true:=by simpa using h2
    rw [t3,t4]
    go_enter Tryz.func251,Tryz.ntmps251
    go_wp2_with (first | (go_at_call 273;refine (e3o m _ hm).mono ?_;rintro e w' ⟨rfl,rfl⟩) | (go_at_call 274;refine (d3q m _ hm).mono ?_;rintro e w' ⟨rfl,rfl⟩))
    go_ret
    exact ⟨rfl,rfl⟩
   ·have t4:decide (x<=(2^m-1:Int))=false:=by simpa using h2
    rw [t3,t4]
    go_enter Tryz.func251,Tryz.ntmps251
    go_wp2_with (first | (go_at_call 273;refine (e3o m _ hm).mono ?_;rintro e w' ⟨rfl,rfl⟩) | (go_at_call 274;refine (d3q m _ hm).mono ?_;rintro e w' ⟨rfl,rfl⟩))
    go_ret
    exact ⟨rfl,rfl⟩
  ·have t3:decide ((-2^m:Int)<=x)=false:=by simpa using h1
   rw [t3]
   go_enter Tryz.func251,Tryz.ntmps251
   go_wp2_with (first | (go_at_call 273;refine (e3o m _ hm).mono ?_;rintro e w' ⟨rfl,rfl⟩) | (go_at_call 274;refine (d3q m _ hm).mono ?_;rintro e w' ⟨rfl,rfl⟩))
   go_ret
   exact ⟨rfl,rfl⟩
theorem c8s (l:List Int) (A:Option Addr) (cap:Nat) (w:World) (hw:∀ x∈l,a2e x) (hc:a0d vi w A l) (hl:l.length<=1099511627776) :
  Calls Tryz.prog 202 #[.slice A l.length cap] w fun e w'=>e=.returned (.int .i64 (a4w l))/\w=w':=by
 have HW:=hid hw
 clear hw
 obtain ⟨n,hn⟩:=zX (l.length)
 rw [<-hn] at hl ⊢
 have HN:=hid hn
 clear hn
 go_enter Tryz.func202,Tryz.ntmps202
 go_wp2_with fail
 go_loopg [3,8] n (fun j s i wr=>j<=n/\i=.int .i64 ((n-j:Nat):Int)/\s=.int .i64 ((a4w (l.take (n-j)):Nat):Int)/\w=wr)
 case atStart=>exact ⟨zQ _,by simp,by simp [a4w],rfl⟩
 case round =>
  obtain ⟨hj,rfl,rfl,rfl⟩:=hrel
  rcases gk with _ | j
  ·have t4:decide (((n-0:Nat):Int)<(n:Int))=false:=by simp
   have e:l.take n=l:=by rw [HN.out,zN]
   rw [Nat.sub_zero,e]
   go_wp2
   go_ret
   exact ⟨rfl,rfl⟩
  ·obtain ⟨m,an⟩:=zX (n-(j+1))
   rw [<-an]
   have aq:m<n:=by omega
   have am:n-j=m+1:=by omega
   have HM:=hid am
   clear an am
   have ak:m<l.length:=by rw [<-HN.out];exact aq
   obtain ⟨b,o,rfl,aa⟩:=hc.at_ ak
   have af:=d4z (l.take m) l[m]
   rw [<-a0o l ak] at af
   have ai:=b2m (l:=l.take m) (fun x hx=>HW.out x (List.mem_of_mem_take hx))
   obtain ⟨x,hx⟩:=zX (l[m])
   rw [<-hx] at aa af
   have aj:w.cell? ⟨b,o+m,none⟩=some (.int .i64 x):=aa
   have ag:a2e x:=by rw [hx];exact HW.out _ (zG _)
   have ap:=ag
   obtain ⟨aw,av⟩:=ap
   obtain ⟨s,hs⟩:=zX (a4w (l.take m))
   rw [<-hs] at af ai ⊢
   have HS:=hid af
   have ad:=c1t ag 32 s ai
   clear af aa hx hs ak
   go_wp2_with fail
   go_loopg [3] (32-s) (fun f v wr=>∃ v':Nat,v=.int .i64 v'/\v'+f=32/\Hid (a1h x 32 s=a1h x f v')/\v'<=31/\w=wr)
   case atStart=>exact ⟨s,rfl,by omega,hid (by
    have:∀ d,d+(32-s)=32->a1h x 32 s=a1h x (32-s) s:=by
     intro d _
     have ao:∀ f g w',w'<=31->32<=w'+f->32<=w'+g->a1h x f w'=a1h x g w':=by
      intro f
      induction f with
      | zero=>intro g w' h1 h2 h3;omega
      | succ f ih =>
       intro g w' h1 h2 h3
       rcases g with _ | g
       ·omega
       ·unfold a1h
        split
        ·rename_i hcc
         have:w'≠31:=fun e=>by rw [e,b5i ag] at hcc;simp at hcc
         exact ih g (w'+1) (by omega) (by omega) (by omega)
        ·rfl
     exact ao 32 (32-s) s ai (by omega) (by omega)
    exact this s (by omega)),ai,rfl⟩
   case round =>
    obtain ⟨v,rfl,au,Hn,al,rfl⟩:=hrel
    have ah:=f1k x v w al (by omega) (by omega)
    by_cases hx00:x=0
    ·have ab:=d1f (x:=x) (w:=v) (f:=gk) (.inl hx00)
     rw [<-Hn.out,<-HS.out] at ab
     have ae:=hid ab
     clear ab Hn ad HS
     have t5:(x != 0)=false:=by simp [hx00]
     clear hx00
     go_wp2
     go_roundg j
     case measure=>omega
     case rel=>rw [HM.out,ae.out];exact ⟨by omega,by go_num,rfl,rfl⟩
    ·have t5:(x != 0)=true:=by simp [hx00]
     have t6:decide ((v:Int)<32)=true:=by simp;omega
     have ac:x≠0:=hx00
     have HX:=hid ac
     clear hx00 ac
     cases hfb:a7w x v with
     | true =>
      rw [hfb] at ah
      have ab:=d1f (x:=x) (w:=v) (f:=gk) (.inr hfb)
      rw [<-Hn.out,<-HS.out] at ab
      have ae:=hid ab
      clear ab Hn hfb ad HS
      go_wp2_with (go_at_call 251;refine ah.mono ?_;rintro e w' ⟨rfl,rfl⟩)
      go_roundg j
      case measure=>omega
      case rel=>rw [HM.out,ae.out];exact ⟨by omega,by go_num,rfl,rfl⟩
     | false =>
      rw [hfb] at ah
      have ar:v≠31:=fun e=>by rw [e,b5i ag] at hfb;cases hfb
      obtain ⟨g,rfl⟩:∃ g,gk=g+1:=⟨gk-1,by omega⟩
      have ab:=e4b HX.out (by omega) hfb g
      rw [<-Hn.out] at ab
      have ae:=hid ab
      clear ab Hn hfb
      go_wp2_with (go_at_call 251;refine ah.mono ?_;rintro e w' ⟨rfl,rfl⟩)
      go_roundg g
      case measure=>omega
      case rel=>exact ⟨v+1,by go_num,by omega,ae,by omega,rfl⟩
theorem b5y (n warm:Nat) (w:World) (h1:1<=n) (h2:n<=4096) (h3:warm<=n):Calls Tryz.prog 248 #[.int .i64 n,.int .i64 warm] w fun e w'=>e=.returned (.bool true)/\w=w':=by
 have t1:decide ((1:Int)<=(n:Int))=true:=by simp;omega
 have t2:decide ((n:Int)<=4096)=true:=by simp;omega
 have t3:decide ((0:Int)<=(warm:Int))=true:=by simp
 have t4:decide (warm<=n)=true:=by simp;omega
 go_enter Tryz.func248,Tryz.ntmps248
 go_wp2
 go_ret
 exact ⟨rfl,rfl⟩
theorem Own.one (w:World) (e:TypeId) (u:Value):Own (w.alloc (.cells #[u] e)) e (.slice (some ⟨w.heap.size,0,none⟩) 1 1) [w.heap.size] [u]:=by
 have:=(Row.made w e [u] (by simp [maxLen])).toOwn
 simpa using this
theorem b6b (o n warm:Nat) (w:World) (ho:o<=8) (h1:1<=n) (h2:n<=4096) (h3:warm<=n) :
  Calls Tryz.prog 199 #[.int .i64 o,.int .i64 n,.int .i64 warm] w fun e w'=>∃ v G,e=.returned v/\Own w' 3 v G ((a1q o n warm).map i64)/\Chg [] w w'/\∀ x∈G,w.heap.size<=x:=by
 have t1:decide ((o:Int)<0)=false:=by simp
 have t2:decide ((8:Int)<(o:Int))=false:=by simp;omega
 have aj:2^o<=256:=Nat.pow_le_pow_right (n:=2) (j:=8) (by decide) ho
 have ah:=Nat.two_pow_pos o
 obtain ⟨P,hP⟩:=zX (2^o)
 obtain ⟨s,hs⟩:=zX (n / 2^o)
 have aq:(2:Int)^o=(P:Int):=by rw [hP];simp
 have ar:s<=n:=by rw [hs];exact Nat.div_le_self _ _
 have an:s*P<=n:=by rw [hs,hP];exact Nat.div_mul_le_self _ _
 have ac:a1q o n warm=if s*P=n/\warm<=s then (s-warm)::List.replicate (P-1) s else []:=by unfold a1q;rw [<-hs,<-hP]
 have e1:(n:Int) / (P:Int)=(s:Int):=by rw [hs,hP];simp
 rw [<-hP] at ah aj
 have HD:=hid ac
 clear ac hs
 have HP:=hid hP
 clear hP
 by_cases c1:s*P=n
 ·have t3:(((s:Int)*(P:Int)) != (n:Int))=false:=by
   rw [bne_eq_false_iff_eq]
   exact_mod_cast c1
  by_cases c2:warm<=s
  ·have t4:decide (s<warm)=false:=by simp;omega
   rw [if_pos ⟨c1,c2⟩] at HD
   have ak:((s:Int)-(warm:Int))=((s-warm:Nat):Int):=by omega
   have ae:=hid c1
   clear c1
   go_enter Tryz.func199,Tryz.ntmps199
   go_wp2_with (go_at_call 248;refine (b5y n warm _ h1 h2 h3).mono ?_;rintro e w' ⟨rfl,rfl⟩)
   go_loopg [8] (P-1) (fun j v wr=>∃ G out,Own wr 3 v G (out.map i64)/\Hid (out=(s-warm)::List.replicate (P-1-j) s)/\out.length+j=P/\Chg [] w wr/\∀ x∈G,w.heap.size<=x)
   case atStart=>exact ⟨[w.heap.size],[s-warm],by simpa [i64] using Own.one w 3 (.int .i64 ((s-warm:Nat):Int)),hid (by simp),by simp;omega,(zR _ _).alloc _,by simp⟩
   case round =>
    obtain ⟨G,out,aa,Ho,ab,ad,hG⟩:=hrel
    obtain ⟨A,au,rfl,ap,ao,-⟩:=aa.oq
    have HG:=hid hG
    clear hG
    rcases gk with _ | j
    ·have t5:decide (out.length<P)=false:=by simp;omega
     have ag:=hid ab
     clear ab
     go_wp2
     go_ret
     refine ⟨_,G,rfl,?_,ad,HG.out⟩
     rw [HD.out]
     have ho:=Ho.out
     rw [Nat.sub_zero] at ho
     rw [<-ho]
     exact aa
    ·have t5:decide (out.length<P)=true:=by simp;omega
     have ag:=hid ab
     have am:out.length<=256:=by omega
     clear ab
     go_wp2_with (at_builtin;refine a0f rfl rfl a0p rfl rfl (aa.alloc _) (.int .i64 s) rfl ?c1 ?c2 ?c3 ?c4 ?_)
     case c1=>simp [go_sem]
     case c2=>rfl
     case c3=>rw [zE];omega
     case c4=>rw [zE];omega
     intro g2 al w2 ai af
     go_wp2_with fail
     go_roundg j
     case measure=>omega
     case rel =>
      have ab:=ag.out
      refine ⟨[g2],out++[s],?_,hid ?_,by rw [zC,List.length_singleton];omega,(ad.alloc _).trans af.chg fun x hx => .inr (HG.out x hx),?_⟩
      ·have:=ai.toOwn
       simpa [i64] using this
      ·have av:1<=out.length:=by rw [Ho.out];simp
       rw [Ho.out]
       have e:P-1-j=P-1-(j+1)+1:=by omega
       rw [e,List.replicate_succ',List.cons_append]
      ·intro y hy
       simp at hy
       subst hy
       rcases af.new y (by simp) with h5 | h5
       ·exact HG.out y h5
       ·have:=ad.size
        simp at h5
        omega
  ·have t4:decide (s<warm)=true:=by simp;omega
   rw [if_neg (fun h=>c2 h.2)] at HD
   have ae:=hid c1
   clear c1
   go_enter Tryz.func199,Tryz.ntmps199
   go_wp2_with (go_at_call 248;refine (b5y n warm _ h1 h2 h3).mono ?_;rintro e w' ⟨rfl,rfl⟩)
   go_ret
   refine ⟨_,[],rfl,?_,zR _ _,by simp⟩
   rw [HD.out]
   exact Own.nil _ _
 ·have t3:(((s:Int)*(P:Int)) != (n:Int))=true:=by
   rw [bne_iff_ne]
   intro h
   exact c1 (by exact_mod_cast h)
  rw [if_neg (fun h=>c1 h.1)] at HD
  have ae:=hid c1
  clear c1
  go_enter Tryz.func199,Tryz.ntmps199
  go_wp2_with (go_at_call 248;refine (b5y n warm _ h1 h2 h3).mono ?_;rintro e w' ⟨rfl,rfl⟩)
  go_ret
  refine ⟨_,[],rfl,?_,zR _ _,by simp⟩
  rw [HD.out]
  exact Own.nil _ _
theorem d1r (n warm:Nat) (l:List Int) (A:Option Addr) (cap:Nat) (w:World) (h1:1<=n) (h2:n<=4096) (h3:warm<=n) (hl:l.length=n-warm) (hw:∀ x∈l,a2e x) (hc:a0d vi w A l) :
  Calls Tryz.prog 198 #[.int .i64 n,.int .i64 warm,.slice A l.length cap] w fun e w'=>e=.returned (.bool true)/\w=w':=by
 have HW:=hid hw
 clear hw
 obtain ⟨m,hm⟩:=zX (l.length)
 rw [<-hm] at hl ⊢
 have ah:((n:Int)-(warm:Int))=(m:Int):=by omega
 have t1:((m:Int) != (m:Int))=false:=by simp
 have HN:=hid hm
 have HL:=hid hl
 have ai:m<=4096:=by omega
 clear hm hl
 go_enter Tryz.func198,Tryz.ntmps198
 go_wp2_with (go_at_call 248;refine (b5y n warm _ h1 h2 h3).mono ?_;rintro e w' ⟨rfl,rfl⟩)
 go_loopg [23] m (fun j i wr=>j<=m/\i=.int .i64 ((m-j:Nat):Int)/\w=wr)
 case atStart=>exact ⟨zQ _,by simp,rfl⟩
 case round =>
  obtain ⟨hj,rfl,rfl⟩:=hrel
  rcases gk with _ | j
  ·have t4:decide (((m-0:Nat):Int)<(m:Int))=false:=by simp
   go_wp2
   go_ret
   exact ⟨rfl,rfl⟩
  ·obtain ⟨i,ad⟩:=zX (m-(j+1))
   rw [<-ad]
   have ag:i<m:=by omega
   have ac:m-j=i+1:=by omega
   have HI:=hid ac
   clear ad ac
   have ae:i<l.length:=by rw [<-HN.out];exact ag
   obtain ⟨g,o,rfl,aa⟩:=hc.at_ ae
   have af:a2e l[i]:=HW.out _ (zG _)
   obtain ⟨x,hx⟩:=zX (l[i])
   rw [<-hx] at aa af
   have ab:w.cell? ⟨g,o+i,none⟩=some (.int .i64 x):=aa
   obtain ⟨aj,ak⟩:=af
   have t5:decide (x < -1073741824)=false:=zA (by omega)
   have t6:decide ((1073741824:Int)<=x)=false:=zA (by omega)
   clear aa hx ae
   go_wp2
   go_roundg j
   case measure=>omega
   case rel =>
    rw [HI.out]
    exact ⟨by omega,by go_num,rfl⟩
theorem e5b (l:List Int) (A:Option Addr) (cap:Nat) (w:World) (hw:∀ x∈l,a2e x) (hc:a0d vi w A l) (hl:l.length<=4194304) :
  Calls Tryz.prog 249 #[.slice A l.length cap] w fun e w'=>e=.returned (.int .i64 (a8e l))/\w=w':=by
 have ab:=c8s l A cap w hw hc (by omega)
 have ac:=b2m hw
 obtain ⟨s,hs⟩:=zX (a4w l)
 have aa:a8e l=5+s*l.length:=by unfold a8e;rw [<-hs]
 rw [<-hs] at ab ac
 have HD:=hid aa
 have hb:s*l.length<=31*4194304:=zL ac hl
 obtain ⟨n,hn⟩:=zX (l.length)
 rw [<-hn] at ab hb HD ⊢
 have ae:(s:Int)*(n:Int)<=130023424:=by
  have:((s*n:Nat):Int)<=130023424:=by omega
  rwa [Int.natCast_mul] at this
 have ad:(0:Int)<=(s:Int)*(n:Int):=Int.mul_nonneg (by omega) (by omega)
 clear aa hs hw hc hn hb
 go_enter Tryz.func249,Tryz.ntmps249
 go_wp2_with (go_at_call 202;refine ab.mono ?_;rintro e w' ⟨rfl,rfl⟩)
 go_ret
 rw [HD.out]
 refine ⟨?_,rfl⟩
 first | rfl | (go_num)
theorem e1n (l:List Int) (A:Option Addr) (cap:Nat) (w:World) (hw:∀ x∈l,a2e x) (hc:a0d vi w A l) (hl:l.length<=4194304) :
  Calls Tryz.prog 200 #[.slice A l.length cap] w fun e w'=>e=.returned (.int .i64 (a4a l))/\w=w':=by
 have h1:=c8b l A cap w hw hc (by omega)
 have h2:=e5b l A cap w hw hc hl
 have h3:=d4m (a6u l) l A cap w (a8p l) hw hc (by omega)
 have aa:a4a l=if a8e l<b9c (a6u l) l then 31 else a6u l:=rfl
 obtain ⟨s,hs⟩:=zX (a8e l)
 obtain ⟨b,hb⟩:=zX (a6u l)
 rw [<-hs,<-hb] at aa
 rw [<-hs] at h2
 rw [<-hb] at h1 h3
 obtain ⟨t,ht⟩:=zX (b9c b l)
 rw [<-ht] at aa h3
 have HD:=hid aa
 clear aa hs hb ht hw hc
 by_cases hlt:s<t
 ·have t5:decide (s<t)=true:=by simpa using hlt
  rw [if_pos hlt] at HD
  go_enter Tryz.func200,Tryz.ntmps200
  go_wp2_with (first | (go_at_call 162;refine h1.mono ?_;rintro e w' ⟨rfl,rfl⟩) | (go_at_call 249;refine h2.mono ?_;rintro e w' ⟨rfl,rfl⟩) | (go_at_call 212;refine h3.mono ?_;rintro e w' ⟨rfl,rfl⟩))
  go_ret
  rw [HD.out]
  exact ⟨rfl,rfl⟩
 ·have t5:decide (s<t)=false:=by simpa using hlt
  rw [if_neg hlt] at HD
  go_enter Tryz.func200,Tryz.ntmps200
  go_wp2_with (first | (go_at_call 162;refine h1.mono ?_;rintro e w' ⟨rfl,rfl⟩) | (go_at_call 249;refine h2.mono ?_;rintro e w' ⟨rfl,rfl⟩) | (go_at_call 212;refine h3.mono ?_;rintro e w' ⟨rfl,rfl⟩))
  go_ret
  rw [HD.out]
  exact ⟨rfl,rfl⟩
theorem a0d.i64_at {w:World} {A:Option Addr} {l:List Nat} (h:a0d i64 w A l) {m:Nat} (hm:m<l.length) :
  ∃ b o,A=some ⟨b,o,none⟩/\w.cell? ⟨b,o+m,none⟩=some (.int .i64 (l[m]:Nat)):=h.at_ hm
def f1c (ks:List Nat):Prop:=∀ k∈ks,k<=25\/k=31
theorem e9o (o n warm:Nat) (ks:List Nat) (A:Option Addr) (cap:Nat) (w:World) (ho:o<=8) (h1:1<=n) (h2:n<=4096) (h3:warm<=n) (hne:a1q o n warm≠[]) (hlen:ks.length=(a1q o n warm).length) (hks:f1c ks) (hc:a0d i64 w A ks) :
  Calls Tryz.prog 250 #[.agg #[.int .i64 o,.slice A ks.length cap],.int .i64 n,.int .i64 warm] w fun e w'=>e=.returned (.bool true)/\Chg [] w w':=by
 have ap:=a7o hne
 have au:2^o<=256:=Nat.pow_le_pow_right (n:=2) (j:=8) (by decide) ho
 have ak:=Nat.two_pow_pos o
 obtain ⟨N,hN⟩:=zX (ks.length)
 have aj:N=(a1q o n warm).length:=by rw [hN,hlen]
 have ax:1<=N:=by omega
 have ay:N<=256:=by omega
 rw [<-hN]
 have am:=hid hks
 have HN:=hid hN
 have an:=hid aj
 clear ap au ak hN aj hlen hks hne
 go_enter Tryz.func250,Tryz.ntmps250
 go_wp2_with fail
 refine (b6b o n warm _ ho h1 h2 h3).mono ?_
 rintro e w1 ⟨v,G,rfl,ab,ae,hG⟩
 obtain ⟨A2,av,rfl,al,aw,-⟩:=ab.oq
 rw [<-an.out]
 have ah:=(Blk.new w 188 #[.int .i64 o,.slice A N cap]).chg ae (by simp)
 have ar:=ah.cell 1
 simp at ar
 have ac:Chg [] w w1:=((zR [] w).alloc _).tq ae
 have aq:=hc.same ac
 have t1:((N:Int)==0)=false:=by rw [beq_eq_false_iff_ne];omega
 have t2:((N:Int) != (N:Int))=false:=by simp
 clear ae ah ab hc
 go_wp2_with fail
 go_loopg [29] N (fun j i wr=>j<=N/\i=.int .i64 ((N-j:Nat):Int)/\w1=wr)
 case atStart=>exact ⟨zQ _,by simp,rfl⟩
 case round =>
  obtain ⟨hj,rfl,rfl⟩:=hrel
  rcases gk with _ | j
  ·have t4:decide (((N-0:Nat):Int)<(N:Int))=false:=by simp
   go_wp2
   go_ret
   exact ⟨rfl,ac⟩
  ·obtain ⟨i,af⟩:=zX (N-(j+1))
   rw [<-af]
   have ao:i<N:=by omega
   have ai:N-j=i+1:=by omega
   have HI:=hid ai
   clear af ai
   have ad:i<ks.length:=by rw [<-HN.out];exact ao
   obtain ⟨g,az,rfl,aa⟩:=aq.i64_at ad
   have hk:=am.out _ (zG ad)
   obtain ⟨k,ag⟩:=zX (ks[i])
   rw [<-ag] at aa hk
   have t5:decide ((k:Int)<0)=false:=by simp
   clear ag ad
   rcases hk with hk | rfl
   ·have t6:decide ((25:Int)<(k:Int))=false:=by simp;omega
    go_wp2
    go_roundg j
    case measure=>omega
    case rel =>
     rw [HI.out]
     exact ⟨by omega,by go_num,rfl⟩
   ·go_wp2
    go_roundg j
    case measure=>omega
    case rel =>
     rw [HI.out]
     exact ⟨by omega,by go_num,rfl⟩
theorem d8m {ks:List Nat} {ps:List (List Int)} {i k:Nat} {p:List Int} (hk:ks[i]?=some k) (hp:ps[i]?=some p) :
  a9m (ks.take (i+1)) (ps.take (i+1))=a9m (ks.take i) (ps.take i)+a4z k p:=by
 have ab:=(List.getElem?_eq_some_iff.1 hk).1
 have aa:=(List.getElem?_eq_some_iff.1 hp).1
 have ek:=(List.getElem?_eq_some_iff.1 hk).2
 have ep:=(List.getElem?_eq_some_iff.1 hp).2
 unfold a9m
 rw [List.take_succ_eq_append_getElem ab,List.take_succ_eq_append_getElem aa,List.zip_append (by simp;omega),zM,List.sum_append,ek,ep]
 simp
 omega
theorem b4g {k:Nat} {p:List Int} (hk:k<=25\/k=31) (hw:∀ x∈p,a2e x):a4z k p<=10+65*p.length:=by
 unfold a4z a8e
 split
 ·have:=Nat.mul_le_mul_right p.length (b2m hw)
  omega
 ·have:=e5l k p (by omega)
  omega
theorem a8q (w:World):(sizeOf 3).run Tryz.prog w=.ok 1 w:=by
 exact Tryz.sizeOf3 w
theorem b1q {α:Type} (l:List α) (ss:List Nat) (i:Nat) (h:i<ss.length):(l.drop (a2m ss i)).drop ss[i]=l.drop (a2m ss (i+1)):=by
 rw [List.drop_drop,b2e ss i h]
theorem d7d (o n warm:Nat) (ks:List Nat) (A:Option Addr) (cap:Nat) (l:List Int) (Al:Option Addr) (capl:Nat) (w:World) (ho:o<=8) (h1:1<=n) (h2:n<=4096) (h3:warm<=n) (hne:a1q o n warm≠[]) (hlen:ks.length=(a1q o n warm).length) (hks:f1c ks) (hc:a0d i64 w A ks)
  (hll:l.length=n-warm) (hw:∀ x∈l,a2e x) (hcl:a0d vi w Al l) (hcap1:l.length<=capl) (hcap2:capl<=9223372036854775807) :
  Calls Tryz.prog 201 #[.agg #[.int .i64 o,.slice A ks.length cap],.int .i64 n,.int .i64 warm,.slice Al l.length capl] w fun e w'=>e=.returned (.int .i64 (a9m ks (a1k (a1q o n warm) l)))/\Chg [] w w':=by
 have aV:=a9y hne
 have ap:=a7o hne
 have bd:2^o<=256:=Nat.pow_le_pow_right (n:=2) (j:=8) (by decide) ho
 obtain ⟨ss,aB⟩:=zX (a1q o n warm)
 obtain ⟨N,hN⟩:=zX (ks.length)
 obtain ⟨L,hL⟩:=zX (l.length)
 have ay:=fun w hc=>e9o o n warm ks A cap w ho h1 h2 h3 hne hlen hks hc
 have ad:=fun w hc=>d1r n warm l Al capl w h1 h2 h3 hll hw hc
 have ac:=fun w=>b6b o n warm w ho h1 h2 h3
 rw [<-aB] at hlen aV ap ac ⊢
 rw [<-hN] at ay hlen ⊢
 rw [<-hL] at ad hll hcap1 ⊢
 have aT:=hid ay
 have ax:=hid ad
 have av:=hid ac
 have a9:=hid hks
 have HW:=hid hw
 have HN:=hid hN
 have HL:=hid hL
 have aU:=hid hlen
 have be:=hid aV
 have bk:=hid hll
 have a6:N<=256:=by omega
 have bg:L<=4096:=by omega
 clear ay ad ac hks hw hN hL hlen aV ap bd aB hll hne
 go_enter Tryz.func201,Tryz.ntmps201
 go_wp2_with fail
 refine (aT.out _ (hc.same ((zR [] w).alloc _))).mono ?_
 rintro e w1 ⟨rfl,aW⟩
 have aF:Chg [] w w1:=((zR [] w).alloc _).tq aW
 have aX:=(Blk.new w 188 #[.int .i64 o,.slice A N cap]).chg aW (by simp)
 have aZ:=aX.cell 0
 simp at aZ
 go_wp2_with fail
 refine (ax.out _ (hcl.same aF)).mono ?_
 rintro e br ⟨rfl,rfl⟩
 go_wp2_with fail
 refine (av.out _).mono ?_
 rintro e w2 ⟨v,G,rfl,aD,aS,hG⟩
 obtain ⟨A2,bn,rfl,aO,bi,al⟩:=aD.oq
 have au:Chg [] w w2:=aF.tq aS
 have aC:=aX.chg aS (by simp)
 have bb:=aC.cell 1
 simp at bb
 have bl:=hc.same au
 have bf:=hcl.same au
 have ah:=aU.out
 rw [<-ah]
 clear aX aC aZ aW aS aD hc hcl hG
 have an:=hid ah
 clear ah
 have aQ:=hid hcap2
 clear aO hcap2
 go_wp2_with fail
 go_loopg [3,9,31] N (fun j lv cv i wr=>j<=N/\i=.int .i64 ((N-j:Nat):Int)/\w2=wr/\cv=.int .i64 ((a9m (ks.take (N-j)) ((a1k ss l).take (N-j)):Nat):Int)/\a9m (ks.take (N-j)) ((a1k ss l).take (N-j))<=4+(N-j)*300000 /\
   ∃ A' c' rest,lv=.slice A' rest.length c'/\Hid (rest=l.drop (a2m ss (N-j)))/\a0d vi w2 A' rest/\rest.length<=c'/\c'<=9223372036854775807/\rest.length<=4096)
 case atStart =>
  refine ⟨zQ _,by simp,rfl,by simp [a9m],by simp [a9m],Al,capl,l,?_,hid (by simp [a2m]),bf,?_,aQ.out,?_⟩
  ·rw [<-HL.out]
  ·rw [<-HL.out];exact hcap1
  ·rw [<-HL.out];exact bg
 case round =>
  obtain ⟨hj,rfl,rfl,rfl,aN,A',c',rest,rfl,ae,aJ,ba,bq,bp⟩:=hrel
  rcases gk with _ | j
  ·have t4:decide (((N-0:Nat):Int)<(N:Int))=false:=by simp
   have e1:ks.take N=ks:=by rw [HN.out,zN]
   have e2:(a1k ss l).take N=a1k ss l:=by rw [an.out,<-a5h ss l,zN]
   rw [Nat.sub_zero,e1,e2]
   go_wp2
   go_ret
   exact ⟨rfl,au⟩
  ·obtain ⟨i,a3⟩:=zX (N-(j+1))
   rw [<-a3] at aN ae ⊢
   have a0:i<N:=by omega
   have a1:N-j=i+1:=by omega
   have HI:=hid a1
   clear a3 a1
   have aM:i<ks.length:=by rw [<-HN.out];exact a0
   have aE:i<ss.length:=by rw [<-an.out];exact a0
   obtain ⟨bv,bw,rfl,aw⟩:=bl.i64_at aM
   obtain ⟨bu,bs,rfl,aq⟩:=al.i64_at aE
   have hk:=a9.out _ (zG aM)
   have az:=b0a ss l i aE
   have ag:=d8m (ks:=ks) (ps:=a1k ss l) (i:=i) (zF aM) az
   have aH:=b0r ss i aE
   have aL:=b1q l ss i aE
   rw [<-ae.out] at az ag aL
   obtain ⟨k,a4⟩:=zX (ks[i])
   obtain ⟨s,hs⟩:=zX (ss[i])
   rw [<-a4] at aw hk ag
   rw [<-hs] at aq ag aH aL
   have bh:s<=rest.length:=by
    have:=be.out
    have:=bk.out
    have:=HL.out
    rw [ae.out,zO]
    omega
   have aI:∀ x∈rest.take s,a2e x:=fun x hx=>HW.out x (by
    have:=List.mem_of_mem_take hx
    rw [ae.out] at this
    exact List.mem_of_mem_drop this)
   have aK:(rest.take s).length=s:=by rw [zI];omega
   have aA:=b4g hk aI
   rw [aK] at aA
   have aj:=e5b (rest.take s) A' c' w2 aI (aJ.take s) (by omega)
   have af:=fun (hk:k<=25)=>d4m k (rest.take s) A' c' w2 hk aI (aJ.take s) (by omega)
   rw [aK] at aj af
   obtain ⟨A3,a2,bc,aG⟩:=a9z (P:=Tryz.prog) Tryz.underlying22 a8q A' rest.length c' s bh ba
   have ar:=aG Int vi w2 rest rfl aJ
   have HS:=hid af
   have ak:=hid ag
   have aR:Hid (rest.drop s=l.drop (a2m ss (i+1))):=hid aL
   have a7:rest.length-s=(rest.drop s).length:=by rw [zO]
   rw [a7] at a2
   have aP:(rest.drop s).length<=4096:=by rw [zO];omega
   have aY:(rest.drop s).length<=c'-s:=by rw [zO];omega
   obtain ⟨ao,ai⟩:=zX (rest.drop s)
   rw [<-ai] at a2 aP aY ar aR
   have bj:s<=c':=by omega
   have bo:=hid aK
   obtain ⟨part,am⟩:=zX (rest.take s)
   rw [<-am] at aj ak aA HS
   clear ag az aL a4 hs aI bc aG af aH a7 ai aK am aJ aM aE
   obtain ⟨c0,a5⟩:=zX (a9m (ks.take i) ((a1k ss l).take i))
   rw [<-a5] at ak aN ⊢
   have bm:c0<=76800004:=by omega
   have a8:=hid aN
   clear a5 aN
   have aa:∀ q,q=a4z k part->Hid (a9m (ks.take (i+1)) ((a1k ss l).take (i+1))=c0+q):=fun q hq=>hid (by rw [ak.out,hq])
   by_cases hk31:k=31
   ·have t6:((k:Int)==31)=true:=by rw [beq_iff_eq];omega
    have ab:a4z k part=5+a8e part:=by unfold a4z;rw [if_pos hk31]
    rw [ab] at aA
    have HF:=aa _ ab.symm
    obtain ⟨q,hq⟩:=zX (a8e part)
    rw [<-hq] at aj aA HF
    clear hk ab hk31 hq aa ak HS
    go_wp2_with (go_at_call 249;refine aj.mono ?_;rintro e w' ⟨rfl,rfl⟩)
    go_roundg j
    case measure=>omega
    case rel =>
     rw [HI.out,HF.out]
     refine ⟨by omega,by go_num,rfl,by go_num,?_,A3,_,ao,rfl,aR,ar,aY,by omega,aP⟩
     have:=a8.out
     rw [Nat.add_mul]
     omega
   ·have t6:((k:Int)==31)=false:=by rw [beq_eq_false_iff_ne];omega
    have ab:a4z k part=5+b9c k part:=by unfold a4z;rw [if_neg hk31]
    rw [ab] at aA
    have HF:=aa _ ab.symm
    have af:=HS.out (by omega)
    obtain ⟨q,hq⟩:=zX (b9c k part)
    rw [<-hq] at af aA HF
    clear hk ab hk31 hq aa ak HS aj
    go_wp2_with (go_at_call 212;refine af.mono ?_;rintro e w' ⟨rfl,rfl⟩)
    go_roundg j
    case measure=>omega
    case rel =>
     rw [HI.out,HF.out]
     refine ⟨by omega,by go_num,rfl,by go_num,?_,A3,_,ao,rfl,aR,ar,aY,by omega,aP⟩
     have:=a8.out
     rw [Nat.add_mul]
     omega
theorem d8h {o:Nat} {ks:List Nat} {ps:List (List Int)} {i k:Nat} {p:List Int} (hk:ks[i]?=some k) (hp:ps[i]?=some p) :
  b3t o (ks.take (i+1)) (ps.take (i+1))=b3t o (ks.take i) (ps.take i)++a3r k p:=by
 have ab:=(List.getElem?_eq_some_iff.1 hk).1
 have aa:=(List.getElem?_eq_some_iff.1 hp).1
 have ek:=(List.getElem?_eq_some_iff.1 hk).2
 have ep:=(List.getElem?_eq_some_iff.1 hp).2
 unfold b3t
 rw [List.take_succ_eq_append_getElem ab,List.take_succ_eq_append_getElem aa,List.zip_append (by simp;omega),List.flatMap_append,ek,ep]
 simp
theorem e2k (n:Nat) (l:List Int) (x:Int):(l++[x]).flatMap (fun x=>a0b (c1s x n) n)=l.flatMap (fun x=>a0b (c1s x n) n)++a0b (c1s x n) n:=by simp
theorem f1d (x:Int) {n:Nat} (hn:n<=31):bits .and .u64 (x%18446744073709551616) (2^n-1)=((c1s x n:Nat):Int):=by
 have h0:0<=x%18446744073709551616:=Int.emod_nonneg _ (by decide)
 have h1:x%18446744073709551616<18446744073709551616:=Int.emod_lt_of_pos _ (by decide)
 rw [b9z h0 h1 (by omega),d1c]
 have aa:((2:Int)^n)∣18446744073709551616:=by
  have:(18446744073709551616:Int)=2^n*2^(64-n):=by
   rw [<-Int.pow_add]
   have:n+(64-n)=64:=by omega
   rw [this];rfl
  rw [this]
  exact Int.dvd_mul_right _ _
 exact Int.emod_emod_of_dvd x aa
theorem f2h (w:World) (b:Nat) (F bs:List Nat) (o n warm:Nat) (ks:List Nat) (A:Option Addr) (cap:Nat) (l:List Int) (Al:Option Addr) (capl:Nat) (h:a2n w b F bs) (ho:o<=8) (h1:1<=n) (h2:n<=4096) (h3:warm<=n) (hne:a1q o n warm≠[]) (hlen:ks.length=(a1q o n warm).length) (hks:f1c ks) (hc:a0d i64 w A ks)
  (hll:l.length=n-warm) (hw:∀ x∈l,a2e x) (hcl:a0d vi w Al l) (hcap1:l.length<=capl) (hcap2:capl<=9223372036854775807) (hA:Apt A ks F) (hAl:Apt Al l F) (hbs:bs.length<137438953472) :
  Calls Tryz.prog 151 #[.pointer (some ⟨b,0,none⟩),.agg #[.int .i64 o,.slice A ks.length cap],.int .i64 n,.int .i64 warm,.slice Al l.length capl] w fun e w'=>e=.returned (.int .i64 0)/\∃ F',a2n w' b F' (bs++b3t o ks (a1k (a1q o n warm) l))/\a0u F F' w w':=by
 have bQ:=a9y hne
 have aC:=a7o hne
 have co:2^o<=256:=Nat.pow_le_pow_right (n:=2) (j:=8) (by decide) ho
 have ac:=fun w hc hcl=>d7d o n warm ks A cap l Al capl w ho h1 h2 h3 hne hlen hks hc hll hw hcl hcap1 hcap2
 obtain ⟨ss,a0⟩:=zX (a1q o n warm)
 obtain ⟨N,hN⟩:=zX (ks.length)
 obtain ⟨L,hL⟩:=zX (l.length)
 have ad:=fun w=>b6b o n warm w ho h1 h2 h3
 have ca:=e1t ks (a1k (a1q o n warm) l)
 rw [<-a0] at hlen bQ aC ad ac ca ⊢
 obtain ⟨CC,b7⟩:=zX (a9m ks (a1k ss l))
 rw [<-b7] at ac ca
 rw [<-hN] at ac hlen ⊢
 rw [<-hL] at ac hll hcap1 ⊢
 have bg:=hid ac
 have aJ:=hid ad
 have cj:=hid hks
 have HW:=hid hw
 have HN:=hid hN
 have HL:=hid hL
 have bP:=hid hlen
 have cp:=hid bQ
 have cC:=hid hll
 have HA:=hid hA
 have bK:=hid hAl
 have HF:=hid h.lt
 have b9:N<=256:=by omega
 have cw:L<=4096:=by omega
 have t0:((CC:Int)==0)=false:=by rw [beq_eq_false_iff_ne];omega
 clear ac ad hks hw hN hL hlen bQ aC co a0 hll hne b7 hA hAl
 go_enter Tryz.func151,Tryz.ntmps151
 go_wp2_with fail
 have bj:Chg [] w (w.alloc (.cells #[.int .i64 o,.slice A N cap] 188)):=(zR [] w).alloc _
 refine (bg.out _ (hc.same bj) (hcl.same bj)).mono ?_
 rintro e w1 ⟨rfl,bR⟩
 have bp:=(Blk.new w 188 #[.int .i64 o,.slice A N cap]).chg bR (by simp)
 have ah:Chg [] w w1:=bj.tq bR
 have a5:=bp.lt
 have aW:=bp.cell 0
 simp at aW
 have a4:=h.same ah
 clear bR bj
 go_wp2_with fail
 refine (a0t _ b F bs o 4 a4 (by omega) (by omega) (by omega)).mono ?_
 rintro e cH ⟨rfl,F1,aj,an⟩
 have cg:w.heap.size∉F:=fun hm=>by have:=HF.out _ hm;omega
 have aK:=bp.chg an.chg cg
 have be:=aK.cell 0
 simp at be
 clear aW bp
 go_wp2_with fail
 refine (aJ.out _).mono ?_
 rintro e w2 ⟨v,G,rfl,ax,a6,hG⟩
 obtain ⟨A2,cF,rfl,bw,cA,-⟩:=ax.oq
 have aY:a0u F F1 w1 w2:=an.same a6
 have aH:=aK.chg a6 (by simp)
 have aG:=hc.same ah
 have aT:=hcl.same ah
 have bW:=aG.keep HA.out aY.chg
 have ct:=aT.keep bK.out aY.chg
 have bX:=aj.same a6
 have cQ:=ah.size
 have cz:=an.size
 have cL:=a6.size
 have bY:∀ x∈G,x∉F1:=fun x hx hm=>by
  have h5:=hG x hx
  have h6:=aj.lt x hm
  omega
 have bT:w.heap.size∉F1:=an.out a5 cg
 have bq:=hid (HA.out.grow aG aY)
 have bM:=hid (bK.out.grow aT aY)
 have cv:Hid (Apt A2 ss F1):=hid (ax.apt bY)
 have cD:a0d i64 w2 A2 ss:=ax.cells
 have bI:a0u F F1 w w2:=a0u.pre ah aY
 have cs:bs.length+4<=137438953476:=by omega
 have al:=bP.out
 rw [<-al]
 have aA:=hid al
 clear al aK be hc hcl hG an a6 aj a4 aY ah aG aT ax HA bK a5 bY
 have bE:=hid hcap2
 clear bw hcap2
 go_wp2_with fail
 go_loopg [4,34] N (fun j lv i wr=>j<=N/\i=.int .i64 ((N-j:Nat):Int) /\
   ∃ A' c' rest F' ap,lv=.slice A' rest.length c'/\Hid (rest=l.drop (a2m ss (N-j)))/\Hid (Apt A' rest F1)/\a0d vi w2 A' rest/\rest.length<=c'/\c'<=9223372036854775807/\rest.length<=4096 /\
    a2n wr b F' ap/\Hid (ap=bs++b3t o (ks.take (N-j)) ((a1k ss l).take (N-j)))/\ap.length<=bs.length+4+(N-j)*300000/\a0u F1 F' w2 wr)
 case atStart =>
  refine ⟨zQ _,by simp,Al,capl,l,F1,bs++a0b o 4,?_,hid (by simp [a2m]),bM,ct,?_,bE.out,?_,bX,hid (by simp [b3t]),by simp [a0a],a0u.refl _ _⟩
  ·rw [<-HL.out]
  ·rw [<-HL.out];exact hcap1
  ·rw [<-HL.out];exact cw
 case round =>
  obtain ⟨hj,rfl,A',c',rest,F',ap,rfl,ag,cd,bx,cn,cI,cG,ch,bf,bN,aN⟩:=hrel
  have a7:=aH.chg aN.chg bT
  have aW:=a7.cell 1
  simp at aW
  clear a7
  rcases gk with _ | j
  ·have t4:decide (((N-0:Nat):Int)<(N:Int))=false:=by simp
   have e1:ks.take N=ks:=by rw [HN.out,zN]
   have e2:(a1k ss l).take N=a1k ss l:=by rw [aA.out,<-a5h ss l,zN]
   rw [Nat.sub_zero,e1,e2] at bf
   go_wp2
   go_ret
   refine ⟨rfl,F',?_,bI.trans aN⟩
   rw [<-bf.out]
   exact ch
  ·obtain ⟨i,b4⟩:=zX (N-(j+1))
   rw [<-b4] at bN bf ag ⊢
   have bZ:i<N:=by omega
   have b0:N-j=i+1:=by omega
   have HI:=hid b0
   clear b4 b0
   have bo:i<ks.length:=by rw [<-HN.out];exact bZ
   have a9:i<ss.length:=by rw [<-aA.out];exact bZ
   obtain ⟨cO,cP,rfl,aR⟩:=(bW.keep bq.out aN.chg).i64_at bo
   obtain ⟨cN,cM,rfl,aD⟩:=(cD.keep cv.out aN.chg).i64_at a9
   have hk:=cj.out _ (zG bo)
   have aV:=b0a ss l i a9
   have bb:=b0r ss i a9
   have bn:=b1q l ss i a9
   rw [<-ag.out] at aV bn
   have au:=d8h (o:=o) (ks:=ks) (ps:=a1k ss l) (i:=i) (zF bo) aV
   obtain ⟨k,bA⟩:=zX (ks[i])
   obtain ⟨s,hs⟩:=zX (ss[i])
   rw [<-bA] at aR hk au
   rw [<-hs] at aD au bb bn
   have cy:s<=rest.length:=by
    have:=cp.out
    have:=cC.out
    have:=HL.out
    rw [ag.out,zO]
    omega
   have bh:∀ x∈rest.take s,a2e x:=fun x hx=>HW.out x (by
    have:=List.mem_of_mem_take hx
    rw [ag.out] at this
    exact List.mem_of_mem_drop this)
   have bl:(rest.take s).length=s:=by rw [zI];omega
   have bi:=b4g hk bh
   have aI:=b8f k (rest.take s)
   rw [bl] at bi
   obtain ⟨A3,b1,b2,bd⟩:=a9z (P:=Tryz.prog) Tryz.underlying22 a8q A' rest.length c' s cy cn
   have aE:=bd Int vi w2 rest rfl bx
   have aM:Apt A3 (rest.drop s) F1:=cd.out.to (by rw [zO];omega) b2
   have bO:bs++b3t o (ks.take (i+1)) ((a1k ss l).take (i+1))=ap++a3r k (rest.take s):=by rw [au,bf.out,zH]
   have bF:Hid (rest.drop s=l.drop (a2m ss (i+1))):=hid bn
   have ce:rest.length-s=(rest.drop s).length:=by rw [zO]
   rw [ce] at b1
   have bB:(rest.drop s).length<=4096:=by rw [zO];omega
   have bU:(rest.drop s).length<=c'-s:=by rw [zO];omega
   have aZ:=bx.take s
   have aw:Apt A' (rest.take s) F1:=cd.out.of (by rw [zI];omega)
   obtain ⟨aB,am⟩:=zX (rest.drop s)
   rw [<-am] at b1 bB bU aE bF aM
   have cB:s<=c':=by omega
   obtain ⟨part,az⟩:=zX (rest.take s)
   rw [<-az] at bi bO aZ bl bh aI aw
   have b3:=hid bO
   have a8:=hid aM
   have aq:=hid aw
   have bS:=hid bh
   have cm:=aZ.keep (aw) aN.chg
   have b6:=hid aI
   have aX:=hid bl
   have cf:=hid bo
   have ci:=hid bA
   have a2:=hid bi
   have ck:s<=4096:=by omega
   have av:k<=31:=by omega
   have HK:=hid hk
   have b5:=hid bN
   have cx:ap.length<=137515753476:=by omega
   clear au aV bn bA hs b2 bd bb ce am az bx a9 bO aM aw bh aI hk bN bf bl bi
   have af:=a0t wr b F' ap k 5 ch (by omega) (by omega) (by omega)
   by_cases av:k=31
   ·have t6:((k:Int) != 31)=false:=by rw [bne_eq_false_iff_eq];omega
    have ak:a3r k part=a0b k 5++(a0b (a4w part) 5++part.flatMap (fun x=>a0b (c1s x (a4w part)) (a4w part))):=by unfold a3r;rw [if_pos av]
    have bk:=hid ak
    clear ak av
    go_wp2_with fail
    refine af.mono ?_
    rintro e w3 ⟨rfl,F3,aQ,br⟩
    have ab:=aN.trans br
    have ai:=aH.chg ab.chg bT
    have a1:=ai.cell 1
    simp at a1
    obtain ⟨_,_,e4,aa⟩:=(bW.keep bq.out ab.chg).i64_at cf.out
    injection e4 with e4
    injection e4 with e4 e5 _
    subst e4
    subst e5
    rw [<-ci.out] at aa
    have ao:=aZ.keep aq.out ab.chg
    have aF:=c8s part A' c' w3 bS.out ao (by rw [aX.out];omega)
    have ar:=b2m bS.out
    rw [aX.out] at aF
    obtain ⟨W,hW⟩:=zX (a4w part)
    rw [<-hW] at aF ar bk
    have cK:=hid hW
    clear ai aW af hW
    go_wp2_with (go_at_call 202;refine aF.mono ?_;rintro e w' ⟨rfl,rfl⟩)
    refine (a0t w3 b F3 _ W 5 aQ (by omega) (by omega) (by rw [zC,a0a];omega)).mono ?_
    rintro e w4 ⟨rfl,F4,ay,bG⟩
    have aO:=ab.trans bG
    have cJ:(2:Int)^W<=2147483648:=a5u (n:=31) ar
    have cr:=a0i W
    clear a1 aa ao
    go_wp2_with fail
    go_loopg [75] s (fun q iv wx=>q<=s/\iv=.int .i64 ((s-q:Nat):Int)/\∃ F5 aS,a2n wx b F5 aS/\Hid (aS=(ap++a0b k 5++a0b W 5)++(part.take (s-q)).flatMap (fun x=>a0b (c1s x W) W))/\aS.length<=ap.length+10+W*(s-q)/\a0u F1 F5 w2 wx)
    case atStart=>exact ⟨zQ _,by simp,F4,_,ay,hid (by simp),by simp [a0a],aO⟩
    case round =>
     obtain ⟨hq,rfl,F5,aS,a3,aU,aL,aP⟩:=hrel
     rcases gk with _ | q
     ·have t7:decide (((s-0:Nat):Int)<(s:Int))=false:=by simp
      go_wp2
      go_roundg j
      case measure=>omega
      case rel =>
       rw [HI.out]
       have e7:part.take (s-0)=part:=by rw [Nat.sub_zero,<-aX.out,zN]
       have bz:=aU.out
       rw [e7,zH,zH,<-bk.out] at bz
       refine ⟨by omega,by go_num,A3,_,aB,F5,aS,rfl,bF,a8,aE,bU,by omega,bB,a3,hid (by rw [bz,b3.out]),?_,aP⟩
       have e8:=b6.out
       have e9:=b5.out
       rw [bz,zC,e8,Nat.add_mul]
       have:=a2.out
       omega
     ·obtain ⟨m,cc⟩:=zX (s-(q+1))
      rw [<-cc] at aU aL ⊢
      have cu:m<s:=by omega
      have cb:s-q=m+1:=by omega
      have HM:=hid cb
      clear cc cb
      have bJ:m<part.length:=by rw [aX.out];exact cu
      obtain ⟨g8,o8,rfl,ae⟩:=(aZ.keep aq.out aP.chg).at_ bJ
      have bm:=e2k W (part.take m) part[m]
      rw [<-a0o part bJ] at bm
      obtain ⟨x,hx⟩:=zX (part[m])
      rw [<-hx] at ae bm
      have bu:wr.cell? ⟨g8,o8+m,none⟩=some (.int .i64 x):=ae
      have bc:bits BinOp.and IntKind.u64 (IntKind.u64.wrap x) (2^W-1)=((c1s x W:Nat):Int):=by rw [IntKind.wrap_u64];exact f1d x ar
      have bD:=hid bc
      clear bc
      have ba:=c7j x W
      have cE:=hid bm
      have bV:=hid ba
      have cl:aS.length<=137520000000:=by
       have:W*m<=31*4096:=zL ar (by omega)
       omega
      have bH:=hid aL
      clear ae hx bJ bm ba aL
      go_wp2_with fail
      rw [bD.out]
      refine (a0t wr b F5 aS (c1s x W) W a3 (by omega) bV.out (by omega)).mono ?_
      rintro e w6 ⟨rfl,F6,bL,cq⟩
      go_wp2_with fail
      go_roundg q
      case measure=>omega
      case rel =>
       rw [HM.out]
       refine ⟨by omega,by go_num,F6,_,bL,hid ?_,?_,aP.trans cq⟩
       ·rw [cE.out,aU.out,zH]
       ·have e9:=bH.out
        rw [zC,a0a,Nat.mul_add]
        omega
   ·have t6:((k:Int) != 31)=true:=by rw [bne_iff_ne];omega
    have ak:a3r k part=a0b k 5++a0r k part:=by unfold a3r;rw [if_neg av]
    have bk:=hid ak
    have bv:k<=25:=by have:=HK.out;omega
    clear ak
    go_wp2_with fail
    refine af.mono ?_
    rintro e w3 ⟨rfl,F3,aQ,br⟩
    have ab:=aN.trans br
    have ai:=aH.chg ab.chg bT
    have a1:=ai.cell 1
    simp at a1
    obtain ⟨_,_,e4,aa⟩:=(bW.keep bq.out ab.chg).i64_at cf.out
    injection e4 with e4
    injection e4 with e4 e5 _
    subst e4
    subst e5
    rw [<-ci.out] at aa
    have ao:=aZ.keep aq.out ab.chg
    have bC:=c8i w3 b F3 (ap++a0b k 5) k part A' c' aQ bv bS.out ao (aq.out.grow aZ ab) (by rw [zC,a0a,aX.out];omega)
    rw [aX.out] at bC
    clear ai aW af
    go_wp2_with fail
    refine bC.mono ?_
    rintro e w4 ⟨rfl,F4,ay,bG⟩
    have aO:=ab.trans bG
    clear a1 aa ao bC
    go_wp2_with fail
    go_roundg j
    case measure=>omega
    case rel =>
     rw [HI.out]
     rw [zH,<-bk.out] at ay
     refine ⟨by omega,by go_num,A3,_,aB,F4,_,rfl,bF,a8,aE,bU,by omega,bB,ay,hid b3.out.symm,?_,aO⟩
     have e8:=b6.out
     have e9:=b5.out
     rw [zC,e8,Nat.add_mul]
     have:=a2.out
     omega
theorem c9f (o bit:Nat) (w:World) (h2:o<=4096) (hbit:bit=0\/bit=1) :
  Calls Tryz.prog 254 #[.int .i64 o,.int .i64 bit] w fun e w'=>e=.returned (.int .i64 (b3g o bit:Nat))/\w'=w:=by
 rcases hbit with rfl | rfl
 all_goals
  go_enter Tryz.func254,Tryz.ntmps254
  go_wp2
  go_ret
  exact ⟨by unfold b3g;simp;go_num,rfl⟩
theorem e7w (w:World) (b g:Nat) (v odds:Value) (W:Int) (ds:List Nat) (n0:Nat)
  (hb:Blk w b 247 #[v,.int .u64 W,odds]) (hr:Row w 5 v g (ds.map b8)) (hd:∀ d∈ds,d<256) (hn:n0<9223372036854775808) :
  Calls Tryz.prog 275 #[.pointer (some ⟨b,0,none⟩),.int .u64 n0] w fun e w'=>e=.returned (.tuple #[])/\Row w' 5 v g ((b3e ds n0).map b8)/\Chg [g] w w':=by
 obtain ⟨aj,rfl,aq,an,-,-⟩:=hr.oq
 have ai:=hr.ne_ hb (by decide)
 have HD:=hid hd
 clear hd
 have af:=hb.cell 0
 simp at af
 go_enter Tryz.func275,Tryz.ntmps275
 go_wp2
 go_loopw [1,4] (fun n i wr=>∃ (l t:List Nat) (c:Nat) (j:Int),i=.int .i64 j/\n=.int .u64 c/\j=(l.length:Int)-1/\c<9223372036854775808/\l.length+t.length=ds.length /\
   b3e ds n0=b3e l c++t/\(∀ d∈l,d<256)/\Row wr 5 (.slice (some ⟨g,0,none⟩) ds.length aj) g ((l++t).map b8)/\Chg [g] w wr)
  (fun n i _=>(intOf i+1).toNat)
 case atStart=>exact ⟨ds,[],n0,_,rfl,rfl,rfl,hn,by simp,by simp,HD.out,by simpa using hr,zR _ _⟩
 case round =>
  obtain ⟨l,t,c,j,rfl,rfl,hj,hc,ac,ad,hl,aa,ab⟩:=hrel
  have al:=hb.chg ab (by simpa using ai.symm)
  have ae:=al.cell 0
  simp at ae
  clear af
  rcases List.eq_nil_or_concat l with rfl | ⟨l',d,rfl⟩
  ·obtain rfl:j=-1:=by simpa using hj
   have HG:=hid ad
   clear hj ac ad hl
   go_wp2
   all_goals
    go_end0
    refine ⟨rfl,?_,ab⟩
    rw [HG.out];simpa [e2v] using aa
  ·have am:wr.cell? ⟨g,l'.length,none⟩=some (.int .u8 d):=by
    obtain ⟨_,h1,_,_,h2,_⟩:=aa.oq
    exact h2 l'.length d (by simp)
   have ap:wr.frozen? ⟨g,l'.length,none⟩=false:=by
    obtain ⟨_,h1,_,_,_,h2⟩:=aa.oq
    exact h2 _
   obtain rfl:j=(l'.length:Int):=by simp at hj;omega
   have ag:d<256:=hl d (by simp)
   have ar:l'.length<ds.length:=by simp at ac;omega
   have HL:=hid ac
   have HG:=hid ad
   have ah:=hid hl
   clear hj ac ad hl
   go_wp2
   ·have ao:0<c:=by omega
    go_roundw
    case rel =>
     have e1:=d8y l' d c (by omega)
     have ak:=HL.out
     refine ⟨l',(c+d)%256::t,(c+d) / 256,_,rfl,by go_num,rfl,by omega,by simp at ak ⊢; omega,?_,fun x hx=>ah.out x (by simp [hx]),?_,ab.setCell (by simp) _⟩
     ·rw [HG.out,List.concat_eq_append,e1,zH];rfl
     ·have h2:=aa.set_ (i:=l'.length) (by simp) (b8 ((c+d)%256))
      have e2:((l'.concat d++t).map b8).set l'.length (b8 ((c+d)%256))=(l'++(c+d)%256::t).map b8:=by
       rw [List.concat_eq_append,zH,zM,zM,List.set_append_right _ _ (by simp)]
       simp
      rw [e2] at h2
      have e3:b8 ((c+d)%256)=.int .u8 (((c:Int)+d)%256):=by unfold b8;go_num
      rw [e3] at h2
      exact h2
    case measure=>simp [intOf]
   ·obtain rfl:c=0:=by omega
    go_end0
    refine ⟨rfl,?_,ab⟩
    rw [HG.out,d8z];exact aa
theorem f0h:b6m Tryz.prog 39 5 (.int .u8 0) 1 1:=.mk' Tryz.underlying39 (by kernel_rfl)
theorem d5i (w:World) (b g h:Nat) (c:Cod) (bound bit:Nat) (hc:a7p 247 w b g h c) (hok:a2d c) (hbd:a5a c bound) (hbit:bit=0\/bit=1)
  (hlen:c.low.length<=1099511627776) :
  Calls Tryz.prog 253 #[.pointer (some ⟨b,0,none⟩),.int .u64 bound,.int .i64 bit] w fun e w'=>e=.returned (.tuple #[]) /\
   ∃ g',a7p 247 w' b g' h (a4t c bound bit)/\Chg [b,g] w w'/\(g'=g\/w.heap.size<=g'):=by
 obtain ⟨vl,vo,hb,hl,ho⟩:=hc.ex
 obtain ⟨al,a2⟩:=hbd
 have a1:=hok.hi
 have ay:=hl.ne_ hb (by decide)
 have aW:=ho.ne_ hb (by decide)
 have aV:=hl.ne_row ho (by decide)
 obtain ⟨aH,rfl,aZ,aY,-,-⟩:=hl.oq
 have aM:=hb.cell 0
 have aO:=hb.cell 1
 have aU:=hb.frozen 1
 simp at aM aO
 have aF:=e6j hok ⟨al,by omega⟩ bit
 obtain ⟨W1,aE⟩:=zX (c8y c bound bit)
 obtain ⟨l1,aw⟩:=zX (c7e c bound bit)
 rw [<-aE] at aF
 have av:=hid aE
 have aq:=hid aw
 clear aE aw
 have ai:l1.length=c.low.length:=by rw [aq.out,b2w]
 have ab:=hid ai
 clear ai
 go_enter Tryz.func253,Tryz.ntmps253
 go_upto_if 7 with fail
 go_cut [] (fun wx=>Blk wx b 247 #[.slice (some ⟨g,0,none⟩) c.low.length aH,.int .u64 W1,vo]/\Row wx 5 (.slice (some ⟨g,0,none⟩) c.low.length aH) g (l1.map b8)/\Chg [b,g] w wx)
 case first =>
  rcases hbit with rfl | rfl
  ·go_wp2
   go_meet
   case rel =>
    refine ⟨?_,?_,(zR _ _).setCell (by simp) _⟩
    ·have:=hb.set_ 1 (.int .u64 W1)
     rw [av.out] at this ⊢
     exact this
    ·rw [aq.out]
     exact hl.far (p:=⟨b,1,none⟩) ay _
  ·go_wp2_with (go_at_call 275;refine (e7w _ _ _ _ _ _ _ _ hb hl hok.dig (by omega)).mono ?_;rintro e w1 ⟨rfl,aw,am⟩;have al:=hb.chg am (by simpa using ay.symm);have aI:=al.cell 1;have aQ:=al.frozen 1;simp at aI)
   go_meet
   case rel =>
    refine ⟨?_,?_,(am.mono (F':=[b,g]) (by simp)).setCell (by simp) _⟩
    ·have:=al.set_ 1 (.int .u64 ((c.W:Int)-bound))
     have e:((W1:Nat):Int)=(c.W:Int)-bound:=by rw [av.out];unfold c8y;simp;omega
     rw [e]
     exact this
    ·rw [aq.out]
     exact aw.far (p:=⟨b,1,none⟩) ay _
 case rest =>
  obtain ⟨ag,aP,aB⟩:=hcut
  have ar:=ag.cell 0
  have ax:=ag.cell 1
  have aL:=ag.frozen 0
  have aK:=ag.frozen 1
  simp at ar ax
  clear aM aO aU
  go_wp2_with fail
  go_loopg [] 1 (fun k wr=>∃ (g' ae:Nat) (l:List Nat) (W:Nat),Blk wr b 247 #[.slice (some ⟨g',0,none⟩) l.length ae,.int .u64 W,vo] /\
    Row wr 5 (.slice (some ⟨g',0,none⟩) l.length ae) g' (l.map b8)/\Chg [b,g] w wr/\(g'=g\/w.heap.size<=g') /\
    ((k=1/\W=W1/\l=l1)\/(k=0/\16777216<=W/\W<4294967296/\Hid (a4t c bound bit=⟨l,W,c.odds⟩))))
  case atStart=>exact ⟨g,aH,l1,W1,by rw [ab.out];exact ag,by rw [ab.out];exact aP,aB,.inl rfl,.inl ⟨rfl,rfl,rfl⟩⟩
  case round =>
   clear ar ax aL aK ag aP
   obtain ⟨g',ae,l,W,ad,aG,aa,ah,ap⟩:=hrel
   have aj:=aG.ne_ ad (by decide)
   have ar:=ad.cell 0
   have ax:=ad.cell 1
   have aL:=ad.frozen 0
   have aK:=ad.frozen 1
   simp at ar ax
   have ak:∀ W',W'=W->a4t c bound bit=⟨l,W',c.odds⟩->a7p 247 wr b g' h (a4t c bound bit):=fun W' e he=>by
    subst e
    rw [he]
    have aT:h∉[b,g]:=by simp;exact ⟨aW,aV.symm⟩
    exact ⟨_,vo,ad,aG,ho.chg aa aT⟩
   have ao:=hid ak
   clear ak
   rcases ap with ⟨rfl,rfl,rfl⟩ | ⟨rfl,hW,aX,aC⟩
   ·by_cases hs:W<16777216
    ·have an:decide ((W:Int)<16777216)=true:=by simp;omega
     go_wp2_with (at_builtin;refine b6k rfl rfl f0h rfl rfl ((aG.far (p:=⟨b,1,none⟩) aj _).alloc _) (.int .u8 0) rfl ?c1 ?c2 ?c3 ?c4 ?_)
     case c1=>simp [go_sem]
     case c2=>rfl
     case c3=>simp;have := ab.out;omega
     case c4=>simp;have := ab.out;omega
     intro g2 ac w2 aN af aJ
     have au:=((ad.set_ 1 (.int .u64 ((W:Int)*256))).alloc (.cells #[.int .u8 0] 5)).chg af (by simpa using aj.symm)
     have az:=aN.ne_ au (by decide)
     have aD:Chg [b,g] w w2:=((aa.setCell (p:=⟨b,1,none⟩) (by simp) _).alloc _).trans af (by
      intro x hx
      simp at hx
      subst hx
      rcases ah with rfl | ah
      ·exact .inl (by simp)
      ·exact .inr ah)
     have aA:=au.cell 0
     have aR:=au.frozen 0
     simp at aA
     have a0:=aa.size
     have aS:g2=g\/w.heap.size<=g2:=by
      rcases aJ with rfl | aJ
      ·exact ah
      ·exact .inr (by omega)
     clear af
     go_wp2
     go_roundg 0
     case measure=>omega
     case rel =>
      refine ⟨g2,ac,l++[0],W*256,?_,?_,aD.setCell (by simp) _,aS,.inr ⟨rfl,by omega,by omega,?_⟩⟩
      ·have h1:=au.set_ 0 (.slice (some ⟨g2,0,none⟩) (l.length+1) ac)
       simp at h1
       simpa using h1
      ·have h1:=aN.far (p:=⟨b,0,none⟩) az (.slice (some ⟨g2,0,none⟩) (l.length+1) ac)
       simpa [b8] using h1
      ·refine hid ?_
       unfold a4t
       rw [<-av.out,if_pos hs,<-aq.out]
    ·have an:decide ((W:Int)<16777216)=false:=by simp;omega
     go_wp2
     go_end0
     refine ⟨rfl,g',?_,aa,ah⟩
     refine ao.out W rfl ?_
     unfold a4t
     rw [<-av.out,if_neg hs,<-aq.out]
   ·have an:decide ((W:Int)<16777216)=false:=by simp;omega
    go_wp2
    go_end0
    exact ⟨rfl,g',ao.out W rfl aC.out,aa,ah⟩
theorem c4y {c:Cod} {ctx:Nat} (hc:ctx<c.odds.length):c.odds[ctx]?=some (a8o c ctx):=by
 unfold a8o
 rw [zD,zF hc]
 rfl
theorem f0x (w:World) (b g h:Nat) (c:Cod) (ctx bit:Nat) (hc:a7p 247 w b g h c) (hok:a2d c) (hctx:ctx<c.odds.length) (hbit:bit=0\/bit=1)
  (hlen:c.low.length<=1099511627776) :
  Calls Tryz.prog 214 #[.pointer (some ⟨b,0,none⟩),.int .i64 ctx,.int .i64 bit] w fun e w'=>e=.returned (.int .i64 0) /\
   ∃ g',a7p 247 w' b g' h (b9b c ctx bit)/\Chg [b,g,h] w w'/\(g'=g\/w.heap.size<=g'):=by
 obtain ⟨vl,vo,hb,hl,ho⟩:=hc.ex
 have ae:=b1g hok hctx
 have aL:=hok.hi
 have aG:=hl.ne_ hb (by decide)
 have aE:=ho.ne_ hb (by decide)
 have aN:=hl.ne_row ho (by decide)
 obtain ⟨aA,rfl,aI,aB,ab,ag⟩:=ho.oq
 have ai:=ab ctx _ (c4y hctx)
 replace ai:w.cell? ⟨h,ctx,none⟩=some (.int .i64 (a8o c ctx:Int)):=ai
 clear ab
 obtain ⟨o1,aq⟩:=zX (a8o c ctx)
 have ax:=c1w hok hctx
 rw [<-aq] at ai ax ae
 have av:=hid aq
 clear aq
 have am:=hb.cell 1
 have aw:=hb.cell 2
 simp at am aw
 have t1:decide ((ctx:Int)<0)=false:=by simp
 have t2:decide (c.odds.length<=ctx)=false:=by simp;omega
 obtain ⟨bd,ac⟩:=zX (c.W / 4096*o1)
 have aF:IntKind.u64.wrap ((c.W:Int) / 4096*(o1:Int))=(bd:Int):=by
  rw [<-ac] at ae
  have:=ae.2
  have e:((c.W:Int) / 4096*(o1:Int))=(bd:Int):=by rw [ac];simp
  rw [e]
  exact IntWalk.u64_in _ (by omega)
 rw [<-ac] at ae
 have ah:Hid (b9b c ctx bit={ a4t c bd bit with odds:=c.odds.set ctx (b3g o1 bit) }):=by
  refine hid ?_
  rw [ac,av.out]
  rfl
 clear ac
 go_enter Tryz.func214,Tryz.ntmps214
 rcases hbit with rfl | rfl
 all_goals
  go_wp2
  refine a0c 16 (by kernel_rfl) (by kernel_rfl) ?_
  simp only [List.take_succ_cons,List.take_zero,List.drop_succ_cons,List.drop_zero]
  repeat (go_big_quiet_step (fail))
  refine wpQuiet_nil ?_
  intro _ ao
  obtain ⟨nq,rfl⟩:=ao
  go_wp2_with fail
  refine (d5i (w.drewN nq) b g h c bd _ (hc.same (((zR _ _).drewN nq))) hok ae (by simp) hlen).mono ?_
  rintro e w1 ⟨rfl,g',am,al,ay⟩
  obtain ⟨aJ,aH,aj,ak,af⟩:=am.ex
  rw [c4z] at af
  have aD:=ak.ne_ aj (by decide)
  have an:=ak.ne_row af (by decide)
  obtain ⟨ar,rfl,aC,au,aa,ad⟩:=af.oq
  have aK:w1.cell? ⟨h,ctx,none⟩=some (.int .i64 o1):=by rw [av.out];exact aa ctx _ (c4y hctx)
  have aM:=ad ctx
  have az:=aj.cell 2
  simp at az
  clear aa ad ag
  go_wp2_with fail
  refine a0c 14 (by kernel_rfl) (by kernel_rfl) ?_
  simp only [List.take_succ_cons,List.take_zero,List.drop_succ_cons,List.drop_zero]
  repeat (go_big_quiet_step ((go_at_call 254;exact Calls.quiet_of_same (c9f o1 _ _ (by omega) (by simp)))))
  refine wpQuiet_nil ?_
  intro _ ao
  obtain ⟨ap,rfl⟩:=ao
  go_wp2
  go_ret
  refine ⟨rfl,g',?_,?_,ay⟩
  ·rw [ah.out]
   refine ⟨_,_,(aj.drewN ap).far (p:=⟨h,ctx,none⟩) aE.symm _,(ak.drewN ap).far (p:=⟨h,ctx,none⟩) an _,?_⟩
   simp only
   rw [List.map_set]
   exact (af.drewN ap).set_ (i:=ctx) (by simpa using hctx) _
  ·refine Chg.setCell (Chg.drewN ?_ _) (by simp) _
   exact ((zR _ _).drewN nq).trans al (by simp)
def c3h (d:Nat) (t:Tok):Prop:=0<=t.lit/\t.lit<2^d
theorem d6q (d a b:Nat):c3h d ⟨a,b,0⟩:=⟨Int.le_refl _,a0i d⟩
theorem e8i {d cp at_ n:Nat} {D:List Nat} {p:List Nat × List Tok} (h:∀ t∈p.2,c3h d t):∀ t∈(d9f cp at_ D n p).2,c3h d t:=by
 unfold d9f
 split
 ·exact h
 ·split
  ·intro t ht
   rcases List.mem_or_eq_of_mem_set ht with h5 | rfl
   ·exact h t h5
   ·exact d6q d _ _
  ·exact h
theorem d0v {d cp at_:Nat} {D:List Nat}:∀ f m p,(∀ t∈p.2,c3h d t)->∀ t∈(b7b cp at_ D f m p).2,c3h d t
 | 0,_,_,h=>h
 | f+1,m,p,h=>d0v f (m+1) _ (e8i h)
theorem e3d {d lit cp k:Nat} {l:List Int} (hs:a1u d l) {s:LSt} (h:∀ t∈s.first,c3h d t):∀ t∈(d0w l lit cp k s).first,c3h d t:=by
 refine d0v 65 0 _ fun t ht => ?_
 rcases List.mem_or_eq_of_mem_set ht with h5 | rfl
 ·exact h t h5
 ·exact a5d hs k
theorem e3b {d lit cp:Nat} {l:List Int} (hs:a1u d l):∀ k s,(∀ t∈s.first,c3h d t)->∀ t∈(lGo l lit cp k s).first,c3h d t
 | 0,_,h=>h
 | k+1,s,h=>e3b hs k _ (e3d hs h)
theorem d2a {Q:Tok->Prop} {F:List Tok} (h:∀ t∈F,Q t) {n:Nat} (hn:n<=F.length):∀ f i,∀ t∈a9e F n f i,Q t
 | 0,_,t,ht=>by simp [a9e] at ht
 | f+1,i,t,ht=>by
  unfold a9e at ht
  split at ht
  ·rename_i hi
   rcases zJ.1 ht with rfl | h1
   ·unfold a4s
    rw [zD,zF (by omega)]
    exact h _ (zG _)
   ·exact d2a h hn f _ t h1
  ·simp at ht
theorem d9h {d:Nat} {l:List Int} (hs:a1u d l) (lit cp:Nat):∀ t∈a5z l lit cp,c3h d t :=
 d2a (e3b hs _ _ fun t ht=>by
  have:t=⟨0,0,0⟩:=List.eq_of_mem_replicate ht
  rw [this]
  exact d6q d _ _) (by
   have:=(b2v l lit cp).pair.fl
   unfold b4e at this
   rw [this]
   exact zQ _) _ _
theorem c5h {d:Nat} {l:List Int} (hs:a1u d l) (lit cp:Nat):∀ t∈a5z l lit cp,c3j d t:=by
 intro t ht
 have h1:=e3i l lit cp t ht
 have h2:=d9h hs lit cp t ht
 unfold Tok.ok at h1
 unfold c3j
 cases hl:t.isLit with
 | true=>exact .inl ⟨rfl,h2.1,h2.2⟩
 | false =>
  right
  refine ⟨rfl,?_⟩
  rcases h1 with h1 | h1
  ·rw [hl] at h1;cases h1
  ·exact h1
theorem Chg.cell {F:List Nat} {a b:World} {p:Addr} {v:Value} (h:Chg F a b) (hp:p.block∉F) (hc:a.cell? p=some v):b.cell? p=some v:=by
 have aa:p.block<a.heap.size:=by
  rcases zZ p.block a.heap.size with h1 | h1
  ·exact h1
  ·have e:a.heap[p.block]?=none:=Array.getElem?_eq_none h1
   simp [World.cell?,e] at hc
 exact (World.cell?_of_block (w:=a) (h.block p.block aa hp)).trans hc
theorem e7r (l R:List Int) (ks:List Nat) (A AK:Option Addr) (cap capk W H d:Nat) (w:World) (hw0:1<=W) (hw1:W<=64) (hh0:1<=H) (hh1:H<=64) (h0:1<=d) (h1:d<=16) (hl:l.length=W*H) (hs:a1u d l)
  (hR:R.length=W*H) (hRs:a1u d R) (hRi:∀ y x,y<H->x<W->R.getD (y*W+x) 0=b3o l W d (ks.getD y 0) y x) (hkl:ks.length=H) (hks:∀ k∈ks,k<10) (hc:a0d vi w A R) (hk:a0d i64 w AK ks) :
  Calls Tryz.prog 226 #[.slice A R.length cap,.int .i64 W,.int .i64 H,.int .i64 d,.slice AK ks.length capk] w fun e w'=>∃ v g,e=.returned (.tuple #[v,.int .i64 0])/\Row w' 3 v g (l.map vi)/\Chg [] w w'/\w.heap.size<=g:=by
 obtain ⟨n,hn⟩:=zX (W*H)
 have a3:n<=4096:=by rw [hn];exact zL hw1 hh1
 have a7:n<=64*W:=by rw [hn,zY];exact Nat.mul_le_mul_right W hh1
 have aE:=b4c R A cap W H d w hw0 hw1 hh0 hh1 h0 h1 hR hRs hc
 have ar:=b7w ks AK capk w hks (by omega) hk
 have bb:=a1p (P:=Tryz.prog) a0p rfl .i64 .i64 n (by omega) (by omega)
 have ad:=Row.zeros w n (by omega)
 obtain ⟨B,hB⟩:=zX (w.heap.size)
 have aI:Chg [] w (w.alloc (.cells (List.replicate n (Value.int .i64 0)).toArray 3)):=(zR [] w).alloc _
 rw [<-hB] at ad
 rw [hkl] at ar ⊢
 rw [hR,<-hn] at aE ⊢
 have HN:=hid hn
 have HR:=hid (hR.trans hn.symm)
 have HL:=hid (hl.trans hn.symm)
 have aU:=hid hkl
 have HS:=hid hs
 have a1:=hid hRi
 have aR:=hid hks
 have HC:=hid hc
 have a0:=hid hRs
 have HK:=hid hk
 have HB:=hid hB
 clear hn hR hl hkl hs hRi hks hc hk hB hRs
 go_enter Tryz.func226,Tryz.ntmps226
 go_wp2_with (first | (go_at_call 194;refine aE.mono ?_;rintro e w' ⟨rfl,rfl⟩) | (go_at_call 197;refine ar.mono ?_;rintro e w' ⟨rfl,rfl⟩))
 rw [<-HB.out]
 go_loopg [38] n (fun j iv wr=>∃ i:Nat,iv=.int .i64 i/\i+j=n/\Row wr 3 (.slice (some ⟨B,0,none⟩) n n) B ((a1a (l.take i) n).map vi)/\Chg [] w wr)
 case atStart=>exact ⟨0,rfl,by omega,ad,aI⟩
 case round =>
  clear ad aI aE ar
  obtain ⟨i,rfl,a6,ab,aj⟩:=hrel
  rcases gk with _ | j
  ·obtain rfl:i=n:=by omega
   have e:a1a (l.take i) i=l:=by
    have:=b5h l
    rw [HL.out] at this
    exact this
   rw [e] at ab
   go_wp2
   refine bodyPost_ret (v:=.tuple #[.slice (some ⟨B,0,none⟩) i i,.int .i64 0]) (by simp [results,Tryz.results226,go_sem]) rfl ?_
   exact ⟨_,B,rfl,ab,aj,by have:=HB.out;omega⟩
  ·have am:i<n:=by omega
   obtain ⟨x,hx⟩:=zX (i%W)
   obtain ⟨y,hy⟩:=zX (i / W)
   have aF:x<W:=by rw [hx];exact Nat.mod_lt _ (by omega)
   have aM:y<H:=by rw [hy];exact Nat.div_lt_of_lt_mul (by have:=HN.out;omega)
   have al:y*W+x=i:=by rw [hx,hy,zY];exact Nat.div_add_mod i W
   have aY:(i:Int)%(W:Int)=(x:Int):=by rw [hx];simp
   have aX:(i:Int) / (W:Int)=(y:Int):=by rw [hy];simp
   have a8:(i:Int).tmod (W:Int)=(x:Int):=by rw [Int.tmod_eq_emod_of_nonneg (by omega)];exact aY
   have a4:(i:Int).tdiv (W:Int)=(y:Int):=by rw [Int.tdiv_eq_ediv_of_nonneg (by omega)];exact aX
   have a2:(W:Int)≠0:=by omega
   have ae:(a1a (l.take i) n).length=n:=a4g (by rw [zI];omega)
   have aK:nbr (a1a (l.take i) n) W x y=nbr l W x y:=by
    have:=c7k (l:=l) aF al (by rw [HL.out];omega)
    rw [HL.out] at this
    exact this
   have ao:=fun w' (h:Chg [] wr w')=>c7l (a1a (l.take i) n) (some ⟨B,0,none⟩) n W x y w' hw0 hw1 aF (by omega) (by rw [al,ae];omega) (ab.toOwn.cells.same h) (by omega)
   rw [ae,aK] at ao
   obtain ⟨k,ah⟩:=zX (ks.getD y 0)
   have az:y<ks.length:=by rw [aU.out];exact aM
   have aA:k<10:=by rw [ah,zD,zF az];exact aR.out _ (zG _)
   have ap:=fun w'=>d6y k (nbr l W x y) d w' aA h0 h1 (b5s HS.out W x y)
   have af:=e6u HS.out W k y x
   have aC:=a1.out y x aM aF
   rw [<-ah,al] at aC
   rw [al] at af
   obtain ⟨g,hg⟩:=zX (nbr l W x y)
   rw [<-hg] at ao ap af
   obtain ⟨gs,au⟩:=zX (a3d k g d)
   have ag:=a9p (d:=d) (g:=g) (by rw [hg];exact b5s HS.out W x y) k
   rw [<-au] at ag
   rw [<-au] at ap af
   rw [<-aC] at af
   obtain ⟨r,hr⟩:=zX (R.getD i 0)
   rw [<-hr] at af
   obtain ⟨bk,ok,rfl,ai⟩:=(HK.out.same aj).at_ az
   have aG:wr.cell? ⟨bk,ok+y,none⟩=some (.int .i64 k):=by
    rw [ai,ah,zD,zF az];rfl
   have av:i<R.length:=by rw [HR.out];exact am
   obtain ⟨ba,oa,rfl,ak⟩:=(HC.out.same aj).at_ av
   have an:wr.cell? ⟨ba,oa+i,none⟩=some (.int .i64 r):=by
    rw [ak,hr,zD,zF av];rfl
   clear ai ak av
   have a9:wrap64 (r+gs)=r+gs:=by
    have h3:=a5d a0.out i
    rw [<-hr] at h3
    have h4:=ag
    have hp:(2:Int)^d<=65536:=by
     have:=Nat.pow_le_pow_right (n:=2) (by decide) h1
     have e:((2^d:Nat):Int)=(2:Int)^d:=by simp
     omega
    exact IntWalk.wrap64_in _ (by omega)
   have aN:=hid ao
   have aT:=hid ap
   have aS:=hid an
   have aP:Hid (l.take (i+1)=l.take i++[a0k (r+gs) d]):=hid (by
    have aL:i<l.length:=by rw [HL.out];exact am
    rw [af,zD,zF aL]
    exact a0o l aL)
   have aB:Hid ((l.take i).length=i):=hid (by rw [zI,HL.out];omega)
   have aJ:=hid af
   have a5:=hid hr
   have bd:=hid ah
   have ay:=hid ab
   have aO:=hid aj
   have bc:=hid ae
   clear hx hy al aK ao ap af aC hg au hr ah ab aj ae
   go_wp2_with fail
   go_quiet (fail)
   go_wp2_with fail
   refine (aN.out _ ((zR [] wr).drewN nq)).mono ?_
   obtain ⟨ga,gb,gc,ge⟩:=g
   rintro e w1 ⟨rfl,q,rfl⟩
   obtain ⟨wy,ax⟩:=zX ((wr.drewN nq).drewN q)
   have aH:Chg [] wr wy:=by rw [ax];exact ((zR [] wr).drewN nq).drewN q
   rw [<-ax]
   have aG:=aH.cell (by simp) aG
   clear an ax
   go_wp2_with fail
   refine (aT.out _).mono ?_
   rintro e w2 ⟨rfl,aZ⟩
   have aq:Chg [] wr w2:=aH.tq aZ
   have an:=aq.cell (by simp) aS.out
   have aw:=fun w'=>b2n (r+gs) d w' h0 h1
   rw [aJ.out] at aw
   go_wp2_with fail
   refine (aw _).mono ?_
   rintro e w3 ⟨rfl,rfl⟩
   have aa:=ay.out.chg aq (by simp)
   obtain ⟨aQ,aW⟩:=aa.fill_cell (by rw [aB.out];exact am)
   have ac:=aa.fill (by rw [aB.out];exact am) (l.getD i 0)
   rw [aB.out] at aQ aW ac
   have aV:=hid ac
   clear aa ac an aw aG
   go_wp2_with fail
   go_roundg j
   case measure=>omega
   case rel =>
    have aD:Chg [B] w2 (w2.setCell ⟨B,i,none⟩ (.int .i64 (l.getD i 0))):=(zR _ _).setCell (.inl (by simp)) _
    refine ⟨i+1,by go_num,by omega,?_,(aO.out.tq aq).trans aD fun z hz => .inr (by have:=HB.out;simp at hz;omega)⟩
    have e:=aP.out
    rw [aJ.out] at e
    rw [e]
    exact aV.out
end Go.Proofs.YtepjepkgcdfboaaGreatDoor
