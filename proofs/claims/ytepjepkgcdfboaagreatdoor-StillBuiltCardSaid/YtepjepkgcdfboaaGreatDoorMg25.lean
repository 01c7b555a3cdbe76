/- The coder's functions, the third part: NewCoder, Number. -/
import Derived.Test.YtepjepkgcdfboaaGreatDoorMg24
import Derived.Deep.RegionWith
set_option linter.unusedVariables false
set_option linter.unusedSimpArgs false
set_option maxHeartbeats 2000000
set_option maxRecDepth 100000
namespace Go.Proofs.YtepjepkgcdfboaaGreatDoor
open Go.RowKit
theorem d3y (n:Nat) (w:World) (h1:1<=n) (hn:n<=4096) :
  Calls Tryz.prog 164 #[.int .i64 n] w fun e w'=>∃ b g h,e=.returned (.tuple #[.pointer (some ⟨b,0,none⟩),.int .i64 0])/\a7p 247 w' b g h (a6r n)/\Chg [] w w' /\
   w.heap.size<=b/\w.heap.size<=g/\w.heap.size<=h:=by
 have t1:decide ((n:Int)<1)=false:=by simp;omega
 have t2:decide ((4096:Int)<n)=false:=by simp;omega
 have ac:∀ w,(Instr.makeSlice 39 (.int .i64 4) (.int .i64 4)).run Tryz.prog w=.ok (.slice (some ⟨w.heap.size,0,none⟩) 4 4) (w.alloc (.cells #[.int .u8 0,.int .u8 0,.int .u8 0,.int .u8 0] 5)) :=
  fun w=>a1p f0h rfl .i64 .i64 4 (by omega) (by omega) w
 go_enter Tryz.func164,Tryz.ntmps164
 go_wp2_with fail
 go_region_with (go_at_call 213;refine (d7r n _ hn).mono ?_;rintro e w1 ⟨h,rfl,ab,aa,hh⟩)
 ·go_wp2
  go_ret2
  have hz:=Row.made w 5 [.int .u8 0,.int .u8 0,.int .u8 0,.int .u8 0] (by simp [maxLen])
  refine ⟨w1.heap.size,w.heap.size,h,rfl,⟨_,_,Blk.new _ _ _,((hz.drew).chg aa (by simp)).alloc _,ab.alloc _⟩,?_,?_,zQ _,?_⟩
  ·exact ((((zR _ _).alloc _).drew).tq aa).alloc _
  ·have:=aa.size;simp at this;omega
  ·simp at hh;omega
 ·go_wp2
  go_ret2
  have hz:=Row.made w1 5 [.int .u8 0,.int .u8 0,.int .u8 0,.int .u8 0] (by simp [maxLen])
  refine ⟨w1.heap.size+1,w1.heap.size,h,?_,⟨_,_,(show Blk _ _ _ #[_,.int .u64 4294967295,_] from ?_),hz.alloc _,(ab.alloc _).alloc _⟩,?_,?_,?_,?_⟩
  ·rfl
  ·have:=Blk.new (w1.alloc (.cells #[.int .u8 0,.int .u8 0,.int .u8 0,.int .u8 0] 5)) 247 #[.slice (some ⟨w1.heap.size,0,none⟩) 4 4,.int .u64 4294967295,.slice (some ⟨h,0,none⟩) n n]
   simpa using this
  ·exact ((((zR _ _).drew).tq aa).alloc _).alloc _
  ·have:=aa.size;simp at this;omega
  ·have:=aa.size;simp at this;omega
  ·simp at hh;omega
theorem f2o (v d:Nat) (h:2^d<=v+1) (hv:v<4294967296):IntKind.u64.wrap ((v:Int)+1-IntKind.u64.wrap ((2:Int)^d))=((v+1-2^d:Nat):Int):=by
 have e:((2:Int)^d)=((2^d:Nat):Int):=by simp
 rw [e]
 generalize 2^d=p at *
 rw [IntWalk.u64_in (p:Int) (by omega),IntWalk.u64_in _ (by omega)]
 omega
theorem f3v (w:World) (b g h:Nat) (c:Cod) (ctx v:Nat) (hc:a7p 247 w b g h c) (hok:a2d c) (hctx:ctx+33<=c.odds.length) (hv:v<4294967296)
  (hlen:c.low.length<=274877906944) :
  Calls Tryz.prog 165 #[.pointer (some ⟨b,0,none⟩),.int .i64 ctx,.int .u64 v] w fun e w'=>e=.returned (.int .i64 0) /\
   ∃ g',a7p 247 w' b g' h (c8x c ctx v)/\Chg [b,g,h] w w'/\(g'=g\/w.heap.size<=g'):=by
 obtain ⟨vl,vo,hb,hl,ho⟩:=hc.ex
 obtain ⟨aD,rfl,aH,aE,-,-⟩:=ho.oq
 have af:=hb.cell 2
 simp at af
 clear hb hl ho
 have t1:decide ((4294967296:Int)<=(v:Int))=false:=by simp;omega
 have t2:decide ((ctx:Int)<0)=false:=by simp
 have t3:decide ((c.odds.length:Int)-33<(ctx:Int))=false:=by simp;omega
 obtain ⟨d,hd⟩:=zX (Nat.log2 (v+1))
 have am:d<=32:=by rw [hd];exact a8z hv
 have az:(Lib.bitLen (v+1):Int)=(d:Int)+1:=by rw [d2v _ (by omega) (by omega),hd];simp
 have ae:=c1u hok hv hctx
 have ar:a2d (a2p c ctx d):=a6g hok (by omega)
 have aw:=c1x c ctx d
 have ad:=a0x c ctx d
 have aB:2^d<=v+1:=by rw [hd];exact Nat.log2_self_le (by omega)
 have aq:v+1<2^(d+1):=by rw [hd];exact Nat.lt_log2_self
 have ai:c8x c ctx v=b8j (if d<32 then b9b (a2p c ctx d) (ctx+d) 0 else a2p c ctx d) (v+1-2^d) d:=by rw [hd];rfl
 rw [<-hd] at ae
 have HD:=hid hd
 have HN:=hid ai
 have HO:=hid ad
 have HB:=hid az
 clear hd ai ad az
 go_enter Tryz.func165,Tryz.ntmps165
 go_wp2_with (go_at_call 132;refine (Tryz.bits_Len64 _ _ (by omega) (by omega)).mono ?_;rintro e w' ⟨he,aA⟩;rw [show ((v:Int)+1).toNat=v+1 from by omega,HB.out] at he;subst he;have al:=aA.symm;subst al;clear aA)
 go_loopg [8,30] d (fun k i j wr=>∃ g',k<=d/\j=.int .i64 ((d-k:Nat):Int)/\a7p 247 wr b g' h (a2p c ctx (d-k))/\Chg [b,g,h] w wr/\(g'=g\/w.heap.size<=g'))
 case atStart=>exact ⟨g,zQ _,by simp,by simpa [a2p] using hc,zR _ _,.inl rfl⟩
 case round =>
  obtain ⟨g',hk,rfl,ag,ah,ac⟩:=hrel
  rcases gk with _ | k
  ·have t4:decide (((d-0:Nat):Int)<d)=false:=by simp
   simp only [Nat.sub_zero] at ag
   go_upto_if 40 with fail
   obtain ⟨an,hm⟩:=zX ((if d<32 then b9b (a2p c ctx d) (ctx+d) 0 else a2p c ctx d))
   rw [<-hm] at ae
   have au:an.low.length<=c.low.length+33:=by
    rw [hm]
    split
    ·have:=c7x (a2p c ctx d) (ctx+d) 0
     omega
    ·omega
   have HM:=hid hm
   clear hm
   go_cut [] (fun wx=>∃ g2,a7p 247 wx b g2 h an/\Chg [b,g,h] w wx/\(g2=g\/w.heap.size<=g2))
   case first =>
    by_cases aj:d<32
    ·have t5:decide ((d:Int)<32)=true:=by simp;omega
     go_wp2_with fail
     rw [show ((ctx:Int)+d)=((ctx+d:Nat):Int) from by omega]
     refine (f0x wr b g' h (a2p c ctx d) (ctx+d) 0 ag ar (by rw [HO.out];omega) (by simp) (by omega)).mono ?_
     rintro e w1 ⟨rfl,g2,af,aa,ab⟩
     go_wp2_with fail
     go_meet
     case rel =>
      have ax:=ah.size
      refine ⟨g2,?_,ah.trans aa ?_,?_⟩
      ·rw [HM.out,if_pos aj];exact af
      ·intro x hx
       simp at hx
       rcases hx with rfl | rfl | rfl
       ·exact .inl (by simp)
       ·rcases ac with rfl | ac
        ·exact .inl (by simp)
        ·exact .inr ac
       ·exact .inl (by simp)
      ·rcases ab with rfl | ab
       ·exact ac
       ·exact .inr (by omega)
    ·have t5:decide ((d:Int)<32)=false:=by simp;omega
     go_wp2_with fail
     go_meet
     case rel=>exact ⟨g',by rw [HM.out,if_neg aj];exact ag,ah,ac⟩
   case rest =>
    obtain ⟨g2,ap,aa,ab⟩:=hcut
    go_wp2_with fail
    rw [f2o v d aB hv]
    have aj:v+1-2^d<2^d:=by rw [Nat.pow_succ] at aq;omega
    refine (f4e wc b g2 h an (v+1-2^d) d ap ae am aj (by omega) (by omega)).mono ?_
    rintro e w1 ⟨rfl,g3,aF,ao,av⟩
    have ax:=aa.size
    go_wp2_with fail
    go_ret
    refine ⟨rfl,g3,?_,aa.trans ao ?_,?_⟩
    ·rw [HN.out,<-HM.out];exact aF
    ·intro x hx
     simp at hx
     rcases hx with rfl | rfl | rfl
     ·exact .inl (by simp)
     ·rcases ab with rfl | ab
      ·exact .inl (by simp)
      ·exact .inr ab
     ·exact .inl (by simp)
    ·rcases av with rfl | av
     ·exact ab
     ·exact .inr (by omega)
  ·obtain ⟨m,hm⟩:=zX (d-(k+1))
   rw [<-hm] at ag ⊢
   have aG:m<d:=by omega
   have ay:d-k=m+1:=by omega
   have HM:=hid ay
   clear hm ay
   have ak:a2d (a2p c ctx m):=a6g hok (by omega)
   have aI:=c1x c ctx m
   have aC:=hid (a0x c ctx m)
   go_wp2_with fail
   rw [show ((ctx:Int)+m)=((ctx+m:Nat):Int) from by omega]
   refine (f0x wr b g' h (a2p c ctx m) (ctx+m) 1 ag ak (by rw [aC.out];omega) (by simp) (by omega)).mono ?_
   rintro e w1 ⟨rfl,g2,af,aa,ab⟩
   go_wp2_with fail
   go_roundg k
   case measure=>omega
   case rel =>
    rw [HM.out]
    have ax:=ah.size
    refine ⟨g2,by omega,by go_num,af,ah.trans aa ?_,?_⟩
    ·intro x hx
     simp at hx
     rcases hx with rfl | rfl | rfl
     ·exact .inl (by simp)
     ·rcases ac with rfl | ac
      ·exact .inl (by simp)
      ·exact .inr ac
     ·exact .inl (by simp)
    ·rcases ab with rfl | ab
     ·exact ac
     ·exact .inr (by omega)
end Go.Proofs.YtepjepkgcdfboaaGreatDoor
