/- bits.Writer by its contracts: bit, Put, Unary, Len, Bytes. -/
import Derived.Test.YtklocammllljiaaGreatDoorProg
import Derived.Test.YtklocammllljiaaGreatDoorMg02
import Derived.Test.YtklocammllljiaaGreatDoorMg03
import Derived.WalkLawsBesides
import Derived.WalkSpells
import Derived.Handy
import Derived.StillTailTactics
import Derived.Deep.DeepCutAuto
import Derived.Deep.LoopGhost
set_option linter.unusedVariables false
set_option linter.unusedSimpArgs false
set_option maxHeartbeats 4000000
set_option maxRecDepth 100000
namespace Go.Proofs.YtklocammllljiaaGreatDoor
open Go.RowKit
structure IsWr (w:World) (b:Nat) (F:List Nat) (bs:List Nat):Prop where
 ex:∃ v G,Blk w b 102 #[v,.int .i64 bs.length]/\Own w 5 v G ((packed bs).map b8)/\F=b::G
 bit:∀ x∈bs,x<2
theorem IsWr.mem {w:World} {b:Nat} {F bs:List Nat} (h:IsWr w b F bs):b∈F:=by
 obtain ⟨_,_,_,_,rfl⟩:=h.ex
 simp
theorem IsWr.lt {w:World} {b:Nat} {F bs:List Nat} (h:IsWr w b F bs):∀ x∈F,x<w.heap.size:=by
 obtain ⟨_,_,hb,ho,rfl⟩:=h.ex
 intro x hx
 rcases zJ.1 hx with rfl | hx
 ·exact hb.lt
 ·exact ho.lt x hx
theorem IsWr.chg {w w':World} {b:Nat} {F G bs:List Nat} (h:IsWr w b F bs) (hc:Chg G w w') (hd:∀ x∈F,x∉G):IsWr w' b F bs:=by
 obtain ⟨v,K,hb,ho,rfl⟩:=h.ex
 exact ⟨⟨v,K,hb.chg hc (hd b (by simp)),ho.chg hc fun x hx=>hd x (by simp [hx]),rfl⟩,h.bit⟩
theorem IsWr.same {w w':World} {b:Nat} {F bs:List Nat} (h:IsWr w b F bs) (hc:Chg [] w w'):IsWr w' b F bs:=h.chg hc (by simp)
theorem IsWr.new (w:World):IsWr (w.alloc (.cells #[.slice none 0 0,.int .i64 0] 102)) w.heap.size [w.heap.size] [] :=
 ⟨⟨_,[],Blk.new _ _ _,Own.nil _ _,rfl⟩,by simp⟩
theorem u8_elem:Elem Tryz.prog 52 5 (.int .u8 0) 1 1:=.mk' Tryz.underlying52 (by kernel_rfl)
theorem bit_any (w:World) (b:Nat) (F bs:List Nat) (x:Nat) (h:IsWr w b F bs) (hx:x<2) (hlen:bs.length<1099511627776) :
  Calls Tryz.prog 61 #[.pointer (some ⟨b,0,none⟩),.int .u8 x] w fun e w'=>e=.returned (.tuple #[])/\∃ F',IsWr w' b F' (bs++[x])/\Grow F F' w w':=by
 obtain ⟨v,G,hb,ho,rfl⟩:=h.ex
 have ah:=h.bit
 have al:=ho.ne_ hb (by decide)
 have ag:∀ y∈bs++[x],y<2:=by
  intro y hy
  rcases zP.1 hy with hy | hy
  ·exact ah y hy
  ·simp at hy;omega
 obtain ⟨A,aH,rfl,aq,aI,-⟩:=ho.open_map
 have ax:(packed bs).length<=137438953472:=by rw [packed_len];omega
 have ak:=hb.cell 0
 have av:=hb.cell 1
 have aJ:=hb.frozen 0
 have aC:=hb.frozen 1
 simp at ak av
 have HB:=hid ag
 clear ag ah h
 obtain ⟨i,r,hl,aE⟩:∃ i r,bs.length=8*i+r/\r<8:=⟨bs.length / 8,bs.length%8,by omega,by omega⟩
 have e1:(bs.length:Int) / 8=(i:Int):=by omega
 have e2:(bs.length:Int)%8=(r:Int):=by omega
 have HL:=hid hl
 by_cases h8:r=0
 ·subst h8
  have ad:(packed bs).length=i:=by rw [packed_len];omega
  have hi:(i:Int)<1099511627776:=by omega
  have HP:=hid ad
  clear hl ad
  go_enter Tryz.func61,Tryz.ntmps61
  go_wp2_with (at_builtin;refine wpList_append_o1 rfl rfl u8_elem rfl rfl (ho.alloc _) (.int .u8 0) rfl ?c1 ?c2 ?c3 ?c4 ?_)
  case c1=>simp [go_sem]
  case c2=>rfl
  case c3=>simp;omega
  case c4=>simp;omega
  intro g2 aa w2 ao an
  have ae:g2≠b:=by
   rintro rfl
   rcases an.new g2 (by simp) with h | h
   ·exact al h
   ·have:=hb.lt;simp at h;omega
  have am:=(hb.alloc (.cells #[.int .u8 0] 5)).chg an.chg (by simpa using al)
  try simp only [zE] at ao
  try rw [HP.out] at ao
  try simp only [zE]
  try rw [HP.out]
  have ai:=am.cell 0
  have aw:=am.frozen 0
  simp at ai
  clear ak av aJ aC aq aI ax
  have aj:=am.set_ 0 (.slice (some ⟨g2,0,none⟩) (i+1) aa)
  have ac:=ao.far (p:=⟨b,0,none⟩) ae (.slice (some ⟨g2,0,none⟩) (i+1) aa)
  have az:Grow (b::G) [b,g2] w (w2.setCell ⟨b,0,none⟩ (.slice (some ⟨g2,0,none⟩) (i+1) aa)) :=
   (((Grow.refl (b::G) w).alloc _).trans (an.cons b)).setCell (by simp) _
  go_wp2_with fail
  generalize hw3:w2.setCell ⟨b,0,none⟩ (.slice (some ⟨g2,0,none⟩) (i+1) aa)=w3 at *
  clear ai aw
  have aG:=aj.cell 0
  have ai:=aj.cell 1
  have aw:=aj.frozen 1
  simp at aG ai
  have aA:w3.cell? ⟨g2,i,none⟩=some (.int .u8 0):=by
   obtain ⟨_,_,_,_,h4,_⟩:=ac.open_
   rw [h4 i (by simp [HP.out])]
   rw [zS (by simp [HP.out])]
   simp [HP.out]
  have ay:w3.frozen? ⟨g2,i,none⟩=false:=by
   obtain ⟨_,_,_,_,_,h4⟩:=ac.open_
   exact h4 i
  refine wp_region_quiet_tail 21 (by kernel_rfl) (by kernel_rfl) ?_
  simp only [List.take_succ_cons,List.take_zero,List.drop_succ_cons,List.drop_zero]
  repeat (go_big_quiet_step (fail))
  refine wpQuiet_nil ?_
  intro _ ap
  obtain ⟨nq,rfl⟩:=ap
  go_wp2_with fail
  go_end0
  have hv:bits .or .u8 0 ((x:Int)*128)=((x*128:Nat):Int):=by
   have:=bor_u8 (x:=0) (y:=x*128) (by decide) (by omega)
   simpa using this
  rw [hv]
  refine ⟨rfl,[b,g2],⟨⟨.slice (some ⟨g2,0,none⟩) (i+1) aa,[g2],?_,?_,rfl⟩,HB.out⟩,?_⟩
  ·have h1:=((aj.drewN nq).far (p:=⟨g2,i,none⟩) ae.symm (.int .u8 ((x*128:Nat):Int))).set_ 1 (.int .i64 ((bs.length:Int)+1))
   simpa using h1
  ·have h1:=((ac.drewN nq).set_ (i:=i) (by simp [HP.out]) (.int .u8 ((x*128:Nat):Int))).far (p:=⟨b,1,none⟩) ae (.int .i64 ((bs.length:Int)+1))
   have e:(List.map b8 (packed bs)++[Value.int .u8 0]).set i (.int .u8 ((x*128:Nat):Int))=(packed (bs++[x])).map b8:=by
    rw [packed_new (by rw [HL.out];omega),zM,List.set_append_right _ _ (by simp [HP.out])]
    simp [HP.out,b8]
   rw [e] at h1
   exact h1.toOwn
  ·exact ((az.drewN nq).setCell (p:=⟨g2,i,none⟩) (by simp) _).setCell (p:=⟨b,1,none⟩) (by simp) _
 ·have aF:(r:Int)≠0:=by omega
  have t1:((r:Int)==0)=false:=by rw [beq_eq_false_iff_ne];exact aF
  have ad:(packed bs).length=i+1:=by rw [packed_len];omega
  have HP:=hid ad
  obtain ⟨g2,rfl⟩:∃ g2,A=some ⟨g2,0,none⟩:=by
   obtain ⟨A',aB,h1,_,_,h2,h3⟩:=ho.open_
   injection h1 with h1 _ _
   subst h1
   obtain ⟨b0,o0,h4,_⟩:=h2.ex (by simp [ad])
   obtain ⟨g,h5,_⟩:=h3 _ h4
   exact ⟨g,by rw [h4,h5]⟩
  obtain ⟨ac,rfl⟩:=ho.row rfl
  have ae:g2≠b:=by simpa [eq_comm] using al
  have aD:byteAt bs i<256:=byteAt_lt (fun y hy=>HB.out y (by simp [hy])) i
  have aA:w.cell? ⟨g2,i,none⟩=some (.int .u8 (byteAt bs i)):=by
   obtain ⟨_,_,_,_,h4,_⟩:=ac.open_
   rw [h4 i (by simp [HP.out])]
   have:i<(bs.length+7) / 8:=by omega
   simp [packed,b8,this]
  have ay:w.frozen? ⟨g2,i,none⟩=false:=by
   obtain ⟨_,_,_,_,_,h4⟩:=ac.open_
   exact h4 i
  rw [ad] at hb ak aq
  have ar:=or_bit (b:=x) hl aE hx
  have ab:packed (bs++[x])=(packed bs).set i (byteAt bs i+x*2^(7-r)):=by
   have h1:=packed_in (bs:=bs) (b:=x) (by omega)
   have h2:bs.length / 8=i:=by omega
   have h3:bs.length%8=r:=by omega
   rw [h1,h2,h3]
  have af:=hid ab
  have aK:=hid ar
  clear hl ad ab ar
  go_enter Tryz.func61,Tryz.ntmps61
  go_wp2_with fail
  refine wp_region_quiet_tail 21 (by kernel_rfl) (by kernel_rfl) ?_
  simp only [List.take_succ_cons,List.take_zero,List.drop_succ_cons,List.drop_zero]
  repeat (go_big_quiet_step (fail))
  refine wpQuiet_nil ?_
  intro _ ap
  obtain ⟨nq,rfl⟩:=ap
  go_wp2_with fail
  go_end0
  have aL:2^(7-r)<=128:=Nat.pow_le_pow_right (n:=2) (j:=7) (by decide) (by omega)
  have au:x*2^(7-r)<256:=by
   have:x=0\/x=1:=by omega
   rcases this with rfl | rfl<;>omega
  have hv:bits .or .u8 ((byteAt bs i:Nat):Int) ((x:Int)*2^(7-r)%256)=((byteAt bs i+x*2^(7-r):Nat):Int):=by
   have e3:((x:Int)*2^(7-r)%256)=((x*2^(7-r):Nat):Int):=by
    rw [Int.natCast_mul,Int.natCast_pow]
    refine Int.emod_eq_of_lt ?_ ?_
    ·exact Int.mul_nonneg (by omega) (Int.le_of_lt (two_pow_pos' _))
    ·exact_mod_cast au
   rw [e3,bor_u8 aD au,aK.out]
  rw [hv]
  refine ⟨rfl,[b,g2],⟨⟨.slice (some ⟨g2,0,none⟩) (i+1) aH,[g2],?_,?_,rfl⟩,HB.out⟩,?_⟩
  ·have h1:=((hb.drewN nq).far (p:=⟨g2,i,none⟩) ae.symm (.int .u8 ((byteAt bs i+x*2^(7-r):Nat):Int))).set_ 1 (.int .i64 ((bs.length:Int)+1))
   simpa using h1
  ·have h1:=((ac.drewN nq).set_ (i:=i) (by simp [HP.out]) (.int .u8 ((byteAt bs i+x*2^(7-r):Nat):Int))).far (p:=⟨b,1,none⟩) ae (.int .i64 ((bs.length:Int)+1))
   rw [HP.out] at h1
   have e:(List.map b8 (packed bs)).set i (.int .u8 ((byteAt bs i+x*2^(7-r):Nat):Int))=(packed (bs++[x])).map b8:=by
    rw [af.out,List.map_set]
    rfl
   rw [e] at h1
   exact h1.toOwn
  ·exact (((Grow.refl [b,g2] w).drewN nq).setCell (p:=⟨g2,i,none⟩) (by simp) _).setCell (p:=⟨b,1,none⟩) (by simp) _
theorem wput_ok (w:World) (b:Nat) (F bs:List Nat) (v n:Nat) (h:IsWr w b F bs) (hn:n<=63) (hv:v<2^n) (hlen:bs.length<549755813888) :
  Calls Tryz.prog 24 #[.pointer (some ⟨b,0,none⟩),.int .u64 v,.int .i64 n] w fun e w'=>e=.returned (.int .i64 0)/\∃ F',IsWr w' b F' (bs++bitsOf v n)/\Grow F F' w w':=by
 have ai:v<18446744073709551616:=Nat.lt_of_lt_of_le hv (Nat.le_trans (Nat.pow_le_pow_right (by decide) hn) (by decide:2^63<=18446744073709551616))
 have t1:decide ((n:Int)<0)=false:=by simp
 have t2:decide ((64:Int)<n)=false:=by simp;omega
 have t3:(((v:Int) / 2^n) != 0)=false:=by
  have:(v:Int) / 2^n=((v / 2^n:Nat):Int):=by simp
  rw [this,Nat.div_eq_of_lt hv]
  rfl
 clear hv
 go_enter Tryz.func24,Tryz.ntmps24
 go_wp2_with fail
 go_loopg [7] n (fun k i wr=>∃ (F' aa:List Nat),i=.int .i64 ((k:Int)-1)/\k<=n/\IsWr wr b F' aa/\Hid (bs++bitsOf v n=aa++bitsOf v k)/\aa.length+k<=bs.length+n/\Grow F F' w wr)
 case atStart=>exact ⟨F,bs,rfl,zQ _,h,hid rfl,zQ _,Grow.refl _ _⟩
 case round =>
  obtain ⟨F',aa,rfl,hk,ae,Hr,ak,ag⟩:=hrel
  rcases gk with _ | k
  ·have t4:decide ((0:Int)<=((0:Nat):Int)-1)=false:=by simp
   go_wp2
   go_ret
   refine ⟨rfl,F',?_,ag⟩
   rw [Hr.out]
   simpa [bitsOf] using ae
  ·have e1:(((k+1:Nat):Int)-1)=(k:Int):=by omega
   rw [e1]
   obtain ⟨ac,ab⟩:=zX (v / 2^k%2)
   have ah:bits BinOp.and IntKind.u64 ((v:Int) / 2^k) 1=(ac:Int):=by
    have e:(v:Int) / 2^k=((v / 2^k:Nat):Int):=by simp
    have aj:v / 2^k<=v:=Nat.div_le_self _ _
    rw [e,ab]
    exact band_u64_one (by omega)
   have af:ac<=1:=by omega
   have ad:Hid (bs++bitsOf v n=(aa++[ac])++bitsOf v k):=by
    refine hid ?_
    rw [Hr.out,ab,bitsOf,zH]
    rfl
   clear ab
   go_wp2_with fail
   refine (bit_any _ b F' aa ac ae (by omega) (by omega)).mono ?_
   rintro e w1 ⟨rfl,F2,h2,g2⟩
   go_wp2_with fail
   go_roundg k
   case measure=>omega
   case rel=>exact ⟨F2,aa++[ac],rfl,by omega,h2,ad,by simp;omega,ag.trans g2⟩
theorem wunary_ok (w:World) (b:Nat) (F bs:List Nat) (n:Nat) (h:IsWr w b F bs) (hn:n<=4096) (hlen:bs.length<549755813888) :
  Calls Tryz.prog 229 #[.pointer (some ⟨b,0,none⟩),.int .i64 n] w fun e w'=>e=.returned (.int .i64 0)/\∃ F',IsWr w' b F' (bs++(List.replicate n 0++[1]))/\Grow F F' w w':=by
 have t1:decide ((n:Int)<0)=false:=by simp
 have t2:decide ((4096:Int)<n)=false:=by simp;omega
 go_enter Tryz.func229,Tryz.ntmps229
 go_wp2_with fail
 go_loopg [12] n (fun k i wr=>∃ (F' aa:List Nat),i=.int .i64 ((n-k:Nat):Int)/\k<=n/\IsWr wr b F' aa/\Hid (aa=bs++List.replicate (n-k) 0)/\aa.length+k<=bs.length+n/\Grow F F' w wr)
 case atStart=>exact ⟨F,bs,by simp,zQ _,h,hid (by simp),zQ _,Grow.refl _ _⟩
 case round =>
  obtain ⟨F',aa,rfl,hk,ab,Hr,af,ac⟩:=hrel
  rcases gk with _ | k
  ·have t4:decide (((n-0:Nat):Int)<(n:Int))=false:=by simp
   go_wp2_with fail
   refine (bit_any _ b F' aa 1 ab (by omega) (by omega)).mono ?_
   rintro e w1 ⟨rfl,F2,h2,g2⟩
   go_wp2
   go_ret
   refine ⟨rfl,F2,?_,ac.trans g2⟩
   rw [Hr.out] at h2
   simpa using h2
  ·obtain ⟨m,hm⟩:=zX (n-(k+1))
   rw [<-hm] at Hr ⊢
   have ae:m<n:=by omega
   have ad:n-k=m+1:=by omega
   have HM:=hid ad
   clear hm ad
   go_wp2_with fail
   refine (bit_any _ b F' aa 0 ab (by omega) (by omega)).mono ?_
   rintro e w1 ⟨rfl,F2,h2,g2⟩
   go_wp2_with fail
   go_roundg k
   case measure=>omega
   case rel =>
    refine ⟨F2,aa++[0],?_,by omega,h2,?_,by simp;omega,ac.trans g2⟩
    ·rw [HM.out];go_num
    ·refine hid ?_
     rw [Hr.out,HM.out,List.replicate_succ',zH]
theorem wlen_any (w:World) (b:Nat) (F bs:List Nat) (h:IsWr w b F bs) :
  Calls Tryz.prog 134 #[.pointer (some ⟨b,0,none⟩)] w fun e w'=>e=.returned (.int .i64 bs.length)/\w=w':=by
 obtain ⟨v,G,hb,ho,rfl⟩:=h.ex
 have aa:=hb.cell 1
 simp at aa
 clear hb ho h
 go_enter Tryz.func134,Tryz.ntmps134
 go_wp2
 go_ret
 exact ⟨rfl,rfl⟩
theorem b8_one (l:List Nat):∀ u∈l.map b8,u.oneCell'=true:=by
 intro u hu
 obtain ⟨d,_,rfl⟩:=List.mem_map.1 hu
 rfl
theorem wbytes_at (w:World) (b:Nat) (A:Option Addr) (cap:Nat) (ds:List Nat) (hc0:w.cell? ⟨b,0,none⟩=some (.slice A ds.length cap)) (hcells:Cells (fun u=>u) w A (ds.map b8)) (hpl:ds.length<=137438953472) :
  Calls Tryz.prog 28 #[.pointer (some ⟨b,0,none⟩)] w fun e w'=>∃ v G,e=.returned v/\Own w' 5 v G (ds.map b8)/\Chg [] w w'/\∀ x∈G,w.heap.size<=x:=by
 have HC:=hid hcells
 clear hcells
 go_enter Tryz.func28,Tryz.ntmps28
 go_wp2_with (at_builtin;refine wpList_append_s rfl rfl u8_elem rfl rfl (Own.nil _ _) (ds.map b8) ds.length rfl ?c1 ?c2 ?c3 ?c4 ?c5 ?_)
 case c1=>exact (zE _).symm
 case c2=>exact HC.out
 case c3=>exact b8_one _
 case c4=>rw [zE,List.length_nil];omega
 case c5=>rw [zE,List.length_nil];omega
 intro v' F' w' h2 h3
 go_wp2
 go_ret
 exact ⟨v',F',rfl,by simpa using h2,h3.chg,fun x hx=>by rcases h3.new x hx with h | h;simp at h;exact h⟩
theorem wbytes_ok (w:World) (b:Nat) (F bs:List Nat) (h:IsWr w b F bs) (hlen:bs.length<549755813888) :
  Calls Tryz.prog 28 #[.pointer (some ⟨b,0,none⟩)] w fun e w'=>∃ v G,e=.returned v/\Own w' 5 v G ((packed bs).map b8)/\Chg [] w w'/\∀ x∈G,w.heap.size<=x:=by
 obtain ⟨v,G,hb,ho,rfl⟩:=h.ex
 obtain ⟨A,ad,rfl,af,ag,-⟩:=ho.open_map
 obtain ⟨A',ae,h1,-,-,aa,-⟩:=ho.open_
 injection h1 with h1 _ _
 subst h1
 have ac:(packed bs).length<=137438953472:=by rw [packed_len];omega
 have ab:=hb.cell 0
 simp at ab
 exact wbytes_at w b A ad _ ab aa ac
structure IsRd (w:World) (b:Nat) (F:List Nat) (ds:List Nat) (at_:Nat):Prop where
 ex:∃ v G,Blk w b 158 #[v,.int .i64 at_,.int .i64 0]/\Own w 5 v G (ds.map b8)/\F=b::G
 dig:∀ d∈ds,d<256
 len:ds.length<1099511627776
 at_le:at_<=8*ds.length
def bitAt (ds:List Nat) (i:Nat):Nat:=ds.getD (i / 8) 0 / 2^(7-i%8)%2
def allBits (ds:List Nat):List Nat:=(List.range (8*ds.length)).map (bitAt ds)
theorem allBits_len (ds:List Nat):(allBits ds).length=8*ds.length:=by simp [allBits]
theorem allBits_get {ds:List Nat} {i:Nat} (h:i<8*ds.length):(allBits ds)[i]?=some (bitAt ds i):=by
 simp [allBits,h]
theorem IsRd.mem {w:World} {b:Nat} {F ds:List Nat} {p:Nat} (h:IsRd w b F ds p):b∈F:=by
 obtain ⟨_,_,_,_,rfl⟩:=h.ex
 simp
theorem IsRd.lt {w:World} {b:Nat} {F ds:List Nat} {p:Nat} (h:IsRd w b F ds p):∀ x∈F,x<w.heap.size:=by
 obtain ⟨_,_,hb,ho,rfl⟩:=h.ex
 intro x hx
 rcases zJ.1 hx with rfl | hx
 ·exact hb.lt
 ·exact ho.lt x hx
theorem IsRd.chg {w w':World} {b:Nat} {F G ds:List Nat} {p:Nat} (h:IsRd w b F ds p) (hc:Chg G w w') (hd:∀ x∈F,x∉G):IsRd w' b F ds p:=by
 obtain ⟨v,K,hb,ho,rfl⟩:=h.ex
 exact ⟨⟨v,K,hb.chg hc (hd b (by simp)),ho.chg hc fun x hx=>hd x (by simp [hx]),rfl⟩,h.dig,h.len,h.at_le⟩
theorem IsRd.same {w w':World} {b:Nat} {F ds:List Nat} {p:Nat} (h:IsRd w b F ds p) (hc:Chg [] w w'):IsRd w' b F ds p:=h.chg hc (by simp)
theorem rnew_ok (w:World) (A:Option Addr) (cap:Nat) (ds:List Nat) (hc:Cells b8 w A ds) (hd:∀ d∈ds,d<256) (hl:ds.length<1099511627776) (hcl:ds.length<=cap) (hcm:cap<=9223372036854775807) :
  Calls Tryz.prog 81 #[.slice A ds.length cap] w fun e w'=>∃ b F,e=.returned (.pointer (some ⟨b,0,none⟩))/\IsRd w' b F ds 0/\Chg [] w w'/\∀ x∈F,w.heap.size<=x:=by
 have ab:Cells (fun u=>u) w A (ds.map b8):=⟨fun h0=>by
  obtain ⟨b,o,e1,e2,e3⟩:=hc.ex (by simpa using h0)
  refine ⟨b,o,e1,e2,fun i a ha => ?_⟩
  rw [zW] at ha
  cases e:ds[i]? with
  | none=>simp [e] at ha
  | some d=>simp [e] at ha;subst ha;exact e3 i d e⟩
 have HC:=hid ab
 have HD:=hid hd
 clear hc ab hd
 go_enter Tryz.func81,Tryz.ntmps81
 go_wp2_with (at_builtin;refine wpList_append_s rfl rfl u8_elem rfl rfl (Own.nil _ _) (ds.map b8) ds.length rfl ?c1 ?c2 ?c3 ?c4 ?c5 ?_)
 case c1=>exact (zE _).symm
 case c2=>exact HC.out
 case c3=>exact b8_one _
 case c4=>rw [zE,List.length_nil];omega
 case c5=>rw [zE,List.length_nil];omega
 intro v' F' w' h2 h3
 obtain ⟨A',aa,rfl,-⟩:=h2.open_
 go_wp2
 go_ret
 have ac:Own w' 5 (.slice A' ds.length aa) F' (ds.map b8):=by simpa using h2
 refine ⟨_,w'.heap.size::F',rfl,⟨⟨_,F',Blk.new _ _ _,ac.alloc _,rfl⟩,HD.out,hl,by simp⟩,h3.chg.alloc _,fun x hx => ?_⟩
 have:=h3.size
 rcases zJ.1 hx with rfl | hx
 ·exact this
 ·rcases h3.new x hx with h | h
  ·simp at h
  ·exact h
theorem bitAt_lt (ds:List Nat) (i:Nat):bitAt ds i<2:=by unfold bitAt;omega
theorem getD_get {ds:List Nat} {i:Nat} (h:i<ds.length):ds[i]?=some (ds.getD i 0):=by
 rw [zD,zF h];rfl
theorem look_ok (w : World) (b : Nat) (F ds : List Nat) (p i : Nat) (h : IsRd w b F ds p) (hi : i < 8 * ds.length) :
    Calls Tryz.prog 117 #[.pointer (some ⟨b,0,none⟩),.int .i64 i] w fun e w'=>e=.returned (.int .u8 (bitAt ds i))/\w=w':=by
  obtain ⟨v,G,hb,ho,rfl⟩:=h.ex
  obtain ⟨A,am,rfl,ai,an,aa⟩:=ho.open_map
  have ag:=h.len
  have af:=hb.cell 0
  simp at af
  obtain ⟨g,o,rfl,ak,ab⟩:=aa.ex (by omega)
  obtain ⟨q,hq⟩:=zX (i / 8)
  obtain ⟨r,hr⟩:=zX (i%8)
  have ae:q<ds.length:=by omega
  have hx:=ab q _ (getD_get ae)
  obtain ⟨y,hy⟩:=zX (ds.getD q 0)
  rw [<-hy] at hx
  have ad:y<256:=by
    rw [hy]
    exact h.dig _ (List.mem_of_getElem? (getD_get ae))
  have aj:w.cell? ⟨g,o+q,none⟩=some (.int .u8 y):=hx
  have e1:(i:Int) / 8=(q:Int):=by omega
  have e2:(i:Int)%8=(r:Int):=by omega
  have al:r<8:=by omega
  have ac:bitAt ds i=y / 2^(7-r)%2:=by unfold bitAt;rw [<-hq,<-hr,<-hy]
  have HF:=hid ac
  have ah:y / 2^(7-r)<256:=Nat.lt_of_le_of_lt (Nat.div_le_self _ _) ad
  clear ac hy hq hr hx ab aa ho hb h
  go_enter Tryz.func117,Tryz.ntmps117
  go_wp2
  go_ret
  rw [HF.out]
  first
    | exact ⟨rfl,rfl⟩
    | (have e3 : (y : Int) / 2 ^ (7 - r) = ((y / 2 ^ (7 - r) : Nat) : Int) := by simp
       refine ⟨?_,rfl⟩
       rw [<-band_u8_one ah,<-e3]
       rfl)
theorem left_ok (w:World) (b:Nat) (F ds:List Nat) (p:Nat) (h:IsRd w b F ds p) :
  Calls Tryz.prog 87 #[.pointer (some ⟨b,0,none⟩)] w fun e w'=>e=.returned (.int .i64 ((8*ds.length-p:Nat):Int))/\∃ n,w'=w.drewN n:=by
 obtain ⟨v,G,hb,ho,rfl⟩:=h.ex
 obtain ⟨A,af,rfl,ae,ah,aa⟩:=ho.open_map
 have ac:=h.len
 have ag:=h.at_le
 have ab:=hb.cell 0
 have ad:=hb.cell 1
 simp at ab ad
 have e1:((8*ds.length-p:Nat):Int)=8*(ds.length:Int)-p:=by omega
 rw [e1]
 clear e1 aa ho hb h
 go_enter Tryz.func87,Tryz.ntmps87
 go_wp2_with fail
 go_quiet (fail)
 go_wp2
 go_ret
 exact ⟨rfl,_,rfl⟩
theorem err_ok (w:World) (b:Nat) (F ds:List Nat) (p:Nat) (h:IsRd w b F ds p) :
  Calls Tryz.prog 84 #[.pointer (some ⟨b,0,none⟩)] w fun e w'=>e=.returned (.int .i64 0)/\w=w':=by
 obtain ⟨v,G,hb,ho,rfl⟩:=h.ex
 have aa:=hb.cell 2
 simp at aa
 clear ho hb h
 go_enter Tryz.func84,Tryz.ntmps84
 go_wp2
 go_ret
 exact ⟨rfl,rfl⟩
def rdNum (ds:List Nat) (p:Nat):Nat->Nat
 | 0=>0
 | n+1=>2*rdNum ds p n+bitAt ds (p+n)
theorem rdNum_lt (ds:List Nat) (p:Nat):∀ n,rdNum ds p n<2^n
 | 0=>by simp [rdNum]
 | n+1=>by
  have:=rdNum_lt ds p n
  have:=bitAt_lt ds (p+n)
  rw [rdNum,Nat.pow_succ]
  omega
def Ahead (ds:List Nat) (p:Nat) (bs:List Nat):Prop:=∃ rest,(allBits ds).drop p=bs++rest
theorem Ahead.len {ds:List Nat} {p:Nat} {bs:List Nat} (h:Ahead ds p bs):bs.length<=8*ds.length-p:=by
 obtain ⟨rest,h⟩:=h
 have:=congrArg List.length h
 rw [zO,allBits_len,zC] at this
 omega
theorem Ahead.le {ds:List Nat} {p:Nat} {bs:List Nat} (h:Ahead ds p bs) (hp:p<=8*ds.length):p+bs.length<=8*ds.length:=by have:=h.len;omega
theorem Ahead.left {ds:List Nat} {p:Nat} {us bs:List Nat} (h:Ahead ds p (us++bs)):Ahead ds p us:=by
 obtain ⟨rest,h⟩:=h
 exact ⟨bs++rest,by rw [h,zH]⟩
theorem Ahead.right {ds:List Nat} {p:Nat} {us bs:List Nat} (h:Ahead ds p (us++bs)):Ahead ds (p+us.length) bs:=by
 obtain ⟨rest,h⟩:=h
 refine ⟨rest,?_⟩
 rw [<-List.drop_drop,h,zH,List.drop_left]
theorem Ahead.get {ds:List Nat} {p:Nat} {bs:List Nat} (h:Ahead ds p bs) {i x:Nat} (hi:bs[i]?=some x):bitAt ds (p+i)=x:=by
 have aa:=h.len
 obtain ⟨rest,h⟩:=h
 have ab:i<bs.length:=(List.getElem?_eq_some_iff.1 hi).1
 have h1:((allBits ds).drop p)[i]?=some x:=by rw [h,List.getElem?_append_left ab,hi]
 rw [List.getElem?_drop,allBits_get (by omega)] at h1
 simpa using h1
theorem bitsOf_get (v:Nat):∀ (n i:Nat),i<n->(bitsOf v n)[i]?=some (v / 2^(n-1-i)%2)
 | n+1,0,_=>by simp [bitsOf]
 | n+1,i+1,h=>by
  rw [bitsOf,List.getElem?_cons_succ,bitsOf_get v n i (by omega)]
  have:n-1-i=n+1-1-(i+1):=by omega
  rw [this]
theorem rdNum_prefix {ds:List Nat} {p v n:Nat} (h:Ahead ds p (bitsOf v n)) (hv:v<2^n):∀ m,m<=n->rdNum ds p m=v / 2^(n-m)
 | 0,_=>by rw [rdNum,Nat.sub_zero,Nat.div_eq_of_lt hv]
 | m+1,hm=>by
  rw [rdNum,rdNum_prefix h hv m (by omega),h.get (bitsOf_get v n m (by omega))]
  have e1:n-1-m=n-(m+1):=by omega
  have e2:n-m=n-(m+1)+1:=by omega
  rw [e1,e2,Nat.pow_succ,<-Nat.div_div_eq_div_mul]
  omega
theorem rdNum_ahead {ds:List Nat} {p v n:Nat} (h:Ahead ds p (bitsOf v n)) (hv:v<2^n):rdNum ds p n=v:=by
 rw [rdNum_prefix h hv n (zQ _),Nat.sub_self,Nat.pow_zero,Nat.div_one]
theorem rget_ok (w:World) (b:Nat) (F ds:List Nat) (p n:Nat) (h:IsRd w b F ds p) (hn:n<=63) (hp:p+n<=8*ds.length) :
  Calls Tryz.prog 83 #[.pointer (some ⟨b,0,none⟩),.int .i64 n] w fun e w'=>e=.returned (.int .u64 (rdNum ds p n))/\IsRd w' b F ds (p+n)/\Chg [b] w w':=by
 have ak:=h.len
 have t1:decide ((n:Int)<0)=false:=by simp
 have t2:decide ((64:Int)<n)=false:=by simp;omega
 have t3:decide ((8*ds.length-p)<n)=false:=by simp;omega
 have ap:w.cell? ⟨b,2,none⟩=some (.int .i64 0):=by
  obtain ⟨v,G,hb,ho,rfl⟩:=h.ex
  simpa using hb.cell 2
 go_enter Tryz.func83,Tryz.ntmps83
 go_wp2_with fail
 refine (left_ok w b F ds p h).mono ?_
 rintro e w' ⟨rfl,nq,rfl⟩
 go_wp2_with fail
 go_loopg [5,28] n (fun k v i wr=>k<=n/\i=.int .i64 ((n-k:Nat):Int)/\v=.int .u64 (rdNum ds p (n-k))/\IsRd wr b F ds (p+(n-k))/\Chg [b] w wr)
 case atStart=>exact ⟨zQ _,by simp,by simp [rdNum],by simpa using h.same ((zR _ _).drewN nq),(zR _ _).drewN nq⟩
 case round =>
  obtain ⟨hk,rfl,rfl,aa,ah⟩:=hrel
  rcases gk with _ | k
  ·have t4:decide (((n-0:Nat):Int)<(n:Int))=false:=by simp
   go_wp2
   go_ret
   exact ⟨by simp,by simpa using aa,ah⟩
  ·obtain ⟨m,hm⟩:=zX (n-(k+1))
   rw [<-hm] at aa ⊢
   have am:m<n:=by omega
   have ag:n-k=m+1:=by omega
   have HM:=hid ag
   clear hm ag
   have hv:=rdNum_lt ds p m
   have aj:2^m<=2^62:=Nat.pow_le_pow_right (by decide) (by omega)
   obtain ⟨v,ac⟩:=zX (rdNum ds p m)
   rw [<-ac] at hv ⊢
   have HV:=hid ac
   have al:v<4611686018427387904:=by omega
   clear ac hv aj
   have ao:wr.cell? ⟨b,1,none⟩=some (.int .i64 ((p+m:Nat):Int)):=by
    obtain ⟨v,G,hb,ho,rfl⟩:=aa.ex
    simpa using hb.cell 1
   have an:wr.frozen? ⟨b,1,none⟩=false:=by
    obtain ⟨v,G,hb,ho,rfl⟩:=aa.ex
    exact hb.frozen 1
   have ab:=bitAt_lt ds (p+m)
   obtain ⟨y,hy⟩:=zX (bitAt ds (p+m))
   have ad:=look_ok wr b F ds (p+m) (p+m) aa (by omega)
   rw [<-hy] at ad ab
   have HY:=hid hy
   clear hy
   have af:bits BinOp.or IntKind.u64 ((v:Int)*2) (y:Int)=((2*v+y:Nat):Int):=by
    have:=bor_u64_bit (v:=v) (b:=y) (by omega) ab
    rw [<-this]
    congr 1
    omega
   have HO:=hid af
   clear af
   have ae:((p+m:Nat):Int)=(p:Int)+m:=by omega
   go_wp2_with fail
   refine ad.mono ?_
   rintro e w1 ⟨rfl,rfl⟩
   go_wp2_with fail
   go_roundg k
   case measure=>omega
   case rel =>
    rw [HM.out]
    refine ⟨by omega,by go_num,?_,?_,ah.setCell (by simp) _⟩
    ·rw [rdNum,<-HV.out,<-HY.out,<-HO.out]
    ·obtain ⟨v1,G,hb,ho,e1⟩:=aa.ex
     have ai:b∉G:=ho.ne_ hb (by decide)
     have h1:=hb.set_ 1 (.int .i64 ((p+m:Nat)+1:Int))
     refine ⟨⟨v1,G,?_,ho.far (p:=⟨b,1,none⟩) ai _,e1⟩,aa.dig,aa.len,by omega⟩
     have e2:((p+(m+1):Nat):Int)=((p+m:Nat):Int)+1:=by omega
     rw [e2]
     simpa using h1
theorem rget_ahead (w:World) (b:Nat) (F ds:List Nat) (p n v:Nat) (h:IsRd w b F ds p) (hn:n<=63) (hv:v<2^n) (ha:Ahead ds p (bitsOf v n)) :
  Calls Tryz.prog 83 #[.pointer (some ⟨b,0,none⟩),.int .i64 n] w fun e w'=>e=.returned (.int .u64 v)/\IsRd w' b F ds (p+n)/\Chg [b] w w':=by
 have hp:=ha.le h.at_le
 rw [bitsOf_len] at hp
 have:=rget_ok w b F ds p n h hn hp
 rw [rdNum_ahead ha hv] at this
 exact this
theorem rd_cells {w:World} {b:Nat} {F ds:List Nat} {p:Nat} (h:IsRd w b F ds p) :
  w.cell? ⟨b,1,none⟩=some (.int .i64 p)/\w.cell? ⟨b,2,none⟩=some (.int .i64 0)/\w.frozen? ⟨b,1,none⟩=false/\∃ A cap,w.cell? ⟨b,0,none⟩=some (.slice A ds.length cap):=by
 obtain ⟨v,G,hb,ho,rfl⟩:=h.ex
 obtain ⟨A,cap,rfl,_⟩:=ho.open_map
 refine ⟨by simpa using hb.cell 1,by simpa using hb.cell 2,hb.frozen 1,A,cap,by simpa using hb.cell 0⟩
theorem IsRd.move {w:World} {b:Nat} {F ds:List Nat} {p:Nat} (h:IsRd w b F ds p) {q:Nat} (hq:q<=8*ds.length):IsRd (w.setCell ⟨b,1,none⟩ (.int .i64 q)) b F ds q:=by
 obtain ⟨v,G,hb,ho,rfl⟩:=h.ex
 have aa:b∉G:=ho.ne_ hb (by decide)
 have h1:=hb.set_ 1 (.int .i64 q)
 exact ⟨⟨v,G,by simpa using h1,ho.far (p:=⟨b,1,none⟩) aa _,rfl⟩,h.dig,h.len,hq⟩
theorem runary_ok (w:World) (b:Nat) (F ds:List Nat) (p n most:Nat) (h:IsRd w b F ds p) (hn:n<=most) (hm:most<=4096) (hz:∀ i,i<n->bitAt ds (p+i)=0) (h1:bitAt ds (p+n)=1) (hp:p+n+1<=8*ds.length) :
  Calls Tryz.prog 279 #[.pointer (some ⟨b,0,none⟩),.int .i64 most] w fun e w'=>e=.returned (.int .i64 n)/\IsRd w' b F ds (p+n+1)/\Chg [b] w w':=by
 have af:=h.len
 obtain ⟨ak,al,ai,A,aj,ah⟩:=rd_cells h
 have HZ:=hid hz
 have H1:=hid h1
 clear hz h1
 go_enter Tryz.func279,Tryz.ntmps279
 go_wp2_with fail
 go_quiet (fail)
 go_wp2_with fail
 have aa:=h.same ((zR _ _).drewN nq)
 go_loopg [5,6] n (fun k z i wr=>k<=n/\z=.int .i64 ((n-k:Nat):Int)/\i=.int .i64 ((p+(n-k):Nat):Int)/\wr=w.drewN nq)
 case atStart=>exact ⟨zQ _,by simp,by simp,rfl⟩
 case round =>
  obtain ⟨hk,rfl,rfl,rfl⟩:=hrel
  rcases gk with _ | k
  ·have ab:=look_ok (w.drewN nq) b F ds p (p+n) aa (by omega)
   rw [H1.out] at ab
   have t4:(((p+n:Nat):Int)==8*(ds.length:Int))=false:=by rw [beq_eq_false_iff_ne];omega
   have hc:((p+n:Nat):Int)=(p:Int)+n:=by omega
   rw [Nat.sub_zero]
   go_wp2_with fail
   refine ab.mono ?_
   rintro e w1 ⟨rfl,rfl⟩
   go_wp2_with fail
   go_ret
   have ad:=aa.move (q:=p+n+1) (by omega)
   have e2:((p+n+1:Nat):Int)=(p:Int)+n+1:=by omega
   rw [e2] at ad
   exact ⟨rfl,ad,((zR _ _).drewN nq).setCell (by simp) _⟩
  ·obtain ⟨m,ac⟩:=zX (n-(k+1))
   rw [<-ac]
   have ag:m<n:=by omega
   have ae:n-k=m+1:=by omega
   have HM:=hid ae
   clear ac ae
   have ab:=look_ok (w.drewN nq) b F ds p (p+m) aa (by omega)
   rw [HZ.out m ag] at ab
   have t4:(((p+m:Nat):Int)==8*(ds.length:Int))=false:=by rw [beq_eq_false_iff_ne];omega
   have t5:((m:Int)==(most:Int))=false:=by rw [beq_eq_false_iff_ne];omega
   have hc:((p+m:Nat):Int)=(p:Int)+m:=by omega
   go_wp2_with fail
   refine ab.mono ?_
   rintro e w1 ⟨rfl,rfl⟩
   go_wp2_with fail
   go_roundg k
   case measure=>omega
   case rel =>
    rw [HM.out]
    exact ⟨by omega,by go_num,by go_num,rfl⟩
def sgnOf (v n:Nat):Int:=if v<2^(n-1) then (v:Int) else (v:Int)-2^n
theorem sgn_shift {v n:Nat} (h1:1<=n) (h2:n<=63) (hv:v<2^n):(IntKind.i64.wrap (IntKind.u64.wrap ((v:Int)*2^(64-n)))).fdiv (2^(64-n))=sgnOf v n:=by
 have hp:=two_pow_pos' (64-n)
 have ab:(2:Int)^n*2^(64-n)=18446744073709551616:=by
  rw [<-Int.pow_add]
  have:n+(64-n)=64:=by omega
  rw [this];rfl
 have eh:(2:Int)^(n-1)*2^(64-n)=9223372036854775808:=by
  rw [<-Int.pow_add]
  have:n-1+(64-n)=63:=by omega
  rw [this];rfl
 have ad:(v:Int)<2^n:=by exact_mod_cast hv
 have ae:(0:Int)<=v*2^(64-n):=Int.mul_nonneg (by omega) (by omega)
 have af:(v:Int)*2^(64-n)<18446744073709551616:=by
  rw [<-ab]
  exact Int.mul_lt_mul_of_pos_right ad hp
 rw [IntWalk.u64_in _ (by omega)]
 have ac:∀ x:Int,(x*2^(64-n)).fdiv (2^(64-n))=x:=fun x=>by
  rw [Int.fdiv_eq_ediv_of_nonneg _ (by omega),Int.mul_ediv_cancel _ (by omega)]
 unfold sgnOf
 by_cases hs:v<2^(n-1)
 ·rw [if_pos hs]
  have aa:(v:Int)<2^(n-1):=by exact_mod_cast hs
  have:(v:Int)*2^(64-n)<9223372036854775808:=by
   rw [<-eh]
   exact Int.mul_lt_mul_of_pos_right aa hp
  rw [IntWalk.i64_in _ (by omega),ac]
 ·rw [if_neg hs]
  have aa:(2:Int)^(n-1)<=v:=by
   have:2^(n-1)<=v:=by omega
   exact_mod_cast this
  have:(9223372036854775808:Int)<=v*2^(64-n):=by
   rw [<-eh]
   exact Int.mul_le_mul_of_nonneg_right aa (by omega)
  have ew:IntKind.i64.wrap ((v:Int)*2^(64-n))=((v:Int)-2^n)*2^(64-n):=by
   rw [IntKind.wrap_i64,Int.sub_mul,ab]
   omega
  rw [ew,ac]
def vi (x:Int):Value:=.int .i64 x
theorem vi_one (l:List Int):∀ u∈l.map vi,u.oneCell'=true:=by
 intro u hu
 obtain ⟨d,_,rfl⟩:=List.mem_map.1 hu
 rfl
theorem int_elem:Elem Tryz.prog 22 3 (.int .i64 0) 1 8:=.mk' Tryz.underlying22 (by kernel_rfl)
theorem Cells.at_ {α:Type} {f:α->Value} {w:World} {A:Option Addr} {l:List α} (h:Cells f w A l) {m:Nat} (hm:m<l.length) :
  ∃ b o,A=some ⟨b,o,none⟩/\w.cell? ⟨b,o+m,none⟩=some (f l[m]):=by
 obtain ⟨b,o,e,_,hc⟩:=h.ex (by omega)
 exact ⟨b,o,e,hc m _ (zF hm)⟩
theorem wide_yes (x:Int) (w:World) (h:wideP x):Calls Tryz.prog 215 #[.int .i64 x] w fun e w'=>e=.returned (.bool true)/\w=w':=by
 obtain ⟨h1,h2⟩:=h
 have t1:decide ((-1073741824:Int)<=x)=true:=by simpa using h1
 have t2:decide (x<(1073741824:Int))=true:=by simpa using h2
 go_enter Tryz.func215,Tryz.ntmps215
 go_wp2
 go_ret
 exact ⟨rfl,rfl⟩
theorem param_yes (k:Nat) (w:World) (h:k<=25):Calls Tryz.prog 228 #[.int .i64 k] w fun e w'=>e=.returned (.bool true)/\w=w':=by
 have t1:decide ((0:Int)<=(k:Int))=true:=by simp
 have t2:decide ((k:Int)<=(25:Int))=true:=by simp;omega
 go_enter Tryz.func228,Tryz.ntmps228
 go_wp2
 go_ret
 exact ⟨rfl,rfl⟩
theorem rfold_ok (x:Int) (w:World) (h:wideP x):Calls Tryz.prog 169 #[.int .i64 x] w fun e w'=>e=.returned (.int .u64 (rfold x))/\w=w':=by
 have hh:=h
 obtain ⟨h1,h2⟩:=h
 by_cases hx:0<=x
 ·have t1:decide ((0:Int)<=x)=true:=by simpa using hx
  go_enter Tryz.func169,Tryz.ntmps169
  go_wp2_with (go_at_call 215;refine (wide_yes _ _ hh).mono ?_;rintro e w' ⟨rfl,rfl⟩)
  go_ret
  refine ⟨?_,rfl⟩
  have:((rfold x:Nat):Int)=2*x:=by unfold rfold;rw [if_pos hx];omega
  rw [this]
  rfl
 ·have t1:decide ((0:Int)<=x)=false:=by simpa using hx
  have hf:((rfold x:Nat):Int)=-(2*x)-1:=by unfold rfold;rw [if_neg hx];omega
  have HF:=hid hf
  clear hf
  go_enter Tryz.func169,Tryz.ntmps169
  go_wp2_with (go_at_call 215;refine (wide_yes _ _ hh).mono ?_;rintro e w' ⟨rfl,rfl⟩)
  go_ret
  refine ⟨?_,rfl⟩
  rw [HF.out]
  first | rfl | (go_num)
theorem unfold_ok (u:Nat) (w:World) (h:u<2147483648):Calls Tryz.prog 182 #[.int .u64 u] w fun e w'=>e=.returned (.int .i64 (unfoldI u))/\w=w':=by
 have t0:decide ((2147483648:Int)<=(u:Int))=false:=by simp;omega
 by_cases hx:u%2=0
 ·have t1:((u:Int)%2==0)=true:=by rw [beq_iff_eq];omega
  have hf:unfoldI u=(u:Int) / 2:=by unfold unfoldI;rw [if_pos hx];omega
  have HF:=hid hf
  clear hf hx
  go_enter Tryz.func182,Tryz.ntmps182
  go_wp2
  go_ret
  rw [HF.out]
  exact ⟨rfl,rfl⟩
 ·have t1:((u:Int)%2==0)=false:=by rw [beq_eq_false_iff_ne];omega
  have hf:unfoldI u=-((u:Int) / 2)-1:=by unfold unfoldI;rw [if_neg hx];omega
  have HF:=hid hf
  clear hf hx
  go_enter Tryz.func182,Tryz.ntmps182
  go_wp2
  go_ret
  rw [HF.out]
  exact ⟨rfl,rfl⟩
theorem rcost_ok (k:Nat) (x:Int) (w:World) (hk:k<=25) (h:wideP x):Calls Tryz.prog 272 #[.int .i64 k,.int .i64 x] w fun e w'=>e=.returned (.int .i64 (rcost k x))/\w=w':=by
 have hu:=rfold_lt h
 obtain ⟨u,ab⟩:=zX (rfold x)
 have ac:=rfold_ok x w h
 rw [<-ab] at hu ac
 have hq:u / 2^k<=u:=Nat.div_le_self _ _
 obtain ⟨q,aa⟩:=zX (u / 2^k)
 have e1:(u:Int) / 2^k=(q:Int):=by rw [aa];simp
 rw [<-aa] at hq
 have hf:rcost k x=if q<32 then q+1+k else 65:=by unfold rcost;rw [<-ab,<-aa]
 have HF:=hid hf
 clear hf ab aa
 by_cases hs:q<32
 ·have t1:decide ((q:Int)<32)=true:=by simp;omega
  go_enter Tryz.func272,Tryz.ntmps272
  go_wp2_with (first | (go_at_call 228;refine (param_yes _ _ hk).mono ?_;rintro e w' ⟨rfl,rfl⟩) | (go_at_call 215;refine (wide_yes _ _ h).mono ?_;rintro e w' ⟨rfl,rfl⟩) | (go_at_call 169;refine ac.mono ?_;rintro e w' ⟨rfl,rfl⟩))
  go_ret
  rw [HF.out,if_pos hs]
  refine ⟨?_,rfl⟩
  first | rfl | (go_num)
 ·have t1:decide ((q:Int)<32)=false:=by simp;omega
  go_enter Tryz.func272,Tryz.ntmps272
  go_wp2_with (first | (go_at_call 228;refine (param_yes _ _ hk).mono ?_;rintro e w' ⟨rfl,rfl⟩) | (go_at_call 215;refine (wide_yes _ _ h).mono ?_;rintro e w' ⟨rfl,rfl⟩) | (go_at_call 169;refine ac.mono ?_;rintro e w' ⟨rfl,rfl⟩))
  go_ret
  rw [HF.out,if_neg hs]
  exact ⟨rfl,rfl⟩
theorem rsum_snoc (k:Nat) (l:List Int) (x:Int):rsum k (l++[x])=rsum k l+rcost k x:=by simp [rsum]
theorem take_snoc' {α:Type} (l:List α) {m:Nat} (h:m<l.length):l.take (m+1)=l.take m++[l[m]]:=by
 rw [List.take_succ_eq_append_getElem h]
theorem rsum_ok (k:Nat) (l:List Int) (A:Option Addr) (cap:Nat) (w:World) (hk:k<=25) (hw:∀ x∈l,wideP x) (hc:Cells vi w A l) (hl:l.length<=1099511627776) :
  Calls Tryz.prog 234 #[.int .i64 k,.slice A l.length cap] w fun e w'=>e=.returned (.int .i64 (rsum k l))/\w=w':=by
 have HW:=hid hw
 clear hw
 obtain ⟨n,hn⟩:=zX (l.length)
 rw [<-hn] at hl ⊢
 have HN:=hid hn
 clear hn
 go_enter Tryz.func234,Tryz.ntmps234
 go_wp2_with fail
 go_loopg [5,10] n (fun j s i wr=>j<=n/\i=.int .i64 ((n-j:Nat):Int)/\s=.int .i64 ((rsum k (l.take (n-j)):Nat):Int)/\w=wr)
 case atStart=>exact ⟨zQ _,by simp,by simp [rsum],rfl⟩
 case round =>
  obtain ⟨hj,rfl,rfl,rfl⟩:=hrel
  rcases gk with _ | j
  ·have t4:decide (((n-0:Nat):Int)<(n:Int))=false:=by simp
   have e:l.take n=l:=by rw [HN.out,zN]
   rw [Nat.sub_zero,e]
   go_wp2
   go_ret
   exact ⟨rfl,rfl⟩
  ·obtain ⟨m,ah⟩:=zX (n-(j+1))
   rw [<-ah]
   have am:m<n:=by omega
   have aj:n-j=m+1:=by omega
   have HM:=hid aj
   clear ah aj
   have ag:m<l.length:=by rw [<-HN.out];exact am
   obtain ⟨b,o,rfl,aa⟩:=hc.at_ ag
   have ab:=rsum_snoc k (l.take m) l[m]
   rw [<-take_snoc' l ag] at ab
   have ac:=rsum_le k (l.take m) hk
   rw [zI] at ac
   obtain ⟨x,hx⟩:=zX (l[m])
   rw [<-hx] at aa ab
   have af:w.cell? ⟨b,o+m,none⟩=some (.int .i64 x):=aa
   have al:wideP x:=by rw [hx];exact HW.out _ (zG _)
   obtain ⟨s,hs⟩:=zX (rsum k (l.take m))
   rw [<-hs] at ab ac ⊢
   have ae:=rcost_le k x hk
   have HS:=hid ab
   have ak:s<=65*n:=by omega
   have ai:=rcost_ok k x w hk al
   obtain ⟨c,ad⟩:=zX (rcost k x)
   rw [<-ad] at ai ae
   have HC:=hid ad
   clear ab aa hx hs ac ad ag
   go_wp2_with (go_at_call 272;refine ai.mono ?_;rintro e w' ⟨rfl,rfl⟩)
   go_roundg j
   case measure=>omega
   case rel =>
    rw [HM.out,HS.out,<-HC.out]
    exact ⟨by omega,by go_num,by go_num,rfl⟩
theorem rbest_ok (l:List Int) (A:Option Addr) (cap:Nat) (w:World) (hw:∀ x∈l,wideP x) (hc:Cells vi w A l) (hl:l.length<=1099511627776) :
  Calls Tryz.prog 184 #[.slice A l.length cap] w fun e w'=>e=.returned (.int .i64 (rbest l))/\w=w':=by
 have ab:=fun k (hk:k<=25)=>rsum_ok k l A cap w hk hw hc hl
 have ai:=ab 0 (by omega)
 have ac:=hid ab
 clear ab hw hc
 go_enter Tryz.func184,Tryz.ntmps184
 go_wp2_with fail
 refine ai.mono ?_
 rintro e w' ⟨rfl,rfl⟩
 clear ai
 go_wp2_with fail
 go_loopg [3,4,5] 25 (fun j b s i wr=>j<=25/\b=.int .i64 (bestUpTo l (25-j))/\s=.int .i64 (rsum (bestUpTo l (25-j)) l)/\i=.int .i64 ((26-j:Nat):Int)/\w=wr)
 case atStart=>exact ⟨zQ _,rfl,rfl,rfl,rfl⟩
 case round =>
  obtain ⟨hj,rfl,rfl,rfl,rfl⟩:=hrel
  rcases gk with _ | j
  ·have t4:decide (((26-0:Nat):Int)<=(25:Int))=false:=by simp
   go_wp2
   go_ret
   exact ⟨rfl,rfl⟩
  ·obtain ⟨m,ae⟩:=zX (25-(j+1))
   rw [<-ae]
   have am:m<25:=by omega
   have ak:25-j=m+1:=by omega
   have al:26-(j+1)=m+1:=by omega
   have ah:26-j=m+2:=by omega
   rw [al]
   have HM:=hid ak
   have aj:=hid ah
   have ag:bestUpTo l (m+1)=if rsum (m+1) l<rsum (bestUpTo l m) l then m+1 else bestUpTo l m:=rfl
   have HS:=hid ag
   have aa:=ac.out (m+1) (by omega)
   obtain ⟨s,hs⟩:=zX (rsum (m+1) l)
   obtain ⟨b,hb⟩:=zX (bestUpTo l m)
   rw [<-hs] at aa
   rw [<-hb]
   obtain ⟨t,ht⟩:=zX (rsum b l)
   rw [<-ht]
   have HB:=hid hb
   have HT:=hid ht
   have ad:=hid hs
   clear ag ae ak al ah hb ht hs
   have af:((m+1:Nat):Int)=(m:Int)+1:=by omega
   by_cases hlt:s<t
   ·have t5:decide (s<t)=true:=by simpa using hlt
    go_wp2_with (go_at_call 234;refine aa.mono ?_;rintro e w' ⟨rfl,rfl⟩)
    go_roundg j
    case measure=>omega
    case rel =>
     rw [HM.out,aj.out,HS.out,<-HB.out,<-ad.out,<-HT.out,if_pos hlt,<-ad.out]
     exact ⟨by omega,by go_num,rfl,by go_num,rfl⟩
   ·have t5:decide (s<t)=false:=by simpa using hlt
    go_wp2_with (go_at_call 234;refine aa.mono ?_;rintro e w' ⟨rfl,rfl⟩)
    go_roundg j
    case measure=>omega
    case rel =>
     rw [HM.out,aj.out,HS.out,<-HB.out,<-ad.out,<-HT.out,if_neg hlt,<-HT.out]
     exact ⟨by omega,rfl,rfl,by go_num,rfl⟩
def ptList:List (Int × Int):=[(0,1),(1,0),(1,1),(-1,1),(0,2),(2,0),(1,2),(-1,2),(2,1),(-2,1),(2,2),(-2,2),(0,3),(3,0),(1,3),(-1,3),(3,1),(-3,1),(2,3),(-2,3),(3,2),(-3,2),(0,4),(4,0)]
def ptX (i:Nat):Int:=(ptList.getD i (0,0)).1
def ptY (i:Nat):Int:=(ptList.getD i (0,0)).2
theorem pt_ok (i:Nat) : -4<=ptX i/\ptX i<=4/\0<=ptY i/\ptY i<=4:=by
 rcases zZ i 24 with h | h
 ·have:∀ i:Fin 24,-4<=ptX i.1/\ptX i.1<=4/\0<=ptY i.1/\ptY i.1<=4:=by decide
  exact this ⟨i,h⟩
 ·have:ptList.getD i (0,0)=(0,0):=by rw [zD,List.getElem?_eq_none (by simpa [ptList] using h)];rfl
  unfold ptX ptY
  rw [this]
  decide
def nearI (c W:Nat):Int:=if 24<c then (c:Int)-24 else max (ptY (c-1)*W+ptX (c-1)) 1
theorem nearI_ok {c W:Nat} (h1:c<=1048) (hw:W<=64):1<=nearI c W/\nearI c W<=1024:=by
 obtain ⟨p0,p1,p2,p3⟩:=pt_ok (c-1)
 have h2:ptY (c-1)*(W:Int)<=4*64:=Int.mul_le_mul p3 (by omega) (by omega) (by omega)
 unfold nearI
 split<;>omega
def codeFrom (d W:Nat):Nat->Nat->Nat
 | 0,_=>d+24
 | f+1,c=>if nearI c W=d then c else codeFrom d W f (c+1)
def codeN (d W:Nat):Nat:=codeFrom d W 24 1
theorem codeFrom_ok {d W:Nat} (hd:1<=d):∀ f c,c+f=25->1<=c->(1<=codeFrom d W f c/\codeFrom d W f c<=d+24)/\nearI (codeFrom d W f c) W=d
 | 0,c,h,h1=>by
  refine ⟨by simp only [codeFrom];omega,?_⟩
  have e:codeFrom d W 0 c=d+24:=rfl
  rw [e]
  unfold nearI
  rw [if_pos (by omega)]
  omega
 | f+1,c,h,h1=>by
  unfold codeFrom
  split
  ·rename_i hn
   exact ⟨by omega,hn⟩
  ·exact codeFrom_ok hd f (c+1) (by omega) (by omega)
theorem codeN_ok {d W:Nat} (hd:1<=d):(1<=codeN d W/\codeN d W<=d+24)/\nearI (codeN d W) W=d:=codeFrom_ok hd 24 1 rfl (by omega)
structure Tok where
 len:Nat
 dist:Nat
 lit:Int
def Tok.isLit (t:Tok):Bool:=decide (t.len=0)&&decide (t.dist=0)
def Tok.isCopy (t:Tok):Bool:=decide (3<=t.len)&&decide (t.len<=64)&&decide (1<=t.dist)&&decide (t.dist<=1024)&&decide (t.lit=0)
def Tok.ok (t:Tok):Prop:=t.isLit=true\/t.isCopy=true
theorem Tok.isLit_iff {t:Tok}:t.isLit=true ↔ t.len=0/\t.dist=0:=by simp [Tok.isLit]
theorem Tok.isCopy_iff {t:Tok}:t.isCopy=true ↔ 3<=t.len/\t.len<=64/\1<=t.dist/\t.dist<=1024/\t.lit=0:=by simp [Tok.isCopy,and_assoc]
def tokCells (t:Tok):List Go.Value:=[.int .i64 t.len,.int .i64 t.dist,.int .i64 t.lit]
def tokV (t:Tok):Go.Value:=.agg #[.int .i64 t.len,.int .i64 t.dist,.int .i64 t.lit]
theorem tok_flat_get {l:List Tok} {i:Nat} {t:Tok} (h:l[i]?=some t) :
  (l.flatMap tokCells)[i*3]?=some (.int .i64 t.len)/\(l.flatMap tokCells)[i*3+1]?=some (.int .i64 t.dist)/\(l.flatMap tokCells)[i*3+2]?=some (.int .i64 t.lit):=by
 induction l generalizing i with
 | nil=>simp at h
 | cons s l ih =>
  rw [List.flatMap_cons]
  have hl:(tokCells s).length=3:=rfl
  cases i with
  | zero =>
   simp at h
   subst h
   refine ⟨rfl,rfl,rfl⟩
  | succ i =>
   obtain ⟨a,b,c⟩:=ih (by simpa using h)
   refine ⟨?_,?_,?_⟩
   ·rw [zS (by omega),hl,show (i+1)*3-3=i*3 by omega];exact a
   ·rw [zS (by omega),hl,show (i+1)*3+1-3=i*3+1 by omega];exact b
   ·rw [zS (by omega),hl,show (i+1)*3+2-3=i*3+2 by omega];exact c
structure Pts (w:World):Prop where
 px:∀ i,i<24->w.cell? ⟨0,i*2,none⟩=some (.int .i64 (ptX i))
 py:∀ i,i<24->w.cell? ⟨0,i*2+1,none⟩=some (.int .i64 (ptY i))
 lt:0<w.heap.size
theorem Pts.chg {w w':World} {F:List Nat} (h:Pts w) (hc:Chg F w w') (hF:0∉F):Pts w' :=
 ⟨fun i hi=>(World.cell?_of_block (w:=w) (hc.block 0 h.lt hF)).trans (h.px i hi),fun i hi=>(World.cell?_of_block (w:=w) (hc.block 0 h.lt hF)).trans (h.py i hi),Nat.lt_of_lt_of_le h.lt hc.size⟩
theorem Pts.same {w w':World} (h:Pts w) (hc:Chg [] w w'):Pts w':=h.chg hc (by simp)
theorem mnear_ok (c W:Nat) (w:World) (h:Pts w) (h0:1<=c) (h1:c<=1048) (hw0:1<=W) (hw1:W<=64) :
  Calls Tryz.prog 233 #[.int .i64 c,.int .i64 W] w fun e w'=>e=.returned (.int .i64 (nearI c W))/\∃ n,w'=w.drewN n:=by
 have t1:decide ((c:Int)<1)=false:=zA (by omega)
 have t2:decide ((1048:Int)<(c:Int))=false:=zA (by omega)
 have t3:decide ((W:Int)<1)=false:=zA (by omega)
 have t4:decide ((64:Int)<(W:Int))=false:=zA (by omega)
 by_cases hb:24<c
 ·have t5:decide ((24:Int)<(c:Int))=true:=zB (by omega)
  have e:nearI c W=(c:Int)-24:=by unfold nearI;rw [if_pos hb]
  rw [e]
  go_enter Tryz.func233,Tryz.ntmps233
  go_wp2
  go_ret
  exact ⟨rfl,0,rfl⟩
 ·have t5:decide ((24:Int)<(c:Int))=false:=zA (by omega)
  obtain ⟨i,hi⟩:∃ i,c=i+1:=⟨c-1,by omega⟩
  subst hi
  have aa:i<24:=by omega
  obtain ⟨p0,p1,p2,p3⟩:=pt_ok i
  have e:nearI (i+1) W=max (ptY i*W+ptX i) 1:=by unfold nearI;rw [if_neg hb];rfl
  have cx:=h.px i aa
  have cy:=h.py i aa
  rw [e]
  have e1:((i+1:Nat):Int)-1=(i:Int):=by omega
  generalize ptX i=x at *
  generalize ptY i=y at *
  obtain ⟨m,hm⟩:=zX (y*(W:Int))
  have ad:0<=m:=by rw [hm];exact Int.mul_nonneg p2 (by omega)
  have ab:m<=256:=by rw [hm];exact Int.mul_le_mul (c:=4) (d:=64) p3 (by omega) (by omega) (by omega)
  rw [<-hm]
  have ac:y*(W:Int)=m:=hm.symm
  clear e hm hb
  go_enter Tryz.func233,Tryz.ntmps233
  go_wp2_with fail
  go_quiet (fail)
  go_wp2_with fail
  all_goals
   go_ret
   exact ⟨congrArg (fun z=>Ending.returned (.int .i64 z)) (show _=max (m+x) 1 by omega),nq,rfl⟩
theorem mcode_ok (d W:Nat) (w:World) (h:Pts w) (h0:1<=d) (h1:d<=1024) (hw0:1<=W) (hw1:W<=64) :
  Calls Tryz.prog 183 #[.int .i64 d,.int .i64 W] w fun e w'=>e=.returned (.int .i64 (codeN d W))/\∃ n,w'=w.drewN n:=by
 have t1:decide ((d:Int)<1)=false:=zA (by omega)
 have t2:decide ((1024:Int)<(d:Int))=false:=zA (by omega)
 have t3:decide ((W:Int)<1)=false:=zA (by omega)
 have t4:decide ((64:Int)<(W:Int))=false:=zA (by omega)
 have hd:codeN d W=codeFrom d W 24 1:=rfl
 have hn:=fun c (n:Nat) (a:1<=c) (b:c<=1048)=>mnear_ok c W (w.drewN n) (h.same ((zR [] w).drewN n)) a b hw0 hw1
 have HD:=hid hd
 have HN:=hid hn
 clear hd hn h
 go_enter Tryz.func183,Tryz.ntmps183
 go_wp2_with fail
 go_loopg [5] 24 (fun j iv wr=>∃ c n:Nat,iv=.int .i64 c/\c+j=25/\1<=c/\codeN d W=codeFrom d W j c/\wr=w.drewN n)
 case atStart=>exact ⟨1,0,rfl,rfl,zQ _,HD.out,rfl⟩
 case round =>
  obtain ⟨c,n,rfl,hj,ae,ab,rfl⟩:=hrel
  rcases gk with _ | j
  ·have t5:decide ((c:Int)<=24)=false:=zA (by omega)
   go_wp2
   go_ret
   rw [ab]
   exact ⟨congrArg (fun z=>Ending.returned (.int .i64 z)) (show (d:Int)+24=((d+24:Nat):Int) by omega),n,rfl⟩
  ·have t5:decide ((c:Int)<=24)=true:=zB (by omega)
   have ac:=HN.out c n ae (by omega)
   have af:=nearI_ok (c:=c) (W:=W) (by omega) hw1
   have aa:codeFrom d W (j+1) c=if nearI c W=d then c else codeFrom d W j (c+1):=rfl
   generalize nearI c W=nr at *
   by_cases hq:nr=(d:Int)
   ·have t6:(nr==(d:Int))=true:=by simpa using hq
    rw [if_pos hq] at aa
    have HQ:=hid aa
    clear hq aa
    go_wp2_with fail
    refine ac.mono ?_
    rintro e w' ⟨rfl,k,rfl⟩
    go_wp2_with fail
    go_ret
    rw [ab,HQ.out]
    exact ⟨rfl,n+k,by first | rfl | rw [World.drewN_drewN]⟩
   ·have t6:(nr==(d:Int))=false:=by simpa using hq
    rw [if_neg hq] at aa
    have HQ:=hid aa
    have ad:=hid ab
    clear hq aa ab
    go_wp2_with fail
    refine ac.mono ?_
    rintro e w' ⟨rfl,k,rfl⟩
    go_wp2_with fail
    go_roundg j
    case measure=>omega
    case rel =>
     exact ⟨c+1,n+k,by go_num,by omega,by omega,by rw [ad.out,HQ.out],by first | rfl | rw [World.drewN_drewN]⟩
theorem isLit_ok (t:Tok) (w:World):Calls Tryz.prog 181 #[tokV t] w fun e w'=>e=.returned (.bool t.isLit)/\Chg [] w w':=by
 obtain ⟨a,b,c⟩:=t
 have e:Tok.isLit ⟨a,b,c⟩=((a:Int)==0&&(b:Int)==0):=by
  unfold Tok.isLit
  rw [Bool.eq_iff_iff]
  simp
 rw [e]
 have ch:Chg [] w w:=zR _ _
 have HC:Hid (∀ o,Chg [] w (w.alloc o)):=hid fun o=>(zR [] w).alloc o
 show Calls _ _ #[.agg #[.int .i64 a,.int .i64 b,.int .i64 c]] _ _
 by_cases ha:(a:Int)=0
 ·have t1:((a:Int)==0)=true:=by simpa using ha
  go_enter Tryz.func181,Tryz.ntmps181
  go_wp2_with fail
  go_ret
  refine ⟨?_,HC.out _⟩
  rw [ha]
  rfl
 ·have t1:((a:Int)==0)=false:=by simpa using ha
  go_enter Tryz.func181,Tryz.ntmps181
  go_wp2_with fail
  go_ret
  refine ⟨?_,HC.out _⟩
  rw [t1]
  rfl
theorem isCopy_ok (t:Tok) (w:World) (h:t.isCopy=true):Calls Tryz.prog 232 #[tokV t] w fun e w'=>e=.returned (.bool true)/\Chg [] w w':=by
 rw [Tok.isCopy_iff] at h
 obtain ⟨a,b,c⟩:=t
 obtain ⟨h1,h2,h3,h4,h5⟩:=h
 simp only at h1 h2 h3 h4 h5
 subst h5
 have t1:decide ((3:Int)<=(a:Int))=true:=zB (by omega)
 have t2:decide ((a:Int)<=64)=true:=zB (by omega)
 have t3:decide ((1:Int)<=(b:Int))=true:=zB (by omega)
 have t4:decide ((b:Int)<=1024)=true:=zB (by omega)
 have HC:Hid (∀ o,Chg [] w (w.alloc o)):=hid fun o=>(zR [] w).alloc o
 show Calls _ _ #[.agg #[.int .i64 a,.int .i64 b,.int .i64 0]] _ _
 go_enter Tryz.func232,Tryz.ntmps232
 go_wp2_with fail
 go_ret
 exact ⟨rfl,HC.out _⟩
def Toks (w:World) (A:Option Addr) (l:List Tok):Prop:=Cells (fun u=>u) w A (l.flatMap tokCells)
theorem Toks.at_ {w:World} {A:Option Addr} {l:List Tok} (h:Toks w A l) {m:Nat} {t:Tok} (hm:l[m]?=some t) :
  ∃ g o,A=some ⟨g,o,none⟩/\w.cell? ⟨g,o+m*3,none⟩=some (.int .i64 t.len)/\w.cell? ⟨g,o+m*3+1,none⟩=some (.int .i64 t.dist)/\w.cell? ⟨g,o+m*3+2,none⟩=some (.int .i64 t.lit):=by
 obtain ⟨a,b,c⟩:=tok_flat_get hm
 have h0:=(List.getElem?_eq_some_iff.1 a).1
 obtain ⟨g,o,rfl,_,hc⟩:=h.ex (by omega)
 exact ⟨g,o,rfl,hc _ _ a,hc _ _ b,hc _ _ c⟩
theorem Toks.chg {w w':World} {A:Option Addr} {l:List Tok} {F:List Nat} (h:Toks w A l) (hc:Chg F w w') (hA:∀ ad,A=some ad->ad.block∉F):Toks w' A l:=Cells.chg h hc hA
theorem Toks.same {w w':World} {A:Option Addr} {l:List Tok} (h:Toks w A l) (hc:Chg [] w w'):Toks w' A l:=Cells.same h hc
theorem may_ok (l:List Tok) (A:Option Addr) (cap:Nat) (w:World) (hl:l.length<=1099511627776) (hok:∀ t∈l,t.ok) (hc:Toks w A l) :
  Calls Tryz.prog 180 #[.slice A l.length cap] w fun e w'=>e=.returned (.bool true)/\Chg [] w w':=by
 obtain ⟨n,hn⟩:=zX (l.length)
 rw [<-hn] at hl ⊢
 have HN:=hid hn
 have HK:=hid hok
 clear hn hok
 go_enter Tryz.func180,Tryz.ntmps180
 go_wp2_with fail
 go_loopg [7] n (fun j iv wr=>∃ i:Nat,iv=.int .i64 i/\i+j=n/\Chg [] w wr)
 case atStart=>exact ⟨0,rfl,by omega,zR _ _⟩
 case round =>
  obtain ⟨i,rfl,hj,ag⟩:=hrel
  rcases gk with _ | j
  ·obtain rfl:i=n:=by omega
   go_wp2
   go_ret
   exact ⟨rfl,ag⟩
  ·have am:i<n:=by omega
   have af:i<l.length:=by rw [<-HN.out];exact am
   have ac:=HK.out l[i] (zG af)
   obtain ⟨t,ht⟩:=zX (l[i])
   have aa:l[i]?=some t:=by rw [ht];exact zF af
   rw [<-ht] at ac
   obtain ⟨g,o,rfl,c1,c2,c3⟩:=(hc.same ag).at_ aa
   have ab:=fun w=>isLit_ok t w
   have ak:=fun w h=>isCopy_ok t w h
   have aj:tokV t=.agg #[.int .i64 t.len,.int .i64 t.dist,.int .i64 t.lit]:=rfl
   unfold Tok.ok at ac
   rw [aj] at ab ak
   generalize t.len=ta at *
   generalize t.dist=tb at *
   generalize t.lit=tc at *
   clear aa ht af aj
   have hb:=Blk.new wr 211 #[.int .i64 ta,.int .i64 tb,.int .i64 tc]
   have al:=(zR [] wr).alloc (.cells #[.int .i64 ta,.int .i64 tb,.int .i64 tc] 211)
   go_wp2_with fail
   refine (ab _).mono ?_
   rintro e w2 ⟨rfl,ah⟩
   have ae:=hb.chg ah (by simp)
   have b0:=ae.cell 0
   have b1:=ae.cell 1
   have b2:=ae.cell 2
   simp only [List.size_toArray,zK,List.length_nil,List.getElem?_toArray,List.getElem?_cons_zero,List.getElem?_cons_succ] at b0 b1 b2
   have ai:=ag.trans_same (al.trans_same ah)
   cases hlt:t.isLit with
   | true =>
    go_wp2_with fail
    go_roundg j
    case measure=>omega
    case rel=>exact ⟨i+1,by go_num,by omega,ai⟩
   | false =>
    rw [hlt] at ac
    have ad:t.isCopy=true:=by rcases ac with h | h;cases h;exact h
    go_wp2_with fail
    refine (ak _ ad).mono ?_
    rintro e w3 ⟨rfl,an⟩
    go_wp2_with fail
    go_roundg j
    case measure=>omega
    case rel=>exact ⟨i+1,by go_num,by omega,ai.trans_same an⟩
theorem pow_d {d:Nat} (h0:1<=d) (h1:d<=16):(2:Int)<=2^d/\(2:Int)^d<=65536:=by
 have e0:(2:Int)^1<=2^d:=by
  have:=Nat.pow_le_pow_right (n:=2) (by decide) h0
  exact_mod_cast this
 have e1:(2:Int)^d<=2^16:=by
  have:=Nat.pow_le_pow_right (n:=2) (by decide) h1
  exact_mod_cast this
 omega
theorem wrap_ok (v:Int) (d:Nat) (w:World) (h0:1<=d) (h1:d<=16):Calls Tryz.prog 102 #[.int .i64 v,.int .i64 d] w fun e w'=>e=.returned (.int .i64 (wrapI v d))/\w=w':=by
 have t1:decide ((d:Int)<1)=false:=zA (by omega)
 have t2:decide ((16:Int)<(d:Int))=false:=zA (by omega)
 obtain ⟨ab,aa⟩:=pow_d h0 h1
 have hm:=band_mask v (i:=d) (by omega)
 have HM:=hid hm
 clear hm
 go_enter Tryz.func102,Tryz.ntmps102
 go_wp2
 go_ret
 refine ⟨?_,rfl⟩
 first | exact congrArg (fun z=>Ending.returned (.int .i64 z)) HM.out
theorem fold_ok (v:Int) (d:Nat) (w:World) (h0:1<=d) (h1:d<=16):Calls Tryz.prog 103 #[.int .i64 v,.int .i64 d] w fun e w'=>e=.returned (.int .i64 (foldI v d))/\w=w':=by
 have t1:decide ((d:Int)<1)=false:=zA (by omega)
 have t2:decide ((16:Int)<(d:Int))=false:=zA (by omega)
 obtain ⟨af,ae⟩:=pow_d h0 h1
 have hh:=two_pow_half h0
 have ad:=two_pow_pos' (d-1)
 have hw:=wrap_ok v d w h0 h1
 have ab:=wrapI_lo v d
 have ac:=wrapI_hi v d
 have aa:foldI v d=if 2^(d-1)<=wrapI v d then wrapI v d-2^d else wrapI v d:=rfl
 obtain ⟨u,hu⟩:=zX (wrapI v d)
 rw [<-hu] at hw ab ac aa
 have HD:=hid aa
 have e1:(2:Int)^((d:Int)-1).toNat=2^(d-1):=by congr 1;omega
 have ag:(2:Int)^(d-1)<=32768:=by omega
 clear aa hu hh
 by_cases hs:2^(d-1)<=u
 ·have t3:decide ((2:Int)^(d-1)<=u)=true:=by simpa using hs
  rw [if_pos hs] at HD
  go_enter Tryz.func103,Tryz.ntmps103
  go_wp2_with (go_at_call 102;refine hw.mono ?_;rintro e w' ⟨rfl,rfl⟩)
  go_ret
  rw [HD.out]
  exact ⟨rfl,rfl⟩
 ·have t3:decide ((2:Int)^(d-1)<=u)=false:=by simpa using hs
  rw [if_neg hs] at HD
  go_enter Tryz.func103,Tryz.ntmps103
  go_wp2_with (go_at_call 102;refine hw.mono ?_;rintro e w' ⟨rfl,rfl⟩)
  go_ret
  rw [HD.out]
  exact ⟨rfl,rfl⟩
def midP (x:Int):Prop:=-1152921504606846976<=x/\x<=1152921504606846976
theorem dist_ok (a b:Int) (w:World) (ha:midP a) (hb:midP b):Calls Tryz.prog 268 #[.int .i64 a,.int .i64 b] w fun e w'=>e=.returned (.int .i64 (distI a b))/\w=w':=by
 obtain ⟨a1,a2⟩:=ha
 obtain ⟨b1,b2⟩:=hb
 by_cases h:a<b
 ·have t1:decide (a<b)=true:=zB h
  have hd:distI a b=b-a:=by unfold distI;rw [if_pos h]
  have HD:=hid hd
  clear hd
  go_enter Tryz.func268,Tryz.ntmps268
  go_wp2
  go_ret
  rw [HD.out]
  exact ⟨rfl,rfl⟩
 ·have t1:decide (a<b)=false:=zA h
  have hd:distI a b=a-b:=by unfold distI;rw [if_neg h]
  have HD:=hid hd
  clear hd
  go_enter Tryz.func268,Tryz.ntmps268
  go_wp2
  go_ret
  rw [HD.out]
  exact ⟨rfl,rfl⟩
theorem nearest_ok (t a b c:Int) (B:Nat) (cap:Nat) (w:World) (ht:midP t) (ha:midP a) (hb:midP b) (hc:midP c) (h0:w.cell? ⟨B,0,none⟩=some (.int .i64 a)) (h1:w.cell? ⟨B,1,none⟩=some (.int .i64 b)) (h2:w.cell? ⟨B,2,none⟩=some (.int .i64 c)) :
  Calls Tryz.prog 266 #[.int .i64 t,.slice (some ⟨B,0,none⟩) 3 cap] w fun e w'=>e=.returned (.int .i64 (nearest3 t a b c))/\w=w':=by
 obtain ⟨b1,ac⟩:=zX (if distI b t<distI a t then b else a)
 have aa:nearest3 t a b c=if distI c t<distI b1 t then c else b1:=by rw [ac];rfl
 have ab:midP b1:=by rw [ac];split<;>assumption
 have ca:=dist_ok a t w ha ht
 have cb:=dist_ok b t w hb ht
 have cc:=dist_ok c t w hc ht
 have ad:=dist_ok b1 t w ab ht
 have HD:=hid aa
 have HB:=hid ac
 obtain ⟨da,ah⟩:=zX (distI a t)
 obtain ⟨db,af⟩:=zX (distI b t)
 obtain ⟨dc,ag⟩:=zX (distI c t)
 obtain ⟨d1,ae⟩:=zX (distI b1 t)
 rw [<-ah] at ca HB
 rw [<-af] at cb HB
 rw [<-ag] at cc HD
 rw [<-ae] at ad HD
 clear aa ac ah af ag ae ab ht ha hb hc
 go_enter Tryz.func266,Tryz.ntmps266
 go_wp2_with fail
 go_loopg [5,13] 3 (fun j bv iv wr=>w=wr/\((j=3/\iv=.int .i64 0/\bv=.int .i64 a)\/(j=2/\iv=.int .i64 1/\bv=.int .i64 a)\/(j=1/\iv=.int .i64 2/\bv=.int .i64 b1)\/(j=0/\iv=.int .i64 3/\bv=.int .i64 (nearest3 t a b c))))
 case atStart=>exact ⟨rfl,.inl ⟨rfl,rfl,rfl⟩⟩
 case round =>
  obtain ⟨rfl,hrel⟩:=hrel
  rcases hrel with ⟨rfl,rfl,rfl⟩ | ⟨rfl,rfl,rfl⟩ | ⟨rfl,rfl,rfl⟩ | ⟨rfl,rfl,rfl⟩
  ·go_wp2_with (go_at_call 268;refine ca.mono ?_;rintro e w' ⟨rfl,rfl⟩)
   go_roundg 2
   case measure=>omega
   case rel=>exact ⟨rfl,.inr (.inl ⟨rfl,rfl,rfl⟩)⟩
  ·by_cases hlt:db<da
   ·have t1:decide (db<da)=true:=zB hlt
    rw [if_pos hlt] at HB
    go_wp2_with (first | (go_at_call 268;((with_reducible refine cb.mono ?_);rintro e w' ⟨rfl,rfl⟩)) | (go_at_call 268;((with_reducible refine ca.mono ?_);rintro e w' ⟨rfl,rfl⟩)))
    go_roundg 1
    case measure=>omega
    case rel=>exact ⟨rfl,.inr (.inr (.inl ⟨rfl,rfl,by rw [HB.out]⟩))⟩
   ·have t1:decide (db<da)=false:=zA hlt
    rw [if_neg hlt] at HB
    go_wp2_with (first | (go_at_call 268;((with_reducible refine cb.mono ?_);rintro e w' ⟨rfl,rfl⟩)) | (go_at_call 268;((with_reducible refine ca.mono ?_);rintro e w' ⟨rfl,rfl⟩)))
    go_roundg 1
    case measure=>omega
    case rel=>exact ⟨rfl,.inr (.inr (.inl ⟨rfl,rfl,by rw [HB.out]⟩))⟩
  ·by_cases hlt:dc<d1
   ·have t1:decide (dc<d1)=true:=zB hlt
    rw [if_pos hlt] at HD
    go_wp2_with (first | (go_at_call 268;((with_reducible refine cc.mono ?_);rintro e w' ⟨rfl,rfl⟩)) | (go_at_call 268;((with_reducible refine ad.mono ?_);rintro e w' ⟨rfl,rfl⟩)))
    go_roundg 0
    case measure=>omega
    case rel=>exact ⟨rfl,.inr (.inr (.inr ⟨rfl,rfl,by rw [HD.out]⟩))⟩
   ·have t1:decide (dc<d1)=false:=zA hlt
    rw [if_neg hlt] at HD
    go_wp2_with (first | (go_at_call 268;((with_reducible refine cc.mono ?_);rintro e w' ⟨rfl,rfl⟩)) | (go_at_call 268;((with_reducible refine ad.mono ?_);rintro e w' ⟨rfl,rfl⟩)))
    go_roundg 0
    case measure=>omega
    case rel=>exact ⟨rfl,.inr (.inr (.inr ⟨rfl,rfl,by rw [HD.out]⟩))⟩
  ·go_wp2
   go_ret
   exact ⟨rfl,rfl⟩
theorem isPlane_yes (l:List Int) (A:Option Addr) (cap W H d:Nat) (w:World) (hw0:1<=W) (hw1:W<=64) (hh0:1<=H) (hh1:H<=64) (h0:1<=d) (h1:d<=16) (hl:l.length=W*H) (hs:SmpOk d l) (hc:Cells vi w A l) :
  Calls Tryz.prog 216 #[.slice A l.length cap,.int .i64 W,.int .i64 H,.int .i64 d] w fun e w'=>e=.returned (.bool true)/\w=w':=by
 have t1:decide ((W:Int)<1)=false:=zA (by omega)
 have t2:decide ((64:Int)<(W:Int))=false:=zA (by omega)
 have t3:decide ((H:Int)<1)=false:=zA (by omega)
 have t4:decide ((64:Int)<(H:Int))=false:=zA (by omega)
 have t5:decide ((d:Int)<1)=false:=zA (by omega)
 have t6:decide ((16:Int)<(d:Int))=false:=zA (by omega)
 obtain ⟨aj,ai⟩:=pow_d h0 h1
 obtain ⟨m,hm⟩:=zX (l.length)
 rw [<-hm] at hl ⊢
 have ah:(W:Int)*(H:Int)=(m:Int):=by rw [hl];simp
 have t7:((m:Int) != (m:Int))=false:=by simp
 have an:m<=4096:=by rw [hl];exact zL hw1 hh1
 have HN:=hid hm
 have HS:=hid hs
 clear hm hl hs
 go_enter Tryz.func216,Tryz.ntmps216
 go_wp2_with fail
 go_loopg [41] m (fun j i wr=>j<=m/\i=.int .i64 ((m-j:Nat):Int)/\w=wr)
 case atStart=>exact ⟨zQ _,by simp,rfl⟩
 case round =>
  obtain ⟨hj,rfl,rfl⟩:=hrel
  rcases gk with _ | j
  ·have t8:decide (((m-0:Nat):Int)<(m:Int))=false:=by simp
   go_wp2
   go_ret
   exact ⟨rfl,rfl⟩
  ·obtain ⟨i,ad⟩:=zX (m-(j+1))
   rw [<-ad]
   have ag:i<m:=by omega
   have ac:m-j=i+1:=by omega
   have HI:=hid ac
   clear ad ac
   have af:i<l.length:=by rw [<-HN.out];exact ag
   obtain ⟨g,o,rfl,aa⟩:=hc.at_ af
   have hx:=HS.out l[i] (zG _)
   obtain ⟨x,ae⟩:=zX (l[i])
   rw [<-ae] at aa hx
   have ab:w.cell? ⟨g,o+i,none⟩=some (.int .i64 x):=aa
   obtain ⟨am,al⟩:=hx
   have t9:decide (x<0)=false:=zA (by omega)
   have ak:decide ((2:Int)^d<=x)=false:=zA (by omega)
   clear aa ae af
   go_wp2
   go_roundg j
   case measure=>omega
   case rel =>
    rw [HI.out]
    exact ⟨by omega,by go_num,rfl⟩
theorem areKinds_yes (ks:List Nat) (A:Option Addr) (cap:Nat) (w:World) (hks:∀ k∈ks,k<10) (hl:ks.length<=64) (hc:Cells i64 w A ks) :
  Calls Tryz.prog 219 #[.slice A ks.length cap,.int .i64 ks.length] w fun e w'=>e=.returned (.bool true)/\w=w':=by
 obtain ⟨m,hm⟩:=zX (ks.length)
 rw [<-hm] at hl ⊢
 have t7:((m:Int) != (m:Int))=false:=by simp
 have HN:=hid hm
 have HS:=hid hks
 clear hm hks
 go_enter Tryz.func219,Tryz.ntmps219
 go_wp2_with fail
 go_loopg [13] m (fun j i wr=>j<=m/\i=.int .i64 ((m-j:Nat):Int)/\w=wr)
 case atStart=>exact ⟨zQ _,by simp,rfl⟩
 case round =>
  obtain ⟨hj,rfl,rfl⟩:=hrel
  rcases gk with _ | j
  ·have t8:decide (((m-0:Nat):Int)<(m:Int))=false:=by simp
   go_wp2
   go_ret
   exact ⟨rfl,rfl⟩
  ·obtain ⟨i,ad⟩:=zX (m-(j+1))
   rw [<-ad]
   have ag:i<m:=by omega
   have ac:m-j=i+1:=by omega
   have HI:=hid ac
   clear ad ac
   have af:i<ks.length:=by rw [<-HN.out];exact ag
   obtain ⟨g,o,rfl,aa⟩:=hc.at_ af
   have hx:=HS.out ks[i] (zG _)
   obtain ⟨x,ae⟩:=zX (ks[i])
   rw [<-ae] at aa hx
   have ab:w.cell? ⟨g,o+i,none⟩=some (.int .i64 x):=aa
   have t9:decide ((x:Int)<0)=false:=zA (by omega)
   have ah:decide ((10:Int)<=(x:Int))=false:=zA (by omega)
   clear aa ae af
   go_wp2
   go_roundg j
   case measure=>omega
   case rel =>
    rw [HI.out]
    exact ⟨by omega,by go_num,rfl⟩
theorem Cells.vi_getD {w:World} {b o:Nat} {l:List Int} (hc:∀ (i:Nat) (a:Int),l[i]?=some a->w.cell? ⟨b,o+i,none⟩=some (vi a)) {m:Nat} (hm:m<l.length):w.cell? ⟨b,o+m,none⟩=some (.int .i64 (l.getD m 0)):=by
 have:=hc m l[m] (zF hm)
 rw [this,zD,zF hm]
 rfl
theorem near_ok (l:List Int) (A:Option Addr) (cap W x y:Nat) (w:World) (hw0:1<=W) (hw1:W<=64) (hx:x<W) (hy:y<64) (hl:y*W+x<=l.length) (hc:Cells vi w A l) (hlm:l.length<=1099511627776) :
  Calls Tryz.prog 212 #[.slice A l.length cap,.int .i64 W,.int .i64 x,.int .i64 y] w fun e w'=>e=.returned (.tuple #[.int .i64 (nbr l W x y).w,.int .i64 (nbr l W x y).n,.int .i64 (nbr l W x y).nw,.int .i64 (nbr l W x y).ne])/\∃ n,w'=w.drewN n:=by
 have t1:decide ((W:Int)<1)=false:=zA (by omega)
 have t2:decide ((64:Int)<(W:Int))=false:=zA (by omega)
 have t3:decide ((x:Int)<0)=false:=zA (by omega)
 have t4:decide (W<=x)=false:=zA (by omega)
 have t5:decide ((y:Int)<0)=false:=zA (by omega)
 have t6:decide ((64:Int)<=(y:Int))=false:=zA (by omega)
 obtain ⟨m,hm⟩:=zX (l.length)
 obtain ⟨yw,ao⟩:=zX (y*W)
 obtain ⟨p,hp⟩:=zX (y*W+x)
 have aD:(y:Int)*(W:Int)=(yw:Int):=by rw [ao];simp
 have aK:(yw:Int)+(x:Int)=(p:Int):=by rw [hp,ao];simp
 have af:=fun (h:0<l.length)=>hc.ex h
 have al:nbr l W x y=if y=0 then (if x=0 then ⟨0,0,0,0⟩ else ⟨l.getD (p-1) 0,l.getD (p-1) 0,l.getD (p-1) 0,l.getD (p-1) 0⟩)
   else ⟨if 0<x then l.getD (p-1) 0 else l.getD (p-W) 0,l.getD (p-W) 0,if 0<x then l.getD (p-W-1) 0 else l.getD (p-W) 0,if x<W-1 then l.getD (p-W+1) 0 else l.getD (p-W) 0⟩:=by
  unfold nbr;rw [<-hp]
 have ax:y≠0->W<=y*W:=fun h=>le_mul_pos h
 rw [<-hp] at hl
 rw [<-ao] at ax hp
 rw [<-hm] at hl hlm ⊢
 have t7:decide ((m:Int)<(p:Int))=false:=zA (by omega)
 have aL:decide (m<p)=false:=zA (by omega)
 have HD:=hid al
 have HM:=hid hm
 have HC:=hid af
 have aB:=hid ax
 have HP:=hid hp
 clear al hm af ao hp hc ax
 by_cases hy0:y=0
 ·have t8:((y:Int)==0)=true:=by rw [beq_iff_eq];omega
  rw [if_pos hy0] at HD
  by_cases hx0:x=0
  ·have t9:((x:Int)==0)=true:=by rw [beq_iff_eq];omega
   rw [if_pos hx0] at HD
   clear hy0 hx0
   go_enter Tryz.func212,Tryz.ntmps212
   go_wp2
   refine bodyPost_ret (v:=.tuple #[.int .i64 0,.int .i64 0,.int .i64 0,.int .i64 0]) (by simp [results,Tryz.results212,go_sem]) rfl ⟨by rw [HD.out],0,rfl⟩
  ·have t9:((x:Int)==0)=false:=by rw [beq_eq_false_iff_ne];omega
   rw [if_neg hx0] at HD
   have aJ:1<=p:=by have:=HP.out;omega
   obtain ⟨p1,ab⟩:=zX (p-1)
   have av:(p:Int)-1=(p1:Int):=by omega
   rw [<-ab] at HD
   have ag:p1<m:=by omega
   obtain ⟨b,o,rfl,_,ac⟩:=HC.out (by rw [<-HM.out];omega)
   have hv:=Cells.vi_getD ac (m:=p1) (by rw [<-HM.out];exact ag)
   obtain ⟨v,ay⟩:=zX (l.getD p1 0)
   rw [<-ay] at hv HD
   clear hy0 hx0 ac ay ab
   go_enter Tryz.func212,Tryz.ntmps212
   go_wp2
   refine bodyPost_ret (v:=.tuple #[.int .i64 v,.int .i64 v,.int .i64 v,.int .i64 v]) (by simp [results,Tryz.results212,go_sem]) rfl ⟨by rw [HD.out],0,rfl⟩
 ·have t8:((y:Int)==0)=false:=by rw [beq_eq_false_iff_ne];omega
  rw [if_neg hy0] at HD
  have hW:=aB.out hy0
  have ap:=HP.out
  obtain ⟨q,hq⟩:=zX (p-W)
  have aM:(p:Int)-(W:Int)=(q:Int):=by omega
  rw [<-hq] at HD
  have aE:q<m:=by omega
  obtain ⟨b,o,rfl,_,ac⟩:=HC.out (by rw [<-HM.out];omega)
  have aA:=Cells.vi_getD ac (m:=q) (by rw [<-HM.out];exact aE)
  obtain ⟨vn,ad⟩:=zX (l.getD q 0)
  rw [<-ad] at aA HD
  obtain ⟨q2,am⟩:=zX (q+1)
  have aC:(q:Int)+1=(q2:Int):=by omega
  rw [<-am] at HD
  obtain ⟨W1,an⟩:=zX (W-1)
  have aH:(W:Int)-1=(W1:Int):=by omega
  rw [<-an] at HD
  by_cases hx0:0<x
  ·have t9:decide ((0:Int)<(x:Int))=true:=zB (by omega)
   have aI:decide (0<x)=true:=zB hx0
   rw [if_pos hx0,if_pos hx0] at HD
   obtain ⟨p1,ab⟩:=zX (p-1)
   have av:(p:Int)-1=(p1:Int):=by omega
   obtain ⟨q1,ah⟩:=zX (q-1)
   have aF:(q:Int)-1=(q1:Int):=by omega
   rw [<-ab,<-ah] at HD
   have ag:p1<m:=by omega
   have au:q1<m:=by omega
   have aG:=Cells.vi_getD ac (m:=p1) (by rw [<-HM.out];exact ag)
   have ar:=Cells.vi_getD ac (m:=q1) (by rw [<-HM.out];exact au)
   obtain ⟨vw,ak⟩:=zX (l.getD p1 0)
   obtain ⟨az,ae⟩:=zX (l.getD q1 0)
   rw [<-ak] at aG HD
   rw [<-ae] at ar HD
   by_cases hx1:x<W1
   ·have aw:decide (x<W1)=true:=zB hx1
    rw [if_pos hx1] at HD
    have ai:q2<m:=by omega
    have aj:=Cells.vi_getD ac (m:=q2) (by rw [<-HM.out];exact ai)
    obtain ⟨aq,aa⟩:=zX (l.getD q2 0)
    rw [<-aa] at aj HD
    clear hy0 hx0 ac aa ad ak ae ab ah hq am an ap
    go_enter Tryz.func212,Tryz.ntmps212
    go_wp2
    go_quiet (fail)
    go_wp2
    refine bodyPost_ret (v:=.tuple #[.int .i64 vw,.int .i64 vn,.int .i64 az,.int .i64 aq]) (by simp [results,Tryz.results212,go_sem]) rfl ⟨by rw [HD.out],_,rfl⟩
   ·have aw:decide (x<W1)=false:=zA hx1
    rw [if_neg hx1] at HD
    clear hy0 hx0 ac ad ak ae ab ah hq am an ap
    go_enter Tryz.func212,Tryz.ntmps212
    go_wp2
    go_quiet (fail)
    go_wp2
    refine bodyPost_ret (v:=.tuple #[.int .i64 vw,.int .i64 vn,.int .i64 az,.int .i64 vn]) (by simp [results,Tryz.results212,go_sem]) rfl ⟨by rw [HD.out],_,rfl⟩
  ·have t9:decide ((0:Int)<(x:Int))=false:=zA (by omega)
   have aI:decide (0<x)=false:=zA hx0
   rw [if_neg hx0,if_neg hx0] at HD
   by_cases hx1:x<W1
   ·have aw:decide (x<W1)=true:=zB hx1
    rw [if_pos hx1] at HD
    have ai:q2<m:=by omega
    have aj:=Cells.vi_getD ac (m:=q2) (by rw [<-HM.out];exact ai)
    obtain ⟨aq,aa⟩:=zX (l.getD q2 0)
    rw [<-aa] at aj HD
    clear hy0 hx0 ac aa ad hq am an ap
    go_enter Tryz.func212,Tryz.ntmps212
    go_wp2
    refine bodyPost_ret (v:=.tuple #[.int .i64 vn,.int .i64 vn,.int .i64 vn,.int .i64 aq]) (by simp [results,Tryz.results212,go_sem]) rfl ⟨by rw [HD.out],0,rfl⟩
   ·have aw:decide (x<W1)=false:=zA hx1
    rw [if_neg hx1] at HD
    clear hy0 hx0 ac ad hq am an ap
    go_enter Tryz.func212,Tryz.ntmps212
    go_wp2
    refine bodyPost_ret (v:=.tuple #[.int .i64 vn,.int .i64 vn,.int .i64 vn,.int .i64 vn]) (by simp [results,Tryz.results212,go_sem]) rfl ⟨by rw [HD.out],0,rfl⟩
theorem one_ok (kind:Nat) (g:Nbr) (d:Nat) (w:World) (hk:kind<10) (h0:1<=d) (h1:d<=16) (hg:NbrOk d g) :
  Calls Tryz.prog 213 #[.int .i64 kind,.int .i64 g.w,.int .i64 g.n,.int .i64 g.nw,.int .i64 g.ne,.int .i64 d] w fun e w'=>e=.returned (.int .i64 (guessI kind g d))/\Chg [] w w':=by
 have t1:decide ((kind:Int)<0)=false:=zA (by omega)
 have t2:decide ((10:Int)<=(kind:Int))=false:=zA (by omega)
 have t5:decide ((d:Int)<1)=false:=zA (by omega)
 have t6:decide ((16:Int)<(d:Int))=false:=zA (by omega)
 obtain ⟨ab,ac⟩:=pow_d h0 h1
 obtain ⟨a,b,c,e⟩:=g
 obtain ⟨⟨a1,a2⟩,⟨b1,b2⟩,⟨c1,c2⟩,⟨e1,e2⟩⟩:=hg
 simp only at a1 a2 b1 b2 c1 c2 e1 e2 ⊢
 have u1:decide (a<0)=false:=zA (by omega)
 have u2:decide ((2:Int)^d<=a)=false:=zA (by omega)
 have u3:decide (b<0)=false:=zA (by omega)
 have u4:decide ((2:Int)^d<=b)=false:=zA (by omega)
 have u5:decide (c<0)=false:=zA (by omega)
 have u6:decide ((2:Int)^d<=c)=false:=zA (by omega)
 have u7:decide (e<0)=false:=zA (by omega)
 have u8:decide ((2:Int)^d<=e)=false:=zA (by omega)
 have i0:∀ w,(Instr.index 31 (.agg #[.int .i64 a,.int .i64 b,.int .i64 c,.int .i64 e]) (.int .i64 0)).run Tryz.prog w=.ok (.int .i64 a) w:=fun _=>by kernel_rfl
 have i1:∀ w,(Instr.index 31 (.agg #[.int .i64 a,.int .i64 b,.int .i64 c,.int .i64 e]) (.int .i64 1)).run Tryz.prog w=.ok (.int .i64 b) w:=fun _=>by kernel_rfl
 have i2:∀ w,(Instr.index 31 (.agg #[.int .i64 a,.int .i64 b,.int .i64 c,.int .i64 e]) (.int .i64 2)).run Tryz.prog w=.ok (.int .i64 c) w:=fun _=>by kernel_rfl
 have i3:∀ w,(Instr.index 31 (.agg #[.int .i64 a,.int .i64 b,.int .i64 c,.int .i64 e]) (.int .i64 3)).run Tryz.prog w=.ok (.int .i64 e) w:=fun _=>by kernel_rfl
 go_enter Tryz.func213,Tryz.ntmps213
 go_wp2_with fail
 go_loopg [35] 4 (fun j iv wr=>w=wr/\((j=4/\iv=.int .i64 0)\/(j=3/\iv=.int .i64 1)\/(j=2/\iv=.int .i64 2)\/(j=1/\iv=.int .i64 3)\/(j=0/\iv=.int .i64 4)))
 case atStart=>exact ⟨rfl,.inl ⟨rfl,rfl⟩⟩
 case round =>
  obtain ⟨rfl,hrel⟩:=hrel
  rcases hrel with ⟨rfl,rfl⟩ | ⟨rfl,rfl⟩ | ⟨rfl,rfl⟩ | ⟨rfl,rfl⟩ | ⟨rfl,rfl⟩
  ·go_wp2
   go_roundg 3
   case measure=>omega
   case rel=>exact ⟨rfl,.inr (.inl ⟨rfl,rfl⟩)⟩
  ·go_wp2
   go_roundg 2
   case measure=>omega
   case rel=>exact ⟨rfl,.inr (.inr (.inl ⟨rfl,rfl⟩))⟩
  ·go_wp2
   go_roundg 1
   case measure=>omega
   case rel=>exact ⟨rfl,.inr (.inr (.inr (.inl ⟨rfl,rfl⟩)))⟩
  ·go_wp2
   go_roundg 0
   case measure=>omega
   case rel=>exact ⟨rfl,.inr (.inr (.inr (.inr ⟨rfl,rfl⟩)))⟩
  ·clear i0 i1 i2 i3 u1 u2 u3 u4 u5 u6 u7 u8
   obtain rfl | rfl | rfl | rfl | rfl | rfl | rfl | rfl | rfl | rfl:kind=0\/kind=1\/kind=2\/kind=3\/kind=4\/kind=5\/kind=6\/kind=7\/kind=8\/kind=9:=by omega
   ·go_wp2
    go_ret
    exact ⟨rfl,zR _ _⟩
   ·go_wp2
    go_ret
    exact ⟨rfl,zR _ _⟩
   ·go_wp2
    go_ret
    exact ⟨rfl,zR _ _⟩
   ·go_wp2
    go_ret
    exact ⟨rfl,zR _ _⟩
   ·go_wp2
    go_ret
    exact ⟨rfl,zR _ _⟩
   ·go_wp2
    go_ret
    exact ⟨rfl,zR _ _⟩
   ·have aa:=nearest_ok (a+b-c) a b c w.heap.size 3 (w.alloc (.cells #[.int .i64 a,.int .i64 b,.int .i64 c] 3)) (by unfold midP;omega) (by unfold midP;omega) (by unfold midP;omega) (by unfold midP;omega) (by simp [go_sem]) (by simp [go_sem]) (by simp [go_sem])
    go_wp2_with (go_at_call 266;refine aa.mono ?_;rintro e w' ⟨rfl,rfl⟩)
    go_ret
    exact ⟨rfl,(zR _ _).alloc _⟩
   ·go_wp2
    all_goals
     go_ret
     exact ⟨congrArg (fun z=>Ending.returned (.int .i64 z)) (show _=max (min a b) (min (max a b) (a+b-c)) by omega),zR _ _⟩
   ·go_wp2
    all_goals
     go_ret
     exact ⟨congrArg (fun z=>Ending.returned (.int .i64 z)) (show _=min (max (a+b-c) 0) (2^d-1) by omega),zR _ _⟩
   ·go_wp2
    go_ret
    exact ⟨rfl,zR _ _⟩
theorem Row.zeros (w:World) (n:Nat) (h:n<=1048576):Row (w.alloc (.cells (List.replicate n (Value.int .i64 0)).toArray 3)) 3 (.slice (some ⟨w.heap.size,0,none⟩) n n) w.heap.size ((fillL [] n).map vi):=by
 have:=Row.made w 3 (List.replicate n (Value.int .i64 0)) (by simp [maxLen];omega)
 rw [fillL_nil,List.map_replicate]
 simpa [vi] using this
theorem Row.fill {w:World} {v:Value} {g:Nat} {done:List Int} {n:Nat} (h:Row w 3 v g ((fillL done n).map vi)) (hl:done.length<n) (x:Int) :
  Row (w.setCell ⟨g,done.length,none⟩ (.int .i64 x)) 3 v g ((fillL (done++[x]) n).map vi):=by
 have h1:=h.set_ (i:=done.length) (by rw [zE,fillL_len (by omega)];exact hl) (vi x)
 rw [<-List.map_set,fillL_set hl] at h1
 exact h1
theorem Row.fill_cell {w:World} {v:Value} {g:Nat} {done:List Int} {n:Nat} (h:Row w 3 v g ((fillL done n).map vi)) (hl:done.length<n) :
  w.cell? ⟨g,done.length,none⟩=some (.int .i64 0)/\w.frozen? ⟨g,done.length,none⟩=false:=by
 obtain ⟨aa,h1,h2,h3,h4,h5⟩:=h.open_map
 refine ⟨h4 done.length 0 ?_,h5 _⟩
 unfold fillL
 rw [zS (zQ _),Nat.sub_self,List.getElem?_replicate]
 rw [if_pos (by omega)]
theorem row_ok (l:List Int) (A:Option Addr) (cap W H y d kind:Nat) (w:World) (hw0:1<=W) (hw1:W<=64) (hh1:H<=64) (hy:y<H) (h0:1<=d) (h1:d<=16) (hk:kind<10) (hl:l.length=W*H) (hs:SmpOk d l) (hc:Cells vi w A l) :
  Calls Tryz.prog 218 #[.slice A l.length cap,.int .i64 W,.int .i64 y,.int .i64 d,.int .i64 kind] w fun e w'=>∃ v G,e=.returned v/\Own w' 3 v G ((rowL l W y d kind).map vi)/\Chg [] w w'/\∀ x∈G,w.heap.size<=x:=by
 have aW:=run_make1 (P:=Tryz.prog) int_elem rfl .i64 .i64 W (by omega) (by omega)
 have ad:=fun x (hx:x<W) w hc=>near_ok l A cap W x y w hw0 hw1 hx (by omega) (by
  rw [hl]
  have:(y+1)*W<=H*W:=Nat.mul_le_mul_right W hy
  rw [Nat.add_mul,Nat.one_mul] at this
  rw [zY W H]
  omega) hc (by rw [hl];exact Nat.le_trans (zL hw1 hh1) (by decide))
 have ak:=fun x w=>one_ok kind (nbr l W x y) d w hk h0 h1 (nbr_ok hs W x y)
 have al:∀ x,x<W->y*W+x<l.length:=fun x hx=>by
  rw [hl]
  have:(y+1)*W<=H*W:=Nat.mul_le_mul_right W hy
  rw [Nat.add_mul,Nat.one_mul] at this
  rw [zY W H]
  omega
 have aQ:l.length<=4096:=by rw [hl];exact zL hw1 hh1
 obtain ⟨m,hm⟩:=zX (l.length)
 rw [<-hm] at ad al aQ ⊢
 obtain ⟨yw,ao⟩:=zX (y*W)
 have aM:(y:Int)*(W:Int)=(yw:Int):=by rw [ao];simp
 rw [<-ao] at al
 have HN:=hid ad
 have HO:=hid ak
 have aS:=hid al
 have HS:=hid hs
 have HM:=hid hm
 have aK:=hid ao
 clear ad ak al hs hm hl ao
 go_enter Tryz.func218,Tryz.ntmps218
 go_wp2_with fail
 have ag:=Row.zeros w W (by omega)
 obtain ⟨B,hB⟩:=zX (w.heap.size)
 rw [<-hB] at ag ⊢
 have HB:=hid hB
 have az:Chg [] w (w.alloc (.cells (List.replicate W (Value.int .i64 0)).toArray 3)):=(zR [] w).alloc _
 clear hB
 go_loopg [22] W (fun j iv wr=>∃ done:List Int,iv=.int .i64 done.length/\done.length+j=W/\Hid (done=(List.range done.length).map (restAt l W d kind y))/\Row wr 3 (.slice (some ⟨B,0,none⟩) W W) B ((fillL done W).map vi)/\Chg [] w wr)
 case atStart=>exact ⟨[],rfl,by simp,hid (by simp),ag,az⟩
 case round =>
  obtain ⟨done,rfl,am,Hd,ab,ay⟩:=hrel
  clear ag az
  obtain ⟨m1,aj⟩:=zX (done.length)
  rcases gk with _ | j
  ·rw [<-aj] at am ⊢
   obtain rfl:m1=W:=by omega
   have t1:decide ((m1:Int)<(m1:Int))=false:=by simp
   have ac:=hid aj
   clear aj am
   go_wp2
   go_ret
   refine ⟨_,[B],rfl,?_,ay,fun x hx=>by have:=HB.out;simp at hx;omega⟩
   have e:fillL done m1=rowL l m1 y d kind:=by
    rw [fillL_full ac.out.symm,Hd.out,<-ac.out]
    rfl
   rw [<-e]
   exact ab.toOwn
  ·obtain ⟨aE,aC⟩:=ab.fill_cell (by omega)
   have af:=fun x=>ab.fill (by omega) x
   have ai:∀ x,x=restAt l W d kind y m1->done++[x]=(List.range (m1+1)).map (restAt l W d kind y):=fun x hx=>by
    rw [hx,List.range_succ,zM,aj,<-Hd.out]
    rfl
   rw [<-aj] at am aE aC af ⊢
   have aD:m1<W:=by omega
   have al:=aS.out m1 aD
   have an:=hc.same ay
   obtain ⟨b,o,rfl,a1,aL⟩:=an.ex (by rw [<-HM.out];omega)
   have a3:b≠B:=by
    intro e
    subst e
    obtain ⟨b',o',e',aZ,_⟩:=hc.ex (by rw [<-HM.out];omega)
    injection e' with e'
    injection e' with e' _ _
    have:=HB.out
    omega
   obtain ⟨q,hq⟩:=zX (yw+m1)
   have a2:(yw:Int)+(m1:Int)=(q:Int):=by omega
   have av:=HN.out m1 aD wr an
   have aq:=HO.out m1
   have aa:restAt l W d kind y m1=wrapI (l.getD q 0-guessI kind (nbr l W m1 y) d) d:=by unfold restAt;rw [hq,aK.out]
   have ar:=guessI_ok (nbr_ok HS.out W m1 y) kind
   have aw:=getD_ok HS.out q
   have aR:q<m:=by omega
   obtain ⟨aI,aA⟩:=pow_d h0 h1
   have HP:=hid aA
   obtain ⟨g,hg⟩:=zX (nbr l W m1 y)
   rw [<-hg] at av aq aa ar
   obtain ⟨gs,aF⟩:=zX (guessI kind g d)
   rw [<-aF] at aq aa ar
   obtain ⟨v,hv⟩:=zX (l.getD q 0)
   rw [<-hv] at aa aw
   have aT:=hid ai
   have aG:=hid aa
   have aX:=hid af
   have ap:=hid am
   have ac:=hid aj
   have aB:∀ w',Chg [] wr w'->w'.cell? ⟨b,o+q,none⟩=some (.int .i64 v):=fun w' h'=>by
    obtain ⟨b',o',e',_,au⟩:=(an.same h').ex (by rw [<-HM.out];omega)
    injection e' with e'
    injection e' with e1 e2 _
    subst e1
    subst e2
    rw [Cells.vi_getD au (by rw [<-HM.out];exact aR),<-hv]
   have aV:=hid aB
   have a0 : -65536<=v-gs:=by omega
   have a4:v-gs<=65536:=by omega
   have aO:=hid aw
   clear ai aa af aB hv aF hg aL hq am aj ar an aI aA
   go_wp2_with fail
   refine av.mono ?_
   rintro e w1 ⟨rfl,nq,rfl⟩
   go_wp2_with fail
   refine (aq (wr.drewN nq)).mono ?_
   rintro e w2 ⟨rfl,aN⟩
   have ae:Chg [] wr w2:=((zR [] wr).drewN nq).trans_same aN
   have aU:=aV.out w2 ae
   have aJ:w2.cell? ⟨B,m1,none⟩=some (.int .i64 0):=by
    have:=(ab.chg ae (by simp)).fill_cell (by have:=ap.out;have:=ac.out;omega)
    rw [ac.out]
    exact this.1
   have aP:w2.frozen? ⟨B,m1,none⟩=false:=by
    have:=(ab.chg ae (by simp)).fill_cell (by have:=ap.out;have:=ac.out;omega)
    rw [ac.out]
    exact this.2
   have aH:=wrap_ok (v-gs) d w2 h0 h1
   obtain ⟨rv,ax⟩:=zX (wrapI (v-gs) d)
   rw [<-ax] at aH aG
   have aY:=hid ax
   clear aE aC ax av aq
   have aw:=aO.out
   go_wp2_with fail
   refine aH.mono ?_
   rintro e w3 ⟨rfl,rfl⟩
   go_wp2_with fail
   go_roundg j
   case measure=>omega
   case rel =>
    have ah:=(ab.chg ae (by simp)).fill (by have:=ap.out;have:=ac.out;omega) rv
    refine ⟨done++[rv],?_,?_,hid ?_,?_,?_⟩
    ·rw [zC,List.length_singleton,<-ac.out];go_num
    ·rw [zC,List.length_singleton,<-ac.out];have:=ap.out;omega
    ·rw [zC,List.length_singleton,<-ac.out]
     exact aT.out rv aG.out.symm
    ·rw [<-ac.out] at ah
     exact ah
    ·exact (ay.trans_same ae).setCell (.inr (by have:=HB.out;simp;omega)) _
theorem weight_ok (l:List Int) (A:Option Addr) (cap d:Nat) (w:World) (h0:1<=d) (h1:d<=16) (hl:l.length<=65536) (hc:Cells vi w A l) :
  Calls Tryz.prog 217 #[.slice A l.length cap,.int .i64 d] w fun e w'=>e=.returned (.int .i64 (weightI l d))/\w=w':=by
 obtain ⟨n,hn⟩:=zX (l.length)
 rw [<-hn] at hl ⊢
 have HN:=hid hn
 clear hn
 go_enter Tryz.func217,Tryz.ntmps217
 go_wp2_with fail
 go_loopg [5,10] n (fun j s i wr=>j<=n/\i=.int .i64 ((n-j:Nat):Int)/\s=.int .i64 (weightI (l.take (n-j)) d)/\w=wr)
 case atStart=>exact ⟨zQ _,by simp,by simp [weightI],rfl⟩
 case round =>
  obtain ⟨hj,rfl,rfl,rfl⟩:=hrel
  rcases gk with _ | j
  ·have t4:decide (((n-0:Nat):Int)<(n:Int))=false:=by simp
   have e:l.take n=l:=by rw [HN.out,zN]
   rw [Nat.sub_zero,e]
   go_wp2
   go_ret
   exact ⟨rfl,rfl⟩
  ·obtain ⟨m,ai⟩:=zX (n-(j+1))
   rw [<-ai]
   have ao:m<n:=by omega
   have am:n-j=m+1:=by omega
   have HM:=hid am
   clear ai am
   have ah:m<l.length:=by rw [<-HN.out];exact ao
   obtain ⟨b,o,rfl,aa⟩:=hc.at_ ah
   have ab:=weightI_snoc (l.take m) l[m] d
   rw [<-take_snoc' l ah] at ab
   have ac:=weightI_ok h0 h1 (l.take m)
   rw [zI] at ac
   obtain ⟨x,hx⟩:=zX (l[m])
   rw [<-hx] at aa ab
   have ag:w.cell? ⟨b,o+m,none⟩=some (.int .i64 x):=aa
   obtain ⟨s,hs⟩:=zX (weightI (l.take m) d)
   rw [<-hs] at ab ac ⊢
   have ar:0<=s:=ac.1
   have an:s<=2147483648:=by omega
   have al:=fold_ok x d w h0 h1
   have aj:=foldI_range x h0
   have ha:=absFold_ok h0 h1 x
   have af:absFold d x=distI (foldI x d) 0:=rfl
   obtain ⟨f,hf⟩:=zX (foldI x d)
   rw [<-hf] at al af aj
   have ae:(2:Int)^(d-1)<=2^15:=by
    have:=Nat.pow_le_pow_right (n:=2) (by decide) (show d-1<=15 by omega)
    exact_mod_cast this
   have ad:=dist_ok f 0 w (by unfold midP;omega) (by unfold midP;omega)
   rw [<-af] at ad
   obtain ⟨a,ak⟩:=zX (absFold d x)
   rw [<-ak] at ad ha ab
   obtain ⟨ap,aq⟩:=ha
   have HS:=hid ab
   clear ab aa hx hs ac ah aj af hf ak ae
   go_wp2_with (first | (go_at_call 103;refine al.mono ?_;rintro e w' ⟨rfl,rfl⟩) | (go_at_call 268;refine ad.mono ?_;rintro e w' ⟨rfl,rfl⟩))
   go_roundg j
   case measure=>omega
   case rel =>
    rw [HM.out,HS.out]
    exact ⟨by omega,by go_num,rfl,rfl⟩
end Go.Proofs.YtklocammllljiaaGreatDoor
