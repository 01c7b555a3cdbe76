/- bits.Writer by its contracts: bit, Put, Unary, Len, Bytes. -/
import Derived.Test.YtepjepkgcdfboaaGreatDoorProg
import Derived.Test.YtepjepkgcdfboaaGreatDoorMg02
import Derived.Test.YtepjepkgcdfboaaGreatDoorMg03
import Derived.WalkLawsBesides
import Derived.WalkSpells
import Derived.Handy
import Derived.StillTailTactics
import Derived.Deep.DeepCutAuto
import Derived.Deep.LoopGhost
set_option linter.unusedVariables false
set_option linter.unusedSimpArgs false
set_option maxHeartbeats 4000000
set_option maxRecDepth 100000
namespace Go.Proofs.YtepjepkgcdfboaaGreatDoor
open Go.RowKit
structure IsWr (w:World) (b:Nat) (F:List Nat) (bs:List Nat):Prop where
 ex:∃ v G,Blk w b 89 #[v,.int .i64 bs.length]/\Own w 5 v G ((packed bs).map b8)/\F=b::G
 bit:∀ x∈bs,x<2
theorem IsWr.mem {w:World} {b:Nat} {F bs:List Nat} (h:IsWr w b F bs):b∈F:=by
 obtain ⟨_,_,_,_,rfl⟩:=h.ex
 simp
theorem IsWr.lt {w:World} {b:Nat} {F bs:List Nat} (h:IsWr w b F bs):∀ x∈F,x<w.heap.size:=by
 obtain ⟨_,_,hb,ho,rfl⟩:=h.ex
 intro x hx
 rcases zJ.1 hx with rfl | hx
 ·exact hb.lt
 ·exact ho.lt x hx
theorem IsWr.chg {w w':World} {b:Nat} {F G bs:List Nat} (h:IsWr w b F bs) (hc:Chg G w w') (hd:∀ x∈F,x∉G):IsWr w' b F bs:=by
 obtain ⟨v,K,hb,ho,rfl⟩:=h.ex
 exact ⟨⟨v,K,hb.chg hc (hd b (by simp)),ho.chg hc fun x hx=>hd x (by simp [hx]),rfl⟩,h.bit⟩
theorem IsWr.same {w w':World} {b:Nat} {F bs:List Nat} (h:IsWr w b F bs) (hc:Chg [] w w'):IsWr w' b F bs:=h.chg hc (by simp)
theorem IsWr.new (w:World):IsWr (w.alloc (.cells #[.slice none 0 0,.int .i64 0] 89)) w.heap.size [w.heap.size] [] :=
 ⟨⟨_,[],Blk.new _ _ _,Own.nil _ _,rfl⟩,by simp⟩
theorem u8_elem:Elem Tryz.prog 39 5 (.int .u8 0) 1 1:=.mk' Tryz.underlying39 (by kernel_rfl)
theorem bit_any (w:World) (b:Nat) (F bs:List Nat) (x:Nat) (h:IsWr w b F bs) (hx:x<2) (hlen:bs.length<1099511627776) :
  Calls Tryz.prog 45 #[.pointer (some ⟨b,0,none⟩),.int .u8 x] w fun e w'=>e=.returned (.tuple #[])/\∃ F',IsWr w' b F' (bs++[x])/\Grow F F' w w':=by
 obtain ⟨v,G,hb,ho,rfl⟩:=h.ex
 have ah:=h.bit
 have al:=ho.ne_ hb (by decide)
 have ag:∀ y∈bs++[x],y<2:=by
  intro y hy
  rcases zP.1 hy with hy | hy
  ·exact ah y hy
  ·simp at hy;omega
 obtain ⟨A,aC,rfl,av,aA,-⟩:=ho.open_map
 have aE:(packed bs).length<=137438953472:=by rw [packed_len];omega
 have ak:=hb.cell 0
 have aw:=hb.cell 1
 have aK:=hb.frozen 0
 have ax:=hb.frozen 1
 simp at ak aw
 have HB:=hid ag
 clear ag ah h
 obtain ⟨i,r,hl,aG⟩:∃ i r,bs.length=8*i+r/\r<8:=⟨bs.length / 8,bs.length%8,by omega,by omega⟩
 have e1:(bs.length:Int) / 8=(i:Int):=by omega
 have e2:(bs.length:Int)%8=(r:Int):=by omega
 have HL:=hid hl
 by_cases h8:r=0
 ·subst h8
  have ad:(packed bs).length=i:=by rw [packed_len];omega
  have hi:(i:Int)<1099511627776:=by omega
  have HP:=hid ad
  clear hl ad
  go_enter Tryz.func45,Tryz.ntmps45
  go_wp2_with (at_builtin;refine wpList_append_o1 rfl rfl u8_elem rfl rfl (ho.alloc _) (.int .u8 0) rfl ?c1 ?c2 ?c3 ?c4 ?_)
  case c1=>simp [go_sem]
  case c2=>rfl
  case c3=>simp;omega
  case c4=>simp;omega
  intro g2 aa w2 ao ap
  have ae:g2≠b:=by
   rintro rfl
   rcases ap.new g2 (by simp) with h | h
   ·exact al h
   ·have:=hb.lt;simp at h;omega
  have an:=(hb.alloc (.cells #[.int .u8 0] 5)).chg ap.chg (by simpa using al)
  try simp only [zE] at ao
  try rw [HP.out] at ao
  try simp only [zE]
  try rw [HP.out]
  have ai:=an.cell 0
  have ar:=an.frozen 0
  simp at ai
  clear ak aw aK ax av aA aE
  have aj:=an.set_ 0 (.slice (some ⟨g2,0,none⟩) (i+1) aa)
  have ac:=ao.far (p:=⟨b,0,none⟩) ae (.slice (some ⟨g2,0,none⟩) (i+1) aa)
  have aD:Grow (b::G) [b,g2] w (w2.setCell ⟨b,0,none⟩ (.slice (some ⟨g2,0,none⟩) (i+1) aa)) :=
   (((Grow.refl (b::G) w).alloc _).trans (ap.cons b)).setCell (by simp) _
  go_wp2_with fail
  generalize hw3:w2.setCell ⟨b,0,none⟩ (.slice (some ⟨g2,0,none⟩) (i+1) aa)=w3 at *
  clear ai ar
  have aB:=aj.cell 0
  have ai:=aj.cell 1
  have ar:=aj.frozen 1
  simp at aB ai
  have aF:w3.cell? ⟨g2,i,none⟩=some (.int .u8 0):=by
   obtain ⟨_,_,_,_,h4,_⟩:=ac.open_
   rw [h4 i (by simp [HP.out])]
   rw [zS (by simp [HP.out])]
   simp [HP.out]
  have aJ:w3.frozen? ⟨g2,i,none⟩=false:=by
   obtain ⟨_,_,_,_,_,h4⟩:=ac.open_
   exact h4 i
  refine wp_region_quiet_tail 21 (by kernel_rfl) (by kernel_rfl) ?_
  simp only [List.take_succ_cons,List.take_zero,List.drop_succ_cons,List.drop_zero]
  repeat (go_big_quiet_step (fail))
  refine wpQuiet_nil ?_
  intro _ am
  obtain ⟨nq,rfl⟩:=am
  go_wp2_with fail
  go_end0
  have hv:bits .or .u8 0 ((x:Int)*128)=((x*128:Nat):Int):=by
   have:=bor_u8 (x:=0) (y:=x*128) (by decide) (by omega)
   simpa using this
  rw [hv]
  refine ⟨rfl,[b,g2],⟨⟨.slice (some ⟨g2,0,none⟩) (i+1) aa,[g2],?_,?_,rfl⟩,HB.out⟩,?_⟩
  ·have h1:=((aj.drewN nq).far (p:=⟨g2,i,none⟩) ae.symm (.int .u8 ((x*128:Nat):Int))).set_ 1 (.int .i64 ((bs.length:Int)+1))
   simpa using h1
  ·have h1:=((ac.drewN nq).set_ (i:=i) (by simp [HP.out]) (.int .u8 ((x*128:Nat):Int))).far (p:=⟨b,1,none⟩) ae (.int .i64 ((bs.length:Int)+1))
   have e:(List.map b8 (packed bs)++[Value.int .u8 0]).set i (.int .u8 ((x*128:Nat):Int))=(packed (bs++[x])).map b8:=by
    rw [packed_new (by rw [HL.out];omega),zM,List.set_append_right _ _ (by simp [HP.out])]
    simp [HP.out,b8]
   rw [e] at h1
   exact h1.toOwn
  ·exact ((aD.drewN nq).setCell (p:=⟨g2,i,none⟩) (by simp) _).setCell (p:=⟨b,1,none⟩) (by simp) _
 ·have aI:(r:Int)≠0:=by omega
  have t1:((r:Int)==0)=false:=by rw [beq_eq_false_iff_ne];exact aI
  have ad:(packed bs).length=i+1:=by rw [packed_len];omega
  have HP:=hid ad
  obtain ⟨g2,rfl⟩:∃ g2,A=some ⟨g2,0,none⟩:=by
   obtain ⟨A',aH,h1,_,_,h2,h3⟩:=ho.open_
   injection h1 with h1 _ _
   subst h1
   obtain ⟨b0,o0,h4,_⟩:=h2.ex (by simp [ad])
   obtain ⟨g,h5,_⟩:=h3 _ h4
   exact ⟨g,by rw [h4,h5]⟩
  obtain ⟨ac,rfl⟩:=ho.row rfl
  have ae:g2≠b:=by simpa [eq_comm] using al
  have ay:byteAt bs i<256:=byteAt_lt (fun y hy=>HB.out y (by simp [hy])) i
  have aF:w.cell? ⟨g2,i,none⟩=some (.int .u8 (byteAt bs i)):=by
   obtain ⟨_,_,_,_,h4,_⟩:=ac.open_
   rw [h4 i (by simp [HP.out])]
   have:i<(bs.length+7) / 8:=by omega
   simp [packed,b8,this]
  have aJ:w.frozen? ⟨g2,i,none⟩=false:=by
   obtain ⟨_,_,_,_,_,h4⟩:=ac.open_
   exact h4 i
  rw [ad] at hb ak av
  have aq:=or_bit (b:=x) hl aG hx
  have ab:packed (bs++[x])=(packed bs).set i (byteAt bs i+x*2^(7-r)):=by
   have h1:=packed_in (bs:=bs) (b:=x) (by omega)
   have h2:bs.length / 8=i:=by omega
   have h3:bs.length%8=r:=by omega
   rw [h1,h2,h3]
  have af:=hid ab
  have az:=hid aq
  clear hl ad ab aq
  go_enter Tryz.func45,Tryz.ntmps45
  go_wp2_with fail
  refine wp_region_quiet_tail 21 (by kernel_rfl) (by kernel_rfl) ?_
  simp only [List.take_succ_cons,List.take_zero,List.drop_succ_cons,List.drop_zero]
  repeat (go_big_quiet_step (fail))
  refine wpQuiet_nil ?_
  intro _ am
  obtain ⟨nq,rfl⟩:=am
  go_wp2_with fail
  go_end0
  have aL:2^(7-r)<=128:=Nat.pow_le_pow_right (n:=2) (j:=7) (by decide) (by omega)
  have au:x*2^(7-r)<256:=by
   have:x=0\/x=1:=by omega
   rcases this with rfl | rfl<;>omega
  have hv:bits .or .u8 ((byteAt bs i:Nat):Int) ((x:Int)*2^(7-r)%256)=((byteAt bs i+x*2^(7-r):Nat):Int):=by
   have e3:((x:Int)*2^(7-r)%256)=((x*2^(7-r):Nat):Int):=by
    rw [Int.natCast_mul,Int.natCast_pow]
    refine Int.emod_eq_of_lt ?_ ?_
    ·exact Int.mul_nonneg (by omega) (Int.le_of_lt (two_pow_pos' _))
    ·exact_mod_cast au
   rw [e3,bor_u8 ay au,az.out]
  rw [hv]
  refine ⟨rfl,[b,g2],⟨⟨.slice (some ⟨g2,0,none⟩) (i+1) aC,[g2],?_,?_,rfl⟩,HB.out⟩,?_⟩
  ·have h1:=((hb.drewN nq).far (p:=⟨g2,i,none⟩) ae.symm (.int .u8 ((byteAt bs i+x*2^(7-r):Nat):Int))).set_ 1 (.int .i64 ((bs.length:Int)+1))
   simpa using h1
  ·have h1:=((ac.drewN nq).set_ (i:=i) (by simp [HP.out]) (.int .u8 ((byteAt bs i+x*2^(7-r):Nat):Int))).far (p:=⟨b,1,none⟩) ae (.int .i64 ((bs.length:Int)+1))
   rw [HP.out] at h1
   have e:(List.map b8 (packed bs)).set i (.int .u8 ((byteAt bs i+x*2^(7-r):Nat):Int))=(packed (bs++[x])).map b8:=by
    rw [af.out,List.map_set]
    rfl
   rw [e] at h1
   exact h1.toOwn
  ·exact (((Grow.refl [b,g2] w).drewN nq).setCell (p:=⟨g2,i,none⟩) (by simp) _).setCell (p:=⟨b,1,none⟩) (by simp) _
theorem wput_ok (w:World) (b:Nat) (F bs:List Nat) (v n:Nat) (h:IsWr w b F bs) (hn:n<=63) (hv:v<2^n) (hlen:bs.length<549755813888) :
  Calls Tryz.prog 15 #[.pointer (some ⟨b,0,none⟩),.int .u64 v,.int .i64 n] w fun e w'=>e=.returned (.int .i64 0)/\∃ F',IsWr w' b F' (bs++bitsOf v n)/\Grow F F' w w':=by
 have ah:v<18446744073709551616:=Nat.lt_of_lt_of_le hv (Nat.le_trans (Nat.pow_le_pow_right (by decide) hn) (by decide:2^63<=18446744073709551616))
 have t1:decide ((n:Int)<0)=false:=by simp
 have t2:decide ((64:Int)<n)=false:=by simp;omega
 have t3:(((v:Int) / 2^n) != 0)=false:=by
  have:(v:Int) / 2^n=((v / 2^n:Nat):Int):=by simp
  rw [this,Nat.div_eq_of_lt hv]
  rfl
 clear hv
 go_enter Tryz.func15,Tryz.ntmps15
 go_wp2_with fail
 go_loopg [7] n (fun k i wr=>∃ (F' ab:List Nat),i=.int .i64 ((k:Int)-1)/\k<=n/\IsWr wr b F' ab/\Hid (bs++bitsOf v n=ab++bitsOf v k)/\ab.length+k<=bs.length+n/\Grow F F' w wr)
 case atStart=>exact ⟨F,bs,rfl,zQ _,h,hid rfl,zQ _,Grow.refl _ _⟩
 case round =>
  obtain ⟨F',ab,rfl,hk,ae,Hr,aj,ag⟩:=hrel
  rcases gk with _ | k
  ·have t4:decide ((0:Int)<=((0:Nat):Int)-1)=false:=by simp
   go_wp2
   go_ret
   refine ⟨rfl,F',?_,ag⟩
   rw [Hr.out]
   simpa [bitsOf] using ae
  ·have e1:(((k+1:Nat):Int)-1)=(k:Int):=by omega
   rw [e1]
   obtain ⟨ad,aa⟩:=zX (v / 2^k%2)
   have ai:bits BinOp.and IntKind.u64 ((v:Int) / 2^k) 1=(ad:Int):=by
    have e:(v:Int) / 2^k=((v / 2^k:Nat):Int):=by simp
    have ak:v / 2^k<=v:=Nat.div_le_self _ _
    rw [e,aa]
    exact band_u64_one (by omega)
   have af:ad<=1:=by omega
   have ac:Hid (bs++bitsOf v n=(ab++[ad])++bitsOf v k):=by
    refine hid ?_
    rw [Hr.out,aa,bitsOf,zH]
    rfl
   clear aa
   go_wp2_with fail
   refine (bit_any _ b F' ab ad ae (by omega) (by omega)).mono ?_
   rintro e w1 ⟨rfl,F2,h2,g2⟩
   go_wp2_with fail
   go_roundg k
   case measure=>omega
   case rel=>exact ⟨F2,ab++[ad],rfl,by omega,h2,ac,by simp;omega,ag.trans g2⟩
theorem wunary_ok (w:World) (b:Nat) (F bs:List Nat) (n:Nat) (h:IsWr w b F bs) (hn:n<=4096) (hlen:bs.length<549755813888) :
  Calls Tryz.prog 207 #[.pointer (some ⟨b,0,none⟩),.int .i64 n] w fun e w'=>e=.returned (.int .i64 0)/\∃ F',IsWr w' b F' (bs++(List.replicate n 0++[1]))/\Grow F F' w w':=by
 have t1:decide ((n:Int)<0)=false:=by simp
 have t2:decide ((4096:Int)<n)=false:=by simp;omega
 go_enter Tryz.func207,Tryz.ntmps207
 go_wp2_with fail
 go_loopg [12] n (fun k i wr=>∃ (F' aa:List Nat),i=.int .i64 ((n-k:Nat):Int)/\k<=n/\IsWr wr b F' aa/\Hid (aa=bs++List.replicate (n-k) 0)/\aa.length+k<=bs.length+n/\Grow F F' w wr)
 case atStart=>exact ⟨F,bs,by simp,zQ _,h,hid (by simp),zQ _,Grow.refl _ _⟩
 case round =>
  obtain ⟨F',aa,rfl,hk,ab,Hr,af,ad⟩:=hrel
  rcases gk with _ | k
  ·have t4:decide (((n-0:Nat):Int)<(n:Int))=false:=by simp
   go_wp2_with fail
   refine (bit_any _ b F' aa 1 ab (by omega) (by omega)).mono ?_
   rintro e w1 ⟨rfl,F2,h2,g2⟩
   go_wp2
   go_ret
   refine ⟨rfl,F2,?_,ad.trans g2⟩
   rw [Hr.out] at h2
   simpa using h2
  ·obtain ⟨m,hm⟩:=zX (n-(k+1))
   rw [<-hm] at Hr ⊢
   have ae:m<n:=by omega
   have ac:n-k=m+1:=by omega
   have HM:=hid ac
   clear hm ac
   go_wp2_with fail
   refine (bit_any _ b F' aa 0 ab (by omega) (by omega)).mono ?_
   rintro e w1 ⟨rfl,F2,h2,g2⟩
   go_wp2_with fail
   go_roundg k
   case measure=>omega
   case rel =>
    refine ⟨F2,aa++[0],?_,by omega,h2,?_,by simp;omega,ad.trans g2⟩
    ·rw [HM.out];go_num
    ·refine hid ?_
     rw [Hr.out,HM.out,List.replicate_succ',zH]
theorem wlen_any (w:World) (b:Nat) (F bs:List Nat) (h:IsWr w b F bs) :
  Calls Tryz.prog 113 #[.pointer (some ⟨b,0,none⟩)] w fun e w'=>e=.returned (.int .i64 bs.length)/\w=w':=by
 obtain ⟨v,G,hb,ho,rfl⟩:=h.ex
 have aa:=hb.cell 1
 simp at aa
 clear hb ho h
 go_enter Tryz.func113,Tryz.ntmps113
 go_wp2
 go_ret
 exact ⟨rfl,rfl⟩
theorem b8_one (l:List Nat):∀ u∈l.map b8,u.oneCell'=true:=by
 intro u hu
 obtain ⟨d,_,rfl⟩:=List.mem_map.1 hu
 rfl
theorem wbytes_at (w:World) (b:Nat) (A:Option Addr) (cap:Nat) (ds:List Nat) (hc0:w.cell? ⟨b,0,none⟩=some (.slice A ds.length cap)) (hcells:Cells (fun u=>u) w A (ds.map b8)) (hpl:ds.length<=137438953472) :
  Calls Tryz.prog 19 #[.pointer (some ⟨b,0,none⟩)] w fun e w'=>∃ v G,e=.returned v/\Own w' 5 v G (ds.map b8)/\Chg [] w w'/\∀ x∈G,w.heap.size<=x:=by
 have HC:=hid hcells
 clear hcells
 go_enter Tryz.func19,Tryz.ntmps19
 go_wp2_with (at_builtin;refine wpList_append_s rfl rfl u8_elem rfl rfl (Own.nil _ _) (ds.map b8) ds.length rfl ?c1 ?c2 ?c3 ?c4 ?c5 ?_)
 case c1=>exact (zE _).symm
 case c2=>exact HC.out
 case c3=>exact b8_one _
 case c4=>rw [zE,List.length_nil];omega
 case c5=>rw [zE,List.length_nil];omega
 intro v' F' w' h2 h3
 go_wp2
 go_ret
 exact ⟨v',F',rfl,by simpa using h2,h3.chg,fun x hx=>by rcases h3.new x hx with h | h;simp at h;exact h⟩
theorem wbytes_ok (w:World) (b:Nat) (F bs:List Nat) (h:IsWr w b F bs) (hlen:bs.length<549755813888) :
  Calls Tryz.prog 19 #[.pointer (some ⟨b,0,none⟩)] w fun e w'=>∃ v G,e=.returned v/\Own w' 5 v G ((packed bs).map b8)/\Chg [] w w'/\∀ x∈G,w.heap.size<=x:=by
 obtain ⟨v,G,hb,ho,rfl⟩:=h.ex
 obtain ⟨A,ae,rfl,af,ag,-⟩:=ho.open_map
 obtain ⟨A',ad,h1,-,-,aa,-⟩:=ho.open_
 injection h1 with h1 _ _
 subst h1
 have ac:(packed bs).length<=137438953472:=by rw [packed_len];omega
 have ab:=hb.cell 0
 simp at ab
 exact wbytes_at w b A ae _ ab aa ac
structure IsRd (w:World) (b:Nat) (F:List Nat) (ds:List Nat) (at_:Nat):Prop where
 ex:∃ v G,Blk w b 142 #[v,.int .i64 at_,.int .i64 0]/\Own w 5 v G (ds.map b8)/\F=b::G
 dig:∀ d∈ds,d<256
 len:ds.length<1099511627776
 at_le:at_<=8*ds.length
def bitAt (ds:List Nat) (i:Nat):Nat:=ds.getD (i / 8) 0 / 2^(7-i%8)%2
def allBits (ds:List Nat):List Nat:=(List.range (8*ds.length)).map (bitAt ds)
theorem allBits_len (ds:List Nat):(allBits ds).length=8*ds.length:=by simp [allBits]
theorem allBits_get {ds:List Nat} {i:Nat} (h:i<8*ds.length):(allBits ds)[i]?=some (bitAt ds i):=by
 simp [allBits,h]
theorem IsRd.mem {w:World} {b:Nat} {F ds:List Nat} {p:Nat} (h:IsRd w b F ds p):b∈F:=by
 obtain ⟨_,_,_,_,rfl⟩:=h.ex
 simp
theorem IsRd.lt {w:World} {b:Nat} {F ds:List Nat} {p:Nat} (h:IsRd w b F ds p):∀ x∈F,x<w.heap.size:=by
 obtain ⟨_,_,hb,ho,rfl⟩:=h.ex
 intro x hx
 rcases zJ.1 hx with rfl | hx
 ·exact hb.lt
 ·exact ho.lt x hx
theorem IsRd.chg {w w':World} {b:Nat} {F G ds:List Nat} {p:Nat} (h:IsRd w b F ds p) (hc:Chg G w w') (hd:∀ x∈F,x∉G):IsRd w' b F ds p:=by
 obtain ⟨v,K,hb,ho,rfl⟩:=h.ex
 exact ⟨⟨v,K,hb.chg hc (hd b (by simp)),ho.chg hc fun x hx=>hd x (by simp [hx]),rfl⟩,h.dig,h.len,h.at_le⟩
theorem IsRd.same {w w':World} {b:Nat} {F ds:List Nat} {p:Nat} (h:IsRd w b F ds p) (hc:Chg [] w w'):IsRd w' b F ds p:=h.chg hc (by simp)
theorem rnew_ok (w:World) (A:Option Addr) (cap:Nat) (ds:List Nat) (hc:Cells b8 w A ds) (hd:∀ d∈ds,d<256) (hl:ds.length<1099511627776) (hcl:ds.length<=cap) (hcm:cap<=9223372036854775807) :
  Calls Tryz.prog 66 #[.slice A ds.length cap] w fun e w'=>∃ b F,e=.returned (.pointer (some ⟨b,0,none⟩))/\IsRd w' b F ds 0/\Chg [] w w'/\∀ x∈F,w.heap.size<=x:=by
 have ab:Cells (fun u=>u) w A (ds.map b8):=⟨fun h0=>by
  obtain ⟨b,o,e1,e2,e3⟩:=hc.ex (by simpa using h0)
  refine ⟨b,o,e1,e2,fun i a ha => ?_⟩
  rw [zW] at ha
  cases e:ds[i]? with
  | none=>simp [e] at ha
  | some d=>simp [e] at ha;subst ha;exact e3 i d e⟩
 have HC:=hid ab
 have HD:=hid hd
 clear hc ab hd
 go_enter Tryz.func66,Tryz.ntmps66
 go_wp2_with (at_builtin;refine wpList_append_s rfl rfl u8_elem rfl rfl (Own.nil _ _) (ds.map b8) ds.length rfl ?c1 ?c2 ?c3 ?c4 ?c5 ?_)
 case c1=>exact (zE _).symm
 case c2=>exact HC.out
 case c3=>exact b8_one _
 case c4=>rw [zE,List.length_nil];omega
 case c5=>rw [zE,List.length_nil];omega
 intro v' F' w' h2 h3
 obtain ⟨A',aa,rfl,-⟩:=h2.open_
 go_wp2
 go_ret
 have ac:Own w' 5 (.slice A' ds.length aa) F' (ds.map b8):=by simpa using h2
 refine ⟨_,w'.heap.size::F',rfl,⟨⟨_,F',Blk.new _ _ _,ac.alloc _,rfl⟩,HD.out,hl,by simp⟩,h3.chg.alloc _,fun x hx => ?_⟩
 have:=h3.size
 rcases zJ.1 hx with rfl | hx
 ·exact this
 ·rcases h3.new x hx with h | h
  ·simp at h
  ·exact h
theorem bitAt_lt (ds:List Nat) (i:Nat):bitAt ds i<2:=by unfold bitAt;omega
theorem getD_get {ds:List Nat} {i:Nat} (h:i<ds.length):ds[i]?=some (ds.getD i 0):=by
 rw [zD,zF h];rfl
theorem look_ok (w : World) (b : Nat) (F ds : List Nat) (p i : Nat) (h : IsRd w b F ds p) (hi : i < 8 * ds.length) :
    Calls Tryz.prog 98 #[.pointer (some ⟨b,0,none⟩),.int .i64 i] w fun e w'=>e=.returned (.int .u8 (bitAt ds i))/\w=w':=by
  obtain ⟨v,G,hb,ho,rfl⟩:=h.ex
  obtain ⟨A,an,rfl,ak,al,aa⟩:=ho.open_map
  have ah:=h.len
  have af:=hb.cell 0
  simp at af
  obtain ⟨g,o,rfl,am,ab⟩:=aa.ex (by omega)
  obtain ⟨q,hq⟩:=zX (i / 8)
  obtain ⟨r,hr⟩:=zX (i%8)
  have ae:q<ds.length:=by omega
  have hx:=ab q _ (getD_get ae)
  obtain ⟨y,hy⟩:=zX (ds.getD q 0)
  rw [<-hy] at hx
  have ad:y<256:=by
    rw [hy]
    exact h.dig _ (List.mem_of_getElem? (getD_get ae))
  have aj:w.cell? ⟨g,o+q,none⟩=some (.int .u8 y):=hx
  have e1:(i:Int) / 8=(q:Int):=by omega
  have e2:(i:Int)%8=(r:Int):=by omega
  have ai:r<8:=by omega
  have ac:bitAt ds i=y / 2^(7-r)%2:=by unfold bitAt;rw [<-hq,<-hr,<-hy]
  have HF:=hid ac
  have ag:y / 2^(7-r)<256:=Nat.lt_of_le_of_lt (Nat.div_le_self _ _) ad
  clear ac hy hq hr hx ab aa ho hb h
  go_enter Tryz.func98,Tryz.ntmps98
  go_wp2
  go_ret
  rw [HF.out]
  first
    | exact ⟨rfl,rfl⟩
    | (have e3 : (y : Int) / 2 ^ (7 - r) = ((y / 2 ^ (7 - r) : Nat) : Int) := by simp
       refine ⟨?_,rfl⟩
       rw [<-band_u8_one ag,<-e3]
       rfl)
theorem left_ok (w:World) (b:Nat) (F ds:List Nat) (p:Nat) (h:IsRd w b F ds p) :
  Calls Tryz.prog 72 #[.pointer (some ⟨b,0,none⟩)] w fun e w'=>e=.returned (.int .i64 ((8*ds.length-p:Nat):Int))/\∃ n,w'=w.drewN n:=by
 obtain ⟨v,G,hb,ho,rfl⟩:=h.ex
 obtain ⟨A,ah,rfl,ae,af,aa⟩:=ho.open_map
 have ac:=h.len
 have ag:=h.at_le
 have ab:=hb.cell 0
 have ad:=hb.cell 1
 simp at ab ad
 have e1:((8*ds.length-p:Nat):Int)=8*(ds.length:Int)-p:=by omega
 rw [e1]
 clear e1 aa ho hb h
 go_enter Tryz.func72,Tryz.ntmps72
 go_wp2_with fail
 go_quiet (fail)
 go_wp2
 go_ret
 exact ⟨rfl,_,rfl⟩
theorem err_ok (w:World) (b:Nat) (F ds:List Nat) (p:Nat) (h:IsRd w b F ds p) :
  Calls Tryz.prog 69 #[.pointer (some ⟨b,0,none⟩)] w fun e w'=>e=.returned (.int .i64 0)/\w=w':=by
 obtain ⟨v,G,hb,ho,rfl⟩:=h.ex
 have aa:=hb.cell 2
 simp at aa
 clear ho hb h
 go_enter Tryz.func69,Tryz.ntmps69
 go_wp2
 go_ret
 exact ⟨rfl,rfl⟩
def rdNum (ds:List Nat) (p:Nat):Nat->Nat
 | 0=>0
 | n+1=>2*rdNum ds p n+bitAt ds (p+n)
theorem rdNum_lt (ds:List Nat) (p:Nat):∀ n,rdNum ds p n<2^n
 | 0=>by simp [rdNum]
 | n+1=>by
  have:=rdNum_lt ds p n
  have:=bitAt_lt ds (p+n)
  rw [rdNum,Nat.pow_succ]
  omega
def Ahead (ds:List Nat) (p:Nat) (bs:List Nat):Prop:=∃ rest,(allBits ds).drop p=bs++rest
theorem Ahead.len {ds:List Nat} {p:Nat} {bs:List Nat} (h:Ahead ds p bs):bs.length<=8*ds.length-p:=by
 obtain ⟨rest,h⟩:=h
 have:=congrArg List.length h
 rw [zO,allBits_len,zC] at this
 omega
theorem Ahead.le {ds:List Nat} {p:Nat} {bs:List Nat} (h:Ahead ds p bs) (hp:p<=8*ds.length):p+bs.length<=8*ds.length:=by have:=h.len;omega
theorem Ahead.left {ds:List Nat} {p:Nat} {us bs:List Nat} (h:Ahead ds p (us++bs)):Ahead ds p us:=by
 obtain ⟨rest,h⟩:=h
 exact ⟨bs++rest,by rw [h,zH]⟩
theorem Ahead.right {ds:List Nat} {p:Nat} {us bs:List Nat} (h:Ahead ds p (us++bs)):Ahead ds (p+us.length) bs:=by
 obtain ⟨rest,h⟩:=h
 refine ⟨rest,?_⟩
 rw [<-List.drop_drop,h,zH,List.drop_left]
theorem Ahead.get {ds:List Nat} {p:Nat} {bs:List Nat} (h:Ahead ds p bs) {i x:Nat} (hi:bs[i]?=some x):bitAt ds (p+i)=x:=by
 have ab:=h.len
 obtain ⟨rest,h⟩:=h
 have aa:i<bs.length:=(List.getElem?_eq_some_iff.1 hi).1
 have h1:((allBits ds).drop p)[i]?=some x:=by rw [h,List.getElem?_append_left aa,hi]
 rw [List.getElem?_drop,allBits_get (by omega)] at h1
 simpa using h1
theorem bitsOf_get (v:Nat):∀ (n i:Nat),i<n->(bitsOf v n)[i]?=some (v / 2^(n-1-i)%2)
 | n+1,0,_=>by simp [bitsOf]
 | n+1,i+1,h=>by
  rw [bitsOf,List.getElem?_cons_succ,bitsOf_get v n i (by omega)]
  have:n-1-i=n+1-1-(i+1):=by omega
  rw [this]
theorem rdNum_prefix {ds:List Nat} {p v n:Nat} (h:Ahead ds p (bitsOf v n)) (hv:v<2^n):∀ m,m<=n->rdNum ds p m=v / 2^(n-m)
 | 0,_=>by rw [rdNum,Nat.sub_zero,Nat.div_eq_of_lt hv]
 | m+1,hm=>by
  rw [rdNum,rdNum_prefix h hv m (by omega),h.get (bitsOf_get v n m (by omega))]
  have e1:n-1-m=n-(m+1):=by omega
  have e2:n-m=n-(m+1)+1:=by omega
  rw [e1,e2,Nat.pow_succ,<-Nat.div_div_eq_div_mul]
  omega
theorem rdNum_ahead {ds:List Nat} {p v n:Nat} (h:Ahead ds p (bitsOf v n)) (hv:v<2^n):rdNum ds p n=v:=by
 rw [rdNum_prefix h hv n (zQ _),Nat.sub_self,Nat.pow_zero,Nat.div_one]
theorem rget_ok (w:World) (b:Nat) (F ds:List Nat) (p n:Nat) (h:IsRd w b F ds p) (hn:n<=63) (hp:p+n<=8*ds.length) :
  Calls Tryz.prog 68 #[.pointer (some ⟨b,0,none⟩),.int .i64 n] w fun e w'=>e=.returned (.int .u64 (rdNum ds p n))/\IsRd w' b F ds (p+n)/\Chg [b] w w':=by
 have ak:=h.len
 have t1:decide ((n:Int)<0)=false:=by simp
 have t2:decide ((64:Int)<n)=false:=by simp;omega
 have t3:decide ((8*ds.length-p)<n)=false:=by simp;omega
 have ao:w.cell? ⟨b,2,none⟩=some (.int .i64 0):=by
  obtain ⟨v,G,hb,ho,rfl⟩:=h.ex
  simpa using hb.cell 2
 go_enter Tryz.func68,Tryz.ntmps68
 go_wp2_with fail
 refine (left_ok w b F ds p h).mono ?_
 rintro e w' ⟨rfl,nq,rfl⟩
 go_wp2_with fail
 go_loopg [5,28] n (fun k v i wr=>k<=n/\i=.int .i64 ((n-k:Nat):Int)/\v=.int .u64 (rdNum ds p (n-k))/\IsRd wr b F ds (p+(n-k))/\Chg [b] w wr)
 case atStart=>exact ⟨zQ _,by simp,by simp [rdNum],by simpa using h.same ((zR _ _).drewN nq),(zR _ _).drewN nq⟩
 case round =>
  obtain ⟨hk,rfl,rfl,aa,ae⟩:=hrel
  rcases gk with _ | k
  ·have t4:decide (((n-0:Nat):Int)<(n:Int))=false:=by simp
   go_wp2
   go_ret
   exact ⟨by simp,by simpa using aa,ae⟩
  ·obtain ⟨m,hm⟩:=zX (n-(k+1))
   rw [<-hm] at aa ⊢
   have an:m<n:=by omega
   have af:n-k=m+1:=by omega
   have HM:=hid af
   clear hm af
   have hv:=rdNum_lt ds p m
   have aj:2^m<=2^62:=Nat.pow_le_pow_right (by decide) (by omega)
   obtain ⟨v,ac⟩:=zX (rdNum ds p m)
   rw [<-ac] at hv ⊢
   have HV:=hid ac
   have al:v<4611686018427387904:=by omega
   clear ac hv aj
   have ap:wr.cell? ⟨b,1,none⟩=some (.int .i64 ((p+m:Nat):Int)):=by
    obtain ⟨v,G,hb,ho,rfl⟩:=aa.ex
    simpa using hb.cell 1
   have am:wr.frozen? ⟨b,1,none⟩=false:=by
    obtain ⟨v,G,hb,ho,rfl⟩:=aa.ex
    exact hb.frozen 1
   have ab:=bitAt_lt ds (p+m)
   obtain ⟨y,hy⟩:=zX (bitAt ds (p+m))
   have ag:=look_ok wr b F ds (p+m) (p+m) aa (by omega)
   rw [<-hy] at ag ab
   have HY:=hid hy
   clear hy
   have ad:bits BinOp.or IntKind.u64 ((v:Int)*2) (y:Int)=((2*v+y:Nat):Int):=by
    have:=bor_u64_bit (v:=v) (b:=y) (by omega) ab
    rw [<-this]
    congr 1
    omega
   have HO:=hid ad
   clear ad
   have ah:((p+m:Nat):Int)=(p:Int)+m:=by omega
   go_wp2_with fail
   refine ag.mono ?_
   rintro e w1 ⟨rfl,rfl⟩
   go_wp2_with fail
   go_roundg k
   case measure=>omega
   case rel =>
    rw [HM.out]
    refine ⟨by omega,by go_num,?_,?_,ae.setCell (by simp) _⟩
    ·rw [rdNum,<-HV.out,<-HY.out,<-HO.out]
    ·obtain ⟨v1,G,hb,ho,e1⟩:=aa.ex
     have ai:b∉G:=ho.ne_ hb (by decide)
     have h1:=hb.set_ 1 (.int .i64 ((p+m:Nat)+1:Int))
     refine ⟨⟨v1,G,?_,ho.far (p:=⟨b,1,none⟩) ai _,e1⟩,aa.dig,aa.len,by omega⟩
     have e2:((p+(m+1):Nat):Int)=((p+m:Nat):Int)+1:=by omega
     rw [e2]
     simpa using h1
theorem rget_ahead (w:World) (b:Nat) (F ds:List Nat) (p n v:Nat) (h:IsRd w b F ds p) (hn:n<=63) (hv:v<2^n) (ha:Ahead ds p (bitsOf v n)) :
  Calls Tryz.prog 68 #[.pointer (some ⟨b,0,none⟩),.int .i64 n] w fun e w'=>e=.returned (.int .u64 v)/\IsRd w' b F ds (p+n)/\Chg [b] w w':=by
 have hp:=ha.le h.at_le
 rw [bitsOf_len] at hp
 have:=rget_ok w b F ds p n h hn hp
 rw [rdNum_ahead ha hv] at this
 exact this
theorem rd_cells {w:World} {b:Nat} {F ds:List Nat} {p:Nat} (h:IsRd w b F ds p) :
  w.cell? ⟨b,1,none⟩=some (.int .i64 p)/\w.cell? ⟨b,2,none⟩=some (.int .i64 0)/\w.frozen? ⟨b,1,none⟩=false/\∃ A cap,w.cell? ⟨b,0,none⟩=some (.slice A ds.length cap):=by
 obtain ⟨v,G,hb,ho,rfl⟩:=h.ex
 obtain ⟨A,cap,rfl,_⟩:=ho.open_map
 refine ⟨by simpa using hb.cell 1,by simpa using hb.cell 2,hb.frozen 1,A,cap,by simpa using hb.cell 0⟩
theorem IsRd.move {w:World} {b:Nat} {F ds:List Nat} {p:Nat} (h:IsRd w b F ds p) {q:Nat} (hq:q<=8*ds.length):IsRd (w.setCell ⟨b,1,none⟩ (.int .i64 q)) b F ds q:=by
 obtain ⟨v,G,hb,ho,rfl⟩:=h.ex
 have aa:b∉G:=ho.ne_ hb (by decide)
 have h1:=hb.set_ 1 (.int .i64 q)
 exact ⟨⟨v,G,by simpa using h1,ho.far (p:=⟨b,1,none⟩) aa _,rfl⟩,h.dig,h.len,hq⟩
theorem runary_ok (w:World) (b:Nat) (F ds:List Nat) (p n most:Nat) (h:IsRd w b F ds p) (hn:n<=most) (hm:most<=4096) (hz:∀ i,i<n->bitAt ds (p+i)=0) (h1:bitAt ds (p+n)=1) (hp:p+n+1<=8*ds.length) :
  Calls Tryz.prog 281 #[.pointer (some ⟨b,0,none⟩),.int .i64 most] w fun e w'=>e=.returned (.int .i64 n)/\IsRd w' b F ds (p+n+1)/\Chg [b] w w':=by
 have ag:=h.len
 obtain ⟨al,aj,ah,A,ak,ai⟩:=rd_cells h
 have HZ:=hid hz
 have H1:=hid h1
 clear hz h1
 go_enter Tryz.func281,Tryz.ntmps281
 go_wp2_with fail
 go_quiet (fail)
 go_wp2_with fail
 have aa:=h.same ((zR _ _).drewN nq)
 go_loopg [5,6] n (fun k z i wr=>k<=n/\z=.int .i64 ((n-k:Nat):Int)/\i=.int .i64 ((p+(n-k):Nat):Int)/\wr=w.drewN nq)
 case atStart=>exact ⟨zQ _,by simp,by simp,rfl⟩
 case round =>
  obtain ⟨hk,rfl,rfl,rfl⟩:=hrel
  rcases gk with _ | k
  ·have ab:=look_ok (w.drewN nq) b F ds p (p+n) aa (by omega)
   rw [H1.out] at ab
   have t4:(((p+n:Nat):Int)==8*(ds.length:Int))=false:=by rw [beq_eq_false_iff_ne];omega
   have hc:((p+n:Nat):Int)=(p:Int)+n:=by omega
   rw [Nat.sub_zero]
   go_wp2_with fail
   refine ab.mono ?_
   rintro e w1 ⟨rfl,rfl⟩
   go_wp2_with fail
   go_ret
   have ae:=aa.move (q:=p+n+1) (by omega)
   have e2:((p+n+1:Nat):Int)=(p:Int)+n+1:=by omega
   rw [e2] at ae
   exact ⟨rfl,ae,((zR _ _).drewN nq).setCell (by simp) _⟩
  ·obtain ⟨m,ac⟩:=zX (n-(k+1))
   rw [<-ac]
   have af:m<n:=by omega
   have ad:n-k=m+1:=by omega
   have HM:=hid ad
   clear ac ad
   have ab:=look_ok (w.drewN nq) b F ds p (p+m) aa (by omega)
   rw [HZ.out m af] at ab
   have t4:(((p+m:Nat):Int)==8*(ds.length:Int))=false:=by rw [beq_eq_false_iff_ne];omega
   have t5:((m:Int)==(most:Int))=false:=by rw [beq_eq_false_iff_ne];omega
   have hc:((p+m:Nat):Int)=(p:Int)+m:=by omega
   go_wp2_with fail
   refine ab.mono ?_
   rintro e w1 ⟨rfl,rfl⟩
   go_wp2_with fail
   go_roundg k
   case measure=>omega
   case rel =>
    rw [HM.out]
    exact ⟨by omega,by go_num,by go_num,rfl⟩
def sgnOf (v n:Nat):Int:=if v<2^(n-1) then (v:Int) else (v:Int)-2^n
theorem sgn_shift {v n:Nat} (h1:1<=n) (h2:n<=63) (hv:v<2^n):(IntKind.i64.wrap (IntKind.u64.wrap ((v:Int)*2^(64-n)))).fdiv (2^(64-n))=sgnOf v n:=by
 have hp:=two_pow_pos' (64-n)
 have ac:(2:Int)^n*2^(64-n)=18446744073709551616:=by
  rw [<-Int.pow_add]
  have:n+(64-n)=64:=by omega
  rw [this];rfl
 have eh:(2:Int)^(n-1)*2^(64-n)=9223372036854775808:=by
  rw [<-Int.pow_add]
  have:n-1+(64-n)=63:=by omega
  rw [this];rfl
 have ad:(v:Int)<2^n:=by exact_mod_cast hv
 have ae:(0:Int)<=v*2^(64-n):=Int.mul_nonneg (by omega) (by omega)
 have af:(v:Int)*2^(64-n)<18446744073709551616:=by
  rw [<-ac]
  exact Int.mul_lt_mul_of_pos_right ad hp
 rw [IntWalk.u64_in _ (by omega)]
 have ab:∀ x:Int,(x*2^(64-n)).fdiv (2^(64-n))=x:=fun x=>by
  rw [Int.fdiv_eq_ediv_of_nonneg _ (by omega),Int.mul_ediv_cancel _ (by omega)]
 unfold sgnOf
 by_cases hs:v<2^(n-1)
 ·rw [if_pos hs]
  have aa:(v:Int)<2^(n-1):=by exact_mod_cast hs
  have:(v:Int)*2^(64-n)<9223372036854775808:=by
   rw [<-eh]
   exact Int.mul_lt_mul_of_pos_right aa hp
  rw [IntWalk.i64_in _ (by omega),ab]
 ·rw [if_neg hs]
  have aa:(2:Int)^(n-1)<=v:=by
   have:2^(n-1)<=v:=by omega
   exact_mod_cast this
  have:(9223372036854775808:Int)<=v*2^(64-n):=by
   rw [<-eh]
   exact Int.mul_le_mul_of_nonneg_right aa (by omega)
  have ew:IntKind.i64.wrap ((v:Int)*2^(64-n))=((v:Int)-2^n)*2^(64-n):=by
   rw [IntKind.wrap_i64,Int.sub_mul,ac]
   omega
  rw [ew,ab]
def vi (x:Int):Value:=.int .i64 x
theorem vi_one (l:List Int):∀ u∈l.map vi,u.oneCell'=true:=by
 intro u hu
 obtain ⟨d,_,rfl⟩:=List.mem_map.1 hu
 rfl
theorem int_elem:Elem Tryz.prog 22 3 (.int .i64 0) 1 8:=.mk' Tryz.underlying22 (by kernel_rfl)
theorem Cells.at_ {α:Type} {f:α->Value} {w:World} {A:Option Addr} {l:List α} (h:Cells f w A l) {m:Nat} (hm:m<l.length) :
  ∃ b o,A=some ⟨b,o,none⟩/\w.cell? ⟨b,o+m,none⟩=some (f l[m]):=by
 obtain ⟨b,o,e,_,hc⟩:=h.ex (by omega)
 exact ⟨b,o,e,hc m _ (zF hm)⟩
theorem wide_yes (x:Int) (w:World) (h:wideP x):Calls Tryz.prog 193 #[.int .i64 x] w fun e w'=>e=.returned (.bool true)/\w=w':=by
 obtain ⟨h1,h2⟩:=h
 have t1:decide ((-1073741824:Int)<=x)=true:=by simpa using h1
 have t2:decide (x<(1073741824:Int))=true:=by simpa using h2
 go_enter Tryz.func193,Tryz.ntmps193
 go_wp2
 go_ret
 exact ⟨rfl,rfl⟩
theorem param_yes (k:Nat) (w:World) (h:k<=25):Calls Tryz.prog 206 #[.int .i64 k] w fun e w'=>e=.returned (.bool true)/\w=w':=by
 have t1:decide ((0:Int)<=(k:Int))=true:=by simp
 have t2:decide ((k:Int)<=(25:Int))=true:=by simp;omega
 go_enter Tryz.func206,Tryz.ntmps206
 go_wp2
 go_ret
 exact ⟨rfl,rfl⟩
theorem rfold_ok (x:Int) (w:World) (h:wideP x):Calls Tryz.prog 147 #[.int .i64 x] w fun e w'=>e=.returned (.int .u64 (rfold x))/\w=w':=by
 have hh:=h
 obtain ⟨h1,h2⟩:=h
 by_cases hx:0<=x
 ·have t1:decide ((0:Int)<=x)=true:=by simpa using hx
  go_enter Tryz.func147,Tryz.ntmps147
  go_wp2_with (go_at_call 193;refine (wide_yes _ _ hh).mono ?_;rintro e w' ⟨rfl,rfl⟩)
  go_ret
  refine ⟨?_,rfl⟩
  have:((rfold x:Nat):Int)=2*x:=by unfold rfold;rw [if_pos hx];omega
  rw [this]
  rfl
 ·have t1:decide ((0:Int)<=x)=false:=by simpa using hx
  have hf:((rfold x:Nat):Int)=-(2*x)-1:=by unfold rfold;rw [if_neg hx];omega
  have HF:=hid hf
  clear hf
  go_enter Tryz.func147,Tryz.ntmps147
  go_wp2_with (go_at_call 193;refine (wide_yes _ _ hh).mono ?_;rintro e w' ⟨rfl,rfl⟩)
  go_ret
  refine ⟨?_,rfl⟩
  rw [HF.out]
  first | rfl | (go_num)
theorem unfold_ok (u:Nat) (w:World) (h:u<2147483648):Calls Tryz.prog 160 #[.int .u64 u] w fun e w'=>e=.returned (.int .i64 (unfoldI u))/\w=w':=by
 have t0:decide ((2147483648:Int)<=(u:Int))=false:=by simp;omega
 by_cases hx:u%2=0
 ·have t1:((u:Int)%2==0)=true:=by rw [beq_iff_eq];omega
  have hf:unfoldI u=(u:Int) / 2:=by unfold unfoldI;rw [if_pos hx];omega
  have HF:=hid hf
  clear hf hx
  go_enter Tryz.func160,Tryz.ntmps160
  go_wp2
  go_ret
  rw [HF.out]
  exact ⟨rfl,rfl⟩
 ·have t1:((u:Int)%2==0)=false:=by rw [beq_eq_false_iff_ne];omega
  have hf:unfoldI u=-((u:Int) / 2)-1:=by unfold unfoldI;rw [if_neg hx];omega
  have HF:=hid hf
  clear hf hx
  go_enter Tryz.func160,Tryz.ntmps160
  go_wp2
  go_ret
  rw [HF.out]
  exact ⟨rfl,rfl⟩
theorem rcost_ok (k:Nat) (x:Int) (w:World) (hk:k<=25) (h:wideP x):Calls Tryz.prog 252 #[.int .i64 k,.int .i64 x] w fun e w'=>e=.returned (.int .i64 (rcost k x))/\w=w':=by
 have hu:=rfold_lt h
 obtain ⟨u,ac⟩:=zX (rfold x)
 have ab:=rfold_ok x w h
 rw [<-ac] at hu ab
 have hq:u / 2^k<=u:=Nat.div_le_self _ _
 obtain ⟨q,aa⟩:=zX (u / 2^k)
 have e1:(u:Int) / 2^k=(q:Int):=by rw [aa];simp
 rw [<-aa] at hq
 have hf:rcost k x=if q<32 then q+1+k else 65:=by unfold rcost;rw [<-ac,<-aa]
 have HF:=hid hf
 clear hf ac aa
 by_cases hs:q<32
 ·have t1:decide ((q:Int)<32)=true:=by simp;omega
  go_enter Tryz.func252,Tryz.ntmps252
  go_wp2_with (first | (go_at_call 206;refine (param_yes _ _ hk).mono ?_;rintro e w' ⟨rfl,rfl⟩) | (go_at_call 193;refine (wide_yes _ _ h).mono ?_;rintro e w' ⟨rfl,rfl⟩) | (go_at_call 147;refine ab.mono ?_;rintro e w' ⟨rfl,rfl⟩))
  go_ret
  rw [HF.out,if_pos hs]
  refine ⟨?_,rfl⟩
  first | rfl | (go_num)
 ·have t1:decide ((q:Int)<32)=false:=by simp;omega
  go_enter Tryz.func252,Tryz.ntmps252
  go_wp2_with (first | (go_at_call 206;refine (param_yes _ _ hk).mono ?_;rintro e w' ⟨rfl,rfl⟩) | (go_at_call 193;refine (wide_yes _ _ h).mono ?_;rintro e w' ⟨rfl,rfl⟩) | (go_at_call 147;refine ab.mono ?_;rintro e w' ⟨rfl,rfl⟩))
  go_ret
  rw [HF.out,if_neg hs]
  exact ⟨rfl,rfl⟩
theorem rsum_snoc (k:Nat) (l:List Int) (x:Int):rsum k (l++[x])=rsum k l+rcost k x:=by simp [rsum]
theorem take_snoc' {α:Type} (l:List α) {m:Nat} (h:m<l.length):l.take (m+1)=l.take m++[l[m]]:=by
 rw [List.take_succ_eq_append_getElem h]
theorem rsum_ok (k:Nat) (l:List Int) (A:Option Addr) (cap:Nat) (w:World) (hk:k<=25) (hw:∀ x∈l,wideP x) (hc:Cells vi w A l) (hl:l.length<=1099511627776) :
  Calls Tryz.prog 212 #[.int .i64 k,.slice A l.length cap] w fun e w'=>e=.returned (.int .i64 (rsum k l))/\w=w':=by
 have HW:=hid hw
 clear hw
 obtain ⟨n,hn⟩:=zX (l.length)
 rw [<-hn] at hl ⊢
 have HN:=hid hn
 clear hn
 go_enter Tryz.func212,Tryz.ntmps212
 go_wp2_with fail
 go_loopg [5,10] n (fun j s i wr=>j<=n/\i=.int .i64 ((n-j:Nat):Int)/\s=.int .i64 ((rsum k (l.take (n-j)):Nat):Int)/\w=wr)
 case atStart=>exact ⟨zQ _,by simp,by simp [rsum],rfl⟩
 case round =>
  obtain ⟨hj,rfl,rfl,rfl⟩:=hrel
  rcases gk with _ | j
  ·have t4:decide (((n-0:Nat):Int)<(n:Int))=false:=by simp
   have e:l.take n=l:=by rw [HN.out,zN]
   rw [Nat.sub_zero,e]
   go_wp2
   go_ret
   exact ⟨rfl,rfl⟩
  ·obtain ⟨m,ah⟩:=zX (n-(j+1))
   rw [<-ah]
   have al:m<n:=by omega
   have ai:n-j=m+1:=by omega
   have HM:=hid ai
   clear ah ai
   have ag:m<l.length:=by rw [<-HN.out];exact al
   obtain ⟨b,o,rfl,aa⟩:=hc.at_ ag
   have ab:=rsum_snoc k (l.take m) l[m]
   rw [<-take_snoc' l ag] at ab
   have ad:=rsum_le k (l.take m) hk
   rw [zI] at ad
   obtain ⟨x,hx⟩:=zX (l[m])
   rw [<-hx] at aa ab
   have af:w.cell? ⟨b,o+m,none⟩=some (.int .i64 x):=aa
   have ak:wideP x:=by rw [hx];exact HW.out _ (zG _)
   obtain ⟨s,hs⟩:=zX (rsum k (l.take m))
   rw [<-hs] at ab ad ⊢
   have ac:=rcost_le k x hk
   have HS:=hid ab
   have am:s<=65*n:=by omega
   have aj:=rcost_ok k x w hk ak
   obtain ⟨c,ae⟩:=zX (rcost k x)
   rw [<-ae] at aj ac
   have HC:=hid ae
   clear ab aa hx hs ad ae ag
   go_wp2_with (go_at_call 252;refine aj.mono ?_;rintro e w' ⟨rfl,rfl⟩)
   go_roundg j
   case measure=>omega
   case rel =>
    rw [HM.out,HS.out,<-HC.out]
    exact ⟨by omega,by go_num,by go_num,rfl⟩
theorem rbest_ok (l:List Int) (A:Option Addr) (cap:Nat) (w:World) (hw:∀ x∈l,wideP x) (hc:Cells vi w A l) (hl:l.length<=1099511627776) :
  Calls Tryz.prog 162 #[.slice A l.length cap] w fun e w'=>e=.returned (.int .i64 (rbest l))/\w=w':=by
 have ab:=fun k (hk:k<=25)=>rsum_ok k l A cap w hk hw hc hl
 have ai:=ab 0 (by omega)
 have ac:=hid ab
 clear ab hw hc
 go_enter Tryz.func162,Tryz.ntmps162
 go_wp2_with fail
 refine ai.mono ?_
 rintro e w' ⟨rfl,rfl⟩
 clear ai
 go_wp2_with fail
 go_loopg [3,4,5] 25 (fun j b s i wr=>j<=25/\b=.int .i64 (bestUpTo l (25-j))/\s=.int .i64 (rsum (bestUpTo l (25-j)) l)/\i=.int .i64 ((26-j:Nat):Int)/\w=wr)
 case atStart=>exact ⟨zQ _,rfl,rfl,rfl,rfl⟩
 case round =>
  obtain ⟨hj,rfl,rfl,rfl,rfl⟩:=hrel
  rcases gk with _ | j
  ·have t4:decide (((26-0:Nat):Int)<=(25:Int))=false:=by simp
   go_wp2
   go_ret
   exact ⟨rfl,rfl⟩
  ·obtain ⟨m,af⟩:=zX (25-(j+1))
   rw [<-af]
   have am:m<25:=by omega
   have ah:25-j=m+1:=by omega
   have al:26-(j+1)=m+1:=by omega
   have ae:26-j=m+2:=by omega
   rw [al]
   have HM:=hid ah
   have ak:=hid ae
   have ag:bestUpTo l (m+1)=if rsum (m+1) l<rsum (bestUpTo l m) l then m+1 else bestUpTo l m:=rfl
   have HS:=hid ag
   have aa:=ac.out (m+1) (by omega)
   obtain ⟨s,hs⟩:=zX (rsum (m+1) l)
   obtain ⟨b,hb⟩:=zX (bestUpTo l m)
   rw [<-hs] at aa
   rw [<-hb]
   obtain ⟨t,ht⟩:=zX (rsum b l)
   rw [<-ht]
   have HB:=hid hb
   have HT:=hid ht
   have ad:=hid hs
   clear ag af ah al ae hb ht hs
   have aj:((m+1:Nat):Int)=(m:Int)+1:=by omega
   by_cases hlt:s<t
   ·have t5:decide (s<t)=true:=by simpa using hlt
    go_wp2_with (go_at_call 212;refine aa.mono ?_;rintro e w' ⟨rfl,rfl⟩)
    go_roundg j
    case measure=>omega
    case rel =>
     rw [HM.out,ak.out,HS.out,<-HB.out,<-ad.out,<-HT.out,if_pos hlt,<-ad.out]
     exact ⟨by omega,by go_num,rfl,by go_num,rfl⟩
   ·have t5:decide (s<t)=false:=by simpa using hlt
    go_wp2_with (go_at_call 212;refine aa.mono ?_;rintro e w' ⟨rfl,rfl⟩)
    go_roundg j
    case measure=>omega
    case rel =>
     rw [HM.out,ak.out,HS.out,<-HB.out,<-ad.out,<-HT.out,if_neg hlt,<-HT.out]
     exact ⟨by omega,rfl,rfl,by go_num,rfl⟩
def ptList:List (Int × Int):=[(0,1),(1,0),(1,1),(-1,1),(0,2),(2,0),(1,2),(-1,2),(2,1),(-2,1),(2,2),(-2,2),(0,3),(3,0),(1,3),(-1,3),(3,1),(-3,1),(2,3),(-2,3),(3,2),(-3,2),(0,4),(4,0)]
def ptX (i:Nat):Int:=(ptList.getD i (0,0)).1
def ptY (i:Nat):Int:=(ptList.getD i (0,0)).2
theorem pt_ok (i:Nat) : -4<=ptX i/\ptX i<=4/\0<=ptY i/\ptY i<=4:=by
 rcases zZ i 24 with h | h
 ·have:∀ i:Fin 24,-4<=ptX i.1/\ptX i.1<=4/\0<=ptY i.1/\ptY i.1<=4:=by decide
  exact this ⟨i,h⟩
 ·have:ptList.getD i (0,0)=(0,0):=by rw [zD,List.getElem?_eq_none (by simpa [ptList] using h)];rfl
  unfold ptX ptY
  rw [this]
  decide
def nearI (c W:Nat):Int:=if 24<c then (c:Int)-24 else max (ptY (c-1)*W+ptX (c-1)) 1
theorem nearI_ok {c W:Nat} (h1:c<=1048) (hw:W<=64):1<=nearI c W/\nearI c W<=1024:=by
 obtain ⟨p0,p1,p2,p3⟩:=pt_ok (c-1)
 have h2:ptY (c-1)*(W:Int)<=4*64:=Int.mul_le_mul p3 (by omega) (by omega) (by omega)
 unfold nearI
 split<;>omega
def codeFrom (d W:Nat):Nat->Nat->Nat
 | 0,_=>d+24
 | f+1,c=>if nearI c W=d then c else codeFrom d W f (c+1)
def codeN (d W:Nat):Nat:=codeFrom d W 24 1
theorem codeFrom_ok {d W:Nat} (hd:1<=d):∀ f c,c+f=25->1<=c->(1<=codeFrom d W f c/\codeFrom d W f c<=d+24)/\nearI (codeFrom d W f c) W=d
 | 0,c,h,h1=>by
  refine ⟨by simp only [codeFrom];omega,?_⟩
  have e:codeFrom d W 0 c=d+24:=rfl
  rw [e]
  unfold nearI
  rw [if_pos (by omega)]
  omega
 | f+1,c,h,h1=>by
  unfold codeFrom
  split
  ·rename_i hn
   exact ⟨by omega,hn⟩
  ·exact codeFrom_ok hd f (c+1) (by omega) (by omega)
theorem codeN_ok {d W:Nat} (hd:1<=d):(1<=codeN d W/\codeN d W<=d+24)/\nearI (codeN d W) W=d:=codeFrom_ok hd 24 1 rfl (by omega)
structure Tok where
 len:Nat
 dist:Nat
 lit:Int
def Tok.isLit (t:Tok):Bool:=decide (t.len=0)&&decide (t.dist=0)
def Tok.isCopy (t:Tok):Bool:=decide (3<=t.len)&&decide (t.len<=64)&&decide (1<=t.dist)&&decide (t.dist<=1024)&&decide (t.lit=0)
def Tok.ok (t:Tok):Prop:=t.isLit=true\/t.isCopy=true
theorem Tok.isLit_iff {t:Tok}:t.isLit=true ↔ t.len=0/\t.dist=0:=by simp [Tok.isLit]
theorem Tok.isCopy_iff {t:Tok}:t.isCopy=true ↔ 3<=t.len/\t.len<=64/\1<=t.dist/\t.dist<=1024/\t.lit=0:=by simp [Tok.isCopy,and_assoc]
def tokCells (t:Tok):List Go.Value:=[.int .i64 t.len,.int .i64 t.dist,.int .i64 t.lit]
def tokV (t:Tok):Go.Value:=.agg #[.int .i64 t.len,.int .i64 t.dist,.int .i64 t.lit]
theorem tok_flat_get {l:List Tok} {i:Nat} {t:Tok} (h:l[i]?=some t) :
  (l.flatMap tokCells)[i*3]?=some (.int .i64 t.len)/\(l.flatMap tokCells)[i*3+1]?=some (.int .i64 t.dist)/\(l.flatMap tokCells)[i*3+2]?=some (.int .i64 t.lit):=by
 induction l generalizing i with
 | nil=>simp at h
 | cons s l ih =>
  rw [List.flatMap_cons]
  have hl:(tokCells s).length=3:=rfl
  cases i with
  | zero =>
   simp at h
   subst h
   refine ⟨rfl,rfl,rfl⟩
  | succ i =>
   obtain ⟨a,b,c⟩:=ih (by simpa using h)
   refine ⟨?_,?_,?_⟩
   ·rw [zS (by omega),hl,show (i+1)*3-3=i*3 by omega];exact a
   ·rw [zS (by omega),hl,show (i+1)*3+1-3=i*3+1 by omega];exact b
   ·rw [zS (by omega),hl,show (i+1)*3+2-3=i*3+2 by omega];exact c
structure Pts (w:World):Prop where
 px:∀ i,i<24->w.cell? ⟨0,i*2,none⟩=some (.int .i64 (ptX i))
 py:∀ i,i<24->w.cell? ⟨0,i*2+1,none⟩=some (.int .i64 (ptY i))
 lt:0<w.heap.size
theorem Pts.chg {w w':World} {F:List Nat} (h:Pts w) (hc:Chg F w w') (hF:0∉F):Pts w' :=
 ⟨fun i hi=>(World.cell?_of_block (w:=w) (hc.block 0 h.lt hF)).trans (h.px i hi),fun i hi=>(World.cell?_of_block (w:=w) (hc.block 0 h.lt hF)).trans (h.py i hi),Nat.lt_of_lt_of_le h.lt hc.size⟩
theorem Pts.same {w w':World} (h:Pts w) (hc:Chg [] w w'):Pts w':=h.chg hc (by simp)
theorem mnear_ok (c W:Nat) (w:World) (h:Pts w) (h0:1<=c) (h1:c<=1048) (hw0:1<=W) (hw1:W<=64) :
  Calls Tryz.prog 211 #[.int .i64 c,.int .i64 W] w fun e w'=>e=.returned (.int .i64 (nearI c W))/\∃ n,w'=w.drewN n:=by
 have t1:decide ((c:Int)<1)=false:=zA (by omega)
 have t2:decide ((1048:Int)<(c:Int))=false:=zA (by omega)
 have t3:decide ((W:Int)<1)=false:=zA (by omega)
 have t4:decide ((64:Int)<(W:Int))=false:=zA (by omega)
 by_cases hb:24<c
 ·have t5:decide ((24:Int)<(c:Int))=true:=zB (by omega)
  have e:nearI c W=(c:Int)-24:=by unfold nearI;rw [if_pos hb]
  rw [e]
  go_enter Tryz.func211,Tryz.ntmps211
  go_wp2
  go_ret
  exact ⟨rfl,0,rfl⟩
 ·have t5:decide ((24:Int)<(c:Int))=false:=zA (by omega)
  obtain ⟨i,hi⟩:∃ i,c=i+1:=⟨c-1,by omega⟩
  subst hi
  have aa:i<24:=by omega
  obtain ⟨p0,p1,p2,p3⟩:=pt_ok i
  have e:nearI (i+1) W=max (ptY i*W+ptX i) 1:=by unfold nearI;rw [if_neg hb];rfl
  have cx:=h.px i aa
  have cy:=h.py i aa
  rw [e]
  have e1:((i+1:Nat):Int)-1=(i:Int):=by omega
  generalize ptX i=x at *
  generalize ptY i=y at *
  obtain ⟨m,hm⟩:=zX (y*(W:Int))
  have ad:0<=m:=by rw [hm];exact Int.mul_nonneg p2 (by omega)
  have ac:m<=256:=by rw [hm];exact Int.mul_le_mul (c:=4) (d:=64) p3 (by omega) (by omega) (by omega)
  rw [<-hm]
  have ab:y*(W:Int)=m:=hm.symm
  clear e hm hb
  go_enter Tryz.func211,Tryz.ntmps211
  go_wp2_with fail
  go_quiet (fail)
  go_wp2_with fail
  all_goals
   go_ret
   exact ⟨congrArg (fun z=>Ending.returned (.int .i64 z)) (show _=max (m+x) 1 by omega),nq,rfl⟩
theorem mcode_ok (d W:Nat) (w:World) (h:Pts w) (h0:1<=d) (h1:d<=1024) (hw0:1<=W) (hw1:W<=64) :
  Calls Tryz.prog 161 #[.int .i64 d,.int .i64 W] w fun e w'=>e=.returned (.int .i64 (codeN d W))/\∃ n,w'=w.drewN n:=by
 have t1:decide ((d:Int)<1)=false:=zA (by omega)
 have t2:decide ((1024:Int)<(d:Int))=false:=zA (by omega)
 have t3:decide ((W:Int)<1)=false:=zA (by omega)
 have t4:decide ((64:Int)<(W:Int))=false:=zA (by omega)
 have hd:codeN d W=codeFrom d W 24 1:=rfl
 have hn:=fun c (n:Nat) (a:1<=c) (b:c<=1048)=>mnear_ok c W (w.drewN n) (h.same ((zR [] w).drewN n)) a b hw0 hw1
 have HD:=hid hd
 have HN:=hid hn
 clear hd hn h
 go_enter Tryz.func161,Tryz.ntmps161
 go_wp2_with fail
 go_loopg [5] 24 (fun j iv wr=>∃ c n:Nat,iv=.int .i64 c/\c+j=25/\1<=c/\codeN d W=codeFrom d W j c/\wr=w.drewN n)
 case atStart=>exact ⟨1,0,rfl,rfl,zQ _,HD.out,rfl⟩
 case round =>
  obtain ⟨c,n,rfl,hj,ad,ab,rfl⟩:=hrel
  rcases gk with _ | j
  ·have t5:decide ((c:Int)<=24)=false:=zA (by omega)
   go_wp2
   go_ret
   rw [ab]
   exact ⟨congrArg (fun z=>Ending.returned (.int .i64 z)) (show (d:Int)+24=((d+24:Nat):Int) by omega),n,rfl⟩
  ·have t5:decide ((c:Int)<=24)=true:=zB (by omega)
   have ac:=HN.out c n ad (by omega)
   have af:=nearI_ok (c:=c) (W:=W) (by omega) hw1
   have aa:codeFrom d W (j+1) c=if nearI c W=d then c else codeFrom d W j (c+1):=rfl
   generalize nearI c W=nr at *
   by_cases hq:nr=(d:Int)
   ·have t6:(nr==(d:Int))=true:=by simpa using hq
    rw [if_pos hq] at aa
    have HQ:=hid aa
    clear hq aa
    go_wp2_with fail
    refine ac.mono ?_
    rintro e w' ⟨rfl,k,rfl⟩
    go_wp2_with fail
    go_ret
    rw [ab,HQ.out]
    exact ⟨rfl,n+k,by first | rfl | rw [World.drewN_drewN]⟩
   ·have t6:(nr==(d:Int))=false:=by simpa using hq
    rw [if_neg hq] at aa
    have HQ:=hid aa
    have ae:=hid ab
    clear hq aa ab
    go_wp2_with fail
    refine ac.mono ?_
    rintro e w' ⟨rfl,k,rfl⟩
    go_wp2_with fail
    go_roundg j
    case measure=>omega
    case rel =>
     exact ⟨c+1,n+k,by go_num,by omega,by omega,by rw [ae.out,HQ.out],by first | rfl | rw [World.drewN_drewN]⟩
theorem isLit_ok (t:Tok) (w:World):Calls Tryz.prog 159 #[tokV t] w fun e w'=>e=.returned (.bool t.isLit)/\Chg [] w w':=by
 obtain ⟨a,b,c⟩:=t
 have e:Tok.isLit ⟨a,b,c⟩=((a:Int)==0&&(b:Int)==0):=by
  unfold Tok.isLit
  rw [Bool.eq_iff_iff]
  simp
 rw [e]
 have ch:Chg [] w w:=zR _ _
 have HC:Hid (∀ o,Chg [] w (w.alloc o)):=hid fun o=>(zR [] w).alloc o
 show Calls _ _ #[.agg #[.int .i64 a,.int .i64 b,.int .i64 c]] _ _
 by_cases ha:(a:Int)=0
 ·have t1:((a:Int)==0)=true:=by simpa using ha
  go_enter Tryz.func159,Tryz.ntmps159
  go_wp2_with fail
  go_ret
  refine ⟨?_,HC.out _⟩
  rw [ha]
  rfl
 ·have t1:((a:Int)==0)=false:=by simpa using ha
  go_enter Tryz.func159,Tryz.ntmps159
  go_wp2_with fail
  go_ret
  refine ⟨?_,HC.out _⟩
  rw [t1]
  rfl
theorem isCopy_ok (t:Tok) (w:World) (h:t.isCopy=true):Calls Tryz.prog 210 #[tokV t] w fun e w'=>e=.returned (.bool true)/\Chg [] w w':=by
 rw [Tok.isCopy_iff] at h
 obtain ⟨a,b,c⟩:=t
 obtain ⟨h1,h2,h3,h4,h5⟩:=h
 simp only at h1 h2 h3 h4 h5
 subst h5
 have t1:decide ((3:Int)<=(a:Int))=true:=zB (by omega)
 have t2:decide ((a:Int)<=64)=true:=zB (by omega)
 have t3:decide ((1:Int)<=(b:Int))=true:=zB (by omega)
 have t4:decide ((b:Int)<=1024)=true:=zB (by omega)
 have HC:Hid (∀ o,Chg [] w (w.alloc o)):=hid fun o=>(zR [] w).alloc o
 show Calls _ _ #[.agg #[.int .i64 a,.int .i64 b,.int .i64 0]] _ _
 go_enter Tryz.func210,Tryz.ntmps210
 go_wp2_with fail
 go_ret
 exact ⟨rfl,HC.out _⟩
def Toks (w:World) (A:Option Addr) (l:List Tok):Prop:=Cells (fun u=>u) w A (l.flatMap tokCells)
theorem Toks.at_ {w:World} {A:Option Addr} {l:List Tok} (h:Toks w A l) {m:Nat} {t:Tok} (hm:l[m]?=some t) :
  ∃ g o,A=some ⟨g,o,none⟩/\w.cell? ⟨g,o+m*3,none⟩=some (.int .i64 t.len)/\w.cell? ⟨g,o+m*3+1,none⟩=some (.int .i64 t.dist)/\w.cell? ⟨g,o+m*3+2,none⟩=some (.int .i64 t.lit):=by
 obtain ⟨a,b,c⟩:=tok_flat_get hm
 have h0:=(List.getElem?_eq_some_iff.1 a).1
 obtain ⟨g,o,rfl,_,hc⟩:=h.ex (by omega)
 exact ⟨g,o,rfl,hc _ _ a,hc _ _ b,hc _ _ c⟩
theorem Toks.chg {w w':World} {A:Option Addr} {l:List Tok} {F:List Nat} (h:Toks w A l) (hc:Chg F w w') (hA:∀ ad,A=some ad->ad.block∉F):Toks w' A l:=Cells.chg h hc hA
theorem Toks.same {w w':World} {A:Option Addr} {l:List Tok} (h:Toks w A l) (hc:Chg [] w w'):Toks w' A l:=Cells.same h hc
theorem may_ok (l:List Tok) (A:Option Addr) (cap:Nat) (w:World) (hl:l.length<=1099511627776) (hok:∀ t∈l,t.ok) (hc:Toks w A l) :
  Calls Tryz.prog 158 #[.slice A l.length cap] w fun e w'=>e=.returned (.bool true)/\Chg [] w w':=by
 obtain ⟨n,hn⟩:=zX (l.length)
 rw [<-hn] at hl ⊢
 have HN:=hid hn
 have HK:=hid hok
 clear hn hok
 go_enter Tryz.func158,Tryz.ntmps158
 go_wp2_with fail
 go_loopg [7] n (fun j iv wr=>∃ i:Nat,iv=.int .i64 i/\i+j=n/\Chg [] w wr)
 case atStart=>exact ⟨0,rfl,by omega,zR _ _⟩
 case round =>
  obtain ⟨i,rfl,hj,ae⟩:=hrel
  rcases gk with _ | j
  ·obtain rfl:i=n:=by omega
   go_wp2
   go_ret
   exact ⟨rfl,ae⟩
  ·have al:i<n:=by omega
   have ad:i<l.length:=by rw [<-HN.out];exact al
   have ac:=HK.out l[i] (zG ad)
   obtain ⟨t,ht⟩:=zX (l[i])
   have aa:l[i]?=some t:=by rw [ht];exact zF ad
   rw [<-ht] at ac
   obtain ⟨g,o,rfl,c1,c2,c3⟩:=(hc.same ae).at_ aa
   have ab:=fun w=>isLit_ok t w
   have aj:=fun w h=>isCopy_ok t w h
   have ai:tokV t=.agg #[.int .i64 t.len,.int .i64 t.dist,.int .i64 t.lit]:=rfl
   unfold Tok.ok at ac
   rw [ai] at ab aj
   generalize t.len=ta at *
   generalize t.dist=tb at *
   generalize t.lit=tc at *
   clear aa ht ad ai
   have hb:=Blk.new wr 201 #[.int .i64 ta,.int .i64 tb,.int .i64 tc]
   have am:=(zR [] wr).alloc (.cells #[.int .i64 ta,.int .i64 tb,.int .i64 tc] 201)
   go_wp2_with fail
   refine (ab _).mono ?_
   rintro e w2 ⟨rfl,ak⟩
   have ag:=hb.chg ak (by simp)
   have b0:=ag.cell 0
   have b1:=ag.cell 1
   have b2:=ag.cell 2
   simp only [List.size_toArray,zK,List.length_nil,List.getElem?_toArray,List.getElem?_cons_zero,List.getElem?_cons_succ] at b0 b1 b2
   have ah:=ae.trans_same (am.trans_same ak)
   cases hlt:t.isLit with
   | true =>
    go_wp2_with fail
    go_roundg j
    case measure=>omega
    case rel=>exact ⟨i+1,by go_num,by omega,ah⟩
   | false =>
    rw [hlt] at ac
    have af:t.isCopy=true:=by rcases ac with h | h;cases h;exact h
    go_wp2_with fail
    refine (aj _ af).mono ?_
    rintro e w3 ⟨rfl,an⟩
    go_wp2_with fail
    go_roundg j
    case measure=>omega
    case rel=>exact ⟨i+1,by go_num,by omega,ah.trans_same an⟩
theorem pow_d {d:Nat} (h0:1<=d) (h1:d<=16):(2:Int)<=2^d/\(2:Int)^d<=65536:=by
 have e0:(2:Int)^1<=2^d:=by
  have:=Nat.pow_le_pow_right (n:=2) (by decide) h0
  exact_mod_cast this
 have e1:(2:Int)^d<=2^16:=by
  have:=Nat.pow_le_pow_right (n:=2) (by decide) h1
  exact_mod_cast this
 omega
theorem wrap_ok (v:Int) (d:Nat) (w:World) (h0:1<=d) (h1:d<=16):Calls Tryz.prog 83 #[.int .i64 v,.int .i64 d] w fun e w'=>e=.returned (.int .i64 (wrapI v d))/\w=w':=by
 have t1:decide ((d:Int)<1)=false:=zA (by omega)
 have t2:decide ((16:Int)<(d:Int))=false:=zA (by omega)
 obtain ⟨ab,aa⟩:=pow_d h0 h1
 have hm:=band_mask v (i:=d) (by omega)
 have HM:=hid hm
 clear hm
 go_enter Tryz.func83,Tryz.ntmps83
 go_wp2
 go_ret
 refine ⟨?_,rfl⟩
 first | exact congrArg (fun z=>Ending.returned (.int .i64 z)) HM.out
theorem fold_ok (v:Int) (d:Nat) (w:World) (h0:1<=d) (h1:d<=16):Calls Tryz.prog 84 #[.int .i64 v,.int .i64 d] w fun e w'=>e=.returned (.int .i64 (foldI v d))/\w=w':=by
 have t1:decide ((d:Int)<1)=false:=zA (by omega)
 have t2:decide ((16:Int)<(d:Int))=false:=zA (by omega)
 obtain ⟨ae,ad⟩:=pow_d h0 h1
 have hh:=two_pow_half h0
 have ag:=two_pow_pos' (d-1)
 have hw:=wrap_ok v d w h0 h1
 have ab:=wrapI_lo v d
 have ac:=wrapI_hi v d
 have aa:foldI v d=if 2^(d-1)<=wrapI v d then wrapI v d-2^d else wrapI v d:=rfl
 obtain ⟨u,hu⟩:=zX (wrapI v d)
 rw [<-hu] at hw ab ac aa
 have HD:=hid aa
 have e1:(2:Int)^((d:Int)-1).toNat=2^(d-1):=by congr 1;omega
 have af:(2:Int)^(d-1)<=32768:=by omega
 clear aa hu hh
 by_cases hs:2^(d-1)<=u
 ·have t3:decide ((2:Int)^(d-1)<=u)=true:=by simpa using hs
  rw [if_pos hs] at HD
  go_enter Tryz.func84,Tryz.ntmps84
  go_wp2_with (go_at_call 83;refine hw.mono ?_;rintro e w' ⟨rfl,rfl⟩)
  go_ret
  rw [HD.out]
  exact ⟨rfl,rfl⟩
 ·have t3:decide ((2:Int)^(d-1)<=u)=false:=by simpa using hs
  rw [if_neg hs] at HD
  go_enter Tryz.func84,Tryz.ntmps84
  go_wp2_with (go_at_call 83;refine hw.mono ?_;rintro e w' ⟨rfl,rfl⟩)
  go_ret
  rw [HD.out]
  exact ⟨rfl,rfl⟩
def midP (x:Int):Prop:=-1152921504606846976<=x/\x<=1152921504606846976
theorem dist_ok (a b:Int) (w:World) (ha:midP a) (hb:midP b):Calls Tryz.prog 247 #[.int .i64 a,.int .i64 b] w fun e w'=>e=.returned (.int .i64 (distI a b))/\w=w':=by
 obtain ⟨a1,a2⟩:=ha
 obtain ⟨b1,b2⟩:=hb
 by_cases h:a<b
 ·have t1:decide (a<b)=true:=zB h
  have hd:distI a b=b-a:=by unfold distI;rw [if_pos h]
  have HD:=hid hd
  clear hd
  go_enter Tryz.func247,Tryz.ntmps247
  go_wp2
  go_ret
  rw [HD.out]
  exact ⟨rfl,rfl⟩
 ·have t1:decide (a<b)=false:=zA h
  have hd:distI a b=a-b:=by unfold distI;rw [if_neg h]
  have HD:=hid hd
  clear hd
  go_enter Tryz.func247,Tryz.ntmps247
  go_wp2
  go_ret
  rw [HD.out]
  exact ⟨rfl,rfl⟩
theorem nearest_ok (t a b c:Int) (B:Nat) (cap:Nat) (w:World) (ht:midP t) (ha:midP a) (hb:midP b) (hc:midP c) (h0:w.cell? ⟨B,0,none⟩=some (.int .i64 a)) (h1:w.cell? ⟨B,1,none⟩=some (.int .i64 b)) (h2:w.cell? ⟨B,2,none⟩=some (.int .i64 c)) :
  Calls Tryz.prog 245 #[.int .i64 t,.slice (some ⟨B,0,none⟩) 3 cap] w fun e w'=>e=.returned (.int .i64 (nearest3 t a b c))/\w=w':=by
 obtain ⟨b1,ac⟩:=zX (if distI b t<distI a t then b else a)
 have aa:nearest3 t a b c=if distI c t<distI b1 t then c else b1:=by rw [ac];rfl
 have ab:midP b1:=by rw [ac];split<;>assumption
 have ca:=dist_ok a t w ha ht
 have cb:=dist_ok b t w hb ht
 have cc:=dist_ok c t w hc ht
 have ad:=dist_ok b1 t w ab ht
 have HD:=hid aa
 have HB:=hid ac
 obtain ⟨da,ah⟩:=zX (distI a t)
 obtain ⟨db,ae⟩:=zX (distI b t)
 obtain ⟨dc,af⟩:=zX (distI c t)
 obtain ⟨d1,ag⟩:=zX (distI b1 t)
 rw [<-ah] at ca HB
 rw [<-ae] at cb HB
 rw [<-af] at cc HD
 rw [<-ag] at ad HD
 clear aa ac ah ae af ag ab ht ha hb hc
 go_enter Tryz.func245,Tryz.ntmps245
 go_wp2_with fail
 go_loopg [5,13] 3 (fun j bv iv wr=>w=wr/\((j=3/\iv=.int .i64 0/\bv=.int .i64 a)\/(j=2/\iv=.int .i64 1/\bv=.int .i64 a)\/(j=1/\iv=.int .i64 2/\bv=.int .i64 b1)\/(j=0/\iv=.int .i64 3/\bv=.int .i64 (nearest3 t a b c))))
 case atStart=>exact ⟨rfl,.inl ⟨rfl,rfl,rfl⟩⟩
 case round =>
  obtain ⟨rfl,hrel⟩:=hrel
  rcases hrel with ⟨rfl,rfl,rfl⟩ | ⟨rfl,rfl,rfl⟩ | ⟨rfl,rfl,rfl⟩ | ⟨rfl,rfl,rfl⟩
  ·go_wp2_with (go_at_call 247;refine ca.mono ?_;rintro e w' ⟨rfl,rfl⟩)
   go_roundg 2
   case measure=>omega
   case rel=>exact ⟨rfl,.inr (.inl ⟨rfl,rfl,rfl⟩)⟩
  ·by_cases hlt:db<da
   ·have t1:decide (db<da)=true:=zB hlt
    rw [if_pos hlt] at HB
    go_wp2_with (first | (go_at_call 247;((with_reducible refine cb.mono ?_);rintro e w' ⟨rfl,rfl⟩)) | (go_at_call 247;((with_reducible refine ca.mono ?_);rintro e w' ⟨rfl,rfl⟩)))
    go_roundg 1
    case measure=>omega
    case rel=>exact ⟨rfl,.inr (.inr (.inl ⟨rfl,rfl,by rw [HB.out]⟩))⟩
   ·have t1:decide (db<da)=false:=zA hlt
    rw [if_neg hlt] at HB
    go_wp2_with (first | (go_at_call 247;((with_reducible refine cb.mono ?_);rintro e w' ⟨rfl,rfl⟩)) | (go_at_call 247;((with_reducible refine ca.mono ?_);rintro e w' ⟨rfl,rfl⟩)))
    go_roundg 1
    case measure=>omega
    case rel=>exact ⟨rfl,.inr (.inr (.inl ⟨rfl,rfl,by rw [HB.out]⟩))⟩
  ·by_cases hlt:dc<d1
   ·have t1:decide (dc<d1)=true:=zB hlt
    rw [if_pos hlt] at HD
    go_wp2_with (first | (go_at_call 247;((with_reducible refine cc.mono ?_);rintro e w' ⟨rfl,rfl⟩)) | (go_at_call 247;((with_reducible refine ad.mono ?_);rintro e w' ⟨rfl,rfl⟩)))
    go_roundg 0
    case measure=>omega
    case rel=>exact ⟨rfl,.inr (.inr (.inr ⟨rfl,rfl,by rw [HD.out]⟩))⟩
   ·have t1:decide (dc<d1)=false:=zA hlt
    rw [if_neg hlt] at HD
    go_wp2_with (first | (go_at_call 247;((with_reducible refine cc.mono ?_);rintro e w' ⟨rfl,rfl⟩)) | (go_at_call 247;((with_reducible refine ad.mono ?_);rintro e w' ⟨rfl,rfl⟩)))
    go_roundg 0
    case measure=>omega
    case rel=>exact ⟨rfl,.inr (.inr (.inr ⟨rfl,rfl,by rw [HD.out]⟩))⟩
  ·go_wp2
   go_ret
   exact ⟨rfl,rfl⟩
theorem isPlane_yes (l:List Int) (A:Option Addr) (cap W H d:Nat) (w:World) (hw0:1<=W) (hw1:W<=64) (hh0:1<=H) (hh1:H<=64) (h0:1<=d) (h1:d<=16) (hl:l.length=W*H) (hs:SmpOk d l) (hc:Cells vi w A l) :
  Calls Tryz.prog 194 #[.slice A l.length cap,.int .i64 W,.int .i64 H,.int .i64 d] w fun e w'=>e=.returned (.bool true)/\w=w':=by
 have t1:decide ((W:Int)<1)=false:=zA (by omega)
 have t2:decide ((64:Int)<(W:Int))=false:=zA (by omega)
 have t3:decide ((H:Int)<1)=false:=zA (by omega)
 have t4:decide ((64:Int)<(H:Int))=false:=zA (by omega)
 have t5:decide ((d:Int)<1)=false:=zA (by omega)
 have t6:decide ((16:Int)<(d:Int))=false:=zA (by omega)
 obtain ⟨ak,ai⟩:=pow_d h0 h1
 obtain ⟨m,hm⟩:=zX (l.length)
 rw [<-hm] at hl ⊢
 have ag:(W:Int)*(H:Int)=(m:Int):=by rw [hl];simp
 have t7:((m:Int) != (m:Int))=false:=by simp
 have an:m<=4096:=by rw [hl];exact zL hw1 hh1
 have HN:=hid hm
 have HS:=hid hs
 clear hm hl hs
 go_enter Tryz.func194,Tryz.ntmps194
 go_wp2_with fail
 go_loopg [41] m (fun j i wr=>j<=m/\i=.int .i64 ((m-j:Nat):Int)/\w=wr)
 case atStart=>exact ⟨zQ _,by simp,rfl⟩
 case round =>
  obtain ⟨hj,rfl,rfl⟩:=hrel
  rcases gk with _ | j
  ·have t8:decide (((m-0:Nat):Int)<(m:Int))=false:=by simp
   go_wp2
   go_ret
   exact ⟨rfl,rfl⟩
  ·obtain ⟨i,ac⟩:=zX (m-(j+1))
   rw [<-ac]
   have ah:i<m:=by omega
   have af:m-j=i+1:=by omega
   have HI:=hid af
   clear ac af
   have ae:i<l.length:=by rw [<-HN.out];exact ah
   obtain ⟨g,o,rfl,aa⟩:=hc.at_ ae
   have hx:=HS.out l[i] (zG _)
   obtain ⟨x,ad⟩:=zX (l[i])
   rw [<-ad] at aa hx
   have ab:w.cell? ⟨g,o+i,none⟩=some (.int .i64 x):=aa
   obtain ⟨am,al⟩:=hx
   have t9:decide (x<0)=false:=zA (by omega)
   have aj:decide ((2:Int)^d<=x)=false:=zA (by omega)
   clear aa ad ae
   go_wp2
   go_roundg j
   case measure=>omega
   case rel =>
    rw [HI.out]
    exact ⟨by omega,by go_num,rfl⟩
theorem areKinds_yes (ks:List Nat) (A:Option Addr) (cap:Nat) (w:World) (hks:∀ k∈ks,k<10) (hl:ks.length<=64) (hc:Cells i64 w A ks) :
  Calls Tryz.prog 197 #[.slice A ks.length cap,.int .i64 ks.length] w fun e w'=>e=.returned (.bool true)/\w=w':=by
 obtain ⟨m,hm⟩:=zX (ks.length)
 rw [<-hm] at hl ⊢
 have t7:((m:Int) != (m:Int))=false:=by simp
 have HN:=hid hm
 have HS:=hid hks
 clear hm hks
 go_enter Tryz.func197,Tryz.ntmps197
 go_wp2_with fail
 go_loopg [13] m (fun j i wr=>j<=m/\i=.int .i64 ((m-j:Nat):Int)/\w=wr)
 case atStart=>exact ⟨zQ _,by simp,rfl⟩
 case round =>
  obtain ⟨hj,rfl,rfl⟩:=hrel
  rcases gk with _ | j
  ·have t8:decide (((m-0:Nat):Int)<(m:Int))=false:=by simp
   go_wp2
   go_ret
   exact ⟨rfl,rfl⟩
  ·obtain ⟨i,ac⟩:=zX (m-(j+1))
   rw [<-ac]
   have ag:i<m:=by omega
   have af:m-j=i+1:=by omega
   have HI:=hid af
   clear ac af
   have ae:i<ks.length:=by rw [<-HN.out];exact ag
   obtain ⟨g,o,rfl,aa⟩:=hc.at_ ae
   have hx:=HS.out ks[i] (zG _)
   obtain ⟨x,ad⟩:=zX (ks[i])
   rw [<-ad] at aa hx
   have ab:w.cell? ⟨g,o+i,none⟩=some (.int .i64 x):=aa
   have t9:decide ((x:Int)<0)=false:=zA (by omega)
   have ah:decide ((10:Int)<=(x:Int))=false:=zA (by omega)
   clear aa ad ae
   go_wp2
   go_roundg j
   case measure=>omega
   case rel =>
    rw [HI.out]
    exact ⟨by omega,by go_num,rfl⟩
theorem Cells.vi_getD {w:World} {b o:Nat} {l:List Int} (hc:∀ (i:Nat) (a:Int),l[i]?=some a->w.cell? ⟨b,o+i,none⟩=some (vi a)) {m:Nat} (hm:m<l.length):w.cell? ⟨b,o+m,none⟩=some (.int .i64 (l.getD m 0)):=by
 have:=hc m l[m] (zF hm)
 rw [this,zD,zF hm]
 rfl
theorem near_ok (l:List Int) (A:Option Addr) (cap W x y:Nat) (w:World) (hw0:1<=W) (hw1:W<=64) (hx:x<W) (hy:y<64) (hl:y*W+x<=l.length) (hc:Cells vi w A l) (hlm:l.length<=1099511627776) :
  Calls Tryz.prog 190 #[.slice A l.length cap,.int .i64 W,.int .i64 x,.int .i64 y] w fun e w'=>e=.returned (.tuple #[.int .i64 (nbr l W x y).w,.int .i64 (nbr l W x y).n,.int .i64 (nbr l W x y).nw,.int .i64 (nbr l W x y).ne])/\∃ n,w'=w.drewN n:=by
 have t1:decide ((W:Int)<1)=false:=zA (by omega)
 have t2:decide ((64:Int)<(W:Int))=false:=zA (by omega)
 have t3:decide ((x:Int)<0)=false:=zA (by omega)
 have t4:decide (W<=x)=false:=zA (by omega)
 have t5:decide ((y:Int)<0)=false:=zA (by omega)
 have t6:decide ((64:Int)<=(y:Int))=false:=zA (by omega)
 obtain ⟨m,hm⟩:=zX (l.length)
 obtain ⟨yw,ap⟩:=zX (y*W)
 obtain ⟨p,hp⟩:=zX (y*W+x)
 have aD:(y:Int)*(W:Int)=(yw:Int):=by rw [ap];simp
 have aM:(yw:Int)+(x:Int)=(p:Int):=by rw [hp,ap];simp
 have af:=fun (h:0<l.length)=>hc.ex h
 have am:nbr l W x y=if y=0 then (if x=0 then ⟨0,0,0,0⟩ else ⟨l.getD (p-1) 0,l.getD (p-1) 0,l.getD (p-1) 0,l.getD (p-1) 0⟩)
   else ⟨if 0<x then l.getD (p-1) 0 else l.getD (p-W) 0,l.getD (p-W) 0,if 0<x then l.getD (p-W-1) 0 else l.getD (p-W) 0,if x<W-1 then l.getD (p-W+1) 0 else l.getD (p-W) 0⟩:=by
  unfold nbr;rw [<-hp]
 have ar:y≠0->W<=y*W:=fun h=>le_mul_pos h
 rw [<-hp] at hl
 rw [<-ap] at ar hp
 rw [<-hm] at hl hlm ⊢
 have t7:decide ((m:Int)<(p:Int))=false:=zA (by omega)
 have aJ:decide (m<p)=false:=zA (by omega)
 have HD:=hid am
 have HM:=hid hm
 have HC:=hid af
 have aC:=hid ar
 have HP:=hid hp
 clear am hm af ap hp hc ar
 by_cases hy0:y=0
 ·have t8:((y:Int)==0)=true:=by rw [beq_iff_eq];omega
  rw [if_pos hy0] at HD
  by_cases hx0:x=0
  ·have t9:((x:Int)==0)=true:=by rw [beq_iff_eq];omega
   rw [if_pos hx0] at HD
   clear hy0 hx0
   go_enter Tryz.func190,Tryz.ntmps190
   go_wp2
   refine bodyPost_ret (v:=.tuple #[.int .i64 0,.int .i64 0,.int .i64 0,.int .i64 0]) (by simp [results,Tryz.results190,go_sem]) rfl ⟨by rw [HD.out],0,rfl⟩
  ·have t9:((x:Int)==0)=false:=by rw [beq_eq_false_iff_ne];omega
   rw [if_neg hx0] at HD
   have aK:1<=p:=by have:=HP.out;omega
   obtain ⟨p1,ab⟩:=zX (p-1)
   have au:(p:Int)-1=(p1:Int):=by omega
   rw [<-ab] at HD
   have ah:p1<m:=by omega
   obtain ⟨b,o,rfl,_,ac⟩:=HC.out (by rw [<-HM.out];omega)
   have hv:=Cells.vi_getD ac (m:=p1) (by rw [<-HM.out];exact ah)
   obtain ⟨v,ay⟩:=zX (l.getD p1 0)
   rw [<-ay] at hv HD
   clear hy0 hx0 ac ay ab
   go_enter Tryz.func190,Tryz.ntmps190
   go_wp2
   refine bodyPost_ret (v:=.tuple #[.int .i64 v,.int .i64 v,.int .i64 v,.int .i64 v]) (by simp [results,Tryz.results190,go_sem]) rfl ⟨by rw [HD.out],0,rfl⟩
 ·have t8:((y:Int)==0)=false:=by rw [beq_eq_false_iff_ne];omega
  rw [if_neg hy0] at HD
  have hW:=aC.out hy0
  have ao:=HP.out
  obtain ⟨q,hq⟩:=zX (p-W)
  have aL:(p:Int)-(W:Int)=(q:Int):=by omega
  rw [<-hq] at HD
  have aA:q<m:=by omega
  obtain ⟨b,o,rfl,_,ac⟩:=HC.out (by rw [<-HM.out];omega)
  have aF:=Cells.vi_getD ac (m:=q) (by rw [<-HM.out];exact aA)
  obtain ⟨vn,ae⟩:=zX (l.getD q 0)
  rw [<-ae] at aF HD
  obtain ⟨q2,an⟩:=zX (q+1)
  have aI:(q:Int)+1=(q2:Int):=by omega
  rw [<-an] at HD
  obtain ⟨W1,al⟩:=zX (W-1)
  have aB:(W:Int)-1=(W1:Int):=by omega
  rw [<-al] at HD
  by_cases hx0:0<x
  ·have t9:decide ((0:Int)<(x:Int))=true:=zB (by omega)
   have aH:decide (0<x)=true:=zB hx0
   rw [if_pos hx0,if_pos hx0] at HD
   obtain ⟨p1,ab⟩:=zX (p-1)
   have au:(p:Int)-1=(p1:Int):=by omega
   obtain ⟨q1,ak⟩:=zX (q-1)
   have aE:(q:Int)-1=(q1:Int):=by omega
   rw [<-ab,<-ak] at HD
   have ah:p1<m:=by omega
   have aw:q1<m:=by omega
   have aG:=Cells.vi_getD ac (m:=p1) (by rw [<-HM.out];exact ah)
   have ax:=Cells.vi_getD ac (m:=q1) (by rw [<-HM.out];exact aw)
   obtain ⟨vw,ag⟩:=zX (l.getD p1 0)
   obtain ⟨az,ad⟩:=zX (l.getD q1 0)
   rw [<-ag] at aG HD
   rw [<-ad] at ax HD
   by_cases hx1:x<W1
   ·have aq:decide (x<W1)=true:=zB hx1
    rw [if_pos hx1] at HD
    have aj:q2<m:=by omega
    have ai:=Cells.vi_getD ac (m:=q2) (by rw [<-HM.out];exact aj)
    obtain ⟨av,aa⟩:=zX (l.getD q2 0)
    rw [<-aa] at ai HD
    clear hy0 hx0 ac aa ae ag ad ab ak hq an al ao
    go_enter Tryz.func190,Tryz.ntmps190
    go_wp2
    go_quiet (fail)
    go_wp2
    refine bodyPost_ret (v:=.tuple #[.int .i64 vw,.int .i64 vn,.int .i64 az,.int .i64 av]) (by simp [results,Tryz.results190,go_sem]) rfl ⟨by rw [HD.out],_,rfl⟩
   ·have aq:decide (x<W1)=false:=zA hx1
    rw [if_neg hx1] at HD
    clear hy0 hx0 ac ae ag ad ab ak hq an al ao
    go_enter Tryz.func190,Tryz.ntmps190
    go_wp2
    go_quiet (fail)
    go_wp2
    refine bodyPost_ret (v:=.tuple #[.int .i64 vw,.int .i64 vn,.int .i64 az,.int .i64 vn]) (by simp [results,Tryz.results190,go_sem]) rfl ⟨by rw [HD.out],_,rfl⟩
  ·have t9:decide ((0:Int)<(x:Int))=false:=zA (by omega)
   have aH:decide (0<x)=false:=zA hx0
   rw [if_neg hx0,if_neg hx0] at HD
   by_cases hx1:x<W1
   ·have aq:decide (x<W1)=true:=zB hx1
    rw [if_pos hx1] at HD
    have aj:q2<m:=by omega
    have ai:=Cells.vi_getD ac (m:=q2) (by rw [<-HM.out];exact aj)
    obtain ⟨av,aa⟩:=zX (l.getD q2 0)
    rw [<-aa] at ai HD
    clear hy0 hx0 ac aa ae hq an al ao
    go_enter Tryz.func190,Tryz.ntmps190
    go_wp2
    refine bodyPost_ret (v:=.tuple #[.int .i64 vn,.int .i64 vn,.int .i64 vn,.int .i64 av]) (by simp [results,Tryz.results190,go_sem]) rfl ⟨by rw [HD.out],0,rfl⟩
   ·have aq:decide (x<W1)=false:=zA hx1
    rw [if_neg hx1] at HD
    clear hy0 hx0 ac ae hq an al ao
    go_enter Tryz.func190,Tryz.ntmps190
    go_wp2
    refine bodyPost_ret (v:=.tuple #[.int .i64 vn,.int .i64 vn,.int .i64 vn,.int .i64 vn]) (by simp [results,Tryz.results190,go_sem]) rfl ⟨by rw [HD.out],0,rfl⟩
theorem one_ok (kind:Nat) (g:Nbr) (d:Nat) (w:World) (hk:kind<10) (h0:1<=d) (h1:d<=16) (hg:NbrOk d g) :
  Calls Tryz.prog 191 #[.int .i64 kind,.int .i64 g.w,.int .i64 g.n,.int .i64 g.nw,.int .i64 g.ne,.int .i64 d] w fun e w'=>e=.returned (.int .i64 (guessI kind g d))/\Chg [] w w':=by
 have t1:decide ((kind:Int)<0)=false:=zA (by omega)
 have t2:decide ((10:Int)<=(kind:Int))=false:=zA (by omega)
 have t5:decide ((d:Int)<1)=false:=zA (by omega)
 have t6:decide ((16:Int)<(d:Int))=false:=zA (by omega)
 obtain ⟨ac,ab⟩:=pow_d h0 h1
 obtain ⟨a,b,c,e⟩:=g
 obtain ⟨⟨a1,a2⟩,⟨b1,b2⟩,⟨c1,c2⟩,⟨e1,e2⟩⟩:=hg
 simp only at a1 a2 b1 b2 c1 c2 e1 e2 ⊢
 have u1:decide (a<0)=false:=zA (by omega)
 have u2:decide ((2:Int)^d<=a)=false:=zA (by omega)
 have u3:decide (b<0)=false:=zA (by omega)
 have u4:decide ((2:Int)^d<=b)=false:=zA (by omega)
 have u5:decide (c<0)=false:=zA (by omega)
 have u6:decide ((2:Int)^d<=c)=false:=zA (by omega)
 have u7:decide (e<0)=false:=zA (by omega)
 have u8:decide ((2:Int)^d<=e)=false:=zA (by omega)
 have i0:∀ w,(Instr.index 86 (.agg #[.int .i64 a,.int .i64 b,.int .i64 c,.int .i64 e]) (.int .i64 0)).run Tryz.prog w=.ok (.int .i64 a) w:=fun _=>by kernel_rfl
 have i1:∀ w,(Instr.index 86 (.agg #[.int .i64 a,.int .i64 b,.int .i64 c,.int .i64 e]) (.int .i64 1)).run Tryz.prog w=.ok (.int .i64 b) w:=fun _=>by kernel_rfl
 have i2:∀ w,(Instr.index 86 (.agg #[.int .i64 a,.int .i64 b,.int .i64 c,.int .i64 e]) (.int .i64 2)).run Tryz.prog w=.ok (.int .i64 c) w:=fun _=>by kernel_rfl
 have i3:∀ w,(Instr.index 86 (.agg #[.int .i64 a,.int .i64 b,.int .i64 c,.int .i64 e]) (.int .i64 3)).run Tryz.prog w=.ok (.int .i64 e) w:=fun _=>by kernel_rfl
 go_enter Tryz.func191,Tryz.ntmps191
 go_wp2_with fail
 go_loopg [35] 4 (fun j iv wr=>w=wr/\((j=4/\iv=.int .i64 0)\/(j=3/\iv=.int .i64 1)\/(j=2/\iv=.int .i64 2)\/(j=1/\iv=.int .i64 3)\/(j=0/\iv=.int .i64 4)))
 case atStart=>exact ⟨rfl,.inl ⟨rfl,rfl⟩⟩
 case round =>
  obtain ⟨rfl,hrel⟩:=hrel
  rcases hrel with ⟨rfl,rfl⟩ | ⟨rfl,rfl⟩ | ⟨rfl,rfl⟩ | ⟨rfl,rfl⟩ | ⟨rfl,rfl⟩
  ·go_wp2
   go_roundg 3
   case measure=>omega
   case rel=>exact ⟨rfl,.inr (.inl ⟨rfl,rfl⟩)⟩
  ·go_wp2
   go_roundg 2
   case measure=>omega
   case rel=>exact ⟨rfl,.inr (.inr (.inl ⟨rfl,rfl⟩))⟩
  ·go_wp2
   go_roundg 1
   case measure=>omega
   case rel=>exact ⟨rfl,.inr (.inr (.inr (.inl ⟨rfl,rfl⟩)))⟩
  ·go_wp2
   go_roundg 0
   case measure=>omega
   case rel=>exact ⟨rfl,.inr (.inr (.inr (.inr ⟨rfl,rfl⟩)))⟩
  ·clear i0 i1 i2 i3 u1 u2 u3 u4 u5 u6 u7 u8
   obtain rfl | rfl | rfl | rfl | rfl | rfl | rfl | rfl | rfl | rfl:kind=0\/kind=1\/kind=2\/kind=3\/kind=4\/kind=5\/kind=6\/kind=7\/kind=8\/kind=9:=by omega
   ·go_wp2
    go_ret
    exact ⟨rfl,zR _ _⟩
   ·go_wp2
    go_ret
    exact ⟨rfl,zR _ _⟩
   ·go_wp2
    go_ret
    exact ⟨rfl,zR _ _⟩
   ·go_wp2
    go_ret
    exact ⟨rfl,zR _ _⟩
   ·go_wp2
    go_ret
    exact ⟨rfl,zR _ _⟩
   ·go_wp2
    go_ret
    exact ⟨rfl,zR _ _⟩
   ·have aa:=nearest_ok (a+b-c) a b c w.heap.size 3 (w.alloc (.cells #[.int .i64 a,.int .i64 b,.int .i64 c] 3)) (by unfold midP;omega) (by unfold midP;omega) (by unfold midP;omega) (by unfold midP;omega) (by simp [go_sem]) (by simp [go_sem]) (by simp [go_sem])
    go_wp2_with (go_at_call 245;refine aa.mono ?_;rintro e w' ⟨rfl,rfl⟩)
    go_ret
    exact ⟨rfl,(zR _ _).alloc _⟩
   ·go_wp2
    all_goals
     go_ret
     exact ⟨congrArg (fun z=>Ending.returned (.int .i64 z)) (show _=max (min a b) (min (max a b) (a+b-c)) by omega),zR _ _⟩
   ·go_wp2
    all_goals
     go_ret
     exact ⟨congrArg (fun z=>Ending.returned (.int .i64 z)) (show _=min (max (a+b-c) 0) (2^d-1) by omega),zR _ _⟩
   ·go_wp2
    go_ret
    exact ⟨rfl,zR _ _⟩
theorem Row.zeros (w:World) (n:Nat) (h:n<=1048576):Row (w.alloc (.cells (List.replicate n (Value.int .i64 0)).toArray 3)) 3 (.slice (some ⟨w.heap.size,0,none⟩) n n) w.heap.size ((fillL [] n).map vi):=by
 have:=Row.made w 3 (List.replicate n (Value.int .i64 0)) (by simp [maxLen];omega)
 rw [fillL_nil,List.map_replicate]
 simpa [vi] using this
theorem Row.fill {w:World} {v:Value} {g:Nat} {done:List Int} {n:Nat} (h:Row w 3 v g ((fillL done n).map vi)) (hl:done.length<n) (x:Int) :
  Row (w.setCell ⟨g,done.length,none⟩ (.int .i64 x)) 3 v g ((fillL (done++[x]) n).map vi):=by
 have h1:=h.set_ (i:=done.length) (by rw [zE,fillL_len (by omega)];exact hl) (vi x)
 rw [<-List.map_set,fillL_set hl] at h1
 exact h1
theorem Row.fill_cell {w:World} {v:Value} {g:Nat} {done:List Int} {n:Nat} (h:Row w 3 v g ((fillL done n).map vi)) (hl:done.length<n) :
  w.cell? ⟨g,done.length,none⟩=some (.int .i64 0)/\w.frozen? ⟨g,done.length,none⟩=false:=by
 obtain ⟨aa,h1,h2,h3,h4,h5⟩:=h.open_map
 refine ⟨h4 done.length 0 ?_,h5 _⟩
 unfold fillL
 rw [zS (zQ _),Nat.sub_self,List.getElem?_replicate]
 rw [if_pos (by omega)]
theorem row_ok (l:List Int) (A:Option Addr) (cap W H y d kind:Nat) (w:World) (hw0:1<=W) (hw1:W<=64) (hh1:H<=64) (hy:y<H) (h0:1<=d) (h1:d<=16) (hk:kind<10) (hl:l.length=W*H) (hs:SmpOk d l) (hc:Cells vi w A l) :
  Calls Tryz.prog 196 #[.slice A l.length cap,.int .i64 W,.int .i64 y,.int .i64 d,.int .i64 kind] w fun e w'=>∃ v G,e=.returned v/\Own w' 3 v G ((rowL l W y d kind).map vi)/\Chg [] w w'/\∀ x∈G,w.heap.size<=x:=by
 have a4:=run_make1 (P:=Tryz.prog) int_elem rfl .i64 .i64 W (by omega) (by omega)
 have ag:=fun x (hx:x<W) w hc=>near_ok l A cap W x y w hw0 hw1 hx (by omega) (by
  rw [hl]
  have:(y+1)*W<=H*W:=Nat.mul_le_mul_right W hy
  rw [Nat.add_mul,Nat.one_mul] at this
  rw [zY W H]
  omega) hc (by rw [hl];exact Nat.le_trans (zL hw1 hh1) (by decide))
 have al:=fun x w=>one_ok kind (nbr l W x y) d w hk h0 h1 (nbr_ok hs W x y)
 have ak:∀ x,x<W->y*W+x<l.length:=fun x hx=>by
  rw [hl]
  have:(y+1)*W<=H*W:=Nat.mul_le_mul_right W hy
  rw [Nat.add_mul,Nat.one_mul] at this
  rw [zY W H]
  omega
 have aV:l.length<=4096:=by rw [hl];exact zL hw1 hh1
 obtain ⟨m,hm⟩:=zX (l.length)
 rw [<-hm] at ag ak aV ⊢
 obtain ⟨yw,ao⟩:=zX (y*W)
 have aP:(y:Int)*(W:Int)=(yw:Int):=by rw [ao];simp
 rw [<-ao] at ak
 have HN:=hid ag
 have HO:=hid al
 have aL:=hid ak
 have HS:=hid hs
 have HM:=hid hm
 have aK:=hid ao
 clear ag al ak hs hm hl ao
 go_enter Tryz.func196,Tryz.ntmps196
 go_wp2_with fail
 have ad:=Row.zeros w W (by omega)
 obtain ⟨B,hB⟩:=zX (w.heap.size)
 rw [<-hB] at ad ⊢
 have HB:=hid hB
 have aB:Chg [] w (w.alloc (.cells (List.replicate W (Value.int .i64 0)).toArray 3)):=(zR [] w).alloc _
 clear hB
 go_loopg [22] W (fun j iv wr=>∃ done:List Int,iv=.int .i64 done.length/\done.length+j=W/\Hid (done=(List.range done.length).map (restAt l W d kind y))/\Row wr 3 (.slice (some ⟨B,0,none⟩) W W) B ((fillL done W).map vi)/\Chg [] w wr)
 case atStart=>exact ⟨[],rfl,by simp,hid (by simp),ad,aB⟩
 case round =>
  obtain ⟨done,rfl,am,Hd,ab,av⟩:=hrel
  clear ad aB
  obtain ⟨m1,aj⟩:=zX (done.length)
  rcases gk with _ | j
  ·rw [<-aj] at am ⊢
   obtain rfl:m1=W:=by omega
   have t1:decide ((m1:Int)<(m1:Int))=false:=by simp
   have ac:=hid aj
   clear aj am
   go_wp2
   go_ret
   refine ⟨_,[B],rfl,?_,av,fun x hx=>by have:=HB.out;simp at hx;omega⟩
   have e:fillL done m1=rowL l m1 y d kind:=by
    rw [fillL_full ac.out.symm,Hd.out,<-ac.out]
    rfl
   rw [<-e]
   exact ab.toOwn
  ·obtain ⟨aD,aH⟩:=ab.fill_cell (by omega)
   have af:=fun x=>ab.fill (by omega) x
   have ah:∀ x,x=restAt l W d kind y m1->done++[x]=(List.range (m1+1)).map (restAt l W d kind y):=fun x hx=>by
    rw [hx,List.range_succ,zM,aj,<-Hd.out]
    rfl
   rw [<-aj] at am aD aH af ⊢
   have aG:m1<W:=by omega
   have ak:=aL.out m1 aG
   have ap:=hc.same av
   obtain ⟨b,o,rfl,aY,aM⟩:=ap.ex (by rw [<-HM.out];omega)
   have a0:b≠B:=by
    intro e
    subst e
    obtain ⟨b',o',e',aZ,_⟩:=hc.ex (by rw [<-HM.out];omega)
    injection e' with e'
    injection e' with e' _ _
    have:=HB.out
    omega
   obtain ⟨q,hq⟩:=zX (yw+m1)
   have a2:(yw:Int)+(m1:Int)=(q:Int):=by omega
   have ar:=HN.out m1 aG wr ap
   have aq:=HO.out m1
   have aa:restAt l W d kind y m1=wrapI (l.getD q 0-guessI kind (nbr l W m1 y) d) d:=by unfold restAt;rw [hq,aK.out]
   have ay:=guessI_ok (nbr_ok HS.out W m1 y) kind
   have au:=getD_ok HS.out q
   have aI:q<m:=by omega
   obtain ⟨aJ,aC⟩:=pow_d h0 h1
   have HP:=hid aC
   obtain ⟨g,hg⟩:=zX (nbr l W m1 y)
   rw [<-hg] at ar aq aa ay
   obtain ⟨gs,aE⟩:=zX (guessI kind g d)
   rw [<-aE] at aq aa ay
   obtain ⟨v,hv⟩:=zX (l.getD q 0)
   rw [<-hv] at aa au
   have aQ:=hid ah
   have az:=hid aa
   have aX:=hid af
   have an:=hid am
   have ac:=hid aj
   have aA:∀ w',Chg [] wr w'->w'.cell? ⟨b,o+q,none⟩=some (.int .i64 v):=fun w' h'=>by
    obtain ⟨b',o',e',_,ax⟩:=(ap.same h').ex (by rw [<-HM.out];omega)
    injection e' with e'
    injection e' with e1 e2 _
    subst e1
    subst e2
    rw [Cells.vi_getD ax (by rw [<-HM.out];exact aI),<-hv]
   have aU:=hid aA
   have aW : -65536<=v-gs:=by omega
   have a3:v-gs<=65536:=by omega
   have aO:=hid au
   clear ah aa af aA hv aE hg aM hq am aj ay ap aJ aC
   go_wp2_with fail
   refine ar.mono ?_
   rintro e w1 ⟨rfl,nq,rfl⟩
   go_wp2_with fail
   refine (aq (wr.drewN nq)).mono ?_
   rintro e w2 ⟨rfl,aN⟩
   have ae:Chg [] wr w2:=((zR [] wr).drewN nq).trans_same aN
   have aR:=aU.out w2 ae
   have aT:w2.cell? ⟨B,m1,none⟩=some (.int .i64 0):=by
    have:=(ab.chg ae (by simp)).fill_cell (by have:=an.out;have:=ac.out;omega)
    rw [ac.out]
    exact this.1
   have aS:w2.frozen? ⟨B,m1,none⟩=false:=by
    have:=(ab.chg ae (by simp)).fill_cell (by have:=an.out;have:=ac.out;omega)
    rw [ac.out]
    exact this.2
   have aF:=wrap_ok (v-gs) d w2 h0 h1
   obtain ⟨rv,aw⟩:=zX (wrapI (v-gs) d)
   rw [<-aw] at aF az
   have a1:=hid aw
   clear aD aH aw ar aq
   have au:=aO.out
   go_wp2_with fail
   refine aF.mono ?_
   rintro e w3 ⟨rfl,rfl⟩
   go_wp2_with fail
   go_roundg j
   case measure=>omega
   case rel =>
    have ai:=(ab.chg ae (by simp)).fill (by have:=an.out;have:=ac.out;omega) rv
    refine ⟨done++[rv],?_,?_,hid ?_,?_,?_⟩
    ·rw [zC,List.length_singleton,<-ac.out];go_num
    ·rw [zC,List.length_singleton,<-ac.out];have:=an.out;omega
    ·rw [zC,List.length_singleton,<-ac.out]
     exact aQ.out rv az.out.symm
    ·rw [<-ac.out] at ai
     exact ai
    ·exact (av.trans_same ae).setCell (.inr (by have:=HB.out;simp;omega)) _
theorem weight_ok (l:List Int) (A:Option Addr) (cap d:Nat) (w:World) (h0:1<=d) (h1:d<=16) (hl:l.length<=65536) (hc:Cells vi w A l) :
  Calls Tryz.prog 195 #[.slice A l.length cap,.int .i64 d] w fun e w'=>e=.returned (.int .i64 (weightI l d))/\w=w':=by
 obtain ⟨n,hn⟩:=zX (l.length)
 rw [<-hn] at hl ⊢
 have HN:=hid hn
 clear hn
 go_enter Tryz.func195,Tryz.ntmps195
 go_wp2_with fail
 go_loopg [5,10] n (fun j s i wr=>j<=n/\i=.int .i64 ((n-j:Nat):Int)/\s=.int .i64 (weightI (l.take (n-j)) d)/\w=wr)
 case atStart=>exact ⟨zQ _,by simp,by simp [weightI],rfl⟩
 case round =>
  obtain ⟨hj,rfl,rfl,rfl⟩:=hrel
  rcases gk with _ | j
  ·have t4:decide (((n-0:Nat):Int)<(n:Int))=false:=by simp
   have e:l.take n=l:=by rw [HN.out,zN]
   rw [Nat.sub_zero,e]
   go_wp2
   go_ret
   exact ⟨rfl,rfl⟩
  ·obtain ⟨m,ai⟩:=zX (n-(j+1))
   rw [<-ai]
   have an:m<n:=by omega
   have ak:n-j=m+1:=by omega
   have HM:=hid ak
   clear ai ak
   have ae:m<l.length:=by rw [<-HN.out];exact an
   obtain ⟨b,o,rfl,aa⟩:=hc.at_ ae
   have ab:=weightI_snoc (l.take m) l[m] d
   rw [<-take_snoc' l ae] at ab
   have ac:=weightI_ok h0 h1 (l.take m)
   rw [zI] at ac
   obtain ⟨x,hx⟩:=zX (l[m])
   rw [<-hx] at aa ab
   have ad:w.cell? ⟨b,o+m,none⟩=some (.int .i64 x):=aa
   obtain ⟨s,hs⟩:=zX (weightI (l.take m) d)
   rw [<-hs] at ab ac ⊢
   have ar:0<=s:=ac.1
   have ao:s<=2147483648:=by omega
   have al:=fold_ok x d w h0 h1
   have am:=foldI_range x h0
   have ha:=absFold_ok h0 h1 x
   have ag:absFold d x=distI (foldI x d) 0:=rfl
   obtain ⟨f,hf⟩:=zX (foldI x d)
   rw [<-hf] at al ag am
   have af:(2:Int)^(d-1)<=2^15:=by
    have:=Nat.pow_le_pow_right (n:=2) (by decide) (show d-1<=15 by omega)
    exact_mod_cast this
   have ah:=dist_ok f 0 w (by unfold midP;omega) (by unfold midP;omega)
   rw [<-ag] at ah
   obtain ⟨a,aj⟩:=zX (absFold d x)
   rw [<-aj] at ah ha ab
   obtain ⟨aq,ap⟩:=ha
   have HS:=hid ab
   clear ab aa hx hs ac ae am ag hf aj af
   go_wp2_with (first | (go_at_call 84;refine al.mono ?_;rintro e w' ⟨rfl,rfl⟩) | (go_at_call 247;refine ah.mono ?_;rintro e w' ⟨rfl,rfl⟩))
   go_roundg j
   case measure=>omega
   case rel =>
    rw [HM.out,HS.out]
    exact ⟨by omega,by go_num,rfl,rfl⟩
def bkI (l:List Int) (W d y:Nat):Int:=((bestUp l W y d 9:Nat):Int)
theorem bestKinds_vi (l:List Int) (W H d:Nat):((List.range H).map (bkI l W d)).map vi=(bestKinds l W H d).map i64:=by
 unfold bestKinds
 rw [List.map_map,List.map_map]
 rfl
theorem fillL_set0 (done:List Int) (n:Nat):(fillL done n).set done.length 0=fillL done n:=by
 unfold fillL
 rw [List.set_append_right _ _ (zQ _),Nat.sub_self]
 congr 1
 rcases Nat.eq_zero_or_pos (n-done.length) with h | h
 ·rw [h];rfl
 ·obtain ⟨k,hk⟩:∃ k,n-done.length=k+1:=⟨n-done.length-1,by omega⟩
  rw [hk]
  rfl
theorem gbest_ok (l:List Int) (A:Option Addr) (cap W H d:Nat) (w:World) (hw0:1<=W) (hw1:W<=64) (hh0:1<=H) (hh1:H<=64) (h0:1<=d) (h1:d<=16) (hl:l.length=W*H) (hs:SmpOk d l) (hc:Cells vi w A l) :
  Calls Tryz.prog 148 #[.slice A l.length cap,.int .i64 W,.int .i64 H,.int .i64 d] w fun e w'=>∃ v G,e=.returned v/\Own w' 3 v G ((bestKinds l W H d).map i64)/\Chg [] w w'/\∀ x∈G,w.heap.size<=x:=by
 have bf:=run_make1 (P:=Tryz.prog) int_elem rfl .i64 .i64 H (by omega) (by omega)
 have aK:=isPlane_yes l A cap W H d w hw0 hw1 hh0 hh1 h0 h1 hl hs hc
 have ai:=fun y (hy:y<H) k (hk:k<10) w hc=>row_ok l A cap W H y d k w hw0 hw1 hh1 hy h0 h1 hk hl hs hc
 have aY:=fun y k A cap w hc=>weight_ok (rowL l W y d k) A cap d w h0 h1 (by rw [rowL_len];omega) hc
 obtain ⟨m,hm⟩:=zX (l.length)
 rw [<-hm] at ai aK ⊢
 have HR:=hid ai
 have aV:=hid aY
 have HM:=hid hm
 clear ai aY hm hl hs
 go_enter Tryz.func148,Tryz.ntmps148
 go_wp2_with (go_at_call 194;refine aK.mono ?_;rintro e w' ⟨rfl,rfl⟩)
 have ab:=Row.zeros w H (by omega)
 obtain ⟨B,hB⟩:=zX (w.heap.size)
 rw [<-hB] at ab ⊢
 have HB:=hid hB
 have aM:Chg [] w (w.alloc (.cells (List.replicate H (Value.int .i64 0)).toArray 3)):=(zR [] w).alloc _
 clear hB aK
 go_loopg [24] H (fun j iv wr=>∃ done:List Int,iv=.int .i64 done.length/\done.length+j=H/\Hid (done=(List.range done.length).map (bkI l W d))/\Row wr 3 (.slice (some ⟨B,0,none⟩) H H) B ((fillL done H).map vi)/\Chg [] w wr)
 case atStart=>exact ⟨[],rfl,by simp,hid (by simp),ab,aM⟩
 case round =>
  obtain ⟨done,rfl,ay,Hd,aG,aJ⟩:=hrel
  clear ab aM
  obtain ⟨m1,an⟩:=zX (done.length)
  rcases gk with _ | j
  ·rw [<-an] at ay ⊢
   obtain rfl:m1=H:=by omega
   have t1:decide ((m1:Int)<(m1:Int))=false:=by simp
   have ar:=hid an
   clear an ay
   go_wp2
   go_ret
   refine ⟨_,[B],rfl,?_,aJ,fun x hx=>by have:=HB.out;simp at hx;omega⟩
   have e:fillL done m1=(List.range m1).map (bkI l W d):=by
    rw [fillL_full ar.out.symm,Hd.out,<-ar.out]
   rw [<-bestKinds_vi,<-e]
   exact aG.toOwn
  ·have af:done++[bkI l W d m1]=(List.range (m1+1)).map (bkI l W d):=by
    rw [List.range_succ,zM,an,<-Hd.out]
    rfl
   have ac:=fillL_set0 done H
   have ap:=fillL_set (done:=done) (n:=H) (by omega) (bkI l W d m1)
   have aC:=fillL_len (done:=done) (n:=H) (by omega)
   rw [<-an] at ay ac ap ⊢
   have aH:m1<H:=by omega
   have a4:=hid af
   have aI:=hid ap
   have aZ:=hid aC
   have ar:=hid an
   have a0:=hid ay
   have aR:=hc.same aJ
   have aW:=HR.out m1 aH 0 (by omega) wr aR
   rw [<-ac] at aG
   clear af ap ac aC an ay aR
   go_wp2_with fail
   refine aW.mono ?_
   rintro e w1 ⟨v1,G1,rfl,ad,aX,bg⟩
   have am:=aV.out m1 0
   have aT:=bestUp_le l W m1 d
   obtain ⟨r0,ao⟩:=zX (rowL l W m1 d 0)
   rw [<-ao] at ad am
   obtain ⟨A1,c1,rfl,-,-,az⟩:=ad.open_map
   have aA:=am A1 c1 w1 az
   have a5:=hid ao
   clear aW am ao
   go_wp2_with fail
   refine aA.mono ?_
   rintro e be ⟨rfl,rfl⟩
   have au:Chg [] w w1:=aJ.trans_same aX
   have aw:=aG.chg aX (by simp)
   have bd:=hid aT
   clear ad az aA aT aG
   go_wp2_with fail
   go_loopg [11,12] 9 (fun q lv kv wx=>q<=9/\kv=.int .i64 ((10-q:Nat):Int)/\lv=.int .i64 (weightI (rowL l W m1 d (bestUp l W m1 d (9-q))) d)/\Row wx 3 (.slice (some ⟨B,0,none⟩) H H) B (((fillL done H).set m1 ((bestUp l W m1 d (9-q):Nat):Int)).map vi)/\Chg [] w wx)
   case atStart=>exact ⟨zQ _,rfl,by rw [a5.out];rfl,aw,au⟩
   case round =>
    obtain ⟨hq,rfl,rfl,ag,ae⟩:=hrel
    clear aw au
    rcases gk with _ | q
    ·have t2:decide (((10-0:Nat):Int)<(10:Int))=false:=by simp
     rw [Nat.sub_zero] at ag
     go_wp2
     go_roundg j
     case measure=>omega
     case rel =>
      refine ⟨done++[bkI l W d m1],?_,?_,hid ?_,?_,ae⟩
      ·rw [zC,List.length_singleton,<-ar.out];go_num
      ·rw [zC,List.length_singleton,<-ar.out];have:=a0.out;omega
      ·rw [zC,List.length_singleton,<-ar.out]
       exact a4.out
      ·rw [<-aI.out]
       exact ag
    ·obtain ⟨k,hk⟩:=zX (9-(q+1))
     rw [<-hk] at ag ⊢
     have aU:10-(q+1)=k+1:=by omega
     have aP:9-q=k+1:=by omega
     have aO:10-q=k+2:=by omega
     have a2:k+1<10:=by omega
     rw [aU]
     have aS:=hid aP
     have aL:=hid aO
     have aq:bestUp l W m1 d (k+1)=if weightI (rowL l W m1 d (k+1)) d<weightI (rowL l W m1 d (bestUp l W m1 d k)) d then k+1 else bestUp l W m1 d k:=rfl
     have aE:=HR.out m1 aH (k+1) a2 wr (hc.same ae)
     have aF:=aV.out m1 (k+1)
     have aB:((k+1:Nat):Int)=(k:Int)+1:=by omega
     rw [aB] at aE ⊢
     obtain ⟨r1,ak⟩:=zX (rowL l W m1 d (k+1))
     rw [<-ak] at aE aF aq
     obtain ⟨b,hb⟩:=zX (bestUp l W m1 d k)
     rw [<-hb] at aq ag ⊢
     obtain ⟨t,ht⟩:=zX (weightI (rowL l W m1 d b) d)
     rw [<-ht] at aq ⊢
     obtain ⟨s,hs⟩:=zX (weightI r1 d)
     rw [<-hs] at aF aq
     have aN:=hid aq
     have bc:=hid hb
     have HT:=hid ht
     have a1:=hid hs
     have a3:=hid ak
     obtain ⟨_,aj,_⟩:=ag.open_
     have aC:=aZ.out
     have aQ:∀ w',Chg [] wr w'->w'.cell? ⟨B,m1,none⟩=some (.int .i64 b)/\w'.frozen? ⟨B,m1,none⟩=false:=fun w' h'=>by
      obtain ⟨a7,h2,h3,h4,h5,h6⟩:=(ag.chg h' (by simp)).open_map
      refine ⟨h5 m1 (b:Int) ?_,h6 m1⟩
      rw [List.getElem?_set_self (by rw [aC];exact aH)]
     have a8:=hid aQ
     clear aq hb ht hs ak hk aU aP aO aC aQ aj
     go_wp2_with fail
     refine aE.mono ?_
     rintro e w2 ⟨v2,G2,rfl,ah,ax,bb⟩
     obtain ⟨A2,c2,rfl,-,-,aD⟩:=ah.open_map
     have av:=aF A2 c2 w2 aD
     obtain ⟨ba,a6⟩:=a8.out w2 ax
     clear aE aF ah aD
     by_cases hlt:s<t
     ·have t3:decide (s<t)=true:=zB hlt
      have aa:=aN.out
      rw [if_pos hlt] at aa
      have al:=hid aa
      clear aa hlt
      go_wp2_with fail
      refine av.mono ?_
      rintro e a9 ⟨rfl,rfl⟩
      go_wp2_with fail
      go_roundg q
      case measure=>omega
      case rel =>
       rw [aS.out,aL.out,al.out,<-a3.out,<-a1.out]
       have h1:=(ag.chg ax (by simp)).set_ (i:=m1) (by rw [zE,List.length_set,aZ.out];exact aH) (vi ((k+1:Nat):Int))
       rw [<-List.map_set,List.set_set] at h1
       refine ⟨by omega,by go_num,rfl,?_,(ae.trans_same ax).setCell (.inr (by have:=HB.out;simp;omega)) _⟩
       have e7:vi ((k+1:Nat):Int)=.int .i64 ((k:Int)+1):=by unfold vi;go_num
       rw [e7] at h1
       exact h1
     ·have t3:decide (s<t)=false:=zA hlt
      have aa:=aN.out
      rw [if_neg hlt] at aa
      have al:=hid aa
      clear aa hlt
      go_wp2_with fail
      refine av.mono ?_
      rintro e a9 ⟨rfl,rfl⟩
      go_wp2_with fail
      go_roundg q
      case measure=>omega
      case rel =>
       rw [aS.out,aL.out,al.out,<-HT.out]
       exact ⟨by omega,by go_num,rfl,ag.chg ax (by simp),ae.trans_same ax⟩
theorem Row.room (w:World) (n:Nat) (h:n<=1048576):Row (w.alloc (.cells (List.replicate n (Value.int .i64 0)).toArray 3)) 3 (.slice (some ⟨w.heap.size,0,none⟩) 0 n) w.heap.size [] :=
 ⟨n,_,rfl,Blk.new w _ _,Nat.zero_le _,by simp [maxLen];omega,by simp,by simp⟩
theorem run_make_room {P:Program} {t e:TypeId} {z:Value} {bytes:Nat} (E:Elem P t e z 1 bytes) (hzs:z.cells=#[z]) (kl kc:IntKind) (n:Nat) (hb:bytes*n<=281474976710656) (h63:n<=9223372036854775807) (w:World) :
  (Instr.makeSlice t (.int kl 0) (.int kc (n:Int))).run P w=.ok (.slice (some ⟨w.heap.size,0,none⟩) 0 n) (w.alloc (.cells (List.replicate n z).toArray e)):=by
 obtain ⟨i,hi,hz,aa,ab⟩:=E.hi
 subst ab
 have ac:(i.bytes:Int)*(n:Int)<=281474976710656:=by
  have h:((i.bytes*n:Nat):Int)<=281474976710656:=by omega
  rwa [Int.natCast_mul] at h
 have hr:=run_make (P:=P) w t e i z E.ht hi hz kl kc 0 n (by omega) (by omega) ac (by omega)
 rw [hr,aa,hzs]
 simp only [Int.toNat_natCast,Nat.mul_one]
 have:madeCells #[z] n=(List.replicate n z).toArray:=by
  apply Array.toList_inj.1
  rw [toList_madeCells_one]
 rw [this]
 rfl
theorem gfore_ok (l:List Int) (A:Option Addr) (cap W H d:Nat) (ks:List Nat) (Ak:Option Addr) (capk:Nat) (w:World) (hw0:1<=W) (hw1:W<=64) (hh0:1<=H) (hh1:H<=64) (h0:1<=d) (h1:d<=16) (hl:l.length=W*H) (hs:SmpOk d l) (hc:Cells vi w A l)
  (hkl:ks.length=H) (hks:∀ k∈ks,k<10) (hck:Cells i64 w Ak ks) :
  Calls Tryz.prog 149 #[.slice A l.length cap,.int .i64 W,.int .i64 H,.int .i64 d,.slice Ak ks.length capk] w fun e w'=>∃ v G,e=.returned (.tuple #[v,.int .i64 0])/\Own w' 3 v G ((foreL l W H d ks).map vi)/\Chg [] w w'/\∀ x∈G,w.heap.size<=x:=by
 have aF:l.length<=4096:=by rw [hl];exact zL hw1 hh1
 have aE:=run_make_room (P:=Tryz.prog) int_elem rfl .i64 .i64 l.length (by omega) (by omega)
 have ak:=isPlane_yes l A cap W H d w hw0 hw1 hh0 hh1 h0 h1 hl hs hc
 have al:=areKinds_yes ks Ak capk w hks (by omega) hck
 rw [hkl] at al
 have af:=fun y (hy:y<H) k (hk:k<10) w hc=>row_ok l A cap W H y d k w hw0 hw1 hh1 hy h0 h1 hk hl hs hc
 obtain ⟨m,hm⟩:=zX (l.length)
 rw [<-hm] at af ak aE aF ⊢
 rw [hkl]
 have HR:=hid af
 have aA:=hid hks
 have HM:=hid hm
 have aB:=hid hkl
 have an:=hl
 rw [<-hm] at an
 have aG:=hid an
 clear af hm hl hs hks hkl an
 go_enter Tryz.func149,Tryz.ntmps149
 go_wp2_with (first | (go_at_call 194;refine ak.mono ?_;rintro e w' ⟨rfl,rfl⟩) | (go_at_call 197;refine al.mono ?_;rintro e w' ⟨rfl,rfl⟩))
 have ab:=(Row.room w m (by omega)).toOwn
 obtain ⟨B,hB⟩:=zX (w.heap.size)
 rw [<-hB] at ab ⊢
 have HB:=hid hB
 have av:Chg [] w (w.alloc (.cells (List.replicate m (Value.int .i64 0)).toArray 3)):=(zR [] w).alloc _
 clear hB ak al
 go_loopg [12,32] H (fun j ov iv wr=>∃ (out:List Int) (G:List Nat),j<=H/\iv=.int .i64 ((H-j:Nat):Int)/\Own wr 3 ov G (out.map vi)/\Hid (out=(List.range (H-j)).flatMap (fun y=>rowL l W y d (ks.getD y 0)))/\Chg [] w wr/\∀ x∈G,w.heap.size<=x)
 case atStart=>exact ⟨[],[B],zQ _,by simp,ab,hid (by simp),av,fun x hx=>by have := HB.out;simp at hx;omega⟩
 case round =>
  obtain ⟨out,G,hj,rfl,ae,Ho,ag,hG⟩:=hrel
  obtain ⟨Ao,co,rfl,-,-,-⟩:=ae.open_map
  have HG:=hid hG
  clear hG ab av
  rcases gk with _ | j
  ·have t4:decide (((H-0:Nat):Int)<(H:Int))=false:=by simp
   go_wp2
   go_ret2
   refine ⟨_,G,rfl,?_,ag,HG.out⟩
   have e:=Ho.out
   rw [Nat.sub_zero] at e
   rw [e] at ae
   rw [e]
   exact ae
  ·obtain ⟨i,aq⟩:=zX (H-(j+1))
   rw [<-aq] at Ho ⊢
   have aw:i<H:=by omega
   have ax:H-j=i+1:=by omega
   have HI:=hid ax
   clear aq ax
   have ai:i<ks.length:=by rw [aB.out];exact aw
   obtain ⟨g,o,rfl,ac⟩:=(hck.same ag).at_ ai
   have hk:=aA.out _ (zG ai)
   have ay:ks.getD i 0=ks[i]:=by rw [zD,zF ai];rfl
   have aa:(List.range (i+1)).flatMap (fun y=>rowL l W y d (ks.getD y 0))=out++rowL l W i d ks[i]:=by
    rw [List.range_succ,List.flatMap_append,<-Ho.out,List.flatMap_cons,List.flatMap_nil,List.append_nil,ay]
   obtain ⟨k,au⟩:=zX (ks[i])
   rw [<-au] at ac hk aa
   have aj:wr.cell? ⟨g,o+i,none⟩=some (.int .i64 k):=ac
   have hr:=HR.out i aw k hk wr (hc.same ag)
   have ap:=rowL_len l W i d k
   obtain ⟨r,ar⟩:=zX (rowL l W i d k)
   rw [<-ar] at hr aa ap
   have HS:=hid aa
   have aD:=hid ap
   have aI:out.length<=4096:=by
    have aH:=aG.out
    rw [Ho.out,flatMap_len_const _ W _ fun y _=>rowL_len _ _ _ _ _,List.length_range]
    have:=Nat.mul_le_mul_left W (show i<=H by omega)
    omega
   clear au ai ay aa ar ac ap
   go_wp2_with fail
   refine hr.mono ?_
   rintro e w1 ⟨v1,G1,rfl,ad,ao,aJ⟩
   obtain ⟨A1,c1,rfl,-,-,am⟩:=ad.open_map
   have ah:=ae.same ao
   have az:Cells (fun u=>u) w1 A1 (r.map vi):=by
    obtain ⟨A',c',h5,_,_,h6,_⟩:=ad.open_
    injection h5 with h5
    subst h5
    exact h6
   have aC:r.length<=64:=by rw [aD.out];exact hw1
   clear hr ad am
   go_wp2_with (at_builtin;refine wpList_append_s rfl rfl int_elem rfl rfl ah (r.map vi) r.length rfl ?c1 ?c2 ?c3 ?c4 ?c5 ?_)
   case c1=>exact (zE _).symm
   case c2=>exact az
   case c3=>exact vi_one _
   case c4=>rw [zE,zE];omega
   case c5=>rw [zE,zE];omega
   intro v' F' w2 h2 h3
   go_wp2_with fail
   go_roundg j
   case measure=>omega
   case rel =>
    rw [HI.out]
    refine ⟨out++r,F',by omega,by go_num,?_,hid HS.out.symm,(ag.trans_same ao).trans h3.chg fun x hx => .inr (HG.out x hx),fun x hx => ?_⟩
    ·rw [zM]
     exact h2
    ·rcases h3.new x hx with h9 | h9
     ·exact HG.out x h9
     ·have:=ag.size
      have:=ao.size
      omega
structure DSt where
 runs:List Nat
 dists:List Nat
 longest:Nat
structure DSt.Ok (s:DSt):Prop where
 rl:s.runs.length=1025
 dl:s.dists.length=65
 r64:∀ x∈s.runs,x<=64
 d1024:∀ x∈s.dists,x<=1024
 l64:s.longest<=64
def fillD:Nat->List Nat->Nat->Nat->List Nat
 | 0,D,_,_=>D
 | f+1,D,m,d=>fillD f (D.set (m+1) d) (m+1) d
theorem fillD_len:∀ f D m d,(fillD f D m d).length=D.length
 | 0,_,_,_=>rfl
 | f+1,D,m,d=>by rw [fillD,fillD_len,List.length_set]
theorem mem_set_le {l:List Nat} {i v B:Nat} (h:∀ x∈l,x<=B) (hv:v<=B):∀ x∈l.set i v,x<=B:=fun x hx=>by
 rcases List.mem_or_eq_of_mem_set hx with h1 | h1
 ·exact h x h1
 ·omega
theorem fillD_le {B:Nat}:∀ f D m d,(∀ x∈D,x<=B)->d<=B->∀ x∈fillD f D m d,x<=B
 | 0,_,_,_,h,_=>h
 | f+1,D,m,d,h,hd=>fillD_le f _ _ d (mem_set_le h hd) hd
def runAt (l:List Int) (at_:Nat) (rs:List Nat) (d:Nat):Nat:=if l.getD at_ 0=l.getD (at_-d) 0 then min (rs.getD d 0+1) 64 else 0
theorem runAt_le (l:List Int) (at_:Nat) (rs:List Nat) (d:Nat):runAt l at_ rs d<=64:=by
 unfold runAt
 split<;>omega
def dStep (l:List Int) (at_:Nat) (s:DSt) (d:Nat):DSt :=
 ⟨s.runs.set d (runAt l at_ s.runs d),fillD (runAt l at_ s.runs d-s.longest) s.dists s.longest d,max s.longest (runAt l at_ s.runs d)⟩
theorem dStep_ok {l:List Int} {at_ d:Nat} {s:DSt} (h:s.Ok) (hd:d<=1024):(dStep l at_ s d).Ok:=by
 have:=runAt_le l at_ s.runs d
 exact ⟨by simp [dStep,h.rl],by simp [dStep,fillD_len,h.dl],mem_set_le h.r64 this,fillD_le _ _ _ _ h.d1024 hd,by have:=h.l64;simp only [dStep];omega⟩
def dGo (l:List Int) (at_:Nat):Nat->Nat->DSt->DSt
 | 0,_,s=>s
 | f+1,d,s=>dGo l at_ f (d+1) (dStep l at_ s d)
theorem dGo_ok {l:List Int} {at_:Nat}:∀ f d s,s.Ok->d+f<=1025->(dGo l at_ f d s).Ok
 | 0,_,_,h,_=>h
 | f+1,d,s,h,hd=>dGo_ok f (d+1) _ (dStep_ok h (by omega)) (by omega)
def dStart (rs:List Nat):DSt:=⟨rs,List.replicate 65 0,0⟩
def distF (l:List Int) (at_:Nat) (rs:List Nat):DSt:=dGo l at_ (min at_ 1024) 1 (dStart rs)
def RunsOk (rs:List Nat):Prop:=rs.length=1025/\∀ x∈rs,x<=64
theorem dStart_ok {rs:List Nat} (h:RunsOk rs):(dStart rs).Ok :=
 ⟨h.1,by simp [dStart],h.2,fun x hx=>by rw [List.eq_of_mem_replicate hx];exact Nat.zero_le _,Nat.zero_le _⟩
theorem distF_ok {l:List Int} {at_:Nat} {rs:List Nat} (h:RunsOk rs):(distF l at_ rs).Ok:=dGo_ok _ _ _ (dStart_ok h) (by omega)
structure DSt.In (s:DSt) (B:Nat):Prop where
 rb:∀ x∈s.runs,x<=B
 lb:s.longest<=B
 db:∀ n,s.dists.getD n 0≠0->n<=s.longest
theorem getD_set (l:List Nat) (i v j:Nat):(l.set i v).getD j 0=if i=j/\i<l.length then v else l.getD j 0:=by
 rw [zD,zD,List.getElem?_set]
 by_cases h:i=j
 ·subst h
  by_cases h2:i<l.length
  ·simp [h2]
  ·simp [h2]
 ·simp [h]
theorem fillD_in:∀ f D m d n,(∀ n,D.getD n 0≠0->n<=m)->(fillD f D m d).getD n 0≠0->n<=m+f
 | 0,_,_,_,n,h,hn=>h n hn
 | f+1,D,m,d,n,h,hn=>by
  have:=fillD_in f (D.set (m+1) d) (m+1) d n (fun k hk=>by
   rw [getD_set] at hk
   split at hk
   ·omega
   ·have:=h k hk;omega) hn
  omega
theorem dStep_in {l:List Int} {at_ d B:Nat} {s:DSt} (h:s.In B) (hr:runAt l at_ s.runs d<=B):(dStep l at_ s d).In B:=by
 refine ⟨mem_set_le h.rb hr,?_,fun n hn => ?_⟩
 ·have:=h.lb;simp only [dStep];omega
 ·have:=fillD_in _ _ _ _ n h.db hn
  simp only [dStep]
  omega
theorem dGo_in {l:List Int} {at_ B:Nat}:∀ f d s,s.In (B+1)->(∀ k,d<=k->s.runs.getD k 0<=B)->(dGo l at_ f d s).In (B+1)
 | 0,_,_,h,_=>h
 | f+1,d,s,h,hb=>by
  have h1:=hb d (zQ _)
  have hr:runAt l at_ s.runs d<=B+1:=by
   unfold runAt
   split<;>omega
  refine dGo_in f (d+1) _ (dStep_in h hr) fun k hk => ?_
  show (s.runs.set d _).getD k 0<=B
  rw [getD_set,if_neg (by omega)]
  exact hb k (by omega)
theorem distF_in {l:List Int} {at_ B:Nat} {rs:List Nat} (h:∀ x∈rs,x<=B):(distF l at_ rs).In (B+1):=by
 have hg:∀ k,rs.getD k 0<=B:=fun k=>by
  rcases zZ k rs.length with hk | hk
  ·rw [zD,zF hk];exact h _ (zG hk)
  ·rw [zD,List.getElem?_eq_none hk];exact Nat.zero_le _
 refine dGo_in _ _ _ ⟨fun x hx=>by have:=h x hx;omega,Nat.zero_le _,fun n hn => ?_⟩ fun k _=>hg k
 exfalso
 apply hn
 show (List.replicate 65 0).getD n 0=0
 rw [zD,List.getElem?_replicate]
 split<;>rfl
structure LSt where
 costs:List Nat
 first:List Tok
 runs:List Nat
def lOne (cp at_:Nat) (D:List Nat) (n:Nat) (s:List Nat × List Tok):List Nat × List Tok :=
 if n<3\/D.getD n 0=0 then s else if s.1.getD (at_+n) 0+cp<=s.1.getD at_ 0 then (s.1.set at_ (s.1.getD (at_+n) 0+cp),s.2.set at_ ⟨n,D.getD n 0,0⟩) else s
def lPick (cp at_:Nat) (D:List Nat):Nat->Nat->List Nat × List Tok->List Nat × List Tok
 | 0,_,s=>s
 | f+1,n,s=>lPick cp at_ D f (n+1) (lOne cp at_ D n s)
def lBeg (l:List Int) (lit at_:Nat) (s:LSt):List Nat × List Tok:=(s.costs.set at_ (s.costs.getD (at_+1) 0+lit),s.first.set at_ ⟨0,0,l.getD at_ 0⟩)
def lStep (l:List Int) (lit cp at_:Nat) (s:LSt):LSt :=
 ⟨(lPick cp at_ (distF l at_ s.runs).dists 65 0 (lBeg l lit at_ s)).1,(lPick cp at_ (distF l at_ s.runs).dists 65 0 (lBeg l lit at_ s)).2,(distF l at_ s.runs).runs⟩
def lGo (l:List Int) (lit cp:Nat):Nat->LSt->LSt
 | 0,s=>s
 | k+1,s=>lGo l lit cp k (lStep l lit cp k s)
def lStart (n:Nat):LSt:=⟨List.replicate (n+1) 0,List.replicate n ⟨0,0,0⟩,List.replicate 1025 0⟩
def leastSt (l:List Int) (lit cp:Nat):LSt:=lGo l lit cp l.length (lStart l.length)
def tokAt (F:List Tok) (i:Nat):Tok:=F.getD i ⟨0,0,0⟩
def tokGo (F:List Tok) (n:Nat):Nat->Nat->List Tok
 | 0,_=>[]
 | f+1,i=>if i<n then tokAt F i::tokGo F n f (i+max (tokAt F i).len 1) else []
def leastF (l:List Int) (lit cp:Nat):List Tok:=tokGo (leastSt l lit cp).first l.length l.length 0
structure PairOk (n B:Nat) (p:List Nat × List Tok):Prop where
 cl:p.1.length=n+1
 fl:p.2.length=n
 cb:∀ x∈p.1,x<=B
 fo:∀ t∈p.2,t.ok
structure LSt.Ok (n lit k:Nat) (s:LSt):Prop where
 pair:PairOk n ((n-k)*lit) (s.costs,s.first)
 rl:s.runs.length=1025
 rb:∀ x∈s.runs,x<=64/\x<=n-k
theorem getD_le {l:List Nat} {B:Nat} (h:∀ x∈l,x<=B) (i:Nat):l.getD i 0<=B:=by
 rcases zZ i l.length with hk | hk
 ·rw [zD,zF hk];exact h _ (zG hk)
 ·rw [zD,List.getElem?_eq_none hk];exact Nat.zero_le _
theorem lOne_ok {n B cp at_:Nat} {D:List Nat} {m:Nat} {p:List Nat × List Tok} (h:PairOk n B p) (hm:m<=64) (hD:∀ x∈D,x<=1024):PairOk n B (lOne cp at_ D m p):=by
 unfold lOne
 split
 ·exact h
 ·rename_i h1
  split
  ·rename_i h2
   have h3:=getD_le h.cb at_
   have h4:=getD_le hD m
   refine ⟨by simp [h.cl],by simp [h.fl],mem_set_le h.cb (by omega),fun t ht => ?_⟩
   rcases List.mem_or_eq_of_mem_set ht with h5 | rfl
   ·exact h.fo t h5
   ·right
    rw [Tok.isCopy_iff]
    exact ⟨by simp only;omega,by simp only;omega,by simp only;omega,by simp only;omega,rfl⟩
  ·exact h
theorem lPick_ok {n B cp at_:Nat} {D:List Nat} (hD:∀ x∈D,x<=1024):∀ f m p,PairOk n B p->m+f<=65->PairOk n B (lPick cp at_ D f m p)
 | 0,_,_,h,_=>h
 | f+1,m,p,h,hm=>lPick_ok hD f (m+1) _ (lOne_ok h (by omega) hD) (by omega)
theorem lBeg_ok {l:List Int} {n lit k:Nat} {s:LSt} (h:s.Ok n lit (k+1)) (hk:k<n):PairOk n ((n-k)*lit) (lBeg l lit k s):=by
 have e:(n-k)*lit=(n-(k+1))*lit+lit:=by rw [show n-k=n-(k+1)+1 by omega,Nat.add_mul,Nat.one_mul]
 have h1:=getD_le h.pair.cb (k+1)
 rw [e]
 refine ⟨by simp [lBeg,h.pair.cl],by simp [lBeg,h.pair.fl],mem_set_le (fun x hx => ?_) (by simp only at h1;omega),fun t ht => ?_⟩
 ·have:=h.pair.cb x hx;omega
 ·rcases List.mem_or_eq_of_mem_set ht with h5 | rfl
  ·exact h.pair.fo t h5
  ·left
   rfl
theorem lStep_ok {l:List Int} {n lit cp k:Nat} {s:LSt} (h:s.Ok n lit (k+1)) (hk:k<n):(lStep l lit cp k s).Ok n lit k:=by
 have ab:RunsOk s.runs:=⟨h.rl,fun x hx=>(h.rb x hx).1⟩
 have hd:=distF_ok (l:=l) (at_:=k) ab
 have aa:=distF_in (l:=l) (at_:=k) (rs:=s.runs) (B:=n-(k+1)) (fun x hx=>(h.rb x hx).2)
 refine ⟨lPick_ok hd.d1024 65 0 _ (lBeg_ok h hk) (by omega),hd.rl,fun x hx=>⟨hd.r64 x hx,?_⟩⟩
 have:=aa.rb x hx
 omega
theorem lStart_ok (n lit:Nat):(lStart n).Ok n lit n :=
 ⟨⟨zV,zV,fun x hx=>by rw [List.eq_of_mem_replicate hx];exact Nat.zero_le _,fun t ht=>by rw [List.eq_of_mem_replicate ht];exact .inl rfl⟩,zV,fun x hx=>by rw [List.eq_of_mem_replicate hx];omega⟩
theorem lGo_ok {l:List Int} {n lit cp:Nat}:∀ k s,s.Ok n lit k->k<=n->(lGo l lit cp k s).Ok n lit 0
 | 0,_,h,_=>h
 | k+1,s,h,hk=>lGo_ok k _ (lStep_ok h (by omega)) (by omega)
theorem leastSt_ok (l:List Int) (lit cp:Nat):(leastSt l lit cp).Ok l.length lit 0:=lGo_ok _ _ (lStart_ok _ _) (zQ _)
theorem tokGo_ok {F:List Tok} (h:∀ t∈F,t.ok) {n:Nat} (hn:n<=F.length):∀ f i,∀ t∈tokGo F n f i,t.ok
 | 0,_,t,ht=>by simp [tokGo] at ht
 | f+1,i,t,ht=>by
  unfold tokGo at ht
  split at ht
  ·rename_i hi
   rcases zJ.1 ht with rfl | h1
   ·unfold tokAt
    rw [zD,zF (by omega)]
    exact h _ (zG _)
   ·exact tokGo_ok h hn f _ t h1
  ·simp at ht
theorem tokGo_len {F:List Tok} {n:Nat}:∀ f i,(tokGo F n f i).length<=f
 | 0,_=>by simp [tokGo]
 | f+1,i=>by
  unfold tokGo
  split
  ·have:=tokGo_len (F:=F) (n:=n) f (i+max (tokAt F i).len 1)
   simp only [zK]
   omega
  ·exact Nat.zero_le _
theorem leastF_ok (l:List Int) (lit cp:Nat):∀ t∈leastF l lit cp,t.ok :=
 tokGo_ok (leastSt_ok l lit cp).pair.fo (by rw [(leastSt_ok l lit cp).pair.fl];exact zQ _) _ _
theorem leastF_len (l:List Int) (lit cp:Nat):(leastF l lit cp).length<=l.length:=tokGo_len _ _
theorem rbitsAll_snoc (k:Nat) (l:List Int) (x:Int):rbitsAll k (l++[x])=rbitsAll k l++rbits k x:=by simp [rbitsAll]
theorem rput_ok (w:World) (b:Nat) (F bs:List Nat) (k:Nat) (l:List Int) (A:Option Addr) (cap:Nat) (h:IsWr w b F bs) (hk:k<=25) (hw:∀ x∈l,wideP x) (hc:Cells vi w A l)
  (hA:Apt A l F) (hlen:bs.length+65*l.length<274877906944) :
  Calls Tryz.prog 155 #[.pointer (some ⟨b,0,none⟩),.int .i64 k,.slice A l.length cap] w fun e w'=>e=.returned (.int .i64 0)/\∃ F',IsWr w' b F' (bs++rbitsAll k l)/\Grow F F' w w':=by
 have HW:=hid hw
 clear hw
 obtain ⟨n,hn⟩:=zX (l.length)
 rw [<-hn] at hlen ⊢
 have HN:=hid hn
 have HA:=hid hA
 clear hn hA
 go_enter Tryz.func155,Tryz.ntmps155
 go_wp2_with (go_at_call 206;refine (param_yes _ _ hk).mono ?_;rintro e w' ⟨rfl,rfl⟩)
 go_loopg [18] n (fun j i wr=>j<=n/\i=.int .i64 ((n-j:Nat):Int)/\w=wr)
 case atStart=>exact ⟨zQ _,by simp,rfl⟩
 case round =>
  obtain ⟨hj,rfl,rfl⟩:=hrel
  rcases gk with _ | j
  ·have t4:decide (((n-0:Nat):Int)<(n:Int))=false:=by simp
   go_wp2_with fail
   go_loopg [28] n (fun j i wr=>∃ F' ab,j<=n/\i=.int .i64 ((n-j:Nat):Int)/\IsWr wr b F' ab/\Hid (ab=bs++rbitsAll k (l.take (n-j)))/\ab.length<=bs.length+65*(n-j)/\Grow F F' w wr)
   case atStart=>exact ⟨F,bs,zQ _,by simp,h,hid (by simp [rbitsAll]),by omega,Grow.refl _ _⟩
   case round =>
    obtain ⟨F',ab,aC,rfl,hb,Hb,aA,aj⟩:=hrel
    rcases gk with _ | j
    ·go_wp2
     go_ret
     refine ⟨rfl,F',?_,aj⟩
     have e:l.take n=l:=by rw [HN.out,zN]
     rw [Hb.out,Nat.sub_zero,e] at hb
     exact hb
    ·obtain ⟨m,af⟩:=zX (n-(j+1))
     rw [<-af] at Hb aA ⊢
     have aq:m<n:=by omega
     have ah:n-j=m+1:=by omega
     have HM:=hid ah
     clear af ah
     have ae:m<l.length:=by rw [<-HN.out];exact aq
     obtain ⟨g,o,rfl,aa⟩:=(hc.keep HA.out aj.chg).at_ ae
     have an:=rbitsAll_snoc k (l.take m) l[m]
     rw [<-take_snoc' l ae] at an
     obtain ⟨x,hx⟩:=zX (l[m])
     rw [<-hx] at aa an
     have ac:wr.cell? ⟨g,o+m,none⟩=some (.int .i64 x):=aa
     have ag:wideP x:=by rw [hx];exact HW.out _ (zG _)
     have HS:Hid (bs++rbitsAll k (l.take (m+1))=ab++rbits k x):=by
      refine hid ?_
      rw [an,Hb.out,zH]
     have aw:=rbits_len k x
     have ao:=rcost_le k x hk
     have hu:=rfold_lt ag
     have av:=rfold_ok x wr ag
     obtain ⟨u,au⟩:=zX (rfold x)
     rw [<-au] at hu av
     have hq:u / 2^k<=u:=Nat.div_le_self _ _
     have ai:=Nat.div_add_mod u (2^k)
     have ad:=Nat.mod_lt u (Nat.two_pow_pos k)
     have ap:2^k<=33554432:=Nat.pow_le_pow_right (n:=2) (j:=25) (by decide) hk
     obtain ⟨q,al⟩:=zX (u / 2^k)
     obtain ⟨r,ak⟩:=zX (u%2^k)
     have e1:(u:Int) / 2^k=(q:Int):=by rw [al];simp
     have ay:rbits k x=if q<32 then List.replicate q 0++1::bitsOf r k else List.replicate 32 0++1::bitsOf u 32:=by unfold rbits;rw [<-au,<-al,<-ak]
     rw [<-al] at hq ai
     rw [<-ak] at ai ad
     have aD:(q:Int)*2^k=(u:Int)-r:=by
      have:((2^k*q+r:Nat):Int)=(u:Int):=by rw [ai]
      rw [Int.natCast_add,Int.natCast_mul,Int.natCast_pow] at this
      rw [Int.mul_comm]
      simp at this
      omega
     have am:=hid ay
     have az:ab.length+65<274877906944:=by omega
     have ax:Hid ((ab++rbits k x).length<=bs.length+65*(m+1)):=hid (by rw [zC,aw];omega)
     have aB:r<=u:=by rw [ak];exact Nat.mod_le _ _
     have ar:=hid ad
     clear ay ai au al ak aa hx an ae aw ao ad ap
     by_cases hs:q<32
     ·have t1:decide ((q:Int)<32)=true:=by simp;omega
      rw [if_pos hs] at am
      go_wp2_with (go_at_call 147;refine av.mono ?_;rintro e w' ⟨rfl,rfl⟩)
      refine (wunary_ok _ b F' ab q hb (by omega) (by omega)).mono ?_
      rintro e w1 ⟨rfl,F2,h2,g2⟩
      go_wp2_with fail
      rw [show (u:Int)-((u:Int)-r)=r by omega]
      refine (wput_ok _ b F2 _ r k h2 (by omega) ar.out (by simp;omega)).mono ?_
      rintro e w2 ⟨rfl,F3,h3,g3⟩
      go_wp2_with fail
      go_roundg j
      case measure=>omega
      case rel =>
       rw [HM.out]
       refine ⟨F3,ab++rbits k x,by omega,by go_num,?_,hid HS.out.symm,ax.out,(aj.trans g2).trans g3⟩
       rw [am.out]
       simpa using h3
     ·have t1:decide ((q:Int)<32)=false:=by simp;omega
      rw [if_neg hs] at am
      go_wp2_with (go_at_call 147;refine av.mono ?_;rintro e w' ⟨rfl,rfl⟩)
      refine (wunary_ok _ b F' ab 32 hb (by omega) (by omega)).mono ?_
      rintro e w1 ⟨rfl,F2,h2,g2⟩
      go_wp2_with fail
      refine (wput_ok _ b F2 _ u 32 h2 (by omega) (by omega) (by simp;omega)).mono ?_
      rintro e w2 ⟨rfl,F3,h3,g3⟩
      go_wp2_with fail
      go_roundg j
      case measure=>omega
      case rel =>
       rw [HM.out]
       refine ⟨F3,ab++rbits k x,by omega,by go_num,?_,hid HS.out.symm,ax.out,(aj.trans g2).trans g3⟩
       rw [am.out]
       simpa using h3
  ·obtain ⟨m,af⟩:=zX (n-(j+1))
   rw [<-af]
   have aq:m<n:=by omega
   have ah:n-j=m+1:=by omega
   have HM:=hid ah
   clear af ah
   have ae:m<l.length:=by rw [<-HN.out];exact aq
   obtain ⟨g,o,rfl,aa⟩:=hc.at_ ae
   have ag:wideP l[m]:=HW.out _ (zG _)
   obtain ⟨x,hx⟩:=zX (l[m])
   rw [<-hx] at aa ag
   have ac:w.cell? ⟨g,o+m,none⟩=some (.int .i64 x):=aa
   clear aa hx ae
   go_wp2_with (go_at_call 193;refine (wide_yes _ _ ag).mono ?_;rintro e w' ⟨rfl,rfl⟩)
   go_roundg j
   case measure=>omega
   case rel =>
    rw [HM.out]
    exact ⟨by omega,by go_num,rfl⟩
end Go.Proofs.YtepjepkgcdfboaaGreatDoor
