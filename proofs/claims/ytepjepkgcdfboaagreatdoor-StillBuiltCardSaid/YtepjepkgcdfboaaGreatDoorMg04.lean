/- bits.Writer by its contracts: bit, Put, Unary, Len, Bytes. -/
import Derived.Test.YtepjepkgcdfboaaGreatDoorProg
import Derived.Test.YtepjepkgcdfboaaGreatDoorMg02
import Derived.Test.YtepjepkgcdfboaaGreatDoorMg03
import Derived.WalkLawsBesides
import Derived.WalkSpells
import Derived.Handy
import Derived.StillTailTactics
import Derived.Deep.DeepCutAuto
import Derived.Deep.LoopGhost
set_option linter.unusedVariables false
set_option linter.unusedSimpArgs false
set_option maxHeartbeats 4000000
set_option maxRecDepth 100000
namespace Go.Proofs.YtepjepkgcdfboaaGreatDoor
open Go.RowKit
structure a2n (w:World) (b:Nat) (F:List Nat) (bs:List Nat):Prop where
 ex:∃ v G,Blk w b 89 #[v,.int .i64 bs.length]/\Own w 5 v G ((a1n bs).map b8)/\F=b::G
 bit:∀ x∈bs,x<2
theorem a2n.mem {w:World} {b:Nat} {F bs:List Nat} (h:a2n w b F bs):b∈F:=by
 obtain ⟨_,_,_,_,rfl⟩:=h.ex
 simp
theorem a2n.lt {w:World} {b:Nat} {F bs:List Nat} (h:a2n w b F bs):∀ x∈F,x<w.heap.size:=by
 obtain ⟨_,_,hb,ho,rfl⟩:=h.ex
 intro x hx
 rcases zJ.1 hx with rfl | hx
 ·exact hb.lt
 ·exact ho.lt x hx
theorem a2n.chg {w w':World} {b:Nat} {F G bs:List Nat} (h:a2n w b F bs) (hc:Chg G w w') (hd:∀ x∈F,x∉G):a2n w' b F bs:=by
 obtain ⟨v,K,hb,ho,rfl⟩:=h.ex
 exact ⟨⟨v,K,hb.chg hc (hd b (by simp)),ho.chg hc fun x hx=>hd x (by simp [hx]),rfl⟩,h.bit⟩
theorem a2n.same {w w':World} {b:Nat} {F bs:List Nat} (h:a2n w b F bs) (hc:Chg [] w w'):a2n w' b F bs:=h.chg hc (by simp)
theorem a2n.new (w:World):a2n (w.alloc (.cells #[.slice none 0 0,.int .i64 0] 89)) w.heap.size [w.heap.size] [] :=
 ⟨⟨_,[],Blk.new _ _ _,Own.nil _ _,rfl⟩,by simp⟩
theorem b2h:b6m Tryz.prog 39 5 (.int .u8 0) 1 1:=.mk' Tryz.underlying39 (by kernel_rfl)
theorem c6f (w:World) (b:Nat) (F bs:List Nat) (x:Nat) (h:a2n w b F bs) (hx:x<2) (hlen:bs.length<1099511627776) :
  Calls Tryz.prog 45 #[.pointer (some ⟨b,0,none⟩),.int .u8 x] w fun e w'=>e=.returned (.tuple #[])/\∃ F',a2n w' b F' (bs++[x])/\a0u F F' w w':=by
 obtain ⟨v,G,hb,ho,rfl⟩:=h.ex
 have af:=h.bit
 have ak:=ho.ne_ hb (by decide)
 have ag:∀ y∈bs++[x],y<2:=by
  intro y hy
  rcases zP.1 hy with hy | hy
  ·exact af y hy
  ·simp at hy;omega
 obtain ⟨A,aJ,rfl,au,aB,-⟩:=ho.oq
 have aI:(a1n bs).length<=137438953472:=by rw [a4p];omega
 have al:=hb.cell 0
 have av:=hb.cell 1
 have ax:=hb.frozen 0
 have aH:=hb.frozen 1
 simp at al av
 have HB:=hid ag
 clear ag af h
 obtain ⟨i,r,hl,az⟩:∃ i r,bs.length=8*i+r/\r<8:=⟨bs.length / 8,bs.length%8,by omega,by omega⟩
 have e1:(bs.length:Int) / 8=(i:Int):=by omega
 have e2:(bs.length:Int)%8=(r:Int):=by omega
 have HL:=hid hl
 by_cases h8:r=0
 ·subst h8
  have ac:(a1n bs).length=i:=by rw [a4p];omega
  have hi:(i:Int)<1099511627776:=by omega
  have HP:=hid ac
  clear hl ac
  go_enter Tryz.func45,Tryz.ntmps45
  go_wp2_with (at_builtin;refine a0f rfl rfl b2h rfl rfl (ho.alloc _) (.int .u8 0) rfl ?c1 ?c2 ?c3 ?c4 ?_)
  case c1=>simp [go_sem]
  case c2=>rfl
  case c3=>simp;omega
  case c4=>simp;omega
  intro g2 aa w2 ao am
  have ae:g2≠b:=by
   rintro rfl
   rcases am.new g2 (by simp) with h | h
   ·exact ak h
   ·have:=hb.lt;simp at h;omega
  have an:=(hb.alloc (.cells #[.int .u8 0] 5)).chg am.chg (by simpa using ak)
  try simp only [zE] at ao
  try rw [HP.out] at ao
  try simp only [zE]
  try rw [HP.out]
  have aj:=an.cell 0
  have aw:=an.frozen 0
  simp at aj
  clear al av ax aH au aB aI
  have ai:=an.set_ 0 (.slice (some ⟨g2,0,none⟩) (i+1) aa)
  have ad:=ao.far (p:=⟨b,0,none⟩) ae (.slice (some ⟨g2,0,none⟩) (i+1) aa)
  have ay:a0u (b::G) [b,g2] w (w2.setCell ⟨b,0,none⟩ (.slice (some ⟨g2,0,none⟩) (i+1) aa)) :=
   (((a0u.refl (b::G) w).alloc _).trans (am.cons b)).setCell (by simp) _
  go_wp2_with fail
  generalize hw3:w2.setCell ⟨b,0,none⟩ (.slice (some ⟨g2,0,none⟩) (i+1) aa)=w3 at *
  clear aj aw
  have aA:=ai.cell 0
  have aj:=ai.cell 1
  have aw:=ai.frozen 1
  simp at aA aj
  have aK:w3.cell? ⟨g2,i,none⟩=some (.int .u8 0):=by
   obtain ⟨_,_,_,_,h4,_⟩:=ad.open_
   rw [h4 i (by simp [HP.out])]
   rw [zS (by simp [HP.out])]
   simp [HP.out]
  have aD:w3.frozen? ⟨g2,i,none⟩=false:=by
   obtain ⟨_,_,_,_,_,h4⟩:=ad.open_
   exact h4 i
  refine a0c 21 (by kernel_rfl) (by kernel_rfl) ?_
  simp only [List.take_succ_cons,List.take_zero,List.drop_succ_cons,List.drop_zero]
  repeat (go_big_quiet_step (fail))
  refine wpQuiet_nil ?_
  intro _ ap
  obtain ⟨nq,rfl⟩:=ap
  go_wp2_with fail
  go_end0
  have hv:bits .or .u8 0 ((x:Int)*128)=((x*128:Nat):Int):=by
   have:=f0o (x:=0) (y:=x*128) (by decide) (by omega)
   simpa using this
  rw [hv]
  refine ⟨rfl,[b,g2],⟨⟨.slice (some ⟨g2,0,none⟩) (i+1) aa,[g2],?_,?_,rfl⟩,HB.out⟩,?_⟩
  ·have h1:=((ai.drewN nq).far (p:=⟨g2,i,none⟩) ae.symm (.int .u8 ((x*128:Nat):Int))).set_ 1 (.int .i64 ((bs.length:Int)+1))
   simpa using h1
  ·have h1:=((ad.drewN nq).set_ (i:=i) (by simp [HP.out]) (.int .u8 ((x*128:Nat):Int))).far (p:=⟨b,1,none⟩) ae (.int .i64 ((bs.length:Int)+1))
   have e:(List.map b8 (a1n bs)++[Value.int .u8 0]).set i (.int .u8 ((x*128:Nat):Int))=(a1n (bs++[x])).map b8:=by
    rw [d9y (by rw [HL.out];omega),zM,List.set_append_right _ _ (by simp [HP.out])]
    simp [HP.out,b8]
   rw [e] at h1
   exact h1.toOwn
  ·exact ((ay.drewN nq).setCell (p:=⟨g2,i,none⟩) (by simp) _).setCell (p:=⟨b,1,none⟩) (by simp) _
 ·have aC:(r:Int)≠0:=by omega
  have t1:((r:Int)==0)=false:=by rw [beq_eq_false_iff_ne];exact aC
  have ac:(a1n bs).length=i+1:=by rw [a4p];omega
  have HP:=hid ac
  obtain ⟨g2,rfl⟩:∃ g2,A=some ⟨g2,0,none⟩:=by
   obtain ⟨A',aE,h1,_,_,h2,h3⟩:=ho.open_
   injection h1 with h1 _ _
   subst h1
   obtain ⟨b0,o0,h4,_⟩:=h2.ex (by simp [ac])
   obtain ⟨g,h5,_⟩:=h3 _ h4
   exact ⟨g,by rw [h4,h5]⟩
  obtain ⟨ad,rfl⟩:=ho.row rfl
  have ae:g2≠b:=by simpa [eq_comm] using ak
  have aF:a3k bs i<256:=c9p (fun y hy=>HB.out y (by simp [hy])) i
  have aK:w.cell? ⟨g2,i,none⟩=some (.int .u8 (a3k bs i)):=by
   obtain ⟨_,_,_,_,h4,_⟩:=ad.open_
   rw [h4 i (by simp [HP.out])]
   have:i<(bs.length+7) / 8:=by omega
   simp [a1n,b8,this]
  have aD:w.frozen? ⟨g2,i,none⟩=false:=by
   obtain ⟨_,_,_,_,_,h4⟩:=ad.open_
   exact h4 i
  rw [ac] at hb al au
  have aq:=f3x (b:=x) hl az hx
  have ab:a1n (bs++[x])=(a1n bs).set i (a3k bs i+x*2^(7-r)):=by
   have h1:=e4l (bs:=bs) (b:=x) (by omega)
   have h2:bs.length / 8=i:=by omega
   have h3:bs.length%8=r:=by omega
   rw [h1,h2,h3]
  have ah:=hid ab
  have aG:=hid aq
  clear hl ac ab aq
  go_enter Tryz.func45,Tryz.ntmps45
  go_wp2_with fail
  refine a0c 21 (by kernel_rfl) (by kernel_rfl) ?_
  simp only [List.take_succ_cons,List.take_zero,List.drop_succ_cons,List.drop_zero]
  repeat (go_big_quiet_step (fail))
  refine wpQuiet_nil ?_
  intro _ ap
  obtain ⟨nq,rfl⟩:=ap
  go_wp2_with fail
  go_end0
  have aL:2^(7-r)<=128:=Nat.pow_le_pow_right (n:=2) (j:=7) (by decide) (by omega)
  have ar:x*2^(7-r)<256:=by
   have:x=0\/x=1:=by omega
   rcases this with rfl | rfl<;>omega
  have hv:bits .or .u8 ((a3k bs i:Nat):Int) ((x:Int)*2^(7-r)%256)=((a3k bs i+x*2^(7-r):Nat):Int):=by
   have e3:((x:Int)*2^(7-r)%256)=((x*2^(7-r):Nat):Int):=by
    rw [Int.natCast_mul,Int.natCast_pow]
    refine Int.emod_eq_of_lt ?_ ?_
    ·exact Int.mul_nonneg (by omega) (Int.le_of_lt (a0i _))
    ·exact_mod_cast ar
   rw [e3,f0o aF ar,aG.out]
  rw [hv]
  refine ⟨rfl,[b,g2],⟨⟨.slice (some ⟨g2,0,none⟩) (i+1) aJ,[g2],?_,?_,rfl⟩,HB.out⟩,?_⟩
  ·have h1:=((hb.drewN nq).far (p:=⟨g2,i,none⟩) ae.symm (.int .u8 ((a3k bs i+x*2^(7-r):Nat):Int))).set_ 1 (.int .i64 ((bs.length:Int)+1))
   simpa using h1
  ·have h1:=((ad.drewN nq).set_ (i:=i) (by simp [HP.out]) (.int .u8 ((a3k bs i+x*2^(7-r):Nat):Int))).far (p:=⟨b,1,none⟩) ae (.int .i64 ((bs.length:Int)+1))
   rw [HP.out] at h1
   have e:(List.map b8 (a1n bs)).set i (.int .u8 ((a3k bs i+x*2^(7-r):Nat):Int))=(a1n (bs++[x])).map b8:=by
    rw [ah.out,List.map_set]
    rfl
   rw [e] at h1
   exact h1.toOwn
  ·exact (((a0u.refl [b,g2] w).drewN nq).setCell (p:=⟨g2,i,none⟩) (by simp) _).setCell (p:=⟨b,1,none⟩) (by simp) _
theorem a0t (w:World) (b:Nat) (F bs:List Nat) (v n:Nat) (h:a2n w b F bs) (hn:n<=63) (hv:v<2^n) (hlen:bs.length<549755813888) :
  Calls Tryz.prog 15 #[.pointer (some ⟨b,0,none⟩),.int .u64 v,.int .i64 n] w fun e w'=>e=.returned (.int .i64 0)/\∃ F',a2n w' b F' (bs++a0b v n)/\a0u F F' w w':=by
 have ah:v<18446744073709551616:=Nat.lt_of_lt_of_le hv (Nat.le_trans (Nat.pow_le_pow_right (by decide) hn) (by decide:2^63<=18446744073709551616))
 have t1:decide ((n:Int)<0)=false:=by simp
 have t2:decide ((64:Int)<n)=false:=by simp;omega
 have t3:(((v:Int) / 2^n) != 0)=false:=by
  have:(v:Int) / 2^n=((v / 2^n:Nat):Int):=by simp
  rw [this,Nat.div_eq_of_lt hv]
  rfl
 clear hv
 go_enter Tryz.func15,Tryz.ntmps15
 go_wp2_with fail
 go_loopg [7] n (fun k i wr=>∃ (F' aa:List Nat),i=.int .i64 ((k:Int)-1)/\k<=n/\a2n wr b F' aa/\Hid (bs++a0b v n=aa++a0b v k)/\aa.length+k<=bs.length+n/\a0u F F' w wr)
 case atStart=>exact ⟨F,bs,rfl,zQ _,h,hid rfl,zQ _,a0u.refl _ _⟩
 case round =>
  obtain ⟨F',aa,rfl,hk,ag,Hr,aj,af⟩:=hrel
  rcases gk with _ | k
  ·have t4:decide ((0:Int)<=((0:Nat):Int)-1)=false:=by simp
   go_wp2
   go_ret
   refine ⟨rfl,F',?_,af⟩
   rw [Hr.out]
   simpa [a0b] using ag
  ·have e1:(((k+1:Nat):Int)-1)=(k:Int):=by omega
   rw [e1]
   obtain ⟨ac,ab⟩:=zX (v / 2^k%2)
   have ai:bits BinOp.and IntKind.u64 ((v:Int) / 2^k) 1=(ac:Int):=by
    have e:(v:Int) / 2^k=((v / 2^k:Nat):Int):=by simp
    have ak:v / 2^k<=v:=Nat.div_le_self _ _
    rw [e,ab]
    exact c9i (by omega)
   have ae:ac<=1:=by omega
   have ad:Hid (bs++a0b v n=(aa++[ac])++a0b v k):=by
    refine hid ?_
    rw [Hr.out,ab,a0b,zH]
    rfl
   clear ab
   go_wp2_with fail
   refine (c6f _ b F' aa ac ag (by omega) (by omega)).mono ?_
   rintro e w1 ⟨rfl,F2,h2,g2⟩
   go_wp2_with fail
   go_roundg k
   case measure=>omega
   case rel=>exact ⟨F2,aa++[ac],rfl,by omega,h2,ad,by simp;omega,af.trans g2⟩
theorem d2i (w:World) (b:Nat) (F bs:List Nat) (n:Nat) (h:a2n w b F bs) (hn:n<=4096) (hlen:bs.length<549755813888) :
  Calls Tryz.prog 207 #[.pointer (some ⟨b,0,none⟩),.int .i64 n] w fun e w'=>e=.returned (.int .i64 0)/\∃ F',a2n w' b F' (bs++(List.replicate n 0++[1]))/\a0u F F' w w':=by
 have t1:decide ((n:Int)<0)=false:=by simp
 have t2:decide ((4096:Int)<n)=false:=by simp;omega
 go_enter Tryz.func207,Tryz.ntmps207
 go_wp2_with fail
 go_loopg [12] n (fun k i wr=>∃ (F' aa:List Nat),i=.int .i64 ((n-k:Nat):Int)/\k<=n/\a2n wr b F' aa/\Hid (aa=bs++List.replicate (n-k) 0)/\aa.length+k<=bs.length+n/\a0u F F' w wr)
 case atStart=>exact ⟨F,bs,by simp,zQ _,h,hid (by simp),zQ _,a0u.refl _ _⟩
 case round =>
  obtain ⟨F',aa,rfl,hk,ad,Hr,ae,ab⟩:=hrel
  rcases gk with _ | k
  ·have t4:decide (((n-0:Nat):Int)<(n:Int))=false:=by simp
   go_wp2_with fail
   refine (c6f _ b F' aa 1 ad (by omega) (by omega)).mono ?_
   rintro e w1 ⟨rfl,F2,h2,g2⟩
   go_wp2
   go_ret
   refine ⟨rfl,F2,?_,ab.trans g2⟩
   rw [Hr.out] at h2
   simpa using h2
  ·obtain ⟨m,hm⟩:=zX (n-(k+1))
   rw [<-hm] at Hr ⊢
   have af:m<n:=by omega
   have ac:n-k=m+1:=by omega
   have HM:=hid ac
   clear hm ac
   go_wp2_with fail
   refine (c6f _ b F' aa 0 ad (by omega) (by omega)).mono ?_
   rintro e w1 ⟨rfl,F2,h2,g2⟩
   go_wp2_with fail
   go_roundg k
   case measure=>omega
   case rel =>
    refine ⟨F2,aa++[0],?_,by omega,h2,?_,by simp;omega,ab.trans g2⟩
    ·rw [HM.out];go_num
    ·refine hid ?_
     rw [Hr.out,HM.out,List.replicate_succ',zH]
theorem c8t (w:World) (b:Nat) (F bs:List Nat) (h:a2n w b F bs) :
  Calls Tryz.prog 113 #[.pointer (some ⟨b,0,none⟩)] w fun e w'=>e=.returned (.int .i64 bs.length)/\w=w':=by
 obtain ⟨v,G,hb,ho,rfl⟩:=h.ex
 have aa:=hb.cell 1
 simp at aa
 clear hb ho h
 go_enter Tryz.func113,Tryz.ntmps113
 go_wp2
 go_ret
 exact ⟨rfl,rfl⟩
theorem c4s (l:List Nat):∀ u∈l.map b8,u.oneCell'=true:=by
 intro u hu
 obtain ⟨d,_,rfl⟩:=List.mem_map.1 hu
 rfl
theorem e6h (w:World) (b:Nat) (A:Option Addr) (cap:Nat) (ds:List Nat) (hc0:w.cell? ⟨b,0,none⟩=some (.slice A ds.length cap)) (hcells:a0d (fun u=>u) w A (ds.map b8)) (hpl:ds.length<=137438953472) :
  Calls Tryz.prog 19 #[.pointer (some ⟨b,0,none⟩)] w fun e w'=>∃ v G,e=.returned v/\Own w' 5 v G (ds.map b8)/\Chg [] w w'/\∀ x∈G,w.heap.size<=x:=by
 have HC:=hid hcells
 clear hcells
 go_enter Tryz.func19,Tryz.ntmps19
 go_wp2_with (at_builtin;refine a1m rfl rfl b2h rfl rfl (Own.nil _ _) (ds.map b8) ds.length rfl ?c1 ?c2 ?c3 ?c4 ?c5 ?_)
 case c1=>exact (zE _).symm
 case c2=>exact HC.out
 case c3=>exact c4s _
 case c4=>rw [zE,List.length_nil];omega
 case c5=>rw [zE,List.length_nil];omega
 intro v' F' w' h2 h3
 go_wp2
 go_ret
 exact ⟨v',F',rfl,by simpa using h2,h3.chg,fun x hx=>by rcases h3.new x hx with h | h;simp at h;exact h⟩
theorem c3c (w:World) (b:Nat) (F bs:List Nat) (h:a2n w b F bs) (hlen:bs.length<549755813888) :
  Calls Tryz.prog 19 #[.pointer (some ⟨b,0,none⟩)] w fun e w'=>∃ v G,e=.returned v/\Own w' 5 v G ((a1n bs).map b8)/\Chg [] w w'/\∀ x∈G,w.heap.size<=x:=by
 obtain ⟨v,G,hb,ho,rfl⟩:=h.ex
 obtain ⟨A,ad,rfl,ag,af,-⟩:=ho.oq
 obtain ⟨A',ae,h1,-,-,aa,-⟩:=ho.open_
 injection h1 with h1 _ _
 subst h1
 have ac:(a1n bs).length<=137438953472:=by rw [a4p];omega
 have ab:=hb.cell 0
 simp at ab
 exact e6h w b A ad _ ab aa ac
structure a1r (w:World) (b:Nat) (F:List Nat) (ds:List Nat) (at_:Nat):Prop where
 ex:∃ v G,Blk w b 142 #[v,.int .i64 at_,.int .i64 0]/\Own w 5 v G (ds.map b8)/\F=b::G
 dig:∀ d∈ds,d<256
 len:ds.length<1099511627776
 at_le:at_<=8*ds.length
def a8h (ds:List Nat) (i:Nat):Nat:=ds.getD (i / 8) 0 / 2^(7-i%8)%2
def a5m (ds:List Nat):List Nat:=(List.range (8*ds.length)).map (a8h ds)
theorem b9w (ds:List Nat):(a5m ds).length=8*ds.length:=by simp [a5m]
theorem b9v {ds:List Nat} {i:Nat} (h:i<8*ds.length):(a5m ds)[i]?=some (a8h ds i):=by
 simp [a5m,h]
theorem a1r.mem {w:World} {b:Nat} {F ds:List Nat} {p:Nat} (h:a1r w b F ds p):b∈F:=by
 obtain ⟨_,_,_,_,rfl⟩:=h.ex
 simp
theorem a1r.lt {w:World} {b:Nat} {F ds:List Nat} {p:Nat} (h:a1r w b F ds p):∀ x∈F,x<w.heap.size:=by
 obtain ⟨_,_,hb,ho,rfl⟩:=h.ex
 intro x hx
 rcases zJ.1 hx with rfl | hx
 ·exact hb.lt
 ·exact ho.lt x hx
theorem a1r.chg {w w':World} {b:Nat} {F G ds:List Nat} {p:Nat} (h:a1r w b F ds p) (hc:Chg G w w') (hd:∀ x∈F,x∉G):a1r w' b F ds p:=by
 obtain ⟨v,K,hb,ho,rfl⟩:=h.ex
 exact ⟨⟨v,K,hb.chg hc (hd b (by simp)),ho.chg hc fun x hx=>hd x (by simp [hx]),rfl⟩,h.dig,h.len,h.at_le⟩
theorem a1r.same {w w':World} {b:Nat} {F ds:List Nat} {p:Nat} (h:a1r w b F ds p) (hc:Chg [] w w'):a1r w' b F ds p:=h.chg hc (by simp)
theorem e5h (w:World) (A:Option Addr) (cap:Nat) (ds:List Nat) (hc:a0d b8 w A ds) (hd:∀ d∈ds,d<256) (hl:ds.length<1099511627776) (hcl:ds.length<=cap) (hcm:cap<=9223372036854775807) :
  Calls Tryz.prog 66 #[.slice A ds.length cap] w fun e w'=>∃ b F,e=.returned (.pointer (some ⟨b,0,none⟩))/\a1r w' b F ds 0/\Chg [] w w'/\∀ x∈F,w.heap.size<=x:=by
 have ab:a0d (fun u=>u) w A (ds.map b8):=⟨fun h0=>by
  obtain ⟨b,o,e1,e2,e3⟩:=hc.ex (by simpa using h0)
  refine ⟨b,o,e1,e2,fun i a ha => ?_⟩
  rw [zW] at ha
  cases e:ds[i]? with
  | none=>simp [e] at ha
  | some d=>simp [e] at ha;subst ha;exact e3 i d e⟩
 have HC:=hid ab
 have HD:=hid hd
 clear hc ab hd
 go_enter Tryz.func66,Tryz.ntmps66
 go_wp2_with (at_builtin;refine a1m rfl rfl b2h rfl rfl (Own.nil _ _) (ds.map b8) ds.length rfl ?c1 ?c2 ?c3 ?c4 ?c5 ?_)
 case c1=>exact (zE _).symm
 case c2=>exact HC.out
 case c3=>exact c4s _
 case c4=>rw [zE,List.length_nil];omega
 case c5=>rw [zE,List.length_nil];omega
 intro v' F' w' h2 h3
 obtain ⟨A',aa,rfl,-⟩:=h2.open_
 go_wp2
 go_ret
 have ac:Own w' 5 (.slice A' ds.length aa) F' (ds.map b8):=by simpa using h2
 refine ⟨_,w'.heap.size::F',rfl,⟨⟨_,F',Blk.new _ _ _,ac.alloc _,rfl⟩,HD.out,hl,by simp⟩,h3.chg.alloc _,fun x hx => ?_⟩
 have:=h3.size
 rcases zJ.1 hx with rfl | hx
 ·exact this
 ·rcases h3.new x hx with h | h
  ·simp at h
  ·exact h
theorem c6e (ds:List Nat) (i:Nat):a8h ds i<2:=by unfold a8h;omega
theorem d6b {ds:List Nat} {i:Nat} (h:i<ds.length):ds[i]?=some (ds.getD i 0):=by
 rw [zD,zF h];rfl
theorem look_ok (w : World) (b : Nat) (F ds : List Nat) (p i : Nat) (h : a1r w b F ds p) (hi : i < 8 * ds.length) :
    Calls Tryz.prog 98 #[.pointer (some ⟨b,0,none⟩),.int .i64 i] w fun e w'=>e=.returned (.int .u8 (a8h ds i))/\w=w':=by
  obtain ⟨v,G,hb,ho,rfl⟩:=h.ex
  obtain ⟨A,al,rfl,ak,ai,aa⟩:=ho.oq
  have ag:=h.len
  have af:=hb.cell 0
  simp at af
  obtain ⟨g,o,rfl,aj,ab⟩:=aa.ex (by omega)
  obtain ⟨q,hq⟩:=zX (i / 8)
  obtain ⟨r,hr⟩:=zX (i%8)
  have ae:q<ds.length:=by omega
  have hx:=ab q _ (d6b ae)
  obtain ⟨y,hy⟩:=zX (ds.getD q 0)
  rw [<-hy] at hx
  have ad:y<256:=by
    rw [hy]
    exact h.dig _ (List.mem_of_getElem? (d6b ae))
  have am:w.cell? ⟨g,o+q,none⟩=some (.int .u8 y):=hx
  have e1:(i:Int) / 8=(q:Int):=by omega
  have e2:(i:Int)%8=(r:Int):=by omega
  have an:r<8:=by omega
  have ac:a8h ds i=y / 2^(7-r)%2:=by unfold a8h;rw [<-hq,<-hr,<-hy]
  have HF:=hid ac
  have ah:y / 2^(7-r)<256:=Nat.lt_of_le_of_lt (Nat.div_le_self _ _) ad
  clear ac hy hq hr hx ab aa ho hb h
  go_enter Tryz.func98,Tryz.ntmps98
  go_wp2
  go_ret
  rw [HF.out]
  first
    | exact ⟨rfl,rfl⟩
    | (have e3 : (y : Int) / 2 ^ (7 - r) = ((y / 2 ^ (7 - r) : Nat) : Int) := by simp
       refine ⟨?_,rfl⟩
       rw [<-d2t ah,<-e3]
       rfl)
theorem e3j (w:World) (b:Nat) (F ds:List Nat) (p:Nat) (h:a1r w b F ds p) :
  Calls Tryz.prog 72 #[.pointer (some ⟨b,0,none⟩)] w fun e w'=>e=.returned (.int .i64 ((8*ds.length-p:Nat):Int))/\∃ n,w'=w.drewN n:=by
 obtain ⟨v,G,hb,ho,rfl⟩:=h.ex
 obtain ⟨A,ah,rfl,af,ae,aa⟩:=ho.oq
 have ad:=h.len
 have ag:=h.at_le
 have ab:=hb.cell 0
 have ac:=hb.cell 1
 simp at ab ac
 have e1:((8*ds.length-p:Nat):Int)=8*(ds.length:Int)-p:=by omega
 rw [e1]
 clear e1 aa ho hb h
 go_enter Tryz.func72,Tryz.ntmps72
 go_wp2_with fail
 go_quiet (fail)
 go_wp2
 go_ret
 exact ⟨rfl,_,rfl⟩
theorem a2b (w:World) (b:Nat) (F ds:List Nat) (p:Nat) (h:a1r w b F ds p) :
  Calls Tryz.prog 69 #[.pointer (some ⟨b,0,none⟩)] w fun e w'=>e=.returned (.int .i64 0)/\w=w':=by
 obtain ⟨v,G,hb,ho,rfl⟩:=h.ex
 have aa:=hb.cell 2
 simp at aa
 clear ho hb h
 go_enter Tryz.func69,Tryz.ntmps69
 go_wp2
 go_ret
 exact ⟨rfl,rfl⟩
def b4j (ds:List Nat) (p:Nat):Nat->Nat
 | 0=>0
 | n+1=>2*b4j ds p n+a8h ds (p+n)
theorem d7k (ds:List Nat) (p:Nat):∀ n,b4j ds p n<2^n
 | 0=>by simp [b4j]
 | n+1=>by
  have:=d7k ds p n
  have:=c6e ds (p+n)
  rw [b4j,Nat.pow_succ]
  omega
def a0y (ds:List Nat) (p:Nat) (bs:List Nat):Prop:=∃ rest,(a5m ds).drop p=bs++rest
theorem a0y.len {ds:List Nat} {p:Nat} {bs:List Nat} (h:a0y ds p bs):bs.length<=8*ds.length-p:=by
 obtain ⟨rest,h⟩:=h
 have:=congrArg List.length h
 rw [zO,b9w,zC] at this
 omega
theorem a0y.le {ds:List Nat} {p:Nat} {bs:List Nat} (h:a0y ds p bs) (hp:p<=8*ds.length):p+bs.length<=8*ds.length:=by have:=h.len;omega
theorem a0y.left {ds:List Nat} {p:Nat} {us bs:List Nat} (h:a0y ds p (us++bs)):a0y ds p us:=by
 obtain ⟨rest,h⟩:=h
 exact ⟨bs++rest,by rw [h,zH]⟩
theorem a0y.right {ds:List Nat} {p:Nat} {us bs:List Nat} (h:a0y ds p (us++bs)):a0y ds (p+us.length) bs:=by
 obtain ⟨rest,h⟩:=h
 refine ⟨rest,?_⟩
 rw [<-List.drop_drop,h,zH,List.drop_left]
theorem a0y.get {ds:List Nat} {p:Nat} {bs:List Nat} (h:a0y ds p bs) {i x:Nat} (hi:bs[i]?=some x):a8h ds (p+i)=x:=by
 have aa:=h.len
 obtain ⟨rest,h⟩:=h
 have ab:i<bs.length:=(List.getElem?_eq_some_iff.1 hi).1
 have h1:((a5m ds).drop p)[i]?=some x:=by rw [h,List.getElem?_append_left ab,hi]
 rw [List.getElem?_drop,b9v (by omega)] at h1
 simpa using h1
theorem b2r (v:Nat):∀ (n i:Nat),i<n->(a0b v n)[i]?=some (v / 2^(n-1-i)%2)
 | n+1,0,_=>by simp [a0b]
 | n+1,i+1,h=>by
  rw [a0b,List.getElem?_cons_succ,b2r v n i (by omega)]
  have:n-1-i=n+1-1-(i+1):=by omega
  rw [this]
theorem b8k {ds:List Nat} {p v n:Nat} (h:a0y ds p (a0b v n)) (hv:v<2^n):∀ m,m<=n->b4j ds p m=v / 2^(n-m)
 | 0,_=>by rw [b4j,Nat.sub_zero,Nat.div_eq_of_lt hv]
 | m+1,hm=>by
  rw [b4j,b8k h hv m (by omega),h.get (b2r v n m (by omega))]
  have e1:n-1-m=n-(m+1):=by omega
  have e2:n-m=n-(m+1)+1:=by omega
  rw [e1,e2,Nat.pow_succ,<-Nat.div_div_eq_div_mul]
  omega
theorem d4k {ds:List Nat} {p v n:Nat} (h:a0y ds p (a0b v n)) (hv:v<2^n):b4j ds p n=v:=by
 rw [b8k h hv n (zQ _),Nat.sub_self,Nat.pow_zero,Nat.div_one]
theorem e5g (w:World) (b:Nat) (F ds:List Nat) (p n:Nat) (h:a1r w b F ds p) (hn:n<=63) (hp:p+n<=8*ds.length) :
  Calls Tryz.prog 68 #[.pointer (some ⟨b,0,none⟩),.int .i64 n] w fun e w'=>e=.returned (.int .u64 (b4j ds p n))/\a1r w' b F ds (p+n)/\Chg [b] w w':=by
 have al:=h.len
 have t1:decide ((n:Int)<0)=false:=by simp
 have t2:decide ((64:Int)<n)=false:=by simp;omega
 have t3:decide ((8*ds.length-p)<n)=false:=by simp;omega
 have am:w.cell? ⟨b,2,none⟩=some (.int .i64 0):=by
  obtain ⟨v,G,hb,ho,rfl⟩:=h.ex
  simpa using hb.cell 2
 go_enter Tryz.func68,Tryz.ntmps68
 go_wp2_with fail
 refine (e3j w b F ds p h).mono ?_
 rintro e w' ⟨rfl,nq,rfl⟩
 go_wp2_with fail
 go_loopg [5,28] n (fun k v i wr=>k<=n/\i=.int .i64 ((n-k:Nat):Int)/\v=.int .u64 (b4j ds p (n-k))/\a1r wr b F ds (p+(n-k))/\Chg [b] w wr)
 case atStart=>exact ⟨zQ _,by simp,by simp [b4j],by simpa using h.same ((zR _ _).drewN nq),(zR _ _).drewN nq⟩
 case round =>
  obtain ⟨hk,rfl,rfl,aa,af⟩:=hrel
  rcases gk with _ | k
  ·have t4:decide (((n-0:Nat):Int)<(n:Int))=false:=by simp
   go_wp2
   go_ret
   exact ⟨by simp,by simpa using aa,af⟩
  ·obtain ⟨m,hm⟩:=zX (n-(k+1))
   rw [<-hm] at aa ⊢
   have an:m<n:=by omega
   have ag:n-k=m+1:=by omega
   have HM:=hid ag
   clear hm ag
   have hv:=d7k ds p m
   have ak:2^m<=2^62:=Nat.pow_le_pow_right (by decide) (by omega)
   obtain ⟨v,ac⟩:=zX (b4j ds p m)
   rw [<-ac] at hv ⊢
   have HV:=hid ac
   have ai:v<4611686018427387904:=by omega
   clear ac hv ak
   have ao:wr.cell? ⟨b,1,none⟩=some (.int .i64 ((p+m:Nat):Int)):=by
    obtain ⟨v,G,hb,ho,rfl⟩:=aa.ex
    simpa using hb.cell 1
   have ap:wr.frozen? ⟨b,1,none⟩=false:=by
    obtain ⟨v,G,hb,ho,rfl⟩:=aa.ex
    exact hb.frozen 1
   have ab:=c6e ds (p+m)
   obtain ⟨y,hy⟩:=zX (a8h ds (p+m))
   have ad:=look_ok wr b F ds (p+m) (p+m) aa (by omega)
   rw [<-hy] at ad ab
   have HY:=hid hy
   clear hy
   have ae:bits BinOp.or IntKind.u64 ((v:Int)*2) (y:Int)=((2*v+y:Nat):Int):=by
    have:=c0d (v:=v) (b:=y) (by omega) ab
    rw [<-this]
    congr 1
    omega
   have HO:=hid ae
   clear ae
   have ah:((p+m:Nat):Int)=(p:Int)+m:=by omega
   go_wp2_with fail
   refine ad.mono ?_
   rintro e w1 ⟨rfl,rfl⟩
   go_wp2_with fail
   go_roundg k
   case measure=>omega
   case rel =>
    rw [HM.out]
    refine ⟨by omega,by go_num,?_,?_,af.setCell (by simp) _⟩
    ·rw [b4j,<-HV.out,<-HY.out,<-HO.out]
    ·obtain ⟨v1,G,hb,ho,e1⟩:=aa.ex
     have aj:b∉G:=ho.ne_ hb (by decide)
     have h1:=hb.set_ 1 (.int .i64 ((p+m:Nat)+1:Int))
     refine ⟨⟨v1,G,?_,ho.far (p:=⟨b,1,none⟩) aj _,e1⟩,aa.dig,aa.len,by omega⟩
     have e2:((p+(m+1):Nat):Int)=((p+m:Nat):Int)+1:=by omega
     rw [e2]
     simpa using h1
theorem a0j (w:World) (b:Nat) (F ds:List Nat) (p n v:Nat) (h:a1r w b F ds p) (hn:n<=63) (hv:v<2^n) (ha:a0y ds p (a0b v n)) :
  Calls Tryz.prog 68 #[.pointer (some ⟨b,0,none⟩),.int .i64 n] w fun e w'=>e=.returned (.int .u64 v)/\a1r w' b F ds (p+n)/\Chg [b] w w':=by
 have hp:=ha.le h.at_le
 rw [a0a] at hp
 have:=e5g w b F ds p n h hn hp
 rw [d4k ha hv] at this
 exact this
theorem c8e {w:World} {b:Nat} {F ds:List Nat} {p:Nat} (h:a1r w b F ds p) :
  w.cell? ⟨b,1,none⟩=some (.int .i64 p)/\w.cell? ⟨b,2,none⟩=some (.int .i64 0)/\w.frozen? ⟨b,1,none⟩=false/\∃ A cap,w.cell? ⟨b,0,none⟩=some (.slice A ds.length cap):=by
 obtain ⟨v,G,hb,ho,rfl⟩:=h.ex
 obtain ⟨A,cap,rfl,_⟩:=ho.oq
 refine ⟨by simpa using hb.cell 1,by simpa using hb.cell 2,hb.frozen 1,A,cap,by simpa using hb.cell 0⟩
theorem a1r.move {w:World} {b:Nat} {F ds:List Nat} {p:Nat} (h:a1r w b F ds p) {q:Nat} (hq:q<=8*ds.length):a1r (w.setCell ⟨b,1,none⟩ (.int .i64 q)) b F ds q:=by
 obtain ⟨v,G,hb,ho,rfl⟩:=h.ex
 have aa:b∉G:=ho.ne_ hb (by decide)
 have h1:=hb.set_ 1 (.int .i64 q)
 exact ⟨⟨v,G,by simpa using h1,ho.far (p:=⟨b,1,none⟩) aa _,rfl⟩,h.dig,h.len,hq⟩
theorem d1u (w:World) (b:Nat) (F ds:List Nat) (p n most:Nat) (h:a1r w b F ds p) (hn:n<=most) (hm:most<=4096) (hz:∀ i,i<n->a8h ds (p+i)=0) (h1:a8h ds (p+n)=1) (hp:p+n+1<=8*ds.length) :
  Calls Tryz.prog 281 #[.pointer (some ⟨b,0,none⟩),.int .i64 most] w fun e w'=>e=.returned (.int .i64 n)/\a1r w' b F ds (p+n+1)/\Chg [b] w w':=by
 have ag:=h.len
 obtain ⟨ak,ah,al,A,ai,aj⟩:=c8e h
 have HZ:=hid hz
 have H1:=hid h1
 clear hz h1
 go_enter Tryz.func281,Tryz.ntmps281
 go_wp2_with fail
 go_quiet (fail)
 go_wp2_with fail
 have aa:=h.same ((zR _ _).drewN nq)
 go_loopg [5,6] n (fun k z i wr=>k<=n/\z=.int .i64 ((n-k:Nat):Int)/\i=.int .i64 ((p+(n-k):Nat):Int)/\wr=w.drewN nq)
 case atStart=>exact ⟨zQ _,by simp,by simp,rfl⟩
 case round =>
  obtain ⟨hk,rfl,rfl,rfl⟩:=hrel
  rcases gk with _ | k
  ·have ab:=look_ok (w.drewN nq) b F ds p (p+n) aa (by omega)
   rw [H1.out] at ab
   have t4:(((p+n:Nat):Int)==8*(ds.length:Int))=false:=by rw [beq_eq_false_iff_ne];omega
   have hc:((p+n:Nat):Int)=(p:Int)+n:=by omega
   rw [Nat.sub_zero]
   go_wp2_with fail
   refine ab.mono ?_
   rintro e w1 ⟨rfl,rfl⟩
   go_wp2_with fail
   go_ret
   have ac:=aa.move (q:=p+n+1) (by omega)
   have e2:((p+n+1:Nat):Int)=(p:Int)+n+1:=by omega
   rw [e2] at ac
   exact ⟨rfl,ac,((zR _ _).drewN nq).setCell (by simp) _⟩
  ·obtain ⟨m,ae⟩:=zX (n-(k+1))
   rw [<-ae]
   have af:m<n:=by omega
   have ad:n-k=m+1:=by omega
   have HM:=hid ad
   clear ae ad
   have ab:=look_ok (w.drewN nq) b F ds p (p+m) aa (by omega)
   rw [HZ.out m af] at ab
   have t4:(((p+m:Nat):Int)==8*(ds.length:Int))=false:=by rw [beq_eq_false_iff_ne];omega
   have t5:((m:Int)==(most:Int))=false:=by rw [beq_eq_false_iff_ne];omega
   have hc:((p+m:Nat):Int)=(p:Int)+m:=by omega
   go_wp2_with fail
   refine ab.mono ?_
   rintro e w1 ⟨rfl,rfl⟩
   go_wp2_with fail
   go_roundg k
   case measure=>omega
   case rel =>
    rw [HM.out]
    exact ⟨by omega,by go_num,by go_num,rfl⟩
def e0m (v n:Nat):Int:=if v<2^(n-1) then (v:Int) else (v:Int)-2^n
theorem e5p {v n:Nat} (h1:1<=n) (h2:n<=63) (hv:v<2^n):(IntKind.i64.wrap (IntKind.u64.wrap ((v:Int)*2^(64-n)))).fdiv (2^(64-n))=e0m v n:=by
 have hp:=a0i (64-n)
 have ab:(2:Int)^n*2^(64-n)=18446744073709551616:=by
  rw [<-Int.pow_add]
  have:n+(64-n)=64:=by omega
  rw [this];rfl
 have eh:(2:Int)^(n-1)*2^(64-n)=9223372036854775808:=by
  rw [<-Int.pow_add]
  have:n-1+(64-n)=63:=by omega
  rw [this];rfl
 have ad:(v:Int)<2^n:=by exact_mod_cast hv
 have ae:(0:Int)<=v*2^(64-n):=Int.mul_nonneg (by omega) (by omega)
 have af:(v:Int)*2^(64-n)<18446744073709551616:=by
  rw [<-ab]
  exact Int.mul_lt_mul_of_pos_right ad hp
 rw [IntWalk.u64_in _ (by omega)]
 have ac:∀ x:Int,(x*2^(64-n)).fdiv (2^(64-n))=x:=fun x=>by
  rw [Int.fdiv_eq_ediv_of_nonneg _ (by omega),Int.mul_ediv_cancel _ (by omega)]
 unfold e0m
 by_cases hs:v<2^(n-1)
 ·rw [if_pos hs]
  have aa:(v:Int)<2^(n-1):=by exact_mod_cast hs
  have:(v:Int)*2^(64-n)<9223372036854775808:=by
   rw [<-eh]
   exact Int.mul_lt_mul_of_pos_right aa hp
  rw [IntWalk.i64_in _ (by omega),ac]
 ·rw [if_neg hs]
  have aa:(2:Int)^(n-1)<=v:=by
   have:2^(n-1)<=v:=by omega
   exact_mod_cast this
  have:(9223372036854775808:Int)<=v*2^(64-n):=by
   rw [<-eh]
   exact Int.mul_le_mul_of_nonneg_right aa (by omega)
  have ew:IntKind.i64.wrap ((v:Int)*2^(64-n))=((v:Int)-2^n)*2^(64-n):=by
   rw [IntKind.wrap_i64,Int.sub_mul,ab]
   omega
  rw [ew,ac]
def vi (x:Int):Value:=.int .i64 x
theorem e6f (l:List Int):∀ u∈l.map vi,u.oneCell'=true:=by
 intro u hu
 obtain ⟨d,_,rfl⟩:=List.mem_map.1 hu
 rfl
theorem a0p:b6m Tryz.prog 22 3 (.int .i64 0) 1 8:=.mk' Tryz.underlying22 (by kernel_rfl)
theorem a0d.at_ {α:Type} {f:α->Value} {w:World} {A:Option Addr} {l:List α} (h:a0d f w A l) {m:Nat} (hm:m<l.length) :
  ∃ b o,A=some ⟨b,o,none⟩/\w.cell? ⟨b,o+m,none⟩=some (f l[m]):=by
 obtain ⟨b,o,e,_,hc⟩:=h.ex (by omega)
 exact ⟨b,o,e,hc m _ (zF hm)⟩
theorem b6j (x:Int) (w:World) (h:a2e x):Calls Tryz.prog 193 #[.int .i64 x] w fun e w'=>e=.returned (.bool true)/\w=w':=by
 obtain ⟨h1,h2⟩:=h
 have t1:decide ((-1073741824:Int)<=x)=true:=by simpa using h1
 have t2:decide (x<(1073741824:Int))=true:=by simpa using h2
 go_enter Tryz.func193,Tryz.ntmps193
 go_wp2
 go_ret
 exact ⟨rfl,rfl⟩
theorem b5v (k:Nat) (w:World) (h:k<=25):Calls Tryz.prog 206 #[.int .i64 k] w fun e w'=>e=.returned (.bool true)/\w=w':=by
 have t1:decide ((0:Int)<=(k:Int))=true:=by simp
 have t2:decide ((k:Int)<=(25:Int))=true:=by simp;omega
 go_enter Tryz.func206,Tryz.ntmps206
 go_wp2
 go_ret
 exact ⟨rfl,rfl⟩
theorem b9o (x:Int) (w:World) (h:a2e x):Calls Tryz.prog 147 #[.int .i64 x] w fun e w'=>e=.returned (.int .u64 (a8f x))/\w=w':=by
 have hh:=h
 obtain ⟨h1,h2⟩:=h
 by_cases hx:0<=x
 ·have t1:decide ((0:Int)<=x)=true:=by simpa using hx
  go_enter Tryz.func147,Tryz.ntmps147
  go_wp2_with (go_at_call 193;refine (b6j _ _ hh).mono ?_;rintro e w' ⟨rfl,rfl⟩)
  go_ret
  refine ⟨?_,rfl⟩
  have:((a8f x:Nat):Int)=2*x:=by unfold a8f;rw [if_pos hx];omega
  rw [this]
  rfl
 ·have t1:decide ((0:Int)<=x)=false:=by simpa using hx
  have hf:((a8f x:Nat):Int)=-(2*x)-1:=by unfold a8f;rw [if_neg hx];omega
  have HF:=hid hf
  clear hf
  go_enter Tryz.func147,Tryz.ntmps147
  go_wp2_with (go_at_call 193;refine (b6j _ _ hh).mono ?_;rintro e w' ⟨rfl,rfl⟩)
  go_ret
  refine ⟨?_,rfl⟩
  rw [HF.out]
  first | rfl | (go_num)
theorem b2j (u:Nat) (w:World) (h:u<2147483648):Calls Tryz.prog 160 #[.int .u64 u] w fun e w'=>e=.returned (.int .i64 (a1l u))/\w=w':=by
 have t0:decide ((2147483648:Int)<=(u:Int))=false:=by simp;omega
 by_cases hx:u%2=0
 ·have t1:((u:Int)%2==0)=true:=by rw [beq_iff_eq];omega
  have hf:a1l u=(u:Int) / 2:=by unfold a1l;rw [if_pos hx];omega
  have HF:=hid hf
  clear hf hx
  go_enter Tryz.func160,Tryz.ntmps160
  go_wp2
  go_ret
  rw [HF.out]
  exact ⟨rfl,rfl⟩
 ·have t1:((u:Int)%2==0)=false:=by rw [beq_eq_false_iff_ne];omega
  have hf:a1l u=-((u:Int) / 2)-1:=by unfold a1l;rw [if_neg hx];omega
  have HF:=hid hf
  clear hf hx
  go_enter Tryz.func160,Tryz.ntmps160
  go_wp2
  go_ret
  rw [HF.out]
  exact ⟨rfl,rfl⟩
theorem e9s (k:Nat) (x:Int) (w:World) (hk:k<=25) (h:a2e x):Calls Tryz.prog 252 #[.int .i64 k,.int .i64 x] w fun e w'=>e=.returned (.int .i64 (c4e k x))/\w=w':=by
 have hu:=c8f h
 obtain ⟨u,ac⟩:=zX (a8f x)
 have ab:=b9o x w h
 rw [<-ac] at hu ab
 have hq:u / 2^k<=u:=Nat.div_le_self _ _
 obtain ⟨q,aa⟩:=zX (u / 2^k)
 have e1:(u:Int) / 2^k=(q:Int):=by rw [aa];simp
 rw [<-aa] at hq
 have hf:c4e k x=if q<32 then q+1+k else 65:=by unfold c4e;rw [<-ac,<-aa]
 have HF:=hid hf
 clear hf ac aa
 by_cases hs:q<32
 ·have t1:decide ((q:Int)<32)=true:=by simp;omega
  go_enter Tryz.func252,Tryz.ntmps252
  go_wp2_with (first | (go_at_call 206;refine (b5v _ _ hk).mono ?_;rintro e w' ⟨rfl,rfl⟩) | (go_at_call 193;refine (b6j _ _ h).mono ?_;rintro e w' ⟨rfl,rfl⟩) | (go_at_call 147;refine ab.mono ?_;rintro e w' ⟨rfl,rfl⟩))
  go_ret
  rw [HF.out,if_pos hs]
  refine ⟨?_,rfl⟩
  first | rfl | (go_num)
 ·have t1:decide ((q:Int)<32)=false:=by simp;omega
  go_enter Tryz.func252,Tryz.ntmps252
  go_wp2_with (first | (go_at_call 206;refine (b5v _ _ hk).mono ?_;rintro e w' ⟨rfl,rfl⟩) | (go_at_call 193;refine (b6j _ _ h).mono ?_;rintro e w' ⟨rfl,rfl⟩) | (go_at_call 147;refine ab.mono ?_;rintro e w' ⟨rfl,rfl⟩))
  go_ret
  rw [HF.out,if_neg hs]
  exact ⟨rfl,rfl⟩
theorem e5m (k:Nat) (l:List Int) (x:Int):b9c k (l++[x])=b9c k l+c4e k x:=by simp [b9c]
theorem a0o {α:Type} (l:List α) {m:Nat} (h:m<l.length):l.take (m+1)=l.take m++[l[m]]:=by
 rw [List.take_succ_eq_append_getElem h]
theorem d4m (k:Nat) (l:List Int) (A:Option Addr) (cap:Nat) (w:World) (hk:k<=25) (hw:∀ x∈l,a2e x) (hc:a0d vi w A l) (hl:l.length<=1099511627776) :
  Calls Tryz.prog 212 #[.int .i64 k,.slice A l.length cap] w fun e w'=>e=.returned (.int .i64 (b9c k l))/\w=w':=by
 have HW:=hid hw
 clear hw
 obtain ⟨n,hn⟩:=zX (l.length)
 rw [<-hn] at hl ⊢
 have HN:=hid hn
 clear hn
 go_enter Tryz.func212,Tryz.ntmps212
 go_wp2_with fail
 go_loopg [5,10] n (fun j s i wr=>j<=n/\i=.int .i64 ((n-j:Nat):Int)/\s=.int .i64 ((b9c k (l.take (n-j)):Nat):Int)/\w=wr)
 case atStart=>exact ⟨zQ _,by simp,by simp [b9c],rfl⟩
 case round =>
  obtain ⟨hj,rfl,rfl,rfl⟩:=hrel
  rcases gk with _ | j
  ·have t4:decide (((n-0:Nat):Int)<(n:Int))=false:=by simp
   have e:l.take n=l:=by rw [HN.out,zN]
   rw [Nat.sub_zero,e]
   go_wp2
   go_ret
   exact ⟨rfl,rfl⟩
  ·obtain ⟨m,ai⟩:=zX (n-(j+1))
   rw [<-ai]
   have ak:m<n:=by omega
   have ah:n-j=m+1:=by omega
   have HM:=hid ah
   clear ai ah
   have ag:m<l.length:=by rw [<-HN.out];exact ak
   obtain ⟨b,o,rfl,aa⟩:=hc.at_ ag
   have ab:=e5m k (l.take m) l[m]
   rw [<-a0o l ag] at ab
   have ad:=e5l k (l.take m) hk
   rw [zI] at ad
   obtain ⟨x,hx⟩:=zX (l[m])
   rw [<-hx] at aa ab
   have ae:w.cell? ⟨b,o+m,none⟩=some (.int .i64 x):=aa
   have am:a2e x:=by rw [hx];exact HW.out _ (zG _)
   obtain ⟨s,hs⟩:=zX (b9c k (l.take m))
   rw [<-hs] at ab ad ⊢
   have af:=a6j k x hk
   have HS:=hid ab
   have al:s<=65*n:=by omega
   have aj:=e9s k x w hk am
   obtain ⟨c,ac⟩:=zX (c4e k x)
   rw [<-ac] at aj af
   have HC:=hid ac
   clear ab aa hx hs ad ac ag
   go_wp2_with (go_at_call 252;refine aj.mono ?_;rintro e w' ⟨rfl,rfl⟩)
   go_roundg j
   case measure=>omega
   case rel =>
    rw [HM.out,HS.out,<-HC.out]
    exact ⟨by omega,by go_num,by go_num,rfl⟩
theorem c8b (l:List Int) (A:Option Addr) (cap:Nat) (w:World) (hw:∀ x∈l,a2e x) (hc:a0d vi w A l) (hl:l.length<=1099511627776) :
  Calls Tryz.prog 162 #[.slice A l.length cap] w fun e w'=>e=.returned (.int .i64 (a6u l))/\w=w':=by
 have ab:=fun k (hk:k<=25)=>d4m k l A cap w hk hw hc hl
 have ae:=ab 0 (by omega)
 have ad:=hid ab
 clear ab hw hc
 go_enter Tryz.func162,Tryz.ntmps162
 go_wp2_with fail
 refine ae.mono ?_
 rintro e w' ⟨rfl,rfl⟩
 clear ae
 go_wp2_with fail
 go_loopg [3,4,5] 25 (fun j b s i wr=>j<=25/\b=.int .i64 (a5o l (25-j))/\s=.int .i64 (b9c (a5o l (25-j)) l)/\i=.int .i64 ((26-j:Nat):Int)/\w=wr)
 case atStart=>exact ⟨zQ _,rfl,rfl,rfl,rfl⟩
 case round =>
  obtain ⟨hj,rfl,rfl,rfl,rfl⟩:=hrel
  rcases gk with _ | j
  ·have t4:decide (((26-0:Nat):Int)<=(25:Int))=false:=by simp
   go_wp2
   go_ret
   exact ⟨rfl,rfl⟩
  ·obtain ⟨m,ai⟩:=zX (25-(j+1))
   rw [<-ai]
   have am:m<25:=by omega
   have ag:25-j=m+1:=by omega
   have af:26-(j+1)=m+1:=by omega
   have ah:26-j=m+2:=by omega
   rw [af]
   have HM:=hid ag
   have aj:=hid ah
   have al:a5o l (m+1)=if b9c (m+1) l<b9c (a5o l m) l then m+1 else a5o l m:=rfl
   have HS:=hid al
   have aa:=ad.out (m+1) (by omega)
   obtain ⟨s,hs⟩:=zX (b9c (m+1) l)
   obtain ⟨b,hb⟩:=zX (a5o l m)
   rw [<-hs] at aa
   rw [<-hb]
   obtain ⟨t,ht⟩:=zX (b9c b l)
   rw [<-ht]
   have HB:=hid hb
   have HT:=hid ht
   have ac:=hid hs
   clear al ai ag af ah hb ht hs
   have ak:((m+1:Nat):Int)=(m:Int)+1:=by omega
   by_cases hlt:s<t
   ·have t5:decide (s<t)=true:=by simpa using hlt
    go_wp2_with (go_at_call 212;refine aa.mono ?_;rintro e w' ⟨rfl,rfl⟩)
    go_roundg j
    case measure=>omega
    case rel =>
     rw [HM.out,aj.out,HS.out,<-HB.out,<-ac.out,<-HT.out,if_pos hlt,<-ac.out]
     exact ⟨by omega,by go_num,rfl,by go_num,rfl⟩
   ·have t5:decide (s<t)=false:=by simpa using hlt
    go_wp2_with (go_at_call 212;refine aa.mono ?_;rintro e w' ⟨rfl,rfl⟩)
    go_roundg j
    case measure=>omega
    case rel =>
     rw [HM.out,aj.out,HS.out,<-HB.out,<-ac.out,<-HT.out,if_neg hlt,<-HT.out]
     exact ⟨by omega,rfl,rfl,by go_num,rfl⟩
def b0x:List (Int × Int):=[(0,1),(1,0),(1,1),(-1,1),(0,2),(2,0),(1,2),(-1,2),(2,1),(-2,1),(2,2),(-2,2),(0,3),(3,0),(1,3),(-1,3),(3,1),(-3,1),(2,3),(-2,3),(3,2),(-3,2),(0,4),(4,0)]
def ptX (i:Nat):Int:=(b0x.getD i (0,0)).1
def ptY (i:Nat):Int:=(b0x.getD i (0,0)).2
theorem f4d (i:Nat) : -4<=ptX i/\ptX i<=4/\0<=ptY i/\ptY i<=4:=by
 rcases zZ i 24 with h | h
 ·have:∀ i:Fin 24,-4<=ptX i.1/\ptX i.1<=4/\0<=ptY i.1/\ptY i.1<=4:=by decide
  exact this ⟨i,h⟩
 ·have:b0x.getD i (0,0)=(0,0):=by rw [zD,List.getElem?_eq_none (by simpa [b0x] using h)];rfl
  unfold ptX ptY
  rw [this]
  decide
def b5t (c W:Nat):Int:=if 24<c then (c:Int)-24 else max (ptY (c-1)*W+ptX (c-1)) 1
theorem e8w {c W:Nat} (h1:c<=1048) (hw:W<=64):1<=b5t c W/\b5t c W<=1024:=by
 obtain ⟨p0,p1,p2,p3⟩:=f4d (c-1)
 have h2:ptY (c-1)*(W:Int)<=4*64:=Int.mul_le_mul p3 (by omega) (by omega) (by omega)
 unfold b5t
 split<;>omega
def a4y (d W:Nat):Nat->Nat->Nat
 | 0,_=>d+24
 | f+1,c=>if b5t c W=d then c else a4y d W f (c+1)
def b4z (d W:Nat):Nat:=a4y d W 24 1
theorem c0i {d W:Nat} (hd:1<=d):∀ f c,c+f=25->1<=c->(1<=a4y d W f c/\a4y d W f c<=d+24)/\b5t (a4y d W f c) W=d
 | 0,c,h,h1=>by
  refine ⟨by simp only [a4y];omega,?_⟩
  have e:a4y d W 0 c=d+24:=rfl
  rw [e]
  unfold b5t
  rw [if_pos (by omega)]
  omega
 | f+1,c,h,h1=>by
  unfold a4y
  split
  ·rename_i hn
   exact ⟨by omega,hn⟩
  ·exact c0i hd f (c+1) (by omega) (by omega)
theorem c6l {d W:Nat} (hd:1<=d):(1<=b4z d W/\b4z d W<=d+24)/\b5t (b4z d W) W=d:=c0i hd 24 1 rfl (by omega)
structure Tok where
 len:Nat
 dist:Nat
 lit:Int
def Tok.isLit (t:Tok):Bool:=decide (t.len=0)&&decide (t.dist=0)
def Tok.isCopy (t:Tok):Bool:=decide (3<=t.len)&&decide (t.len<=64)&&decide (1<=t.dist)&&decide (t.dist<=1024)&&decide (t.lit=0)
def Tok.ok (t:Tok):Prop:=t.isLit=true\/t.isCopy=true
theorem Tok.isLit_iff {t:Tok}:t.isLit=true ↔ t.len=0/\t.dist=0:=by simp [Tok.isLit]
theorem Tok.isCopy_iff {t:Tok}:t.isCopy=true ↔ 3<=t.len/\t.len<=64/\1<=t.dist/\t.dist<=1024/\t.lit=0:=by simp [Tok.isCopy,and_assoc]
def a2l (t:Tok):List Go.Value:=[.int .i64 t.len,.int .i64 t.dist,.int .i64 t.lit]
def e1a (t:Tok):Go.Value:=.agg #[.int .i64 t.len,.int .i64 t.dist,.int .i64 t.lit]
theorem b8r {l:List Tok} {i:Nat} {t:Tok} (h:l[i]?=some t) :
  (l.flatMap a2l)[i*3]?=some (.int .i64 t.len)/\(l.flatMap a2l)[i*3+1]?=some (.int .i64 t.dist)/\(l.flatMap a2l)[i*3+2]?=some (.int .i64 t.lit):=by
 induction l generalizing i with
 | nil=>simp at h
 | cons s l ih =>
  rw [List.flatMap_cons]
  have hl:(a2l s).length=3:=rfl
  cases i with
  | zero =>
   simp at h
   subst h
   refine ⟨rfl,rfl,rfl⟩
  | succ i =>
   obtain ⟨a,b,c⟩:=ih (by simpa using h)
   refine ⟨?_,?_,?_⟩
   ·rw [zS (by omega),hl,show (i+1)*3-3=i*3 by omega];exact a
   ·rw [zS (by omega),hl,show (i+1)*3+1-3=i*3+1 by omega];exact b
   ·rw [zS (by omega),hl,show (i+1)*3+2-3=i*3+2 by omega];exact c
structure Pts (w:World):Prop where
 px:∀ i,i<24->w.cell? ⟨0,i*2,none⟩=some (.int .i64 (ptX i))
 py:∀ i,i<24->w.cell? ⟨0,i*2+1,none⟩=some (.int .i64 (ptY i))
 lt:0<w.heap.size
theorem Pts.chg {w w':World} {F:List Nat} (h:Pts w) (hc:Chg F w w') (hF:0∉F):Pts w' :=
 ⟨fun i hi=>(World.cell?_of_block (w:=w) (hc.block 0 h.lt hF)).trans (h.px i hi),fun i hi=>(World.cell?_of_block (w:=w) (hc.block 0 h.lt hF)).trans (h.py i hi),Nat.lt_of_lt_of_le h.lt hc.size⟩
theorem Pts.same {w w':World} (h:Pts w) (hc:Chg [] w w'):Pts w':=h.chg hc (by simp)
theorem d6x (c W:Nat) (w:World) (h:Pts w) (h0:1<=c) (h1:c<=1048) (hw0:1<=W) (hw1:W<=64) :
  Calls Tryz.prog 211 #[.int .i64 c,.int .i64 W] w fun e w'=>e=.returned (.int .i64 (b5t c W))/\∃ n,w'=w.drewN n:=by
 have t1:decide ((c:Int)<1)=false:=zA (by omega)
 have t2:decide ((1048:Int)<(c:Int))=false:=zA (by omega)
 have t3:decide ((W:Int)<1)=false:=zA (by omega)
 have t4:decide ((64:Int)<(W:Int))=false:=zA (by omega)
 by_cases hb:24<c
 ·have t5:decide ((24:Int)<(c:Int))=true:=zB (by omega)
  have e:b5t c W=(c:Int)-24:=by unfold b5t;rw [if_pos hb]
  rw [e]
  go_enter Tryz.func211,Tryz.ntmps211
  go_wp2
  go_ret
  exact ⟨rfl,0,rfl⟩
 ·have t5:decide ((24:Int)<(c:Int))=false:=zA (by omega)
  obtain ⟨i,hi⟩:∃ i,c=i+1:=⟨c-1,by omega⟩
  subst hi
  have aa:i<24:=by omega
  obtain ⟨p0,p1,p2,p3⟩:=f4d i
  have e:b5t (i+1) W=max (ptY i*W+ptX i) 1:=by unfold b5t;rw [if_neg hb];rfl
  have cx:=h.px i aa
  have cy:=h.py i aa
  rw [e]
  have e1:((i+1:Nat):Int)-1=(i:Int):=by omega
  generalize ptX i=x at *
  generalize ptY i=y at *
  obtain ⟨m,hm⟩:=zX (y*(W:Int))
  have ad:0<=m:=by rw [hm];exact Int.mul_nonneg p2 (by omega)
  have ab:m<=256:=by rw [hm];exact Int.mul_le_mul (c:=4) (d:=64) p3 (by omega) (by omega) (by omega)
  rw [<-hm]
  have ac:y*(W:Int)=m:=hm.symm
  clear e hm hb
  go_enter Tryz.func211,Tryz.ntmps211
  go_wp2_with fail
  go_quiet (fail)
  go_wp2_with fail
  all_goals
   go_ret
   exact ⟨congrArg (fun z=>Ending.returned (.int .i64 z)) (show _=max (m+x) 1 by omega),nq,rfl⟩
theorem e8p (d W:Nat) (w:World) (h:Pts w) (h0:1<=d) (h1:d<=1024) (hw0:1<=W) (hw1:W<=64) :
  Calls Tryz.prog 161 #[.int .i64 d,.int .i64 W] w fun e w'=>e=.returned (.int .i64 (b4z d W))/\∃ n,w'=w.drewN n:=by
 have t1:decide ((d:Int)<1)=false:=zA (by omega)
 have t2:decide ((1024:Int)<(d:Int))=false:=zA (by omega)
 have t3:decide ((W:Int)<1)=false:=zA (by omega)
 have t4:decide ((64:Int)<(W:Int))=false:=zA (by omega)
 have hd:b4z d W=a4y d W 24 1:=rfl
 have hn:=fun c (n:Nat) (a:1<=c) (b:c<=1048)=>d6x c W (w.drewN n) (h.same ((zR [] w).drewN n)) a b hw0 hw1
 have HD:=hid hd
 have HN:=hid hn
 clear hd hn h
 go_enter Tryz.func161,Tryz.ntmps161
 go_wp2_with fail
 go_loopg [5] 24 (fun j iv wr=>∃ c n:Nat,iv=.int .i64 c/\c+j=25/\1<=c/\b4z d W=a4y d W j c/\wr=w.drewN n)
 case atStart=>exact ⟨1,0,rfl,rfl,zQ _,HD.out,rfl⟩
 case round =>
  obtain ⟨c,n,rfl,hj,ad,ab,rfl⟩:=hrel
  rcases gk with _ | j
  ·have t5:decide ((c:Int)<=24)=false:=zA (by omega)
   go_wp2
   go_ret
   rw [ab]
   exact ⟨congrArg (fun z=>Ending.returned (.int .i64 z)) (show (d:Int)+24=((d+24:Nat):Int) by omega),n,rfl⟩
  ·have t5:decide ((c:Int)<=24)=true:=zB (by omega)
   have ac:=HN.out c n ad (by omega)
   have af:=e8w (c:=c) (W:=W) (by omega) hw1
   have aa:a4y d W (j+1) c=if b5t c W=d then c else a4y d W j (c+1):=rfl
   generalize b5t c W=nr at *
   by_cases hq:nr=(d:Int)
   ·have t6:(nr==(d:Int))=true:=by simpa using hq
    rw [if_pos hq] at aa
    have HQ:=hid aa
    clear hq aa
    go_wp2_with fail
    refine ac.mono ?_
    rintro e w' ⟨rfl,k,rfl⟩
    go_wp2_with fail
    go_ret
    rw [ab,HQ.out]
    exact ⟨rfl,n+k,by first | rfl | rw [World.drewN_drewN]⟩
   ·have t6:(nr==(d:Int))=false:=by simpa using hq
    rw [if_neg hq] at aa
    have HQ:=hid aa
    have ae:=hid ab
    clear hq aa ab
    go_wp2_with fail
    refine ac.mono ?_
    rintro e w' ⟨rfl,k,rfl⟩
    go_wp2_with fail
    go_roundg j
    case measure=>omega
    case rel =>
     exact ⟨c+1,n+k,by go_num,by omega,by omega,by rw [ae.out,HQ.out],by first | rfl | rw [World.drewN_drewN]⟩
theorem b9j (t:Tok) (w:World):Calls Tryz.prog 159 #[e1a t] w fun e w'=>e=.returned (.bool t.isLit)/\Chg [] w w':=by
 obtain ⟨a,b,c⟩:=t
 have e:Tok.isLit ⟨a,b,c⟩=((a:Int)==0&&(b:Int)==0):=by
  unfold Tok.isLit
  rw [Bool.eq_iff_iff]
  simp
 rw [e]
 have ch:Chg [] w w:=zR _ _
 have HC:Hid (∀ o,Chg [] w (w.alloc o)):=hid fun o=>(zR [] w).alloc o
 show Calls _ _ #[.agg #[.int .i64 a,.int .i64 b,.int .i64 c]] _ _
 by_cases ha:(a:Int)=0
 ·have t1:((a:Int)==0)=true:=by simpa using ha
  go_enter Tryz.func159,Tryz.ntmps159
  go_wp2_with fail
  go_ret
  refine ⟨?_,HC.out _⟩
  rw [ha]
  rfl
 ·have t1:((a:Int)==0)=false:=by simpa using ha
  go_enter Tryz.func159,Tryz.ntmps159
  go_wp2_with fail
  go_ret
  refine ⟨?_,HC.out _⟩
  rw [t1]
  rfl
theorem e2y (t:Tok) (w:World) (h:t.isCopy=true):Calls Tryz.prog 210 #[e1a t] w fun e w'=>e=.returned (.bool true)/\Chg [] w w':=by
 rw [Tok.isCopy_iff] at h
 obtain ⟨a,b,c⟩:=t
 obtain ⟨h1,h2,h3,h4,h5⟩:=h
 simp only at h1 h2 h3 h4 h5
 subst h5
 have t1:decide ((3:Int)<=(a:Int))=true:=zB (by omega)
 have t2:decide ((a:Int)<=64)=true:=zB (by omega)
 have t3:decide ((1:Int)<=(b:Int))=true:=zB (by omega)
 have t4:decide ((b:Int)<=1024)=true:=zB (by omega)
 have HC:Hid (∀ o,Chg [] w (w.alloc o)):=hid fun o=>(zR [] w).alloc o
 show Calls _ _ #[.agg #[.int .i64 a,.int .i64 b,.int .i64 0]] _ _
 go_enter Tryz.func210,Tryz.ntmps210
 go_wp2_with fail
 go_ret
 exact ⟨rfl,HC.out _⟩
def d8b (w:World) (A:Option Addr) (l:List Tok):Prop:=a0d (fun u=>u) w A (l.flatMap a2l)
theorem d8b.at_ {w:World} {A:Option Addr} {l:List Tok} (h:d8b w A l) {m:Nat} {t:Tok} (hm:l[m]?=some t) :
  ∃ g o,A=some ⟨g,o,none⟩/\w.cell? ⟨g,o+m*3,none⟩=some (.int .i64 t.len)/\w.cell? ⟨g,o+m*3+1,none⟩=some (.int .i64 t.dist)/\w.cell? ⟨g,o+m*3+2,none⟩=some (.int .i64 t.lit):=by
 obtain ⟨a,b,c⟩:=b8r hm
 have h0:=(List.getElem?_eq_some_iff.1 a).1
 obtain ⟨g,o,rfl,_,hc⟩:=h.ex (by omega)
 exact ⟨g,o,rfl,hc _ _ a,hc _ _ b,hc _ _ c⟩
theorem d8b.chg {w w':World} {A:Option Addr} {l:List Tok} {F:List Nat} (h:d8b w A l) (hc:Chg F w w') (hA:∀ ad,A=some ad->ad.block∉F):d8b w' A l:=a0d.chg h hc hA
theorem d8b.same {w w':World} {A:Option Addr} {l:List Tok} (h:d8b w A l) (hc:Chg [] w w'):d8b w' A l:=a0d.same h hc
theorem f3t (l:List Tok) (A:Option Addr) (cap:Nat) (w:World) (hl:l.length<=1099511627776) (hok:∀ t∈l,t.ok) (hc:d8b w A l) :
  Calls Tryz.prog 158 #[.slice A l.length cap] w fun e w'=>e=.returned (.bool true)/\Chg [] w w':=by
 obtain ⟨n,hn⟩:=zX (l.length)
 rw [<-hn] at hl ⊢
 have HN:=hid hn
 have HK:=hid hok
 clear hn hok
 go_enter Tryz.func158,Tryz.ntmps158
 go_wp2_with fail
 go_loopg [7] n (fun j iv wr=>∃ i:Nat,iv=.int .i64 i/\i+j=n/\Chg [] w wr)
 case atStart=>exact ⟨0,rfl,by omega,zR _ _⟩
 case round =>
  obtain ⟨i,rfl,hj,ae⟩:=hrel
  rcases gk with _ | j
  ·obtain rfl:i=n:=by omega
   go_wp2
   go_ret
   exact ⟨rfl,ae⟩
  ·have am:i<n:=by omega
   have af:i<l.length:=by rw [<-HN.out];exact am
   have ac:=HK.out l[i] (zG af)
   obtain ⟨t,ht⟩:=zX (l[i])
   have ab:l[i]?=some t:=by rw [ht];exact zF af
   rw [<-ht] at ac
   obtain ⟨g,o,rfl,c1,c2,c3⟩:=(hc.same ae).at_ ab
   have aa:=fun w=>b9j t w
   have ak:=fun w h=>e2y t w h
   have ai:e1a t=.agg #[.int .i64 t.len,.int .i64 t.dist,.int .i64 t.lit]:=rfl
   unfold Tok.ok at ac
   rw [ai] at aa ak
   generalize t.len=ta at *
   generalize t.dist=tb at *
   generalize t.lit=tc at *
   clear ab ht af ai
   have hb:=Blk.new wr 201 #[.int .i64 ta,.int .i64 tb,.int .i64 tc]
   have an:=(zR [] wr).alloc (.cells #[.int .i64 ta,.int .i64 tb,.int .i64 tc] 201)
   go_wp2_with fail
   refine (aa _).mono ?_
   rintro e w2 ⟨rfl,ah⟩
   have ag:=hb.chg ah (by simp)
   have b0:=ag.cell 0
   have b1:=ag.cell 1
   have b2:=ag.cell 2
   simp only [List.size_toArray,zK,List.length_nil,List.getElem?_toArray,List.getElem?_cons_zero,List.getElem?_cons_succ] at b0 b1 b2
   have aj:=ae.tq (an.tq ah)
   cases hlt:t.isLit with
   | true =>
    go_wp2_with fail
    go_roundg j
    case measure=>omega
    case rel=>exact ⟨i+1,by go_num,by omega,aj⟩
   | false =>
    rw [hlt] at ac
    have ad:t.isCopy=true:=by rcases ac with h | h;cases h;exact h
    go_wp2_with fail
    refine (ak _ ad).mono ?_
    rintro e w3 ⟨rfl,al⟩
    go_wp2_with fail
    go_roundg j
    case measure=>omega
    case rel=>exact ⟨i+1,by go_num,by omega,aj.tq al⟩
theorem a9c {d:Nat} (h0:1<=d) (h1:d<=16):(2:Int)<=2^d/\(2:Int)^d<=65536:=by
 have e0:(2:Int)^1<=2^d:=by
  have:=Nat.pow_le_pow_right (n:=2) (by decide) h0
  exact_mod_cast this
 have e1:(2:Int)^d<=2^16:=by
  have:=Nat.pow_le_pow_right (n:=2) (by decide) h1
  exact_mod_cast this
 omega
theorem b2n (v:Int) (d:Nat) (w:World) (h0:1<=d) (h1:d<=16):Calls Tryz.prog 83 #[.int .i64 v,.int .i64 d] w fun e w'=>e=.returned (.int .i64 (a0k v d))/\w=w':=by
 have t1:decide ((d:Int)<1)=false:=zA (by omega)
 have t2:decide ((16:Int)<(d:Int))=false:=zA (by omega)
 obtain ⟨ab,aa⟩:=a9c h0 h1
 have hm:=e1i v (i:=d) (by omega)
 have HM:=hid hm
 clear hm
 go_enter Tryz.func83,Tryz.ntmps83
 go_wp2
 go_ret
 refine ⟨?_,rfl⟩
 first | exact congrArg (fun z=>Ending.returned (.int .i64 z)) HM.out
theorem a7x (v:Int) (d:Nat) (w:World) (h0:1<=d) (h1:d<=16):Calls Tryz.prog 84 #[.int .i64 v,.int .i64 d] w fun e w'=>e=.returned (.int .i64 (a1b v d))/\w=w':=by
 have t1:decide ((d:Int)<1)=false:=zA (by omega)
 have t2:decide ((16:Int)<(d:Int))=false:=zA (by omega)
 obtain ⟨af,ag⟩:=a9c h0 h1
 have hh:=a6w h0
 have ad:=a0i (d-1)
 have hw:=b2n v d w h0 h1
 have ab:=a1j v d
 have ac:=a1i v d
 have aa:a1b v d=if 2^(d-1)<=a0k v d then a0k v d-2^d else a0k v d:=rfl
 obtain ⟨u,hu⟩:=zX (a0k v d)
 rw [<-hu] at hw ab ac aa
 have HD:=hid aa
 have e1:(2:Int)^((d:Int)-1).toNat=2^(d-1):=by congr 1;omega
 have ae:(2:Int)^(d-1)<=32768:=by omega
 clear aa hu hh
 by_cases hs:2^(d-1)<=u
 ·have t3:decide ((2:Int)^(d-1)<=u)=true:=by simpa using hs
  rw [if_pos hs] at HD
  go_enter Tryz.func84,Tryz.ntmps84
  go_wp2_with (go_at_call 83;refine hw.mono ?_;rintro e w' ⟨rfl,rfl⟩)
  go_ret
  rw [HD.out]
  exact ⟨rfl,rfl⟩
 ·have t3:decide ((2:Int)^(d-1)<=u)=false:=by simpa using hs
  rw [if_neg hs] at HD
  go_enter Tryz.func84,Tryz.ntmps84
  go_wp2_with (go_at_call 83;refine hw.mono ?_;rintro e w' ⟨rfl,rfl⟩)
  go_ret
  rw [HD.out]
  exact ⟨rfl,rfl⟩
def c5k (x:Int):Prop:=-1152921504606846976<=x/\x<=1152921504606846976
theorem c0q (a b:Int) (w:World) (ha:c5k a) (hb:c5k b):Calls Tryz.prog 247 #[.int .i64 a,.int .i64 b] w fun e w'=>e=.returned (.int .i64 (a8j a b))/\w=w':=by
 obtain ⟨a1,a2⟩:=ha
 obtain ⟨b1,b2⟩:=hb
 by_cases h:a<b
 ·have t1:decide (a<b)=true:=zB h
  have hd:a8j a b=b-a:=by unfold a8j;rw [if_pos h]
  have HD:=hid hd
  clear hd
  go_enter Tryz.func247,Tryz.ntmps247
  go_wp2
  go_ret
  rw [HD.out]
  exact ⟨rfl,rfl⟩
 ·have t1:decide (a<b)=false:=zA h
  have hd:a8j a b=a-b:=by unfold a8j;rw [if_neg h]
  have HD:=hid hd
  clear hd
  go_enter Tryz.func247,Tryz.ntmps247
  go_wp2
  go_ret
  rw [HD.out]
  exact ⟨rfl,rfl⟩
theorem d9t (t a b c:Int) (B:Nat) (cap:Nat) (w:World) (ht:c5k t) (ha:c5k a) (hb:c5k b) (hc:c5k c) (h0:w.cell? ⟨B,0,none⟩=some (.int .i64 a)) (h1:w.cell? ⟨B,1,none⟩=some (.int .i64 b)) (h2:w.cell? ⟨B,2,none⟩=some (.int .i64 c)) :
  Calls Tryz.prog 245 #[.int .i64 t,.slice (some ⟨B,0,none⟩) 3 cap] w fun e w'=>e=.returned (.int .i64 (b5u t a b c))/\w=w':=by
 obtain ⟨b1,ac⟩:=zX (if a8j b t<a8j a t then b else a)
 have aa:b5u t a b c=if a8j c t<a8j b1 t then c else b1:=by rw [ac];rfl
 have ab:c5k b1:=by rw [ac];split<;>assumption
 have ca:=c0q a t w ha ht
 have cb:=c0q b t w hb ht
 have cc:=c0q c t w hc ht
 have ad:=c0q b1 t w ab ht
 have HD:=hid aa
 have HB:=hid ac
 obtain ⟨da,af⟩:=zX (a8j a t)
 obtain ⟨db,ag⟩:=zX (a8j b t)
 obtain ⟨dc,ae⟩:=zX (a8j c t)
 obtain ⟨d1,ah⟩:=zX (a8j b1 t)
 rw [<-af] at ca HB
 rw [<-ag] at cb HB
 rw [<-ae] at cc HD
 rw [<-ah] at ad HD
 clear aa ac af ag ae ah ab ht ha hb hc
 go_enter Tryz.func245,Tryz.ntmps245
 go_wp2_with fail
 go_loopg [5,13] 3 (fun j bv iv wr=>w=wr/\((j=3/\iv=.int .i64 0/\bv=.int .i64 a)\/(j=2/\iv=.int .i64 1/\bv=.int .i64 a)\/(j=1/\iv=.int .i64 2/\bv=.int .i64 b1)\/(j=0/\iv=.int .i64 3/\bv=.int .i64 (b5u t a b c))))
 case atStart=>exact ⟨rfl,.inl ⟨rfl,rfl,rfl⟩⟩
 case round =>
  obtain ⟨rfl,hrel⟩:=hrel
  rcases hrel with ⟨rfl,rfl,rfl⟩ | ⟨rfl,rfl,rfl⟩ | ⟨rfl,rfl,rfl⟩ | ⟨rfl,rfl,rfl⟩
  ·go_wp2_with (go_at_call 247;refine ca.mono ?_;rintro e w' ⟨rfl,rfl⟩)
   go_roundg 2
   case measure=>omega
   case rel=>exact ⟨rfl,.inr (.inl ⟨rfl,rfl,rfl⟩)⟩
  ·by_cases hlt:db<da
   ·have t1:decide (db<da)=true:=zB hlt
    rw [if_pos hlt] at HB
    go_wp2_with (first | (go_at_call 247;((with_reducible refine cb.mono ?_);rintro e w' ⟨rfl,rfl⟩)) | (go_at_call 247;((with_reducible refine ca.mono ?_);rintro e w' ⟨rfl,rfl⟩)))
    go_roundg 1
    case measure=>omega
    case rel=>exact ⟨rfl,.inr (.inr (.inl ⟨rfl,rfl,by rw [HB.out]⟩))⟩
   ·have t1:decide (db<da)=false:=zA hlt
    rw [if_neg hlt] at HB
    go_wp2_with (first | (go_at_call 247;((with_reducible refine cb.mono ?_);rintro e w' ⟨rfl,rfl⟩)) | (go_at_call 247;((with_reducible refine ca.mono ?_);rintro e w' ⟨rfl,rfl⟩)))
    go_roundg 1
    case measure=>omega
    case rel=>exact ⟨rfl,.inr (.inr (.inl ⟨rfl,rfl,by rw [HB.out]⟩))⟩
  ·by_cases hlt:dc<d1
   ·have t1:decide (dc<d1)=true:=zB hlt
    rw [if_pos hlt] at HD
    go_wp2_with (first | (go_at_call 247;((with_reducible refine cc.mono ?_);rintro e w' ⟨rfl,rfl⟩)) | (go_at_call 247;((with_reducible refine ad.mono ?_);rintro e w' ⟨rfl,rfl⟩)))
    go_roundg 0
    case measure=>omega
    case rel=>exact ⟨rfl,.inr (.inr (.inr ⟨rfl,rfl,by rw [HD.out]⟩))⟩
   ·have t1:decide (dc<d1)=false:=zA hlt
    rw [if_neg hlt] at HD
    go_wp2_with (first | (go_at_call 247;((with_reducible refine cc.mono ?_);rintro e w' ⟨rfl,rfl⟩)) | (go_at_call 247;((with_reducible refine ad.mono ?_);rintro e w' ⟨rfl,rfl⟩)))
    go_roundg 0
    case measure=>omega
    case rel=>exact ⟨rfl,.inr (.inr (.inr ⟨rfl,rfl,by rw [HD.out]⟩))⟩
  ·go_wp2
   go_ret
   exact ⟨rfl,rfl⟩
theorem b4c (l:List Int) (A:Option Addr) (cap W H d:Nat) (w:World) (hw0:1<=W) (hw1:W<=64) (hh0:1<=H) (hh1:H<=64) (h0:1<=d) (h1:d<=16) (hl:l.length=W*H) (hs:a1u d l) (hc:a0d vi w A l) :
  Calls Tryz.prog 194 #[.slice A l.length cap,.int .i64 W,.int .i64 H,.int .i64 d] w fun e w'=>e=.returned (.bool true)/\w=w':=by
 have t1:decide ((W:Int)<1)=false:=zA (by omega)
 have t2:decide ((64:Int)<(W:Int))=false:=zA (by omega)
 have t3:decide ((H:Int)<1)=false:=zA (by omega)
 have t4:decide ((64:Int)<(H:Int))=false:=zA (by omega)
 have t5:decide ((d:Int)<1)=false:=zA (by omega)
 have t6:decide ((16:Int)<(d:Int))=false:=zA (by omega)
 obtain ⟨ak,am⟩:=a9c h0 h1
 obtain ⟨m,hm⟩:=zX (l.length)
 rw [<-hm] at hl ⊢
 have ah:(W:Int)*(H:Int)=(m:Int):=by rw [hl];simp
 have t7:((m:Int) != (m:Int))=false:=by simp
 have ai:m<=4096:=by rw [hl];exact zL hw1 hh1
 have HN:=hid hm
 have HS:=hid hs
 clear hm hl hs
 go_enter Tryz.func194,Tryz.ntmps194
 go_wp2_with fail
 go_loopg [41] m (fun j i wr=>j<=m/\i=.int .i64 ((m-j:Nat):Int)/\w=wr)
 case atStart=>exact ⟨zQ _,by simp,rfl⟩
 case round =>
  obtain ⟨hj,rfl,rfl⟩:=hrel
  rcases gk with _ | j
  ·have t8:decide (((m-0:Nat):Int)<(m:Int))=false:=by simp
   go_wp2
   go_ret
   exact ⟨rfl,rfl⟩
  ·obtain ⟨i,ae⟩:=zX (m-(j+1))
   rw [<-ae]
   have ag:i<m:=by omega
   have ad:m-j=i+1:=by omega
   have HI:=hid ad
   clear ae ad
   have af:i<l.length:=by rw [<-HN.out];exact ag
   obtain ⟨g,o,rfl,aa⟩:=hc.at_ af
   have hx:=HS.out l[i] (zG _)
   obtain ⟨x,ac⟩:=zX (l[i])
   rw [<-ac] at aa hx
   have ab:w.cell? ⟨g,o+i,none⟩=some (.int .i64 x):=aa
   obtain ⟨al,an⟩:=hx
   have t9:decide (x<0)=false:=zA (by omega)
   have aj:decide ((2:Int)^d<=x)=false:=zA (by omega)
   clear aa ac af
   go_wp2
   go_roundg j
   case measure=>omega
   case rel =>
    rw [HI.out]
    exact ⟨by omega,by go_num,rfl⟩
theorem b7w (ks:List Nat) (A:Option Addr) (cap:Nat) (w:World) (hks:∀ k∈ks,k<10) (hl:ks.length<=64) (hc:a0d i64 w A ks) :
  Calls Tryz.prog 197 #[.slice A ks.length cap,.int .i64 ks.length] w fun e w'=>e=.returned (.bool true)/\w=w':=by
 obtain ⟨m,hm⟩:=zX (ks.length)
 rw [<-hm] at hl ⊢
 have t7:((m:Int) != (m:Int))=false:=by simp
 have HN:=hid hm
 have HS:=hid hks
 clear hm hks
 go_enter Tryz.func197,Tryz.ntmps197
 go_wp2_with fail
 go_loopg [13] m (fun j i wr=>j<=m/\i=.int .i64 ((m-j:Nat):Int)/\w=wr)
 case atStart=>exact ⟨zQ _,by simp,rfl⟩
 case round =>
  obtain ⟨hj,rfl,rfl⟩:=hrel
  rcases gk with _ | j
  ·have t8:decide (((m-0:Nat):Int)<(m:Int))=false:=by simp
   go_wp2
   go_ret
   exact ⟨rfl,rfl⟩
  ·obtain ⟨i,ae⟩:=zX (m-(j+1))
   rw [<-ae]
   have ag:i<m:=by omega
   have ad:m-j=i+1:=by omega
   have HI:=hid ad
   clear ae ad
   have af:i<ks.length:=by rw [<-HN.out];exact ag
   obtain ⟨g,o,rfl,aa⟩:=hc.at_ af
   have hx:=HS.out ks[i] (zG _)
   obtain ⟨x,ac⟩:=zX (ks[i])
   rw [<-ac] at aa hx
   have ab:w.cell? ⟨g,o+i,none⟩=some (.int .i64 x):=aa
   have t9:decide ((x:Int)<0)=false:=zA (by omega)
   have ah:decide ((10:Int)<=(x:Int))=false:=zA (by omega)
   clear aa ac af
   go_wp2
   go_roundg j
   case measure=>omega
   case rel =>
    rw [HI.out]
    exact ⟨by omega,by go_num,rfl⟩
theorem a0d.vi_getD {w:World} {b o:Nat} {l:List Int} (hc:∀ (i:Nat) (a:Int),l[i]?=some a->w.cell? ⟨b,o+i,none⟩=some (vi a)) {m:Nat} (hm:m<l.length):w.cell? ⟨b,o+m,none⟩=some (.int .i64 (l.getD m 0)):=by
 have:=hc m l[m] (zF hm)
 rw [this,zD,zF hm]
 rfl
theorem c7l (l:List Int) (A:Option Addr) (cap W x y:Nat) (w:World) (hw0:1<=W) (hw1:W<=64) (hx:x<W) (hy:y<64) (hl:y*W+x<=l.length) (hc:a0d vi w A l) (hlm:l.length<=1099511627776) :
  Calls Tryz.prog 190 #[.slice A l.length cap,.int .i64 W,.int .i64 x,.int .i64 y] w fun e w'=>e=.returned (.tuple #[.int .i64 (nbr l W x y).w,.int .i64 (nbr l W x y).n,.int .i64 (nbr l W x y).nw,.int .i64 (nbr l W x y).ne])/\∃ n,w'=w.drewN n:=by
 have t1:decide ((W:Int)<1)=false:=zA (by omega)
 have t2:decide ((64:Int)<(W:Int))=false:=zA (by omega)
 have t3:decide ((x:Int)<0)=false:=zA (by omega)
 have t4:decide (W<=x)=false:=zA (by omega)
 have t5:decide ((y:Int)<0)=false:=zA (by omega)
 have t6:decide ((64:Int)<=(y:Int))=false:=zA (by omega)
 obtain ⟨m,hm⟩:=zX (l.length)
 obtain ⟨yw,ao⟩:=zX (y*W)
 obtain ⟨p,hp⟩:=zX (y*W+x)
 have aE:(y:Int)*(W:Int)=(yw:Int):=by rw [ao];simp
 have aL:(yw:Int)+(x:Int)=(p:Int):=by rw [hp,ao];simp
 have af:=fun (h:0<l.length)=>hc.ex h
 have an:nbr l W x y=if y=0 then (if x=0 then ⟨0,0,0,0⟩ else ⟨l.getD (p-1) 0,l.getD (p-1) 0,l.getD (p-1) 0,l.getD (p-1) 0⟩)
   else ⟨if 0<x then l.getD (p-1) 0 else l.getD (p-W) 0,l.getD (p-W) 0,if 0<x then l.getD (p-W-1) 0 else l.getD (p-W) 0,if x<W-1 then l.getD (p-W+1) 0 else l.getD (p-W) 0⟩:=by
  unfold nbr;rw [<-hp]
 have ax:y≠0->W<=y*W:=fun h=>c5g h
 rw [<-hp] at hl
 rw [<-ao] at ax hp
 rw [<-hm] at hl hlm ⊢
 have t7:decide ((m:Int)<(p:Int))=false:=zA (by omega)
 have aK:decide (m<p)=false:=zA (by omega)
 have HD:=hid an
 have HM:=hid hm
 have HC:=hid af
 have aD:=hid ax
 have HP:=hid hp
 clear an hm af ao hp hc ax
 by_cases hy0:y=0
 ·have t8:((y:Int)==0)=true:=by rw [beq_iff_eq];omega
  rw [if_pos hy0] at HD
  by_cases hx0:x=0
  ·have t9:((x:Int)==0)=true:=by rw [beq_iff_eq];omega
   rw [if_pos hx0] at HD
   clear hy0 hx0
   go_enter Tryz.func190,Tryz.ntmps190
   go_wp2
   refine bodyPost_ret (v:=.tuple #[.int .i64 0,.int .i64 0,.int .i64 0,.int .i64 0]) (by simp [results,Tryz.results190,go_sem]) rfl ⟨by rw [HD.out],0,rfl⟩
  ·have t9:((x:Int)==0)=false:=by rw [beq_eq_false_iff_ne];omega
   rw [if_neg hx0] at HD
   have aJ:1<=p:=by have:=HP.out;omega
   obtain ⟨p1,ab⟩:=zX (p-1)
   have av:(p:Int)-1=(p1:Int):=by omega
   rw [<-ab] at HD
   have ag:p1<m:=by omega
   obtain ⟨b,o,rfl,_,ac⟩:=HC.out (by rw [<-HM.out];omega)
   have hv:=a0d.vi_getD ac (m:=p1) (by rw [<-HM.out];exact ag)
   obtain ⟨v,az⟩:=zX (l.getD p1 0)
   rw [<-az] at hv HD
   clear hy0 hx0 ac az ab
   go_enter Tryz.func190,Tryz.ntmps190
   go_wp2
   refine bodyPost_ret (v:=.tuple #[.int .i64 v,.int .i64 v,.int .i64 v,.int .i64 v]) (by simp [results,Tryz.results190,go_sem]) rfl ⟨by rw [HD.out],0,rfl⟩
 ·have t8:((y:Int)==0)=false:=by rw [beq_eq_false_iff_ne];omega
  rw [if_neg hy0] at HD
  have hW:=aD.out hy0
  have ap:=HP.out
  obtain ⟨q,hq⟩:=zX (p-W)
  have aM:(p:Int)-(W:Int)=(q:Int):=by omega
  rw [<-hq] at HD
  have aI:q<m:=by omega
  obtain ⟨b,o,rfl,_,ac⟩:=HC.out (by rw [<-HM.out];omega)
  have aF:=a0d.vi_getD ac (m:=q) (by rw [<-HM.out];exact aI)
  obtain ⟨vn,ad⟩:=zX (l.getD q 0)
  rw [<-ad] at aF HD
  obtain ⟨q2,al⟩:=zX (q+1)
  have aB:(q:Int)+1=(q2:Int):=by omega
  rw [<-al] at HD
  obtain ⟨W1,am⟩:=zX (W-1)
  have aA:(W:Int)-1=(W1:Int):=by omega
  rw [<-am] at HD
  by_cases hx0:0<x
  ·have t9:decide ((0:Int)<(x:Int))=true:=zB (by omega)
   have aG:decide (0<x)=true:=zB hx0
   rw [if_pos hx0,if_pos hx0] at HD
   obtain ⟨p1,ab⟩:=zX (p-1)
   have av:(p:Int)-1=(p1:Int):=by omega
   obtain ⟨q1,ai⟩:=zX (q-1)
   have aC:(q:Int)-1=(q1:Int):=by omega
   rw [<-ab,<-ai] at HD
   have ag:p1<m:=by omega
   have aq:q1<m:=by omega
   have aH:=a0d.vi_getD ac (m:=p1) (by rw [<-HM.out];exact ag)
   have ar:=a0d.vi_getD ac (m:=q1) (by rw [<-HM.out];exact aq)
   obtain ⟨vw,aj⟩:=zX (l.getD p1 0)
   obtain ⟨ay,ae⟩:=zX (l.getD q1 0)
   rw [<-aj] at aH HD
   rw [<-ae] at ar HD
   by_cases hx1:x<W1
   ·have aw:decide (x<W1)=true:=zB hx1
    rw [if_pos hx1] at HD
    have ah:q2<m:=by omega
    have ak:=a0d.vi_getD ac (m:=q2) (by rw [<-HM.out];exact ah)
    obtain ⟨au,aa⟩:=zX (l.getD q2 0)
    rw [<-aa] at ak HD
    clear hy0 hx0 ac aa ad aj ae ab ai hq al am ap
    go_enter Tryz.func190,Tryz.ntmps190
    go_wp2
    go_quiet (fail)
    go_wp2
    refine bodyPost_ret (v:=.tuple #[.int .i64 vw,.int .i64 vn,.int .i64 ay,.int .i64 au]) (by simp [results,Tryz.results190,go_sem]) rfl ⟨by rw [HD.out],_,rfl⟩
   ·have aw:decide (x<W1)=false:=zA hx1
    rw [if_neg hx1] at HD
    clear hy0 hx0 ac ad aj ae ab ai hq al am ap
    go_enter Tryz.func190,Tryz.ntmps190
    go_wp2
    go_quiet (fail)
    go_wp2
    refine bodyPost_ret (v:=.tuple #[.int .i64 vw,.int .i64 vn,.int .i64 ay,.int .i64 vn]) (by simp [results,Tryz.results190,go_sem]) rfl ⟨by rw [HD.out],_,rfl⟩
  ·have t9:decide ((0:Int)<(x:Int))=false:=zA (by omega)
   have aG:decide (0<x)=false:=zA hx0
   rw [if_neg hx0,if_neg hx0] at HD
   by_cases hx1:x<W1
   ·have aw:decide (x<W1)=true:=zB hx1
    rw [if_pos hx1] at HD
    have ah:q2<m:=by omega
    have ak:=a0d.vi_getD ac (m:=q2) (by rw [<-HM.out];exact ah)
    obtain ⟨au,aa⟩:=zX (l.getD q2 0)
    rw [<-aa] at ak HD
    clear hy0 hx0 ac aa ad hq al am ap
    go_enter Tryz.func190,Tryz.ntmps190
    go_wp2
    refine bodyPost_ret (v:=.tuple #[.int .i64 vn,.int .i64 vn,.int .i64 vn,.int .i64 au]) (by simp [results,Tryz.results190,go_sem]) rfl ⟨by rw [HD.out],0,rfl⟩
   ·have aw:decide (x<W1)=false:=zA hx1
    rw [if_neg hx1] at HD
    clear hy0 hx0 ac ad hq al am ap
    go_enter Tryz.func190,Tryz.ntmps190
    go_wp2
    refine bodyPost_ret (v:=.tuple #[.int .i64 vn,.int .i64 vn,.int .i64 vn,.int .i64 vn]) (by simp [results,Tryz.results190,go_sem]) rfl ⟨by rw [HD.out],0,rfl⟩
theorem d6y (kind:Nat) (g:Nbr) (d:Nat) (w:World) (hk:kind<10) (h0:1<=d) (h1:d<=16) (hg:d7y d g) :
  Calls Tryz.prog 191 #[.int .i64 kind,.int .i64 g.w,.int .i64 g.n,.int .i64 g.nw,.int .i64 g.ne,.int .i64 d] w fun e w'=>e=.returned (.int .i64 (a3d kind g d))/\Chg [] w w':=by
 have t1:decide ((kind:Int)<0)=false:=zA (by omega)
 have t2:decide ((10:Int)<=(kind:Int))=false:=zA (by omega)
 have t5:decide ((d:Int)<1)=false:=zA (by omega)
 have t6:decide ((16:Int)<(d:Int))=false:=zA (by omega)
 obtain ⟨ac,ab⟩:=a9c h0 h1
 obtain ⟨a,b,c,e⟩:=g
 obtain ⟨⟨a1,a2⟩,⟨b1,b2⟩,⟨c1,c2⟩,⟨e1,e2⟩⟩:=hg
 simp only at a1 a2 b1 b2 c1 c2 e1 e2 ⊢
 have u1:decide (a<0)=false:=zA (by omega)
 have u2:decide ((2:Int)^d<=a)=false:=zA (by omega)
 have u3:decide (b<0)=false:=zA (by omega)
 have u4:decide ((2:Int)^d<=b)=false:=zA (by omega)
 have u5:decide (c<0)=false:=zA (by omega)
 have u6:decide ((2:Int)^d<=c)=false:=zA (by omega)
 have u7:decide (e<0)=false:=zA (by omega)
 have u8:decide ((2:Int)^d<=e)=false:=zA (by omega)
 have i0:∀ w,(Instr.index 86 (.agg #[.int .i64 a,.int .i64 b,.int .i64 c,.int .i64 e]) (.int .i64 0)).run Tryz.prog w=.ok (.int .i64 a) w:=fun _=>by kernel_rfl
 have i1:∀ w,(Instr.index 86 (.agg #[.int .i64 a,.int .i64 b,.int .i64 c,.int .i64 e]) (.int .i64 1)).run Tryz.prog w=.ok (.int .i64 b) w:=fun _=>by kernel_rfl
 have i2:∀ w,(Instr.index 86 (.agg #[.int .i64 a,.int .i64 b,.int .i64 c,.int .i64 e]) (.int .i64 2)).run Tryz.prog w=.ok (.int .i64 c) w:=fun _=>by kernel_rfl
 have i3:∀ w,(Instr.index 86 (.agg #[.int .i64 a,.int .i64 b,.int .i64 c,.int .i64 e]) (.int .i64 3)).run Tryz.prog w=.ok (.int .i64 e) w:=fun _=>by kernel_rfl
 go_enter Tryz.func191,Tryz.ntmps191
 go_wp2_with fail
 go_loopg [35] 4 (fun j iv wr=>w=wr/\((j=4/\iv=.int .i64 0)\/(j=3/\iv=.int .i64 1)\/(j=2/\iv=.int .i64 2)\/(j=1/\iv=.int .i64 3)\/(j=0/\iv=.int .i64 4)))
 case atStart=>exact ⟨rfl,.inl ⟨rfl,rfl⟩⟩
 case round =>
  obtain ⟨rfl,hrel⟩:=hrel
  rcases hrel with ⟨rfl,rfl⟩ | ⟨rfl,rfl⟩ | ⟨rfl,rfl⟩ | ⟨rfl,rfl⟩ | ⟨rfl,rfl⟩
  ·go_wp2
   go_roundg 3
   case measure=>omega
   case rel=>exact ⟨rfl,.inr (.inl ⟨rfl,rfl⟩)⟩
  ·go_wp2
   go_roundg 2
   case measure=>omega
   case rel=>exact ⟨rfl,.inr (.inr (.inl ⟨rfl,rfl⟩))⟩
  ·go_wp2
   go_roundg 1
   case measure=>omega
   case rel=>exact ⟨rfl,.inr (.inr (.inr (.inl ⟨rfl,rfl⟩)))⟩
  ·go_wp2
   go_roundg 0
   case measure=>omega
   case rel=>exact ⟨rfl,.inr (.inr (.inr (.inr ⟨rfl,rfl⟩)))⟩
  ·clear i0 i1 i2 i3 u1 u2 u3 u4 u5 u6 u7 u8
   obtain rfl | rfl | rfl | rfl | rfl | rfl | rfl | rfl | rfl | rfl:kind=0\/kind=1\/kind=2\/kind=3\/kind=4\/kind=5\/kind=6\/kind=7\/kind=8\/kind=9:=by omega
   ·go_wp2
    go_ret
    exact ⟨rfl,zR _ _⟩
   ·go_wp2
    go_ret
    exact ⟨rfl,zR _ _⟩
   ·go_wp2
    go_ret
    exact ⟨rfl,zR _ _⟩
   ·go_wp2
    go_ret
    exact ⟨rfl,zR _ _⟩
   ·go_wp2
    go_ret
    exact ⟨rfl,zR _ _⟩
   ·go_wp2
    go_ret
    exact ⟨rfl,zR _ _⟩
   ·have aa:=d9t (a+b-c) a b c w.heap.size 3 (w.alloc (.cells #[.int .i64 a,.int .i64 b,.int .i64 c] 3)) (by unfold c5k;omega) (by unfold c5k;omega) (by unfold c5k;omega) (by unfold c5k;omega) (by simp [go_sem]) (by simp [go_sem]) (by simp [go_sem])
    go_wp2_with (go_at_call 245;refine aa.mono ?_;rintro e w' ⟨rfl,rfl⟩)
    go_ret
    exact ⟨rfl,(zR _ _).alloc _⟩
   ·go_wp2
    all_goals
     go_ret
     exact ⟨congrArg (fun z=>Ending.returned (.int .i64 z)) (show _=max (min a b) (min (max a b) (a+b-c)) by omega),zR _ _⟩
   ·go_wp2
    all_goals
     go_ret
     exact ⟨congrArg (fun z=>Ending.returned (.int .i64 z)) (show _=min (max (a+b-c) 0) (2^d-1) by omega),zR _ _⟩
   ·go_wp2
    go_ret
    exact ⟨rfl,zR _ _⟩
theorem Row.zeros (w:World) (n:Nat) (h:n<=1048576):Row (w.alloc (.cells (List.replicate n (Value.int .i64 0)).toArray 3)) 3 (.slice (some ⟨w.heap.size,0,none⟩) n n) w.heap.size ((a1a [] n).map vi):=by
 have:=Row.made w 3 (List.replicate n (Value.int .i64 0)) (by simp [maxLen];omega)
 rw [e2i,List.map_replicate]
 simpa [vi] using this
theorem Row.fill {w:World} {v:Value} {g:Nat} {done:List Int} {n:Nat} (h:Row w 3 v g ((a1a done n).map vi)) (hl:done.length<n) (x:Int) :
  Row (w.setCell ⟨g,done.length,none⟩ (.int .i64 x)) 3 v g ((a1a (done++[x]) n).map vi):=by
 have h1:=h.set_ (i:=done.length) (by rw [zE,a4g (by omega)];exact hl) (vi x)
 rw [<-List.map_set,b5g hl] at h1
 exact h1
theorem Row.fill_cell {w:World} {v:Value} {g:Nat} {done:List Int} {n:Nat} (h:Row w 3 v g ((a1a done n).map vi)) (hl:done.length<n) :
  w.cell? ⟨g,done.length,none⟩=some (.int .i64 0)/\w.frozen? ⟨g,done.length,none⟩=false:=by
 obtain ⟨aa,h1,h2,h3,h4,h5⟩:=h.oq
 refine ⟨h4 done.length 0 ?_,h5 _⟩
 unfold a1a
 rw [zS (zQ _),Nat.sub_self,List.getElem?_replicate]
 rw [if_pos (by omega)]
theorem f0y (l:List Int) (A:Option Addr) (cap W H y d kind:Nat) (w:World) (hw0:1<=W) (hw1:W<=64) (hh1:H<=64) (hy:y<H) (h0:1<=d) (h1:d<=16) (hk:kind<10) (hl:l.length=W*H) (hs:a1u d l) (hc:a0d vi w A l) :
  Calls Tryz.prog 196 #[.slice A l.length cap,.int .i64 W,.int .i64 y,.int .i64 d,.int .i64 kind] w fun e w'=>∃ v G,e=.returned v/\Own w' 3 v G ((c4f l W y d kind).map vi)/\Chg [] w w'/\∀ x∈G,w.heap.size<=x:=by
 have a3:=a1p (P:=Tryz.prog) a0p rfl .i64 .i64 W (by omega) (by omega)
 have af:=fun x (hx:x<W) w hc=>c7l l A cap W x y w hw0 hw1 hx (by omega) (by
  rw [hl]
  have:(y+1)*W<=H*W:=Nat.mul_le_mul_right W hy
  rw [Nat.add_mul,Nat.one_mul] at this
  rw [zY W H]
  omega) hc (by rw [hl];exact Nat.le_trans (zL hw1 hh1) (by decide))
 have am:=fun x w=>d6y kind (nbr l W x y) d w hk h0 h1 (b5s hs W x y)
 have ak:∀ x,x<W->y*W+x<l.length:=fun x hx=>by
  rw [hl]
  have:(y+1)*W<=H*W:=Nat.mul_le_mul_right W hy
  rw [Nat.add_mul,Nat.one_mul] at this
  rw [zY W H]
  omega
 have aO:l.length<=4096:=by rw [hl];exact zL hw1 hh1
 obtain ⟨m,hm⟩:=zX (l.length)
 rw [<-hm] at af ak aO ⊢
 obtain ⟨yw,an⟩:=zX (y*W)
 have aM:(y:Int)*(W:Int)=(yw:Int):=by rw [an];simp
 rw [<-an] at ak
 have HN:=hid af
 have HO:=hid am
 have aL:=hid ak
 have HS:=hid hs
 have HM:=hid hm
 have aJ:=hid an
 clear af am ak hs hm hl an
 go_enter Tryz.func196,Tryz.ntmps196
 go_wp2_with fail
 have ag:=Row.zeros w W (by omega)
 obtain ⟨B,hB⟩:=zX (w.heap.size)
 rw [<-hB] at ag ⊢
 have HB:=hid hB
 have aH:Chg [] w (w.alloc (.cells (List.replicate W (Value.int .i64 0)).toArray 3)):=(zR [] w).alloc _
 clear hB
 go_loopg [22] W (fun j iv wr=>∃ done:List Int,iv=.int .i64 done.length/\done.length+j=W/\Hid (done=(List.range done.length).map (b3o l W d kind y))/\Row wr 3 (.slice (some ⟨B,0,none⟩) W W) B ((a1a done W).map vi)/\Chg [] w wr)
 case atStart=>exact ⟨[],rfl,by simp,hid (by simp),ag,aH⟩
 case round =>
  obtain ⟨done,rfl,al,Hd,ab,av⟩:=hrel
  clear ag aH
  obtain ⟨m1,aj⟩:=zX (done.length)
  rcases gk with _ | j
  ·rw [<-aj] at al ⊢
   obtain rfl:m1=W:=by omega
   have t1:decide ((m1:Int)<(m1:Int))=false:=by simp
   have ac:=hid aj
   clear aj al
   go_wp2
   go_ret
   refine ⟨_,[B],rfl,?_,av,fun x hx=>by have:=HB.out;simp at hx;omega⟩
   have e:a1a done m1=c4f l m1 y d kind:=by
    rw [a7l ac.out.symm,Hd.out,<-ac.out]
    rfl
   rw [<-e]
   exact ab.toOwn
  ·obtain ⟨aC,aF⟩:=ab.fill_cell (by omega)
   have ae:=fun x=>ab.fill (by omega) x
   have ai:∀ x,x=b3o l W d kind y m1->done++[x]=(List.range (m1+1)).map (b3o l W d kind y):=fun x hx=>by
    rw [hx,List.range_succ,zM,aj,<-Hd.out]
    rfl
   rw [<-aj] at al aC aF ae ⊢
   have aD:m1<W:=by omega
   have ak:=aL.out m1 aD
   have ao:=hc.same av
   obtain ⟨b,o,rfl,a4,aN⟩:=ao.ex (by rw [<-HM.out];omega)
   have aX:b≠B:=by
    intro e
    subst e
    obtain ⟨b',o',e',aW,_⟩:=hc.ex (by rw [<-HM.out];omega)
    injection e' with e'
    injection e' with e' _ _
    have:=HB.out
    omega
   obtain ⟨q,hq⟩:=zX (yw+m1)
   have a2:(yw:Int)+(m1:Int)=(q:Int):=by omega
   have ay:=HN.out m1 aD wr ao
   have aq:=HO.out m1
   have aa:b3o l W d kind y m1=a0k (l.getD q 0-a3d kind (nbr l W m1 y) d) d:=by unfold b3o;rw [hq,aJ.out]
   have aw:=a9p (b5s HS.out W m1 y) kind
   have au:=a5d HS.out q
   have aV:q<m:=by omega
   obtain ⟨aK,aB⟩:=a9c h0 h1
   have HP:=hid aB
   obtain ⟨g,hg⟩:=zX (nbr l W m1 y)
   rw [<-hg] at ay aq aa aw
   obtain ⟨gs,aA⟩:=zX (a3d kind g d)
   rw [<-aA] at aq aa aw
   obtain ⟨v,hv⟩:=zX (l.getD q 0)
   rw [<-hv] at aa au
   have aP:=hid ai
   have aE:=hid aa
   have aY:=hid ae
   have ap:=hid al
   have ac:=hid aj
   have az:∀ w',Chg [] wr w'->w'.cell? ⟨b,o+q,none⟩=some (.int .i64 v):=fun w' h'=>by
    obtain ⟨b',o',e',_,ax⟩:=(ao.same h').ex (by rw [<-HM.out];omega)
    injection e' with e'
    injection e' with e1 e2 _
    subst e1
    subst e2
    rw [a0d.vi_getD ax (by rw [<-HM.out];exact aV),<-hv]
   have aI:=hid az
   have aZ : -65536<=v-gs:=by omega
   have a0:v-gs<=65536:=by omega
   have aT:=hid au
   clear ai aa ae az hv aA hg aN hq al aj aw ao aK aB
   go_wp2_with fail
   refine ay.mono ?_
   rintro e w1 ⟨rfl,nq,rfl⟩
   go_wp2_with fail
   refine (aq (wr.drewN nq)).mono ?_
   rintro e w2 ⟨rfl,aS⟩
   have ad:Chg [] wr w2:=((zR [] wr).drewN nq).tq aS
   have aQ:=aI.out w2 ad
   have aU:w2.cell? ⟨B,m1,none⟩=some (.int .i64 0):=by
    have:=(ab.chg ad (by simp)).fill_cell (by have:=ap.out;have:=ac.out;omega)
    rw [ac.out]
    exact this.1
   have aR:w2.frozen? ⟨B,m1,none⟩=false:=by
    have:=(ab.chg ad (by simp)).fill_cell (by have:=ap.out;have:=ac.out;omega)
    rw [ac.out]
    exact this.2
   have aG:=b2n (v-gs) d w2 h0 h1
   obtain ⟨rv,ar⟩:=zX (a0k (v-gs) d)
   rw [<-ar] at aG aE
   have a1:=hid ar
   clear aC aF ar ay aq
   have au:=aT.out
   go_wp2_with fail
   refine aG.mono ?_
   rintro e w3 ⟨rfl,rfl⟩
   go_wp2_with fail
   go_roundg j
   case measure=>omega
   case rel =>
    have ah:=(ab.chg ad (by simp)).fill (by have:=ap.out;have:=ac.out;omega) rv
    refine ⟨done++[rv],?_,?_,hid ?_,?_,?_⟩
    ·rw [zC,List.length_singleton,<-ac.out];go_num
    ·rw [zC,List.length_singleton,<-ac.out];have:=ap.out;omega
    ·rw [zC,List.length_singleton,<-ac.out]
     exact aP.out rv aE.out.symm
    ·rw [<-ac.out] at ah
     exact ah
    ·exact (av.tq ad).setCell (.inr (by have:=HB.out;simp;omega)) _
theorem e6i (l:List Int) (A:Option Addr) (cap d:Nat) (w:World) (h0:1<=d) (h1:d<=16) (hl:l.length<=65536) (hc:a0d vi w A l) :
  Calls Tryz.prog 195 #[.slice A l.length cap,.int .i64 d] w fun e w'=>e=.returned (.int .i64 (a3i l d))/\w=w':=by
 obtain ⟨n,hn⟩:=zX (l.length)
 rw [<-hn] at hl ⊢
 have HN:=hid hn
 clear hn
 go_enter Tryz.func195,Tryz.ntmps195
 go_wp2_with fail
 go_loopg [5,10] n (fun j s i wr=>j<=n/\i=.int .i64 ((n-j:Nat):Int)/\s=.int .i64 (a3i (l.take (n-j)) d)/\w=wr)
 case atStart=>exact ⟨zQ _,by simp,by simp [a3i],rfl⟩
 case round =>
  obtain ⟨hj,rfl,rfl,rfl⟩:=hrel
  rcases gk with _ | j
  ·have t4:decide (((n-0:Nat):Int)<(n:Int))=false:=by simp
   have e:l.take n=l:=by rw [HN.out,zN]
   rw [Nat.sub_zero,e]
   go_wp2
   go_ret
   exact ⟨rfl,rfl⟩
  ·obtain ⟨m,aj⟩:=zX (n-(j+1))
   rw [<-aj]
   have an:m<n:=by omega
   have ai:n-j=m+1:=by omega
   have HM:=hid ai
   clear aj ai
   have ah:m<l.length:=by rw [<-HN.out];exact an
   obtain ⟨b,o,rfl,aa⟩:=hc.at_ ah
   have ab:=d2d (l.take m) l[m] d
   rw [<-a0o l ah] at ab
   have ac:=e0u h0 h1 (l.take m)
   rw [zI] at ac
   obtain ⟨x,hx⟩:=zX (l[m])
   rw [<-hx] at aa ab
   have ag:w.cell? ⟨b,o+m,none⟩=some (.int .i64 x):=aa
   obtain ⟨s,hs⟩:=zX (a3i (l.take m) d)
   rw [<-hs] at ab ac ⊢
   have ap:0<=s:=ac.1
   have ao:s<=2147483648:=by omega
   have al:=a7x x d w h0 h1
   have ak:=a2s x h0
   have ha:=c4n h0 h1 x
   have ad:b1f d x=a8j (a1b x d) 0:=rfl
   obtain ⟨f,hf⟩:=zX (a1b x d)
   rw [<-hf] at al ad ak
   have ae:(2:Int)^(d-1)<=2^15:=by
    have:=Nat.pow_le_pow_right (n:=2) (by decide) (show d-1<=15 by omega)
    exact_mod_cast this
   have af:=c0q f 0 w (by unfold c5k;omega) (by unfold c5k;omega)
   rw [<-ad] at af
   obtain ⟨a,am⟩:=zX (b1f d x)
   rw [<-am] at af ha ab
   obtain ⟨ar,aq⟩:=ha
   have HS:=hid ab
   clear ab aa hx hs ac ah ak ad hf am ae
   go_wp2_with (first | (go_at_call 84;refine al.mono ?_;rintro e w' ⟨rfl,rfl⟩) | (go_at_call 247;refine af.mono ?_;rintro e w' ⟨rfl,rfl⟩))
   go_roundg j
   case measure=>omega
   case rel =>
    rw [HM.out,HS.out]
    exact ⟨by omega,by go_num,rfl,rfl⟩
def bkI (l:List Int) (W d y:Nat):Int:=((b0w l W y d 9:Nat):Int)
theorem c9j (l:List Int) (W H d:Nat):((List.range H).map (bkI l W d)).map vi=(a0s l W H d).map i64:=by
 unfold a0s
 rw [List.map_map,List.map_map]
 rfl
theorem d8r (done:List Int) (n:Nat):(a1a done n).set done.length 0=a1a done n:=by
 unfold a1a
 rw [List.set_append_right _ _ (zQ _),Nat.sub_self]
 congr 1
 rcases Nat.eq_zero_or_pos (n-done.length) with h | h
 ·rw [h];rfl
 ·obtain ⟨k,hk⟩:∃ k,n-done.length=k+1:=⟨n-done.length-1,by omega⟩
  rw [hk]
  rfl
theorem e7s (l:List Int) (A:Option Addr) (cap W H d:Nat) (w:World) (hw0:1<=W) (hw1:W<=64) (hh0:1<=H) (hh1:H<=64) (h0:1<=d) (h1:d<=16) (hl:l.length=W*H) (hs:a1u d l) (hc:a0d vi w A l) :
  Calls Tryz.prog 148 #[.slice A l.length cap,.int .i64 W,.int .i64 H,.int .i64 d] w fun e w'=>∃ v G,e=.returned v/\Own w' 3 v G ((a0s l W H d).map i64)/\Chg [] w w'/\∀ x∈G,w.heap.size<=x:=by
 have bf:=a1p (P:=Tryz.prog) a0p rfl .i64 .i64 H (by omega) (by omega)
 have aK:=b4c l A cap W H d w hw0 hw1 hh0 hh1 h0 h1 hl hs hc
 have am:=fun y (hy:y<H) k (hk:k<10) w hc=>f0y l A cap W H y d k w hw0 hw1 hh1 hy h0 h1 hk hl hs hc
 have aU:=fun y k A cap w hc=>e6i (c4f l W y d k) A cap d w h0 h1 (by rw [b6a];omega) hc
 obtain ⟨m,hm⟩:=zX (l.length)
 rw [<-hm] at am aK ⊢
 have HR:=hid am
 have aZ:=hid aU
 have HM:=hid hm
 clear am aU hm hl hs
 go_enter Tryz.func148,Tryz.ntmps148
 go_wp2_with (go_at_call 194;refine aK.mono ?_;rintro e w' ⟨rfl,rfl⟩)
 have ad:=Row.zeros w H (by omega)
 obtain ⟨B,hB⟩:=zX (w.heap.size)
 rw [<-hB] at ad ⊢
 have HB:=hid hB
 have aX:Chg [] w (w.alloc (.cells (List.replicate H (Value.int .i64 0)).toArray 3)):=(zR [] w).alloc _
 clear hB aK
 go_loopg [24] H (fun j iv wr=>∃ done:List Int,iv=.int .i64 done.length/\done.length+j=H/\Hid (done=(List.range done.length).map (bkI l W d))/\Row wr 3 (.slice (some ⟨B,0,none⟩) H H) B ((a1a done H).map vi)/\Chg [] w wr)
 case atStart=>exact ⟨[],rfl,by simp,hid (by simp),ad,aX⟩
 case round =>
  obtain ⟨done,rfl,az,Hd,aF,aJ⟩:=hrel
  clear ad aX
  obtain ⟨m1,ai⟩:=zX (done.length)
  rcases gk with _ | j
  ·rw [<-ai] at az ⊢
   obtain rfl:m1=H:=by omega
   have t1:decide ((m1:Int)<(m1:Int))=false:=by simp
   have ar:=hid ai
   clear ai az
   go_wp2
   go_ret
   refine ⟨_,[B],rfl,?_,aJ,fun x hx=>by have:=HB.out;simp at hx;omega⟩
   have e:a1a done m1=(List.range m1).map (bkI l W d):=by
    rw [a7l ar.out.symm,Hd.out,<-ar.out]
   rw [<-c9j,<-e]
   exact aF.toOwn
  ·have ah:done++[bkI l W d m1]=(List.range (m1+1)).map (bkI l W d):=by
    rw [List.range_succ,zM,ai,<-Hd.out]
    rfl
   have ac:=d8r done H
   have ao:=b5g (done:=done) (n:=H) (by omega) (bkI l W d m1)
   have aw:=a4g (done:=done) (n:=H) (by omega)
   rw [<-ai] at az ac ao ⊢
   have aG:m1<H:=by omega
   have a4:=hid ah
   have aI:=hid ao
   have aY:=hid aw
   have ar:=hid ai
   have a6:=hid az
   have aR:=hc.same aJ
   have aS:=HR.out m1 aG 0 (by omega) wr aR
   rw [<-ac] at aF
   clear ah ao ac aw ai az aR
   go_wp2_with fail
   refine aS.mono ?_
   rintro e w1 ⟨v1,G1,rfl,ab,aM,be⟩
   have aj:=aZ.out m1 0
   have aL:=c0b l W m1 d
   obtain ⟨r0,ap⟩:=zX (c4f l W m1 d 0)
   rw [<-ap] at ab aj
   obtain ⟨A1,c1,rfl,-,-,aC⟩:=ab.oq
   have ax:=aj A1 c1 w1 aC
   have a2:=hid ap
   clear aS aj ap
   go_wp2_with fail
   refine ax.mono ?_
   rintro e bg ⟨rfl,rfl⟩
   have aB:Chg [] w w1:=aJ.tq aM
   have aD:=aF.chg aM (by simp)
   have bc:=hid aL
   clear ab aC ax aL aF
   go_wp2_with fail
   go_loopg [11,12] 9 (fun q lv kv wx=>q<=9/\kv=.int .i64 ((10-q:Nat):Int)/\lv=.int .i64 (a3i (c4f l W m1 d (b0w l W m1 d (9-q))) d)/\Row wx 3 (.slice (some ⟨B,0,none⟩) H H) B (((a1a done H).set m1 ((b0w l W m1 d (9-q):Nat):Int)).map vi)/\Chg [] w wx)
   case atStart=>exact ⟨zQ _,rfl,by rw [a2.out];rfl,aD,aB⟩
   case round =>
    obtain ⟨hq,rfl,rfl,ag,ae⟩:=hrel
    clear aD aB
    rcases gk with _ | q
    ·have t2:decide (((10-0:Nat):Int)<(10:Int))=false:=by simp
     rw [Nat.sub_zero] at ag
     go_wp2
     go_roundg j
     case measure=>omega
     case rel =>
      refine ⟨done++[bkI l W d m1],?_,?_,hid ?_,?_,ae⟩
      ·rw [zC,List.length_singleton,<-ar.out];go_num
      ·rw [zC,List.length_singleton,<-ar.out];have:=a6.out;omega
      ·rw [zC,List.length_singleton,<-ar.out]
       exact a4.out
      ·rw [<-aI.out]
       exact ag
    ·obtain ⟨k,hk⟩:=zX (9-(q+1))
     rw [<-hk] at ag ⊢
     have aT:10-(q+1)=k+1:=by omega
     have aW:9-q=k+1:=by omega
     have aN:10-q=k+2:=by omega
     have a9:k+1<10:=by omega
     rw [aT]
     have aV:=hid aW
     have aP:=hid aN
     have aq:b0w l W m1 d (k+1)=if a3i (c4f l W m1 d (k+1)) d<a3i (c4f l W m1 d (b0w l W m1 d k)) d then k+1 else b0w l W m1 d k:=rfl
     have aE:=HR.out m1 aG (k+1) a9 wr (hc.same ae)
     have aH:=aZ.out m1 (k+1)
     have au:((k+1:Nat):Int)=(k:Int)+1:=by omega
     rw [au] at aE ⊢
     obtain ⟨r1,ak⟩:=zX (c4f l W m1 d (k+1))
     rw [<-ak] at aE aH aq
     obtain ⟨b,hb⟩:=zX (b0w l W m1 d k)
     rw [<-hb] at aq ag ⊢
     obtain ⟨t,ht⟩:=zX (a3i (c4f l W m1 d b) d)
     rw [<-ht] at aq ⊢
     obtain ⟨s,hs⟩:=zX (a3i r1 d)
     rw [<-hs] at aH aq
     have aQ:=hid aq
     have bb:=hid hb
     have HT:=hid ht
     have a1:=hid hs
     have a8:=hid ak
     obtain ⟨_,an,_⟩:=ag.open_
     have aw:=aY.out
     have aO:∀ w',Chg [] wr w'->w'.cell? ⟨B,m1,none⟩=some (.int .i64 b)/\w'.frozen? ⟨B,m1,none⟩=false:=fun w' h'=>by
      obtain ⟨a3,h2,h3,h4,h5,h6⟩:=(ag.chg h' (by simp)).oq
      refine ⟨h5 m1 (b:Int) ?_,h6 m1⟩
      rw [List.getElem?_set_self (by rw [aw];exact aG)]
     have a7:=hid aO
     clear aq hb ht hs ak hk aT aW aN aw aO an
     go_wp2_with fail
     refine aE.mono ?_
     rintro e w2 ⟨v2,G2,rfl,af,aA,bd⟩
     obtain ⟨A2,c2,rfl,-,-,av⟩:=af.oq
     have ay:=aH A2 c2 w2 av
     obtain ⟨ba,a5⟩:=a7.out w2 aA
     clear aE aH af av
     by_cases hlt:s<t
     ·have t3:decide (s<t)=true:=zB hlt
      have aa:=aQ.out
      rw [if_pos hlt] at aa
      have al:=hid aa
      clear aa hlt
      go_wp2_with fail
      refine ay.mono ?_
      rintro e a0 ⟨rfl,rfl⟩
      go_wp2_with fail
      go_roundg q
      case measure=>omega
      case rel =>
       rw [aV.out,aP.out,al.out,<-a8.out,<-a1.out]
       have h1:=(ag.chg aA (by simp)).set_ (i:=m1) (by rw [zE,List.length_set,aY.out];exact aG) (vi ((k+1:Nat):Int))
       rw [<-List.map_set,List.set_set] at h1
       refine ⟨by omega,by go_num,rfl,?_,(ae.tq aA).setCell (.inr (by have:=HB.out;simp;omega)) _⟩
       have e7:vi ((k+1:Nat):Int)=.int .i64 ((k:Int)+1):=by unfold vi;go_num
       rw [e7] at h1
       exact h1
     ·have t3:decide (s<t)=false:=zA hlt
      have aa:=aQ.out
      rw [if_neg hlt] at aa
      have al:=hid aa
      clear aa hlt
      go_wp2_with fail
      refine ay.mono ?_
      rintro e a0 ⟨rfl,rfl⟩
      go_wp2_with fail
      go_roundg q
      case measure=>omega
      case rel =>
       rw [aV.out,aP.out,al.out,<-HT.out]
       exact ⟨by omega,by go_num,rfl,ag.chg aA (by simp),ae.tq aA⟩
theorem Row.room (w:World) (n:Nat) (h:n<=1048576):Row (w.alloc (.cells (List.replicate n (Value.int .i64 0)).toArray 3)) 3 (.slice (some ⟨w.heap.size,0,none⟩) 0 n) w.heap.size [] :=
 ⟨n,_,rfl,Blk.new w _ _,Nat.zero_le _,by simp [maxLen];omega,by simp,by simp⟩
theorem b0q {P:Program} {t e:TypeId} {z:Value} {bytes:Nat} (E:b6m P t e z 1 bytes) (hzs:z.cells=#[z]) (kl kc:IntKind) (n:Nat) (hb:bytes*n<=281474976710656) (h63:n<=9223372036854775807) (w:World) :
  (Instr.makeSlice t (.int kl 0) (.int kc (n:Int))).run P w=.ok (.slice (some ⟨w.heap.size,0,none⟩) 0 n) (w.alloc (.cells (List.replicate n z).toArray e)):=by
 obtain ⟨i,hi,hz,aa,ab⟩:=E.hi
 subst ab
 have ac:(i.bytes:Int)*(n:Int)<=281474976710656:=by
  have h:((i.bytes*n:Nat):Int)<=281474976710656:=by omega
  rwa [Int.natCast_mul] at h
 have hr:=run_make (P:=P) w t e i z E.ht hi hz kl kc 0 n (by omega) (by omega) ac (by omega)
 rw [hr,aa,hzs]
 simp only [Int.toNat_natCast,Nat.mul_one]
 have:madeCells #[z] n=(List.replicate n z).toArray:=by
  apply Array.toList_inj.1
  rw [toList_madeCells_one]
 rw [this]
 rfl
theorem e7u (l:List Int) (A:Option Addr) (cap W H d:Nat) (ks:List Nat) (Ak:Option Addr) (capk:Nat) (w:World) (hw0:1<=W) (hw1:W<=64) (hh0:1<=H) (hh1:H<=64) (h0:1<=d) (h1:d<=16) (hl:l.length=W*H) (hs:a1u d l) (hc:a0d vi w A l)
  (hkl:ks.length=H) (hks:∀ k∈ks,k<10) (hck:a0d i64 w Ak ks) :
  Calls Tryz.prog 149 #[.slice A l.length cap,.int .i64 W,.int .i64 H,.int .i64 d,.slice Ak ks.length capk] w fun e w'=>∃ v G,e=.returned (.tuple #[v,.int .i64 0])/\Own w' 3 v G ((b3y l W H d ks).map vi)/\Chg [] w w'/\∀ x∈G,w.heap.size<=x:=by
 have aC:l.length<=4096:=by rw [hl];exact zL hw1 hh1
 have aE:=b0q (P:=Tryz.prog) a0p rfl .i64 .i64 l.length (by omega) (by omega)
 have ao:=b4c l A cap W H d w hw0 hw1 hh0 hh1 h0 h1 hl hs hc
 have an:=b7w ks Ak capk w hks (by omega) hck
 rw [hkl] at an
 have af:=fun y (hy:y<H) k (hk:k<10) w hc=>f0y l A cap W H y d k w hw0 hw1 hh1 hy h0 h1 hk hl hs hc
 obtain ⟨m,hm⟩:=zX (l.length)
 rw [<-hm] at af ao aE aC ⊢
 rw [hkl]
 have HR:=hid af
 have aA:=hid hks
 have HM:=hid hm
 have aG:=hid hkl
 have am:=hl
 rw [<-hm] at am
 have aB:=hid am
 clear af hm hl hs hks hkl am
 go_enter Tryz.func149,Tryz.ntmps149
 go_wp2_with (first | (go_at_call 194;refine ao.mono ?_;rintro e w' ⟨rfl,rfl⟩) | (go_at_call 197;refine an.mono ?_;rintro e w' ⟨rfl,rfl⟩))
 have ad:=(Row.room w m (by omega)).toOwn
 obtain ⟨B,hB⟩:=zX (w.heap.size)
 rw [<-hB] at ad ⊢
 have HB:=hid hB
 have ax:Chg [] w (w.alloc (.cells (List.replicate m (Value.int .i64 0)).toArray 3)):=(zR [] w).alloc _
 clear hB ao an
 go_loopg [12,32] H (fun j ov iv wr=>∃ (out:List Int) (G:List Nat),j<=H/\iv=.int .i64 ((H-j:Nat):Int)/\Own wr 3 ov G (out.map vi)/\Hid (out=(List.range (H-j)).flatMap (fun y=>c4f l W y d (ks.getD y 0)))/\Chg [] w wr/\∀ x∈G,w.heap.size<=x)
 case atStart=>exact ⟨[],[B],zQ _,by simp,ad,hid (by simp),ax,fun x hx=>by have := HB.out;simp at hx;omega⟩
 case round =>
  obtain ⟨out,G,hj,rfl,ae,Ho,ag,hG⟩:=hrel
  obtain ⟨Ao,co,rfl,-,-,-⟩:=ae.oq
  have HG:=hid hG
  clear hG ad ax
  rcases gk with _ | j
  ·have t4:decide (((H-0:Nat):Int)<(H:Int))=false:=by simp
   go_wp2
   go_ret2
   refine ⟨_,G,rfl,?_,ag,HG.out⟩
   have e:=Ho.out
   rw [Nat.sub_zero] at e
   rw [e] at ae
   rw [e]
   exact ae
  ·obtain ⟨i,aq⟩:=zX (H-(j+1))
   rw [<-aq] at Ho ⊢
   have av:i<H:=by omega
   have aw:H-j=i+1:=by omega
   have HI:=hid aw
   clear aq aw
   have ai:i<ks.length:=by rw [aG.out];exact av
   obtain ⟨g,o,rfl,ab⟩:=(hck.same ag).at_ ai
   have hk:=aA.out _ (zG ai)
   have ay:ks.getD i 0=ks[i]:=by rw [zD,zF ai];rfl
   have aa:(List.range (i+1)).flatMap (fun y=>c4f l W y d (ks.getD y 0))=out++c4f l W i d ks[i]:=by
    rw [List.range_succ,List.flatMap_append,<-Ho.out,List.flatMap_cons,List.flatMap_nil,List.append_nil,ay]
   obtain ⟨k,ar⟩:=zX (ks[i])
   rw [<-ar] at ab hk aa
   have al:wr.cell? ⟨g,o+i,none⟩=some (.int .i64 k):=ab
   have hr:=HR.out i av k hk wr (hc.same ag)
   have aj:=b6a l W i d k
   obtain ⟨r,au⟩:=zX (c4f l W i d k)
   rw [<-au] at hr aa aj
   have HS:=hid aa
   have aF:=hid aj
   have aH:out.length<=4096:=by
    have aI:=aB.out
    rw [Ho.out,a9n _ W _ fun y _=>b6a _ _ _ _ _,List.length_range]
    have:=Nat.mul_le_mul_left W (show i<=H by omega)
    omega
   clear ar ai ay aa au ab aj
   go_wp2_with fail
   refine hr.mono ?_
   rintro e w1 ⟨v1,G1,rfl,ac,ak,aJ⟩
   obtain ⟨A1,c1,rfl,-,-,ap⟩:=ac.oq
   have ah:=ae.same ak
   have az:a0d (fun u=>u) w1 A1 (r.map vi):=by
    obtain ⟨A',c',h5,_,_,h6,_⟩:=ac.open_
    injection h5 with h5
    subst h5
    exact h6
   have aD:r.length<=64:=by rw [aF.out];exact hw1
   clear hr ac ap
   go_wp2_with (at_builtin;refine a1m rfl rfl a0p rfl rfl ah (r.map vi) r.length rfl ?c1 ?c2 ?c3 ?c4 ?c5 ?_)
   case c1=>exact (zE _).symm
   case c2=>exact az
   case c3=>exact e6f _
   case c4=>rw [zE,zE];omega
   case c5=>rw [zE,zE];omega
   intro v' F' w2 h2 h3
   go_wp2_with fail
   go_roundg j
   case measure=>omega
   case rel =>
    rw [HI.out]
    refine ⟨out++r,F',by omega,by go_num,?_,hid HS.out.symm,(ag.tq ak).trans h3.chg fun x hx => .inr (HG.out x hx),fun x hx => ?_⟩
    ·rw [zM]
     exact h2
    ·rcases h3.new x hx with h9 | h9
     ·exact HG.out x h9
     ·have:=ag.size
      have:=ak.size
      omega
structure DSt where
 runs:List Nat
 dists:List Nat
 longest:Nat
structure DSt.Ok (s:DSt):Prop where
 rl:s.runs.length=1025
 dl:s.dists.length=65
 r64:∀ x∈s.runs,x<=64
 d1024:∀ x∈s.dists,x<=1024
 l64:s.longest<=64
def a6z:Nat->List Nat->Nat->Nat->List Nat
 | 0,D,_,_=>D
 | f+1,D,m,d=>a6z f (D.set (m+1) d) (m+1) d
theorem d0g:∀ f D m d,(a6z f D m d).length=D.length
 | 0,_,_,_=>rfl
 | f+1,D,m,d=>by rw [a6z,d0g,List.length_set]
theorem a9v {l:List Nat} {i v B:Nat} (h:∀ x∈l,x<=B) (hv:v<=B):∀ x∈l.set i v,x<=B:=fun x hx=>by
 rcases List.mem_or_eq_of_mem_set hx with h1 | h1
 ·exact h x h1
 ·omega
theorem d5s {B:Nat}:∀ f D m d,(∀ x∈D,x<=B)->d<=B->∀ x∈a6z f D m d,x<=B
 | 0,_,_,_,h,_=>h
 | f+1,D,m,d,h,hd=>d5s f _ _ d (a9v h hd) hd
def a8k (l:List Int) (at_:Nat) (rs:List Nat) (d:Nat):Nat:=if l.getD at_ 0=l.getD (at_-d) 0 then min (rs.getD d 0+1) 64 else 0
theorem d7o (l:List Int) (at_:Nat) (rs:List Nat) (d:Nat):a8k l at_ rs d<=64:=by
 unfold a8k
 split<;>omega
def b5d (l:List Int) (at_:Nat) (s:DSt) (d:Nat):DSt :=
 ⟨s.runs.set d (a8k l at_ s.runs d),a6z (a8k l at_ s.runs d-s.longest) s.dists s.longest d,max s.longest (a8k l at_ s.runs d)⟩
theorem c6r {l:List Int} {at_ d:Nat} {s:DSt} (h:s.Ok) (hd:d<=1024):(b5d l at_ s d).Ok:=by
 have:=d7o l at_ s.runs d
 exact ⟨by simp [b5d,h.rl],by simp [b5d,d0g,h.dl],a9v h.r64 this,d5s _ _ _ _ h.d1024 hd,by have:=h.l64;simp only [b5d];omega⟩
def dGo (l:List Int) (at_:Nat):Nat->Nat->DSt->DSt
 | 0,_,s=>s
 | f+1,d,s=>dGo l at_ f (d+1) (b5d l at_ s d)
theorem e1w {l:List Int} {at_:Nat}:∀ f d s,s.Ok->d+f<=1025->(dGo l at_ f d s).Ok
 | 0,_,_,h,_=>h
 | f+1,d,s,h,hd=>e1w f (d+1) _ (c6r h (by omega)) (by omega)
def c5a (rs:List Nat):DSt:=⟨rs,List.replicate 65 0,0⟩
def b5f (l:List Int) (at_:Nat) (rs:List Nat):DSt:=dGo l at_ (min at_ 1024) 1 (c5a rs)
def b7u (rs:List Nat):Prop:=rs.length=1025/\∀ x∈rs,x<=64
theorem c0p {rs:List Nat} (h:b7u rs):(c5a rs).Ok :=
 ⟨h.1,by simp [c5a],h.2,fun x hx=>by rw [List.eq_of_mem_replicate hx];exact Nat.zero_le _,Nat.zero_le _⟩
theorem c6t {l:List Int} {at_:Nat} {rs:List Nat} (h:b7u rs):(b5f l at_ rs).Ok:=e1w _ _ _ (c0p h) (by omega)
structure DSt.In (s:DSt) (B:Nat):Prop where
 rb:∀ x∈s.runs,x<=B
 lb:s.longest<=B
 db:∀ n,s.dists.getD n 0≠0->n<=s.longest
theorem b0k (l:List Nat) (i v j:Nat):(l.set i v).getD j 0=if i=j/\i<l.length then v else l.getD j 0:=by
 rw [zD,zD,List.getElem?_set]
 by_cases h:i=j
 ·subst h
  by_cases h2:i<l.length
  ·simp [h2]
  ·simp [h2]
 ·simp [h]
theorem d5r:∀ f D m d n,(∀ n,D.getD n 0≠0->n<=m)->(a6z f D m d).getD n 0≠0->n<=m+f
 | 0,_,_,_,n,h,hn=>h n hn
 | f+1,D,m,d,n,h,hn=>by
  have:=d5r f (D.set (m+1) d) (m+1) d n (fun k hk=>by
   rw [b0k] at hk
   split at hk
   ·omega
   ·have:=h k hk;omega) hn
  omega
theorem e7b {l:List Int} {at_ d B:Nat} {s:DSt} (h:s.In B) (hr:a8k l at_ s.runs d<=B):(b5d l at_ s d).In B:=by
 refine ⟨a9v h.rb hr,?_,fun n hn => ?_⟩
 ·have:=h.lb;simp only [b5d];omega
 ·have:=d5r _ _ _ _ n h.db hn
  simp only [b5d]
  omega
theorem f0p {l:List Int} {at_ B:Nat}:∀ f d s,s.In (B+1)->(∀ k,d<=k->s.runs.getD k 0<=B)->(dGo l at_ f d s).In (B+1)
 | 0,_,_,h,_=>h
 | f+1,d,s,h,hb=>by
  have h1:=hb d (zQ _)
  have hr:a8k l at_ s.runs d<=B+1:=by
   unfold a8k
   split<;>omega
  refine f0p f (d+1) _ (e7b h hr) fun k hk => ?_
  show (s.runs.set d _).getD k 0<=B
  rw [b0k,if_neg (by omega)]
  exact hb k (by omega)
theorem c6s {l:List Int} {at_ B:Nat} {rs:List Nat} (h:∀ x∈rs,x<=B):(b5f l at_ rs).In (B+1):=by
 have hg:∀ k,rs.getD k 0<=B:=fun k=>by
  rcases zZ k rs.length with hk | hk
  ·rw [zD,zF hk];exact h _ (zG hk)
  ·rw [zD,List.getElem?_eq_none hk];exact Nat.zero_le _
 refine f0p _ _ _ ⟨fun x hx=>by have:=h x hx;omega,Nat.zero_le _,fun n hn => ?_⟩ fun k _=>hg k
 exfalso
 apply hn
 show (List.replicate 65 0).getD n 0=0
 rw [zD,List.getElem?_replicate]
 split<;>rfl
structure LSt where
 costs:List Nat
 first:List Tok
 runs:List Nat
def d9f (cp at_:Nat) (D:List Nat) (n:Nat) (s:List Nat × List Tok):List Nat × List Tok :=
 if n<3\/D.getD n 0=0 then s else if s.1.getD (at_+n) 0+cp<=s.1.getD at_ 0 then (s.1.set at_ (s.1.getD (at_+n) 0+cp),s.2.set at_ ⟨n,D.getD n 0,0⟩) else s
def b7b (cp at_:Nat) (D:List Nat):Nat->Nat->List Nat × List Tok->List Nat × List Tok
 | 0,_,s=>s
 | f+1,n,s=>b7b cp at_ D f (n+1) (d9f cp at_ D n s)
def d6m (l:List Int) (lit at_:Nat) (s:LSt):List Nat × List Tok:=(s.costs.set at_ (s.costs.getD (at_+1) 0+lit),s.first.set at_ ⟨0,0,l.getD at_ 0⟩)
def d0w (l:List Int) (lit cp at_:Nat) (s:LSt):LSt :=
 ⟨(b7b cp at_ (b5f l at_ s.runs).dists 65 0 (d6m l lit at_ s)).1,(b7b cp at_ (b5f l at_ s.runs).dists 65 0 (d6m l lit at_ s)).2,(b5f l at_ s.runs).runs⟩
def lGo (l:List Int) (lit cp:Nat):Nat->LSt->LSt
 | 0,s=>s
 | k+1,s=>lGo l lit cp k (d0w l lit cp k s)
def c5f (n:Nat):LSt:=⟨List.replicate (n+1) 0,List.replicate n ⟨0,0,0⟩,List.replicate 1025 0⟩
def b4e (l:List Int) (lit cp:Nat):LSt:=lGo l lit cp l.length (c5f l.length)
def a4s (F:List Tok) (i:Nat):Tok:=F.getD i ⟨0,0,0⟩
def a9e (F:List Tok) (n:Nat):Nat->Nat->List Tok
 | 0,_=>[]
 | f+1,i=>if i<n then a4s F i::a9e F n f (i+max (a4s F i).len 1) else []
def a5z (l:List Int) (lit cp:Nat):List Tok:=a9e (b4e l lit cp).first l.length l.length 0
structure b9s (n B:Nat) (p:List Nat × List Tok):Prop where
 cl:p.1.length=n+1
 fl:p.2.length=n
 cb:∀ x∈p.1,x<=B
 fo:∀ t∈p.2,t.ok
structure LSt.Ok (n lit k:Nat) (s:LSt):Prop where
 pair:b9s n ((n-k)*lit) (s.costs,s.first)
 rl:s.runs.length=1025
 rb:∀ x∈s.runs,x<=64/\x<=n-k
theorem b6x {l:List Nat} {B:Nat} (h:∀ x∈l,x<=B) (i:Nat):l.getD i 0<=B:=by
 rcases zZ i l.length with hk | hk
 ·rw [zD,zF hk];exact h _ (zG hk)
 ·rw [zD,List.getElem?_eq_none hk];exact Nat.zero_le _
theorem e3c {n B cp at_:Nat} {D:List Nat} {m:Nat} {p:List Nat × List Tok} (h:b9s n B p) (hm:m<=64) (hD:∀ x∈D,x<=1024):b9s n B (d9f cp at_ D m p):=by
 unfold d9f
 split
 ·exact h
 ·rename_i h1
  split
  ·rename_i h2
   have h3:=b6x h.cb at_
   have h4:=b6x hD m
   refine ⟨by simp [h.cl],by simp [h.fl],a9v h.cb (by omega),fun t ht => ?_⟩
   rcases List.mem_or_eq_of_mem_set ht with h5 | rfl
   ·exact h.fo t h5
   ·right
    rw [Tok.isCopy_iff]
    exact ⟨by simp only;omega,by simp only;omega,by simp only;omega,by simp only;omega,rfl⟩
  ·exact h
theorem d6n {n B cp at_:Nat} {D:List Nat} (hD:∀ x∈D,x<=1024):∀ f m p,b9s n B p->m+f<=65->b9s n B (b7b cp at_ D f m p)
 | 0,_,_,h,_=>h
 | f+1,m,p,h,hm=>d6n hD f (m+1) _ (e3c h (by omega) hD) (by omega)
theorem e3a {l:List Int} {n lit k:Nat} {s:LSt} (h:s.Ok n lit (k+1)) (hk:k<n):b9s n ((n-k)*lit) (d6m l lit k s):=by
 have e:(n-k)*lit=(n-(k+1))*lit+lit:=by rw [show n-k=n-(k+1)+1 by omega,Nat.add_mul,Nat.one_mul]
 have h1:=b6x h.pair.cb (k+1)
 rw [e]
 refine ⟨by simp [d6m,h.pair.cl],by simp [d6m,h.pair.fl],a9v (fun x hx => ?_) (by simp only at h1;omega),fun t ht => ?_⟩
 ·have:=h.pair.cb x hx;omega
 ·rcases List.mem_or_eq_of_mem_set ht with h5 | rfl
  ·exact h.pair.fo t h5
  ·left
   rfl
theorem c7c {l:List Int} {n lit cp k:Nat} {s:LSt} (h:s.Ok n lit (k+1)) (hk:k<n):(d0w l lit cp k s).Ok n lit k:=by
 have ab:b7u s.runs:=⟨h.rl,fun x hx=>(h.rb x hx).1⟩
 have hd:=c6t (l:=l) (at_:=k) ab
 have aa:=c6s (l:=l) (at_:=k) (rs:=s.runs) (B:=n-(k+1)) (fun x hx=>(h.rb x hx).2)
 refine ⟨d6n hd.d1024 65 0 _ (e3a h hk) (by omega),hd.rl,fun x hx=>⟨hd.r64 x hx,?_⟩⟩
 have:=aa.rb x hx
 omega
theorem c1h (n lit:Nat):(c5f n).Ok n lit n :=
 ⟨⟨zV,zV,fun x hx=>by rw [List.eq_of_mem_replicate hx];exact Nat.zero_le _,fun t ht=>by rw [List.eq_of_mem_replicate ht];exact .inl rfl⟩,zV,fun x hx=>by rw [List.eq_of_mem_replicate hx];omega⟩
theorem f0t {l:List Int} {n lit cp:Nat}:∀ k s,s.Ok n lit k->k<=n->(lGo l lit cp k s).Ok n lit 0
 | 0,_,h,_=>h
 | k+1,s,h,hk=>f0t k _ (c7c h (by omega)) (by omega)
theorem b2v (l:List Int) (lit cp:Nat):(b4e l lit cp).Ok l.length lit 0:=f0t _ _ (c1h _ _) (zQ _)
theorem d7u {F:List Tok} (h:∀ t∈F,t.ok) {n:Nat} (hn:n<=F.length):∀ f i,∀ t∈a9e F n f i,t.ok
 | 0,_,t,ht=>by simp [a9e] at ht
 | f+1,i,t,ht=>by
  unfold a9e at ht
  split at ht
  ·rename_i hi
   rcases zJ.1 ht with rfl | h1
   ·unfold a4s
    rw [zD,zF (by omega)]
    exact h _ (zG _)
   ·exact d7u h hn f _ t h1
  ·simp at ht
theorem d2b {F:List Tok} {n:Nat}:∀ f i,(a9e F n f i).length<=f
 | 0,_=>by simp [a9e]
 | f+1,i=>by
  unfold a9e
  split
  ·have:=d2b (F:=F) (n:=n) f (i+max (a4s F i).len 1)
   simp only [zK]
   omega
  ·exact Nat.zero_le _
theorem e3i (l:List Int) (lit cp:Nat):∀ t∈a5z l lit cp,t.ok :=
 d7u (b2v l lit cp).pair.fo (by rw [(b2v l lit cp).pair.fl];exact zQ _) _ _
theorem b7c (l:List Int) (lit cp:Nat):(a5z l lit cp).length<=l.length:=d2b _ _
theorem c8d (k:Nat) (l:List Int) (x:Int):a0r k (l++[x])=a0r k l++a4d k x:=by simp [a0r]
theorem c8i (w:World) (b:Nat) (F bs:List Nat) (k:Nat) (l:List Int) (A:Option Addr) (cap:Nat) (h:a2n w b F bs) (hk:k<=25) (hw:∀ x∈l,a2e x) (hc:a0d vi w A l)
  (hA:Apt A l F) (hlen:bs.length+65*l.length<274877906944) :
  Calls Tryz.prog 155 #[.pointer (some ⟨b,0,none⟩),.int .i64 k,.slice A l.length cap] w fun e w'=>e=.returned (.int .i64 0)/\∃ F',a2n w' b F' (bs++a0r k l)/\a0u F F' w w':=by
 have HW:=hid hw
 clear hw
 obtain ⟨n,hn⟩:=zX (l.length)
 rw [<-hn] at hlen ⊢
 have HN:=hid hn
 have HA:=hid hA
 clear hn hA
 go_enter Tryz.func155,Tryz.ntmps155
 go_wp2_with (go_at_call 206;refine (b5v _ _ hk).mono ?_;rintro e w' ⟨rfl,rfl⟩)
 go_loopg [18] n (fun j i wr=>j<=n/\i=.int .i64 ((n-j:Nat):Int)/\w=wr)
 case atStart=>exact ⟨zQ _,by simp,rfl⟩
 case round =>
  obtain ⟨hj,rfl,rfl⟩:=hrel
  rcases gk with _ | j
  ·have t4:decide (((n-0:Nat):Int)<(n:Int))=false:=by simp
   go_wp2_with fail
   go_loopg [28] n (fun j i wr=>∃ F' ab,j<=n/\i=.int .i64 ((n-j:Nat):Int)/\a2n wr b F' ab/\Hid (ab=bs++a0r k (l.take (n-j)))/\ab.length<=bs.length+65*(n-j)/\a0u F F' w wr)
   case atStart=>exact ⟨F,bs,zQ _,by simp,h,hid (by simp [a0r]),by omega,a0u.refl _ _⟩
   case round =>
    obtain ⟨F',ab,aB,rfl,hb,Hb,aA,aj⟩:=hrel
    rcases gk with _ | j
    ·go_wp2
     go_ret
     refine ⟨rfl,F',?_,aj⟩
     have e:l.take n=l:=by rw [HN.out,zN]
     rw [Hb.out,Nat.sub_zero,e] at hb
     exact hb
    ·obtain ⟨m,ag⟩:=zX (n-(j+1))
     rw [<-ag] at Hb aA ⊢
     have av:m<n:=by omega
     have af:n-j=m+1:=by omega
     have HM:=hid af
     clear ag af
     have ae:m<l.length:=by rw [<-HN.out];exact av
     obtain ⟨g,o,rfl,aa⟩:=(hc.keep HA.out aj.chg).at_ ae
     have am:=c8d k (l.take m) l[m]
     rw [<-a0o l ae] at am
     obtain ⟨x,hx⟩:=zX (l[m])
     rw [<-hx] at aa am
     have ad:wr.cell? ⟨g,o+m,none⟩=some (.int .i64 x):=aa
     have ah:a2e x:=by rw [hx];exact HW.out _ (zG _)
     have HS:Hid (bs++a0r k (l.take (m+1))=ab++a4d k x):=by
      refine hid ?_
      rw [am,Hb.out,zH]
     have aw:=a5x k x
     have ap:=a6j k x hk
     have hu:=c8f ah
     have au:=b9o x wr ah
     obtain ⟨u,ar⟩:=zX (a8f x)
     rw [<-ar] at hu au
     have hq:u / 2^k<=u:=Nat.div_le_self _ _
     have an:=Nat.div_add_mod u (2^k)
     have ac:=Nat.mod_lt u (Nat.two_pow_pos k)
     have ao:2^k<=33554432:=Nat.pow_le_pow_right (n:=2) (j:=25) (by decide) hk
     obtain ⟨q,al⟩:=zX (u / 2^k)
     obtain ⟨r,ai⟩:=zX (u%2^k)
     have e1:(u:Int) / 2^k=(q:Int):=by rw [al];simp
     have ax:a4d k x=if q<32 then List.replicate q 0++1::a0b r k else List.replicate 32 0++1::a0b u 32:=by unfold a4d;rw [<-ar,<-al,<-ai]
     rw [<-al] at hq an
     rw [<-ai] at an ac
     have aC:(q:Int)*2^k=(u:Int)-r:=by
      have:((2^k*q+r:Nat):Int)=(u:Int):=by rw [an]
      rw [Int.natCast_add,Int.natCast_mul,Int.natCast_pow] at this
      rw [Int.mul_comm]
      simp at this
      omega
     have ak:=hid ax
     have az:ab.length+65<274877906944:=by omega
     have ay:Hid ((ab++a4d k x).length<=bs.length+65*(m+1)):=hid (by rw [zC,aw];omega)
     have aD:r<=u:=by rw [ai];exact Nat.mod_le _ _
     have aq:=hid ac
     clear ax an ar al ai aa hx am ae aw ap ac ao
     by_cases hs:q<32
     ·have t1:decide ((q:Int)<32)=true:=by simp;omega
      rw [if_pos hs] at ak
      go_wp2_with (go_at_call 147;refine au.mono ?_;rintro e w' ⟨rfl,rfl⟩)
      refine (d2i _ b F' ab q hb (by omega) (by omega)).mono ?_
      rintro e w1 ⟨rfl,F2,h2,g2⟩
      go_wp2_with fail
      rw [show (u:Int)-((u:Int)-r)=r by omega]
      refine (a0t _ b F2 _ r k h2 (by omega) aq.out (by simp;omega)).mono ?_
      rintro e w2 ⟨rfl,F3,h3,g3⟩
      go_wp2_with fail
      go_roundg j
      case measure=>omega
      case rel =>
       rw [HM.out]
       refine ⟨F3,ab++a4d k x,by omega,by go_num,?_,hid HS.out.symm,ay.out,(aj.trans g2).trans g3⟩
       rw [ak.out]
       simpa using h3
     ·have t1:decide ((q:Int)<32)=false:=by simp;omega
      rw [if_neg hs] at ak
      go_wp2_with (go_at_call 147;refine au.mono ?_;rintro e w' ⟨rfl,rfl⟩)
      refine (d2i _ b F' ab 32 hb (by omega) (by omega)).mono ?_
      rintro e w1 ⟨rfl,F2,h2,g2⟩
      go_wp2_with fail
      refine (a0t _ b F2 _ u 32 h2 (by omega) (by omega) (by simp;omega)).mono ?_
      rintro e w2 ⟨rfl,F3,h3,g3⟩
      go_wp2_with fail
      go_roundg j
      case measure=>omega
      case rel =>
       rw [HM.out]
       refine ⟨F3,ab++a4d k x,by omega,by go_num,?_,hid HS.out.symm,ay.out,(aj.trans g2).trans g3⟩
       rw [ak.out]
       simpa using h3
  ·obtain ⟨m,ag⟩:=zX (n-(j+1))
   rw [<-ag]
   have av:m<n:=by omega
   have af:n-j=m+1:=by omega
   have HM:=hid af
   clear ag af
   have ae:m<l.length:=by rw [<-HN.out];exact av
   obtain ⟨g,o,rfl,aa⟩:=hc.at_ ae
   have ah:a2e l[m]:=HW.out _ (zG _)
   obtain ⟨x,hx⟩:=zX (l[m])
   rw [<-hx] at aa ah
   have ad:w.cell? ⟨g,o+m,none⟩=some (.int .i64 x):=aa
   clear aa hx ae
   go_wp2_with (go_at_call 193;refine (b6j _ _ ah).mono ?_;rintro e w' ⟨rfl,rfl⟩)
   go_roundg j
   case measure=>omega
   case rel =>
    rw [HM.out]
    exact ⟨by omega,by go_num,rfl⟩
end Go.Proofs.YtepjepkgcdfboaaGreatDoor
