/- tile.Get of the kinds 1 to 7 by its contract. Printed by wip/mktget.py. -/
import Derived.Test.YtepjepkgcdfboaaGreatDoorMg33
import Derived.Test.YtepjepkgcdfboaaGreatDoorMg36
set_option linter.unusedVariables false
set_option linter.unusedSimpArgs false
set_option maxHeartbeats 1000000
set_option maxRecDepth 100000
namespace Go.Proofs.YtepjepkgcdfboaaGreatDoor
open Go.RowKit
section
variable {w:World} {b:Nat} {F ds:List Nat} {p:Nat} {l:List Int} {W H d:Nat} (h:a1r w b F ds p) (hw0:1<=W) (hw1:W<=16) (hh0:1<=H) (hh1:H<=16) (h0:1<=d) (h1:d<=16) (hl:l.length=W*H) (hs:a1u d l)
include h hw0 hw1 hh0 hh1 h0 h1 hl hs
theorem f4j (ha:a0y ds p (a0e 1 l W H d)) :
  Calls Tryz.prog 135 #[.pointer (some ⟨b,0,none⟩),.int .i64 W,.int .i64 H,.int .i64 d] w (a3z w b F ds p l (a0e 1 l W H d).length):=by
 have ak:=a4o W H d w hw0 hw1 hh0 hh1 h0 h1
 have af:=zL hw1 hh1
 have ad:a0e 1 l W H d=a0b 1 3++a1v l d:=rfl
 have ai:(a0e 1 l W H d).length=3+(a1v l d).length:=by rw [ad,zC,a0a]
 rw [ai]
 rw [ad] at ha
 have ae:=ha.right
 rw [a0a] at ae
 have al:=a0j w b F ds p 3 1 h (by omega) (by decide) ha.left
 have aa:=fun w' (hr:a1r w' b F ds (p+3)) (hc:Chg [b] w w')=>b5k w' b F ds (p+3) d l hr h1 hs (by rw [hl];exact Nat.le_trans af (by decide)) ae
 obtain ⟨n,hn⟩:=zX (W*H)
 have ao:(W:Int)*(H:Int)=(n:Int):=by rw [hn];simp
 have an:n<=256:=by rw [hn];exact af
 rw [hl,<-hn] at aa
 have am:=hid aa
 unfold a3z
 generalize (a1v l d).length=q at *
 clear hn ad ai ha ae hs hl aa af
 go_enter Tryz.func135,Tryz.ntmps135
 go_wp2_with (go_at_call 109;refine ak.mono ?_;rintro e w' ⟨rfl,rfl⟩)
 refine al.mono ?_
 rintro e w1 ⟨rfl,ag,ac⟩
 have aa:=am.out w1 ag ac
 go_wp2_with (go_at_call 69;refine (a2b _ b F ds _ ag).mono ?_;rintro e w' ⟨rfl,rfl⟩)
 refine aa.mono ?_
 rintro e w2 ⟨v,g,rfl,ab,ah,aj,hg⟩
 clear aa
 go_wp2_with (go_at_call 69;refine (a2b _ b F ds _ ah).mono ?_;rintro e w' ⟨rfl,rfl⟩)
 go_ret2
 exact ⟨v,[g],rfl,ab.toOwn,ah.cast (by omega),ac.tq aj,by have:=ac.size;simp;omega⟩
theorem f4k (ha:a0y ds p (a0e 2 l W H d)) :
  Calls Tryz.prog 135 #[.pointer (some ⟨b,0,none⟩),.int .i64 W,.int .i64 H,.int .i64 d] w (a3z w b F ds p l (a0e 2 l W H d).length):=by
 have ak:=a4o W H d w hw0 hw1 hh0 hh1 h0 h1
 have ah:=zL hw1 hh1
 have ad:a0e 2 l W H d=a0b 2 3++a2z l W H d:=rfl
 have ai:(a0e 2 l W H d).length=3+(a2z l W H d).length:=by rw [ad,zC,a0a]
 rw [ai]
 rw [ad] at ha
 have ae:=ha.right
 rw [a0a] at ae
 have al:=a0j w b F ds p 3 2 h (by omega) (by decide) ha.left
 have aa:=fun w' (hr:a1r w' b F ds (p+3)) (hc:Chg [b] w w')=>c6y w' b F ds (p+3) l W H d hr hw0 hw1 hh0 hh1 h0 h1 hl hs ae
 obtain ⟨n,hn⟩:=zX (W*H)
 have ao:(W:Int)*(H:Int)=(n:Int):=by rw [hn];simp
 have an:n<=256:=by rw [hn];exact ah
 have am:=hid aa
 unfold a3z
 generalize (a2z l W H d).length=q at *
 clear hn ad ai ha ae hs hl aa ah
 go_enter Tryz.func135,Tryz.ntmps135
 go_wp2_with (go_at_call 109;refine ak.mono ?_;rintro e w' ⟨rfl,rfl⟩)
 refine al.mono ?_
 rintro e w1 ⟨rfl,af,ac⟩
 have aa:=am.out w1 af ac
 go_wp2_with (go_at_call 69;refine (a2b _ b F ds _ af).mono ?_;rintro e w' ⟨rfl,rfl⟩)
 refine aa.mono ?_
 rintro e w2 ⟨v,g,rfl,ab,ag,aj,hg⟩
 clear aa
 go_wp2_with (go_at_call 69;refine (a2b _ b F ds _ ag).mono ?_;rintro e w' ⟨rfl,rfl⟩)
 go_ret2
 exact ⟨v,[g],rfl,ab.toOwn,ag.cast (by omega),ac.tq aj,by have:=ac.size;simp;omega⟩
theorem f4l (ha:a0y ds p (a0e 3 l W H d)) :
  Calls Tryz.prog 135 #[.pointer (some ⟨b,0,none⟩),.int .i64 W,.int .i64 H,.int .i64 d] w (a3z w b F ds p l (a0e 3 l W H d).length):=by
 have ak:=a4o W H d w hw0 hw1 hh0 hh1 h0 h1
 have ah:=zL hw1 hh1
 have ad:a0e 3 l W H d=a0b 3 3++a1c l W d (W*H):=rfl
 have ai:(a0e 3 l W H d).length=3+(a1c l W d (W*H)).length:=by rw [ad,zC,a0a]
 rw [ai]
 rw [ad] at ha
 have ae:=ha.right
 rw [a0a] at ae
 have al:=a0j w b F ds p 3 3 h (by omega) (by decide) ha.left
 have aa:=fun w' (hr:a1r w' b F ds (p+3)) (hc:Chg [b] w w')=>f1u w' b F ds (p+3) l W H d hr hw0 (by omega) hh0 (by omega) h0 h1 hl hs ae
 obtain ⟨n,hn⟩:=zX (W*H)
 have ao:(W:Int)*(H:Int)=(n:Int):=by rw [hn];simp
 have an:n<=256:=by rw [hn];exact ah
 have am:=hid aa
 unfold a3z
 generalize (a1c l W d (W*H)).length=q at *
 clear hn ad ai ha ae hs hl aa ah
 go_enter Tryz.func135,Tryz.ntmps135
 go_wp2_with (go_at_call 109;refine ak.mono ?_;rintro e w' ⟨rfl,rfl⟩)
 refine al.mono ?_
 rintro e w1 ⟨rfl,af,ac⟩
 have aa:=am.out w1 af ac
 go_wp2_with (go_at_call 69;refine (a2b _ b F ds _ af).mono ?_;rintro e w' ⟨rfl,rfl⟩)
 refine aa.mono ?_
 rintro e w2 ⟨v,g,rfl,ab,ag,aj,hg⟩
 clear aa
 go_wp2_with (go_at_call 69;refine (a2b _ b F ds _ ag).mono ?_;rintro e w' ⟨rfl,rfl⟩)
 go_ret2
 exact ⟨v,[g],rfl,ab.toOwn,ag.cast (by omega),ac.tq aj,by have:=ac.size;simp;omega⟩
theorem f4m (hp:Pts w) (h0F:0∉F) (ha:a0y ds p (a0e 4 l W H d)) :
  Calls Tryz.prog 135 #[.pointer (some ⟨b,0,none⟩),.int .i64 W,.int .i64 H,.int .i64 d] w (a3z w b F ds p l (a0e 4 l W H d).length):=by
 have ak:=a4o W H d w hw0 hw1 hh0 hh1 h0 h1
 have af:=zL hw1 hh1
 have ad:a0e 4 l W H d=a0b 4 3++a3h (a5z l (d+1) 12) W d:=rfl
 have ai:(a0e 4 l W H d).length=3+(a3h (a5z l (d+1) 12) W d).length:=by rw [ad,zC,a0a]
 rw [ai]
 rw [ad] at ha
 have ae:=ha.right
 rw [a0a] at ae
 have al:=a0j w b F ds p 3 4 h (by omega) (by decide) ha.left
 have aa:=fun w' (hr:a1r w' b F ds (p+3)) (hc:Chg [b] w w')=>e8u w' b F ds (p+3) l W d (a5z l (d+1) 12) hr (hp.chg hc (fun hm=>by simp at hm;exact h0F (hm ▸ h.mem))) h0F hw0 (by omega) h0 h1 (by rw [hl];exact Nat.le_trans af (by decide)) (d3r l _ _) (c5h hs _ _) ae
 obtain ⟨n,hn⟩:=zX (W*H)
 have ao:(W:Int)*(H:Int)=(n:Int):=by rw [hn];simp
 have an:n<=256:=by rw [hn];exact af
 rw [hl,<-hn] at aa
 have am:=hid aa
 unfold a3z
 generalize (a3h (a5z l (d+1) 12) W d).length=q at *
 clear hn ad ai ha ae hs hl aa af hp h0F
 go_enter Tryz.func135,Tryz.ntmps135
 go_wp2_with (go_at_call 109;refine ak.mono ?_;rintro e w' ⟨rfl,rfl⟩)
 refine al.mono ?_
 rintro e w1 ⟨rfl,ag,ac⟩
 have aa:=am.out w1 ag ac
 go_wp2_with (go_at_call 69;refine (a2b _ b F ds _ ag).mono ?_;rintro e w' ⟨rfl,rfl⟩)
 refine aa.mono ?_
 rintro e w2 ⟨v,G,rfl,ab,ah,aj,hg⟩
 clear aa
 go_wp2_with (go_at_call 69;refine (a2b _ b F ds _ ah).mono ?_;rintro e w' ⟨rfl,rfl⟩)
 go_ret2
 exact ⟨v,G,rfl,ab,ah.cast (by omega),ac.tq aj,fun x hx=>Nat.le_trans ac.size (hg x hx)⟩
theorem f4n (ha:a0y ds p (a0e 5 l W H d)) :
  Calls Tryz.prog 135 #[.pointer (some ⟨b,0,none⟩),.int .i64 W,.int .i64 H,.int .i64 d] w (a3z w b F ds p l (a0e 5 l W H d).length):=by
 have ak:=a4o W H d w hw0 hw1 hh0 hh1 h0 h1
 have ah:=zL hw1 hh1
 have ad:a0e 5 l W H d=a0b 5 3++a3w l W d:=rfl
 have ai:(a0e 5 l W H d).length=3+(a3w l W d).length:=by rw [ad,zC,a0a]
 rw [ai]
 rw [ad] at ha
 have ae:=ha.right
 rw [a0a] at ae
 have al:=a0j w b F ds p 3 5 h (by omega) (by decide) ha.left
 have aa:=fun w' (hr:a1r w' b F ds (p+3)) (hc:Chg [b] w w')=>d0k w' b F ds (p+3) l W H d hr hw0 hw1 hh0 hh1 h0 h1 hl hs ae
 obtain ⟨n,hn⟩:=zX (W*H)
 have ao:(W:Int)*(H:Int)=(n:Int):=by rw [hn];simp
 have an:n<=256:=by rw [hn];exact ah
 have am:=hid aa
 unfold a3z
 generalize (a3w l W d).length=q at *
 clear hn ad ai ha ae hs hl aa ah
 go_enter Tryz.func135,Tryz.ntmps135
 go_wp2_with (go_at_call 109;refine ak.mono ?_;rintro e w' ⟨rfl,rfl⟩)
 refine al.mono ?_
 rintro e w1 ⟨rfl,af,ac⟩
 have aa:=am.out w1 af ac
 go_wp2_with (go_at_call 69;refine (a2b _ b F ds _ af).mono ?_;rintro e w' ⟨rfl,rfl⟩)
 refine aa.mono ?_
 rintro e w2 ⟨v,g,rfl,ab,ag,aj,hg⟩
 clear aa
 go_wp2_with (go_at_call 69;refine (a2b _ b F ds _ ag).mono ?_;rintro e w' ⟨rfl,rfl⟩)
 go_ret2
 exact ⟨v,[g],rfl,ab.toOwn,ag.cast (by omega),ac.tq aj,by have:=ac.size;simp;omega⟩
theorem f4o (hm:a7a 6 l W d=true) (ha:a0y ds p (a0e 6 l W H d)) :
  Calls Tryz.prog 135 #[.pointer (some ⟨b,0,none⟩),.int .i64 W,.int .i64 H,.int .i64 d] w (a3z w b F ds p l (a0e 6 l W H d).length):=by
 have ak:=a4o W H d w hw0 hw1 hh0 hh1 h0 h1
 have af:=zL hw1 hh1
 have ad:a0e 6 l W H d=a0b 6 3++a2r l d:=rfl
 have ai:(a0e 6 l W H d).length=3+(a2r l d).length:=by rw [ad,zC,a0a]
 rw [ai]
 rw [ad] at ha
 have ae:=ha.right
 rw [a0a] at ae
 have al:=a0j w b F ds p 3 6 h (by omega) (by decide) ha.left
 have aa:=fun w' (hr:a1r w' b F ds (p+3)) (hc:Chg [b] w w')=>c3r w' b F ds (p+3) l d hr h0 h1 (by rw [hl];exact Nat.mul_pos hw0 hh0) (by rw [hl];exact af) hs (by simpa [a7a] using hm) ae
 obtain ⟨n,hn⟩:=zX (W*H)
 have ao:(W:Int)*(H:Int)=(n:Int):=by rw [hn];simp
 have an:n<=256:=by rw [hn];exact af
 rw [hl,<-hn] at aa
 have am:=hid aa
 unfold a3z
 generalize (a2r l d).length=q at *
 clear hn ad ai ha ae hs hl aa af hm
 go_enter Tryz.func135,Tryz.ntmps135
 go_wp2_with (go_at_call 109;refine ak.mono ?_;rintro e w' ⟨rfl,rfl⟩)
 refine al.mono ?_
 rintro e w1 ⟨rfl,ag,ac⟩
 have aa:=am.out w1 ag ac
 go_wp2_with (go_at_call 69;refine (a2b _ b F ds _ ag).mono ?_;rintro e w' ⟨rfl,rfl⟩)
 refine aa.mono ?_
 rintro e w2 ⟨v,g,rfl,ab,ah,aj,hg⟩
 clear aa
 go_wp2_with (go_at_call 69;refine (a2b _ b F ds _ ah).mono ?_;rintro e w' ⟨rfl,rfl⟩)
 go_ret2
 exact ⟨v,[g],rfl,ab.toOwn,ah.cast (by omega),ac.tq aj,by have:=ac.size;simp;omega⟩
theorem f4p (hm:a7a 7 l W d=true) (ha:a0y ds p (a0e 7 l W H d)) :
  Calls Tryz.prog 135 #[.pointer (some ⟨b,0,none⟩),.int .i64 W,.int .i64 H,.int .i64 d] w (a3z w b F ds p l (a0e 7 l W H d).length):=by
 have ak:=a4o W H d w hw0 hw1 hh0 hh1 h0 h1
 have ah:=zL hw1 hh1
 have ad:a0e 7 l W H d=a0b 7 3++a6h l W d:=rfl
 have ai:(a0e 7 l W H d).length=3+(a6h l W d).length:=by rw [ad,zC,a0a]
 rw [ai]
 rw [ad] at ha
 have ae:=ha.right
 rw [a0a] at ae
 have al:=a0j w b F ds p 3 7 h (by omega) (by decide) ha.left
 have aa:=fun w' (hr:a1r w' b F ds (p+3)) (hc:Chg [b] w w')=>c3s w' b F ds (p+3) l W H d hr hw0 hw1 hh0 hh1 h0 h1 hl hs (by simpa [a7a] using hm) ae
 obtain ⟨n,hn⟩:=zX (W*H)
 have ao:(W:Int)*(H:Int)=(n:Int):=by rw [hn];simp
 have an:n<=256:=by rw [hn];exact ah
 have am:=hid aa
 unfold a3z
 generalize (a6h l W d).length=q at *
 clear hn ad ai ha ae hs hl aa ah hm
 go_enter Tryz.func135,Tryz.ntmps135
 go_wp2_with (go_at_call 109;refine ak.mono ?_;rintro e w' ⟨rfl,rfl⟩)
 refine al.mono ?_
 rintro e w1 ⟨rfl,af,ac⟩
 have aa:=am.out w1 af ac
 go_wp2_with (go_at_call 69;refine (a2b _ b F ds _ af).mono ?_;rintro e w' ⟨rfl,rfl⟩)
 refine aa.mono ?_
 rintro e w2 ⟨v,g,rfl,ab,ag,aj,hg⟩
 clear aa
 go_wp2_with (go_at_call 69;refine (a2b _ b F ds _ ag).mono ?_;rintro e w' ⟨rfl,rfl⟩)
 go_ret2
 exact ⟨v,[g],rfl,ab.toOwn,ag.cast (by omega),ac.tq aj,by have:=ac.size;simp;omega⟩
theorem f0d {k:Nat} (hk:k<=7) (hp:Pts w) (h0F:0∉F) (hm:a7a k l W d=true) (ha:a0y ds p (a0e k l W H d)) :
  Calls Tryz.prog 135 #[.pointer (some ⟨b,0,none⟩),.int .i64 W,.int .i64 H,.int .i64 d] w (a3z w b F ds p l (a0e k l W H d).length):=by
 rcases (show k=0\/k=1\/k=2\/k=3\/k=4\/k=5\/k=6\/k=7 by omega) with rfl | rfl | rfl | rfl | rfl | rfl | rfl | rfl
 ·exact e5z h hw0 hw1 hh0 hh1 h0 h1 hl hs hm ha
 ·exact f4j h hw0 hw1 hh0 hh1 h0 h1 hl hs ha
 ·exact f4k h hw0 hw1 hh0 hh1 h0 h1 hl hs ha
 ·exact f4l h hw0 hw1 hh0 hh1 h0 h1 hl hs ha
 ·exact f4m h hw0 hw1 hh0 hh1 h0 h1 hl hs hp h0F ha
 ·exact f4n h hw0 hw1 hh0 hh1 h0 h1 hl hs ha
 ·exact f4o h hw0 hw1 hh0 hh1 h0 h1 hl hs hm ha
 ·exact f4p h hw0 hw1 hh0 hh1 h0 h1 hl hs hm ha
end
theorem c2w:∀ (ks:List Nat) (ps:List (List Int)),f1c ks->(∀ p∈ps,∀ x∈p,a2e x)->((ks.zip ps).map (fun p=>a4z p.1 p.2)).sum<=10*ps.length+65*ps.flatten.length
 | [],ps,_,_=>by simp
 | k::ks,[],_,_=>by simp
 | k::ks,p::ps,hk,hp=>by
  have h1:=c2w ks ps (fun x hx=>hk x (by simp [hx])) (fun q hq=>hp q (by simp [hq]))
  have h2:=b4g (hk k (by simp)) (hp p (by simp))
  simp only [List.zip_cons_cons,List.map_cons,List.sum_cons,zK,List.flatten_cons,zC]
  omega
theorem e9m {e:List Int} {n:Nat} (hn:e.length=n) (hw:∀ x∈e,a2e x):(a7j e n).length<=4+(160+65*n):=by
 have hb:=a7u (n:=n) (warm:=0) (most:=4) (by omega) e
 have ac:=a9y hb.1.1
 have ab:=a7o hb.1.1
 have aa:=c2u (a1q (a1f n 0 4 e).order n 0) e (by omega)
 unfold a7j
 rw [e1j]
 unfold a9m
 have h1:=c2w (a1f n 0 4 e).ks (a1k (a1q (a1f n 0 4 e).order n 0) e) (c1e e) (fun p hp x hx=>hw x (by rw [<-aa];exact List.mem_flatten.2 ⟨p,hp,hx⟩))
 rw [a5h,aa,ab] at h1
 have h2:2^(a1f n 0 4 e).order<=2^4:=Nat.pow_le_pow_right (by decide) hb.2.2
 omega
theorem c2y {lens:List Nat} (hle:∀ x∈lens,x<=24):∀ (l:List Nat),(a1z lens l).length<=24*l.length
 | []=>by simp [a1z]
 | s::l=>by
  have h:=c2y hle l
  have e:a1z lens (s::l)=b2f lens s++a1z lens l:=rfl
  have h2:a0g lens s<=24:=by
   unfold a0g
   rw [zD]
   cases hx:lens[s]? with
   | none=>simp
   | some x=>exact hle x (List.mem_of_getElem? hx)
  rw [e,zC,b4l,zK]
  omega
theorem c4k (l:List Int) {W H d:Nat} (h0:1<=d) (h1:d<=16) (hW:W<=16) (hH:H<=16):0<(a0e 2 l W H d).length/\(a0e 2 l W H d).length<200000:=by
 have e:a0e 2 l W H d=a0b 2 3++(a1v (a6p l W H d) 4++a7j (a8w l W H d) (W*H)):=rfl
 have hp:=e9m (c0u l W H d) (b6v l W H d h0 h1)
 have hm:W*H<=16*16:=zL hW hH
 rw [e,zC,zC,a0a,c6c,b7a]
 omega
theorem b9f (l:List Int) {W H d:Nat} (h0:1<=d) (h1:d<=16) (hW:W<=16) (hH:H<=16):0<(a0e 3 l W H d).length/\(a0e 3 l W H d).length<200000:=by
 have e:a0e 3 l W H d=a0b 3 3++a1c l W d (W*H):=rfl
 have hp:=b0n l W h0 h1 (by have:=Nat.pow_le_pow_right (n:=2) (by decide) h1;have e:((2^d:Nat):Int)=(2:Int)^d:=(by simp);omega) (W*H)
 have hm:W*H<=16*16:=zL hW hH
 rw [e,zC,a0a]
 omega
theorem c2z (l:List Int) {W H d:Nat} (h1:d<=16) (hl:l.length<=256):0<(a0e 4 l W H d).length/\(a0e 4 l W H d).length<200000:=by
 have e:a0e 4 l W H d=a0b 4 3++a3h (a5z l (d+1) 12) W d:=rfl
 have hp:=c7f (a5z l (d+1) 12) W d h1
 have hm:=b7c l (d+1) 12
 rw [e,zC,a0a]
 omega
theorem c4j {k:Nat} (hk:k<=7) {l:List Int} {W H d:Nat} (hw0:1<=W) (hh0:1<=H) (h0:1<=d) (h1:d<=16) (hW:W<=16) (hH:H<=16) (hl:l.length=W*H) (hm:a7a k l W d=true) :
  0<(a0e k l W H d).length/\(a0e k l W H d).length<200000:=by
 have aa:W*H<=16*16:=zL hW hH
 have ab:0<W*H:=Nat.mul_pos hw0 hh0
 rcases (show k=0\/k=1\/k=2\/k=3\/k=4\/k=5\/k=6\/k=7 by omega) with rfl | rfl | rfl | rfl | rfl | rfl | rfl | rfl
 ·have e:a0e 0 l W H d=a0b 0 3++a0b (l.getD 0 0).toNat d:=rfl
  rw [e,zC,a0a,a0a];omega
 ·have e:a0e 1 l W H d=a0b 1 3++a1v l d:=rfl
  rw [e,zC,a0a,c6c,hl]
  have:=zL h1 aa
  omega
 ·exact c4k l h0 h1 hW hH
 ·exact b9f l h0 h1 hW hH
 ·exact c2z l h1 (by omega)
 ·have e:a0e 5 l W H d=a0b 5 3++(a0b (a5w l W d).length 16++(a5w l W d).flatMap fun x=>a0b x 8):=rfl
  have hr:=b4i l W h0 h1
  have h8:∀ R:List Nat,(R.flatMap fun x=>a0b x 8).length=8*R.length:=by
   intro R
   induction R with
   | nil=>rfl
   | cons x R ih=>rw [List.flatMap_cons,zC,a0a,ih,zK];omega
  rw [e,zC,zC,a0a,a0a,h8]
  omega
 ·have e:a0e 6 l W H d=a0b 6 3++(a0b ((a2g l).length-1) 4++a1v (a2g l) d++a1v (e0y l) (a9i (a2g l).length)):=rfl
  have hd:(a2g l).length<=16:=by simpa [a7a] using hm
  have hb:=c6g hd
  have h3:=zL h1 hd
  have h4:a9i (a2g l).length*l.length<=4*(16*16):=zL hb (by omega)
  rw [e,zC,zC,zC,a0a,a0a,c6c,c6c,d6g]
  omega
 ·have e:a0e 7 l W H d=a0b 7 3++(a3u (a6i l W d)++a1z (a6i l W d) (a1w l W d)):=rfl
  have ac:b3k (a1w l W d)<256:=by simpa [a7a] using hm
  obtain ⟨hf,-⟩:=e4u (l:=l) (W:=W) (d:=d) (by omega) ac
  have h2:=b0s (a6i l W d)
  have h3:=c2y hf.le (a1w l W d)
  have h4:=hf.n2
  rw [a7y] at h3
  rw [e,zC,zC,a0a]
  omega
structure e6s where
 l:List Int
 W:Nat
 H:Nat
 d:Nat
 k:Nat
structure e6s.Ok (t:e6s):Prop where
 w0:1<=t.W
 w1:t.W<=16
 h0:1<=t.H
 h1:t.H<=16
 d0:1<=t.d
 d1:t.d<=16
 len:t.l.length=t.W*t.H
 smp:a1u t.d t.l
 k7:t.k<=7
 may:a7a t.k t.l t.W t.d=true
def e6s.bits (t:e6s):List Nat:=a0e t.k t.l t.W t.H t.d
end Go.Proofs.YtepjepkgcdfboaaGreatDoor
