/- tile.Get of the kinds 1 to 7 by its contract. Printed by wip/mktget.py. -/
import Derived.Test.YtepjepkgcdfboaaGreatDoorMg33
import Derived.Test.YtepjepkgcdfboaaGreatDoorMg36
set_option linter.unusedVariables false
set_option linter.unusedSimpArgs false
set_option maxHeartbeats 1000000
set_option maxRecDepth 100000
namespace Go.Proofs.YtepjepkgcdfboaaGreatDoor
open Go.RowKit
section
variable {w:World} {b:Nat} {F ds:List Nat} {p:Nat} {l:List Int} {W H d:Nat} (h:IsRd w b F ds p) (hw0:1<=W) (hw1:W<=16) (hh0:1<=H) (hh1:H<=16) (h0:1<=d) (h1:d<=16) (hl:l.length=W*H) (hs:SmpOk d l)
include h hw0 hw1 hh0 hh1 h0 h1 hl hs
theorem tget_1 (ha:Ahead ds p (tileBits 1 l W H d)) :
  Calls Tryz.prog 135 #[.pointer (some ⟨b,0,none⟩),.int .i64 W,.int .i64 H,.int .i64 d] w (GetPost w b F ds p l (tileBits 1 l W H d).length):=by
 have aj:=isSize_yes W H d w hw0 hw1 hh0 hh1 h0 h1
 have ac:=zL hw1 hh1
 have ab:tileBits 1 l W H d=bitsOf 1 3++allOf l d:=rfl
 have ag:(tileBits 1 l W H d).length=3+(allOf l d).length:=by rw [ab,zC,bitsOf_len]
 rw [ag]
 rw [ab] at ha
 have ad:=ha.right
 rw [bitsOf_len] at ad
 have al:=rget_ahead w b F ds p 3 1 h (by omega) (by decide) ha.left
 have aa:=fun w' (hr:IsRd w' b F ds (p+3)) (hc:Chg [b] w w')=>getAll_ok w' b F ds (p+3) d l hr h1 hs (by rw [hl];exact Nat.le_trans ac (by decide)) ad
 obtain ⟨n,hn⟩:=zX (W*H)
 have ao:(W:Int)*(H:Int)=(n:Int):=by rw [hn];simp
 have an:n<=256:=by rw [hn];exact ac
 rw [hl,<-hn] at aa
 have am:=hid aa
 unfold GetPost
 generalize (allOf l d).length=q at *
 clear hn ab ag ha ad hs hl aa ac
 go_enter Tryz.func135,Tryz.ntmps135
 go_wp2_with (go_at_call 109;refine aj.mono ?_;rintro e w' ⟨rfl,rfl⟩)
 refine al.mono ?_
 rintro e w1 ⟨rfl,ah,ae⟩
 have aa:=am.out w1 ah ae
 go_wp2_with (go_at_call 69;refine (err_ok _ b F ds _ ah).mono ?_;rintro e w' ⟨rfl,rfl⟩)
 refine aa.mono ?_
 rintro e w2 ⟨v,g,rfl,af,ai,ak,hg⟩
 clear aa
 go_wp2_with (go_at_call 69;refine (err_ok _ b F ds _ ai).mono ?_;rintro e w' ⟨rfl,rfl⟩)
 go_ret2
 exact ⟨v,[g],rfl,af.toOwn,ai.cast (by omega),ae.trans_same ak,by have:=ae.size;simp;omega⟩
theorem tget_2 (ha:Ahead ds p (tileBits 2 l W H d)) :
  Calls Tryz.prog 135 #[.pointer (some ⟨b,0,none⟩),.int .i64 W,.int .i64 H,.int .i64 d] w (GetPost w b F ds p l (tileBits 2 l W H d).length):=by
 have aj:=isSize_yes W H d w hw0 hw1 hh0 hh1 h0 h1
 have ag:=zL hw1 hh1
 have ab:tileBits 2 l W H d=bitsOf 2 3++guessedBits l W H d:=rfl
 have af:(tileBits 2 l W H d).length=3+(guessedBits l W H d).length:=by rw [ab,zC,bitsOf_len]
 rw [af]
 rw [ab] at ha
 have ac:=ha.right
 rw [bitsOf_len] at ac
 have al:=rget_ahead w b F ds p 3 2 h (by omega) (by decide) ha.left
 have aa:=fun w' (hr:IsRd w' b F ds (p+3)) (hc:Chg [b] w w')=>getGuessed_ok w' b F ds (p+3) l W H d hr hw0 hw1 hh0 hh1 h0 h1 hl hs ac
 obtain ⟨n,hn⟩:=zX (W*H)
 have ao:(W:Int)*(H:Int)=(n:Int):=by rw [hn];simp
 have an:n<=256:=by rw [hn];exact ag
 have am:=hid aa
 unfold GetPost
 generalize (guessedBits l W H d).length=q at *
 clear hn ab af ha ac hs hl aa ag
 go_enter Tryz.func135,Tryz.ntmps135
 go_wp2_with (go_at_call 109;refine aj.mono ?_;rintro e w' ⟨rfl,rfl⟩)
 refine al.mono ?_
 rintro e w1 ⟨rfl,ah,ad⟩
 have aa:=am.out w1 ah ad
 go_wp2_with (go_at_call 69;refine (err_ok _ b F ds _ ah).mono ?_;rintro e w' ⟨rfl,rfl⟩)
 refine aa.mono ?_
 rintro e w2 ⟨v,g,rfl,ae,ai,ak,hg⟩
 clear aa
 go_wp2_with (go_at_call 69;refine (err_ok _ b F ds _ ai).mono ?_;rintro e w' ⟨rfl,rfl⟩)
 go_ret2
 exact ⟨v,[g],rfl,ae.toOwn,ai.cast (by omega),ad.trans_same ak,by have:=ad.size;simp;omega⟩
theorem tget_3 (ha:Ahead ds p (tileBits 3 l W H d)) :
  Calls Tryz.prog 135 #[.pointer (some ⟨b,0,none⟩),.int .i64 W,.int .i64 H,.int .i64 d] w (GetPost w b F ds p l (tileBits 3 l W H d).length):=by
 have aj:=isSize_yes W H d w hw0 hw1 hh0 hh1 h0 h1
 have ag:=zL hw1 hh1
 have ab:tileBits 3 l W H d=bitsOf 3 3++modelBits l W d (W*H):=rfl
 have af:(tileBits 3 l W H d).length=3+(modelBits l W d (W*H)).length:=by rw [ab,zC,bitsOf_len]
 rw [af]
 rw [ab] at ha
 have ac:=ha.right
 rw [bitsOf_len] at ac
 have al:=rget_ahead w b F ds p 3 3 h (by omega) (by decide) ha.left
 have aa:=fun w' (hr:IsRd w' b F ds (p+3)) (hc:Chg [b] w w')=>mget_ok w' b F ds (p+3) l W H d hr hw0 (by omega) hh0 (by omega) h0 h1 hl hs ac
 obtain ⟨n,hn⟩:=zX (W*H)
 have ao:(W:Int)*(H:Int)=(n:Int):=by rw [hn];simp
 have an:n<=256:=by rw [hn];exact ag
 have am:=hid aa
 unfold GetPost
 generalize (modelBits l W d (W*H)).length=q at *
 clear hn ab af ha ac hs hl aa ag
 go_enter Tryz.func135,Tryz.ntmps135
 go_wp2_with (go_at_call 109;refine aj.mono ?_;rintro e w' ⟨rfl,rfl⟩)
 refine al.mono ?_
 rintro e w1 ⟨rfl,ah,ad⟩
 have aa:=am.out w1 ah ad
 go_wp2_with (go_at_call 69;refine (err_ok _ b F ds _ ah).mono ?_;rintro e w' ⟨rfl,rfl⟩)
 refine aa.mono ?_
 rintro e w2 ⟨v,g,rfl,ae,ai,ak,hg⟩
 clear aa
 go_wp2_with (go_at_call 69;refine (err_ok _ b F ds _ ai).mono ?_;rintro e w' ⟨rfl,rfl⟩)
 go_ret2
 exact ⟨v,[g],rfl,ae.toOwn,ai.cast (by omega),ad.trans_same ak,by have:=ad.size;simp;omega⟩
theorem tget_4 (hp:Pts w) (h0F:0∉F) (ha:Ahead ds p (tileBits 4 l W H d)) :
  Calls Tryz.prog 135 #[.pointer (some ⟨b,0,none⟩),.int .i64 W,.int .i64 H,.int .i64 d] w (GetPost w b F ds p l (tileBits 4 l W H d).length):=by
 have aj:=isSize_yes W H d w hw0 hw1 hh0 hh1 h0 h1
 have ac:=zL hw1 hh1
 have ab:tileBits 4 l W H d=bitsOf 4 3++matchBits (leastF l (d+1) 12) W d:=rfl
 have ag:(tileBits 4 l W H d).length=3+(matchBits (leastF l (d+1) 12) W d).length:=by rw [ab,zC,bitsOf_len]
 rw [ag]
 rw [ab] at ha
 have ad:=ha.right
 rw [bitsOf_len] at ad
 have al:=rget_ahead w b F ds p 3 4 h (by omega) (by decide) ha.left
 have aa:=fun w' (hr:IsRd w' b F ds (p+3)) (hc:Chg [b] w w')=>mtget_ok w' b F ds (p+3) l W d (leastF l (d+1) 12) hr (hp.chg hc (fun hm=>by simp at hm;exact h0F (hm ▸ h.mem))) h0F hw0 (by omega) h0 h1 (by rw [hl];exact Nat.le_trans ac (by decide)) (leastF_from l _ _) (leastF_tok hs _ _) ad
 obtain ⟨n,hn⟩:=zX (W*H)
 have ao:(W:Int)*(H:Int)=(n:Int):=by rw [hn];simp
 have an:n<=256:=by rw [hn];exact ac
 rw [hl,<-hn] at aa
 have am:=hid aa
 unfold GetPost
 generalize (matchBits (leastF l (d+1) 12) W d).length=q at *
 clear hn ab ag ha ad hs hl aa ac hp h0F
 go_enter Tryz.func135,Tryz.ntmps135
 go_wp2_with (go_at_call 109;refine aj.mono ?_;rintro e w' ⟨rfl,rfl⟩)
 refine al.mono ?_
 rintro e w1 ⟨rfl,ah,ae⟩
 have aa:=am.out w1 ah ae
 go_wp2_with (go_at_call 69;refine (err_ok _ b F ds _ ah).mono ?_;rintro e w' ⟨rfl,rfl⟩)
 refine aa.mono ?_
 rintro e w2 ⟨v,G,rfl,af,ai,ak,hg⟩
 clear aa
 go_wp2_with (go_at_call 69;refine (err_ok _ b F ds _ ai).mono ?_;rintro e w' ⟨rfl,rfl⟩)
 go_ret2
 exact ⟨v,G,rfl,af,ai.cast (by omega),ae.trans_same ak,fun x hx=>Nat.le_trans ae.size (hg x hx)⟩
theorem tget_5 (ha:Ahead ds p (tileBits 5 l W H d)) :
  Calls Tryz.prog 135 #[.pointer (some ⟨b,0,none⟩),.int .i64 W,.int .i64 H,.int .i64 d] w (GetPost w b F ds p l (tileBits 5 l W H d).length):=by
 have aj:=isSize_yes W H d w hw0 hw1 hh0 hh1 h0 h1
 have ag:=zL hw1 hh1
 have ab:tileBits 5 l W H d=bitsOf 5 3++rangedBits l W d:=rfl
 have af:(tileBits 5 l W H d).length=3+(rangedBits l W d).length:=by rw [ab,zC,bitsOf_len]
 rw [af]
 rw [ab] at ha
 have ac:=ha.right
 rw [bitsOf_len] at ac
 have al:=rget_ahead w b F ds p 3 5 h (by omega) (by decide) ha.left
 have aa:=fun w' (hr:IsRd w' b F ds (p+3)) (hc:Chg [b] w w')=>getRanged_ok w' b F ds (p+3) l W H d hr hw0 hw1 hh0 hh1 h0 h1 hl hs ac
 obtain ⟨n,hn⟩:=zX (W*H)
 have ao:(W:Int)*(H:Int)=(n:Int):=by rw [hn];simp
 have an:n<=256:=by rw [hn];exact ag
 have am:=hid aa
 unfold GetPost
 generalize (rangedBits l W d).length=q at *
 clear hn ab af ha ac hs hl aa ag
 go_enter Tryz.func135,Tryz.ntmps135
 go_wp2_with (go_at_call 109;refine aj.mono ?_;rintro e w' ⟨rfl,rfl⟩)
 refine al.mono ?_
 rintro e w1 ⟨rfl,ah,ad⟩
 have aa:=am.out w1 ah ad
 go_wp2_with (go_at_call 69;refine (err_ok _ b F ds _ ah).mono ?_;rintro e w' ⟨rfl,rfl⟩)
 refine aa.mono ?_
 rintro e w2 ⟨v,g,rfl,ae,ai,ak,hg⟩
 clear aa
 go_wp2_with (go_at_call 69;refine (err_ok _ b F ds _ ai).mono ?_;rintro e w' ⟨rfl,rfl⟩)
 go_ret2
 exact ⟨v,[g],rfl,ae.toOwn,ai.cast (by omega),ad.trans_same ak,by have:=ad.size;simp;omega⟩
theorem tget_6 (hm:mayB 6 l W d=true) (ha:Ahead ds p (tileBits 6 l W H d)) :
  Calls Tryz.prog 135 #[.pointer (some ⟨b,0,none⟩),.int .i64 W,.int .i64 H,.int .i64 d] w (GetPost w b F ds p l (tileBits 6 l W H d).length):=by
 have aj:=isSize_yes W H d w hw0 hw1 hh0 hh1 h0 h1
 have ac:=zL hw1 hh1
 have ab:tileBits 6 l W H d=bitsOf 6 3++colouredBits l d:=rfl
 have ag:(tileBits 6 l W H d).length=3+(colouredBits l d).length:=by rw [ab,zC,bitsOf_len]
 rw [ag]
 rw [ab] at ha
 have ad:=ha.right
 rw [bitsOf_len] at ad
 have al:=rget_ahead w b F ds p 3 6 h (by omega) (by decide) ha.left
 have aa:=fun w' (hr:IsRd w' b F ds (p+3)) (hc:Chg [b] w w')=>getColoured_ok w' b F ds (p+3) l d hr h0 h1 (by rw [hl];exact Nat.mul_pos hw0 hh0) (by rw [hl];exact ac) hs (by simpa [mayB] using hm) ad
 obtain ⟨n,hn⟩:=zX (W*H)
 have ao:(W:Int)*(H:Int)=(n:Int):=by rw [hn];simp
 have an:n<=256:=by rw [hn];exact ac
 rw [hl,<-hn] at aa
 have am:=hid aa
 unfold GetPost
 generalize (colouredBits l d).length=q at *
 clear hn ab ag ha ad hs hl aa ac hm
 go_enter Tryz.func135,Tryz.ntmps135
 go_wp2_with (go_at_call 109;refine aj.mono ?_;rintro e w' ⟨rfl,rfl⟩)
 refine al.mono ?_
 rintro e w1 ⟨rfl,ah,ae⟩
 have aa:=am.out w1 ah ae
 go_wp2_with (go_at_call 69;refine (err_ok _ b F ds _ ah).mono ?_;rintro e w' ⟨rfl,rfl⟩)
 refine aa.mono ?_
 rintro e w2 ⟨v,g,rfl,af,ai,ak,hg⟩
 clear aa
 go_wp2_with (go_at_call 69;refine (err_ok _ b F ds _ ai).mono ?_;rintro e w' ⟨rfl,rfl⟩)
 go_ret2
 exact ⟨v,[g],rfl,af.toOwn,ai.cast (by omega),ae.trans_same ak,by have:=ae.size;simp;omega⟩
theorem tget_7 (hm:mayB 7 l W d=true) (ha:Ahead ds p (tileBits 7 l W H d)) :
  Calls Tryz.prog 135 #[.pointer (some ⟨b,0,none⟩),.int .i64 W,.int .i64 H,.int .i64 d] w (GetPost w b F ds p l (tileBits 7 l W H d).length):=by
 have aj:=isSize_yes W H d w hw0 hw1 hh0 hh1 h0 h1
 have ag:=zL hw1 hh1
 have ab:tileBits 7 l W H d=bitsOf 7 3++prefBits l W d:=rfl
 have af:(tileBits 7 l W H d).length=3+(prefBits l W d).length:=by rw [ab,zC,bitsOf_len]
 rw [af]
 rw [ab] at ha
 have ac:=ha.right
 rw [bitsOf_len] at ac
 have al:=rget_ahead w b F ds p 3 7 h (by omega) (by decide) ha.left
 have aa:=fun w' (hr:IsRd w' b F ds (p+3)) (hc:Chg [b] w w')=>getPrefixed_ok w' b F ds (p+3) l W H d hr hw0 hw1 hh0 hh1 h0 h1 hl hs (by simpa [mayB] using hm) ac
 obtain ⟨n,hn⟩:=zX (W*H)
 have ao:(W:Int)*(H:Int)=(n:Int):=by rw [hn];simp
 have an:n<=256:=by rw [hn];exact ag
 have am:=hid aa
 unfold GetPost
 generalize (prefBits l W d).length=q at *
 clear hn ab af ha ac hs hl aa ag hm
 go_enter Tryz.func135,Tryz.ntmps135
 go_wp2_with (go_at_call 109;refine aj.mono ?_;rintro e w' ⟨rfl,rfl⟩)
 refine al.mono ?_
 rintro e w1 ⟨rfl,ah,ad⟩
 have aa:=am.out w1 ah ad
 go_wp2_with (go_at_call 69;refine (err_ok _ b F ds _ ah).mono ?_;rintro e w' ⟨rfl,rfl⟩)
 refine aa.mono ?_
 rintro e w2 ⟨v,g,rfl,ae,ai,ak,hg⟩
 clear aa
 go_wp2_with (go_at_call 69;refine (err_ok _ b F ds _ ai).mono ?_;rintro e w' ⟨rfl,rfl⟩)
 go_ret2
 exact ⟨v,[g],rfl,ae.toOwn,ai.cast (by omega),ad.trans_same ak,by have:=ad.size;simp;omega⟩
theorem tget_all {k:Nat} (hk:k<=7) (hp:Pts w) (h0F:0∉F) (hm:mayB k l W d=true) (ha:Ahead ds p (tileBits k l W H d)) :
  Calls Tryz.prog 135 #[.pointer (some ⟨b,0,none⟩),.int .i64 W,.int .i64 H,.int .i64 d] w (GetPost w b F ds p l (tileBits k l W H d).length):=by
 rcases (show k=0\/k=1\/k=2\/k=3\/k=4\/k=5\/k=6\/k=7 by omega) with rfl | rfl | rfl | rfl | rfl | rfl | rfl | rfl
 ·exact tget_flat h hw0 hw1 hh0 hh1 h0 h1 hl hs hm ha
 ·exact tget_1 h hw0 hw1 hh0 hh1 h0 h1 hl hs ha
 ·exact tget_2 h hw0 hw1 hh0 hh1 h0 h1 hl hs ha
 ·exact tget_3 h hw0 hw1 hh0 hh1 h0 h1 hl hs ha
 ·exact tget_4 h hw0 hw1 hh0 hh1 h0 h1 hl hs hp h0F ha
 ·exact tget_5 h hw0 hw1 hh0 hh1 h0 h1 hl hs ha
 ·exact tget_6 h hw0 hw1 hh0 hh1 h0 h1 hl hs hm ha
 ·exact tget_7 h hw0 hw1 hh0 hh1 h0 h1 hl hs hm ha
end
theorem sum_cost_le:∀ (ks:List Nat) (ps:List (List Int)),KsOk ks->(∀ p∈ps,∀ x∈p,wideP x)->((ks.zip ps).map (fun p=>partCost p.1 p.2)).sum<=10*ps.length+65*ps.flatten.length
 | [],ps,_,_=>by simp
 | k::ks,[],_,_=>by simp
 | k::ks,p::ps,hk,hp=>by
  have h1:=sum_cost_le ks ps (fun x hx=>hk x (by simp [hx])) (fun q hq=>hp q (by simp [hq]))
  have h2:=partCost_le (hk k (by simp)) (hp p (by simp))
  simp only [List.zip_cons_cons,List.map_cons,List.sum_cons,zK,List.flatten_cons,zC]
  omega
theorem plan_len {e:List Int} {n:Nat} (hn:e.length=n) (hw:∀ x∈e,wideP x):(planBits e n).length<=4+(160+65*n):=by
 have hb:=bestPlan_ok (n:=n) (warm:=0) (most:=4) (by omega) e
 have ac:=sizesL_sum hb.1.1
 have ab:=sizesL_len hb.1.1
 have aa:=splitL_flat (sizesL (bestPlan n 0 4 e).order n 0) e (by omega)
 unfold planBits
 rw [bitsP_len]
 unfold costP
 have h1:=sum_cost_le (bestPlan n 0 4 e).ks (splitL (sizesL (bestPlan n 0 4 e).order n 0) e) (ksOk_best e) (fun p hp x hx=>hw x (by rw [<-aa];exact List.mem_flatten.2 ⟨p,hp,hx⟩))
 rw [splitL_len,aa,ab] at h1
 have h2:2^(bestPlan n 0 4 e).order<=2^4:=Nat.pow_le_pow_right (by decide) hb.2.2
 omega
theorem symsBits_le {lens:List Nat} (hle:∀ x∈lens,x<=24):∀ (l:List Nat),(symsBits lens l).length<=24*l.length
 | []=>by simp [symsBits]
 | s::l=>by
  have h:=symsBits_le hle l
  have e:symsBits lens (s::l)=symBits lens s++symsBits lens l:=rfl
  have h2:lenAt lens s<=24:=by
   unfold lenAt
   rw [zD]
   cases hx:lens[s]? with
   | none=>simp
   | some x=>exact hle x (List.mem_of_getElem? hx)
  rw [e,zC,symBits_len,zK]
  omega
theorem tile_two_small (l:List Int) {W H d:Nat} (h0:1<=d) (h1:d<=16) (hW:W<=16) (hH:H<=16):0<(tileBits 2 l W H d).length/\(tileBits 2 l W H d).length<200000:=by
 have e:tileBits 2 l W H d=bitsOf 2 3++(allOf (kindsI l W H d) 4++planBits (foreF l W H d) (W*H)):=rfl
 have hp:=plan_len (foreF_len l W H d) (foreF_wide l W H d h0 h1)
 have hm:W*H<=16*16:=zL hW hH
 rw [e,zC,zC,bitsOf_len,all_len,kindsI_len]
 omega
theorem tile_three_small (l:List Int) {W H d:Nat} (h0:1<=d) (h1:d<=16) (hW:W<=16) (hH:H<=16):0<(tileBits 3 l W H d).length/\(tileBits 3 l W H d).length<200000:=by
  have e:tileBits 3 l W H d=bitsOf 3 3++modelBits l W d (W*H):=rfl
  have hp := modelBits_len l W h0 h1 (by have := Nat.pow_le_pow_right (n := 2) (by decide) h1; have e : ((2 ^ d : Nat) : Int) = (2 : Int) ^ d := by simp
                                         omega) (W*H)
  have hm:W*H<=16*16:=zL hW hH
  rw [e,zC,bitsOf_len]
  omega
theorem tile_four_small (l:List Int) {W H d:Nat} (h1:d<=16) (hl:l.length<=256):0<(tileBits 4 l W H d).length/\(tileBits 4 l W H d).length<200000:=by
 have e:tileBits 4 l W H d=bitsOf 4 3++matchBits (leastF l (d+1) 12) W d:=rfl
 have hp:=matchBits_len (leastF l (d+1) 12) W d h1
 have hm:=leastF_len l (d+1) 12
 rw [e,zC,bitsOf_len]
 omega
theorem tile_len_small {k:Nat} (hk:k<=7) {l:List Int} {W H d:Nat} (hw0:1<=W) (hh0:1<=H) (h0:1<=d) (h1:d<=16) (hW:W<=16) (hH:H<=16) (hl:l.length=W*H) (hm:mayB k l W d=true) :
  0<(tileBits k l W H d).length/\(tileBits k l W H d).length<200000:=by
 have aa:W*H<=16*16:=zL hW hH
 have ac:0<W*H:=Nat.mul_pos hw0 hh0
 rcases (show k=0\/k=1\/k=2\/k=3\/k=4\/k=5\/k=6\/k=7 by omega) with rfl | rfl | rfl | rfl | rfl | rfl | rfl | rfl
 ·have e:tileBits 0 l W H d=bitsOf 0 3++bitsOf (l.getD 0 0).toNat d:=rfl
  rw [e,zC,bitsOf_len,bitsOf_len];omega
 ·have e:tileBits 1 l W H d=bitsOf 1 3++allOf l d:=rfl
  rw [e,zC,bitsOf_len,all_len,hl]
  have:=zL h1 aa
  omega
 ·exact tile_two_small l h0 h1 hW hH
 ·exact tile_three_small l h0 h1 hW hH
 ·exact tile_four_small l h1 (by omega)
 ·have e:tileBits 5 l W H d=bitsOf 5 3++(bitsOf (rangedL l W d).length 16++(rangedL l W d).flatMap fun x=>bitsOf x 8):=rfl
  have hr:=rangedL_len l W h0 h1
  have h8:∀ R:List Nat,(R.flatMap fun x=>bitsOf x 8).length=8*R.length:=by
   intro R
   induction R with
   | nil=>rfl
   | cons x R ih=>rw [List.flatMap_cons,zC,bitsOf_len,ih,zK];omega
  rw [e,zC,zC,bitsOf_len,bitsOf_len,h8]
  omega
 ·have e:tileBits 6 l W H d=bitsOf 6 3++(bitsOf ((diffL l).length-1) 4++allOf (diffL l) d++allOf (idxL l) (bitsN (diffL l).length)):=rfl
  have hd:(diffL l).length<=16:=by simpa [mayB] using hm
  have hb:=bitsN_le hd
  have h3:=zL h1 hd
  have h4:bitsN (diffL l).length*l.length<=4*(16*16):=zL hb (by omega)
  rw [e,zC,zC,zC,bitsOf_len,bitsOf_len,all_len,all_len,idxL_len]
  omega
 ·have e:tileBits 7 l W H d=bitsOf 7 3++(tableBits (prefLens l W d)++symsBits (prefLens l W d) (foldedN l W d)):=rfl
  have ab:maxN (foldedN l W d)<256:=by simpa [mayB] using hm
  obtain ⟨hf,-⟩:=pref_ok (l:=l) (W:=W) (d:=d) (by omega) ab
  have h2:=tableBits_len (prefLens l W d)
  have h3:=symsBits_le hf.le (foldedN l W d)
  have h4:=hf.n2
  rw [foldedN_len] at h3
  rw [e,zC,zC,bitsOf_len]
  omega
structure TileD where
 l:List Int
 W:Nat
 H:Nat
 d:Nat
 k:Nat
structure TileD.Ok (t:TileD):Prop where
 w0:1<=t.W
 w1:t.W<=16
 h0:1<=t.H
 h1:t.H<=16
 d0:1<=t.d
 d1:t.d<=16
 len:t.l.length=t.W*t.H
 smp:SmpOk t.d t.l
 k7:t.k<=7
 may:mayB t.k t.l t.W t.d=true
def TileD.bits (t:TileD):List Nat:=tileBits t.k t.l t.W t.H t.d
end Go.Proofs.YtepjepkgcdfboaaGreatDoor
