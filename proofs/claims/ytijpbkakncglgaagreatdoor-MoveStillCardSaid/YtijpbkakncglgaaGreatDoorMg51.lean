/- known() of the move law by its contract. -/
import Derived.Test.YtijpbkakncglgaaGreatDoorMg49
import Derived.Test.YtijpbkakncglgaaGreatDoorMg52
set_option linter.unusedVariables false
set_option linter.unusedSimpArgs false
set_option maxHeartbeats 4000000
set_option maxRecDepth 100000
namespace Go.Proofs.YtijpbkakncglgaaGreatDoor
open Go.RowKit
theorem mknown_ok (w:World) (hp:Pts w):Calls Tryz.prog 12 #[] w fun e w'=>e=.returned (.bool true)∧Chg [] w w':=by
 obtain ⟨u1,hu1⟩:∃ u,u=w.alloc (.cells #[.int .i64 7,.int .i64 0,.int .i64 0] 3):=⟨_,rfl⟩
 obtain ⟨u2,hu2⟩:∃ u,u=u1.alloc (.cells #[.slice (some ⟨w.heap.size,0,none⟩) 3 3] 22):=⟨_,rfl⟩
 obtain ⟨u3,hu3⟩:∃ u,u=u2.alloc (.cells #[.int .i64 3,.int .i64 1,.int .i64 4,.slice (some ⟨w.heap.size+1,0,none⟩) 1 1] 25):=⟨_,rfl⟩
 obtain ⟨u4,hu4⟩:∃ u,u=u3.alloc (.cells #[.int .i64 0,.int .i64 7,.int .i64 0] 3):=⟨_,rfl⟩
 obtain ⟨u5,hu5⟩:∃ u,u=u4.alloc (.cells #[.slice (some ⟨w.heap.size+1+1+1,0,none⟩) 3 3] 22):=⟨_,rfl⟩
 obtain ⟨u6,hu6⟩:∃ u,u=u5.alloc (.cells #[.int .i64 3,.int .i64 1,.int .i64 4,.slice (some ⟨w.heap.size+1+1+1+1,0,none⟩) 1 1] 25):=⟨_,rfl⟩
 have z1:u1.heap.size=w.heap.size+1:=by rw [hu1,alloc_size]
 have z2:u2.heap.size=w.heap.size+1+1:=by rw [hu2,alloc_size,z1]
 have z3:u3.heap.size=w.heap.size+1+1+1:=by rw [hu3,alloc_size,z2]
 have z4:u4.heap.size=w.heap.size+1+1+1+1:=by rw [hu4,alloc_size,z3]
 have z5:u5.heap.size=w.heap.size+1+1+1+1+1:=by rw [hu5,alloc_size,z4]
 have z6:u6.heap.size=w.heap.size+1+1+1+1+1+1:=by rw [hu6,alloc_size,z5]
 have c1:Chg [] w u1:=by rw [hu1];exact (Chg.refl [] w).alloc _
 have c2:Chg [] u1 u2:=by rw [hu2];exact (Chg.refl [] u1).alloc _
 have c3:Chg [] u2 u3:=by rw [hu3];exact (Chg.refl [] u2).alloc _
 have c4:Chg [] u3 u4:=by rw [hu4];exact (Chg.refl [] u3).alloc _
 have c5:Chg [] u4 u5:=by rw [hu5];exact (Chg.refl [] u4).alloc _
 have c6:Chg [] u5 u6:=by rw [hu6];exact (Chg.refl [] u5).alloc _
 have b1:Blk u6 (w.heap.size) 3 (#[.int .i64 7,.int .i64 0,.int .i64 0]):=((((((show Blk u1 (w.heap.size) 3 (#[.int .i64 7,.int .i64 0,.int .i64 0]) from by rw [hu1];exact Blk.new _ _ _).chg c2 (by simp)).chg c3 (by simp)).chg c4 (by simp)).chg c5 (by simp)).chg c6 (by simp))
 have b2:Blk u6 (w.heap.size+1) 22 (#[.slice (some ⟨w.heap.size,0,none⟩) 3 3]):=(((((show Blk u2 (w.heap.size+1) 22 (#[.slice (some ⟨w.heap.size,0,none⟩) 3 3]) from by rw [hu2,←z1];exact Blk.new _ _ _).chg c3 (by simp)).chg c4 (by simp)).chg c5 (by simp)).chg c6 (by simp))
 have b3:Blk u6 (w.heap.size+1+1) 25 (#[.int .i64 3,.int .i64 1,.int .i64 4,.slice (some ⟨w.heap.size+1,0,none⟩) 1 1]):=((((show Blk u3 (w.heap.size+1+1) 25 (#[.int .i64 3,.int .i64 1,.int .i64 4,.slice (some ⟨w.heap.size+1,0,none⟩) 1 1]) from by rw [hu3,←z2];exact Blk.new _ _ _).chg c4 (by simp)).chg c5 (by simp)).chg c6 (by simp))
 have b4:Blk u6 (w.heap.size+1+1+1) 3 (#[.int .i64 0,.int .i64 7,.int .i64 0]):=(((show Blk u4 (w.heap.size+1+1+1) 3 (#[.int .i64 0,.int .i64 7,.int .i64 0]) from by rw [hu4,←z3];exact Blk.new _ _ _).chg c5 (by simp)).chg c6 (by simp))
 have b5:Blk u6 (w.heap.size+1+1+1+1) 22 (#[.slice (some ⟨w.heap.size+1+1+1,0,none⟩) 3 3]):=((show Blk u5 (w.heap.size+1+1+1+1) 22 (#[.slice (some ⟨w.heap.size+1+1+1,0,none⟩) 3 3]) from by rw [hu5,←z4];exact Blk.new _ _ _).chg c6 (by simp))
 have b6:Blk u6 (w.heap.size+1+1+1+1+1) 25 (#[.int .i64 3,.int .i64 1,.int .i64 4,.slice (some ⟨w.heap.size+1+1+1+1,0,none⟩) 1 1]):=(show Blk u6 (w.heap.size+1+1+1+1+1) 25 (#[.int .i64 3,.int .i64 1,.int .i64 4,.slice (some ⟨w.heap.size+1+1+1+1,0,none⟩) 1 1]) from by rw [hu6,←z5];exact Blk.new _ _ _)
 have hC6:Chg [] w u6:=(((((c1.trans_same c2).trans_same c3).trans_same c4).trans_same c5).trans_same c6)
 have hA:PicAt u6 pA (w.heap.size+1) 0 (fun _=>some ⟨w.heap.size,0,none⟩) (fun _=>3) [w.heap.size,w.heap.size+1]:=lit_at rfl pA_ok b1 b2
 have hB:PicAt u6 pB (w.heap.size+1+1+1+1) 0 (fun _=>some ⟨w.heap.size+1+1+1,0,none⟩) (fun _=>3) [w.heap.size+1+1+1,w.heap.size+1+1+1+1]:=lit_at rfl pB_ok b4 b5
 have hbox:∀ wz,Chg [] u6 wz→(wz.cell? ⟨w.heap.size+1+1,0,none⟩=some (.int .i64 3)∧wz.cell? ⟨w.heap.size+1+1,1,none⟩=some (.int .i64 1)∧wz.cell? ⟨w.heap.size+1+1,2,none⟩=some (.int .i64 4)∧wz.cell? ⟨w.heap.size+1+1,3,none⟩=some (.slice (some ⟨w.heap.size+1,0,none⟩) 1 1)) ∧
   (wz.cell? ⟨w.heap.size+1+1+1+1+1,0,none⟩=some (.int .i64 3)∧wz.cell? ⟨w.heap.size+1+1+1+1+1,1,none⟩=some (.int .i64 1)∧wz.cell? ⟨w.heap.size+1+1+1+1+1,2,none⟩=some (.int .i64 4)∧wz.cell? ⟨w.heap.size+1+1+1+1+1,3,none⟩=some (.slice (some ⟨w.heap.size+1+1+1+1,0,none⟩) 1 1)):=fun wz hz =>
  ⟨⟨(b3.chg hz (by simp)).cell 0,(b3.chg hz (by simp)).cell 1,(b3.chg hz (by simp)).cell 2,(b3.chg hz (by simp)).cell 3⟩,⟨(b6.chg hz (by simp)).cell 0,(b6.chg hz (by simp)).cell 1,(b6.chg hz (by simp)).cell 2,(b6.chg hz (by simp)).cell 3⟩⟩
 have enA:=fun wz (hz:Chg [] u6 wz)=>kn_encA (hA.same hz) ((hp.same hC6).same hz)
 have enB:=fun wz (hz:Chg [] u6 wz)=>kn_encB (hA.same hz) (hB.same hz) ((hp.same hC6).same hz)
 have deA:=fun wz (hz:Chg [] u6 wz) (A:Option Addr) (capA:Nat) (ms:List (Int × Int)) h1 h2 h3 h4 h5 h6=>kn_decA (hA.same hz) ((hp.same hC6).same hz) (A:=A) (capA:=capA) (ms:=ms) h1 h2 h3 h4 h5 h6
 have deB:=fun wz (hz:Chg [] u6 wz) (A:Option Addr) (capA:Nat) (ms:List (Int × Int)) h3 h4 h5 h6=>kn_decB (hB.same hz) (A:=A) (capA:=capA) (ms:=ms) h3 h4 h5 h6
 have seA:=fun wz (hz:Chg [] u6 wz)=>kn_search (hA.same hz) (hB.same hz)
 have alA:=fun wz (hz:Chg [] u6 wz)=>kn_alike (hA.same hz) (hB.same hz)
 have alZ:=fun wz (hz:Chg [] u6 wz)=>kn_none (hA.same hz)
 have saB:=fun wz gP capP xs gs (hz:Chg [] u6 wz) (ho:PicOwn wz pB gP capP xs gs)=>kn_same ho (hB.same hz)
 unfold litV at enA enB deA deB seA alA alZ saB
 have HW6:Hid (u6=(((((w.alloc (.cells #[.int .i64 7,.int .i64 0,.int .i64 0] 3)).alloc (.cells #[.slice (some ⟨w.heap.size,0,none⟩) 3 3] 22)).alloc (.cells #[.int .i64 3,.int .i64 1,.int .i64 4,.slice (some ⟨w.heap.size+1,0,none⟩) 1 1] 25)).alloc (.cells #[.int .i64 0,.int .i64 7,.int .i64 0] 3)).alloc (.cells #[.slice (some ⟨w.heap.size+1+1+1,0,none⟩) 3 3] 22)).alloc (.cells #[.int .i64 3,.int .i64 1,.int .i64 4,.slice (some ⟨w.heap.size+1+1+1+1,0,none⟩) 1 1] 25)):=hid (by rw [hu6,hu5,hu4,hu3,hu2,hu1])
 have HC6:=hid hC6
 have HBOX:=hid hbox
 have HENA:=hid enA
 have HENB:=hid enB
 have HDEA:=hid deA
 have HDEB:=hid deB
 have HSEA:=hid seA
 have HALA:=hid alA
 have HALZ:=hid alZ
 have HSAB:=hid saB
 clear hu1 hu2 hu3 hu4 hu5 hu6 z1 z2 z3 z4 z5 z6 c1 c2 c3 c4 c5 c6 b1 b2 b3 b4 b5 b6 hC6 hA hB hbox enA enB deA deB seA alA alZ saB hp
 go_enter Tryz.func12,Tryz.ntmps12
 go_wp2_with fail
 rw [←HW6.out]
 refine (HENA.out u6 (Chg.refl _ _)).mono ?_
 rintro e w7 ⟨v3,G3,ms3,rfl,own3,hl3,hb3,ch7,hG3,hm3⟩
 have HC7:=hid ch7
 obtain ⟨⟨a0,a1,a2,a3⟩,⟨d0,d1,d2,d3⟩⟩:=HBOX.out w7 ch7
 obtain rfl:=ms_lit rfl rfl rfl rfl hl3 hb3
 have h5:(mvBytes pA pA [(0,0)]).length=5:=bytes_AA
 obtain ⟨g3,c3,rfl,row3,-⟩:=own_row (N:=5) own3 (by rw [List.length_map];exact h5) (by decide)
 have HR3:=hid row3
 clear own3 hl3 hb3 ch7 hG3 hm3 row3 h5
 go_wp2_with fail
 refine (HENB.out w7 HC7.out).mono ?_
 rintro e w8 ⟨v5,G5,ms5,rfl,own5,hl5,hb5,ch8,hG5,hm5⟩
 have HC8:=hid (HC7.out.trans_same ch8)
 obtain ⟨⟨a0,a1,a2,a3⟩,⟨d0,d1,d2,d3⟩⟩:=HBOX.out w8 HC8.out
 obtain ⟨A5,c5,rfl,h51,h52,hc5⟩:=own5.open_map
 have HDA:=hid (HDEA.out w8 HC8.out A5 c5 ms5 hl5 hb5 hm5 hc5 h51 h52)
 have HDB:=hid (fun wz (hz:Chg [] w8 wz)=>HDEB.out wz (HC8.out.trans_same hz) A5 c5 ms5 hm5 (hc5.same hz) h51 h52)
 have HR3b:=hid (HR3.out.chg ch8 (by simp))
 obtain ⟨N5,hN5⟩:∃ N5,N5=(mvBytes pA pB ms5).length:=⟨_,rfl⟩
 rw [←hN5] at HDA HDB ⊢
 clear own5 hl5 hb5 ch8 hG5 hm5 hc5 h51 h52 hN5
 go_wp2_with fail
 refine HDA.out.mono ?_
 rintro e w9 ⟨gP,capP,xs,gs,rfl,own9,ch9⟩
 have HO9:=hid own9
 have HC9:=hid ch9
 obtain ⟨⟨a0,a1,a2,a3⟩,⟨d0,d1,d2,d3⟩⟩:=HBOX.out _ ((HC8.out.trans_same ch9).alloc (.cells #[.int .i64 3,.int .i64 1,.int .i64 4,.slice (some ⟨gP,0,none⟩) 1 capP] 25))
 clear own9 ch9
 obtain ⟨ob,hob⟩:∃ ob,ob=w9.heap.size:=⟨_,rfl⟩
 obtain ⟨wP,hwP⟩:∃ wP,wP=w9.alloc (.cells #[.int .i64 3,.int .i64 1,.int .i64 4,.slice (some ⟨gP,0,none⟩) 1 capP] 25):=⟨_,rfl⟩
 have hbk:Blk wP ob 25 #[.int .i64 3,.int .i64 1,.int .i64 4,.slice (some ⟨gP,0,none⟩) 1 capP]:=by rw [hwP,hob];exact Blk.new w9 _ _
 have chP:Chg [] w8 wP:=by rw [hwP];exact HC9.out.alloc _
 have HOP:Hid (PicOwn wP pB gP capP xs gs):=hid (HO9.out.same (by rw [hwP];exact (Chg.refl [] w9).alloc _))
 have HBK:=hid hbk
 have HCP:=hid chP
 have HWP:=hid hwP
 have HOB:=hid hob
 clear hbk chP hwP hob
 go_wp2_with fail
 rw [←HWP.out,←HOB.out]
 refine (HDB.out wP HCP.out).mono ?_
 rintro e wQ ⟨rfl,chQ⟩
 have HCQ:=hid (HC8.out.trans_same (HCP.out.trans_same chQ))
 have HOQ:=hid (HOP.out.same chQ)
 have HBQ:=hid (HBK.out.chg chQ (by simp))
 have HRQ:=hid (HR3b.out.chg (HCP.out.trans_same chQ) (by simp))
 obtain ⟨wR,hwR⟩:∃ wR,wR=wQ.alloc (.cells #[.int .i64 0,.int .i64 0,.int .i64 0,.slice none 0 0] 25):=⟨_,rfl⟩
 have chR:Chg [] wQ wR:=by rw [hwR];exact (Chg.refl [] wQ).alloc _
 have HCR:=hid (HCQ.out.trans_same chR)
 have HOR:=hid (HOQ.out.same chR)
 have HBR:=hid (HBQ.out.chg chR (by simp))
 have HRR:=hid (HRQ.out.chg chR (by simp))
 obtain ⟨⟨a0,a1,a2,a3⟩,⟨d0,d1,d2,d3⟩⟩:=HBOX.out wR HCR.out
 rw [hwR] at a0 a1 a2 a3 d0 d1 d2 d3
 have HWR:=hid hwR
 clear chQ chR hwR
 go_wp2_with fail
 rw [←HWR.out]
 refine (HSEA.out wR HCR.out).mono ?_
 rintro e wS ⟨rfl,chS⟩
 have HCS:=hid (HCR.out.trans_same chS)
 have HOS:=hid (HOR.out.same chS)
 have hbS:=HBR.out.chg chS (by simp)
 have hrS:=HRR.out.chg chS (by simp)
 obtain ⟨⟨a0,a1,a2,a3⟩,⟨d0,d1,d2,d3⟩⟩:=HBOX.out wS HCS.out
 have p0:=hbS.cell 0
 have p1:=hbS.cell 1
 have p2:=hbS.cell 2
 have p3:=hbS.cell 3
 simp at p0 p1 p2 p3
 have x0:wS.cell? ⟨g3,0,none⟩=some (.int .u8 0):=by
  obtain ⟨_,_,_,_,hce,_⟩:=hrS.open_map
  exact hce 0 0 bytes_A0
 have hsa:=HSAB.out wS gP capP xs gs HCS.out HOS.out
 clear hbS hrS chS
 go_wp2_with fail
 refine hsa.mono ?_
 rintro e wT ⟨rfl,chT⟩
 have HCT:=hid (HCS.out.trans_same chT)
 obtain ⟨⟨a0,a1,a2,a3⟩,⟨d0,d1,d2,d3⟩⟩:=HBOX.out wT HCT.out
 have hal:=HALA.out wT HCT.out
 clear hsa chT x0 p0 p1 p2 p3
 go_wp2_with fail
 refine hal.mono ?_
 rintro e wU ⟨rfl,chU⟩
 have HCU:=hid (HCT.out.trans_same chU)
 obtain ⟨⟨a0,a1,a2,a3⟩,⟨d0,d1,d2,d3⟩⟩:=HBOX.out wU HCU.out
 have hal2:=HALZ.out wU HCU.out
 clear hal chU
 go_wp2_with fail
 refine hal2.mono ?_
 rintro e wV ⟨rfl,chV⟩
 go_wp2_with fail
 go_ret
 exact ⟨rfl,HC6.out.trans_same (HCU.out.trans_same chV)⟩
theorem pieces8_len {n:Nat}:∀ (f x:Nat),n≤x+f→(pieces 8 n f x).length=(n-x+7) / 8
 | 0,x,h=>by simp [pieces];omega
 | f+1,x,h=>by
  rcases Nat.lt_or_ge x n with hx | hx
  ·rw [pieces_step f hx,List.length_cons,pieces8_len f (x+8) (by omega)]
   omega
  ·rw [pieces_end _ hx]
   simp
   omega
theorem grid8_exact (W H:Nat):(gridL W H 8).length=((W+7) / 8)*((H+7) / 8):=by
 unfold gridL
 have h1:∀ l:List (Nat × Nat),(l.flatMap (gridRow W 8)).length=((W+7) / 8)*l.length:=by
  intro l
  induction l with
  | nil=>simp
  | cons a l ih =>
   rw [List.flatMap_cons,List.length_append,ih,List.length_cons,Nat.mul_succ]
   unfold gridRow
   rw [List.length_map,pieces8_len W 0 (by omega)]
   omega
 rw [h1,pieces8_len H 0 (by omega)]
 simp
theorem costL_self (l:List Int) (d:Nat) (hs:SmpOk d l):costL l l d=0:=by
 unfold costL
 induction l with
 | nil=>rfl
 | cons a l ih =>
  rw [List.zipWith_cons_cons,List.sum_cons,ih (fun x hx=>hs x (by simp [hx]))]
  have e:foldI (a-a) d=0:=by
   rw [show a-a=0 by omega]
   have hz:wrapI 0 d=0:=wrapI_in (Int.le_refl 0) (two_pow_pos' d)
   have hp:=two_pow_pos' (d-1)
   unfold foldI
   rw [hz,if_neg (by omega)]
  rw [e]
  rfl
theorem cost_self {p:PicD} (hp:p.Ok) (s:Sq):costB p p s (0,0)=0:=by
 unfold costB
 have h:∀ n,n≤p.P.length→((List.range n).map fun i=>costL (oldB p i s (0,0)) (oldB p i s (0,0)) p.d).sum=0:=by
  intro n
  induction n with
  | zero=>intro _;rfl
  | succ n ih =>
   intro hn
   rw [List.range_succ,List.map_append,List.sum_append,ih (by omega)]
   simp only [List.map_cons,List.map_nil,List.sum_cons,List.sum_nil]
   rw [costL_self _ _ (oldB_smp hp (by omega) s (0,0))]
   rfl
 exact h _ (Nat.le_refl _)
theorem same_self (p:PicD) (s:Sq):sameB p p s (0,0)=true:=by
 unfold sameB
 rw [List.all_eq_true]
 intro i _
 simp
theorem still_bits {p:PicD} (hp:p.Ok) {ms:List (Int × Int)} (hb:BestMs p p (gridL p.W p.H 8) ms (gridL p.W p.H 8).length):∀ n,n≤(gridL p.W p.H 8).length→(moveBits p p (gridL p.W p.H 8) ms n).length=2*n
 | 0,_=>rfl
 | n+1,h=>by
  obtain ⟨c,hbm⟩:=hb n h
  have hz:=hbm.zero (cost_self hp _)
  have e:ms.getD n (0,0)=(0,0):=Prod.ext hz.1 hz.2
  rw [moveBits_succ,List.length_append,still_bits hp hb n (by omega),e]
  unfold blockBits
  rw [if_pos (same_self p _),if_pos rfl,bitsOf_len]
  omega
theorem still_len {p:PicD} (hp:p.Ok) {ms:List (Int × Int)} (hb:BestMs p p (gridL p.W p.H 8) ms (gridL p.W p.H 8).length):(mvBytes p p ms).length=(2*(((p.W+7) / 8)*((p.H+7) / 8))+7) / 8+4:=by
 unfold mvBytes mvBody
 rw [List.length_append,sumL_len,packed_len,padF_len,still_bits hp hb _ (Nat.le_refl _),grid8_exact]
 omega
theorem still_ok (w:World) (A:Option Addr) (cap:Nat) (L:List Int) (hc:Cells vi w A L) (hin:∀ x∈L,In64 x) (hlen:L.length≤9223372036854775807) (hp:Pts w) :
  Calls Tryz.prog 4 #[.slice A L.length cap] w fun e w'=>e=.returned (.bool true)∧Chg [] w w':=by
 have hnew:=tape_new w A cap L hc hin hlen
 have HP:=hid hp
 clear hc hin hlen hp
 go_enter Tryz.func4,Tryz.ntmps4
 go_wp2_with fail
 refine hnew.mono ?_
 rintro e w1 ⟨b,rfl,htp,ch1,hb⟩
 have hpc:=pic_tp w1 b cap 0 40 A L htp (by omega) (by omega)
 clear hnew htp
 go_wp2_with fail
 refine hpc.mono ?_
 rintro e w2 ⟨p,gP,capP,xs,gs,at1,rfl,hW40,hH40,hown,-,ch2,-⟩
 have hC2:Chg [] w w2:=ch1.trans ch2 fun x hx => .inr (by simp at hx;omega)
 have hok:=hown.ok
 have hat:=hown.at_
 have hen:=fun wz (hz:Chg [] w2 wz)=>encode_ok capP (hat.same hz) capP (hat.same hz) ⟨rfl,rfl,rfl,rfl⟩ (HP.out.same (hC2.trans_same hz))
 have hde:=fun wz (hz:Chg [] w2 wz) (A':Option Addr) (capA:Nat) (ms:List (Int × Int)) h1 h2 h3 h4 h5 h6=>decode_ok capP (hat.same hz) hok ⟨rfl,rfl,rfl,rfl⟩ (HP.out.same (hC2.trans_same hz)) A' capA ms h1 (best_ok h1 h2) h3 h4 h5 h6
 have hsm:=fun wz (hz:Chg [] w2 wz) gQ capQ xq gq (ho:PicOwn wz p gQ capQ xq gq)=>picSame_ok capP (hat.same hz) capQ ho.at_ rfl rfl rfl rfl
 have hkn:=fun wz (hz:Chg [] w2 wz)=>mknown_ok wz (HP.out.same (hC2.trans_same hz))
 unfold DecPost at hde
 unfold picV at hen hde hsm ⊢
 have hW1:=hok.w0
 have hH1:=hok.h0
 obtain ⟨w7,hw7⟩:∃ w7,w7=p.W+7:=⟨_,rfl⟩
 obtain ⟨h7,hh7⟩:∃ h7,h7=p.H+7:=⟨_,rfl⟩
 obtain ⟨w8,hw8⟩:∃ w8,w8=w7 / 8:=⟨_,rfl⟩
 obtain ⟨h8,hh8⟩:∃ h8,h8=h7 / 8:=⟨_,rfl⟩
 obtain ⟨n8,hn8⟩:∃ n8,n8=w8*h8:=⟨_,rfl⟩
 have hn81:n8≤64:=by rw [hn8];exact Nat.mul_le_mul (show w8≤8 by omega) (show h8≤8 by omega)
 obtain ⟨m2,hm2⟩:∃ m2,m2=2*n8:=⟨_,rfl⟩
 obtain ⟨m7,hm7⟩:∃ m7,m7=m2+7:=⟨_,rfl⟩
 obtain ⟨m8,hm8⟩:∃ m8,m8=m7 / 8:=⟨_,rfl⟩
 have e1:(p.W:Int)+7=(w7:Int):=by omega
 have e2:(p.H:Int)+7=(h7:Int):=by omega
 have e3:(w7:Int) / 8=(w8:Int):=by omega
 have e4:(h7:Int) / 8=(h8:Int):=by omega
 have e3t:(w7:Int).tdiv 8=(w8:Int):=by rw [Int.tdiv_eq_ediv_of_nonneg (by omega)];exact e3
 have e4t:(h7:Int).tdiv 8=(h8:Int):=by rw [Int.tdiv_eq_ediv_of_nonneg (by omega)];exact e4
 have e5:(w8:Int)*(h8:Int)=(n8:Int):=by rw [hn8];simp
 have e6:(2:Int)*(n8:Int)=(m2:Int):=by omega
 have e7:(m2:Int)+7=(m7:Int):=by omega
 have e8:(m7:Int) / 8=(m8:Int):=by omega
 have e8t:(m7:Int).tdiv 8=(m8:Int):=by rw [Int.tdiv_eq_ediv_of_nonneg (by omega)];exact e8
 have hW8:w7≤64:=by omega
 have hH8:h7≤64:=by omega
 have hw88:w8≤8:=by omega
 have hh88:h8≤8:=by omega
 have hm22:m2≤128:=by omega
 have hm77:m7≤135:=by omega
 have hm88:m8≤20:=by omega
 have hlen:∀ ms,BestMs p p (gridL p.W p.H 8) ms (gridL p.W p.H 8).length→(mvBytes p p ms).length=m8+4:=fun ms h=>by rw [still_len hok h,hm8,hm7,hm2,hn8,hw8,hh8,hw7,hh7]
 obtain ⟨ob,hob⟩:∃ ob,ob=w2.heap.size:=⟨_,rfl⟩
 obtain ⟨w3,hw3⟩:∃ w3,w3=w2.alloc (.cells #[.int .i64 (p.W:Int),.int .i64 (p.H:Int),.int .i64 (p.d:Int),.slice (some ⟨gP,0,none⟩) p.P.length capP] 25):=⟨_,rfl⟩
 have ch3:Chg [] w2 w3:=by rw [hw3];exact (Chg.refl [] w2).alloc _
 have hbk:Blk w3 ob 25 #[.int .i64 (p.W:Int),.int .i64 (p.H:Int),.int .i64 (p.d:Int),.slice (some ⟨gP,0,none⟩) p.P.length capP]:=by rw [hw3,hob];exact Blk.new w2 _ _
 have hbox:∀ wz,Chg [] w3 wz→wz.cell? ⟨ob,0,none⟩=some (.int .i64 (p.W:Int))∧wz.cell? ⟨ob,1,none⟩=some (.int .i64 (p.H:Int))∧wz.cell? ⟨ob,2,none⟩=some (.int .i64 (p.d:Int))∧wz.cell? ⟨ob,3,none⟩=some (.slice (some ⟨gP,0,none⟩) p.P.length capP):=fun wz hz=>⟨(hbk.chg hz (by simp)).cell 0,(hbk.chg hz (by simp)).cell 1,(hbk.chg hz (by simp)).cell 2,(hbk.chg hz (by simp)).cell 3⟩
 have HEN:=hid hen
 have HDE:=hid hde
 have HSM:=hid hsm
 have HKN:=hid hkn
 have HLEN:=hid hlen
 have HW3:=hid hw3
 have HOB:=hid hob
 have HC3:=hid ch3
 have HC2:=hid hC2
 have HBOX:=hid hbox
 clear hpc hown ch1 ch2 hb hC2 hok hat hen hde hsm hkn hw7 hh7 hw8 hh8 hn8 hm2 hm7 hm8 hlen hob hw3 ch3 hbk hbox
 go_wp2_with fail
 rw [←HW3.out,←HOB.out]
 refine (HEN.out w3 HC3.out).mono ?_
 rintro e w4 ⟨v4,G4,ms,rfl,own4,hl4,hb4,ch4,hG4,hm4⟩
 obtain ⟨A4,c4,rfl,h41,h42,hc4⟩:=own4.open_map
 have HD4:=hid (HDE.out w4 (HC3.out.trans_same ch4) A4 c4 ms hl4 hb4 hm4 hc4 h41 h42)
 have hNl:=HLEN.out ms hb4
 obtain ⟨N5,hN5⟩:∃ N5,N5=(mvBytes p p ms).length:=⟨_,rfl⟩
 rw [←hN5] at HD4 hNl ⊢
 have e9:(m8:Int)+4=(N5:Int):=by omega
 have hN56:N5≤30:=by omega
 have HC4:=hid (HC3.out.trans_same ch4)
 obtain ⟨a0,a1,a2,a3⟩:=HBOX.out w4 ch4
 have HCH4:=hid ch4
 clear own4 hl4 hb4 ch4 hG4 hm4 hc4 h41 h42 hN5 hNl
 go_wp2_with fail
 refine HD4.out.mono ?_
 rintro e w5 ⟨gQ,capQ,xq,gq,rfl,own5,ch5,-⟩
 obtain ⟨oq,hoq⟩:∃ oq,oq=w5.heap.size:=⟨_,rfl⟩
 obtain ⟨w6,hw6⟩:∃ w6,w6=w5.alloc (.cells #[.int .i64 (p.W:Int),.int .i64 (p.H:Int),.int .i64 (p.d:Int),.slice (some ⟨gQ,0,none⟩) p.P.length capQ] 25):=⟨_,rfl⟩
 have ch6:Chg [] w5 w6:=by rw [hw6];exact (Chg.refl [] w5).alloc _
 have hbq:Blk w6 oq 25 #[.int .i64 (p.W:Int),.int .i64 (p.H:Int),.int .i64 (p.d:Int),.slice (some ⟨gQ,0,none⟩) p.P.length capQ]:=by rw [hw6,hoq];exact Blk.new w5 _ _
 have q0:=hbq.cell 0
 have q1:=hbq.cell 1
 have q2:=hbq.cell 2
 have q3:=hbq.cell 3
 simp at q0 q1 q2 q3
 have HC6:=hid ((HC4.out.trans_same ch5).trans_same ch6)
 obtain ⟨a0,a1,a2,a3⟩:=HBOX.out w6 ((HCH4.out.trans_same ch5).trans_same ch6)
 have hss:=HSM.out w6 HC6.out gQ capQ xq gq (own5.same ch6)
 rw [hw6] at a0 a1 a2 a3
 rw [hw6,hoq] at q0 q1 q2 q3
 have HW6:=hid hw6
 clear own5 ch5 ch6 hbq hw6 hoq
 go_wp2_with fail
 rw [←HW6.out]
 refine hss.mono ?_
 rintro e w8 ⟨rfl,ch8⟩
 have hkk:=HKN.out w8 (HC6.out.trans_same ch8)
 go_wp2_with fail
 refine hkk.mono ?_
 rintro e w9 ⟨rfl,ch9⟩
 go_wp2_with fail
 go_ret
 exact ⟨rfl,HC2.out.trans_same ((HC6.out.trans_same ch8).trans_same ch9)⟩
end Go.Proofs.YtijpbkakncglgaaGreatDoor
