/- package hue by its contracts: May, a point turned and turned back. -/
import Derived.Test.YtepjepkgcdfboaaGreatDoorMg04
import Derived.Deep.Cut
set_option linter.unusedVariables false
set_option linter.unusedSimpArgs false
set_option maxHeartbeats 1000000
set_option maxRecDepth 100000
namespace Go.Proofs.YtepjepkgcdfboaaGreatDoor
open Go.RowKit
theorem hmay_ok (n k:Nat) (w:World) (n0:1<=n) (n1:n<=4) (k4:k<=4):Calls Tryz.prog 12 #[.int .i64 n,.int .i64 k] w fun e w'=>e=.returned (.bool (mayH n k))/\w=w':=by
 have t1:decide ((n:Int)<1)=false:=zA (by omega)
 have t2:decide ((4:Int)<(n:Int))=false:=zA (by omega)
 have t3:decide ((3:Int)<=(n:Int))=decide (3<=n):=by rw [decide_eq_decide];omega
 have t4:decide ((2:Int)<=(n:Int))=decide (2<=n):=by rw [decide_eq_decide];omega
 have hm:mayH n k=(decide (k=0)||(decide (k=1\/k=2\/k=3)&&decide (3<=n))||(decide (k=4)&&decide (2<=n))):=by unfold mayH;rw [zB n0,zB n1];rfl
 rw [hm]
 clear hm
 rcases (by omega:k=0\/k=1\/k=2\/k=3\/k=4) with rfl | rfl | rfl | rfl | rfl
 all_goals
  generalize decide (3<=n)=x3 at *
  generalize decide (2<=n)=x2 at *
  go_enter Tryz.func12,Tryz.ntmps12
  go_wp2_with fail
  go_ret
  exact ⟨by cases x2<;>cases x3<;>rfl,rfl⟩
theorem alloc_sz (w:World) (o:Obj):(w.alloc o).heap.size=w.heap.size+1:=by
 show (w.heap.push o).size=_
 exact Array.size_push _
theorem fold_b (v:Int) {d:Nat} (h0:1<=d) (h1:d<=16) : -32768<=foldI v d/\foldI v d<=32767:=by
 obtain ⟨r0,r1⟩:=foldI_range v h0
 have h3:(2:Int)^(d-1)<=2^15:=by
  have:=Nat.pow_le_pow_right (n:=2) (by decide) (show d-1<=15 by omega)
  exact_mod_cast this
 omega
def pt4V (a b c e:Int):Value:=.agg #[.int .i64 a,.int .i64 b,.int .i64 c,.int .i64 e]
def listV (l:List Int):Value:=.agg (l.map vi).toArray
theorem pt_ret {F:Func} {Q:Ending->World->Prop} {a:Act} {Y:World} {C:Nat} {t:TypeId} {z0 z1 z2 z3 v0 v1 v2 v3:Value} (hY:Blk Y C t #[z0,z1,z2,z3])
  (h:∀ X,Blk X C t #[v0,v1,v2,v3]->Chg [C] Y X->bodyPost Tryz.prog F Q .ret a X) :
  bodyPost Tryz.prog F Q .ret a ((((Y.setCell ⟨C,0,none⟩ v0).setCell ⟨C,1,none⟩ v1).setCell ⟨C,2,none⟩ v2).setCell ⟨C,3,none⟩ v3):=by
 refine h _ ?_ ?_
 ·have:=(((hY.set_ 0 v0).set_ 1 v1).set_ 2 v2).set_ 3 v3
  simpa using this
 ·exact ((((zR [C] Y).setCell (p:=⟨C,0,none⟩) (.inl (by simp)) _).setCell (p:=⟨C,1,none⟩) (.inl (by simp)) _).setCell (p:=⟨C,2,none⟩) (.inl (by simp)) _).setCell (p:=⟨C,3,none⟩) (.inl (by simp)) _
theorem fore_point (k d:Nat) (a b c e:Int) (w:World) (h0:1<=d) (h1:d<=16) (k4:k<=4) (ha:In4 d a) (hb:In4 d b) (hc:In4 d c) (he:In4 d e) :
  Calls Tryz.prog 44 #[pt4V a b c e,.int .i64 k,.int .i64 d] w fun en w'=>en=.returned (listV (foreP k d a b c e))/\Chg [] w w':=by
 obtain ⟨a2,a5⟩:=pow_d h0 h1
 have hw:∀ v w,_:=fun v w=>wrap_ok v d w h0 h1
 have hf:∀ v w,_:=fun v w=>fold_ok v d w h0 h1
 obtain ⟨a0,a1⟩:=ha
 obtain ⟨b0,b1⟩:=hb
 obtain ⟨c0,c1⟩:=hc
 obtain ⟨e0,e1⟩:=he
 unfold pt4V
 obtain ⟨w1,al⟩:=zX ((w.alloc (.cells #[.int .i64 a,.int .i64 b,.int .i64 c,.int .i64 e] 86)).alloc (.cells #[.int .i64 0,.int .i64 0,.int .i64 0,.int .i64 0] 86))
 obtain ⟨B,hB⟩:=zX (w.heap.size)
 obtain ⟨C,hC⟩:=zX (B+1)
 have aa:Blk w1 B 86 #[.int .i64 a,.int .i64 b,.int .i64 c,.int .i64 e]:=by rw [al,hB];exact (Blk.new w _ _).alloc _
 have ab:Blk w1 C 86 #[.int .i64 0,.int .i64 0,.int .i64 0,.int .i64 0]:=by
  rw [al,hC,hB]
  have:=Blk.new (w.alloc (.cells #[.int .i64 a,.int .i64 b,.int .i64 c,.int .i64 e] 86)) 86 #[.int .i64 0,.int .i64 0,.int .i64 0,.int .i64 0]
  rwa [alloc_sz] at this
 have aN:Chg [] w w1:=by rw [al];exact ((zR [] w).alloc _).alloc _
 have a7:B≠C:=by omega
 have ac:C≠B:=by omega
 have k0:=aa.cell 0
 have k1:=aa.cell 1
 have k2:=aa.cell 2
 have k3:=aa.cell 3
 have z0:=ab.cell 0
 have z1:=ab.cell 1
 have z2:=ab.cell 2
 have z3:=ab.cell 3
 have f0:=aa.frozen 0
 have f1:=aa.frozen 1
 have f2:=aa.frozen 2
 have f3:=aa.frozen 3
 have g0:=ab.frozen 0
 have g1:=ab.frozen 1
 have g2:=ab.frozen 2
 have g3:=ab.frozen 3
 simp at k0 k1 k2 k3 z0 z1 z2 z3
 have HW:=hid hw
 have HF:=hid hf
 have ap:=hid al
 have ao:=hid aN
 have HB:=hid hB
 have HC:=hid hC
 have aS:=hid aa
 have am:=hid ab
 clear hw hf al aN aa ab hB hC
 rcases (by omega:k=0\/k=1\/k=2\/k=3\/k=4) with rfl | rfl | rfl | rfl | rfl
 ·have hl:foreP 0 d a b c e=[a,b,c,e]:=by rfl
  rw [hl]
  clear hl
  go_enter Tryz.func44,Tryz.ntmps44
  go_wp2_with fail
  rw [<-ap.out,<-HB.out,<-HC.out]
  go_quiet (fail)
  go_wp2_with fail
  refine pt_ret (z0:=.int .i64 0) (z1:=.int .i64 0) (z2:=.int .i64 0) (z3:=.int .i64 0) (t:=86) (by repeat (first | exact am.out.drewN nq | refine Blk.far ?_ ac _)) ?_
  intro X hX hY
  have x0:=hX.cell 0
  have x1:=hX.cell 1
  have x2:=hX.cell 2
  have x3:=hX.cell 3
  simp at x0 x1 x2 x3
  refine bodyPost_ret (v:=listV [a,b,c,e]) (by simp [results,Tryz.results44,go_sem,x0,x1,x2,x3,listV,vi]) rfl ?_
  refine ⟨rfl,Chg.trans (F':=[C]) ?_ hY (fun x hx => .inr (by simp at hx;have:=HB.out;have:=HC.out;omega))⟩
  repeat (first | exact ao.out.drewN nq | refine Chg.setCell ?_ (.inr (by show _<=B;have:=HB.out;omega)) _)
 ·obtain ⟨x,hx⟩:=zX (wrapI (a-b) d)
  obtain ⟨z,hz⟩:=zX (wrapI (c-b) d)
  have hl:foreP 1 d a b c e=[x,b,z,e]:=by rw [hz,hx];rfl
  rw [hl]
  have mx:=fun w=>HW.out (a-b) w
  have aQ:=wrapI_lo (a-b) d
  have aY:=wrapI_hi (a-b) d
  rw [<-hx] at mx aQ aY
  have mz:=fun w=>HW.out (c-b) w
  have aP:=wrapI_lo (c-b) d
  have aO:=wrapI_hi (c-b) d
  rw [<-hz] at mz aP aO
  clear hl hx hz
  go_enter Tryz.func44,Tryz.ntmps44
  go_wp2_with fail
  rw [<-ap.out,<-HB.out,<-HC.out]
  go_quiet (fail)
  go_wp2_with fail
  refine (mx _).mono ?_
  rintro e w' ⟨rfl,rfl⟩
  go_wp2_with fail
  refine (mz _).mono ?_
  rintro e w' ⟨rfl,rfl⟩
  go_wp2_with fail
  refine pt_ret (z0:=.int .i64 0) (z1:=.int .i64 0) (z2:=.int .i64 0) (z3:=.int .i64 0) (t:=86) (by repeat (first | exact am.out.drewN nq | refine Blk.far ?_ ac _)) ?_
  intro X hX hY
  have x0:=hX.cell 0
  have x1:=hX.cell 1
  have x2:=hX.cell 2
  have x3:=hX.cell 3
  simp at x0 x1 x2 x3
  refine bodyPost_ret (v:=listV [x,b,z,e]) (by simp [results,Tryz.results44,go_sem,x0,x1,x2,x3,listV,vi]) rfl ?_
  refine ⟨rfl,Chg.trans (F':=[C]) ?_ hY (fun x hx => .inr (by simp at hx;have:=HB.out;have:=HC.out;omega))⟩
  repeat (first | exact ao.out.drewN nq | refine Chg.setCell ?_ (.inr (by show _<=B;have:=HB.out;omega)) _)
 ·obtain ⟨u,hu⟩:=zX (wrapI (a-c) d)
  obtain ⟨fu,ag⟩:=zX (foldI u d)
  obtain ⟨su,aH⟩:=zX (shrI fu 1)
  obtain ⟨t,ht⟩:=zX (wrapI (c+su) d)
  obtain ⟨v,hv⟩:=zX (wrapI (b-t) d)
  obtain ⟨fv,ah⟩:=zX (foldI v d)
  obtain ⟨sv,aw⟩:=zX (shrI fv 1)
  obtain ⟨y,hy⟩:=zX (wrapI (t+sv) d)
  have hl:foreP 2 d a b c e=[y,u,v,e]:=by rw [hy,aw,ah,hv,ht,aH,ag,hu];rfl
  rw [hl]
  have mu:=fun w=>HW.out (a-c) w
  have aA:=wrapI_lo (a-c) d
  have aE:=wrapI_hi (a-c) d
  rw [<-hu] at mu aA aE
  have an:=fun w=>HF.out u w
  obtain ⟨ai,ae⟩:=fold_b u h0 h1
  rw [<-ag] at an ai ae
  have aZ:fu / 2=su:=aH.symm
  have aX : -32768<=su:=by omega
  have aW:su<=32768:=by omega
  have mt:=fun w=>HW.out (c+su) w
  have aV:=wrapI_lo (c+su) d
  have aU:=wrapI_hi (c+su) d
  rw [<-ht] at mt aV aU
  have mv:=fun w=>HW.out (b-t) w
  have aI:=wrapI_lo (b-t) d
  have aG:=wrapI_hi (b-t) d
  rw [<-hv] at mv aI aG
  have aq:=fun w=>HF.out v w
  obtain ⟨af,ad⟩:=fold_b v h0 h1
  rw [<-ah] at aq af ad
  have a6:fv / 2=sv:=aw.symm
  have aT : -32768<=sv:=by omega
  have aR:sv<=32768:=by omega
  have my:=fun w=>HW.out (t+sv) w
  have aC:=wrapI_lo (t+sv) d
  have av:=wrapI_hi (t+sv) d
  rw [<-hy] at my aC av
  clear hl hu ag aH ht hv ah aw hy
  go_enter Tryz.func44,Tryz.ntmps44
  go_wp2_with fail
  rw [<-ap.out,<-HB.out,<-HC.out]
  go_quiet (fail)
  go_wp2_with fail
  refine (mu _).mono ?_
  rintro e w' ⟨rfl,rfl⟩
  go_wp2_with fail
  refine (an _).mono ?_
  rintro e w' ⟨rfl,rfl⟩
  go_wp2_with fail
  refine (mt _).mono ?_
  rintro e w' ⟨rfl,rfl⟩
  go_wp2_with fail
  refine (mv _).mono ?_
  rintro e w' ⟨rfl,rfl⟩
  go_wp2_with fail
  refine (aq _).mono ?_
  rintro e w' ⟨rfl,rfl⟩
  go_wp2_with fail
  refine (my _).mono ?_
  rintro e w' ⟨rfl,rfl⟩
  go_wp2_with fail
  refine pt_ret (z0:=.int .i64 0) (z1:=.int .i64 0) (z2:=.int .i64 0) (z3:=.int .i64 0) (t:=86) (by repeat (first | exact am.out.drewN nq | refine Blk.far ?_ ac _)) ?_
  intro X hX hY
  have x0:=hX.cell 0
  have x1:=hX.cell 1
  have x2:=hX.cell 2
  have x3:=hX.cell 3
  simp at x0 x1 x2 x3
  refine bodyPost_ret (v:=listV [y,u,v,e]) (by simp [results,Tryz.results44,go_sem,x0,x1,x2,x3,listV,vi]) rfl ?_
  refine ⟨rfl,Chg.trans (F':=[C]) ?_ hY (fun x hx => .inr (by simp at hx;have:=HB.out;have:=HC.out;omega))⟩
  repeat (first | exact ao.out.drewN nq | refine Chg.setCell ?_ (.inr (by show _<=B;have:=HB.out;omega)) _)
 ·obtain ⟨u,hu⟩:=zX (wrapI (c-b) d)
  obtain ⟨v,hv⟩:=zX (wrapI (a-b) d)
  obtain ⟨fu,ag⟩:=zX (foldI u d)
  obtain ⟨fv,ah⟩:=zX (foldI v d)
  obtain ⟨s,hs⟩:=zX (shrI (fu+fv) 2)
  obtain ⟨y,hy⟩:=zX (wrapI (b+s) d)
  have hl:foreP 3 d a b c e=[y,u,v,e]:=by rw [hy,hs,ah,ag,hv,hu];rfl
  rw [hl]
  have mu:=fun w=>HW.out (c-b) w
  have aA:=wrapI_lo (c-b) d
  have aE:=wrapI_hi (c-b) d
  rw [<-hu] at mu aA aE
  have mv:=fun w=>HW.out (a-b) w
  have aI:=wrapI_lo (a-b) d
  have aG:=wrapI_hi (a-b) d
  rw [<-hv] at mv aI aG
  have an:=fun w=>HF.out u w
  obtain ⟨ai,ae⟩:=fold_b u h0 h1
  rw [<-ag] at an ai ae
  have aq:=fun w=>HF.out v w
  obtain ⟨af,ad⟩:=fold_b v h0 h1
  rw [<-ah] at aq af ad
  have ms:(fu+fv) / 4=s:=hs.symm
  have a4 : -32768<=s:=by omega
  have a3:s<=32768:=by omega
  have my:=fun w=>HW.out (b+s) w
  have aC:=wrapI_lo (b+s) d
  have av:=wrapI_hi (b+s) d
  rw [<-hy] at my aC av
  clear hl hu hv ag ah hs hy
  go_enter Tryz.func44,Tryz.ntmps44
  go_wp2_with fail
  rw [<-ap.out,<-HB.out,<-HC.out]
  go_quiet (fail)
  go_wp2_with fail
  refine (mu _).mono ?_
  rintro e w' ⟨rfl,rfl⟩
  go_wp2_with fail
  refine (mv _).mono ?_
  rintro e w' ⟨rfl,rfl⟩
  go_wp2_with fail
  refine (an _).mono ?_
  rintro e w' ⟨rfl,rfl⟩
  go_wp2_with fail
  refine (aq _).mono ?_
  rintro e w' ⟨rfl,rfl⟩
  go_wp2_with fail
  refine (my _).mono ?_
  rintro e w' ⟨rfl,rfl⟩
  go_wp2_with fail
  refine pt_ret (z0:=.int .i64 0) (z1:=.int .i64 0) (z2:=.int .i64 0) (z3:=.int .i64 0) (t:=86) (by repeat (first | exact am.out.drewN nq | refine Blk.far ?_ ac _)) ?_
  intro X hX hY
  have x0:=hX.cell 0
  have x1:=hX.cell 1
  have x2:=hX.cell 2
  have x3:=hX.cell 3
  simp at x0 x1 x2 x3
  refine bodyPost_ret (v:=listV [y,u,v,e]) (by simp [results,Tryz.results44,go_sem,x0,x1,x2,x3,listV,vi]) rfl ?_
  refine ⟨rfl,Chg.trans (F':=[C]) ?_ hY (fun x hx => .inr (by simp at hx;have:=HB.out;have:=HC.out;omega))⟩
  repeat (first | exact ao.out.drewN nq | refine Chg.setCell ?_ (.inr (by show _<=B;have:=HB.out;omega)) _)
 ·obtain ⟨e',aJ⟩:=zX (wrapI (e-c) d)
  obtain ⟨c',az⟩:=zX (wrapI (c-b) d)
  obtain ⟨b',aD⟩:=zX (wrapI (b-a) d)
  have hl:foreP 4 d a b c e=[a,b',c',e']:=by rw [aD,az,aJ];rfl
  rw [hl]
  have aM:=fun w=>HW.out (e-c) w
  have ax:=wrapI_lo (e-c) d
  have aF:=wrapI_hi (e-c) d
  rw [<-aJ] at aM ax aF
  have aK:=fun w=>HW.out (c-b) w
  have ay:=wrapI_lo (c-b) d
  have au:=wrapI_hi (c-b) d
  rw [<-az] at aK ay au
  have aL:=fun w=>HW.out (b-a) w
  have ar:=wrapI_lo (b-a) d
  have aB:=wrapI_hi (b-a) d
  rw [<-aD] at aL ar aB
  clear hl aJ az aD
  go_enter Tryz.func44,Tryz.ntmps44
  go_wp2_with fail
  rw [<-ap.out,<-HB.out,<-HC.out]
  go_quiet (fail)
  go_wp2_with fail
  go_loopg [15] 3 (fun j s15 wr=>∃ i:Nat,s15=.int .i64 (3-i:Int)/\i+j=3/\Hid (Blk wr B 86 ((if i=0 then [a,b,c,e] else if i=1 then [a,b,c,e'] else if i=2 then [a,b,c',e'] else [a,b',c',e']).map vi).toArray)/\Hid (Blk wr C 86 #[.int .i64 0,.int .i64 0,.int .i64 0,.int .i64 0])/\Hid (Chg [] w wr))
  case atStart=>exact ⟨0,by simp,rfl,hid (aS.out.drewN nq),hid (am.out.drewN nq),hid (ao.out.drewN nq)⟩
  case round =>
   clear k0 k1 k2 k3 z0 z1 z2 z3 f0 f1 f2 f3 g0 g1 g2 g3
   obtain ⟨i,rfl,a8,HX,HY,HZ⟩:=hrel
   rcases (by omega:i=0\/i=1\/i=2\/i=3) with rfl | rfl | rfl | rfl
   ·have hX:Blk wr B 86 #[.int .i64 a,.int .i64 b,.int .i64 c,.int .i64 e]:=HX.out
    have k0:=hX.cell 0
    have f0:=hX.frozen 0
    have z0:=HY.out.cell 0
    have g0:=HY.out.frozen 0
    have k1:=hX.cell 1
    have f1:=hX.frozen 1
    have z1:=HY.out.cell 1
    have g1:=HY.out.frozen 1
    have k2:=hX.cell 2
    have f2:=hX.frozen 2
    have z2:=HY.out.cell 2
    have g2:=HY.out.frozen 2
    have k3:=hX.cell 3
    have f3:=hX.frozen 3
    have z3:=HY.out.cell 3
    have g3:=HY.out.frozen 3
    simp at k0 k1 k2 k3 z0 z1 z2 z3
    have aj:=hid hX
    clear hX
    go_wp2_with fail
    refine wp_region_quiet_tail 12 (by kernel_rfl) (by kernel_rfl) ?_
    simp only [List.take_succ_cons,List.take_zero,List.drop_succ_cons,List.drop_zero]
    repeat (go_big_quiet_step ((go_at_call 83;exact Calls.quiet_of_same ((aM _).mono (fun _ _ h=>⟨h.1,h.2.symm⟩)))))
    refine wpQuiet_nil ?_
    intro _ ak
    obtain ⟨nr,rfl⟩:=ak
    go_wp2_with fail
    go_roundg 2
    case measure=>omega
    case rel =>
     have hs:=(aj.out.drewN nr).set_ 3 (.int .i64 e')
     exact ⟨1,by simp,rfl,hid (by simpa [vi] using hs),hid ((HY.out.drewN nr).far ac _),hid ((HZ.out.drewN nr).setCell (.inr (by show _<=B;have:=HB.out;omega)) _)⟩
   ·have hX:Blk wr B 86 #[.int .i64 a,.int .i64 b,.int .i64 c,.int .i64 e']:=HX.out
    have k0:=hX.cell 0
    have f0:=hX.frozen 0
    have z0:=HY.out.cell 0
    have g0:=HY.out.frozen 0
    have k1:=hX.cell 1
    have f1:=hX.frozen 1
    have z1:=HY.out.cell 1
    have g1:=HY.out.frozen 1
    have k2:=hX.cell 2
    have f2:=hX.frozen 2
    have z2:=HY.out.cell 2
    have g2:=HY.out.frozen 2
    have k3:=hX.cell 3
    have f3:=hX.frozen 3
    have z3:=HY.out.cell 3
    have g3:=HY.out.frozen 3
    simp at k0 k1 k2 k3 z0 z1 z2 z3
    have aj:=hid hX
    clear hX
    go_wp2_with fail
    refine wp_region_quiet_tail 12 (by kernel_rfl) (by kernel_rfl) ?_
    simp only [List.take_succ_cons,List.take_zero,List.drop_succ_cons,List.drop_zero]
    repeat (go_big_quiet_step ((go_at_call 83;exact Calls.quiet_of_same ((aK _).mono (fun _ _ h=>⟨h.1,h.2.symm⟩)))))
    refine wpQuiet_nil ?_
    intro _ ak
    obtain ⟨nr,rfl⟩:=ak
    go_wp2_with fail
    go_roundg 1
    case measure=>omega
    case rel =>
     have hs:=(aj.out.drewN nr).set_ 2 (.int .i64 c')
     exact ⟨2,by simp,rfl,hid (by simpa [vi] using hs),hid ((HY.out.drewN nr).far ac _),hid ((HZ.out.drewN nr).setCell (.inr (by show _<=B;have:=HB.out;omega)) _)⟩
   ·have hX:Blk wr B 86 #[.int .i64 a,.int .i64 b,.int .i64 c',.int .i64 e']:=HX.out
    have k0:=hX.cell 0
    have f0:=hX.frozen 0
    have z0:=HY.out.cell 0
    have g0:=HY.out.frozen 0
    have k1:=hX.cell 1
    have f1:=hX.frozen 1
    have z1:=HY.out.cell 1
    have g1:=HY.out.frozen 1
    have k2:=hX.cell 2
    have f2:=hX.frozen 2
    have z2:=HY.out.cell 2
    have g2:=HY.out.frozen 2
    have k3:=hX.cell 3
    have f3:=hX.frozen 3
    have z3:=HY.out.cell 3
    have g3:=HY.out.frozen 3
    simp at k0 k1 k2 k3 z0 z1 z2 z3
    have aj:=hid hX
    clear hX
    go_wp2_with fail
    refine wp_region_quiet_tail 12 (by kernel_rfl) (by kernel_rfl) ?_
    simp only [List.take_succ_cons,List.take_zero,List.drop_succ_cons,List.drop_zero]
    repeat (go_big_quiet_step ((go_at_call 83;exact Calls.quiet_of_same ((aL _).mono (fun _ _ h=>⟨h.1,h.2.symm⟩)))))
    refine wpQuiet_nil ?_
    intro _ ak
    obtain ⟨nr,rfl⟩:=ak
    go_wp2_with fail
    go_roundg 0
    case measure=>omega
    case rel =>
     have hs:=(aj.out.drewN nr).set_ 1 (.int .i64 b')
     exact ⟨3,by simp,rfl,hid (by simpa [vi] using hs),hid ((HY.out.drewN nr).far ac _),hid ((HZ.out.drewN nr).setCell (.inr (by show _<=B;have:=HB.out;omega)) _)⟩
   ·have hX:Blk wr B 86 #[.int .i64 a,.int .i64 b',.int .i64 c',.int .i64 e']:=HX.out
    have k0:=hX.cell 0
    have f0:=hX.frozen 0
    have z0:=HY.out.cell 0
    have g0:=HY.out.frozen 0
    have k1:=hX.cell 1
    have f1:=hX.frozen 1
    have z1:=HY.out.cell 1
    have g1:=HY.out.frozen 1
    have k2:=hX.cell 2
    have f2:=hX.frozen 2
    have z2:=HY.out.cell 2
    have g2:=HY.out.frozen 2
    have k3:=hX.cell 3
    have f3:=hX.frozen 3
    have z3:=HY.out.cell 3
    have g3:=HY.out.frozen 3
    simp at k0 k1 k2 k3 z0 z1 z2 z3
    have aj:=hid hX
    clear hX
    go_wp2_with fail
    refine pt_ret (z0:=.int .i64 0) (z1:=.int .i64 0) (z2:=.int .i64 0) (z3:=.int .i64 0) (t:=86) (by repeat (first | exact HY.out | refine Blk.far ?_ ac _)) ?_
    intro X hX hY
    have x0:=hX.cell 0
    have x1:=hX.cell 1
    have x2:=hX.cell 2
    have x3:=hX.cell 3
    simp at x0 x1 x2 x3
    refine bodyPost_ret (v:=listV [a,b',c',e']) (by simp [results,Tryz.results44,go_sem,x0,x1,x2,x3,listV,vi]) rfl ?_
    refine ⟨rfl,Chg.trans (F':=[C]) ?_ hY (fun x hx => .inr (by simp at hx;have:=HB.out;have:=HC.out;omega))⟩
    repeat (first | exact HZ.out | refine Chg.setCell ?_ (.inr (by show _<=B;have:=HB.out;omega)) _)
theorem back_point (k d:Nat) (a b c e:Int) (w:World) (h0:1<=d) (h1:d<=16) (k4:k<=4) (ha:In4 d a) (hb:In4 d b) (hc:In4 d c) (he:In4 d e) :
  Calls Tryz.prog 136 #[pt4V a b c e,.int .i64 k,.int .i64 d] w fun en w'=>en=.returned (listV (backP k d a b c e))/\Chg [] w w':=by
 obtain ⟨aV,aZ⟩:=pow_d h0 h1
 have hw:∀ v w,_:=fun v w=>wrap_ok v d w h0 h1
 have hf:∀ v w,_:=fun v w=>fold_ok v d w h0 h1
 obtain ⟨a0,a1⟩:=ha
 obtain ⟨b0,b1⟩:=hb
 obtain ⟨c0,c1⟩:=hc
 obtain ⟨e0,e1⟩:=he
 unfold pt4V
 obtain ⟨w1,al⟩:=zX ((w.alloc (.cells #[.int .i64 a,.int .i64 b,.int .i64 c,.int .i64 e] 86)).alloc (.cells #[.int .i64 0,.int .i64 0,.int .i64 0,.int .i64 0] 86))
 obtain ⟨B,hB⟩:=zX (w.heap.size)
 obtain ⟨C,hC⟩:=zX (B+1)
 have aa:Blk w1 B 86 #[.int .i64 a,.int .i64 b,.int .i64 c,.int .i64 e]:=by rw [al,hB];exact (Blk.new w _ _).alloc _
 have ab:Blk w1 C 86 #[.int .i64 0,.int .i64 0,.int .i64 0,.int .i64 0]:=by
  rw [al,hC,hB]
  have:=Blk.new (w.alloc (.cells #[.int .i64 a,.int .i64 b,.int .i64 c,.int .i64 e] 86)) 86 #[.int .i64 0,.int .i64 0,.int .i64 0,.int .i64 0]
  rwa [alloc_sz] at this
 have aN:Chg [] w w1:=by rw [al];exact ((zR [] w).alloc _).alloc _
 have a2:B≠C:=by omega
 have ac:C≠B:=by omega
 have k0:=aa.cell 0
 have k1:=aa.cell 1
 have k2:=aa.cell 2
 have k3:=aa.cell 3
 have z0:=ab.cell 0
 have z1:=ab.cell 1
 have z2:=ab.cell 2
 have z3:=ab.cell 3
 have f0:=aa.frozen 0
 have f1:=aa.frozen 1
 have f2:=aa.frozen 2
 have f3:=aa.frozen 3
 have g0:=ab.frozen 0
 have g1:=ab.frozen 1
 have g2:=ab.frozen 2
 have g3:=ab.frozen 3
 simp at k0 k1 k2 k3 z0 z1 z2 z3
 have HW:=hid hw
 have HF:=hid hf
 have av:=hid al
 have au:=hid aN
 have HB:=hid hB
 have HC:=hid hC
 have aP:=hid aa
 have aq:=hid ab
 clear hw hf al aN aa ab hB hC
 rcases (by omega:k=0\/k=1\/k=2\/k=3\/k=4) with rfl | rfl | rfl | rfl | rfl
 ·have hl:backP 0 d a b c e=[a,b,c,e]:=by rfl
  rw [hl]
  clear hl
  go_enter Tryz.func136,Tryz.ntmps136
  go_upto_region 1 with (fail)
  rw [<-av.out,<-HB.out,<-HC.out]
  go_wp2_with fail
  refine pt_ret (z0:=.int .i64 0) (z1:=.int .i64 0) (z2:=.int .i64 0) (z3:=.int .i64 0) (t:=86) (by repeat (first | exact aq.out | refine Blk.far ?_ ac _)) ?_
  intro X hX hY
  have x0:=hX.cell 0
  have x1:=hX.cell 1
  have x2:=hX.cell 2
  have x3:=hX.cell 3
  simp at x0 x1 x2 x3
  refine bodyPost_ret (v:=listV [a,b,c,e]) (by simp [results,Tryz.results136,go_sem,x0,x1,x2,x3,listV,vi]) rfl ?_
  refine ⟨rfl,Chg.trans (F':=[C]) ?_ hY (fun x hx => .inr (by simp at hx;have:=HB.out;have:=HC.out;omega))⟩
  repeat (first | exact au.out | refine Chg.setCell ?_ (.inr (by show _<=B;have:=HB.out;omega)) _)
 ·obtain ⟨x,hx⟩:=zX (wrapI (a+b) d)
  obtain ⟨z,hz⟩:=zX (wrapI (c+b) d)
  have hl:backP 1 d a b c e=[x,b,z,e]:=by rw [hz,hx];rfl
  rw [hl]
  have mx:=fun w=>HW.out (a+b) w
  have ap:=wrapI_lo (a+b) d
  have aw:=wrapI_hi (a+b) d
  rw [<-hx] at mx ap aw
  have mz:=fun w=>HW.out (c+b) w
  have ao:=wrapI_lo (c+b) d
  have am:=wrapI_hi (c+b) d
  rw [<-hz] at mz ao am
  clear hl hx hz
  go_enter Tryz.func136,Tryz.ntmps136
  go_wp2_with fail
  rw [<-av.out,<-HB.out,<-HC.out]
  refine (mx _).mono ?_
  rintro e w' ⟨rfl,rfl⟩
  go_wp2_with fail
  refine (mz _).mono ?_
  rintro e w' ⟨rfl,rfl⟩
  go_wp2_with fail
  refine pt_ret (z0:=.int .i64 0) (z1:=.int .i64 0) (z2:=.int .i64 0) (z3:=.int .i64 0) (t:=86) (by repeat (first | exact aq.out | refine Blk.far ?_ ac _)) ?_
  intro X hX hY
  have x0:=hX.cell 0
  have x1:=hX.cell 1
  have x2:=hX.cell 2
  have x3:=hX.cell 3
  simp at x0 x1 x2 x3
  refine bodyPost_ret (v:=listV [x,b,z,e]) (by simp [results,Tryz.results136,go_sem,x0,x1,x2,x3,listV,vi]) rfl ?_
  refine ⟨rfl,Chg.trans (F':=[C]) ?_ hY (fun x hx => .inr (by simp at hx;have:=HB.out;have:=HC.out;omega))⟩
  repeat (first | exact au.out | refine Chg.setCell ?_ (.inr (by show _<=B;have:=HB.out;omega)) _)
 ·obtain ⟨fc,ag⟩:=zX (foldI c d)
  obtain ⟨sc,aA⟩:=zX (shrI fc 1)
  obtain ⟨t,ht⟩:=zX (wrapI (a-sc) d)
  obtain ⟨fb,ah⟩:=zX (foldI b d)
  obtain ⟨sb,aE⟩:=zX (shrI fb 1)
  obtain ⟨y,hy⟩:=zX (wrapI (t-sb) d)
  obtain ⟨x,hx⟩:=zX (wrapI (b+y) d)
  obtain ⟨z,hz⟩:=zX (wrapI (c+t) d)
  have hl:backP 2 d a b c e=[x,z,y,e]:=by rw [hz,hx,hy,aE,ah,ht,aA,ag];rfl
  rw [hl]
  have an:=fun w=>HF.out c w
  obtain ⟨ai,ad⟩:=fold_b c h0 h1
  rw [<-ag] at an ai ad
  have a4:fc / 2=sc:=aA.symm
  have aR : -32768<=sc:=by omega
  have aT:sc<=32768:=by omega
  have mt:=fun w=>HW.out (a-sc) w
  have aU:=wrapI_lo (a-sc) d
  have aS:=wrapI_hi (a-sc) d
  rw [<-ht] at mt aU aS
  have ar:=fun w=>HF.out b w
  obtain ⟨af,ae⟩:=fold_b b h0 h1
  rw [<-ah] at ar af ae
  have aW:fb / 2=sb:=aE.symm
  have aQ : -32768<=sb:=by omega
  have aO:sb<=32768:=by omega
  have my:=fun w=>HW.out (t-sb) w
  have aG:=wrapI_lo (t-sb) d
  have az:=wrapI_hi (t-sb) d
  rw [<-hy] at my aG az
  have mx:=fun w=>HW.out (b+y) w
  have ap:=wrapI_lo (b+y) d
  have aw:=wrapI_hi (b+y) d
  rw [<-hx] at mx ap aw
  have mz:=fun w=>HW.out (c+t) w
  have ao:=wrapI_lo (c+t) d
  have am:=wrapI_hi (c+t) d
  rw [<-hz] at mz ao am
  clear hl ag aA ht ah aE hy hx hz
  go_enter Tryz.func136,Tryz.ntmps136
  go_wp2_with fail
  rw [<-av.out,<-HB.out,<-HC.out]
  go_quiet (fail)
  go_wp2_with fail
  refine (an _).mono ?_
  rintro e w' ⟨rfl,rfl⟩
  go_wp2_with fail
  refine (mt _).mono ?_
  rintro e w' ⟨rfl,rfl⟩
  go_wp2_with fail
  refine (ar _).mono ?_
  rintro e w' ⟨rfl,rfl⟩
  go_wp2_with fail
  refine (my _).mono ?_
  rintro e w' ⟨rfl,rfl⟩
  go_wp2_with fail
  refine (mx _).mono ?_
  rintro e w' ⟨rfl,rfl⟩
  go_wp2_with fail
  refine (mz _).mono ?_
  rintro e w' ⟨rfl,rfl⟩
  go_wp2_with fail
  refine pt_ret (z0:=.int .i64 0) (z1:=.int .i64 0) (z2:=.int .i64 0) (z3:=.int .i64 0) (t:=86) (by repeat (first | exact aq.out.drewN nq | refine Blk.far ?_ ac _)) ?_
  intro X hX hY
  have x0:=hX.cell 0
  have x1:=hX.cell 1
  have x2:=hX.cell 2
  have x3:=hX.cell 3
  simp at x0 x1 x2 x3
  refine bodyPost_ret (v:=listV [x,z,y,e]) (by simp [results,Tryz.results136,go_sem,x0,x1,x2,x3,listV,vi]) rfl ?_
  refine ⟨rfl,Chg.trans (F':=[C]) ?_ hY (fun x hx => .inr (by simp at hx;have:=HB.out;have:=HC.out;omega))⟩
  repeat (first | exact au.out.drewN nq | refine Chg.setCell ?_ (.inr (by show _<=B;have:=HB.out;omega)) _)
 ·obtain ⟨fb,ah⟩:=zX (foldI b d)
  obtain ⟨fc,ag⟩:=zX (foldI c d)
  obtain ⟨s,hs⟩:=zX (shrI (fb+fc) 2)
  obtain ⟨y,hy⟩:=zX (wrapI (a-s) d)
  obtain ⟨x,hx⟩:=zX (wrapI (c+y) d)
  obtain ⟨z,hz⟩:=zX (wrapI (b+y) d)
  have hl:backP 3 d a b c e=[x,y,z,e]:=by rw [hz,hx,hy,hs,ag,ah];rfl
  rw [hl]
  have ar:=fun w=>HF.out b w
  obtain ⟨af,ae⟩:=fold_b b h0 h1
  rw [<-ah] at ar af ae
  have an:=fun w=>HF.out c w
  obtain ⟨ai,ad⟩:=fold_b c h0 h1
  rw [<-ag] at an ai ad
  have ms:(fb+fc) / 4=s:=hs.symm
  have aY : -32768<=s:=by omega
  have aX:s<=32768:=by omega
  have my:=fun w=>HW.out (a-s) w
  have aG:=wrapI_lo (a-s) d
  have az:=wrapI_hi (a-s) d
  rw [<-hy] at my aG az
  have mx:=fun w=>HW.out (c+y) w
  have ap:=wrapI_lo (c+y) d
  have aw:=wrapI_hi (c+y) d
  rw [<-hx] at mx ap aw
  have mz:=fun w=>HW.out (b+y) w
  have ao:=wrapI_lo (b+y) d
  have am:=wrapI_hi (b+y) d
  rw [<-hz] at mz ao am
  clear hl ah ag hs hy hx hz
  go_enter Tryz.func136,Tryz.ntmps136
  go_wp2_with fail
  rw [<-av.out,<-HB.out,<-HC.out]
  go_quiet (fail)
  go_wp2_with fail
  refine (ar _).mono ?_
  rintro e w' ⟨rfl,rfl⟩
  go_wp2_with fail
  refine (an _).mono ?_
  rintro e w' ⟨rfl,rfl⟩
  go_wp2_with fail
  refine (my _).mono ?_
  rintro e w' ⟨rfl,rfl⟩
  go_wp2_with fail
  refine (mx _).mono ?_
  rintro e w' ⟨rfl,rfl⟩
  go_wp2_with fail
  refine (mz _).mono ?_
  rintro e w' ⟨rfl,rfl⟩
  go_wp2_with fail
  refine pt_ret (z0:=.int .i64 0) (z1:=.int .i64 0) (z2:=.int .i64 0) (z3:=.int .i64 0) (t:=86) (by repeat (first | exact aq.out.drewN nq | refine Blk.far ?_ ac _)) ?_
  intro X hX hY
  have x0:=hX.cell 0
  have x1:=hX.cell 1
  have x2:=hX.cell 2
  have x3:=hX.cell 3
  simp at x0 x1 x2 x3
  refine bodyPost_ret (v:=listV [x,y,z,e]) (by simp [results,Tryz.results136,go_sem,x0,x1,x2,x3,listV,vi]) rfl ?_
  refine ⟨rfl,Chg.trans (F':=[C]) ?_ hY (fun x hx => .inr (by simp at hx;have:=HB.out;have:=HC.out;omega))⟩
  repeat (first | exact au.out.drewN nq | refine Chg.setCell ?_ (.inr (by show _<=B;have:=HB.out;omega)) _)
 ·obtain ⟨b',aH⟩:=zX (wrapI (b+a) d)
  obtain ⟨c',aD⟩:=zX (wrapI (c+b') d)
  obtain ⟨e',aJ⟩:=zX (wrapI (e+c') d)
  have hl:backP 4 d a b c e=[a,b',c',e']:=by rw [aJ,aD,aH];rfl
  rw [hl]
  have aL:=fun w=>HW.out (b+a) w
  have ax:=wrapI_lo (b+a) d
  have aF:=wrapI_hi (b+a) d
  rw [<-aH] at aL ax aF
  have aK:=fun w=>HW.out (c+b') w
  have aC:=wrapI_lo (c+b') d
  have ay:=wrapI_hi (c+b') d
  rw [<-aD] at aK aC ay
  have aM:=fun w=>HW.out (e+c') w
  have aB:=wrapI_lo (e+c') d
  have aI:=wrapI_hi (e+c') d
  rw [<-aJ] at aM aB aI
  clear hl aH aD aJ
  go_enter Tryz.func136,Tryz.ntmps136
  go_wp2_with fail
  rw [<-av.out,<-HB.out,<-HC.out]
  go_loopg [16] 3 (fun j s16 wr=>∃ i:Nat,s16=.int .i64 (1+i:Int)/\i+j=3/\Hid (Blk wr B 86 ((if i=0 then [a,b,c,e] else if i=1 then [a,b',c,e] else if i=2 then [a,b',c',e] else [a,b',c',e']).map vi).toArray)/\Hid (Blk wr C 86 #[.int .i64 0,.int .i64 0,.int .i64 0,.int .i64 0])/\Hid (Chg [] w wr))
  case atStart=>exact ⟨0,by simp,rfl,aP,aq,au⟩
  case round =>
   clear k0 k1 k2 k3 z0 z1 z2 z3 f0 f1 f2 f3 g0 g1 g2 g3
   obtain ⟨i,rfl,a3,HX,HY,HZ⟩:=hrel
   rcases (by omega:i=0\/i=1\/i=2\/i=3) with rfl | rfl | rfl | rfl
   ·have hX:Blk wr B 86 #[.int .i64 a,.int .i64 b,.int .i64 c,.int .i64 e]:=HX.out
    have k0:=hX.cell 0
    have f0:=hX.frozen 0
    have z0:=HY.out.cell 0
    have g0:=HY.out.frozen 0
    have k1:=hX.cell 1
    have f1:=hX.frozen 1
    have z1:=HY.out.cell 1
    have g1:=HY.out.frozen 1
    have k2:=hX.cell 2
    have f2:=hX.frozen 2
    have z2:=HY.out.cell 2
    have g2:=HY.out.frozen 2
    have k3:=hX.cell 3
    have f3:=hX.frozen 3
    have z3:=HY.out.cell 3
    have g3:=HY.out.frozen 3
    simp at k0 k1 k2 k3 z0 z1 z2 z3
    have aj:=hid hX
    clear hX
    go_wp2_with fail
    refine wp_region_quiet_tail 12 (by kernel_rfl) (by kernel_rfl) ?_
    simp only [List.take_succ_cons,List.take_zero,List.drop_succ_cons,List.drop_zero]
    repeat (go_big_quiet_step ((go_at_call 83;exact Calls.quiet_of_same ((aL _).mono (fun _ _ h=>⟨h.1,h.2.symm⟩)))))
    refine wpQuiet_nil ?_
    intro _ ak
    obtain ⟨nr,rfl⟩:=ak
    go_wp2_with fail
    go_roundg 2
    case measure=>omega
    case rel =>
     have hs:=(aj.out.drewN nr).set_ 1 (.int .i64 b')
     exact ⟨1,by simp,rfl,hid (by simpa [vi] using hs),hid ((HY.out.drewN nr).far ac _),hid ((HZ.out.drewN nr).setCell (.inr (by show _<=B;have:=HB.out;omega)) _)⟩
   ·have hX:Blk wr B 86 #[.int .i64 a,.int .i64 b',.int .i64 c,.int .i64 e]:=HX.out
    have k0:=hX.cell 0
    have f0:=hX.frozen 0
    have z0:=HY.out.cell 0
    have g0:=HY.out.frozen 0
    have k1:=hX.cell 1
    have f1:=hX.frozen 1
    have z1:=HY.out.cell 1
    have g1:=HY.out.frozen 1
    have k2:=hX.cell 2
    have f2:=hX.frozen 2
    have z2:=HY.out.cell 2
    have g2:=HY.out.frozen 2
    have k3:=hX.cell 3
    have f3:=hX.frozen 3
    have z3:=HY.out.cell 3
    have g3:=HY.out.frozen 3
    simp at k0 k1 k2 k3 z0 z1 z2 z3
    have aj:=hid hX
    clear hX
    go_wp2_with fail
    refine wp_region_quiet_tail 12 (by kernel_rfl) (by kernel_rfl) ?_
    simp only [List.take_succ_cons,List.take_zero,List.drop_succ_cons,List.drop_zero]
    repeat (go_big_quiet_step ((go_at_call 83;exact Calls.quiet_of_same ((aK _).mono (fun _ _ h=>⟨h.1,h.2.symm⟩)))))
    refine wpQuiet_nil ?_
    intro _ ak
    obtain ⟨nr,rfl⟩:=ak
    go_wp2_with fail
    go_roundg 1
    case measure=>omega
    case rel =>
     have hs:=(aj.out.drewN nr).set_ 2 (.int .i64 c')
     exact ⟨2,by simp,rfl,hid (by simpa [vi] using hs),hid ((HY.out.drewN nr).far ac _),hid ((HZ.out.drewN nr).setCell (.inr (by show _<=B;have:=HB.out;omega)) _)⟩
   ·have hX:Blk wr B 86 #[.int .i64 a,.int .i64 b',.int .i64 c',.int .i64 e]:=HX.out
    have k0:=hX.cell 0
    have f0:=hX.frozen 0
    have z0:=HY.out.cell 0
    have g0:=HY.out.frozen 0
    have k1:=hX.cell 1
    have f1:=hX.frozen 1
    have z1:=HY.out.cell 1
    have g1:=HY.out.frozen 1
    have k2:=hX.cell 2
    have f2:=hX.frozen 2
    have z2:=HY.out.cell 2
    have g2:=HY.out.frozen 2
    have k3:=hX.cell 3
    have f3:=hX.frozen 3
    have z3:=HY.out.cell 3
    have g3:=HY.out.frozen 3
    simp at k0 k1 k2 k3 z0 z1 z2 z3
    have aj:=hid hX
    clear hX
    go_wp2_with fail
    refine wp_region_quiet_tail 12 (by kernel_rfl) (by kernel_rfl) ?_
    simp only [List.take_succ_cons,List.take_zero,List.drop_succ_cons,List.drop_zero]
    repeat (go_big_quiet_step ((go_at_call 83;exact Calls.quiet_of_same ((aM _).mono (fun _ _ h=>⟨h.1,h.2.symm⟩)))))
    refine wpQuiet_nil ?_
    intro _ ak
    obtain ⟨nr,rfl⟩:=ak
    go_wp2_with fail
    go_roundg 0
    case measure=>omega
    case rel =>
     have hs:=(aj.out.drewN nr).set_ 3 (.int .i64 e')
     exact ⟨3,by simp,rfl,hid (by simpa [vi] using hs),hid ((HY.out.drewN nr).far ac _),hid ((HZ.out.drewN nr).setCell (.inr (by show _<=B;have:=HB.out;omega)) _)⟩
   ·have hX:Blk wr B 86 #[.int .i64 a,.int .i64 b',.int .i64 c',.int .i64 e']:=HX.out
    have k0:=hX.cell 0
    have f0:=hX.frozen 0
    have z0:=HY.out.cell 0
    have g0:=HY.out.frozen 0
    have k1:=hX.cell 1
    have f1:=hX.frozen 1
    have z1:=HY.out.cell 1
    have g1:=HY.out.frozen 1
    have k2:=hX.cell 2
    have f2:=hX.frozen 2
    have z2:=HY.out.cell 2
    have g2:=HY.out.frozen 2
    have k3:=hX.cell 3
    have f3:=hX.frozen 3
    have z3:=HY.out.cell 3
    have g3:=HY.out.frozen 3
    simp at k0 k1 k2 k3 z0 z1 z2 z3
    have aj:=hid hX
    clear hX
    go_wp2_with fail
    refine pt_ret (z0:=.int .i64 0) (z1:=.int .i64 0) (z2:=.int .i64 0) (z3:=.int .i64 0) (t:=86) (by repeat (first | exact HY.out | refine Blk.far ?_ ac _)) ?_
    intro X hX hY
    have x0:=hX.cell 0
    have x1:=hX.cell 1
    have x2:=hX.cell 2
    have x3:=hX.cell 3
    simp at x0 x1 x2 x3
    refine bodyPost_ret (v:=listV [a,b',c',e']) (by simp [results,Tryz.results136,go_sem,x0,x1,x2,x3,listV,vi]) rfl ?_
    refine ⟨rfl,Chg.trans (F':=[C]) ?_ hY (fun x hx => .inr (by simp at hx;have:=HB.out;have:=HC.out;omega))⟩
    repeat (first | exact HZ.out | refine Chg.setCell ?_ (.inr (by show _<=B;have:=HB.out;omega)) _)
end Go.Proofs.YtepjepkgcdfboaaGreatDoor
