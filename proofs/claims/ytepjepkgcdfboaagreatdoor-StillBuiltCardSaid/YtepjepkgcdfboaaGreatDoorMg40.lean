/- package hue by its contracts: May, a point turned and turned back. -/
import Derived.Test.YtepjepkgcdfboaaGreatDoorMg04
import Derived.Deep.Cut
set_option linter.unusedVariables false
set_option linter.unusedSimpArgs false
set_option maxHeartbeats 1000000
set_option maxRecDepth 100000
namespace Go.Proofs.YtepjepkgcdfboaaGreatDoor
open Go.RowKit
theorem c0z (n k:Nat) (w:World) (n0:1<=n) (n1:n<=4) (k4:k<=4):Calls Tryz.prog 12 #[.int .i64 n,.int .i64 k] w fun e w'=>e=.returned (.bool (b9k n k))/\w=w':=by
 have t1:decide ((n:Int)<1)=false:=zA (by omega)
 have t2:decide ((4:Int)<(n:Int))=false:=zA (by omega)
 have t3:decide ((3:Int)<=(n:Int))=decide (3<=n):=by rw [decide_eq_decide];omega
 have t4:decide ((2:Int)<=(n:Int))=decide (2<=n):=by rw [decide_eq_decide];omega
 have hm:b9k n k=(decide (k=0)||(decide (k=1\/k=2\/k=3)&&decide (3<=n))||(decide (k=4)&&decide (2<=n))):=by unfold b9k;rw [zB n0,zB n1];rfl
 rw [hm]
 clear hm
 rcases (by omega:k=0\/k=1\/k=2\/k=3\/k=4) with rfl | rfl | rfl | rfl | rfl
 all_goals
  generalize decide (3<=n)=x3 at *
  generalize decide (2<=n)=x2 at *
  go_enter Tryz.func12,Tryz.ntmps12
  go_wp2_with fail
  go_ret
  exact ⟨by cases x2<;>cases x3<;>rfl,rfl⟩
theorem d5f (w:World) (o:Obj):(w.alloc o).heap.size=w.heap.size+1:=by
 show (w.heap.push o).size=_
 exact Array.size_push _
theorem b5j (v:Int) {d:Nat} (h0:1<=d) (h1:d<=16) : -32768<=a1b v d/\a1b v d<=32767:=by
 obtain ⟨r0,r1⟩:=a2s v h0
 have h3:(2:Int)^(d-1)<=2^15:=by
  have:=Nat.pow_le_pow_right (n:=2) (by decide) (show d-1<=15 by omega)
  exact_mod_cast this
 omega
def f4t (a b c e:Int):Value:=.agg #[.int .i64 a,.int .i64 b,.int .i64 c,.int .i64 e]
def a5q (l:List Int):Value:=.agg (l.map vi).toArray
theorem a9x {F:Func} {Q:Ending->World->Prop} {a:Act} {Y:World} {C:Nat} {t:TypeId} {z0 z1 z2 z3 v0 v1 v2 v3:Value} (hY:Blk Y C t #[z0,z1,z2,z3])
  (h:∀ X,Blk X C t #[v0,v1,v2,v3]->Chg [C] Y X->bodyPost Tryz.prog F Q .ret a X) :
  bodyPost Tryz.prog F Q .ret a ((((Y.setCell ⟨C,0,none⟩ v0).setCell ⟨C,1,none⟩ v1).setCell ⟨C,2,none⟩ v2).setCell ⟨C,3,none⟩ v3):=by
 refine h _ ?_ ?_
 ·have:=(((hY.set_ 0 v0).set_ 1 v1).set_ 2 v2).set_ 3 v3
  simpa using this
 ·exact ((((zR [C] Y).setCell (p:=⟨C,0,none⟩) (.inl (by simp)) _).setCell (p:=⟨C,1,none⟩) (.inl (by simp)) _).setCell (p:=⟨C,2,none⟩) (.inl (by simp)) _).setCell (p:=⟨C,3,none⟩) (.inl (by simp)) _
theorem d8u (k d:Nat) (a b c e:Int) (w:World) (h0:1<=d) (h1:d<=16) (k4:k<=4) (ha:In4 d a) (hb:In4 d b) (hc:In4 d c) (he:In4 d e) :
  Calls Tryz.prog 44 #[f4t a b c e,.int .i64 k,.int .i64 d] w fun en w'=>en=.returned (a5q (a8x k d a b c e))/\Chg [] w w':=by
 obtain ⟨a2,a3⟩:=a9c h0 h1
 have hw:∀ v w,_:=fun v w=>b2n v d w h0 h1
 have hf:∀ v w,_:=fun v w=>a7x v d w h0 h1
 obtain ⟨a0,a1⟩:=ha
 obtain ⟨b0,b1⟩:=hb
 obtain ⟨c0,c1⟩:=hc
 obtain ⟨e0,e1⟩:=he
 unfold f4t
 obtain ⟨w1,aq⟩:=zX ((w.alloc (.cells #[.int .i64 a,.int .i64 b,.int .i64 c,.int .i64 e] 86)).alloc (.cells #[.int .i64 0,.int .i64 0,.int .i64 0,.int .i64 0] 86))
 obtain ⟨B,hB⟩:=zX (w.heap.size)
 obtain ⟨C,hC⟩:=zX (B+1)
 have aa:Blk w1 B 86 #[.int .i64 a,.int .i64 b,.int .i64 c,.int .i64 e]:=by rw [aq,hB];exact (Blk.new w _ _).alloc _
 have ab:Blk w1 C 86 #[.int .i64 0,.int .i64 0,.int .i64 0,.int .i64 0]:=by
  rw [aq,hC,hB]
  have:=Blk.new (w.alloc (.cells #[.int .i64 a,.int .i64 b,.int .i64 c,.int .i64 e] 86)) 86 #[.int .i64 0,.int .i64 0,.int .i64 0,.int .i64 0]
  rwa [d5f] at this
 have aK:Chg [] w w1:=by rw [aq];exact ((zR [] w).alloc _).alloc _
 have a6:B≠C:=by omega
 have ac:C≠B:=by omega
 have k0:=aa.cell 0
 have k1:=aa.cell 1
 have k2:=aa.cell 2
 have k3:=aa.cell 3
 have z0:=ab.cell 0
 have z1:=ab.cell 1
 have z2:=ab.cell 2
 have z3:=ab.cell 3
 have f0:=aa.frozen 0
 have f1:=aa.frozen 1
 have f2:=aa.frozen 2
 have f3:=aa.frozen 3
 have g0:=ab.frozen 0
 have g1:=ab.frozen 1
 have g2:=ab.frozen 2
 have g3:=ab.frozen 3
 simp at k0 k1 k2 k3 z0 z1 z2 z3
 have HW:=hid hw
 have HF:=hid hf
 have ao:=hid aq
 have am:=hid aK
 have HB:=hid hB
 have HC:=hid hC
 have aS:=hid aa
 have al:=hid ab
 clear hw hf aq aK aa ab hB hC
 rcases (by omega:k=0\/k=1\/k=2\/k=3\/k=4) with rfl | rfl | rfl | rfl | rfl
 ·have hl:a8x 0 d a b c e=[a,b,c,e]:=by rfl
  rw [hl]
  clear hl
  go_enter Tryz.func44,Tryz.ntmps44
  go_wp2_with fail
  rw [<-ao.out,<-HB.out,<-HC.out]
  go_quiet (fail)
  go_wp2_with fail
  refine a9x (z0:=.int .i64 0) (z1:=.int .i64 0) (z2:=.int .i64 0) (z3:=.int .i64 0) (t:=86) (by repeat (first | exact al.out.drewN nq | refine Blk.far ?_ ac _)) ?_
  intro X hX hY
  have x0:=hX.cell 0
  have x1:=hX.cell 1
  have x2:=hX.cell 2
  have x3:=hX.cell 3
  simp at x0 x1 x2 x3
  refine bodyPost_ret (v:=a5q [a,b,c,e]) (by simp [results,Tryz.results44,go_sem,x0,x1,x2,x3,a5q,vi]) rfl ?_
  refine ⟨rfl,Chg.trans (F':=[C]) ?_ hY (fun x hx => .inr (by simp at hx;have:=HB.out;have:=HC.out;omega))⟩
  repeat (first | exact am.out.drewN nq | refine Chg.setCell ?_ (.inr (by show _<=B;have:=HB.out;omega)) _)
 ·obtain ⟨x,hx⟩:=zX (a0k (a-b) d)
  obtain ⟨z,hz⟩:=zX (a0k (c-b) d)
  have hl:a8x 1 d a b c e=[x,b,z,e]:=by rw [hz,hx];rfl
  rw [hl]
  have mx:=fun w=>HW.out (a-b) w
  have aV:=a1j (a-b) d
  have aO:=a1i (a-b) d
  rw [<-hx] at mx aV aO
  have mz:=fun w=>HW.out (c-b) w
  have aQ:=a1j (c-b) d
  have aT:=a1i (c-b) d
  rw [<-hz] at mz aQ aT
  clear hl hx hz
  go_enter Tryz.func44,Tryz.ntmps44
  go_wp2_with fail
  rw [<-ao.out,<-HB.out,<-HC.out]
  go_quiet (fail)
  go_wp2_with fail
  refine (mx _).mono ?_
  rintro e w' ⟨rfl,rfl⟩
  go_wp2_with fail
  refine (mz _).mono ?_
  rintro e w' ⟨rfl,rfl⟩
  go_wp2_with fail
  refine a9x (z0:=.int .i64 0) (z1:=.int .i64 0) (z2:=.int .i64 0) (z3:=.int .i64 0) (t:=86) (by repeat (first | exact al.out.drewN nq | refine Blk.far ?_ ac _)) ?_
  intro X hX hY
  have x0:=hX.cell 0
  have x1:=hX.cell 1
  have x2:=hX.cell 2
  have x3:=hX.cell 3
  simp at x0 x1 x2 x3
  refine bodyPost_ret (v:=a5q [x,b,z,e]) (by simp [results,Tryz.results44,go_sem,x0,x1,x2,x3,a5q,vi]) rfl ?_
  refine ⟨rfl,Chg.trans (F':=[C]) ?_ hY (fun x hx => .inr (by simp at hx;have:=HB.out;have:=HC.out;omega))⟩
  repeat (first | exact am.out.drewN nq | refine Chg.setCell ?_ (.inr (by show _<=B;have:=HB.out;omega)) _)
 ·obtain ⟨u,hu⟩:=zX (a0k (a-c) d)
  obtain ⟨fu,af⟩:=zX (a1b u d)
  obtain ⟨su,aH⟩:=zX (b9e fu 1)
  obtain ⟨t,ht⟩:=zX (a0k (c+su) d)
  obtain ⟨v,hv⟩:=zX (a0k (b-t) d)
  obtain ⟨fv,ae⟩:=zX (a1b v d)
  obtain ⟨sv,ay⟩:=zX (b9e fv 1)
  obtain ⟨y,hy⟩:=zX (a0k (t+sv) d)
  have hl:a8x 2 d a b c e=[y,u,v,e]:=by rw [hy,ay,ae,hv,ht,aH,af,hu];rfl
  rw [hl]
  have mu:=fun w=>HW.out (a-c) w
  have ar:=a1j (a-c) d
  have au:=a1i (a-c) d
  rw [<-hu] at mu ar au
  have ak:=fun w=>HF.out u w
  obtain ⟨ai,ag⟩:=b5j u h0 h1
  rw [<-af] at ak ai ag
  have aZ:fu / 2=su:=aH.symm
  have aY : -32768<=su:=by omega
  have aW:su<=32768:=by omega
  have mt:=fun w=>HW.out (c+su) w
  have aU:=a1j (c+su) d
  have aX:=a1i (c+su) d
  rw [<-ht] at mt aU aX
  have mv:=fun w=>HW.out (b-t) w
  have aF:=a1j (b-t) d
  have aI:=a1i (b-t) d
  rw [<-hv] at mv aF aI
  have an:=fun w=>HF.out v w
  obtain ⟨ad,ah⟩:=b5j v h0 h1
  rw [<-ae] at an ad ah
  have a4:fv / 2=sv:=ay.symm
  have aP : -32768<=sv:=by omega
  have aR:sv<=32768:=by omega
  have my:=fun w=>HW.out (t+sv) w
  have aG:=a1j (t+sv) d
  have av:=a1i (t+sv) d
  rw [<-hy] at my aG av
  clear hl hu af aH ht hv ae ay hy
  go_enter Tryz.func44,Tryz.ntmps44
  go_wp2_with fail
  rw [<-ao.out,<-HB.out,<-HC.out]
  go_quiet (fail)
  go_wp2_with fail
  refine (mu _).mono ?_
  rintro e w' ⟨rfl,rfl⟩
  go_wp2_with fail
  refine (ak _).mono ?_
  rintro e w' ⟨rfl,rfl⟩
  go_wp2_with fail
  refine (mt _).mono ?_
  rintro e w' ⟨rfl,rfl⟩
  go_wp2_with fail
  refine (mv _).mono ?_
  rintro e w' ⟨rfl,rfl⟩
  go_wp2_with fail
  refine (an _).mono ?_
  rintro e w' ⟨rfl,rfl⟩
  go_wp2_with fail
  refine (my _).mono ?_
  rintro e w' ⟨rfl,rfl⟩
  go_wp2_with fail
  refine a9x (z0:=.int .i64 0) (z1:=.int .i64 0) (z2:=.int .i64 0) (z3:=.int .i64 0) (t:=86) (by repeat (first | exact al.out.drewN nq | refine Blk.far ?_ ac _)) ?_
  intro X hX hY
  have x0:=hX.cell 0
  have x1:=hX.cell 1
  have x2:=hX.cell 2
  have x3:=hX.cell 3
  simp at x0 x1 x2 x3
  refine bodyPost_ret (v:=a5q [y,u,v,e]) (by simp [results,Tryz.results44,go_sem,x0,x1,x2,x3,a5q,vi]) rfl ?_
  refine ⟨rfl,Chg.trans (F':=[C]) ?_ hY (fun x hx => .inr (by simp at hx;have:=HB.out;have:=HC.out;omega))⟩
  repeat (first | exact am.out.drewN nq | refine Chg.setCell ?_ (.inr (by show _<=B;have:=HB.out;omega)) _)
 ·obtain ⟨u,hu⟩:=zX (a0k (c-b) d)
  obtain ⟨v,hv⟩:=zX (a0k (a-b) d)
  obtain ⟨fu,af⟩:=zX (a1b u d)
  obtain ⟨fv,ae⟩:=zX (a1b v d)
  obtain ⟨s,hs⟩:=zX (b9e (fu+fv) 2)
  obtain ⟨y,hy⟩:=zX (a0k (b+s) d)
  have hl:a8x 3 d a b c e=[y,u,v,e]:=by rw [hy,hs,ae,af,hv,hu];rfl
  rw [hl]
  have mu:=fun w=>HW.out (c-b) w
  have ar:=a1j (c-b) d
  have au:=a1i (c-b) d
  rw [<-hu] at mu ar au
  have mv:=fun w=>HW.out (a-b) w
  have aF:=a1j (a-b) d
  have aI:=a1i (a-b) d
  rw [<-hv] at mv aF aI
  have ak:=fun w=>HF.out u w
  obtain ⟨ai,ag⟩:=b5j u h0 h1
  rw [<-af] at ak ai ag
  have an:=fun w=>HF.out v w
  obtain ⟨ad,ah⟩:=b5j v h0 h1
  rw [<-ae] at an ad ah
  have ms:(fu+fv) / 4=s:=hs.symm
  have a5 : -32768<=s:=by omega
  have a8:s<=32768:=by omega
  have my:=fun w=>HW.out (b+s) w
  have aG:=a1j (b+s) d
  have av:=a1i (b+s) d
  rw [<-hy] at my aG av
  clear hl hu hv af ae hs hy
  go_enter Tryz.func44,Tryz.ntmps44
  go_wp2_with fail
  rw [<-ao.out,<-HB.out,<-HC.out]
  go_quiet (fail)
  go_wp2_with fail
  refine (mu _).mono ?_
  rintro e w' ⟨rfl,rfl⟩
  go_wp2_with fail
  refine (mv _).mono ?_
  rintro e w' ⟨rfl,rfl⟩
  go_wp2_with fail
  refine (ak _).mono ?_
  rintro e w' ⟨rfl,rfl⟩
  go_wp2_with fail
  refine (an _).mono ?_
  rintro e w' ⟨rfl,rfl⟩
  go_wp2_with fail
  refine (my _).mono ?_
  rintro e w' ⟨rfl,rfl⟩
  go_wp2_with fail
  refine a9x (z0:=.int .i64 0) (z1:=.int .i64 0) (z2:=.int .i64 0) (z3:=.int .i64 0) (t:=86) (by repeat (first | exact al.out.drewN nq | refine Blk.far ?_ ac _)) ?_
  intro X hX hY
  have x0:=hX.cell 0
  have x1:=hX.cell 1
  have x2:=hX.cell 2
  have x3:=hX.cell 3
  simp at x0 x1 x2 x3
  refine bodyPost_ret (v:=a5q [y,u,v,e]) (by simp [results,Tryz.results44,go_sem,x0,x1,x2,x3,a5q,vi]) rfl ?_
  refine ⟨rfl,Chg.trans (F':=[C]) ?_ hY (fun x hx => .inr (by simp at hx;have:=HB.out;have:=HC.out;omega))⟩
  repeat (first | exact am.out.drewN nq | refine Chg.setCell ?_ (.inr (by show _<=B;have:=HB.out;omega)) _)
 ·obtain ⟨e',aA⟩:=zX (a0k (e-c) d)
  obtain ⟨c',aB⟩:=zX (a0k (c-b) d)
  obtain ⟨b',ax⟩:=zX (a0k (b-a) d)
  have hl:a8x 4 d a b c e=[a,b',c',e']:=by rw [ax,aB,aA];rfl
  rw [hl]
  have aL:=fun w=>HW.out (e-c) w
  have aD:=a1j (e-c) d
  have aC:=a1i (e-c) d
  rw [<-aA] at aL aD aC
  have aM:=fun w=>HW.out (c-b) w
  have az:=a1j (c-b) d
  have aJ:=a1i (c-b) d
  rw [<-aB] at aM az aJ
  have aN:=fun w=>HW.out (b-a) w
  have aE:=a1j (b-a) d
  have aw:=a1i (b-a) d
  rw [<-ax] at aN aE aw
  clear hl aA aB ax
  go_enter Tryz.func44,Tryz.ntmps44
  go_wp2_with fail
  rw [<-ao.out,<-HB.out,<-HC.out]
  go_quiet (fail)
  go_wp2_with fail
  go_loopg [15] 3 (fun j s15 wr=>∃ i:Nat,s15=.int .i64 (3-i:Int)/\i+j=3/\Hid (Blk wr B 86 ((if i=0 then [a,b,c,e] else if i=1 then [a,b,c,e'] else if i=2 then [a,b,c',e'] else [a,b',c',e']).map vi).toArray)/\Hid (Blk wr C 86 #[.int .i64 0,.int .i64 0,.int .i64 0,.int .i64 0])/\Hid (Chg [] w wr))
  case atStart=>exact ⟨0,by simp,rfl,hid (aS.out.drewN nq),hid (al.out.drewN nq),hid (am.out.drewN nq)⟩
  case round =>
   clear k0 k1 k2 k3 z0 z1 z2 z3 f0 f1 f2 f3 g0 g1 g2 g3
   obtain ⟨i,rfl,a7,HX,HY,HZ⟩:=hrel
   rcases (by omega:i=0\/i=1\/i=2\/i=3) with rfl | rfl | rfl | rfl
   ·have hX:Blk wr B 86 #[.int .i64 a,.int .i64 b,.int .i64 c,.int .i64 e]:=HX.out
    have k0:=hX.cell 0
    have f0:=hX.frozen 0
    have z0:=HY.out.cell 0
    have g0:=HY.out.frozen 0
    have k1:=hX.cell 1
    have f1:=hX.frozen 1
    have z1:=HY.out.cell 1
    have g1:=HY.out.frozen 1
    have k2:=hX.cell 2
    have f2:=hX.frozen 2
    have z2:=HY.out.cell 2
    have g2:=HY.out.frozen 2
    have k3:=hX.cell 3
    have f3:=hX.frozen 3
    have z3:=HY.out.cell 3
    have g3:=HY.out.frozen 3
    simp at k0 k1 k2 k3 z0 z1 z2 z3
    have aj:=hid hX
    clear hX
    go_wp2_with fail
    refine a0c 12 (by kernel_rfl) (by kernel_rfl) ?_
    simp only [List.take_succ_cons,List.take_zero,List.drop_succ_cons,List.drop_zero]
    repeat (go_big_quiet_step ((go_at_call 83;exact Calls.quiet_of_same ((aL _).mono (fun _ _ h=>⟨h.1,h.2.symm⟩)))))
    refine wpQuiet_nil ?_
    intro _ ap
    obtain ⟨nr,rfl⟩:=ap
    go_wp2_with fail
    go_roundg 2
    case measure=>omega
    case rel =>
     have hs:=(aj.out.drewN nr).set_ 3 (.int .i64 e')
     exact ⟨1,by simp,rfl,hid (by simpa [vi] using hs),hid ((HY.out.drewN nr).far ac _),hid ((HZ.out.drewN nr).setCell (.inr (by show _<=B;have:=HB.out;omega)) _)⟩
   ·have hX:Blk wr B 86 #[.int .i64 a,.int .i64 b,.int .i64 c,.int .i64 e']:=HX.out
    have k0:=hX.cell 0
    have f0:=hX.frozen 0
    have z0:=HY.out.cell 0
    have g0:=HY.out.frozen 0
    have k1:=hX.cell 1
    have f1:=hX.frozen 1
    have z1:=HY.out.cell 1
    have g1:=HY.out.frozen 1
    have k2:=hX.cell 2
    have f2:=hX.frozen 2
    have z2:=HY.out.cell 2
    have g2:=HY.out.frozen 2
    have k3:=hX.cell 3
    have f3:=hX.frozen 3
    have z3:=HY.out.cell 3
    have g3:=HY.out.frozen 3
    simp at k0 k1 k2 k3 z0 z1 z2 z3
    have aj:=hid hX
    clear hX
    go_wp2_with fail
    refine a0c 12 (by kernel_rfl) (by kernel_rfl) ?_
    simp only [List.take_succ_cons,List.take_zero,List.drop_succ_cons,List.drop_zero]
    repeat (go_big_quiet_step ((go_at_call 83;exact Calls.quiet_of_same ((aM _).mono (fun _ _ h=>⟨h.1,h.2.symm⟩)))))
    refine wpQuiet_nil ?_
    intro _ ap
    obtain ⟨nr,rfl⟩:=ap
    go_wp2_with fail
    go_roundg 1
    case measure=>omega
    case rel =>
     have hs:=(aj.out.drewN nr).set_ 2 (.int .i64 c')
     exact ⟨2,by simp,rfl,hid (by simpa [vi] using hs),hid ((HY.out.drewN nr).far ac _),hid ((HZ.out.drewN nr).setCell (.inr (by show _<=B;have:=HB.out;omega)) _)⟩
   ·have hX:Blk wr B 86 #[.int .i64 a,.int .i64 b,.int .i64 c',.int .i64 e']:=HX.out
    have k0:=hX.cell 0
    have f0:=hX.frozen 0
    have z0:=HY.out.cell 0
    have g0:=HY.out.frozen 0
    have k1:=hX.cell 1
    have f1:=hX.frozen 1
    have z1:=HY.out.cell 1
    have g1:=HY.out.frozen 1
    have k2:=hX.cell 2
    have f2:=hX.frozen 2
    have z2:=HY.out.cell 2
    have g2:=HY.out.frozen 2
    have k3:=hX.cell 3
    have f3:=hX.frozen 3
    have z3:=HY.out.cell 3
    have g3:=HY.out.frozen 3
    simp at k0 k1 k2 k3 z0 z1 z2 z3
    have aj:=hid hX
    clear hX
    go_wp2_with fail
    refine a0c 12 (by kernel_rfl) (by kernel_rfl) ?_
    simp only [List.take_succ_cons,List.take_zero,List.drop_succ_cons,List.drop_zero]
    repeat (go_big_quiet_step ((go_at_call 83;exact Calls.quiet_of_same ((aN _).mono (fun _ _ h=>⟨h.1,h.2.symm⟩)))))
    refine wpQuiet_nil ?_
    intro _ ap
    obtain ⟨nr,rfl⟩:=ap
    go_wp2_with fail
    go_roundg 0
    case measure=>omega
    case rel =>
     have hs:=(aj.out.drewN nr).set_ 1 (.int .i64 b')
     exact ⟨3,by simp,rfl,hid (by simpa [vi] using hs),hid ((HY.out.drewN nr).far ac _),hid ((HZ.out.drewN nr).setCell (.inr (by show _<=B;have:=HB.out;omega)) _)⟩
   ·have hX:Blk wr B 86 #[.int .i64 a,.int .i64 b',.int .i64 c',.int .i64 e']:=HX.out
    have k0:=hX.cell 0
    have f0:=hX.frozen 0
    have z0:=HY.out.cell 0
    have g0:=HY.out.frozen 0
    have k1:=hX.cell 1
    have f1:=hX.frozen 1
    have z1:=HY.out.cell 1
    have g1:=HY.out.frozen 1
    have k2:=hX.cell 2
    have f2:=hX.frozen 2
    have z2:=HY.out.cell 2
    have g2:=HY.out.frozen 2
    have k3:=hX.cell 3
    have f3:=hX.frozen 3
    have z3:=HY.out.cell 3
    have g3:=HY.out.frozen 3
    simp at k0 k1 k2 k3 z0 z1 z2 z3
    have aj:=hid hX
    clear hX
    go_wp2_with fail
    refine a9x (z0:=.int .i64 0) (z1:=.int .i64 0) (z2:=.int .i64 0) (z3:=.int .i64 0) (t:=86) (by repeat (first | exact HY.out | refine Blk.far ?_ ac _)) ?_
    intro X hX hY
    have x0:=hX.cell 0
    have x1:=hX.cell 1
    have x2:=hX.cell 2
    have x3:=hX.cell 3
    simp at x0 x1 x2 x3
    refine bodyPost_ret (v:=a5q [a,b',c',e']) (by simp [results,Tryz.results44,go_sem,x0,x1,x2,x3,a5q,vi]) rfl ?_
    refine ⟨rfl,Chg.trans (F':=[C]) ?_ hY (fun x hx => .inr (by simp at hx;have:=HB.out;have:=HC.out;omega))⟩
    repeat (first | exact HZ.out | refine Chg.setCell ?_ (.inr (by show _<=B;have:=HB.out;omega)) _)
theorem d8e (k d:Nat) (a b c e:Int) (w:World) (h0:1<=d) (h1:d<=16) (k4:k<=4) (ha:In4 d a) (hb:In4 d b) (hc:In4 d c) (he:In4 d e) :
  Calls Tryz.prog 136 #[f4t a b c e,.int .i64 k,.int .i64 d] w fun en w'=>en=.returned (a5q (a5j k d a b c e))/\Chg [] w w':=by
 obtain ⟨aV,aW⟩:=a9c h0 h1
 have hw:∀ v w,_:=fun v w=>b2n v d w h0 h1
 have hf:∀ v w,_:=fun v w=>a7x v d w h0 h1
 obtain ⟨a0,a1⟩:=ha
 obtain ⟨b0,b1⟩:=hb
 obtain ⟨c0,c1⟩:=hc
 obtain ⟨e0,e1⟩:=he
 unfold f4t
 obtain ⟨w1,aw⟩:=zX ((w.alloc (.cells #[.int .i64 a,.int .i64 b,.int .i64 c,.int .i64 e] 86)).alloc (.cells #[.int .i64 0,.int .i64 0,.int .i64 0,.int .i64 0] 86))
 obtain ⟨B,hB⟩:=zX (w.heap.size)
 obtain ⟨C,hC⟩:=zX (B+1)
 have aa:Blk w1 B 86 #[.int .i64 a,.int .i64 b,.int .i64 c,.int .i64 e]:=by rw [aw,hB];exact (Blk.new w _ _).alloc _
 have ab:Blk w1 C 86 #[.int .i64 0,.int .i64 0,.int .i64 0,.int .i64 0]:=by
  rw [aw,hC,hB]
  have:=Blk.new (w.alloc (.cells #[.int .i64 a,.int .i64 b,.int .i64 c,.int .i64 e] 86)) 86 #[.int .i64 0,.int .i64 0,.int .i64 0,.int .i64 0]
  rwa [d5f] at this
 have aK:Chg [] w w1:=by rw [aw];exact ((zR [] w).alloc _).alloc _
 have aY:B≠C:=by omega
 have ac:C≠B:=by omega
 have k0:=aa.cell 0
 have k1:=aa.cell 1
 have k2:=aa.cell 2
 have k3:=aa.cell 3
 have z0:=ab.cell 0
 have z1:=ab.cell 1
 have z2:=ab.cell 2
 have z3:=ab.cell 3
 have f0:=aa.frozen 0
 have f1:=aa.frozen 1
 have f2:=aa.frozen 2
 have f3:=aa.frozen 3
 have g0:=ab.frozen 0
 have g1:=ab.frozen 1
 have g2:=ab.frozen 2
 have g3:=ab.frozen 3
 simp at k0 k1 k2 k3 z0 z1 z2 z3
 have HW:=hid hw
 have HF:=hid hf
 have ap:=hid aw
 have am:=hid aK
 have HB:=hid hB
 have HC:=hid hC
 have aP:=hid aa
 have al:=hid ab
 clear hw hf aw aK aa ab hB hC
 rcases (by omega:k=0\/k=1\/k=2\/k=3\/k=4) with rfl | rfl | rfl | rfl | rfl
 ·have hl:a5j 0 d a b c e=[a,b,c,e]:=by rfl
  rw [hl]
  clear hl
  go_enter Tryz.func136,Tryz.ntmps136
  go_upto_region 1 with (fail)
  rw [<-ap.out,<-HB.out,<-HC.out]
  go_wp2_with fail
  refine a9x (z0:=.int .i64 0) (z1:=.int .i64 0) (z2:=.int .i64 0) (z3:=.int .i64 0) (t:=86) (by repeat (first | exact al.out | refine Blk.far ?_ ac _)) ?_
  intro X hX hY
  have x0:=hX.cell 0
  have x1:=hX.cell 1
  have x2:=hX.cell 2
  have x3:=hX.cell 3
  simp at x0 x1 x2 x3
  refine bodyPost_ret (v:=a5q [a,b,c,e]) (by simp [results,Tryz.results136,go_sem,x0,x1,x2,x3,a5q,vi]) rfl ?_
  refine ⟨rfl,Chg.trans (F':=[C]) ?_ hY (fun x hx => .inr (by simp at hx;have:=HB.out;have:=HC.out;omega))⟩
  repeat (first | exact am.out | refine Chg.setCell ?_ (.inr (by show _<=B;have:=HB.out;omega)) _)
 ·obtain ⟨x,hx⟩:=zX (a0k (a+b) d)
  obtain ⟨z,hz⟩:=zX (a0k (c+b) d)
  have hl:a5j 1 d a b c e=[x,b,z,e]:=by rw [hz,hx];rfl
  rw [hl]
  have mx:=fun w=>HW.out (a+b) w
  have aq:=a1j (a+b) d
  have ak:=a1i (a+b) d
  rw [<-hx] at mx aq ak
  have mz:=fun w=>HW.out (c+b) w
  have an:=a1j (c+b) d
  have ao:=a1i (c+b) d
  rw [<-hz] at mz an ao
  clear hl hx hz
  go_enter Tryz.func136,Tryz.ntmps136
  go_wp2_with fail
  rw [<-ap.out,<-HB.out,<-HC.out]
  refine (mx _).mono ?_
  rintro e w' ⟨rfl,rfl⟩
  go_wp2_with fail
  refine (mz _).mono ?_
  rintro e w' ⟨rfl,rfl⟩
  go_wp2_with fail
  refine a9x (z0:=.int .i64 0) (z1:=.int .i64 0) (z2:=.int .i64 0) (z3:=.int .i64 0) (t:=86) (by repeat (first | exact al.out | refine Blk.far ?_ ac _)) ?_
  intro X hX hY
  have x0:=hX.cell 0
  have x1:=hX.cell 1
  have x2:=hX.cell 2
  have x3:=hX.cell 3
  simp at x0 x1 x2 x3
  refine bodyPost_ret (v:=a5q [x,b,z,e]) (by simp [results,Tryz.results136,go_sem,x0,x1,x2,x3,a5q,vi]) rfl ?_
  refine ⟨rfl,Chg.trans (F':=[C]) ?_ hY (fun x hx => .inr (by simp at hx;have:=HB.out;have:=HC.out;omega))⟩
  repeat (first | exact am.out | refine Chg.setCell ?_ (.inr (by show _<=B;have:=HB.out;omega)) _)
 ·obtain ⟨fc,af⟩:=zX (a1b c d)
  obtain ⟨sc,aD⟩:=zX (b9e fc 1)
  obtain ⟨t,ht⟩:=zX (a0k (a-sc) d)
  obtain ⟨fb,ai⟩:=zX (a1b b d)
  obtain ⟨sb,aI⟩:=zX (b9e fb 1)
  obtain ⟨y,hy⟩:=zX (a0k (t-sb) d)
  obtain ⟨x,hx⟩:=zX (a0k (b+y) d)
  obtain ⟨z,hz⟩:=zX (a0k (c+t) d)
  have hl:a5j 2 d a b c e=[x,z,y,e]:=by rw [hz,hx,hy,aI,ai,ht,aD,af];rfl
  rw [hl]
  have av:=fun w=>HF.out c w
  obtain ⟨ae,ah⟩:=b5j c h0 h1
  rw [<-af] at av ae ah
  have a2:fc / 2=sc:=aD.symm
  have aS : -32768<=sc:=by omega
  have aT:sc<=32768:=by omega
  have mt:=fun w=>HW.out (a-sc) w
  have aQ:=a1j (a-sc) d
  have aU:=a1i (a-sc) d
  rw [<-ht] at mt aQ aU
  have ar:=fun w=>HF.out b w
  obtain ⟨ad,ag⟩:=b5j b h0 h1
  rw [<-ai] at ar ad ag
  have aX:fb / 2=sb:=aI.symm
  have aR : -32768<=sb:=by omega
  have aO:sb<=32768:=by omega
  have my:=fun w=>HW.out (t-sb) w
  have aH:=a1j (t-sb) d
  have ax:=a1i (t-sb) d
  rw [<-hy] at my aH ax
  have mx:=fun w=>HW.out (b+y) w
  have aq:=a1j (b+y) d
  have ak:=a1i (b+y) d
  rw [<-hx] at mx aq ak
  have mz:=fun w=>HW.out (c+t) w
  have an:=a1j (c+t) d
  have ao:=a1i (c+t) d
  rw [<-hz] at mz an ao
  clear hl af aD ht ai aI hy hx hz
  go_enter Tryz.func136,Tryz.ntmps136
  go_wp2_with fail
  rw [<-ap.out,<-HB.out,<-HC.out]
  go_quiet (fail)
  go_wp2_with fail
  refine (av _).mono ?_
  rintro e w' ⟨rfl,rfl⟩
  go_wp2_with fail
  refine (mt _).mono ?_
  rintro e w' ⟨rfl,rfl⟩
  go_wp2_with fail
  refine (ar _).mono ?_
  rintro e w' ⟨rfl,rfl⟩
  go_wp2_with fail
  refine (my _).mono ?_
  rintro e w' ⟨rfl,rfl⟩
  go_wp2_with fail
  refine (mx _).mono ?_
  rintro e w' ⟨rfl,rfl⟩
  go_wp2_with fail
  refine (mz _).mono ?_
  rintro e w' ⟨rfl,rfl⟩
  go_wp2_with fail
  refine a9x (z0:=.int .i64 0) (z1:=.int .i64 0) (z2:=.int .i64 0) (z3:=.int .i64 0) (t:=86) (by repeat (first | exact al.out.drewN nq | refine Blk.far ?_ ac _)) ?_
  intro X hX hY
  have x0:=hX.cell 0
  have x1:=hX.cell 1
  have x2:=hX.cell 2
  have x3:=hX.cell 3
  simp at x0 x1 x2 x3
  refine bodyPost_ret (v:=a5q [x,z,y,e]) (by simp [results,Tryz.results136,go_sem,x0,x1,x2,x3,a5q,vi]) rfl ?_
  refine ⟨rfl,Chg.trans (F':=[C]) ?_ hY (fun x hx => .inr (by simp at hx;have:=HB.out;have:=HC.out;omega))⟩
  repeat (first | exact am.out.drewN nq | refine Chg.setCell ?_ (.inr (by show _<=B;have:=HB.out;omega)) _)
 ·obtain ⟨fb,ai⟩:=zX (a1b b d)
  obtain ⟨fc,af⟩:=zX (a1b c d)
  obtain ⟨s,hs⟩:=zX (b9e (fb+fc) 2)
  obtain ⟨y,hy⟩:=zX (a0k (a-s) d)
  obtain ⟨x,hx⟩:=zX (a0k (c+y) d)
  obtain ⟨z,hz⟩:=zX (a0k (b+y) d)
  have hl:a5j 3 d a b c e=[x,y,z,e]:=by rw [hz,hx,hy,hs,af,ai];rfl
  rw [hl]
  have ar:=fun w=>HF.out b w
  obtain ⟨ad,ag⟩:=b5j b h0 h1
  rw [<-ai] at ar ad ag
  have av:=fun w=>HF.out c w
  obtain ⟨ae,ah⟩:=b5j c h0 h1
  rw [<-af] at av ae ah
  have ms:(fb+fc) / 4=s:=hs.symm
  have a4 : -32768<=s:=by omega
  have a3:s<=32768:=by omega
  have my:=fun w=>HW.out (a-s) w
  have aH:=a1j (a-s) d
  have ax:=a1i (a-s) d
  rw [<-hy] at my aH ax
  have mx:=fun w=>HW.out (c+y) w
  have aq:=a1j (c+y) d
  have ak:=a1i (c+y) d
  rw [<-hx] at mx aq ak
  have mz:=fun w=>HW.out (b+y) w
  have an:=a1j (b+y) d
  have ao:=a1i (b+y) d
  rw [<-hz] at mz an ao
  clear hl ai af hs hy hx hz
  go_enter Tryz.func136,Tryz.ntmps136
  go_wp2_with fail
  rw [<-ap.out,<-HB.out,<-HC.out]
  go_quiet (fail)
  go_wp2_with fail
  refine (ar _).mono ?_
  rintro e w' ⟨rfl,rfl⟩
  go_wp2_with fail
  refine (av _).mono ?_
  rintro e w' ⟨rfl,rfl⟩
  go_wp2_with fail
  refine (my _).mono ?_
  rintro e w' ⟨rfl,rfl⟩
  go_wp2_with fail
  refine (mx _).mono ?_
  rintro e w' ⟨rfl,rfl⟩
  go_wp2_with fail
  refine (mz _).mono ?_
  rintro e w' ⟨rfl,rfl⟩
  go_wp2_with fail
  refine a9x (z0:=.int .i64 0) (z1:=.int .i64 0) (z2:=.int .i64 0) (z3:=.int .i64 0) (t:=86) (by repeat (first | exact al.out.drewN nq | refine Blk.far ?_ ac _)) ?_
  intro X hX hY
  have x0:=hX.cell 0
  have x1:=hX.cell 1
  have x2:=hX.cell 2
  have x3:=hX.cell 3
  simp at x0 x1 x2 x3
  refine bodyPost_ret (v:=a5q [x,y,z,e]) (by simp [results,Tryz.results136,go_sem,x0,x1,x2,x3,a5q,vi]) rfl ?_
  refine ⟨rfl,Chg.trans (F':=[C]) ?_ hY (fun x hx => .inr (by simp at hx;have:=HB.out;have:=HC.out;omega))⟩
  repeat (first | exact am.out.drewN nq | refine Chg.setCell ?_ (.inr (by show _<=B;have:=HB.out;omega)) _)
 ·obtain ⟨b',az⟩:=zX (a0k (b+a) d)
  obtain ⟨c',aC⟩:=zX (a0k (c+b') d)
  obtain ⟨e',aB⟩:=zX (a0k (e+c') d)
  have hl:a5j 4 d a b c e=[a,b',c',e']:=by rw [aB,aC,az];rfl
  rw [hl]
  have aM:=fun w=>HW.out (b+a) w
  have aG:=a1j (b+a) d
  have ay:=a1i (b+a) d
  rw [<-az] at aM aG ay
  have aN:=fun w=>HW.out (c+b') w
  have aA:=a1j (c+b') d
  have aJ:=a1i (c+b') d
  rw [<-aC] at aN aA aJ
  have aL:=fun w=>HW.out (e+c') w
  have aF:=a1j (e+c') d
  have aE:=a1i (e+c') d
  rw [<-aB] at aL aF aE
  clear hl az aC aB
  go_enter Tryz.func136,Tryz.ntmps136
  go_wp2_with fail
  rw [<-ap.out,<-HB.out,<-HC.out]
  go_loopg [16] 3 (fun j s16 wr=>∃ i:Nat,s16=.int .i64 (1+i:Int)/\i+j=3/\Hid (Blk wr B 86 ((if i=0 then [a,b,c,e] else if i=1 then [a,b',c,e] else if i=2 then [a,b',c',e] else [a,b',c',e']).map vi).toArray)/\Hid (Blk wr C 86 #[.int .i64 0,.int .i64 0,.int .i64 0,.int .i64 0])/\Hid (Chg [] w wr))
  case atStart=>exact ⟨0,by simp,rfl,aP,al,am⟩
  case round =>
   clear k0 k1 k2 k3 z0 z1 z2 z3 f0 f1 f2 f3 g0 g1 g2 g3
   obtain ⟨i,rfl,aZ,HX,HY,HZ⟩:=hrel
   rcases (by omega:i=0\/i=1\/i=2\/i=3) with rfl | rfl | rfl | rfl
   ·have hX:Blk wr B 86 #[.int .i64 a,.int .i64 b,.int .i64 c,.int .i64 e]:=HX.out
    have k0:=hX.cell 0
    have f0:=hX.frozen 0
    have z0:=HY.out.cell 0
    have g0:=HY.out.frozen 0
    have k1:=hX.cell 1
    have f1:=hX.frozen 1
    have z1:=HY.out.cell 1
    have g1:=HY.out.frozen 1
    have k2:=hX.cell 2
    have f2:=hX.frozen 2
    have z2:=HY.out.cell 2
    have g2:=HY.out.frozen 2
    have k3:=hX.cell 3
    have f3:=hX.frozen 3
    have z3:=HY.out.cell 3
    have g3:=HY.out.frozen 3
    simp at k0 k1 k2 k3 z0 z1 z2 z3
    have aj:=hid hX
    clear hX
    go_wp2_with fail
    refine a0c 12 (by kernel_rfl) (by kernel_rfl) ?_
    simp only [List.take_succ_cons,List.take_zero,List.drop_succ_cons,List.drop_zero]
    repeat (go_big_quiet_step ((go_at_call 83;exact Calls.quiet_of_same ((aM _).mono (fun _ _ h=>⟨h.1,h.2.symm⟩)))))
    refine wpQuiet_nil ?_
    intro _ au
    obtain ⟨nr,rfl⟩:=au
    go_wp2_with fail
    go_roundg 2
    case measure=>omega
    case rel =>
     have hs:=(aj.out.drewN nr).set_ 1 (.int .i64 b')
     exact ⟨1,by simp,rfl,hid (by simpa [vi] using hs),hid ((HY.out.drewN nr).far ac _),hid ((HZ.out.drewN nr).setCell (.inr (by show _<=B;have:=HB.out;omega)) _)⟩
   ·have hX:Blk wr B 86 #[.int .i64 a,.int .i64 b',.int .i64 c,.int .i64 e]:=HX.out
    have k0:=hX.cell 0
    have f0:=hX.frozen 0
    have z0:=HY.out.cell 0
    have g0:=HY.out.frozen 0
    have k1:=hX.cell 1
    have f1:=hX.frozen 1
    have z1:=HY.out.cell 1
    have g1:=HY.out.frozen 1
    have k2:=hX.cell 2
    have f2:=hX.frozen 2
    have z2:=HY.out.cell 2
    have g2:=HY.out.frozen 2
    have k3:=hX.cell 3
    have f3:=hX.frozen 3
    have z3:=HY.out.cell 3
    have g3:=HY.out.frozen 3
    simp at k0 k1 k2 k3 z0 z1 z2 z3
    have aj:=hid hX
    clear hX
    go_wp2_with fail
    refine a0c 12 (by kernel_rfl) (by kernel_rfl) ?_
    simp only [List.take_succ_cons,List.take_zero,List.drop_succ_cons,List.drop_zero]
    repeat (go_big_quiet_step ((go_at_call 83;exact Calls.quiet_of_same ((aN _).mono (fun _ _ h=>⟨h.1,h.2.symm⟩)))))
    refine wpQuiet_nil ?_
    intro _ au
    obtain ⟨nr,rfl⟩:=au
    go_wp2_with fail
    go_roundg 1
    case measure=>omega
    case rel =>
     have hs:=(aj.out.drewN nr).set_ 2 (.int .i64 c')
     exact ⟨2,by simp,rfl,hid (by simpa [vi] using hs),hid ((HY.out.drewN nr).far ac _),hid ((HZ.out.drewN nr).setCell (.inr (by show _<=B;have:=HB.out;omega)) _)⟩
   ·have hX:Blk wr B 86 #[.int .i64 a,.int .i64 b',.int .i64 c',.int .i64 e]:=HX.out
    have k0:=hX.cell 0
    have f0:=hX.frozen 0
    have z0:=HY.out.cell 0
    have g0:=HY.out.frozen 0
    have k1:=hX.cell 1
    have f1:=hX.frozen 1
    have z1:=HY.out.cell 1
    have g1:=HY.out.frozen 1
    have k2:=hX.cell 2
    have f2:=hX.frozen 2
    have z2:=HY.out.cell 2
    have g2:=HY.out.frozen 2
    have k3:=hX.cell 3
    have f3:=hX.frozen 3
    have z3:=HY.out.cell 3
    have g3:=HY.out.frozen 3
    simp at k0 k1 k2 k3 z0 z1 z2 z3
    have aj:=hid hX
    clear hX
    go_wp2_with fail
    refine a0c 12 (by kernel_rfl) (by kernel_rfl) ?_
    simp only [List.take_succ_cons,List.take_zero,List.drop_succ_cons,List.drop_zero]
    repeat (go_big_quiet_step ((go_at_call 83;exact Calls.quiet_of_same ((aL _).mono (fun _ _ h=>⟨h.1,h.2.symm⟩)))))
    refine wpQuiet_nil ?_
    intro _ au
    obtain ⟨nr,rfl⟩:=au
    go_wp2_with fail
    go_roundg 0
    case measure=>omega
    case rel =>
     have hs:=(aj.out.drewN nr).set_ 3 (.int .i64 e')
     exact ⟨3,by simp,rfl,hid (by simpa [vi] using hs),hid ((HY.out.drewN nr).far ac _),hid ((HZ.out.drewN nr).setCell (.inr (by show _<=B;have:=HB.out;omega)) _)⟩
   ·have hX:Blk wr B 86 #[.int .i64 a,.int .i64 b',.int .i64 c',.int .i64 e']:=HX.out
    have k0:=hX.cell 0
    have f0:=hX.frozen 0
    have z0:=HY.out.cell 0
    have g0:=HY.out.frozen 0
    have k1:=hX.cell 1
    have f1:=hX.frozen 1
    have z1:=HY.out.cell 1
    have g1:=HY.out.frozen 1
    have k2:=hX.cell 2
    have f2:=hX.frozen 2
    have z2:=HY.out.cell 2
    have g2:=HY.out.frozen 2
    have k3:=hX.cell 3
    have f3:=hX.frozen 3
    have z3:=HY.out.cell 3
    have g3:=HY.out.frozen 3
    simp at k0 k1 k2 k3 z0 z1 z2 z3
    have aj:=hid hX
    clear hX
    go_wp2_with fail
    refine a9x (z0:=.int .i64 0) (z1:=.int .i64 0) (z2:=.int .i64 0) (z3:=.int .i64 0) (t:=86) (by repeat (first | exact HY.out | refine Blk.far ?_ ac _)) ?_
    intro X hX hY
    have x0:=hX.cell 0
    have x1:=hX.cell 1
    have x2:=hX.cell 2
    have x3:=hX.cell 3
    simp at x0 x1 x2 x3
    refine bodyPost_ret (v:=a5q [a,b',c',e']) (by simp [results,Tryz.results136,go_sem,x0,x1,x2,x3,a5q,vi]) rfl ?_
    refine ⟨rfl,Chg.trans (F':=[C]) ?_ hY (fun x hx => .inr (by simp at hx;have:=HB.out;have:=HC.out;omega))⟩
    repeat (first | exact HZ.out | refine Chg.setCell ?_ (.inr (by show _<=B;have:=HB.out;omega)) _)
end Go.Proofs.YtepjepkgcdfboaaGreatDoor
