/- By of any two pictures with any moves, Encode and Search are those of the reference, byte by byte. -/
import Derived.Test.YtnepiccbpokmiaaGreatDoorTie
import Derived.Test.YtnepiccbpokmiaaGreatDoorMg53
import Derived.Test.YtnepiccbpokmiaaGreatDoorMg08
import Derived.Test.YtnepiccbpokmiaaGreatDoorMg09
import Derived.SevenTiedAt
set_option linter.all false
namespace Go.Proofs.YtnepiccbpokmiaaGreatDoor.lawMoveTells
open Go.ChangeShapes Go.WideShapes Go.ChangeAt Go.RowKit
set_option maxRecDepth 100000 in
theorem lifted (os:Os) (started:os.Started) (H:Type) (enc:TypeId × Value→H) :
  ReturnsInHanded {} Tryz.checked os 3 .any (fun w args=>(Rows.moveTellsSpec.pre enc Tryz.prog Tryz.f3 [] false w args∧laidMetH Tryz.prog tr w)∧sizedMet enc Tryz.prog Tryz.f3 (OpenSpec.ofChange Rows.moveTellsSpec) false w args) (Rows.moveTellsSpec.post enc Tryz.prog Tryz.f3 false true false false):=by
 refine returnsInHanded_of_change_and (C:=Tryz.checked) (X:=fun w _=>laidMetH Tryz.prog tr w) (fun _ _ _ hh h=>h.of_heap hh) own started (by kernel_rfl) Tryz.func3
  (ChangeSpec.witness_at (enc:=enc) (C:=Tryz.checked) (os:=os) (X:=fun w _=>laidMetH Tryz.prog tr w) false (Fg os) #[.slice none 0 0,.agg #[.int .i64 0,.int .i64 0,.int .i64 0,.slice none 0 0],.agg #[.int .i64 0,.int .i64 0,.int .i64 0,.slice none 0 0],.slice none 0 0,.int .i64 0,.int .i64 0] 8 rfl (by kernel_rfl) (by kernel_rfl) (by kernel_rfl) (by kernel_rfl) (by kernel_rfl) (Ij os _)) ?_
 intro W base args ds gs before hval0 hW hcnd _ hL _
 have hval:∀ (j:Nat) t v,Tryz.f3.params[j]?=some t→args[j]?=some v→Value.okWide Tryz.prog W .any base t v:=hval0
 have hW':=hW
 obtain ⟨p,q,hA0,hV,rfl,hfz,hnd⟩:=hW
 have hA:DataW.TrodAll enc Tryz.prog W 0 (fun _=>true) true Tryz.f3.params.toList args.toList ds p:=hA0
 rw [Tryz.params3] at hA hval
 obtain ⟨v0,vs0,d0,ds0,p0,q0,hargs,rfl,rfl,h0,r0⟩:=trodAll_cons hA
 obtain ⟨v1,vs1,d1,ds1,p1,q1,rfl,rfl,rfl,h1,r1⟩:=trodAll_cons r0
 obtain ⟨v2,vs2,d2,ds2,p2,q2,rfl,rfl,rfl,h2,r2⟩:=trodAll_cons r1
 obtain ⟨v3,vs3,d3,ds3,p3,q3,rfl,rfl,rfl,h3,r3⟩:=trodAll_cons r2
 obtain ⟨v4,vs4,d4,ds4,p4,q4,rfl,rfl,rfl,h4,r4⟩:=trodAll_cons r3
 obtain ⟨v5,vs5,d5,ds5,p5,q5,rfl,rfl,rfl,h5,r5⟩:=trodAll_cons r4
 obtain ⟨rfl,rfl,rfl⟩:=trodAll_nil r5
 obtain rfl:args=#[v0,v1,v2,v3,v4,v5]:=by cases args;simp_all
 obtain ⟨rfl,rfl⟩:=trodVars_none hV
 obtain ⟨a0,len0,cap0,rfl⟩:=okWide_slice Tryz.underlying22 (hval 0 22 v0 rfl rfl)
 have k0:=h0
 have lt0:∀ x∈p0,x.block<W.heap.size:=by obtain ⟨m,hm⟩:=k0;exact DataW.trod_lt m _ _ _ hm
 obtain ⟨hlc0,hcm0,l0,rfl,hm0,hi0⟩:len0≤cap0∧cap0≤9223372036854775807∧∃ l0:List Int,l0.length=len0∧gu vi W a0 l0∧∀ x∈l0,mX x:=by
  obtain ⟨fuel,hf⟩:=h0
  exact AT hf
 obtain ⟨cs1,rfl,_⟩:=okWide_struct Tryz.underlying25 (hval 1 25 v1 rfl rfl)
 have k1:=h1
 have lt1:∀ x∈p1,x.block<W.heap.size:=by obtain ⟨m,hm⟩:=k1;exact DataW.trod_lt m _ _ _ hm
 obtain ⟨s1,a1,cap1,B1,c1,G1,e1,hp1⟩:∃ (s:iH) (A:Option Addr) (cap:Nat) (B:Nat→Option Addr) (c:Nat→Nat) (G:List Nat),cs1.toList=[.int .i64 s.W,.int .i64 s.H,.int .i64 s.d,.slice A s.P.length cap]∧jH W s A B c G:=by
  obtain ⟨fuel,hf⟩:=h1
  exact BE hf
 obtain rfl:cs1=#[.int .i64 s1.W,.int .i64 s1.H,.int .i64 s1.d,.slice a1 s1.P.length cap1]:=Array.ext' e1
 obtain ⟨cs2,rfl,_⟩:=okWide_struct Tryz.underlying25 (hval 2 25 v2 rfl rfl)
 have k2:=h2
 have lt2:∀ x∈p2,x.block<W.heap.size:=by obtain ⟨m,hm⟩:=k2;exact DataW.trod_lt m _ _ _ hm
 obtain ⟨s2,a2,cap2,B2,c2,G2,e2,hp2⟩:∃ (s:iH) (A:Option Addr) (cap:Nat) (B:Nat→Option Addr) (c:Nat→Nat) (G:List Nat),cs2.toList=[.int .i64 s.W,.int .i64 s.H,.int .i64 s.d,.slice A s.P.length cap]∧jH W s A B c G:=by
  obtain ⟨fuel,hf⟩:=h2
  exact BE hf
 obtain rfl:cs2=#[.int .i64 s2.W,.int .i64 s2.H,.int .i64 s2.d,.slice a2 s2.P.length cap2]:=Array.ext' e2
 obtain ⟨a3,len3,cap3,rfl⟩:=okWide_slice Tryz.underlying26 (hval 3 26 v3 rfl rfl)
 have k3:=h3
 have lt3:∀ x∈p3,x.block<W.heap.size:=by obtain ⟨m,hm⟩:=k3;exact DataW.trod_lt m _ _ _ hm
 obtain ⟨ms3,rfl,hm3,hi3⟩:∃ ms:List (Int × Int),ms.length=len3∧gu (fun v=>v) W a3 (ms.flatMap lu)∧rJ ms:=by
  obtain ⟨fuel,hf⟩:=h3
  exact Gz hf
 obtain ⟨a4,rfl,rfl,rfl,w4⟩:=open_int Tryz.underlying3 (hval 4 3 v4 rfl rfl) h4
 obtain ⟨a5,rfl,rfl,rfl,w5⟩:=open_int Tryz.underlying3 (hval 5 3 v5 rfl rfl) h5
 clear hA0 hval0
 simp only [List.append_nil] at hW'
 refine (KQ W a0 cap0 l0 hm0 hi0 (Nat.le_trans hlc0 hcm0) cap1 cap2 hp1 hp2 a3 cap3 ms3 hm3 hi3 a4 a5 (Ik hL)).mono fun e W' ⟨he,hch⟩ => ?_
 have bel:Below W.heap.size W W':=hch.toBelow (Nat.le_refl _) (by simp)
 subst he
 exact ⟨_,rfl,_,_,_,[],_,[],hW',trodAll_mk1 (shut_bool Tryz.underlying4 _),(trodAll_cons_mk (Below.trod uT (by kernel_rfl) (of_decide_eq_true (by kernel_rfl)) k0 bel lt0) (trodAll_cons_mk (Below.trod uT (by kernel_rfl) (of_decide_eq_true (by kernel_rfl)) k1 bel lt1) (trodAll_cons_mk (Below.trod uT (by kernel_rfl) (of_decide_eq_true (by kernel_rfl)) k2 bel lt2) (trodAll_cons_mk (Below.trod uT (by kernel_rfl) (of_decide_eq_true (by kernel_rfl)) k3 bel lt3) (trodAll_cons_mk (shut_int Tryz.underlying3 w4) (trodAll_cons_mk (shut_int Tryz.underlying3 w5) trodAll_mk0)))))),rfl,bel.frame _,fun h=>by cases h⟩
theorem over:Rows.MoveTellsSaid :=
 OpenClaim.holds_of_wide 3 Tryz.f3 rfl rfl rfl rfl rfl rfl rfl ⟨rfl,rfl,rfl,rfl,rfl⟩ rfl rfl rfl rfl rfl (by kernel_rfl) Tryz.func3 jf
  (of_decide_eq_true (by kernel_rfl)) (by unfold Func.isWrapper;first | (rw [if_pos (by decide +kernel)];kernel_rfl) | (rw [if_neg (by decide +kernel)];exact ⟨rfl,rfl⟩))
  (fun os started H enc _=>lifted os started H enc)
theorem proved:Rows.MoveTellsCardSaid :=
 Claim7.holds_tied_plain_at .later [] _ _ _ _
  over (fun _ h=>by cases h) (by kernel_rfl) (fun _ h=>by cases h) moveTells_row_tie rfl ⟨rfl,rfl⟩ (by kernel_rfl) rfl
  (fun f fn hf hfn=>by
   obtain rfl : f = 3 := Option.some.inj ((show Tryz.prog.funcNamed "kinora/kinoralaw29.MoveTells" = some 3 by kernel_rfl).symm.trans hf) |>.symm
   obtain rfl:fn=Tryz.f3:=(Option.some.inj (Tryz.func3.symm.trans hfn)).symm
   exact ⟨by kernel_rfl,fun j t ht=>by
    rw [Tryz.params3] at ht
    have hm:t∈[22,25,25,26,3,3]:=by simpa using Array.mem_of_getElem? ht
    have hall:([22,25,25,26,3,3].all fun u => !Tryz.prog.wantsStandIn u)=true:=by kernel_rfl
    exact (show Tryz.prog.wantsStandIn t=false by simpa using List.all_eq_true.1 hall t hm)⟩)
  goes
#print axioms proved
end Go.Proofs.YtnepiccbpokmiaaGreatDoor.lawMoveTells
