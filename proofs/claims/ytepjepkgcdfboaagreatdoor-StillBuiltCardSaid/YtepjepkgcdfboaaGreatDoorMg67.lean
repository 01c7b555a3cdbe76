/- A region that draws its order and ends in forced operations: what comes ahead of them only reads, or keeps a condition S on the world; S need not hold behind the end. After the kit's 'held' and 'still tail' laws. -/
import Derived.OrdersHeld
import Derived.Deep.RegionHeld
import Derived.Test.YtepjepkgcdfboaaGreatDoorMg47
import Derived.Test.YtepjepkgcdfboaaGreatDoorMg49
import Derived.Test.YtepjepkgcdfboaaGreatDoorMg62
import Derived.Test.YtepjepkgcdfboaaGreatDoorMg64
set_option linter.unusedVariables false
set_option linter.unusedSimpArgs false
set_option maxHeartbeats 8000000
set_option maxRecDepth 100000
namespace Go.Proofs.YtepjepkgcdfboaaGreatDoor
open Go.RowKit
section
variable {P:Program} {ops:Array Oper} {md:Region.Mode} {Q:Exit->Act->World->Prop} {S:World->Prop}
def f5y (P:Program) (md:Region.Mode) (ops:Array Oper) (Q:Exit->Act->World->Prop) (S:World->Prop) (n:Nat) (L:Array Bool->Act->World->Prop):Nat->Array Bool->Act->World->Prop
 | 0,listed,a,w=>L listed a w
 | f+1,listed,a,w=>Region.ready md ops listed≠[]/\∀ i∈Region.ready md ops listed,i<n/\wpOp P ops Q i (fun a' w'=>S w'/\f5y P md ops Q S n L f (listed.setIfInBounds i true) a' w') a w
theorem f5l {n g:Nat} {L:Array Bool->Act->World->Prop} (hL:∀ listed a w,S w->L listed a w->wpAny P md ops Q g listed a w) :
  ∀ (f:Nat) (listed:Array Bool) (a:Act) (w:World),S w->f5y P md ops Q S n L f listed a w->wpAny P md ops Q (f+g) listed a w
 | 0,listed,a,w,hS,h=>by rw [Nat.zero_add];exact hL _ _ _ hS h
 | f+1,listed,a,w,hS,h=>by
  rw [show f+1+g=(f+g)+1 by omega]
  exact ⟨fun h0=>absurd h0 h.1,fun i hi=>wpOp_mono (fun a' w' h'=>f5l hL f _ a' w' h'.1 h'.2) (h.2 i hi).2⟩
theorem f5r {n i:Nat} {oi:Oper} {v:Value} {L:Array Bool->Act->World->Prop} (hi:ops[i]?=some oi) (hsel:∀ (j:Nat) (o:Oper) cs b,ops[j]?=some o->o.op≠.select cs b)
  (hs:Region.sinkB md ops n=true) (hc:Region.chainB md ops n=true) (hn:n<ops.size) (hin:i<n)
  (hQ:∀ c a w,Q (.panic c) (a.put oi.dst v) w->Q (.panic c) a w) (hdone:∀ listed a w,L listed a w->∀ j∈Region.ready md ops listed,n<=j) :
  ∀ (f:Nat) (listed:Array Bool) (a:Act) (w:World),HeadInv md ops n listed ->
   (∀ j oj,ops[j]?=some oj->j≠i->listed.getD j true=false->(∀ e∈oj.after,Region.binds md e=true->e.on≠i)->oi.apart ops oj=true) ->
   i∈Region.ready md ops listed->YieldsIf P ops S oi v a->S w ->
   f5y P md ops Q S n L f (listed.setIfInBounds i true) (a.put oi.dst v) w->f5y P md ops Q S n L (f+1) listed a w:=by
 intro f
 induction f with
 | zero =>
  intro listed a w af _ hr hy hS H
  have ac:=(mem_ready.1 hr).1
  refine ⟨fun h=>(by rw [h] at hr;cases hr),fun j hj => ?_⟩
  have ae:j<n:=by
   rcases zZ j n with h | h
   ·exact h
   ·exact absurd hj (tail_waits hs hc hn af _ i rfl hin ac j h)
  refine ⟨ae,?_⟩
  by_cases hji:j=i
  ·subst hji;exact hy.wpOp hi hS ⟨hS,H⟩
  ·have:=hdone _ _ _ H j (ready_mono hj hji)
   omega
 | succ f ih =>
  intro listed a w af aa hr hy hS H
  have ac:=(mem_ready.1 hr).1
  refine ⟨fun h=>(by rw [h] at hr;cases hr),fun j hj => ?_⟩
  have ae:j<n:=by
   rcases zZ j n with h | h
   ·exact h
   ·exact absurd hj (tail_waits hs hc hn af _ i rfl hin ac j h)
  refine ⟨ae,?_⟩
  by_cases hji:j=i
  ·subst hji;exact hy.wpOp hi hS ⟨hS,H⟩
  ·have h1:=(H.2 j (ready_mono hj hji)).2
   obtain ⟨ad,oj,ai,ag⟩:=mem_ready.1 hj
   have ah:∀ e∈oj.after,Region.binds md e=true->e.on≠i:=fun e he hb heq=>by
    have h1:=ag e he hb
    rw [heq,getD_both ac] at h1
    cases h1
   have h2:=wpOp_putIf ai (aa j oj ai hji ad ah) (fun cs b=>hsel i oi cs b hi) (fun cs b=>hsel j oj cs b ai) hQ hy h1
   have ab:∀ k ok,ops[k]?=some ok->k≠i->(listed.setIfInBounds j true).getD k true=false ->
     (∀ e∈ok.after,Region.binds md e=true->e.on≠i)->oi.apart ops ok=true:=fun k ok hk hki ac hno=>by
    refine aa k ok hk hki ?_ hno
    by_cases hjk:j=k
    ·subst hjk;exact ad
    ·rw [getD_set_ne true hjk] at ac;exact ac
   refine wpOp_mono (fun a' w' h3=>⟨h3.2.1,ih (listed.setIfInBounds j true) a' w' (af.set hj ae) ab (ready_mono hr (Ne.symm hji)) h3.1 h3.2.1 ?_⟩) h2
   rw [Array.setIfInBounds_comm _ _ hji]
   exact h3.2.2
def hH (P:Program) (md:Region.Mode) (ops:Array Oper) (Q:Exit->Act->World->Prop) (S:World->Prop) (n:Nat) (f:Nat) (listed:Array Bool) (a:Act) (w:World):Prop :=
 HeadInv md ops n listed->f5y P md ops Q S n (fun listed a w=>Region.seqB md ops (ops.size-n) n listed=true/\wpList P ops Q (ops.toList.drop n) a w) f listed a w
theorem f6l {n i:Nat} {oi:Oper} {v:Value} {f:Nat} {listed:Array Bool} {a:Act} {w:World} (hB:(Region.noSelect ops&&Region.sinkB md ops n&&Region.chainB md ops n&&decide (n<ops.size))=true) (hi:ops[i]?=some oi) (hin:i<n)
  (hf:Region.free md ops listed i=true) (hr:(Region.ready md ops listed).contains i=true) (hQ:∀ c a w,Q (.panic c) (a.put oi.dst v) w->Q (.panic c) a w)
  (hy:YieldsIf P ops S oi v a) (hS:S w) (h:hH P md ops Q S n f (listed.setIfInBounds i true) (a.put oi.dst v) w):hH P md ops Q S n (f+1) listed a w:=fun inv=>by
 simp only [Bool.and_eq_true,decide_eq_true_eq] at hB
 have hr':i∈Region.ready md ops listed:=by simpa using hr
 exact f5r hi (Region.noSelect_spec hB.1.1.1) hB.1.1.2 hB.1.2 hB.2 hin hQ (fun _ _ _ hL=>seqB_ready hL.1) f listed a w inv (Region.free_spec hi hf) hr' hy hS (h (inv.set hr' hin))
theorem hT {n i:Nat} {oi:Oper} {v:Value} {f:Nat} {listed:Array Bool} {a:Act} {w:World} (hB:((Region.noSelect ops&&Region.sinkB md ops n&&Region.chainB md ops n&&decide (n<ops.size))&&decide (i<n)&&Region.free md ops listed i&&(Region.ready md ops listed).contains i)=true) (hi:ops[i]?=some oi)
  (hQ:∀ c a w,Q (.panic c) (a.put oi.dst v) w->Q (.panic c) a w) (h1:Region.wanted oi (yielded ops a.tmps)=true) (hS:S w) (hy:∀ w,S w->(execOp a.eval oi).run P w=.ok (.value v) w)
  (h:hH P md ops Q S n f (listed.setIfInBounds i true) (a.put oi.dst v) w):hH P md ops Q S n (f+1) listed a w:=by
 rw [Bool.and_eq_true,Bool.and_eq_true,Bool.and_eq_true] at hB
 exact f6l hB.1.1.1 hi (of_decide_eq_true hB.1.1.2) hB.1.2 hB.2 hQ (.inl ⟨h1,hy⟩) hS h
theorem f5n {n i:Nat} {o:Oper} {f:Nat} {listed:Array Bool} {a:Act} {w:World} (ho:ops[i]?=some o) (hin:i<n) (hr:Region.ready md ops listed=[i])
  (h:∀ K':Act->World->Prop,Shut (∀ a w,S w->hH P md ops Q S n f (listed.setIfInBounds i true) a w->K' a w)->if Region.wanted o (yielded ops a.tmps)=true then Oper.wp P o a w K' Q else K' (a.put o.dst undef) w) :
  hH P md ops Q S n (f+1) listed a w:=fun inv=>by
 refine ⟨by rw [hr];simp,fun j hj => ?_⟩
 rw [hr] at hj
 obtain rfl:j=i:=by simpa using hj
 have aa:j∈Region.ready md ops listed:=by rw [hr];simp
 exact ⟨hin,wpOp_step ho fun K' hK=>h K' fun a w hS hH=>hK a w ⟨hS,hH (inv.set aa hin)⟩⟩
theorem f5x {n:Nat} {listed:Array Bool} {a:Act} {w:World} (hs:Region.seqB md ops (ops.size-n) n listed=true) (h:wpList P ops Q (ops.toList.drop n) a w):hH P md ops Q S n 0 listed a w:=fun _=>⟨hs,h⟩
theorem f5k {id:Nat} {a:Act} {w:World} (n:Nat) (hm:P.follows .mixedOrders=true) (hn:n<ops.size) (hS:S w.drew)
  (h:hH P .any ops Q S n n (Array.replicate ops.size false) a w.drew):(Code.region id ops true).wp P Q a w:=by
 have aa:HeadInv .any ops n (Array.replicate ops.size false) :=
  ⟨by simp,fun j oj _ hl=>(by rw [getD_replicate_false] at hl;cases hl),fun t _ ht=>getD_in (by simpa using ht) (getD_replicate_false _ _)⟩
 refine wp_region_any hm ?_
 have h2:=f5l (P:=P) (md:=.any) (ops:=ops) (Q:=Q) (S:=S) (n:=n) (g:=ops.size-n) (fun listed a' w' hw' hL=>by
  have:=wpAny_of_seq (Q':=Q) (md:=.any) (ops:=ops) (ops.toList.drop n) n listed a' w' (fun j=>by simp) (by simpa using hL.1) hL.2
  simpa using this) n _ a w.drew hS (h aa)
 have ab:n+(ops.size-n)=ops.size:=by omega
 rw [ab] at h2
 exact h2
end
theorem f6j {p:a2a} {k:Nat} (hm:b9k p.P.length k=true):stR none (some k) 0 p=.ok (a4h none k p):=by
 unfold stR
 have h1:c7b (some k) p=true:=hm
 have h2:b1t none (b4d (some k) p) p=true:=a9b _ _
 rw [if_pos rfl,if_pos h1,if_pos h2]
 rfl
theorem f6f (k:Nat) (p:a2a):stR none (some k) 256 p=if (a2y p).length<=256 then .ok (a2t none p) else .bad 7:=by
 unfold stR
 have h2:b5l none p=true:=a5s _ _ _ _ _
 rw [if_neg (by decide)]
 by_cases h:(a2y p).length<=256
 ·rw [if_pos h,if_pos h,if_pos h2]
 ·rw [if_neg h,if_neg h]
theorem f5z {p:a2a} (hp:p.Ok):b9k p.P.length 0=true:=by
 have h:=b4v hp 0
 rw [Nat.le_zero.1 (b9g p 0)] at h
 exact h
theorem f5t {w:World} {b:Nat} {F T:List Nat} (h:a2n w b F T) (h1:T.length<549755813888) :
  Calls Tryz.prog 19 #[.pointer (some ⟨b,0,none⟩)] w fun e w'=>∃ A c,e=.returned (.slice A (a1n T).length c)/\a0d b8 w' A (a1n T)/\Chg [] w w':=by
 refine (c3c w b F T h h1).mono ?_
 rintro e w' ⟨v,G,rfl,aa,ch,-⟩
 obtain ⟨A,c,rfl,-,-,hc⟩:=aa.oq
 exact ⟨A,c,rfl,hc,ch⟩
theorem f5p {w:World} {A:Option Addr} {c:Nat} {T:List Nat} (hbit:∀ b∈T,b<2) (hc:a0d b8 w A (a1n T)) (hl:(a1n T).length<=1000000000) :
  Calls Tryz.prog 18 #[.slice A (a1n T).length c] w fun e w'=>∃ v,e=.returned v/\(Go.convert 39 9 v).run Tryz.prog w'=.ok (.string (e0p (a1e T))) w'/\Chg [] w w':=by
 refine (f6g hc (b2z hbit) hl).mono ?_
 rintro e w' ⟨v,G,rfl,aa,ch,-⟩
 rw [<-f5v] at aa
 obtain ⟨A',c',rfl,-,-,ab⟩:=aa.oq
 exact ⟨_,rfl,b6c ab (by rw [b4k];omega) rfl,ch⟩
theorem f6a {w w':World} {A:Option Addr} {c:Nat} {T:List Nat} (hc:a0d b8 w A (a1e T)) (hw:Chg [] w w'):(Go.convert 39 9 (.slice A (a1e T).length c)).run Tryz.prog w'=.ok (.string (e0p (a1e T))) w' :=
 b6c (hc.same hw) (by rw [b4k];omega) rfl
theorem f6e (w:World) (A:Option Addr) (cap:Nat) (L:List Int) (hc:a0d vi w A L) (hin:∀ x∈L,c9b x) (hlen:L.length<=9223372036854775807) (z:Int) (hz:c9b z) (hp:Pts w) :
  Calls Tryz.prog 3 #[.slice A L.length cap,.int .i64 z] w fun e w'=>e=.returned (.bool true)/\Chg [] w w':=by
 have bd:=f0c w A cap L hc hin hlen
 have cm:=fun w=>d2f z 0 4 w hz (by omega) (by omega) (by omega)
 have br:=d2e z (show (0:Int)<=4 by omega)
 obtain ⟨n0,cv⟩:∃ n0:Nat,(n0:Int)=a9f z 0 4:=⟨(a9f z 0 4).toNat,Int.toNat_of_nonneg br.1⟩
 have aU:n0<=4:=by omega
 rw [<-cv] at cm
 have HP:=hid hp
 have fr:=hid cm
 clear hc hin hlen hp cm br cv hz
 go_enter Tryz.func3,Tryz.ntmps3
 go_wp2_with fail
 refine bd.mono ?_
 rintro e w1 ⟨b,rfl,dG,dO,hb⟩
 have dy:=f4b w1 b cap 0 20 A L dG (by omega) (by omega)
 clear bd dG
 go_wp2_with fail
 refine dy.mono ?_
 rintro e w2 ⟨p,gP,aa,xs,gs,fO,rfl,cf,cQ,a5,-,db,-⟩
 have cg:Chg [] w w2:=dO.trans db fun x hx => .inr (by simp at hx;omega)
 have ai:=a5.ok
 obtain ⟨w3,bc⟩:=zX (w2.alloc (.cells #[.int .i64 p.W,.int .i64 p.H,.int .i64 p.d,.slice (some ⟨gP,0,none⟩) p.P.length aa] 27))
 obtain ⟨X6,bZ⟩:=zX (w2.heap.size)
 have bX:Chg [] w2 w3:=by rw [bc];exact (zR [] w2).alloc _
 have cc:Box w3 X6 (.int .i64 p.W) (.int .i64 p.H) (.int .i64 p.d) (.slice (some ⟨gP,0,none⟩) p.P.length aa):=⟨by rw [bc,bZ];exact Blk.new w2 _ _⟩
 have ba:=a5.at_.same bX
 have bh:=HP.out.same (cg.tq bX)
 have b7:b1b none:=fun _ e=>by cases e
 obtain ⟨N,hN⟩:=zX (p.W*p.H)
 obtain ⟨HL,bC⟩:=zX (b3z p.W p.H p.d p.P.length)
 have aO:HL.length=18:=by rw [bC];exact a9q _ _ _ _
 have a8:∀ kd,kd<=4->b9k p.P.length kd=true->∃ (Q:a2a) (KB T1:List Nat),(Q.Ok/\Q.P.length=p.P.length/\Q.W=p.W/\Q.H=p.H/\Q.d=p.d)/\T1=HL++(a0b 0 1++(KB++a1d none Q p.P.length))/\KB.length=3/\(22<=T1.length/\T1.length<=4096000000)/\∀ kv:Int,kv=(kd:Int) ->
   (∀ wz,Chg [] w3 wz->Calls Tryz.prog 13 #[a6y p gP 0 aa,.int .i64 kv] wz (fun e w'=>∃ (gQ an:Nat) (ys:List Value) (hs:List Nat),e=.returned (.tuple #[.agg #[.int .i64 p.W,.int .i64 p.H,.int .i64 p.d,.slice (some ⟨gQ,0,none⟩) p.P.length an],.int .i64 0])/\a1x w' Q gQ an ys hs/\Chg [] wz w'/\∀ x∈gQ::hs,wz.heap.size<=x)) /\
   (∀ wz b' F bs,a2n wz b' F bs->bs.length<1000->Calls Tryz.prog 15 #[.pointer (some ⟨b',0,none⟩),.int .u64 kv,.int .i64 3] wz fun e w'=>e=.returned (.int .i64 0)/\∃ F',a2n w' b' F' (bs++KB)/\a0u F F' wz w') /\
   (∀ wz,Chg [] w3 wz->Calls Tryz.prog 17 #[a6y p gP 0 aa,.int .i64 kv,.int .i64 0,.int .i64 (-1)] wz (b1d wz (.ok T1))) /\
   (∀ wz,Chg [] w3 wz->Calls Tryz.prog 17 #[a6y p gP 0 aa,.int .i64 kv,.int .i64 256,.int .i64 (-1)] wz (b1d wz (if (a2y p).length<=256 then .ok (a2t none p) else .bad 7)))/\IntKind.u64.wrap kv=kv:=by
  intro kd k4 hm
  have dA:(a3p kd p).P.length=p.P.length:=a3y _ _ _
  refine ⟨a3p kd p,a0b kd 3,a4h none kd p,⟨b2t ai kd,dA,rfl,rfl,rfl⟩,by rw [bC];rfl,a0a _ _,b4a b7 ai (a9b _ _),?_⟩
  rintro kv rfl
  refine ⟨fun wz hz=>(d6e aa (ba.same hz) kd k4 hm).mono ?_,fun wz b' F bs hw hl=>a0t wz b' F bs kd 3 hw (by decide) (by omega) (by omega),fun wz hz => ?_,fun wz hz => ?_,IntWalk.u64_in _ (by omega)⟩
  ·rintro e w' ⟨gQ,an,ys,hs,rfl,h1,h2,h3⟩
   exact ⟨gQ,an,ys,hs,by unfold a6y;rw [dA];rfl,h1,h2,h3⟩
  ·have h:=d7p (way:=none) b7 (kind:=some kd) (fun k e=>by injection e with e;omega) (fun k e=>by injection e with e;omega) (colours:=0) (by decide) aa (ba.same hz) (bh.same hz)
   rw [f6j hm] at h
   exact h
  ·have h:=d7p (way:=none) b7 (kind:=some kd) (fun k e=>by injection e with e;omega) (fun k e=>by injection e with e;omega) (colours:=256) (by decide) aa (ba.same hz) (bh.same hz)
   rw [f6f] at h
   exact h
 have cS:=fun w'=>c0z p.P.length n0 w' ai.n0 ai.n1 aU
 have cC:=f5z ai
 have be:=fun wz=>f6m (w:=wz) (g:=gP) (o:=0) aa ai
 have bP:∀ wz (l:List Int) A' cp dd vP b' F bs,Pts wz->l.length=N->a1u dd l->a0d vi wz A' l->N<=cp->1<=dd->dd<=16->a2n wz b' F bs->Apt A' l F->0∉F->bs.length<17179869184 ->
   Calls Tryz.prog 16 #[.pointer (some ⟨b',0,none⟩),.slice A' N cp,.agg #[.int .i64 p.W,.int .i64 p.H,.int .i64 p.d,vP],.int .i64 dd] wz fun e w'=>e=.returned (.bool true)/\∃ F',a2n w' b' F' (bs++a1y none l p.W p.H dd)/\a0u F F' wz w':=by
  intro wz l A' cp dd vP b' F bs h0 h1 h2 h3 h4 h5 h6 h7 h8 h9 dZ
  have h:=f6c cp (p.d:Int) vP (h1.trans hN) h2 h3 (by rw [h1];exact h4) ai.w0 ai.w1 ai.h0 ai.h1 h5 h6 b' F bs h7 h8 h0 h9 dZ
  rw [h1] at h
  exact h
 have a9:=fun wz (hz:Chg [] w3 wz)=>f4c aa (ba.same hz) 256 (by decide) (by decide)
 have aB:=fun wz (hz:Chg [] w3 wz) gL ac zs ts (ho:b3f wz p.P.length p.d (a2y p) gL ac zs ts)=>e4r aa (ba.same hz) ac ho.at_
 have aE:=fun wz gL ac zs ts (ho:b3f wz p.P.length p.d (a2y p) gL ac zs ts) b' F bs hw hG hbs=>e4n ac ho.at_ b' F bs hw hG hbs
 have cb:=fun wz (hz:Chg [] w3 wz)=>e5q wz (bh.same hz)
 have aP:a2t none p=HL++(a0b 1 1++(a2q p.P.length p.d (a2y p)++a1y none (a3q p) p.W p.H (a7i (a2y p).length))):=by rw [bC];rfl
 have aD:=fun h=>d6h ai h
 have aS:=fun (h:(a2y p).length<=256) w'=>d7c (a2y p).length w' (c2b ai h).c0 h
 have cq:=fun (h:(a2y p).length<=256)=>b0o h
 have a1:=fun (h:(a2y p).length<=256)=>d0q h
 have aF:=fun (h:(a2y p).length<=256)=>b8e (c2b ai h)
 unfold e1c d1i at a9
 unfold d1i at aB aE
 unfold b2o at aE
 unfold a6y at a8 be a9 aB ⊢
 rw [<-bC] at be
 obtain ⟨n,hn⟩:=zX (p.P.length)
 obtain ⟨m,hm⟩:=zX ((a2y p).length)
 obtain ⟨T2,bE⟩:=zX (a2t none p)
 have cv:1<=n:=by rw [hn];exact ai.n0
 have fH:n<=4:=by rw [hn];exact ai.n1
 have dn:(a3q p).length=N:=by rw [hN];exact a9r p
 rw [<-hN] at aB
 rw [<-bE] at a8 aP aD
 rw [<-hm] at a8 a9 aB aE aP aD aS cq a1 aF
 rw [<-hn] at a8 cS cC be a9 aB aE aP aF cc bc ⊢
 have fJ:N<=4096:=by rw [hN];exact ai.area
 have fv:=hid a8
 have dS:=hid cS
 have fl:=hid cC
 have dh:=hid be
 have bH:=hid bP
 have fz:=hid a9
 have dU:=hid aB
 have fc:=hid aE
 have dM:=hid cb
 have fo:=hid aP
 have bG:=hid aD
 have d3:=hid aS
 have dz:=hid cq
 have co:=hid a1
 have cD:=hid aF
 have ft:=hid dn
 have fI:=hid hn
 have HN:=hid hN
 have dv:=hid ai
 have b6:=hid bh
 have dX:=hid bc
 have fx:=hid bZ
 have aA:=hid cc
 have dw:=hid (cg.tq bX)
 have cs:=hid aU
 have ap:=hid aO
 obtain ⟨b0,b1,b2,b3⟩:=cc.cells
 rw [bc,bZ] at b0 b1 b2 b3
 clear dy a5 dO db hb cg ai cf cQ bX ba bh b7 hN bC aO a8 cS cC be bP a9 aB aE cb aP aD aS cq a1 aF hn hm bE dn bc bZ cc aU
 go_wp2_with fail
 rw [<-dX.out,<-fx.out]
 refine (fr.out w3).mono ?_
 rintro e w' ⟨rfl,rfl⟩
 obtain ⟨b0,b1,b2,b3⟩:=aA.out.cells
 go_upto_if 34 with (go_at_call 12;refine (dS.out w3).mono ?_;rintro e w' ⟨rfl,rfl⟩)
 go_cut [7] from 23 (fun s7 wx=>w3=wx/\∃ kd:Nat,s7=.int .i64 kd/\kd<=4/\Hid (b9k n kd=true))
 case first =>
  cases hmk:b9k n n0
  ·go_wp2_with fail
   go_meet
   case rel=>exact ⟨rfl,0,rfl,by decide,fl⟩
  ·go_wp2_with fail
   go_meet
   case rel=>exact ⟨rfl,n0,rfl,cs.out,hid hmk⟩
 case rest =>
  obtain ⟨rfl,kd,rfl,cl,fA⟩:=hcut
  obtain ⟨Q,KB,T1,hQ,c5,dR,bg,bk⟩:=fv.out kd cl fA.out
  obtain ⟨dl,c6,du,c7,fN⟩:=bk (kd:Int) rfl
  have HQ:=hid hQ
  have fa:=hid c5
  have d7:=hid dR
  have bm:=hid bg
  have fq:=hid dl
  have fe:=hid c6
  have d5:=hid du
  have a6:=hid c7
  obtain ⟨b0,b1,b2,b3⟩:=aA.out.cells
  clear hQ c5 dR bg bk dl c6 du c7
  go_wp2_with fail
  refine (fq.out w3 (zR _ _)).mono ?_
  rintro e w4 ⟨gQ,an,ys,hs,rfl,a2,cy,bq⟩
  clear b0 b1 b2 b3
  obtain ⟨w5,bI⟩:=zX (w4.alloc (.cells #[.int .i64 p.W,.int .i64 p.H,.int .i64 p.d,.slice (some ⟨gQ,0,none⟩) n an] 27))
  obtain ⟨X8,ct⟩:=zX (w4.heap.size)
  have bA:Chg [] w4 w5:=by rw [bI];exact (zR [] w4).alloc _
  have dD:Box w5 X8 (.int .i64 p.W) (.int .i64 p.H) (.int .i64 p.d) (.slice (some ⟨gQ,0,none⟩) n an):=⟨by rw [bI,ct];exact Blk.new w4 _ _⟩
  obtain ⟨b0,b1,b2,b3⟩:=(aA.out.same (cy.tq bA)).cells
  rw [bI] at b0 b1 b2 b3
  have dk:=hid dD
  have a7:=hid (cy.tq bA)
  have fw:=hid (a2.same bA)
  have fs:Hid (∀ x∈gQ::hs,x<w5.heap.size):=hid (fun x hx=>by
   have h9:=bA.size
   rcases zJ.1 hx with rfl | h1
   ·have:=a2.ltP;omega
   ·have:=a2.pl.lt x h1;omega)
  have d8:=hid bI
  have fh:=hid ct
  clear a2 cy bq bI ct bA dD
  go_wp2_with fail
  rw [<-d8.out,<-fh.out]
  refine (dh.out w5).mono ?_
  rintro e w6 ⟨bw,F6,rfl,bL,dH,dB⟩
  have bv:=a0t w6 bw F6 HL 0 1 bL (by decide) (by decide) (by rw [ap.out];decide)
  have bO:=hid dH
  have dK:=hid dB
  clear b0 b1 b2 b3 bL dH dB
  go_wp2_with fail
  refine bv.mono ?_
  rintro e w7 ⟨rfl,F7,bn,dP⟩
  have df:=fe.out w7 bw F7 _ bn (by rw [zC,ap.out,a0a];decide)
  have fb:=hid dP
  clear bv bn dP
  go_wp2_with fail
  refine df.mono ?_
  rintro e w8 ⟨rfl,F8,bU,dc⟩
  have cF:=hid bU
  have dj:=hid (fb.out.trans dc)
  clear df bU dc
  have bS:Hid (∀ Fz wz,a0u F6 Fz w6 wz->Chg [] w5 wz/\∀ x∈Fz,w5.heap.size<=x):=hid (fun Fz wz hz=>⟨hz.fresh dK.out bO.out,hz.freshF dK.out bO.out⟩)
  obtain ⟨BB,bW⟩:=zX (HL++a0b 0 1++KB)
  have cG:Hid (BB.length=22):=hid (by rw [bW,zC,zC,ap.out,a0a,d7.out])
  have cI:Hid (BB++a1d none Q n=T1):=hid (by rw [bW,fa.out];simp only [zH])
  have da:a2n w8 bw F8 (BB++a1d none Q 0):=by
   have e:a1d none Q 0=[]:=rfl
   rw [e,List.append_nil,bW]
   exact cF.out
  have d9:=hid da
  clear bW da
  obtain ⟨c8,-⟩:=bS.out F8 w8 dj.out
  obtain ⟨b0,b1,b2,b3⟩:=(aA.out.same (a7.out.tq c8)).cells
  obtain ⟨y0,y1,y2,y3⟩:=(dk.out.same c8).cells
  clear c8
  go_wp2_with fail
  clear b0 b1 b2 b3 y0 y1 y2 y3
  go_loopg [11,12] n (fun j v11 cZ wr=>∃ (k:Nat) (Fk:List Nat),v11=.bool true/\cZ=.int .i64 k/\k+j=n/\Hid (a2n wr bw Fk (BB++a1d none Q k))/\Hid (a0u F6 Fk w6 wr))
  case atStart=>exact ⟨0,F8,rfl,rfl,by omega,d9,dj⟩
  case round =>
   obtain ⟨k,Fk,rfl,rfl,fR,cY,cX⟩:=hrel
   obtain ⟨ck,dI⟩:=bS.out Fk wr cX.out
   have b9:=hid ck
   have dC:=hid dI
   obtain ⟨b0,b1,b2,b3⟩:=(aA.out.same (a7.out.tq ck)).cells
   obtain ⟨y0,y1,y2,y3⟩:=(dk.out.same ck).cells
   clear ck dI
   rcases gk with _ | j
   ·obtain rfl:k=n:=by omega
    have t1:decide ((k:Int)<(k:Int))=false:=by simp
    go_wp2_with fail
    refine (d5.out wr (a7.out.tq b9.out)).mono ?_
    rintro e aG ⟨fE,fT,rfl,aI,aY,cU,au⟩
    obtain ⟨fS,dY,rfl,-,-,bu⟩:=aI.oq
    have az:=cY.out.same aY
    rw [cI.out] at az
    obtain ⟨S1,dN⟩:=zX (e0p (a1e T1))
    have ae:=hid (fun wz (hz:Chg [] aG wz)=>f6a (c:=dY) bu hz)
    have bQ:=hid (fun wz (hz:Chg [] aG wz)=>f5t (az.same hz) (by have:=bm.out;omega))
    have am:=hid (fun wz A' c' (hz:a0d b8 wz A' (a1n T1))=>f5p (c:=c') au hz (by rw [a4p];have:=bm.out;omega))
    obtain ⟨n1,dJ⟩:=zX ((a1e T1).length)
    obtain ⟨fL,bp⟩:=zX ((a1n T1).length)
    rw [<-dJ] at ae ⊢
    rw [<-bp] at bQ am
    rw [<-dN] at ae am
    have cR:=hid ((a7.out.tq b9.out).tq aY)
    clear aI aY cU au bu az dN dJ bp b0 b1 b2 b3 y0 y1 y2 y3 t1
    go_upto_region 16 with fail
    go_cut [100] from 23 (fun s100 wx=>s100=.bool false/\Hid (Chg [] aG wx))
    case first =>
     -- R16
     have D1:Chg [] aG aG.drew:=(zR [] aG).drew
     refine f5k (S:=fun w'=>Chg [] aG w') 13 (by kernel_rfl) (by decide) D1 ?_
     refine hT (i:=0) (v:=?_) (by decide +kernel) rfl (fun _ _ _ h=>h) (by rfl) (by assumption) ?_ ?_
     rotate_left
     ·(intro wz hz;go_simp;try with_reducible rfl)
     try simp only [Act.put,List.getElem_toArray,List.getElem_cons_succ,List.getElem_cons_zero,List.setIfInBounds_toArray,List.set_cons_zero,List.set_cons_succ]
     refine hT (i:=1) (v:=?_) (by decide +kernel) rfl (fun _ _ _ h=>h) (by rfl) (by assumption) ?_ ?_
     rotate_left
     ·(intro wz hz;go_simp;try with_reducible rfl)
     try simp only [Act.put,List.getElem_toArray,List.getElem_cons_succ,List.getElem_cons_zero,List.setIfInBounds_toArray,List.set_cons_zero,List.set_cons_succ]
     refine hT (i:=2) (v:=?_) (by decide +kernel) rfl (fun _ _ _ h=>h) (by rfl) (by assumption) ?_ ?_
     rotate_left
     ·(intro wz hz;go_simp;try with_reducible rfl)
     try simp only [Act.put,List.getElem_toArray,List.getElem_cons_succ,List.getElem_cons_zero,List.setIfInBounds_toArray,List.set_cons_zero,List.set_cons_succ]
     refine hT (i:=3) (v:=?_) (by decide +kernel) rfl (fun _ _ _ h=>h) (by rfl) (by assumption) ?_ ?_
     rotate_left
     ·(intro wz hz;go_simp;try with_reducible rfl)
     try simp only [Act.put,List.getElem_toArray,List.getElem_cons_succ,List.getElem_cons_zero,List.setIfInBounds_toArray,List.set_cons_zero,List.set_cons_succ]
     refine hT (i:=4) (v:=?_) (by decide +kernel) rfl (fun _ _ _ h=>h) (by rfl) (by assumption) ?_ ?_
     rotate_left
     ·(intro wz hz;go_simp;try with_reducible rfl)
     try simp only [Act.put,List.getElem_toArray,List.getElem_cons_succ,List.getElem_cons_zero,List.setIfInBounds_toArray,List.set_cons_zero,List.set_cons_succ]
     refine hT (i:=5) (v:=?_) (by decide +kernel) rfl (fun _ _ _ h=>h) (by rfl) (by assumption) ?_ ?_
     rotate_left
     ·(intro wz hz;go_simp;try with_reducible rfl)
     try simp only [Act.put,List.getElem_toArray,List.getElem_cons_succ,List.getElem_cons_zero,List.setIfInBounds_toArray,List.set_cons_zero,List.set_cons_succ]
     refine hT (i:=6) (v:=?_) (by decide +kernel) rfl (fun _ _ _ h=>h) (by rfl) (by assumption) ?_ ?_
     rotate_left
     ·(intro wz hz;go_simp;try with_reducible rfl)
     try simp only [Act.put,List.getElem_toArray,List.getElem_cons_succ,List.getElem_cons_zero,List.setIfInBounds_toArray,List.set_cons_zero,List.set_cons_succ]
     refine hT (i:=7) (v:=?_) (by decide +kernel) rfl (fun _ _ _ h=>h) (by rfl) (by assumption) ?_ ?_
     rotate_left
     ·(intro wz hz;go_simp;try with_reducible rfl)
     try simp only [Act.put,List.getElem_toArray,List.getElem_cons_succ,List.getElem_cons_zero,List.setIfInBounds_toArray,List.set_cons_zero,List.set_cons_succ]
     refine hT (i:=8) (v:=?_) (by decide +kernel) rfl (fun _ _ _ h=>h) (by rfl) (by assumption) ?_ ?_
     rotate_left
     ·(intro wz hz;have kk:=ae.out wz hz;go_simp;try with_reducible rfl)
     try simp only [Act.put,List.getElem_toArray,List.getElem_cons_succ,List.getElem_cons_zero,List.setIfInBounds_toArray,List.set_cons_zero,List.set_cons_succ]
     refine hT (i:=9) (v:=?_) (by decide +kernel) rfl (fun _ _ _ h=>h) (by rfl) (by assumption) ?_ ?_
     rotate_left
     ·(intro wz hz;go_simp;try with_reducible rfl)
     try simp only [Act.put,List.getElem_toArray,List.getElem_cons_succ,List.getElem_cons_zero,List.setIfInBounds_toArray,List.set_cons_zero,List.set_cons_succ]
     refine f5n (i:=10) rfl (by decide) (by decide +kernel) ?_
     intro K' ad
     go_simp
     go_at_call 19
     refine (bQ.out _ D1).mono ?_
     rintro e w11 ⟨fG,fQ,rfl,bJ,c1⟩
     have D2:Chg [] aG w11:=D1.tq c1
     refine ad.out _ _ (D2) ?_
     clear ad K'
     try simp only [Act.put,List.getElem_toArray,List.getElem_cons_succ,List.getElem_cons_zero,List.setIfInBounds_toArray,List.set_cons_zero,List.set_cons_succ]
     refine f5n (i:=11) rfl (by decide) (by decide +kernel) ?_
     intro K' ad
     go_simp
     go_at_call 18
     refine (am.out _ _ _ bJ).mono ?_
     rintro e w12 ⟨cZ,rfl,k2,c2⟩
     have D3:Chg [] aG w12:=D2.tq c2
     refine ad.out _ _ (D3) ?_
     clear ad K'
     try simp only [Act.put,List.getElem_toArray,List.getElem_cons_succ,List.getElem_cons_zero,List.setIfInBounds_toArray,List.set_cons_zero,List.set_cons_succ]
     refine f5n (i:=12) rfl (by decide) (by decide +kernel) ?_
     intro K' ad
     go_simp
     refine ad.out _ _ (D3) ?_
     clear ad K'
     try simp only [Act.put,List.getElem_toArray,List.getElem_cons_succ,List.getElem_cons_zero,List.setIfInBounds_toArray,List.set_cons_zero,List.set_cons_succ]
     refine f5x (by decide +kernel) ?_
     simp only [List.drop_succ_cons,List.drop_zero,List.toList_toArray]
     go_wp2_with fail
     go_meet
     case rel=>exact ⟨rfl,hid D3⟩
     -- END
    case rest =>
     obtain ⟨rfl,cE⟩:=hcut
     obtain ⟨w12,cP⟩:=zX (wc)
     subst cP
     have b4:=hid (cR.out.tq cE.out)
     obtain ⟨b0,b1,b2,b3⟩:=(aA.out.same b4.out).cells
     go_wp2_with fail
     refine (fz.out w12 b4.out).mono ?_
     rintro e aQ ⟨aH,bo⟩
     clear b0 b1 b2 b3
     rcases bo with ⟨aj,gL,ac,zs,ts,rfl,al,bR⟩ | ⟨aj,rfl⟩
     ·obtain ⟨w14,ag⟩:=zX (aQ.alloc (.cells #[.int .i64 p.d,.int .i64 k,.slice (some ⟨gL,0,none⟩) m ac] 45))
      obtain ⟨X9,cB⟩:=zX (aQ.heap.size)
      have ah:Chg [] aQ w14:=by rw [ag];exact (zR [] aQ).alloc _
      have dE:c4m w14 X9 (.int .i64 p.d) (.int .i64 k) (.slice (some ⟨gL,0,none⟩) m ac):=⟨by rw [ag,cB];exact Blk.new aQ _ _⟩
      have ab:=hid ((b4.out.tq aH).tq ah)
      have ff:=hid (al.at_.same ah)
      have aK:Hid (∀ wz,Chg [] w14 wz->b3f wz k p.d (a2y p) gL ac zs ts):=hid (fun wz hz=>⟨al.ok,(al.row.chg ah (by simp)).chg hz (by simp),(al.pl.same ah).same hz⟩)
      have cw:Hid (∀ x∈gL::ts,x<w14.heap.size):=hid (fun x hx=>by
       have h9:=ah.size
       rcases zJ.1 hx with rfl | h1
       ·have:=al.row.lt;omega
       ·have:=al.pl.lt x h1;omega)
      obtain ⟨b0,b1,b2,b3⟩:=(aA.out.same ab.out).cells
      have ci:=hid dE
      have HM:=hid aj
      rw [ag] at b0 b1 b2 b3
      have a4:=hid ag
      have fd:=hid cB
      have aR:=a6.out
      rw [if_pos aj] at aR
      unfold b1d at aR
      have a6:=hid aR
      clear al bR aH ah dE ag cB aR aj
      go_wp2_with fail
      rw [<-a4.out,<-fd.out]
      refine (a6.out w14 ab.out).mono ?_
      rintro e bz ⟨fP,fF,rfl,aM,av,cA,ay⟩
      obtain ⟨de,cu,rfl,-,-,bN⟩:=aM.oq
      obtain ⟨S2,dQ⟩:=zX (e0p (a1e T2))
      have ae:=hid (fun wz (hz:Chg [] bz wz)=>f6a (c:=cu) bN hz)
      have am:=hid (fun wz A' c' (hz:a0d b8 wz A' (a1n T2))=>f5p (c:=c') ay hz (by rw [a4p];have:=bG.out HM.out;omega))
      obtain ⟨n2,c4⟩:=zX ((a1e T2).length)
      obtain ⟨d4,aT⟩:=zX ((a1n T2).length)
      rw [<-c4] at ae ⊢
      have cW:=hid aT
      rw [<-aT] at am
      rw [<-dQ] at ae am
      have ak:=hid av
      clear aM av cA ay bN dQ c4 aT b0 b1 b2 b3
      obtain ⟨b0,b1,b2,b3⟩:=(aA.out.same (ab.out.tq ak.out)).cells
      obtain ⟨x0,x1,x2⟩:=(ci.out.same ak.out).cells
      have aB:=dU.out bz (ab.out.tq ak.out) gL ac zs ts (aK.out bz ak.out)
      go_wp2_with fail
      refine aB.mono ?_
      rintro e aq ⟨g9,rfl,ar,aw,b5⟩
      have dg:=hid ar
      have af:=hid (ak.out.tq aw)
      have bD:=hid aw
      have cr:=hid ar.lt
      clear aB ar aw b5 b0 b1 b2 b3 x0 x1 x2
      obtain ⟨b0,b1,b2,b3⟩:=(aA.out.same (ab.out.tq af.out)).cells
      go_wp2_with fail
      refine (dh.out aq).mono ?_
      rintro e dp ⟨bx,dt,rfl,aN,bT,bM⟩
      have bv:=a0t dp bx dt HL 1 1 aN (by decide) (by decide) (by rw [ap.out];decide)
      have aL:=hid bT
      have bi:=hid bM
      clear b0 b1 b2 b3 aN bT bM
      have aW:Hid (∀ Fz wz,a0u dt Fz dp wz->Chg [] aq wz/\∀ x∈Fz,aq.heap.size<=x):=hid (fun Fz wz hz=>⟨hz.fresh bi.out aL.out,hz.freshF bi.out aL.out⟩)
      go_wp2_with fail
      refine bv.mono ?_
      rintro e cL ⟨rfl,dm,aJ,aX⟩
      obtain ⟨cO,bB⟩:=aW.out dm cL aX
      obtain ⟨x0,x1,x2⟩:=(ci.out.same (af.out.tq cO)).cells
      have aE:=fc.out cL gL ac zs ts (aK.out cL (af.out.tq cO)) bx dm _ aJ (fun x hx hm=>by
       have h1:=cw.out x hx
       have h2:=bB x hm
       have h3:=af.out.size
       omega) (by rw [zC,ap.out,a0a];decide)
      have cj:=hid aX
      clear bv aJ aX cO bB
      go_wp2_with fail
      refine aE.mono ?_
      rintro e w19 ⟨rfl,cT,ax,bK⟩
      have ao:=cj.out.trans bK
      obtain ⟨ca,a0⟩:=aW.out cT w19 ao
      have D:Chg [] w19 w19.drew:=(zR [] w19).drew
      have bf:Chg [] w14 w19:=af.out.tq ca
      obtain ⟨bb,bV⟩:=zX (HL++a0b 1 1++a2q k p.d (a2y p))
      rw [<-bV] at ax
      have aP:bb++a1y none (a3q p) p.W p.H (a7i m)=T2:=by rw [bV,fo.out];simp only [zH]
      have bY:=bH.out w19.drew (a3q p) (some ⟨g9,0,none⟩) N (a7i m) (.slice (some ⟨gP,0,none⟩) k aa) bx cT bb ((b6.out.same (ab.out.tq bf)).same D) ft.out (co.out HM.out) ((((dg.out).toOwn.cells).same ca).same D) (zQ _) (dz.out HM.out).1 (dz.out HM.out).2.1 (ax.same D)
       (dg.out.toOwn.apt (fun x hx hm=>by
        simp at hx
        subst hx
        have:=a0 _ hm
        have:=cr.out
        omega)) (fun hm=>by
        have h1:=a0 0 hm
        have h2:=b6.out.lt
        have h3:=(ab.out.tq af.out).size
        omega) (by rw [bV,zC,zC,ap.out,a0a];have:=cD.out HM.out;omega)
      rw [aP] at bY
      obtain ⟨PB,c9⟩:=zX (a7i m)
      have aS:=d3.out HM.out
      rw [<-c9] at bY aS
      have dT:=hid bY
      have cV:=hid aS
      have aV:=hid ca
      have fD:Hid (∀ wz,Chg [] aq wz->(Go.convert 39 9 (.slice de n2 cu)).run Tryz.prog wz=.ok (.string S2) wz):=hid (fun wz hz=>ae.out wz (bD.out.tq hz))
      have fj:Hid (∀ bj w20,a0u cT bj w19.drew w20->Chg [] aq w20):=hid (fun bj w20 hz=>(aW.out bj w20 (ao.trans (a0u.pre D hz))).1)
      clear aE ax bK ao ca a0 bf bV aP bY c9 aS x0 x1 x2
      have cn:Hid (∀ wz F,a2n wz bx F T2->Calls Tryz.prog 19 #[.pointer (some ⟨bx,0,none⟩)] wz fun e w'=>∃ A c,e=.returned (.slice A d4 c)/\a0d b8 w' A (a1n T2)/\Chg [] wz w'):=hid (fun wz F hz=>by
       have h:=f5t hz (by have:=bG.out HM.out;omega)
       rw [<-cW.out] at h
       exact h)
      go_wp2_with fail
      have D0:Chg [] aq w19.drew:=aV.out.drew
      have a3:Hid (∀ wz,Chg [] aq wz->(wz.cell? ⟨X6,0,none⟩=some (.int .i64 p.W)/\wz.cell? ⟨X6,1,none⟩=some (.int .i64 p.H)/\wz.cell? ⟨X6,2,none⟩=some (.int .i64 p.d)/\wz.cell? ⟨X6,3,none⟩=some (.slice (some ⟨gP,0,none⟩) k aa))/\(wz.cell? ⟨X9,0,none⟩=some (.int .i64 p.d)/\wz.cell? ⟨X9,1,none⟩=some (.int .i64 k)/\wz.cell? ⟨X9,2,none⟩=some (.slice (some ⟨gL,0,none⟩) m ac))/\(Go.convert 39 9 (.slice de n2 cu)).run Tryz.prog wz=.ok (.string S2) wz):=hid (fun wz hz=>⟨(aA.out.same (ab.out.tq (af.out.tq hz))).cells,(ci.out.same (af.out.tq hz)).cells,fD.out wz hz⟩)
      -- R26
      refine f5k (S:=fun w'=>Chg [] aq w') 26 (by kernel_rfl) (by decide) D0 ?_
      refine hT (i:=0) (v:=?_) (by decide +kernel) rfl (fun _ _ _ h=>h) (by rfl) (by assumption) ?_ ?_
      rotate_left
      ·(intro wz hz;go_simp;try with_reducible rfl)
      try simp only [Act.put,List.getElem_toArray,List.getElem_cons_succ,List.getElem_cons_zero,List.setIfInBounds_toArray,List.set_cons_zero,List.set_cons_succ]
      refine hT (i:=1) (v:=?_) (by decide +kernel) rfl (fun _ _ _ h=>h) (by rfl) (by assumption) ?_ ?_
      rotate_left
      ·(intro wz hz;go_simp;try with_reducible rfl)
      try simp only [Act.put,List.getElem_toArray,List.getElem_cons_succ,List.getElem_cons_zero,List.setIfInBounds_toArray,List.set_cons_zero,List.set_cons_succ]
      refine hT (i:=2) (v:=?_) (by decide +kernel) rfl (fun _ _ _ h=>h) (by rfl) (by assumption) ?_ ?_
      rotate_left
      ·(intro wz hz;go_simp;try with_reducible rfl)
      try simp only [Act.put,List.getElem_toArray,List.getElem_cons_succ,List.getElem_cons_zero,List.setIfInBounds_toArray,List.set_cons_zero,List.set_cons_succ]
      refine hT (i:=3) (v:=?_) (by decide +kernel) rfl (fun _ _ _ h=>h) (by rfl) (by assumption) ?_ ?_
      rotate_left
      ·(intro wz hz;go_simp;try with_reducible rfl)
      try simp only [Act.put,List.getElem_toArray,List.getElem_cons_succ,List.getElem_cons_zero,List.setIfInBounds_toArray,List.set_cons_zero,List.set_cons_succ]
      refine hT (i:=4) (v:=?_) (by decide +kernel) rfl (fun _ _ _ h=>h) (by rfl) (by assumption) ?_ ?_
      rotate_left
      ·(intro wz hz;go_simp;try with_reducible rfl)
      try simp only [Act.put,List.getElem_toArray,List.getElem_cons_succ,List.getElem_cons_zero,List.setIfInBounds_toArray,List.set_cons_zero,List.set_cons_succ]
      refine hT (i:=5) (v:=?_) (by decide +kernel) rfl (fun _ _ _ h=>h) (by rfl) (by assumption) ?_ ?_
      rotate_left
      ·(intro wz hz;go_simp;try with_reducible rfl)
      try simp only [Act.put,List.getElem_toArray,List.getElem_cons_succ,List.getElem_cons_zero,List.setIfInBounds_toArray,List.set_cons_zero,List.set_cons_succ]
      refine hT (i:=6) (v:=?_) (by decide +kernel) rfl (fun _ _ _ h=>h) (by rfl) (by assumption) ?_ ?_
      rotate_left
      ·(intro wz hz;go_simp;try with_reducible rfl)
      try simp only [Act.put,List.getElem_toArray,List.getElem_cons_succ,List.getElem_cons_zero,List.setIfInBounds_toArray,List.set_cons_zero,List.set_cons_succ]
      refine hT (i:=7) (v:=?_) (by decide +kernel) rfl (fun _ _ _ h=>h) (by rfl) (by assumption) ?_ ?_
      rotate_left
      ·(intro wz hz;go_simp;try with_reducible rfl)
      try simp only [Act.put,List.getElem_toArray,List.getElem_cons_succ,List.getElem_cons_zero,List.setIfInBounds_toArray,List.set_cons_zero,List.set_cons_succ]
      refine hT (i:=8) (v:=?_) (by decide +kernel) rfl (fun _ _ _ h=>h) (by rfl) (by assumption) ?_ ?_
      rotate_left
      ·(intro wz hz;obtain ⟨⟨b0,b1,b2,b3⟩,⟨x0,x1,x2⟩,kk⟩:=a3.out wz hz;go_simp;try with_reducible rfl)
      try simp only [Act.put,List.getElem_toArray,List.getElem_cons_succ,List.getElem_cons_zero,List.setIfInBounds_toArray,List.set_cons_zero,List.set_cons_succ]
      refine hT (i:=9) (v:=?_) (by decide +kernel) rfl (fun _ _ _ h=>h) (by rfl) (by assumption) ?_ ?_
      rotate_left
      ·(intro wz hz;go_simp;try with_reducible rfl)
      try simp only [Act.put,List.getElem_toArray,List.getElem_cons_succ,List.getElem_cons_zero,List.setIfInBounds_toArray,List.set_cons_zero,List.set_cons_succ]
      refine hT (i:=10) (v:=?_) (by decide +kernel) rfl (fun _ _ _ h=>h) (by rfl) (by assumption) ?_ ?_
      rotate_left
      ·(intro wz hz;obtain ⟨⟨b0,b1,b2,b3⟩,⟨x0,x1,x2⟩,kk⟩:=a3.out wz hz;go_simp;try with_reducible rfl)
      try simp only [Act.put,List.getElem_toArray,List.getElem_cons_succ,List.getElem_cons_zero,List.setIfInBounds_toArray,List.set_cons_zero,List.set_cons_succ]
      refine hT (i:=11) (v:=?_) (by decide +kernel) rfl (fun _ _ _ h=>h) (by rfl) (by assumption) ?_ ?_
      rotate_left
      ·(intro wz hz;go_simp;try with_reducible rfl)
      try simp only [Act.put,List.getElem_toArray,List.getElem_cons_succ,List.getElem_cons_zero,List.setIfInBounds_toArray,List.set_cons_zero,List.set_cons_succ]
      refine f5n (i:=12) rfl (by decide) (by decide +kernel) ?_
      intro K' ad
      go_simp
      go_at_call 24
      refine (cV.out _).mono ?_
      rintro e w' ⟨rfl,rfl⟩
      refine ad.out _ _ (D0) ?_
      clear ad K'
      try simp only [Act.put,List.getElem_toArray,List.getElem_cons_succ,List.getElem_cons_zero,List.setIfInBounds_toArray,List.set_cons_zero,List.set_cons_succ]
      refine f5n (i:=13) rfl (by decide) (by decide +kernel) ?_
      intro K' ad
      go_simp
      go_at_call 16
      refine (dT.out).mono ?_
      rintro e w20 ⟨rfl,bj,ce,cd⟩
      have D1:Chg [] aq w20:=fj.out bj w20 cd
      refine ad.out _ _ (D1) ?_
      clear ad K'
      try simp only [Act.put,List.getElem_toArray,List.getElem_cons_succ,List.getElem_cons_zero,List.setIfInBounds_toArray,List.set_cons_zero,List.set_cons_succ]
      refine hT (i:=14) (v:=?_) (by decide +kernel) rfl (fun _ _ _ h=>h) (by rfl) (by assumption) ?_ ?_
      rotate_left
      ·(intro wz hz;go_simp;try with_reducible rfl)
      try simp only [Act.put,List.getElem_toArray,List.getElem_cons_succ,List.getElem_cons_zero,List.setIfInBounds_toArray,List.set_cons_zero,List.set_cons_succ]
      refine hT (i:=15) (v:=?_) (by decide +kernel) rfl (fun _ _ _ h=>h) (by rfl) (by assumption) ?_ ?_
      rotate_left
      ·(intro wz hz;go_simp;try with_reducible rfl)
      try simp only [Act.put,List.getElem_toArray,List.getElem_cons_succ,List.getElem_cons_zero,List.setIfInBounds_toArray,List.set_cons_zero,List.set_cons_succ]
      refine hT (i:=16) (v:=?_) (by decide +kernel) rfl (fun _ _ _ h=>h) (by rfl) (by assumption) ?_ ?_
      rotate_left
      ·(intro wz hz;go_simp;try with_reducible rfl)
      try simp only [Act.put,List.getElem_toArray,List.getElem_cons_succ,List.getElem_cons_zero,List.setIfInBounds_toArray,List.set_cons_zero,List.set_cons_succ]
      refine hT (i:=17) (v:=?_) (by decide +kernel) rfl (fun _ _ _ h=>h) (by rfl) (by assumption) ?_ ?_
      rotate_left
      ·(intro wz hz;go_simp;try with_reducible rfl)
      try simp only [Act.put,List.getElem_toArray,List.getElem_cons_succ,List.getElem_cons_zero,List.setIfInBounds_toArray,List.set_cons_zero,List.set_cons_succ]
      refine hT (i:=18) (v:=?_) (by decide +kernel) rfl (fun _ _ _ h=>h) (by rfl) (by assumption) ?_ ?_
      rotate_left
      ·(intro wz hz;go_simp;try with_reducible rfl)
      try simp only [Act.put,List.getElem_toArray,List.getElem_cons_succ,List.getElem_cons_zero,List.setIfInBounds_toArray,List.set_cons_zero,List.set_cons_succ]
      refine hT (i:=19) (v:=?_) (by decide +kernel) rfl (fun _ _ _ h=>h) (by rfl) (by assumption) ?_ ?_
      rotate_left
      ·(intro wz hz;go_simp;try with_reducible rfl)
      try simp only [Act.put,List.getElem_toArray,List.getElem_cons_succ,List.getElem_cons_zero,List.setIfInBounds_toArray,List.set_cons_zero,List.set_cons_succ]
      refine hT (i:=20) (v:=?_) (by decide +kernel) rfl (fun _ _ _ h=>h) (by rfl) (by assumption) ?_ ?_
      rotate_left
      ·(intro wz hz;go_simp;try with_reducible rfl)
      try simp only [Act.put,List.getElem_toArray,List.getElem_cons_succ,List.getElem_cons_zero,List.setIfInBounds_toArray,List.set_cons_zero,List.set_cons_succ]
      refine hT (i:=21) (v:=?_) (by decide +kernel) rfl (fun _ _ _ h=>h) (by rfl) (by assumption) ?_ ?_
      rotate_left
      ·(intro wz hz;obtain ⟨⟨b0,b1,b2,b3⟩,⟨x0,x1,x2⟩,kk⟩:=a3.out wz hz;go_simp;try with_reducible rfl)
      try simp only [Act.put,List.getElem_toArray,List.getElem_cons_succ,List.getElem_cons_zero,List.setIfInBounds_toArray,List.set_cons_zero,List.set_cons_succ]
      refine hT (i:=22) (v:=?_) (by decide +kernel) rfl (fun _ _ _ h=>h) (by rfl) (by assumption) ?_ ?_
      rotate_left
      ·(intro wz hz;go_simp;try with_reducible rfl)
      try simp only [Act.put,List.getElem_toArray,List.getElem_cons_succ,List.getElem_cons_zero,List.setIfInBounds_toArray,List.set_cons_zero,List.set_cons_succ]
      refine f5n (i:=23) rfl (by decide) (by decide +kernel) ?_
      intro K' ad
      go_simp
      go_at_call 19
      refine (cn.out _ _ ce).mono ?_
      rintro e w21 ⟨fU,fp,rfl,bl,d2⟩
      have D2:Chg [] aq w21:=D1.tq d2
      refine ad.out _ _ (D2) ?_
      clear ad K'
      try simp only [Act.put,List.getElem_toArray,List.getElem_cons_succ,List.getElem_cons_zero,List.setIfInBounds_toArray,List.set_cons_zero,List.set_cons_succ]
      refine f5n (i:=24) rfl (by decide) (by decide +kernel) ?_
      intro K' ad
      go_simp
      go_at_call 18
      refine (am.out _ _ _ bl).mono ?_
      rintro e w22 ⟨fM,rfl,k2,fB⟩
      have D3:Chg [] aq w22:=D2.tq fB
      refine ad.out _ _ (D3) ?_
      clear ad K'
      try simp only [Act.put,List.getElem_toArray,List.getElem_cons_succ,List.getElem_cons_zero,List.setIfInBounds_toArray,List.set_cons_zero,List.set_cons_succ]
      refine f5n (i:=25) rfl (by decide) (by decide +kernel) ?_
      intro K' ad
      go_simp
      refine ad.out _ _ (D3) ?_
      clear ad K'
      try simp only [Act.put,List.getElem_toArray,List.getElem_cons_succ,List.getElem_cons_zero,List.setIfInBounds_toArray,List.set_cons_zero,List.set_cons_succ]
      refine f5x (by decide +kernel) ?_
      simp only [List.drop_succ_cons,List.drop_zero,List.toList_toArray]
      have cb:=dM.out w22 (ab.out.tq (af.out.tq D3))
      go_wp2_with fail
      refine cb.mono ?_
      rintro e fK ⟨rfl,fg⟩
      go_wp2_with fail
      go_ret
      exact ⟨rfl,dw.out.tq ((ab.out.tq (af.out.tq D3)).tq fg)⟩
      -- END
     ·obtain ⟨w14,ag⟩:=zX (aQ.alloc (.cells #[.int .i64 0,.int .i64 0,.slice none 0 0] 45))
      have ah:Chg [] aQ w14:=by rw [ag];exact (zR [] aQ).alloc _
      have ab:=hid ((b4.out.tq aH).tq ah)
      obtain ⟨b0,b1,b2,b3⟩:=(aA.out.same ab.out).cells
      rw [ag] at b0 b1 b2 b3
      have a4:=hid ag
      have aR:=a6.out
      rw [if_neg (by omega)] at aR
      have a6:=hid aR
      clear aH ah ag aR aj
      unfold f4u
      go_wp2_with fail
      rw [<-a4.out]
      refine (a6.out w14 ab.out).mono ?_
      rintro e bz ⟨rfl,av⟩
      clear b0 b1 b2 b3
      have ak:=hid (ab.out.tq av)
      clear av
      go_wp2_with fail
      refine (dM.out bz ak.out).mono ?_
      rintro e aq ⟨rfl,aw⟩
      go_wp2_with fail
      go_ret
      exact ⟨rfl,dw.out.tq (ak.out.tq aw)⟩
   ·have hk:k<n:=by omega
    have t1:decide ((k:Int)<(n:Int))=true:=zB (by omega)
    have ch:k<Q.P.length:=by rw [HQ.out.2.1];exact hk
    obtain ⟨aC,fm,cM,cx,cz⟩:=HQ.out
    have cJ:Q.W*Q.H=N:=by rw [cM,cx];exact HN.out.symm
    have a2:=fw.out.same b9.out
    obtain ⟨g3,c3,e1,e2,e3,e4⟩:=a2.plane ch
    rw [cJ] at e1 e3 e4
    obtain ⟨c3',dL,aZ,-,-,-⟩:=e3.oq
    have cN:=a0n ch
    have cH:(Q.P.getD k []).length=N:=by rw [<-cJ];exact aC.len _ cN
    have cK:c3=c3':=by injection dL
    subst cK
    rw [cH] at aZ
    have dr:a1u p.d (Q.P.getD k []):=by rw [<-cz];exact aC.smp _ cN
    have ds:1<=p.d:=dv.out.d0
    have dx:p.d<=16:=dv.out.d1
    have hlen:(BB++a1d none Q k).length<17179869184:=by
     rw [zC,cG.out]
     have:=b2a (way:=none) (fun _ e=>by cases e) aC k (a9b _ _)
     omega
    have bF:Apt (some ⟨g3,0,none⟩) (Q.P.getD k []) Fk:=e3.toOwn.apt (fun x hx hm=>by
     simp at hx
     subst hx
     have h1:=dC.out _ hm
     have h2:=fs.out _ (List.mem_cons_of_mem _ (List.mem_of_getElem? e2))
     omega)
    have dq:(BB++a1d none Q k)++a1y none (Q.P.getD k []) p.W p.H p.d=BB++a1d none Q (k+1):=by
     rw [a5t,zH,cM,cx,cz]
    have fC:Hid (∀ wz,Chg [] wr wz->Calls Tryz.prog 16 #[.pointer (some ⟨bw,0,none⟩),.slice (some ⟨g3,0,none⟩) N c3,.agg #[.int .i64 p.W,.int .i64 p.H,.int .i64 p.d,.slice (some ⟨gP,0,none⟩) n aa],.int .i64 p.d] wz fun e w'=>e=.returned (.bool true)/\∃ F',a2n w' bw F' (BB++a1d none Q (k+1))/\a0u Fk F' wz w'):=hid (fun wz hz=>by
     have h:=bH.out wz (Q.P.getD k []) (some ⟨g3,0,none⟩) c3 p.d (.slice (some ⟨gP,0,none⟩) n aa) bw Fk _ ((b6.out.same (a7.out.tq b9.out)).same hz) cH dr ((e3.toOwn.cells).same hz) aZ ds dx (cY.out.same hz) bF (fun hm=>by
      have h1:=dC.out 0 hm
      have h2:=b6.out.lt
      have h3:=a7.out.size
      omega) hlen
     rw [dq] at h
     exact h)
    have fu:Hid (∀ nq F' w',a0u Fk F' (wr.drewN nq) w'->a0u F6 F' w6 w'):=hid (fun nq F' w' hz=>cX.out.trans (a0u.pre ((zR [] wr).drewN nq) hz))
    obtain ⟨wo,fy⟩:=zX (wr)
    subst fy
    clear ch aC fm cM cx cz cJ a2 e1 e2 e3 dL aZ cN cH dr ds dx hlen bF dq
    go_wp2_with fail
    refine a0c 9 (by kernel_rfl) (by kernel_rfl) ?_
    simp only [List.take_succ_cons,List.take_zero,List.drop_succ_cons,List.drop_zero]
    repeat (go_big_quiet_step (fail))
    refine wpQuiet_nil ?_
    intro _ fk
    obtain ⟨nq,rfl⟩:=fk
    have dF:=fC.out (wo.drewN nq) ((zR [] wo).drewN nq)
    clear b0 b1 b2 b3 y0 y1 y2 y3 e4
    go_wp2_with fail
    refine dF.mono ?_
    rintro e w9 ⟨rfl,F9,di,b5⟩
    have d6:=hid (fu.out nq F9 w9 b5)
    have fi:=hid di
    clear dF di b5
    go_wp2_with fail
    go_roundg j
    case measure=>omega
    case rel=>exact ⟨k+1,F9,rfl,by go_num,by omega,fi,d6⟩
end Go.Proofs.YtepjepkgcdfboaaGreatDoor
