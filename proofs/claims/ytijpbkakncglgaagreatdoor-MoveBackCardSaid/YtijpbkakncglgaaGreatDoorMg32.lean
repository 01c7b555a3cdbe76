/- slices.Repeat of one number by its contract. -/
import Derived.Test.YtijpbkakncglgaaGreatDoorMg31
import Derived.Test.YtijpbkakncglgaaGreatDoorMg20
import Derived.Deep.RegionLaw
set_option linter.unusedVariables false
set_option linter.unusedSimpArgs false
set_option maxHeartbeats 2000000
set_option maxRecDepth 100000
namespace Go.Proofs.YtijpbkakncglgaaGreatDoor
open Go.RowKit
theorem mul64_one (n:Nat) (w:World) (hn:n≤4096):Calls Tryz.prog 138 #[.int .u64 1,.int .u64 n] w fun e w'=>e=.returned (.tuple #[.int .u64 0,.int .u64 n])∧w=w':=by
 have h1:bits .and .u64 1 4294967295=1:=by decide
 have h2:bits .and .u64 (n:Int) 4294967295=(n:Int):=by
  have:=band_mask_u (v:=(n:Int)) (i:=32) (by omega) (by omega) (by omega)
  rw [show (2:Int)^32-1=4294967295 from rfl] at this
  rw [this]
  exact Int.emod_eq_of_lt (by omega) (by omega)
 have h0:bits .and .u64 0 4294967295=0:=by decide
 have h3:(n:Int).fdiv 4294967296=0:=by rw [Int.fdiv_eq_ediv_of_nonneg _ (by omega)];omega
 have h4:(n:Int) / 4294967296=0:=by omega
 go_enter Tryz.func138,Tryz.ntmps138
 go_wp2
 refine bodyPost_ret (v:=.tuple #[.int .u64 0,.int .u64 n]) (by simp [results,Tryz.results138,go_sem]) rfl ?_
 exact ⟨rfl,rfl⟩
theorem mul_one (n:Nat) (w:World) (hn:n≤4096):Calls Tryz.prog 96 #[.int .u64 1,.int .u64 n] w fun e w'=>e=.returned (.tuple #[.int .u64 0,.int .u64 n])∧w=w':=by
 have hm:=mul64_one n w hn
 have hw1:IntKind.u64.wrap (n:Int)=(n:Int):=IntWalk.u64_in _ (by omega)
 go_enter Tryz.func96,Tryz.ntmps96
 go_wp2_with (go_at_call 138;refine hm.mono ?_;rintro e w' ⟨rfl,rfl⟩)
 refine bodyPost_ret (v:=.tuple #[.int .u64 0,.int .u64 n]) (by simp [results,Tryz.results96,go_sem]) rfl ?_
 exact ⟨rfl,rfl⟩
set_option pp.deepTerms true in
set_option pp.maxSteps 1000000 in
theorem repeat_ok (w:World) (ad:Addr) (cap n:Nat) (x:Int) (hn0:1≤n) (hn:n≤4096) (hc:w.cell? ad=some (.int .i64 x)) (had:ad.block<w.heap.size) :
  Calls Tryz.prog 75 #[.slice (some ad) 1 cap,.int .i64 n] w fun e w'=>∃ v g,e=.returned v∧Row w' 3 v g ((List.replicate n x).map vi)∧Chg [] w w'∧w.heap.size≤g:=by
 have hm:=mul_one n w hn
 have hw1:IntKind.u64.wrap (n:Int)=(n:Int):=IntWalk.u64_in _ (by omega)
 have hw2:IntKind.i64.wrap (n:Int)=(n:Int):=IntWalk.i64_in _ (by omega)
 have t1:decide ((n:Int)<0)=false:=by simp
 have t2:decide ((9223372036854775807:Int)<(n:Int))=false:=zA (by omega)
 have hmk:=run_make1 (P:=Tryz.prog) int_elem rfl .i64 .i64 n (by omega) (by omega)
 go_enter Tryz.func75,Tryz.ntmps75
 have hg0:(w.alloc (.cells (Array.replicate n (Value.int .i64 0)) 3)).heap[w.heap.size]?=some (.cells (List.replicate n (Value.int .i64 0)).toArray 3 (0,0)):=by
  have:=Blk.new w 3 (Array.replicate n (Value.int .i64 0))
  simpa [Blk] using this
 have ch0:Chg [] w (w.alloc (.cells (Array.replicate n (Value.int .i64 0)) 3)):=(Chg.refl [] w).alloc _
 have hc0:=ch0.cell (by simp) hc
 have hbl:=Below.refl w.heap.size (w.alloc (.cells (Array.replicate n (Value.int .i64 0)) 3))
 go_wp2_with (first | (go_at_call 96;refine hm.mono ?_;rintro e w' ⟨rfl,rfl⟩) | (refine wpList_copy_splice rfl (.tmp 31) (.tmp 32) 22 22 rfl 3 Tryz.underlying22 (by kernel_rfl) (some ⟨w.heap.size,0,none⟩) (some ad) n n 1 cap rfl rfl w.heap.size 0 (List.replicate n (Value.int .i64 0)) 3 hg0 [.int .i64 x] ?c1 ?c2 ?c3 ?c4 w.heap.size _ hbl (Nat.le_refl _) ?_))
 case c1=>show 1=Nat.min 1 n;exact (Nat.min_eq_left hn0).symm
 case c2 =>
  intro j v hj
  cases j with
  | zero =>
   have e:ad.add 0=ad:=by unfold Addr.add;split<;>simp_all
   rw [e,hc0]
   simpa using hj
  | succ j=>simp at hj
 case c3=>simp;omega
 case c4=>intro v hv;simp at hv;subst hv;rfl
 intro w1 HG1 hb1
 have HG2:Hid (w1.heap[w.heap.size]?=some (.cells (List.replicate 1 (Value.int .i64 x)++List.replicate (n-1) (Value.int .i64 0)).toArray 3 (0,0))):=hid (by
  have:=HG1.out
  rw [rep_first _ _ _ hn0] at this
  exact this)
 have HB1:Hid (Below w.heap.size w w1):=hid ((ch0.toBelow (Nat.le_refl _) (by simp)).trans hb1)
 obtain ⟨B,hB⟩:∃ B,B=w.heap.size:=⟨_,rfl⟩
 rw [←hB] at HG2 HB1 ⊢
 have HB:=hid hB
 clear HG1 hb1 hg0 hc0 hbl ch0 hB hmk hc had
 go_wp2_with fail
 go_loopg [8] n (fun j vn wr=>∃ m:Nat,vn=.int .i64 m∧1≤m∧m≤n∧n≤m+j∧Hid (wr.heap[B]?=some (.cells (List.replicate m (Value.int .i64 x)++List.replicate (n-m) (Value.int .i64 0)).toArray 3 (0,0)))∧Hid (Below B w wr))
 case atStart=>exact ⟨1,rfl,by omega,by omega,by omega,HG2,HB1⟩
 case round =>
  clear HG2 HB1
  obtain ⟨m,rfl,hm0,hm1,hmj,HG,HBW⟩:=hrel
  by_cases hmn:n≤m
  ·obtain rfl:m=n:=by omega
   have t5:decide (m<m)=false:=by simp
   go_wp2_with fail
   go_ret
   have hrow:Row wr 3 (.slice (some ⟨B,0,none⟩) m m) B ((List.replicate m x).map vi) :=
    ⟨⟨m,_,by rw [zE,List.length_replicate],HG.out,by simp,by simp [maxLen];omega,by simp,by simp [vi]⟩⟩
   exact ⟨.slice (some ⟨B,0,none⟩) m m,B,rfl,hrow,Chg.of_below (by rw [←HB.out];exact HBW.out),by rw [HB.out];exact Nat.le_refl _⟩
  ·rcases gk with _ | j
   ·exfalso;omega
   have t5:decide (m<n)=true:=zB (by omega)
   obtain ⟨k,hk⟩:∃ k,k=min m (n-m):=⟨_,rfl⟩
   have hk1:1≤k∧k≤m∧k≤n-m:=by omega
   have HK:=hid hk
   have hgr:=HG.out
   clear hk
   go_wp2_with fail
   have c1:(List.replicate k (Value.int .i64 x)).length=Nat.min m (n-m):=by rw [List.length_replicate];exact HK.out
   have c2:∀ (wz:World),wz.heap[B]?=wr.heap[B]?→∀ (j:Nat) (v:Value),(List.replicate k (Value.int .i64 x))[j]?=some v→wz.cell? ((⟨B,0,none⟩:Addr).add j)=some v:=by
    intro wz hz j v hj
    rw [List.getElem?_replicate] at hj
    split at hj
    ·rename_i hjk
     have e:(⟨B,0,none⟩:Addr).add j=⟨B,j,none⟩:=by unfold Addr.add;split<;>simp_all
     have hb:Blk wz B 3 (List.replicate m (Value.int .i64 x)++List.replicate (n-m) (Value.int .i64 0)).toArray:=hz.trans hgr
     rw [e,hb.cell]
     simp only [List.getElem?_toArray]
     rw [List.getElem?_append_left (by rw [List.length_replicate];omega),List.getElem?_replicate,if_pos (by omega)]
     exact hj
    ·cases hj
   have c3:m+(List.replicate k (Value.int .i64 x)).length≤(List.replicate m (Value.int .i64 x)++List.replicate (n-m) (Value.int .i64 0)).length:=by simp;omega
   have c4:∀ v∈List.replicate k (Value.int .i64 x),v.oneCell'=true:=fun v hv=>by rw [List.eq_of_mem_replicate hv];rfl
   obtain ⟨cs,hcs⟩:∃ cs,cs=List.replicate k (Value.int .i64 x):=⟨_,rfl⟩
   obtain ⟨cur,hcur⟩:∃ cur,cur=List.replicate m (Value.int .i64 x)++List.replicate (n-m) (Value.int .i64 0):=⟨_,rfl⟩
   rw [←hcs] at c1 c2 c3 c4
   rw [←hcur] at c3 hgr
   have C1:=hid c1
   have C3:=hid c3
   have ck:cs.length=k:=by rw [hcs,List.length_replicate]
   have HCS:=hid hcs
   have HCU:=hid hcur
   clear hcs hcur c1 c3
   obtain ⟨m2,hm2⟩:∃ m2:Nat,m2=m+k:=⟨_,rfl⟩
   have em2:(m:Int)+(k:Int)=(m2:Int):=by omega
   have HM2:=hid hm2
   have hm2n:m2≤n:=by omega
   have hm2j:n≤m2+j:=by omega
   have hm20:1≤m2:=by omega
   clear hm2
   have hne:¬ n=m:=by omega
   have HNE:=hid hne
   have hbw:∀ (wz:World),wz=wr.drew→Below B wr wz:=fun wz hz=>by rw [hz];exact ⟨rfl,rfl,rfl,Nat.le_refl _,fun _ _=>rfl⟩
   clear hne
   go_region_law (refine step_copy_splice (by rfl) (.tmp 41) (.tmp 44) 22 22 (by rfl) 3 Tryz.underlying22 (by kernel_rfl) (if n=m then some ⟨B,0,none⟩ else some ⟨B,m,none⟩) (some ⟨B,0,none⟩) (n-m) (n-m) m n (by rfl) (by simp [go_sem]) B m cur 3 (by exact hgr) cs C1.out (fun _=>⟨if_neg HNE.out,_,rfl,c2 _ rfl⟩) C3.out c4 B wr (hbw _ rfl) (Nat.le_refl _) ?_;intro w4 hg4 hb4)
   go_wp2_with fail
   go_roundg j
   case measure=>omega
   case rel =>
    refine ⟨m2,congrArg (Value.int .i64) (IntWalk.i64_in _ (by omega)),hm20,hm2n,hm2j,hid ?_,hid (HBW.out.trans hb4)⟩
    have h1:=hg4.out
    rw [HCS.out,HCU.out,rep_step _ _ _ _ _ (by omega)] at h1
    rw [h1,HM2.out,Nat.sub_sub]
end Go.Proofs.YtijpbkakncglgaaGreatDoor
