/- slices.Repeat of one number by its contract. -/
import Derived.Test.YtepjepkgcdfboaaGreatDoorMg30
import Derived.Test.YtepjepkgcdfboaaGreatDoorMg18
import Derived.Deep.RegionLaw
set_option linter.unusedVariables false
set_option linter.unusedSimpArgs false
set_option maxHeartbeats 2000000
set_option maxRecDepth 100000
namespace Go.Proofs.YtepjepkgcdfboaaGreatDoor
open Go.RowKit
theorem e3y (n:Nat) (w:World) (hn:n<=4096):Calls Tryz.prog 259 #[.int .u64 1,.int .u64 n] w fun e w'=>e=.returned (.tuple #[.int .u64 0,.int .u64 n])/\w=w':=by
 have h1:bits .and .u64 1 4294967295=1:=by decide
 have h2:bits .and .u64 (n:Int) 4294967295=(n:Int):=by
  have:=b9z (v:=(n:Int)) (i:=32) (by omega) (by omega) (by omega)
  rw [show (2:Int)^32-1=4294967295 from rfl] at this
  rw [this]
  exact Int.emod_eq_of_lt (by omega) (by omega)
 have h0:bits .and .u64 0 4294967295=0:=by decide
 have h3:(n:Int).fdiv 4294967296=0:=by rw [Int.fdiv_eq_ediv_of_nonneg _ (by omega)];omega
 have h4:(n:Int) / 4294967296=0:=by omega
 go_enter Tryz.func259,Tryz.ntmps259
 go_wp2
 refine bodyPost_ret (v:=.tuple #[.int .u64 0,.int .u64 n]) (by simp [results,Tryz.results259,go_sem]) rfl ?_
 exact ⟨rfl,rfl⟩
theorem mul_one (n:Nat) (w:World) (hn:n<=4096):Calls Tryz.prog 224 #[.int .u64 1,.int .u64 n] w fun e w'=>e=.returned (.tuple #[.int .u64 0,.int .u64 n])/\w=w':=by
 have hm:=e3y n w hn
 have aa:IntKind.u64.wrap (n:Int)=(n:Int):=IntWalk.u64_in _ (by omega)
 go_enter Tryz.func224,Tryz.ntmps224
 go_wp2_with (go_at_call 259;refine hm.mono ?_;rintro e w' ⟨rfl,rfl⟩)
 refine bodyPost_ret (v:=.tuple #[.int .u64 0,.int .u64 n]) (by simp [results,Tryz.results224,go_sem]) rfl ?_
 exact ⟨rfl,rfl⟩
set_option pp.deepTerms true in
set_option pp.maxSteps 1000000 in
theorem e5e (w:World) (ad:Addr) (cap n:Nat) (x:Int) (hn0:1<=n) (hn:n<=4096) (hc:w.cell? ad=some (.int .i64 x)) (had:ad.block<w.heap.size) :
  Calls Tryz.prog 176 #[.slice (some ad) 1 cap,.int .i64 n] w fun e w'=>∃ v g,e=.returned v/\Row w' 3 v g ((List.replicate n x).map vi)/\Chg [] w w'/\w.heap.size<=g:=by
 have hm:=mul_one n w hn
 have aK:IntKind.u64.wrap (n:Int)=(n:Int):=IntWalk.u64_in _ (by omega)
 have aG:IntKind.i64.wrap (n:Int)=(n:Int):=IntWalk.i64_in _ (by omega)
 have t1:decide ((n:Int)<0)=false:=by simp
 have t2:decide ((9223372036854775807:Int)<(n:Int))=false:=zA (by omega)
 have aD:=a1p (P:=Tryz.prog) a0p rfl .i64 .i64 n (by omega) (by omega)
 go_enter Tryz.func176,Tryz.ntmps176
 have am:(w.alloc (.cells (Array.replicate n (Value.int .i64 0)) 3)).heap[w.heap.size]?=some (.cells (List.replicate n (Value.int .i64 0)).toArray 3 (0,0)):=by
  have:=Blk.new w 3 (Array.replicate n (Value.int .i64 0))
  simpa [Blk] using this
 have aj:Chg [] w (w.alloc (.cells (Array.replicate n (Value.int .i64 0)) 3)):=(zR [] w).alloc _
 have ao:=aj.cell (by simp) hc
 have ar:=Below.refl w.heap.size (w.alloc (.cells (Array.replicate n (Value.int .i64 0)) 3))
 go_wp2_with (first | (go_at_call 224;refine hm.mono ?_;rintro e w' ⟨rfl,rfl⟩) | (refine wpList_copy_splice rfl (.tmp 31) (.tmp 32) 22 22 rfl 3 Tryz.underlying22 (by kernel_rfl) (some ⟨w.heap.size,0,none⟩) (some ad) n n 1 cap rfl rfl w.heap.size 0 (List.replicate n (Value.int .i64 0)) 3 am [.int .i64 x] ?c1 ?c2 ?c3 ?c4 w.heap.size _ ar (zQ _) ?_))
 case c1=>show 1=Nat.min 1 n;exact (Nat.min_eq_left hn0).symm
 case c2 =>
  intro j v hj
  cases j with
  | zero =>
   have e:ad.add 0=ad:=by unfold Addr.add;split<;>simp_all
   rw [e,ao]
   simpa using hj
  | succ j=>simp at hj
 case c3=>simp;omega
 case c4=>intro v hv;simp at hv;subst hv;rfl
 intro w1 ap an
 have ae:Hid (w1.heap[w.heap.size]?=some (.cells (List.replicate 1 (Value.int .i64 x)++List.replicate (n-1) (Value.int .i64 0)).toArray 3 (0,0))):=hid (by
  have:=ap.out
  rw [e5d _ _ _ hn0] at this
  exact this)
 have ag:Hid (Below w.heap.size w w1):=hid ((aj.toBelow (zQ _) (by simp)).trans an)
 obtain ⟨B,hB⟩:=zX (w.heap.size)
 rw [<-hB] at ae ag ⊢
 have HB:=hid hB
 clear ap an am ao ar aj hB aD hc had
 go_wp2_with fail
 go_loopg [8] n (fun j vn wr=>∃ m:Nat,vn=.int .i64 m/\1<=m/\m<=n/\n<=m+j/\Hid (wr.heap[B]?=some (.cells (List.replicate m (Value.int .i64 x)++List.replicate (n-m) (Value.int .i64 0)).toArray 3 (0,0)))/\Hid (Below B w wr))
 case atStart=>exact ⟨1,rfl,by omega,by omega,by omega,ae,ag⟩
 case round =>
  clear ae ag
  obtain ⟨m,rfl,aI,aE,aJ,HG,au⟩:=hrel
  by_cases hmn:n<=m
  ·obtain rfl:m=n:=by omega
   have t5:decide (m<m)=false:=by simp
   go_wp2_with fail
   go_ret
   have ah:Row wr 3 (.slice (some ⟨B,0,none⟩) m m) B ((List.replicate m x).map vi) :=
    ⟨⟨m,_,by rw [zE,zV],HG.out,by simp,by simp [maxLen];omega,by simp,by simp [vi]⟩⟩
   exact ⟨.slice (some ⟨B,0,none⟩) m m,B,rfl,ah,Chg.of_below (by rw [<-HB.out];exact au.out),by rw [HB.out];exact zQ _⟩
  ·rcases gk with _ | j
   ·exfalso;omega
   have t5:decide (m<n)=true:=zB (by omega)
   obtain ⟨k,hk⟩:=zX (min m (n-m))
   have aF:1<=k/\k<=m/\k<=n-m:=by omega
   have HK:=hid hk
   have ai:=HG.out
   clear hk
   go_wp2_with fail
   have c1:(List.replicate k (Value.int .i64 x)).length=Nat.min m (n-m):=by rw [zV];exact HK.out
   have c2:∀ (wz:World),wz.heap[B]?=wr.heap[B]?->∀ (j:Nat) (v:Value),(List.replicate k (Value.int .i64 x))[j]?=some v->wz.cell? ((⟨B,0,none⟩:Addr).add j)=some v:=by
    intro wz hz j v hj
    rw [List.getElem?_replicate] at hj
    split at hj
    ·rename_i hjk
     have e:(⟨B,0,none⟩:Addr).add j=⟨B,j,none⟩:=by unfold Addr.add;split<;>simp_all
     have hb:Blk wz B 3 (List.replicate m (Value.int .i64 x)++List.replicate (n-m) (Value.int .i64 0)).toArray:=hz.trans ai
     rw [e,hb.cell]
     simp only [List.getElem?_toArray]
     rw [List.getElem?_append_left (by rw [zV];omega),List.getElem?_replicate,if_pos (by omega)]
     exact hj
    ·cases hj
   have c3:m+(List.replicate k (Value.int .i64 x)).length<=(List.replicate m (Value.int .i64 x)++List.replicate (n-m) (Value.int .i64 0)).length:=by simp;omega
   have c4:∀ v∈List.replicate k (Value.int .i64 x),v.oneCell'=true:=fun v hv=>by rw [List.eq_of_mem_replicate hv];rfl
   obtain ⟨cs,ab⟩:=zX (List.replicate k (Value.int .i64 x))
   obtain ⟨az,aa⟩:=zX (List.replicate m (Value.int .i64 x)++List.replicate (n-m) (Value.int .i64 0))
   rw [<-ab] at c1 c2 c3 c4
   rw [<-aa] at c3 ai
   have C1:=hid c1
   have C3:=hid c3
   have ck:cs.length=k:=by rw [ab,zV]
   have ax:=hid ab
   have aB:=hid aa
   clear ab aa c1 c3
   obtain ⟨m2,aq⟩:∃ m2:Nat,m2=m+k:=⟨_,rfl⟩
   have aH:(m:Int)+(k:Int)=(m2:Int):=by omega
   have aA:=hid aq
   have af:m2<=n:=by omega
   have ak:n<=m2+j:=by omega
   have ac:1<=m2:=by omega
   clear aq
   have al:¬ n=m:=by omega
   have av:=hid al
   have aC:∀ (wz:World),wz=wr.drew->Below B wr wz:=fun wz hz=>by rw [hz];exact ⟨rfl,rfl,rfl,zQ _,fun _ _=>rfl⟩
   clear al
   go_region_law (refine step_copy_splice (by rfl) (.tmp 41) (.tmp 44) 22 22 (by rfl) 3 Tryz.underlying22 (by kernel_rfl) (if n=m then some ⟨B,0,none⟩ else some ⟨B,m,none⟩) (some ⟨B,0,none⟩) (n-m) (n-m) m n (by rfl) (by simp [go_sem]) B m az 3 (by exact ai) cs C1.out (fun _=>⟨if_neg av.out,_,rfl,c2 _ rfl⟩) C3.out c4 B wr (aC _ rfl) (zQ _) ?_;intro w4 ay aw)
   go_wp2_with fail
   go_roundg j
   case measure=>omega
   case rel =>
    refine ⟨m2,congrArg (Value.int .i64) (IntWalk.i64_in _ (by omega)),ac,af,ak,hid ?_,hid (au.out.trans aw)⟩
    have h1:=ay.out
    rw [ax.out,aB.out,d7l _ _ _ _ _ (by omega)] at h1
    rw [h1,aA.out,Nat.sub_sub]
end Go.Proofs.YtepjepkgcdfboaaGreatDoor
