/- Lemmas. -/
import Derived.Test.YtifdlkoepaepiaaGreatDoorMh13
import Derived.Test.YtifdlkoepaepiaaGreatDoorMh19
import Derived.Deep.RegionLaw
set_option linter.all false
set_option maxHeartbeats 2000000
set_option maxRecDepth 100000
namespace Go.Proofs.YtifdlkoepaepiaaGreatDoor
open Tryz List Nat Go.RowKit
theorem MK(n:Nat)(w:World)(f:n<=4096):Calls prog 186 #[.int .u64 1,.int .u64 n] w λe w'=>e=.returned (.tuple #[.int .u64 0,.int .u64 n])/\w=w':=by
 have b:bits .and .u64 1 4294967295=1:=by decide
 have c:bits .and .u64 (n:Int) 4294967295=(n:Int):=by
  have:=CO (v:=(n:Int)) (i:=32) (by omega) (by omega) (by omega)
  rw[show(2:Int)^32-1=4294967295 from rfl]at this;rw[this];exact Int.emod_eq_of_lt (by omega) (by omega)
 have a:bits .and .u64 0 4294967295=0:=by decide
 have d:(n:Int) / 4294967296=0:=by omega
 go_enter func186,ntmps186;go_wp2;refine bodyPost_ret (v:=.tuple #[.int .u64 0,.int .u64 n]) (by simp[results,results186,go_sem]) rfl ?_;exact⟨rfl,rfl⟩
theorem mul_one(n:Nat)(w:World)(b:n<=4096):Calls prog 134 #[.int .u64 1,.int .u64 n] w λe w'=>e=.returned (.tuple #[.int .u64 0,.int .u64 n])/\w=w':=by
 have a:=MK n w b;go_enter func134,ntmps134
 go_wp2_with(go_at_call 186;refine gB a ?_)
 refine bodyPost_ret (v:=.tuple #[.int .u64 0,.int .u64 n]) (by simp[results,results134,go_sem]) rfl ?_;exact⟨rfl,rfl⟩
set_option pp.deepTerms true in set_option pp.maxSteps 1000000 in theorem M6(w:World)(ad:Addr)(b n:Nat)(x:Int)(c:1<=n)(W:n<=4096)(F:w.cell? ad=some (.int .i64 x))(o:ad.block<w.heap.size):Calls prog 111 #[.slice (some ad) 1 b,n] w λe G=>∃ v g,e=.returned v/\gv G 3 v g ((replicate n x).map vi)/\gg [] w G/\w.heap.size<=g:=by
 have V:=mul_one n w W
 have aJ:IntKind.u64.wrap (n:Int)=(n:Int):=IntWalk.u64_in _ (by omega)
 have aK:IntKind.i64.wrap (n:Int)=(n:Int):=IntWalk.i64_in _ (by omega)
 have t1:decide ((n:Int)<0)=false:=by simp
 have t2:=Ra 9223372036854775807 n (by omega)
 have M:=kg (P:=prog) iO rfl .i64 .i64 n (by omega) (by omega)
 go_enter func111,ntmps111
 have A:(w.alloc (.cells (Array.replicate n (Value.int .i64 0)) 3)).heap[w.heap.size]?=some (.cells (replicate n (Value.int .i64 0)).toArray 3 (0,0)):=by
  have:=gn.new w 3 (Array.replicate n (Value.int .i64 0))
  simpa[gn]using this
 have i:gg [] w (w.alloc (.cells (Array.replicate n (Value.int .i64 0)) 3)):=(zR [] w).alloc _
 have z:=i.X (by simp) F
 have y:=Below.refl w.heap.size (w.alloc (.cells (Array.replicate n (Value.int .i64 0)) 3))
 go_wp2_with(first|(go_at_call 134;refine gB V ?_)|(refine wpList_copy_splice rfl (.tmp 31) (.tmp 32) 22 22 rfl 3 underlying22 (by kernel_rfl) (some ⟨w.heap.size,0,none⟩) (some ad) n n 1 b rfl rfl w.heap.size 0 (replicate n (Value.int .i64 0)) 3 A [.int .i64 x] ?c1 ?c2 ?c3 ?c4 w.heap.size _ y (zQ _) ?_))
 case c1=>show 1=Nat.min 1 n;exact(Nat.min_eq_left c).symm
 case c2=>
  intro j v a
  cases j with
  | zero=>
   have e:ad.add 0=ad:=by unfold Addr.add;split<;>simp_all
   rw[e,z]
   simpa using a
  | succ j=>simp at a
 case c3=>simp;omega
 case c4=>intro v d;simp at d;subst d;rfl
 intro H t u
 have h:gh (H.heap[w.heap.size]?=some (.cells (replicate 1 (Value.int .i64 x)++replicate (n-1) (Value.int .i64 0)).toArray 3 (0,0))):=gd (by
  have:_=_:=t
  rw[M5 _ _ _ c]at this
  exact this)
 have f:gh (Below w.heap.size w H):=gd ((i.toBelow (zQ _) (by simp)).trans u)
 have⟨B,hB⟩:=zX w.heap.size
 rw[<-hB]at h f⊢
 have q:=gd hB
 clear t u A z y i hB M F o
 go_wp2_with fail
 go_loopg [8] n (λj vn wr=>∃m:Nat,vn=.int .i64 m/\1<=m/\m<=n/\n<=m+j/\gh (wr.heap[B]?=some (.cells (replicate m (Value.int .i64 x)++replicate (n-m) (Value.int .i64 0)).toArray 3 (0,0)))/\gh (Below B w wr))
 .exact⟨1,rfl,by omega,by omega,by omega,h,f⟩
 clear h f
 obtain⟨m,rfl,aG,aH,aI,r,s⟩:=hrel
 by_cases hmn:n<=m
 .obtain rfl:m=n:=by omega
  have X:decide (m<m)=false:=by simp
  go_wp2_with fail
  go_ret
  have R:gv wr 3 (.slice B m m) B ((replicate m x).map vi) :=
   ⟨⟨m,_,by rw[zE,zV],r.o,by simp,by simp[maxLen];omega,by simp,by simp[vi]⟩⟩
  exact⟨.slice B m m,B,rfl,R,gg.of_below (by rw[<-q.o];exact s.o),by rw[q.o];exact zQ _⟩
 .rcases gk with _|j
  .exfalso;omega
  have X:decide (m<n)=true:=zB (by omega)
  have⟨k,hk⟩:=zX (min m (n-m))
  have Z:1<=k/\k<=m/\k<=n-m:=by omega
  have I:=gd hk
  have l:=r.o
  clear hk
  go_wp2_with fail
  have c1:(replicate k (Value.int .i64 x)).length=Nat.min m (n-m):=by rw[zV];exact I.o
  have c2:∀(wz:World),wz.heap[B]?=wr.heap[B]?->∀(j:Nat) (v:Value),(replicate k (Value.int .i64 x))[j]?=some v->wz.cell? ((⟨B,0,none⟩:Addr).add j)=some v:=by
   intro wz p j v a
   rw[getElem?_replicate]at a
   split at a
   .rename_i hjk
    have e:(⟨B,0,none⟩:Addr).add j=⟨B,j,none⟩:=by unfold Addr.add;split<;>simp_all
    have U:gn wz B 3 (replicate m (Value.int .i64 x)++replicate (n-m) (Value.int .i64 0)).toArray:=p.trans l
    rw[e,U.X]
    simp only[getElem?_toArray]
    rw[getElem?_append_left (by rw[zV];omega),getElem?_replicate,if_pos (by omega)]
    exact a
   .cases a
  have c3:m+(replicate k (Value.int .i64 x)).length<=(replicate m (Value.int .i64 x)++replicate (n-m) (Value.int .i64 0)).length:=by simp;omega
  have c4:∀v∈replicate k (Value.int .i64 x),v.oneCell'=true:=λv d=>by rw[eq_of_mem_replicate d];rfl
  have⟨cs,ab⟩:=zX (replicate k (Value.int .i64 x))
  have⟨az,aa⟩:=zX (replicate m (Value.int .i64 x)++replicate (n-m) (Value.int .i64 0))
  rw[<-ab]at c1 c2 c3 c4
  rw[<-aa]at c3 l
  have⟨C1,C3⟩:=gy c1 c3
  have ck:cs.length=k:=by rw[ab,zV]
  have⟨av,aw⟩:=gy ab aa
  clear ab aa c1 c3
  obtain⟨m2,C⟩:∃m2:Nat,m2=m+k:=⟨_,rfl⟩
  have Y:(m:Int)+(k:Int)=(m2:Int):=by omega
  have S:=gd C
  have Q:m2<=n:=by omega
  have O:n<=m2+j:=by omega
  have N:1<=m2:=by omega
  clear C
  have D:¬n=m:=by omega
  have T:=gd D
  have K:∀(wz:World),wz=wr.drew->Below B wr wz:=λwz p=>by rw[p];exact⟨rfl,rfl,rfl,zQ _,λ_ _=>rfl⟩
  clear D
  go_region_law (refine step_copy_splice (by rfl) (.tmp 41) (.tmp 44) 22 22 (by rfl) 3 underlying22 (by kernel_rfl) (if n=m then some ⟨B,0,none⟩else some ⟨B,m,none⟩) (some ⟨B,0,none⟩) (n-m) (n-m) m n (by rfl) (by simp[go_sem]) B m az 3 (by exact l) cs C1.o (λ_=>⟨if_neg T.o,_,rfl,c2 _ rfl⟩) C3.o c4 B wr (K _ rfl) (zQ _) ?_;intro w4 L J)
  go_wp2_with fail
  go_roundg j
  .refine⟨m2,congrArg (Value.int .i64) (IntWalk.i64_in _ (by omega)),N,Q,O,gd ?_,gd (s.o.trans J)⟩
   have E:_=_:=L
   rw[av.o,aw.o,FO _ _ _ _ _ (by omega)]at E
   rw[E,S.o,Nat.sub_sub]
  .omega
end Go.Proofs.YtifdlkoepaepiaaGreatDoor
