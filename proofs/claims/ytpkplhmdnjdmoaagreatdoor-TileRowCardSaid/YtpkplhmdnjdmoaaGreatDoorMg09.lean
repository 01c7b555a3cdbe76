/- Laid by the kit's shelf (lay-shelf.mjs, lay-plain.mjs): contracts of slices.Sort, Max, Clone, Compact, BinarySearch at []int, of bytes.Equal, and what sort.SliceStable's closure asks, at this translation. -/
import Derived.Shelf.Sort.Plain
import Derived.Shelf.GgSortFunc.Insertion
import Derived.Shelf.GgSortFunc.Compose
import Derived.Shelf.GgSortMore.Stable
import Derived.Shelf.Slices.Turned
import Derived.Shelf.Slices.Clone
import Derived.Shelf.Slices.CompactI
import Derived.Shelf.Slices.SearchI
import Derived.Shelf.Bytes.SlEqualAll
import Derived.Test.YtpkplhmdnjdmoaaGreatDoorProg
set_option linter.unusedVariables false
set_option linter.unusedSimpArgs false
namespace Go.Proofs
set_option linter.unusedSimpArgs false
set_option linter.unusedVariables false
open Go.Shelf
def Tryz.lays189_ren : Go.Shelf.Ren := ⟨fun | 189 => 105 | 125 => 137 | 257 => 136 | 128 => 170 | 129 => 140 | 294 => 162 | 295 => 163 | 296 => 164 | 297 => 165 | 298 => 166 | 299 => 167 | 216 => 143 | 300 => 168 | 301 => 169 | 328 => 180 | 329 => 181 | 330 => 182 | 331 => 183 | 332 => 184 | 215 => 173 | 343 => 190 | n => n, fun | 28 => 29 | 3 => 3 | 46 => 98 | 0 => 0 | 51 => 175 | 53 => 40 | 4 => 4 | 183 => 193 | 182 => 192 | 131 => 126 | 5 => 5 | 9 => 9 | 218 => 206 | 222 => 210 | 228 => 222 | 229 => 131 | n => n, fun | n => n⟩
theorem Tryz.lays189 : Go.Proofs.Lays.n189 Tryz.prog Tryz.lays189_ren := {
  mixed := by kernel_rfl
  f125 := Tryz.func137.trans (congrArg some (by kernel_rfl))
  f128 := Tryz.func170.trans (congrArg some (by kernel_rfl))
  f129 := Tryz.func140.trans (congrArg some (by kernel_rfl))
  f189 := Tryz.func105.trans (congrArg some (by kernel_rfl))
  f215 := Tryz.func173.trans (congrArg some (by kernel_rfl))
  f216 := Tryz.func143.trans (congrArg some (by kernel_rfl))
  f257 := Tryz.func136.trans (congrArg some (by kernel_rfl))
  f294 := Tryz.func162.trans (congrArg some (by kernel_rfl))
  f295 := Tryz.func163.trans (congrArg some (by kernel_rfl))
  f296 := Tryz.func164.trans (congrArg some (by kernel_rfl))
  f297 := Tryz.func165.trans (congrArg some (by kernel_rfl))
  f298 := Tryz.func166.trans (congrArg some (by kernel_rfl))
  f299 := Tryz.func167.trans (congrArg some (by kernel_rfl))
  f300 := Tryz.func168.trans (congrArg some (by kernel_rfl))
  f301 := Tryz.func169.trans (congrArg some (by kernel_rfl))
  f328 := Tryz.func180.trans (congrArg some (by kernel_rfl))
  f329 := Tryz.func181.trans (congrArg some (by kernel_rfl))
  f330 := Tryz.func182.trans (congrArg some (by kernel_rfl))
  f331 := Tryz.func183.trans (congrArg some (by kernel_rfl))
  f332 := Tryz.func184.trans (congrArg some (by kernel_rfl))
  f343 := Tryz.func190.trans (congrArg some (by kernel_rfl))
  t0 := Tryz.underlying0
  a0 := Tryz.isAgg0
  z0 := Tryz.sizeOf0
  v0 := Tryz.zeroValue0
  t3 := Tryz.underlying3
  a3 := Tryz.isAgg3
  z3 := Tryz.sizeOf3
  v3 := Tryz.zeroValue3
  t4 := Tryz.underlying4
  a4 := Tryz.isAgg4
  z4 := Tryz.sizeOf4
  v4 := Tryz.zeroValue4
  t5 := Tryz.underlying5
  a5 := Tryz.isAgg5
  z5 := Tryz.sizeOf5
  v5 := Tryz.zeroValue5
  t9 := Tryz.underlying9
  a9 := Tryz.isAgg9
  z9 := Tryz.sizeOf9
  v9 := Tryz.zeroValue9
  t28 := Tryz.underlying29
  a28 := Tryz.isAgg29
  z28 := Tryz.sizeOf29
  v28 := Tryz.zeroValue29
  t46 := Tryz.underlying98
  a46 := Tryz.isAgg98
  z46 := Tryz.sizeOf98
  v46 := Tryz.zeroValue98
  t51 := Tryz.underlying175
  a51 := Tryz.isAgg175
  z51 := Tryz.sizeOf175
  v51 := Tryz.zeroValue175
  t53 := Tryz.underlying40
  a53 := Tryz.isAgg40
  z53 := Tryz.sizeOf40
  v53 := Tryz.zeroValue40
  t131 := Tryz.underlying126
  a131 := Tryz.isAgg126
  z131 := Tryz.sizeOf126
  v131 := Tryz.zeroValue126
  t182 := Tryz.underlying192
  a182 := Tryz.isAgg192
  z182 := Tryz.sizeOf192
  v182 := Tryz.zeroValue192
  t183 := Tryz.underlying193
  a183 := Tryz.isAgg193
  z183 := Tryz.sizeOf193
  v183 := Tryz.zeroValue193
  t218 := Tryz.underlying206
  a218 := Tryz.isAgg206
  z218 := Tryz.sizeOf206
  v218 := Tryz.zeroValue206
  t222 := Tryz.underlying210
  a222 := Tryz.isAgg210
  z222 := Tryz.sizeOf210
  v222 := Tryz.zeroValue210
  t228 := Tryz.underlying222
  a228 := Tryz.isAgg222
  z228 := Tryz.sizeOf222
  v228 := Tryz.zeroValue222
  t229 := Tryz.underlying131
  a229 := Tryz.isAgg131
  z229 := Tryz.sizeOf131
  v229 := Tryz.zeroValue131 }
open Go.Sort Go.RowKit in
theorem Tryz.slices_Sort_int (blk off cap : Nat) (zs : List Int) (w : World) (hH : Holds (Value.int .i64) w blk off zs.toArray) (hblk : blk < w.heap.size) (hsz : zs.length < 4611686018427387904) :
    Calls Tryz.prog 105 #[.slice (some ⟨blk, off, none⟩) zs.length cap] w fun e w' =>
      e = .returned (.tuple #[]) ∧ ∃ n os, w' = grow (putRow (Value.int .i64) (Sort.ahead w n) blk off (zs.mergeSort fun x y => decide (x ≤ y)).toArray) os := Any.slices_Sort_int Tryz.lays189 blk off cap zs w hH hblk hsz
def Tryz.laysGg26_ren : Go.Shelf.Ren := ⟨fun | 26 => 200 | n => n, fun | 44 => 221 | 3 => 3 | 0 => 0 | 4 => 4 | 26 => 117 | 37 => 88 | n => n, fun | n => n⟩
theorem Tryz.laysGg26 : Go.Proofs.LaysGg.n26 Tryz.prog Tryz.laysGg26_ren := {
  mixed := by kernel_rfl
  f26 := Tryz.func200.trans (congrArg some (by kernel_rfl))
  t0 := Tryz.underlying0
  a0 := Tryz.isAgg0
  z0 := Tryz.sizeOf0
  v0 := Tryz.zeroValue0
  i0 := by kernel_rfl
  t3 := Tryz.underlying3
  a3 := Tryz.isAgg3
  z3 := Tryz.sizeOf3
  v3 := Tryz.zeroValue3
  i3 := by kernel_rfl
  t4 := Tryz.underlying4
  a4 := Tryz.isAgg4
  z4 := Tryz.sizeOf4
  v4 := Tryz.zeroValue4
  i4 := by kernel_rfl
  t26 := Tryz.underlying117
  a26 := Tryz.isAgg117
  z26 := Tryz.sizeOf117
  v26 := Tryz.zeroValue117
  i26 := by kernel_rfl
  t37 := Tryz.underlying88
  a37 := Tryz.isAgg88
  z37 := Tryz.sizeOf88
  v37 := Tryz.zeroValue88
  i37 := by kernel_rfl
  t44 := Tryz.underlying221
  a44 := Tryz.isAgg221
  z44 := Tryz.sizeOf221
  v44 := Tryz.zeroValue221
  i44 := by kernel_rfl }
open Go.RowKit Go.Lib Go.Sort in
theorem Tryz.insertionSort_func_w {α : Type} [Inhabited α] (enc : α → Value) (lt : α → α → Bool) (g : Nat) (lb : Array Value) (sf : Nat) (sb : Array Value) (blk off a b : Nat) (d : Array α) (w : World) (eg : ∀ args w, (callFunc g args).run Tryz.prog w = .ok (.enter g args) w) (hless : LessReads Tryz.prog g lb enc lt blk off d.size w) (hswap : SwapSwaps Tryz.prog sf sb enc blk off d.size) (hH : Holds enc w blk off d) (hblk : blk < w.heap.size) (hab : a ≤ b) (hb : b ≤ d.size) (hsz : d.size < 4611686018427387904) :
    Calls Tryz.prog 200 #[.agg #[.func (.func g) #[] lb, .func (.func sf) #[] sb], .int .i64 a, .int .i64 b] w fun e w' => e = .returned (.tuple #[]) ∧ ∃ n os, w' = sortWorld enc w blk off n (Sort.insertionSort lt d a b) os := Any.insertionSort_func_w Tryz.laysGg26 enc lt g lb sf sb blk off a b d w eg hless hswap hH hblk hab hb hsz
def Tryz.laysGt15_ren : Go.Shelf.Ren := ⟨fun | 15 => 188 | 29 => 200 | 30 => 201 | 42 => 202 | 49 => 203 | n => n, fun | 42 => 221 | 3 => 3 | 0 => 0 | 4 => 4 | 26 => 117 | 38 => 88 | 47 => 98 | n => n, fun | n => n⟩
theorem Tryz.laysGt15 : Go.Proofs.LaysGt.n15 Tryz.prog Tryz.laysGt15_ren := {
  mixed := by kernel_rfl
  f15 := Tryz.func188.trans (congrArg some (by kernel_rfl))
  f29 := Tryz.func200.trans (congrArg some (by kernel_rfl))
  f30 := Tryz.func201.trans (congrArg some (by kernel_rfl))
  f42 := Tryz.func202.trans (congrArg some (by kernel_rfl))
  f49 := Tryz.func203.trans (congrArg some (by kernel_rfl))
  t0 := Tryz.underlying0
  a0 := Tryz.isAgg0
  z0 := Tryz.sizeOf0
  v0 := Tryz.zeroValue0
  i0 := by kernel_rfl
  t3 := Tryz.underlying3
  a3 := Tryz.isAgg3
  z3 := Tryz.sizeOf3
  v3 := Tryz.zeroValue3
  i3 := by kernel_rfl
  t4 := Tryz.underlying4
  a4 := Tryz.isAgg4
  z4 := Tryz.sizeOf4
  v4 := Tryz.zeroValue4
  i4 := by kernel_rfl
  t26 := Tryz.underlying117
  a26 := Tryz.isAgg117
  z26 := Tryz.sizeOf117
  v26 := Tryz.zeroValue117
  i26 := by kernel_rfl
  t38 := Tryz.underlying88
  a38 := Tryz.isAgg88
  z38 := Tryz.sizeOf88
  v38 := Tryz.zeroValue88
  i38 := by kernel_rfl
  t42 := Tryz.underlying221
  a42 := Tryz.isAgg221
  z42 := Tryz.sizeOf221
  v42 := Tryz.zeroValue221
  i42 := by kernel_rfl
  t47 := Tryz.underlying98
  a47 := Tryz.isAgg98
  z47 := Tryz.sizeOf98
  v47 := Tryz.zeroValue98
  i47 := by kernel_rfl }
def Tryz.laysGt8_ren : Go.Shelf.Ren := ⟨fun | 8 => 174 | 13 => 186 | 14 => 187 | 16 => 189 | 15 => 188 | 29 => 200 | 30 => 201 | 42 => 202 | 49 => 203 | n => n, fun | 20 => 20 | 26 => 117 | 36 => 216 | 0 => 0 | 38 => 88 | 42 => 221 | 3 => 3 | 4 => 4 | 47 => 98 | 17 => 17 | 33 => 213 | 34 => 214 | 89 => 242 | 12 => 12 | 56 => 175 | 82 => 235 | 5 => 5 | 83 => 236 | 84 => 237 | 85 => 238 | 86 => 239 | 87 => 240 | n => n, fun | n => n⟩
theorem Tryz.laysGt8 : Go.Proofs.LaysGt.n8 Tryz.prog Tryz.laysGt8_ren := {
  mixed := by kernel_rfl
  f8 := Tryz.func174.trans (congrArg some (by kernel_rfl))
  f13 := Tryz.func186.trans (congrArg some (by kernel_rfl))
  f14 := Tryz.func187.trans (congrArg some (by kernel_rfl))
  f15 := Tryz.func188.trans (congrArg some (by kernel_rfl))
  f16 := Tryz.func189.trans (congrArg some (by kernel_rfl))
  f29 := Tryz.func200.trans (congrArg some (by kernel_rfl))
  f30 := Tryz.func201.trans (congrArg some (by kernel_rfl))
  f42 := Tryz.func202.trans (congrArg some (by kernel_rfl))
  f49 := Tryz.func203.trans (congrArg some (by kernel_rfl))
  t0 := Tryz.underlying0
  a0 := Tryz.isAgg0
  z0 := Tryz.sizeOf0
  v0 := Tryz.zeroValue0
  i0 := by kernel_rfl
  t3 := Tryz.underlying3
  a3 := Tryz.isAgg3
  z3 := Tryz.sizeOf3
  v3 := Tryz.zeroValue3
  i3 := by kernel_rfl
  t4 := Tryz.underlying4
  a4 := Tryz.isAgg4
  z4 := Tryz.sizeOf4
  v4 := Tryz.zeroValue4
  i4 := by kernel_rfl
  t5 := Tryz.underlying5
  a5 := Tryz.isAgg5
  z5 := Tryz.sizeOf5
  v5 := Tryz.zeroValue5
  i5 := by kernel_rfl
  t12 := Tryz.underlying12
  a12 := Tryz.isAgg12
  z12 := Tryz.sizeOf12
  v12 := Tryz.zeroValue12
  i12 := by kernel_rfl
  t17 := Tryz.underlying17
  a17 := Tryz.isAgg17
  z17 := Tryz.sizeOf17
  v17 := Tryz.zeroValue17
  i17 := by kernel_rfl
  t20 := Tryz.underlying20
  a20 := Tryz.isAgg20
  z20 := Tryz.sizeOf20
  v20 := Tryz.zeroValue20
  i20 := by kernel_rfl
  t26 := Tryz.underlying117
  a26 := Tryz.isAgg117
  z26 := Tryz.sizeOf117
  v26 := Tryz.zeroValue117
  i26 := by kernel_rfl
  t33 := Tryz.underlying213
  a33 := Tryz.isAgg213
  z33 := Tryz.sizeOf213
  v33 := Tryz.zeroValue213
  i33 := by kernel_rfl
  t34 := Tryz.underlying214
  a34 := Tryz.isAgg214
  z34 := Tryz.sizeOf214
  v34 := Tryz.zeroValue214
  i34 := by kernel_rfl
  t36 := Tryz.underlying216
  a36 := Tryz.isAgg216
  z36 := Tryz.sizeOf216
  v36 := Tryz.zeroValue216
  i36 := by kernel_rfl
  t38 := Tryz.underlying88
  a38 := Tryz.isAgg88
  z38 := Tryz.sizeOf88
  v38 := Tryz.zeroValue88
  i38 := by kernel_rfl
  t42 := Tryz.underlying221
  a42 := Tryz.isAgg221
  z42 := Tryz.sizeOf221
  v42 := Tryz.zeroValue221
  i42 := by kernel_rfl
  t47 := Tryz.underlying98
  a47 := Tryz.isAgg98
  z47 := Tryz.sizeOf98
  v47 := Tryz.zeroValue98
  i47 := by kernel_rfl
  t56 := Tryz.underlying175
  a56 := Tryz.isAgg175
  z56 := Tryz.sizeOf175
  v56 := Tryz.zeroValue175
  i56 := by kernel_rfl
  t82 := Tryz.underlying235
  a82 := Tryz.isAgg235
  z82 := Tryz.sizeOf235
  v82 := Tryz.zeroValue235
  i82 := by kernel_rfl
  t83 := Tryz.underlying236
  a83 := Tryz.isAgg236
  z83 := Tryz.sizeOf236
  v83 := Tryz.zeroValue236
  i83 := by kernel_rfl
  t84 := Tryz.underlying237
  a84 := Tryz.isAgg237
  z84 := Tryz.sizeOf237
  v84 := Tryz.zeroValue237
  i84 := by kernel_rfl
  t85 := Tryz.underlying238
  a85 := Tryz.isAgg238
  z85 := Tryz.sizeOf238
  v85 := Tryz.zeroValue238
  i85 := by kernel_rfl
  t86 := Tryz.underlying239
  a86 := Tryz.isAgg239
  z86 := Tryz.sizeOf239
  v86 := Tryz.zeroValue239
  i86 := by kernel_rfl
  t87 := Tryz.underlying240
  a87 := Tryz.isAgg240
  z87 := Tryz.sizeOf240
  v87 := Tryz.zeroValue240
  i87 := by kernel_rfl
  t89 := Tryz.underlying242
  a89 := Tryz.isAgg242
  z89 := Tryz.sizeOf242
  v89 := Tryz.zeroValue242
  i89 := by kernel_rfl }
def Tryz.lays113_ren : Go.Shelf.Ren := ⟨fun | 113 => 66 | n => n, fun | 28 => 29 | 3 => 3 | 4 => 4 | 9 => 9 | 20 => 20 | 0 => 0 | n => n, fun | n => n⟩
theorem Tryz.lays113 : Go.Proofs.Lays.n113 Tryz.prog Tryz.lays113_ren := {
  mixed := by kernel_rfl
  f113 := Tryz.func66.trans (congrArg some (by kernel_rfl))
  t0 := Tryz.underlying0
  a0 := Tryz.isAgg0
  z0 := Tryz.sizeOf0
  v0 := Tryz.zeroValue0
  t3 := Tryz.underlying3
  a3 := Tryz.isAgg3
  z3 := Tryz.sizeOf3
  v3 := Tryz.zeroValue3
  t4 := Tryz.underlying4
  a4 := Tryz.isAgg4
  z4 := Tryz.sizeOf4
  v4 := Tryz.zeroValue4
  t9 := Tryz.underlying9
  a9 := Tryz.isAgg9
  z9 := Tryz.sizeOf9
  v9 := Tryz.zeroValue9
  t20 := Tryz.underlying20
  a20 := Tryz.isAgg20
  z20 := Tryz.sizeOf20
  v20 := Tryz.zeroValue20
  t28 := Tryz.underlying29
  a28 := Tryz.isAgg29
  z28 := Tryz.sizeOf29
  v28 := Tryz.zeroValue29 }
open Go.Lib in
theorem Tryz.slices_Max_int (b off n c : Nat) (zs : List Int) (w : World) (hn : 0 < n) (hz : n ≤ zs.length) (hbig : n ≤ 9223372036854775807) (hc : ∀ j, j < zs.length → w.cell? ⟨b, off + j, none⟩ = some (.int .i64 (zs.getD j 0))) :
    Calls Tryz.prog 66 #[.slice (some ⟨b, off, none⟩) n c] w fun e w' => e = .returned (.int .i64 (Lib.maxOf (zs.take n))) ∧ w' = w := Any.slices_Max_int Tryz.lays113 b off n c zs w hn hz hbig hc
def Tryz.laysNm215_ren : Go.Shelf.Ren := ⟨fun | 15 => 104 | n => n, fun | 22 => 29 | 3 => 3 | 4 => 4 | n => n, fun | n => n⟩
theorem Tryz.laysNm215 : Go.Proofs.Lays2.n15 Tryz.prog Tryz.laysNm215_ren := {
  mixed := by kernel_rfl
  f15 := Tryz.func104.trans (congrArg some (by kernel_rfl))
  t3 := Tryz.underlying3
  a3 := Tryz.isAgg3
  z3 := Tryz.sizeOf3
  v3 := Tryz.zeroValue3
  t4 := Tryz.underlying4
  a4 := Tryz.isAgg4
  z4 := Tryz.sizeOf4
  v4 := Tryz.zeroValue4
  t22 := Tryz.underlying29
  a22 := Tryz.isAgg29
  z22 := Tryz.sizeOf29
  v22 := Tryz.zeroValue29
  i3 := by kernel_rfl }
open Go.RowKit Go.Lib in
theorem Tryz.slices_Clone_int (b off n c : Nat) (zs : List Int) (w : World) (hz : n ≤ zs.length) (hbig : n * 8 ≤ 140737488355328) (hc : ∀ j, j < zs.length → w.cell? ⟨b, off + j, none⟩ = some (.int .i64 (zs.getD j 0))) :
    Calls Tryz.prog 104 #[.slice (some ⟨b, off, none⟩) n c] w fun e w' => ∃ v', e = .returned v' ∧ w'.ownsRow w.heap.size 3 1 v' n ((zs.take n).map (Value.int .i64)) ∧ v' ≠ .slice none 0 0 ∧ Below w.heap.size w w' := Any.slices_Clone_int Tryz.laysNm215 b off n c zs w hz hbig hc
open Go.RowKit Go.Lib in
theorem Tryz.slices_Clone_int_nil (n c : Nat) (w : World) :
    Calls Tryz.prog 104 #[.slice none n c] w fun e w' => e = .returned (.slice none 0 0) ∧ w' = w := Any.slices_Clone_int_nil Tryz.laysNm215 n c w
open Go.RowKit Go.Lib in
theorem Tryz.slices_Clone_int_zero (a : Addr) (c : Nat) (w : World) :
    Calls Tryz.prog 104 #[.slice (some a) 0 c] w fun e w' => ∃ v', e = .returned v' ∧ w'.ownsRow w.heap.size 3 1 v' 0 [] ∧ v' ≠ .slice none 0 0 ∧ Below w.heap.size w w' := Any.slices_Clone_int_zero Tryz.laysNm215 a c w
def Tryz.laysNm220_ren : Go.Shelf.Ren := ⟨fun | 20 => 106 | n => n, fun | 22 => 29 | 3 => 3 | 4 => 4 | 0 => 0 | n => n, fun | n => n⟩
theorem Tryz.laysNm220 : Go.Proofs.Lays2.n20 Tryz.prog Tryz.laysNm220_ren := {
  mixed := by kernel_rfl
  f20 := Tryz.func106.trans (congrArg some (by kernel_rfl))
  t0 := Tryz.underlying0
  a0 := Tryz.isAgg0
  z0 := Tryz.sizeOf0
  v0 := Tryz.zeroValue0
  t3 := Tryz.underlying3
  a3 := Tryz.isAgg3
  z3 := Tryz.sizeOf3
  v3 := Tryz.zeroValue3
  t4 := Tryz.underlying4
  a4 := Tryz.isAgg4
  z4 := Tryz.sizeOf4
  v4 := Tryz.zeroValue4
  t22 := Tryz.underlying29
  a22 := Tryz.isAgg29
  z22 := Tryz.sizeOf29
  v22 := Tryz.zeroValue29
  i3 := by kernel_rfl }
open Go.RowKit Go.Lib Go.Sort in
theorem Tryz.slices_Compact_int_arr (blk off cap : Nat) (d : Array Int) (w : World) (hH : Holds encI w blk off d) (hsz : d.size ≤ 9223372036854775807) (hcap : d.size ≤ cap) :
    Calls Tryz.prog 106 #[.slice (some ⟨blk, off, none⟩) d.size cap] w fun e w' => e = .returned (.slice (some ⟨blk, off, none⟩) (compactUpTo d d.size).length cap) ∧ ∃ q, w' = putRow encI (Sort.ahead w q) blk off (compactUpTo d d.size ++ List.replicate (d.size - (compactUpTo d d.size).length) 0).toArray := Any.slices_Compact_int_arr Tryz.laysNm220 blk off cap d w hH hsz hcap
open Go.RowKit Go.Lib Go.Sort in
theorem Tryz.slices_Compact_int (blk off cap : Nat) (zs : List Int) (w : World) (hH : Holds (Value.int .i64) w blk off zs.toArray) (hsz : zs.length ≤ 9223372036854775807) (hcap : zs.length ≤ cap) :
    Calls Tryz.prog 106 #[.slice (some ⟨blk, off, none⟩) zs.length cap] w fun e w' => e = .returned (.slice (some ⟨blk, off, none⟩) (Lib.compact zs).length cap) ∧ ∃ q, w' = putRow (Value.int .i64) (Sort.ahead w q) blk off (Lib.compact zs ++ List.replicate (zs.length - (Lib.compact zs).length) 0).toArray := Any.slices_Compact_int Tryz.laysNm220 blk off cap zs w hH hsz hcap
open Go.RowKit Go.Lib Go.Sort in
theorem Tryz.slices_Compact_int_empty (a : Option Addr) (cap : Nat) (w : World) :
    Calls Tryz.prog 106 #[.slice a 0 cap] w fun e w' => e = .returned (.slice a 0 cap) ∧ w' = w := Any.slices_Compact_int_empty Tryz.laysNm220 a cap w

def Tryz.laysNm225_ren : Go.Shelf.Ren := ⟨fun | 25 => 111 | 31 => 143 | 32 => 144 | 37 => 173 | n => n, fun | 22 => 29 | 3 => 3 | 4 => 4 | 40 => 98 | 0 => 0 | n => n, fun | n => n⟩
theorem Tryz.laysNm225 : Go.Proofs.Lays2.n25 Tryz.prog Tryz.laysNm225_ren := {
  mixed := by kernel_rfl
  f25 := Tryz.func111.trans (congrArg some (by kernel_rfl))
  f31 := Tryz.func143.trans (congrArg some (by kernel_rfl))
  f32 := Tryz.func144.trans (congrArg some (by kernel_rfl))
  f37 := Tryz.func173.trans (congrArg some (by kernel_rfl))
  t0 := Tryz.underlying0
  a0 := Tryz.isAgg0
  z0 := Tryz.sizeOf0
  v0 := Tryz.zeroValue0
  t3 := Tryz.underlying3
  a3 := Tryz.isAgg3
  z3 := Tryz.sizeOf3
  v3 := Tryz.zeroValue3
  t4 := Tryz.underlying4
  a4 := Tryz.isAgg4
  z4 := Tryz.sizeOf4
  v4 := Tryz.zeroValue4
  t22 := Tryz.underlying29
  a22 := Tryz.isAgg29
  z22 := Tryz.sizeOf29
  v22 := Tryz.zeroValue29
  t40 := Tryz.underlying98
  a40 := Tryz.isAgg98
  z40 := Tryz.sizeOf98
  v40 := Tryz.zeroValue98 }
open Go.RowKit Go.Lib in
theorem Tryz.slices_BinarySearch_int (b off n c : Nat) (zs : List Int) (x : Int) (w : World) (hz : n ≤ zs.length) (hbig : n < 4611686018427387904) (hc : ∀ j, j < zs.length → w.cell? ⟨b, off + j, none⟩ = some (.int .i64 (zs.getD j 0))) (hs : (zs.take n).Pairwise (· ≤ ·)) :
    Calls Tryz.prog 111 #[.slice (some ⟨b, off, none⟩) n c, .int .i64 x] w fun e w' => e = .returned (.tuple #[.int .i64 ((zs.take n).countP (· < x) : Nat), .bool ((zs.take n).contains x)]) ∧ ∃ q, w' = w.drewN q := Any.slices_BinarySearch_int Tryz.laysNm225 b off n c zs x w hz hbig hc hs
def Tryz.laysnb115_ren : Go.Shelf.Ren := ⟨fun | 115 => 158 | n => n, fun | 37 => 35 | 4 => 4 | 9 => 9 | 5 => 5 | n => n, fun | n => n⟩
theorem Tryz.laysnb115 : Go.Proofs.Lays.nb115 Tryz.prog Tryz.laysnb115_ren := {
  mixed := by kernel_rfl
  f115 := Tryz.func158.trans (congrArg some (by kernel_rfl))
  t4 := Tryz.underlying4
  a4 := Tryz.isAgg4
  z4 := Tryz.sizeOf4
  v4 := Tryz.zeroValue4
  t9 := Tryz.underlying9
  a9 := Tryz.isAgg9
  z9 := Tryz.sizeOf9
  v9 := Tryz.zeroValue9
  t37 := Tryz.underlying35
  a37 := Tryz.isAgg35
  z37 := Tryz.sizeOf35
  v37 := Tryz.zeroValue35
  t5 := Tryz.underlying5
  a5 := Tryz.isAgg5
  z5 := Tryz.sizeOf5
  v5 := Tryz.zeroValue5 }
theorem Tryz.bytes_Equal_all (p1 p2 : Option Addr) (n c m d : Nat) (xs ys : List Int) (w : World) (hx : xs.length = n) (hy : ys.length = m) (h1 : Lib.BytesIn w p1 n xs) (h2 : Lib.BytesIn w p2 m ys) :
    Calls Tryz.prog 158 #[.slice p1 n c, .slice p2 m d] w fun e w' => e = .returned (.bool (Lib.bytesOf xs == Lib.bytesOf ys)) ∧ w' = w := Any.bytes_Equal_all Tryz.laysnb115 p1 p2 n c m d xs ys w hx hy h1 h2
end Go.Proofs
