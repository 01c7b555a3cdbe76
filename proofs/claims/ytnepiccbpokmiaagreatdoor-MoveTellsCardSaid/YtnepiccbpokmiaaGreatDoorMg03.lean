/- Lemmas. -/
import Derived.Shelf.Sort.Plain
import Derived.Shelf.GgSortFunc.Insertion
import Derived.Shelf.GgSortFunc.Compose
import Derived.Shelf.GgSortMore.Stable
import Derived.Shelf.Slices.Turned
import Derived.Shelf.Slices.Clone
import Derived.Shelf.Slices.CompactI
import Derived.Shelf.Slices.SearchI
import Derived.Shelf.Bytes.SlEqualAll
import Derived.Test.YtnepiccbpokmiaaGreatDoorProg
set_option linter.all false
namespace Go.Proofs
open Tryz List Nat Go.Shelf
def lays189_ren:Go.Shelf.Ren:=⟨fun | 189=>191 | 125=>265 | 257=>264 | 128=>307 | 129=>276 | 294=>299 | 295=>300 | 296=>301 | 297=>302 | 298=>303 | 299=>304 | 216=>279 | 300=>305 | 301=>306 | 328=>320 | 329=>321 | 330=>322 | 331=>323 | 332=>324 | 215=>314 | 343=>332 | n=>n,fun | 28=>22 | 3=>3 | 46=>89 | 0=>0 | 51=>99 | 53=>72 | 4=>4 | 183=>270 | 182=>269 | 131=>203 | 5=>5 | 9=>9 | 218=>277 | 222=>281 | 228=>292 | 229=>158 | n=>n,fun | n=>n⟩
theorem lays189:Go.Proofs.Lays.n189 prog lays189_ren:={
 mixed:=by kernel_rfl
 f125:=func265.trans (congrArg some (by kernel_rfl))
 f128:=func307.trans (congrArg some (by kernel_rfl))
 f129:=func276.trans (congrArg some (by kernel_rfl))
 f189:=func191.trans (congrArg some (by kernel_rfl))
 f215:=func314.trans (congrArg some (by kernel_rfl))
 f216:=func279.trans (congrArg some (by kernel_rfl))
 f257:=func264.trans (congrArg some (by kernel_rfl))
 f294:=func299.trans (congrArg some (by kernel_rfl))
 f295:=func300.trans (congrArg some (by kernel_rfl))
 f296:=func301.trans (congrArg some (by kernel_rfl))
 f297:=func302.trans (congrArg some (by kernel_rfl))
 f298:=func303.trans (congrArg some (by kernel_rfl))
 f299:=func304.trans (congrArg some (by kernel_rfl))
 f300:=func305.trans (congrArg some (by kernel_rfl))
 f301:=func306.trans (congrArg some (by kernel_rfl))
 f328:=func320.trans (congrArg some (by kernel_rfl))
 f329:=func321.trans (congrArg some (by kernel_rfl))
 f330:=func322.trans (congrArg some (by kernel_rfl))
 f331:=func323.trans (congrArg some (by kernel_rfl))
 f332:=func324.trans (congrArg some (by kernel_rfl))
 f343:=func332.trans (congrArg some (by kernel_rfl))
 t0:=underlying0
 a0:=isAgg0
 z0:=sizeOf0
 v0:=zeroValue0
 t3:=underlying3
 a3:=isAgg3
 z3:=sizeOf3
 v3:=zeroValue3
 t4:=underlying4
 a4:=isAgg4
 z4:=sizeOf4
 v4:=zeroValue4
 t5:=underlying5
 a5:=isAgg5
 z5:=sizeOf5
 v5:=zeroValue5
 t9:=underlying9
 a9:=isAgg9
 z9:=sizeOf9
 v9:=zeroValue9
 t28:=underlying22
 a28:=isAgg22
 z28:=sizeOf22
 v28:=zeroValue22
 t46:=underlying89
 a46:=isAgg89
 z46:=sizeOf89
 v46:=zeroValue89
 t51:=underlying99
 a51:=isAgg99
 z51:=sizeOf99
 v51:=zeroValue99
 t53:=underlying72
 a53:=isAgg72
 z53:=sizeOf72
 v53:=zeroValue72
 t131:=underlying203
 a131:=isAgg203
 z131:=sizeOf203
 v131:=zeroValue203
 t182:=underlying269
 a182:=isAgg269
 z182:=sizeOf269
 v182:=zeroValue269
 t183:=underlying270
 a183:=isAgg270
 z183:=sizeOf270
 v183:=zeroValue270
 t218:=underlying277
 a218:=isAgg277
 z218:=sizeOf277
 v218:=zeroValue277
 t222:=underlying281
 a222:=isAgg281
 z222:=sizeOf281
 v222:=zeroValue281
 t228:=underlying292
 a228:=isAgg292
 z228:=sizeOf292
 v228:=zeroValue292
 t229:=underlying158
 a229:=isAgg158
 z229:=sizeOf158
 v229:=zeroValue158 }
open Go.Sort Go.RowKit in
theorem slices_Sort_int(blk a cap:Nat)(c:List Int)(w:World)(hH:Holds (Value.int .i64) w blk a c.toArray)(b:blk<w.heap.size)(d:c.length<4611686018427387904):Calls prog 191 #[.slice (some ⟨blk,a,none⟩) c.length cap] w λe f=>e=.returned (.tuple #[])/\∃n os,f=grow (putRow (Value.int .i64) (Sort.ahead w n) blk a (c.mergeSort λx y=>decide (x<=y)).toArray) os:=Any.slices_Sort_int lays189 blk a cap c w hH b d
def laysGg26_ren:Go.Shelf.Ren:=⟨fun | 26=>342 | n=>n,fun | 44=>291 | 3=>3 | 0=>0 | 4=>4 | 26=>145 | 37=>154 | n=>n,fun | n=>n⟩
theorem laysGg26:Go.Proofs.LaysGg.n26 prog laysGg26_ren:={
 mixed:=by kernel_rfl
 f26:=func342.trans (congrArg some (by kernel_rfl))
 t0:=underlying0
 a0:=isAgg0
 z0:=sizeOf0
 v0:=zeroValue0
 i0:=by kernel_rfl
 t3:=underlying3
 a3:=isAgg3
 z3:=sizeOf3
 v3:=zeroValue3
 i3:=by kernel_rfl
 t4:=underlying4
 a4:=isAgg4
 z4:=sizeOf4
 v4:=zeroValue4
 i4:=by kernel_rfl
 t26:=underlying145
 a26:=isAgg145
 z26:=sizeOf145
 v26:=zeroValue145
 i26:=by kernel_rfl
 t37:=underlying154
 a37:=isAgg154
 z37:=sizeOf154
 v37:=zeroValue154
 i37:=by kernel_rfl
 t44:=underlying291
 a44:=isAgg291
 z44:=sizeOf291
 v44:=zeroValue291
 i44:=by kernel_rfl }
open Go.RowKit Go.Lib Go.Sort in
theorem insertionSort_func_w{α:Type}[Inhabited α](enc:α->Value)(lt:α->α->Bool)(g:Nat)(l:Array Value)(o:Nat)(m:Array Value)(blk c a b:Nat)(d:Array α)(w:World)(p:∀args w,(callFunc g args).run prog w=.ok (.enter g args) w)(f:LessReads prog g l enc lt blk c d.size w)(h:SwapSwaps prog o m enc blk c d.size)(hH:Holds enc w blk c d)(i:blk<w.heap.size)(j:a<=b)(q:b<=d.size)(k:d.size<4611686018427387904):Calls prog 342 #[.agg #[.func (.func g) #[] l,.func (.func o) #[] m],.int .i64 a,.int .i64 b] w λe r=>e=.returned (.tuple #[])/\∃n os,r=sortWorld enc w blk c n (Sort.insertionSort lt d a b) os:=Any.insertionSort_func_w laysGg26 enc lt g l o m blk c a b d w p f h hH i j q k
def laysGt8_ren:Go.Shelf.Ren:=⟨fun | 8=>315 | 13=>328 | 14=>329 | 16=>331 | 15=>330 | 29=>342 | 30=>343 | 42=>344 | 49=>345 | n=>n,fun | 20=>20 | 26=>145 | 36=>286 | 0=>0 | 38=>154 | 42=>291 | 3=>3 | 4=>4 | 47=>89 | 17=>17 | 33=>283 | 34=>284 | 89=>312 | 12=>12 | 56=>99 | 82=>305 | 5=>5 | 83=>306 | 84=>307 | 85=>308 | 86=>309 | 87=>310 | n=>n,fun | n=>n⟩
theorem laysGt8:Go.Proofs.LaysGt.n8 prog laysGt8_ren:={
 mixed:=by kernel_rfl
 f8:=func315.trans (congrArg some (by kernel_rfl))
 f13:=func328.trans (congrArg some (by kernel_rfl))
 f14:=func329.trans (congrArg some (by kernel_rfl))
 f15:=func330.trans (congrArg some (by kernel_rfl))
 f16:=func331.trans (congrArg some (by kernel_rfl))
 f29:=func342.trans (congrArg some (by kernel_rfl))
 f30:=func343.trans (congrArg some (by kernel_rfl))
 f42:=func344.trans (congrArg some (by kernel_rfl))
 f49:=func345.trans (congrArg some (by kernel_rfl))
 t0:=underlying0
 a0:=isAgg0
 z0:=sizeOf0
 v0:=zeroValue0
 i0:=by kernel_rfl
 t3:=underlying3
 a3:=isAgg3
 z3:=sizeOf3
 v3:=zeroValue3
 i3:=by kernel_rfl
 t4:=underlying4
 a4:=isAgg4
 z4:=sizeOf4
 v4:=zeroValue4
 i4:=by kernel_rfl
 t5:=underlying5
 a5:=isAgg5
 z5:=sizeOf5
 v5:=zeroValue5
 i5:=by kernel_rfl
 t12:=underlying12
 a12:=isAgg12
 z12:=sizeOf12
 v12:=zeroValue12
 i12:=by kernel_rfl
 t17:=underlying17
 a17:=isAgg17
 z17:=sizeOf17
 v17:=zeroValue17
 i17:=by kernel_rfl
 t20:=underlying20
 a20:=isAgg20
 z20:=sizeOf20
 v20:=zeroValue20
 i20:=by kernel_rfl
 t26:=underlying145
 a26:=isAgg145
 z26:=sizeOf145
 v26:=zeroValue145
 i26:=by kernel_rfl
 t33:=underlying283
 a33:=isAgg283
 z33:=sizeOf283
 v33:=zeroValue283
 i33:=by kernel_rfl
 t34:=underlying284
 a34:=isAgg284
 z34:=sizeOf284
 v34:=zeroValue284
 i34:=by kernel_rfl
 t36:=underlying286
 a36:=isAgg286
 z36:=sizeOf286
 v36:=zeroValue286
 i36:=by kernel_rfl
 t38:=underlying154
 a38:=isAgg154
 z38:=sizeOf154
 v38:=zeroValue154
 i38:=by kernel_rfl
 t42:=underlying291
 a42:=isAgg291
 z42:=sizeOf291
 v42:=zeroValue291
 i42:=by kernel_rfl
 t47:=underlying89
 a47:=isAgg89
 z47:=sizeOf89
 v47:=zeroValue89
 i47:=by kernel_rfl
 t56:=underlying99
 a56:=isAgg99
 z56:=sizeOf99
 v56:=zeroValue99
 i56:=by kernel_rfl
 t82:=underlying305
 a82:=isAgg305
 z82:=sizeOf305
 v82:=zeroValue305
 i82:=by kernel_rfl
 t83:=underlying306
 a83:=isAgg306
 z83:=sizeOf306
 v83:=zeroValue306
 i83:=by kernel_rfl
 t84:=underlying307
 a84:=isAgg307
 z84:=sizeOf307
 v84:=zeroValue307
 i84:=by kernel_rfl
 t85:=underlying308
 a85:=isAgg308
 z85:=sizeOf308
 v85:=zeroValue308
 i85:=by kernel_rfl
 t86:=underlying309
 a86:=isAgg309
 z86:=sizeOf309
 v86:=zeroValue309
 i86:=by kernel_rfl
 t87:=underlying310
 a87:=isAgg310
 z87:=sizeOf310
 v87:=zeroValue310
 i87:=by kernel_rfl
 t89:=underlying312
 a89:=isAgg312
 z89:=sizeOf312
 v89:=zeroValue312
 i89:=by kernel_rfl }
def lays113_ren:Go.Shelf.Ren:=⟨fun | 113=>129 | n=>n,fun | 28=>22 | 3=>3 | 4=>4 | 9=>9 | 20=>20 | 0=>0 | n=>n,fun | n=>n⟩
theorem lays113:Go.Proofs.Lays.n113 prog lays113_ren:={
 mixed:=by kernel_rfl
 f113:=func129.trans (congrArg some (by kernel_rfl))
 t0:=underlying0
 a0:=isAgg0
 z0:=sizeOf0
 v0:=zeroValue0
 t3:=underlying3
 a3:=isAgg3
 z3:=sizeOf3
 v3:=zeroValue3
 t4:=underlying4
 a4:=isAgg4
 z4:=sizeOf4
 v4:=zeroValue4
 t9:=underlying9
 a9:=isAgg9
 z9:=sizeOf9
 v9:=zeroValue9
 t20:=underlying20
 a20:=isAgg20
 z20:=sizeOf20
 v20:=zeroValue20
 t28:=underlying22
 a28:=isAgg22
 z28:=sizeOf22
 v28:=zeroValue22 }
open Go.Lib in
theorem slices_Max_int(b a n c:Nat)(f:List Int)(w:World)(h:0<n)(i:n<=f.length)(d:n<=9223372036854775807)(g:∀j,j<f.length->w.cell? ⟨b,a+j,none⟩=some (.int .i64 (f.getD j 0))):Calls prog 129 #[.slice (some ⟨b,a,none⟩) n c] w λe k=>e=.returned (.int .i64 (Lib.maxOf (f.take n)))/\k=w:=Any.slices_Max_int lays113 b a n c f w h i d g
def laysNm215_ren:Go.Shelf.Ren:=⟨fun | 15=>86 | n=>n,fun | 22=>22 | 3=>3 | 4=>4 | n=>n,fun | n=>n⟩
theorem laysNm215:Go.Proofs.Lays2.n15 prog laysNm215_ren:={
 mixed:=by kernel_rfl
 f15:=func86.trans (congrArg some (by kernel_rfl))
 t3:=underlying3
 a3:=isAgg3
 z3:=sizeOf3
 v3:=zeroValue3
 t4:=underlying4
 a4:=isAgg4
 z4:=sizeOf4
 v4:=zeroValue4
 t22:=underlying22
 a22:=isAgg22
 z22:=sizeOf22
 v22:=zeroValue22
 i3:=by kernel_rfl }
open Go.RowKit Go.Lib in
theorem slices_Clone_int(b a n c:Nat)(f:List Int)(w:World)(h:n<=f.length)(d:n*8<=140737488355328)(g:∀j,j<f.length->w.cell? ⟨b,a+j,none⟩=some (.int .i64 (f.getD j 0))):Calls prog 86 #[.slice (some ⟨b,a,none⟩) n c] w λe w'=>∃v',e=.returned v'/\w'.ownsRow w.heap.size 3 1 v' n ((f.take n).map (Value.int .i64))/\v'≠.slice none 0 0/\Below w.heap.size w w':=Any.slices_Clone_int laysNm215 b a n c f w h d g
open Go.RowKit Go.Lib in
open Go.RowKit Go.Lib in
def laysNm220_ren:Go.Shelf.Ren:=⟨fun | 20=>192 | n=>n,fun | 22=>22 | 3=>3 | 4=>4 | 0=>0 | n=>n,fun | n=>n⟩
theorem laysNm220:Go.Proofs.Lays2.n20 prog laysNm220_ren:={
 mixed:=by kernel_rfl
 f20:=func192.trans (congrArg some (by kernel_rfl))
 t0:=underlying0
 a0:=isAgg0
 z0:=sizeOf0
 v0:=zeroValue0
 t3:=underlying3
 a3:=isAgg3
 z3:=sizeOf3
 v3:=zeroValue3
 t4:=underlying4
 a4:=isAgg4
 z4:=sizeOf4
 v4:=zeroValue4
 t22:=underlying22
 a22:=isAgg22
 z22:=sizeOf22
 v22:=zeroValue22
 i3:=by kernel_rfl }
open Go.RowKit Go.Lib Go.Sort in
open Go.RowKit Go.Lib Go.Sort in
theorem slices_Compact_int(blk a cap:Nat)(b:List Int)(w:World)(hH:Holds (Value.int .i64) w blk a b.toArray)(d:b.length<=9223372036854775807)(c:b.length<=cap):Calls prog 192 #[.slice (some ⟨blk,a,none⟩) b.length cap] w λe f=>e=.returned (.slice (some ⟨blk,a,none⟩) (Lib.compact b).length cap)/\∃q,f=putRow (Value.int .i64) (Sort.ahead w q) blk a (Lib.compact b++replicate (b.length-(Lib.compact b).length) 0).toArray:=Any.slices_Compact_int laysNm220 blk a cap b w hH d c
open Go.RowKit Go.Lib Go.Sort in
def laysNm225_ren:Go.Shelf.Ren:=⟨fun | 25=>209 | 31=>279 | 32=>280 | 37=>314 | n=>n,fun | 22=>22 | 3=>3 | 4=>4 | 40=>89 | 0=>0 | n=>n,fun | n=>n⟩
theorem laysNm225:Go.Proofs.Lays2.n25 prog laysNm225_ren:={
 mixed:=by kernel_rfl
 f25:=func209.trans (congrArg some (by kernel_rfl))
 f31:=func279.trans (congrArg some (by kernel_rfl))
 f32:=func280.trans (congrArg some (by kernel_rfl))
 f37:=func314.trans (congrArg some (by kernel_rfl))
 t0:=underlying0
 a0:=isAgg0
 z0:=sizeOf0
 v0:=zeroValue0
 t3:=underlying3
 a3:=isAgg3
 z3:=sizeOf3
 v3:=zeroValue3
 t4:=underlying4
 a4:=isAgg4
 z4:=sizeOf4
 v4:=zeroValue4
 t22:=underlying22
 a22:=isAgg22
 z22:=sizeOf22
 v22:=zeroValue22
 t40:=underlying89
 a40:=isAgg89
 z40:=sizeOf89
 v40:=zeroValue89 }
open Go.RowKit Go.Lib in
theorem slices_BinarySearch_int(b a n c:Nat)(d:List Int)(x:Int)(w:World)(i:n<=d.length)(f:n<4611686018427387904)(g:∀j,j<d.length->w.cell? ⟨b,a+j,none⟩=some (.int .i64 (d.getD j 0)))(h:(d.take n).Pairwise (·<=·)):Calls prog 209 #[.slice (some ⟨b,a,none⟩) n c,.int .i64 x] w λe k=>e=.returned (.tuple #[.int .i64 ((d.take n).countP (· < x):Nat),.bool ((d.take n).contains x)])/\∃q,k=w.drewN q:=Any.slices_BinarySearch_int laysNm225 b a n c d x w i f g h
end Go.Proofs
