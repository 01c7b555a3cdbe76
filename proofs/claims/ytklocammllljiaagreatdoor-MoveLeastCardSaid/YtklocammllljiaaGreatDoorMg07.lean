/- Laid by the kit's shelf (lay-shelf.mjs, lay-plain.mjs): contracts of slices.Sort, Max, Clone, Compact, BinarySearch at []int, of bytes.Equal, and what sort.SliceStable's closure asks, at this translation. -/
import Derived.Shelf.Sort.Plain
import Derived.Shelf.GgSortFunc.Insertion
import Derived.Shelf.GgSortFunc.Compose
import Derived.Shelf.GgSortMore.Stable
import Derived.Shelf.Slices.Turned
import Derived.Shelf.Slices.Clone
import Derived.Shelf.Slices.CompactI
import Derived.Shelf.Slices.SearchI
import Derived.Shelf.Bytes.SlEqualAll
import Derived.Test.YtklocammllljiaaGreatDoorProg
set_option linter.unusedVariables false
set_option linter.unusedSimpArgs false
namespace Go.Proofs
open Go.Shelf
def Tryz.lays189_ren:Go.Shelf.Ren:=⟨fun | 189=>166 | 125=>113 | 257=>211 | 128=>152 | 129=>153 | 294=>258 | 295=>259 | 296=>260 | 297=>261 | 298=>262 | 299=>263 | 216=>238 | 300=>264 | 301=>265 | 328=>281 | 329=>194 | 330=>195 | 331=>282 | 332=>283 | 215=>154 | 343=>292 | n=>n,fun | 28=>22 | 3=>3 | 46=>70 | 0=>0 | 51=>69 | 53=>50 | 4=>4 | 183=>182 | 182=>181 | 131=>119 | 5=>5 | 9=>9 | 218=>225 | 222=>229 | 228=>276 | 229=>193 | n=>n,fun | n=>n⟩
theorem Tryz.lays189:Go.Proofs.Lays.n189 Tryz.prog Tryz.lays189_ren:={
 mixed:=by kernel_rfl
 f125:=Tryz.func113.trans (congrArg some (by kernel_rfl))
 f128:=Tryz.func152.trans (congrArg some (by kernel_rfl))
 f129:=Tryz.func153.trans (congrArg some (by kernel_rfl))
 f189:=Tryz.func166.trans (congrArg some (by kernel_rfl))
 f215:=Tryz.func154.trans (congrArg some (by kernel_rfl))
 f216:=Tryz.func238.trans (congrArg some (by kernel_rfl))
 f257:=Tryz.func211.trans (congrArg some (by kernel_rfl))
 f294:=Tryz.func258.trans (congrArg some (by kernel_rfl))
 f295:=Tryz.func259.trans (congrArg some (by kernel_rfl))
 f296:=Tryz.func260.trans (congrArg some (by kernel_rfl))
 f297:=Tryz.func261.trans (congrArg some (by kernel_rfl))
 f298:=Tryz.func262.trans (congrArg some (by kernel_rfl))
 f299:=Tryz.func263.trans (congrArg some (by kernel_rfl))
 f300:=Tryz.func264.trans (congrArg some (by kernel_rfl))
 f301:=Tryz.func265.trans (congrArg some (by kernel_rfl))
 f328:=Tryz.func281.trans (congrArg some (by kernel_rfl))
 f329:=Tryz.func194.trans (congrArg some (by kernel_rfl))
 f330:=Tryz.func195.trans (congrArg some (by kernel_rfl))
 f331:=Tryz.func282.trans (congrArg some (by kernel_rfl))
 f332:=Tryz.func283.trans (congrArg some (by kernel_rfl))
 f343:=Tryz.func292.trans (congrArg some (by kernel_rfl))
 t0:=Tryz.underlying0
 a0:=Tryz.isAgg0
 z0:=Tryz.sizeOf0
 v0:=Tryz.zeroValue0
 t3:=Tryz.underlying3
 a3:=Tryz.isAgg3
 z3:=Tryz.sizeOf3
 v3:=Tryz.zeroValue3
 t4:=Tryz.underlying4
 a4:=Tryz.isAgg4
 z4:=Tryz.sizeOf4
 v4:=Tryz.zeroValue4
 t5:=Tryz.underlying5
 a5:=Tryz.isAgg5
 z5:=Tryz.sizeOf5
 v5:=Tryz.zeroValue5
 t9:=Tryz.underlying9
 a9:=Tryz.isAgg9
 z9:=Tryz.sizeOf9
 v9:=Tryz.zeroValue9
 t28:=Tryz.underlying22
 a28:=Tryz.isAgg22
 z28:=Tryz.sizeOf22
 v28:=Tryz.zeroValue22
 t46:=Tryz.underlying70
 a46:=Tryz.isAgg70
 z46:=Tryz.sizeOf70
 v46:=Tryz.zeroValue70
 t51:=Tryz.underlying69
 a51:=Tryz.isAgg69
 z51:=Tryz.sizeOf69
 v51:=Tryz.zeroValue69
 t53:=Tryz.underlying50
 a53:=Tryz.isAgg50
 z53:=Tryz.sizeOf50
 v53:=Tryz.zeroValue50
 t131:=Tryz.underlying119
 a131:=Tryz.isAgg119
 z131:=Tryz.sizeOf119
 v131:=Tryz.zeroValue119
 t182:=Tryz.underlying181
 a182:=Tryz.isAgg181
 z182:=Tryz.sizeOf181
 v182:=Tryz.zeroValue181
 t183:=Tryz.underlying182
 a183:=Tryz.isAgg182
 z183:=Tryz.sizeOf182
 v183:=Tryz.zeroValue182
 t218:=Tryz.underlying225
 a218:=Tryz.isAgg225
 z218:=Tryz.sizeOf225
 v218:=Tryz.zeroValue225
 t222:=Tryz.underlying229
 a222:=Tryz.isAgg229
 z222:=Tryz.sizeOf229
 v222:=Tryz.zeroValue229
 t228:=Tryz.underlying276
 a228:=Tryz.isAgg276
 z228:=Tryz.sizeOf276
 v228:=Tryz.zeroValue276
 t229:=Tryz.underlying193
 a229:=Tryz.isAgg193
 z229:=Tryz.sizeOf193
 v229:=Tryz.zeroValue193 }
open Go.Sort Go.RowKit in
theorem Tryz.slices_Sort_int (blk off cap:Nat) (zs:List Int) (w:World) (hH:Holds (Value.int .i64) w blk off zs.toArray) (hblk:blk<w.heap.size) (hsz:zs.length<4611686018427387904) :
  Calls Tryz.prog 166 #[.slice (some ⟨blk,off,none⟩) zs.length cap] w fun e w' =>
   e=.returned (.tuple #[])/\∃ n os,w'=grow (putRow (Value.int .i64) (Sort.ahead w n) blk off (zs.mergeSort fun x y=>decide (x<=y)).toArray) os:=Any.slices_Sort_int Tryz.lays189 blk off cap zs w hH hblk hsz
def Tryz.laysGg26_ren:Go.Shelf.Ren:=⟨fun | 26=>302 | n=>n,fun | 44=>320 | 3=>3 | 0=>0 | 4=>4 | 26=>43 | 37=>208 | n=>n,fun | n=>n⟩
theorem Tryz.laysGg26:Go.Proofs.LaysGg.n26 Tryz.prog Tryz.laysGg26_ren:={
 mixed:=by kernel_rfl
 f26:=Tryz.func302.trans (congrArg some (by kernel_rfl))
 t0:=Tryz.underlying0
 a0:=Tryz.isAgg0
 z0:=Tryz.sizeOf0
 v0:=Tryz.zeroValue0
 i0:=by kernel_rfl
 t3:=Tryz.underlying3
 a3:=Tryz.isAgg3
 z3:=Tryz.sizeOf3
 v3:=Tryz.zeroValue3
 i3:=by kernel_rfl
 t4:=Tryz.underlying4
 a4:=Tryz.isAgg4
 z4:=Tryz.sizeOf4
 v4:=Tryz.zeroValue4
 i4:=by kernel_rfl
 t26:=Tryz.underlying43
 a26:=Tryz.isAgg43
 z26:=Tryz.sizeOf43
 v26:=Tryz.zeroValue43
 i26:=by kernel_rfl
 t37:=Tryz.underlying208
 a37:=Tryz.isAgg208
 z37:=Tryz.sizeOf208
 v37:=Tryz.zeroValue208
 i37:=by kernel_rfl
 t44:=Tryz.underlying320
 a44:=Tryz.isAgg320
 z44:=Tryz.sizeOf320
 v44:=Tryz.zeroValue320
 i44:=by kernel_rfl }
open Go.RowKit Go.Lib Go.Sort in
theorem Tryz.insertionSort_func_w {α:Type} [Inhabited α] (enc:α->Value) (lt:α->α->Bool) (g:Nat) (lb:Array Value) (sf:Nat) (sb:Array Value) (blk off a b:Nat) (d:Array α) (w:World) (eg:∀ args w,(callFunc g args).run Tryz.prog w=.ok (.enter g args) w) (hless:LessReads Tryz.prog g lb enc lt blk off d.size w) (hswap:SwapSwaps Tryz.prog sf sb enc blk off d.size) (hH:Holds enc w blk off d) (hblk:blk<w.heap.size) (hab:a<=b) (hb:b<=d.size) (hsz:d.size<4611686018427387904) :
  Calls Tryz.prog 302 #[.agg #[.func (.func g) #[] lb,.func (.func sf) #[] sb],.int .i64 a,.int .i64 b] w fun e w'=>e=.returned (.tuple #[])/\∃ n os,w'=sortWorld enc w blk off n (Sort.insertionSort lt d a b) os:=Any.insertionSort_func_w Tryz.laysGg26 enc lt g lb sf sb blk off a b d w eg hless hswap hH hblk hab hb hsz
def Tryz.laysGt8_ren:Go.Shelf.Ren:=⟨fun | 8=>275 | 13=>288 | 14=>289 | 16=>291 | 15=>290 | 29=>302 | 30=>303 | 42=>304 | 49=>305 | n=>n,fun | 20=>20 | 26=>43 | 36=>315 | 0=>0 | 38=>208 | 42=>320 | 3=>3 | 4=>4 | 47=>70 | 17=>17 | 33=>312 | 34=>313 | 89=>340 | 12=>12 | 56=>69 | 82=>333 | 5=>5 | 83=>334 | 84=>335 | 85=>336 | 86=>337 | 87=>338 | n=>n,fun | n=>n⟩
theorem Tryz.laysGt8:Go.Proofs.LaysGt.n8 Tryz.prog Tryz.laysGt8_ren:={
 mixed:=by kernel_rfl
 f8:=Tryz.func275.trans (congrArg some (by kernel_rfl))
 f13:=Tryz.func288.trans (congrArg some (by kernel_rfl))
 f14:=Tryz.func289.trans (congrArg some (by kernel_rfl))
 f15:=Tryz.func290.trans (congrArg some (by kernel_rfl))
 f16:=Tryz.func291.trans (congrArg some (by kernel_rfl))
 f29:=Tryz.func302.trans (congrArg some (by kernel_rfl))
 f30:=Tryz.func303.trans (congrArg some (by kernel_rfl))
 f42:=Tryz.func304.trans (congrArg some (by kernel_rfl))
 f49:=Tryz.func305.trans (congrArg some (by kernel_rfl))
 t0:=Tryz.underlying0
 a0:=Tryz.isAgg0
 z0:=Tryz.sizeOf0
 v0:=Tryz.zeroValue0
 i0:=by kernel_rfl
 t3:=Tryz.underlying3
 a3:=Tryz.isAgg3
 z3:=Tryz.sizeOf3
 v3:=Tryz.zeroValue3
 i3:=by kernel_rfl
 t4:=Tryz.underlying4
 a4:=Tryz.isAgg4
 z4:=Tryz.sizeOf4
 v4:=Tryz.zeroValue4
 i4:=by kernel_rfl
 t5:=Tryz.underlying5
 a5:=Tryz.isAgg5
 z5:=Tryz.sizeOf5
 v5:=Tryz.zeroValue5
 i5:=by kernel_rfl
 t12:=Tryz.underlying12
 a12:=Tryz.isAgg12
 z12:=Tryz.sizeOf12
 v12:=Tryz.zeroValue12
 i12:=by kernel_rfl
 t17:=Tryz.underlying17
 a17:=Tryz.isAgg17
 z17:=Tryz.sizeOf17
 v17:=Tryz.zeroValue17
 i17:=by kernel_rfl
 t20:=Tryz.underlying20
 a20:=Tryz.isAgg20
 z20:=Tryz.sizeOf20
 v20:=Tryz.zeroValue20
 i20:=by kernel_rfl
 t26:=Tryz.underlying43
 a26:=Tryz.isAgg43
 z26:=Tryz.sizeOf43
 v26:=Tryz.zeroValue43
 i26:=by kernel_rfl
 t33:=Tryz.underlying312
 a33:=Tryz.isAgg312
 z33:=Tryz.sizeOf312
 v33:=Tryz.zeroValue312
 i33:=by kernel_rfl
 t34:=Tryz.underlying313
 a34:=Tryz.isAgg313
 z34:=Tryz.sizeOf313
 v34:=Tryz.zeroValue313
 i34:=by kernel_rfl
 t36:=Tryz.underlying315
 a36:=Tryz.isAgg315
 z36:=Tryz.sizeOf315
 v36:=Tryz.zeroValue315
 i36:=by kernel_rfl
 t38:=Tryz.underlying208
 a38:=Tryz.isAgg208
 z38:=Tryz.sizeOf208
 v38:=Tryz.zeroValue208
 i38:=by kernel_rfl
 t42:=Tryz.underlying320
 a42:=Tryz.isAgg320
 z42:=Tryz.sizeOf320
 v42:=Tryz.zeroValue320
 i42:=by kernel_rfl
 t47:=Tryz.underlying70
 a47:=Tryz.isAgg70
 z47:=Tryz.sizeOf70
 v47:=Tryz.zeroValue70
 i47:=by kernel_rfl
 t56:=Tryz.underlying69
 a56:=Tryz.isAgg69
 z56:=Tryz.sizeOf69
 v56:=Tryz.zeroValue69
 i56:=by kernel_rfl
 t82:=Tryz.underlying333
 a82:=Tryz.isAgg333
 z82:=Tryz.sizeOf333
 v82:=Tryz.zeroValue333
 i82:=by kernel_rfl
 t83:=Tryz.underlying334
 a83:=Tryz.isAgg334
 z83:=Tryz.sizeOf334
 v83:=Tryz.zeroValue334
 i83:=by kernel_rfl
 t84:=Tryz.underlying335
 a84:=Tryz.isAgg335
 z84:=Tryz.sizeOf335
 v84:=Tryz.zeroValue335
 i84:=by kernel_rfl
 t85:=Tryz.underlying336
 a85:=Tryz.isAgg336
 z85:=Tryz.sizeOf336
 v85:=Tryz.zeroValue336
 i85:=by kernel_rfl
 t86:=Tryz.underlying337
 a86:=Tryz.isAgg337
 z86:=Tryz.sizeOf337
 v86:=Tryz.zeroValue337
 i86:=by kernel_rfl
 t87:=Tryz.underlying338
 a87:=Tryz.isAgg338
 z87:=Tryz.sizeOf338
 v87:=Tryz.zeroValue338
 i87:=by kernel_rfl
 t89:=Tryz.underlying340
 a89:=Tryz.isAgg340
 z89:=Tryz.sizeOf340
 v89:=Tryz.zeroValue340
 i89:=by kernel_rfl }
def Tryz.lays113_ren:Go.Shelf.Ren:=⟨fun | 113=>132 | n=>n,fun | 28=>22 | 3=>3 | 4=>4 | 9=>9 | 20=>20 | 0=>0 | n=>n,fun | n=>n⟩
theorem Tryz.lays113:Go.Proofs.Lays.n113 Tryz.prog Tryz.lays113_ren:={
 mixed:=by kernel_rfl
 f113:=Tryz.func132.trans (congrArg some (by kernel_rfl))
 t0:=Tryz.underlying0
 a0:=Tryz.isAgg0
 z0:=Tryz.sizeOf0
 v0:=Tryz.zeroValue0
 t3:=Tryz.underlying3
 a3:=Tryz.isAgg3
 z3:=Tryz.sizeOf3
 v3:=Tryz.zeroValue3
 t4:=Tryz.underlying4
 a4:=Tryz.isAgg4
 z4:=Tryz.sizeOf4
 v4:=Tryz.zeroValue4
 t9:=Tryz.underlying9
 a9:=Tryz.isAgg9
 z9:=Tryz.sizeOf9
 v9:=Tryz.zeroValue9
 t20:=Tryz.underlying20
 a20:=Tryz.isAgg20
 z20:=Tryz.sizeOf20
 v20:=Tryz.zeroValue20
 t28:=Tryz.underlying22
 a28:=Tryz.isAgg22
 z28:=Tryz.sizeOf22
 v28:=Tryz.zeroValue22 }
open Go.Lib in
theorem Tryz.slices_Max_int (b off n c:Nat) (zs:List Int) (w:World) (hn:0<n) (hz:n<=zs.length) (hbig:n<=9223372036854775807) (hc:∀ j,j<zs.length->w.cell? ⟨b,off+j,none⟩=some (.int .i64 (zs.getD j 0))) :
  Calls Tryz.prog 132 #[.slice (some ⟨b,off,none⟩) n c] w fun e w'=>e=.returned (.int .i64 (Lib.maxOf (zs.take n)))/\w'=w:=Any.slices_Max_int Tryz.lays113 b off n c zs w hn hz hbig hc
def Tryz.laysNm215_ren:Go.Shelf.Ren:=⟨fun | 15=>72 | n=>n,fun | 22=>22 | 3=>3 | 4=>4 | n=>n,fun | n=>n⟩
theorem Tryz.laysNm215:Go.Proofs.Lays2.n15 Tryz.prog Tryz.laysNm215_ren:={
 mixed:=by kernel_rfl
 f15:=Tryz.func72.trans (congrArg some (by kernel_rfl))
 t3:=Tryz.underlying3
 a3:=Tryz.isAgg3
 z3:=Tryz.sizeOf3
 v3:=Tryz.zeroValue3
 t4:=Tryz.underlying4
 a4:=Tryz.isAgg4
 z4:=Tryz.sizeOf4
 v4:=Tryz.zeroValue4
 t22:=Tryz.underlying22
 a22:=Tryz.isAgg22
 z22:=Tryz.sizeOf22
 v22:=Tryz.zeroValue22
 i3:=by kernel_rfl }
open Go.RowKit Go.Lib in
theorem Tryz.slices_Clone_int (b off n c:Nat) (zs:List Int) (w:World) (hz:n<=zs.length) (hbig:n*8<=140737488355328) (hc:∀ j,j<zs.length->w.cell? ⟨b,off+j,none⟩=some (.int .i64 (zs.getD j 0))) :
  Calls Tryz.prog 72 #[.slice (some ⟨b,off,none⟩) n c] w fun e w'=>∃ v',e=.returned v'/\w'.ownsRow w.heap.size 3 1 v' n ((zs.take n).map (Value.int .i64))/\v'≠.slice none 0 0/\Below w.heap.size w w':=Any.slices_Clone_int Tryz.laysNm215 b off n c zs w hz hbig hc
open Go.RowKit Go.Lib in
open Go.RowKit Go.Lib in
def Tryz.laysNm220_ren:Go.Shelf.Ren:=⟨fun | 20=>167 | n=>n,fun | 22=>22 | 3=>3 | 4=>4 | 0=>0 | n=>n,fun | n=>n⟩
theorem Tryz.laysNm220:Go.Proofs.Lays2.n20 Tryz.prog Tryz.laysNm220_ren:={
 mixed:=by kernel_rfl
 f20:=Tryz.func167.trans (congrArg some (by kernel_rfl))
 t0:=Tryz.underlying0
 a0:=Tryz.isAgg0
 z0:=Tryz.sizeOf0
 v0:=Tryz.zeroValue0
 t3:=Tryz.underlying3
 a3:=Tryz.isAgg3
 z3:=Tryz.sizeOf3
 v3:=Tryz.zeroValue3
 t4:=Tryz.underlying4
 a4:=Tryz.isAgg4
 z4:=Tryz.sizeOf4
 v4:=Tryz.zeroValue4
 t22:=Tryz.underlying22
 a22:=Tryz.isAgg22
 z22:=Tryz.sizeOf22
 v22:=Tryz.zeroValue22
 i3:=by kernel_rfl }
open Go.RowKit Go.Lib Go.Sort in
open Go.RowKit Go.Lib Go.Sort in
theorem Tryz.slices_Compact_int (blk off cap:Nat) (zs:List Int) (w:World) (hH:Holds (Value.int .i64) w blk off zs.toArray) (hsz:zs.length<=9223372036854775807) (hcap:zs.length<=cap) :
  Calls Tryz.prog 167 #[.slice (some ⟨blk,off,none⟩) zs.length cap] w fun e w'=>e=.returned (.slice (some ⟨blk,off,none⟩) (Lib.compact zs).length cap)/\∃ q,w'=putRow (Value.int .i64) (Sort.ahead w q) blk off (Lib.compact zs++List.replicate (zs.length-(Lib.compact zs).length) 0).toArray:=Any.slices_Compact_int Tryz.laysNm220 blk off cap zs w hH hsz hcap
open Go.RowKit Go.Lib Go.Sort in
def Tryz.laysNm225_ren:Go.Shelf.Ren:=⟨fun | 25=>189 | 31=>238 | 32=>239 | 37=>154 | n=>n,fun | 22=>22 | 3=>3 | 4=>4 | 40=>70 | 0=>0 | n=>n,fun | n=>n⟩
theorem Tryz.laysNm225:Go.Proofs.Lays2.n25 Tryz.prog Tryz.laysNm225_ren:={
 mixed:=by kernel_rfl
 f25:=Tryz.func189.trans (congrArg some (by kernel_rfl))
 f31:=Tryz.func238.trans (congrArg some (by kernel_rfl))
 f32:=Tryz.func239.trans (congrArg some (by kernel_rfl))
 f37:=Tryz.func154.trans (congrArg some (by kernel_rfl))
 t0:=Tryz.underlying0
 a0:=Tryz.isAgg0
 z0:=Tryz.sizeOf0
 v0:=Tryz.zeroValue0
 t3:=Tryz.underlying3
 a3:=Tryz.isAgg3
 z3:=Tryz.sizeOf3
 v3:=Tryz.zeroValue3
 t4:=Tryz.underlying4
 a4:=Tryz.isAgg4
 z4:=Tryz.sizeOf4
 v4:=Tryz.zeroValue4
 t22:=Tryz.underlying22
 a22:=Tryz.isAgg22
 z22:=Tryz.sizeOf22
 v22:=Tryz.zeroValue22
 t40:=Tryz.underlying70
 a40:=Tryz.isAgg70
 z40:=Tryz.sizeOf70
 v40:=Tryz.zeroValue70 }
open Go.RowKit Go.Lib in
theorem Tryz.slices_BinarySearch_int (b off n c:Nat) (zs:List Int) (x:Int) (w:World) (hz:n<=zs.length) (hbig:n<4611686018427387904) (hc:∀ j,j<zs.length->w.cell? ⟨b,off+j,none⟩=some (.int .i64 (zs.getD j 0))) (hs:(zs.take n).Pairwise (·<=·)) :
  Calls Tryz.prog 189 #[.slice (some ⟨b,off,none⟩) n c,.int .i64 x] w fun e w'=>e=.returned (.tuple #[.int .i64 ((zs.take n).countP (· < x):Nat),.bool ((zs.take n).contains x)])/\∃ q,w'=w.drewN q:=Any.slices_BinarySearch_int Tryz.laysNm225 b off n c zs x w hz hbig hc hs
def Tryz.laysnb115_ren:Go.Shelf.Ren:=⟨fun | 115=>255 | n=>n,fun | 37=>52 | 4=>4 | 9=>9 | 5=>5 | n=>n,fun | n=>n⟩
theorem Tryz.laysnb115:Go.Proofs.Lays.nb115 Tryz.prog Tryz.laysnb115_ren:={
 mixed:=by kernel_rfl
 f115:=Tryz.func255.trans (congrArg some (by kernel_rfl))
 t4:=Tryz.underlying4
 a4:=Tryz.isAgg4
 z4:=Tryz.sizeOf4
 v4:=Tryz.zeroValue4
 t9:=Tryz.underlying9
 a9:=Tryz.isAgg9
 z9:=Tryz.sizeOf9
 v9:=Tryz.zeroValue9
 t37:=Tryz.underlying52
 a37:=Tryz.isAgg52
 z37:=Tryz.sizeOf52
 v37:=Tryz.zeroValue52
 t5:=Tryz.underlying5
 a5:=Tryz.isAgg5
 z5:=Tryz.sizeOf5
 v5:=Tryz.zeroValue5 }
theorem Tryz.bytes_Equal_all (p1 p2:Option Addr) (n c m d:Nat) (xs ys:List Int) (w:World) (hx:xs.length=n) (hy:ys.length=m) (h1:Lib.BytesIn w p1 n xs) (h2:Lib.BytesIn w p2 m ys) :
  Calls Tryz.prog 255 #[.slice p1 n c,.slice p2 m d] w fun e w'=>e=.returned (.bool (Lib.bytesOf xs==Lib.bytesOf ys))/\w'=w:=Any.bytes_Equal_all Tryz.laysnb115 p1 p2 n c m d xs ys w hx hy h1 h2
end Go.Proofs
