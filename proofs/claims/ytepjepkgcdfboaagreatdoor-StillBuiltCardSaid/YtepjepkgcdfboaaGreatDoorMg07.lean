/- Laid by the kit's shelf (lay-shelf.mjs, lay-plain.mjs): contracts of slices.Sort, Max, Clone, Compact, BinarySearch at []int, of bytes.Equal, and what sort.SliceStable's closure asks, at this translation. -/
import Derived.Shelf.Sort.Plain
import Derived.Shelf.GgSortFunc.Insertion
import Derived.Shelf.GgSortFunc.Compose
import Derived.Shelf.GgSortMore.Stable
import Derived.Shelf.Slices.Turned
import Derived.Shelf.Slices.Clone
import Derived.Shelf.Slices.CompactI
import Derived.Shelf.Slices.SearchI
import Derived.Shelf.Bytes.SlEqualAll
import Derived.Test.YtepjepkgcdfboaaGreatDoorProg
set_option linter.unusedVariables false
set_option linter.unusedSimpArgs false
namespace Go.Proofs
open Go.Shelf
def Tryz.lays189_ren:Go.Shelf.Ren:=⟨fun | 189=>144 | 125=>94 | 257=>189 | 128=>131 | 129=>132 | 294=>237 | 295=>238 | 296=>239 | 297=>240 | 298=>241 | 299=>242 | 216=>216 | 300=>243 | 301=>244 | 328=>269 | 329=>172 | 330=>173 | 331=>270 | 332=>271 | 215=>133 | 343=>283 | n=>n,fun | 28=>22 | 3=>3 | 46=>59 | 0=>0 | 51=>58 | 53=>37 | 4=>4 | 183=>169 | 182=>168 | 131=>109 | 5=>5 | 9=>9 | 218=>215 | 222=>219 | 228=>259 | 229=>183 | n=>n,fun | n=>n⟩
theorem Tryz.lays189:Go.Proofs.Lays.n189 Tryz.prog Tryz.lays189_ren:={
 mixed:=by kernel_rfl
 f125:=Tryz.func94.trans (congrArg some (by kernel_rfl))
 f128:=Tryz.func131.trans (congrArg some (by kernel_rfl))
 f129:=Tryz.func132.trans (congrArg some (by kernel_rfl))
 f189:=Tryz.func144.trans (congrArg some (by kernel_rfl))
 f215:=Tryz.func133.trans (congrArg some (by kernel_rfl))
 f216:=Tryz.func216.trans (congrArg some (by kernel_rfl))
 f257:=Tryz.func189.trans (congrArg some (by kernel_rfl))
 f294:=Tryz.func237.trans (congrArg some (by kernel_rfl))
 f295:=Tryz.func238.trans (congrArg some (by kernel_rfl))
 f296:=Tryz.func239.trans (congrArg some (by kernel_rfl))
 f297:=Tryz.func240.trans (congrArg some (by kernel_rfl))
 f298:=Tryz.func241.trans (congrArg some (by kernel_rfl))
 f299:=Tryz.func242.trans (congrArg some (by kernel_rfl))
 f300:=Tryz.func243.trans (congrArg some (by kernel_rfl))
 f301:=Tryz.func244.trans (congrArg some (by kernel_rfl))
 f328:=Tryz.func269.trans (congrArg some (by kernel_rfl))
 f329:=Tryz.func172.trans (congrArg some (by kernel_rfl))
 f330:=Tryz.func173.trans (congrArg some (by kernel_rfl))
 f331:=Tryz.func270.trans (congrArg some (by kernel_rfl))
 f332:=Tryz.func271.trans (congrArg some (by kernel_rfl))
 f343:=Tryz.func283.trans (congrArg some (by kernel_rfl))
 t0:=Tryz.underlying0
 a0:=Tryz.isAgg0
 z0:=Tryz.sizeOf0
 v0:=Tryz.zeroValue0
 t3:=Tryz.underlying3
 a3:=Tryz.isAgg3
 z3:=Tryz.sizeOf3
 v3:=Tryz.zeroValue3
 t4:=Tryz.underlying4
 a4:=Tryz.isAgg4
 z4:=Tryz.sizeOf4
 v4:=Tryz.zeroValue4
 t5:=Tryz.underlying5
 a5:=Tryz.isAgg5
 z5:=Tryz.sizeOf5
 v5:=Tryz.zeroValue5
 t9:=Tryz.underlying9
 a9:=Tryz.isAgg9
 z9:=Tryz.sizeOf9
 v9:=Tryz.zeroValue9
 t28:=Tryz.underlying22
 a28:=Tryz.isAgg22
 z28:=Tryz.sizeOf22
 v28:=Tryz.zeroValue22
 t46:=Tryz.underlying59
 a46:=Tryz.isAgg59
 z46:=Tryz.sizeOf59
 v46:=Tryz.zeroValue59
 t51:=Tryz.underlying58
 a51:=Tryz.isAgg58
 z51:=Tryz.sizeOf58
 v51:=Tryz.zeroValue58
 t53:=Tryz.underlying37
 a53:=Tryz.isAgg37
 z53:=Tryz.sizeOf37
 v53:=Tryz.zeroValue37
 t131:=Tryz.underlying109
 a131:=Tryz.isAgg109
 z131:=Tryz.sizeOf109
 v131:=Tryz.zeroValue109
 t182:=Tryz.underlying168
 a182:=Tryz.isAgg168
 z182:=Tryz.sizeOf168
 v182:=Tryz.zeroValue168
 t183:=Tryz.underlying169
 a183:=Tryz.isAgg169
 z183:=Tryz.sizeOf169
 v183:=Tryz.zeroValue169
 t218:=Tryz.underlying215
 a218:=Tryz.isAgg215
 z218:=Tryz.sizeOf215
 v218:=Tryz.zeroValue215
 t222:=Tryz.underlying219
 a222:=Tryz.isAgg219
 z222:=Tryz.sizeOf219
 v222:=Tryz.zeroValue219
 t228:=Tryz.underlying259
 a228:=Tryz.isAgg259
 z228:=Tryz.sizeOf259
 v228:=Tryz.zeroValue259
 t229:=Tryz.underlying183
 a229:=Tryz.isAgg183
 z229:=Tryz.sizeOf183
 v229:=Tryz.zeroValue183 }
open Go.Sort Go.RowKit in
theorem Tryz.slices_Sort_int (blk off cap:Nat) (zs:List Int) (w:World) (hH:Holds (Value.int .i64) w blk off zs.toArray) (hblk:blk<w.heap.size) (hsz:zs.length<4611686018427387904) :
  Calls Tryz.prog 144 #[.slice (some ⟨blk,off,none⟩) zs.length cap] w fun e w' =>
   e=.returned (.tuple #[])/\∃ n os,w'=grow (putRow (Value.int .i64) (Sort.ahead w n) blk off (zs.mergeSort fun x y=>decide (x<=y)).toArray) os:=Any.slices_Sort_int Tryz.lays189 blk off cap zs w hH hblk hsz
def Tryz.laysGg26_ren:Go.Shelf.Ren:=⟨fun | 26=>293 | n=>n,fun | 44=>311 | 3=>3 | 0=>0 | 4=>4 | 26=>30 | 37=>198 | n=>n,fun | n=>n⟩
theorem Tryz.laysGg26:Go.Proofs.LaysGg.n26 Tryz.prog Tryz.laysGg26_ren:={
 mixed:=by kernel_rfl
 f26:=Tryz.func293.trans (congrArg some (by kernel_rfl))
 t0:=Tryz.underlying0
 a0:=Tryz.isAgg0
 z0:=Tryz.sizeOf0
 v0:=Tryz.zeroValue0
 i0:=by kernel_rfl
 t3:=Tryz.underlying3
 a3:=Tryz.isAgg3
 z3:=Tryz.sizeOf3
 v3:=Tryz.zeroValue3
 i3:=by kernel_rfl
 t4:=Tryz.underlying4
 a4:=Tryz.isAgg4
 z4:=Tryz.sizeOf4
 v4:=Tryz.zeroValue4
 i4:=by kernel_rfl
 t26:=Tryz.underlying30
 a26:=Tryz.isAgg30
 z26:=Tryz.sizeOf30
 v26:=Tryz.zeroValue30
 i26:=by kernel_rfl
 t37:=Tryz.underlying198
 a37:=Tryz.isAgg198
 z37:=Tryz.sizeOf198
 v37:=Tryz.zeroValue198
 i37:=by kernel_rfl
 t44:=Tryz.underlying311
 a44:=Tryz.isAgg311
 z44:=Tryz.sizeOf311
 v44:=Tryz.zeroValue311
 i44:=by kernel_rfl }
open Go.RowKit Go.Lib Go.Sort in
theorem Tryz.insertionSort_func_w {α:Type} [Inhabited α] (enc:α->Value) (lt:α->α->Bool) (g:Nat) (lb:Array Value) (sf:Nat) (sb:Array Value) (blk off a b:Nat) (d:Array α) (w:World) (eg:∀ args w,(callFunc g args).run Tryz.prog w=.ok (.enter g args) w) (hless:LessReads Tryz.prog g lb enc lt blk off d.size w) (hswap:SwapSwaps Tryz.prog sf sb enc blk off d.size) (hH:Holds enc w blk off d) (hblk:blk<w.heap.size) (hab:a<=b) (hb:b<=d.size) (hsz:d.size<4611686018427387904) :
  Calls Tryz.prog 293 #[.agg #[.func (.func g) #[] lb,.func (.func sf) #[] sb],.int .i64 a,.int .i64 b] w fun e w'=>e=.returned (.tuple #[])/\∃ n os,w'=sortWorld enc w blk off n (Sort.insertionSort lt d a b) os:=Any.insertionSort_func_w Tryz.laysGg26 enc lt g lb sf sb blk off a b d w eg hless hswap hH hblk hab hb hsz
def Tryz.laysGt8_ren:Go.Shelf.Ren:=⟨fun | 8=>255 | 13=>276 | 14=>277 | 16=>279 | 15=>278 | 29=>293 | 30=>294 | 42=>295 | 49=>296 | n=>n,fun | 20=>20 | 26=>30 | 36=>306 | 0=>0 | 38=>198 | 42=>311 | 3=>3 | 4=>4 | 47=>59 | 17=>17 | 33=>303 | 34=>304 | 89=>336 | 12=>12 | 56=>58 | 82=>329 | 5=>5 | 83=>330 | 84=>331 | 85=>332 | 86=>333 | 87=>334 | n=>n,fun | n=>n⟩
theorem Tryz.laysGt8:Go.Proofs.LaysGt.n8 Tryz.prog Tryz.laysGt8_ren:={
 mixed:=by kernel_rfl
 f8:=Tryz.func255.trans (congrArg some (by kernel_rfl))
 f13:=Tryz.func276.trans (congrArg some (by kernel_rfl))
 f14:=Tryz.func277.trans (congrArg some (by kernel_rfl))
 f15:=Tryz.func278.trans (congrArg some (by kernel_rfl))
 f16:=Tryz.func279.trans (congrArg some (by kernel_rfl))
 f29:=Tryz.func293.trans (congrArg some (by kernel_rfl))
 f30:=Tryz.func294.trans (congrArg some (by kernel_rfl))
 f42:=Tryz.func295.trans (congrArg some (by kernel_rfl))
 f49:=Tryz.func296.trans (congrArg some (by kernel_rfl))
 t0:=Tryz.underlying0
 a0:=Tryz.isAgg0
 z0:=Tryz.sizeOf0
 v0:=Tryz.zeroValue0
 i0:=by kernel_rfl
 t3:=Tryz.underlying3
 a3:=Tryz.isAgg3
 z3:=Tryz.sizeOf3
 v3:=Tryz.zeroValue3
 i3:=by kernel_rfl
 t4:=Tryz.underlying4
 a4:=Tryz.isAgg4
 z4:=Tryz.sizeOf4
 v4:=Tryz.zeroValue4
 i4:=by kernel_rfl
 t5:=Tryz.underlying5
 a5:=Tryz.isAgg5
 z5:=Tryz.sizeOf5
 v5:=Tryz.zeroValue5
 i5:=by kernel_rfl
 t12:=Tryz.underlying12
 a12:=Tryz.isAgg12
 z12:=Tryz.sizeOf12
 v12:=Tryz.zeroValue12
 i12:=by kernel_rfl
 t17:=Tryz.underlying17
 a17:=Tryz.isAgg17
 z17:=Tryz.sizeOf17
 v17:=Tryz.zeroValue17
 i17:=by kernel_rfl
 t20:=Tryz.underlying20
 a20:=Tryz.isAgg20
 z20:=Tryz.sizeOf20
 v20:=Tryz.zeroValue20
 i20:=by kernel_rfl
 t26:=Tryz.underlying30
 a26:=Tryz.isAgg30
 z26:=Tryz.sizeOf30
 v26:=Tryz.zeroValue30
 i26:=by kernel_rfl
 t33:=Tryz.underlying303
 a33:=Tryz.isAgg303
 z33:=Tryz.sizeOf303
 v33:=Tryz.zeroValue303
 i33:=by kernel_rfl
 t34:=Tryz.underlying304
 a34:=Tryz.isAgg304
 z34:=Tryz.sizeOf304
 v34:=Tryz.zeroValue304
 i34:=by kernel_rfl
 t36:=Tryz.underlying306
 a36:=Tryz.isAgg306
 z36:=Tryz.sizeOf306
 v36:=Tryz.zeroValue306
 i36:=by kernel_rfl
 t38:=Tryz.underlying198
 a38:=Tryz.isAgg198
 z38:=Tryz.sizeOf198
 v38:=Tryz.zeroValue198
 i38:=by kernel_rfl
 t42:=Tryz.underlying311
 a42:=Tryz.isAgg311
 z42:=Tryz.sizeOf311
 v42:=Tryz.zeroValue311
 i42:=by kernel_rfl
 t47:=Tryz.underlying59
 a47:=Tryz.isAgg59
 z47:=Tryz.sizeOf59
 v47:=Tryz.zeroValue59
 i47:=by kernel_rfl
 t56:=Tryz.underlying58
 a56:=Tryz.isAgg58
 z56:=Tryz.sizeOf58
 v56:=Tryz.zeroValue58
 i56:=by kernel_rfl
 t82:=Tryz.underlying329
 a82:=Tryz.isAgg329
 z82:=Tryz.sizeOf329
 v82:=Tryz.zeroValue329
 i82:=by kernel_rfl
 t83:=Tryz.underlying330
 a83:=Tryz.isAgg330
 z83:=Tryz.sizeOf330
 v83:=Tryz.zeroValue330
 i83:=by kernel_rfl
 t84:=Tryz.underlying331
 a84:=Tryz.isAgg331
 z84:=Tryz.sizeOf331
 v84:=Tryz.zeroValue331
 i84:=by kernel_rfl
 t85:=Tryz.underlying332
 a85:=Tryz.isAgg332
 z85:=Tryz.sizeOf332
 v85:=Tryz.zeroValue332
 i85:=by kernel_rfl
 t86:=Tryz.underlying333
 a86:=Tryz.isAgg333
 z86:=Tryz.sizeOf333
 v86:=Tryz.zeroValue333
 i86:=by kernel_rfl
 t87:=Tryz.underlying334
 a87:=Tryz.isAgg334
 z87:=Tryz.sizeOf334
 v87:=Tryz.zeroValue334
 i87:=by kernel_rfl
 t89:=Tryz.underlying336
 a89:=Tryz.isAgg336
 z89:=Tryz.sizeOf336
 v89:=Tryz.zeroValue336
 i89:=by kernel_rfl }
def Tryz.lays113_ren:Go.Shelf.Ren:=⟨fun | 113=>111 | n=>n,fun | 28=>22 | 3=>3 | 4=>4 | 9=>9 | 20=>20 | 0=>0 | n=>n,fun | n=>n⟩
theorem Tryz.lays113:Go.Proofs.Lays.n113 Tryz.prog Tryz.lays113_ren:={
 mixed:=by kernel_rfl
 f113:=Tryz.func111.trans (congrArg some (by kernel_rfl))
 t0:=Tryz.underlying0
 a0:=Tryz.isAgg0
 z0:=Tryz.sizeOf0
 v0:=Tryz.zeroValue0
 t3:=Tryz.underlying3
 a3:=Tryz.isAgg3
 z3:=Tryz.sizeOf3
 v3:=Tryz.zeroValue3
 t4:=Tryz.underlying4
 a4:=Tryz.isAgg4
 z4:=Tryz.sizeOf4
 v4:=Tryz.zeroValue4
 t9:=Tryz.underlying9
 a9:=Tryz.isAgg9
 z9:=Tryz.sizeOf9
 v9:=Tryz.zeroValue9
 t20:=Tryz.underlying20
 a20:=Tryz.isAgg20
 z20:=Tryz.sizeOf20
 v20:=Tryz.zeroValue20
 t28:=Tryz.underlying22
 a28:=Tryz.isAgg22
 z28:=Tryz.sizeOf22
 v28:=Tryz.zeroValue22 }
open Go.Lib in
theorem Tryz.slices_Max_int (b off n c:Nat) (zs:List Int) (w:World) (hn:0<n) (hz:n<=zs.length) (hbig:n<=9223372036854775807) (hc:∀ j,j<zs.length->w.cell? ⟨b,off+j,none⟩=some (.int .i64 (zs.getD j 0))) :
  Calls Tryz.prog 111 #[.slice (some ⟨b,off,none⟩) n c] w fun e w'=>e=.returned (.int .i64 (Lib.maxOf (zs.take n)))/\w'=w:=Any.slices_Max_int Tryz.lays113 b off n c zs w hn hz hbig hc
def Tryz.laysNm215_ren:Go.Shelf.Ren:=⟨fun | 15=>57 | n=>n,fun | 22=>22 | 3=>3 | 4=>4 | n=>n,fun | n=>n⟩
theorem Tryz.laysNm215:Go.Proofs.Lays2.n15 Tryz.prog Tryz.laysNm215_ren:={
 mixed:=by kernel_rfl
 f15:=Tryz.func57.trans (congrArg some (by kernel_rfl))
 t3:=Tryz.underlying3
 a3:=Tryz.isAgg3
 z3:=Tryz.sizeOf3
 v3:=Tryz.zeroValue3
 t4:=Tryz.underlying4
 a4:=Tryz.isAgg4
 z4:=Tryz.sizeOf4
 v4:=Tryz.zeroValue4
 t22:=Tryz.underlying22
 a22:=Tryz.isAgg22
 z22:=Tryz.sizeOf22
 v22:=Tryz.zeroValue22
 i3:=by kernel_rfl }
open Go.RowKit Go.Lib in
theorem Tryz.slices_Clone_int (b off n c:Nat) (zs:List Int) (w:World) (hz:n<=zs.length) (hbig:n*8<=140737488355328) (hc:∀ j,j<zs.length->w.cell? ⟨b,off+j,none⟩=some (.int .i64 (zs.getD j 0))) :
  Calls Tryz.prog 57 #[.slice (some ⟨b,off,none⟩) n c] w fun e w'=>∃ v',e=.returned v'/\w'.ownsRow w.heap.size 3 1 v' n ((zs.take n).map (Value.int .i64))/\v'≠.slice none 0 0/\Below w.heap.size w w':=Any.slices_Clone_int Tryz.laysNm215 b off n c zs w hz hbig hc
open Go.RowKit Go.Lib in
open Go.RowKit Go.Lib in
def Tryz.laysNm220_ren:Go.Shelf.Ren:=⟨fun | 20=>145 | n=>n,fun | 22=>22 | 3=>3 | 4=>4 | 0=>0 | n=>n,fun | n=>n⟩
theorem Tryz.laysNm220:Go.Proofs.Lays2.n20 Tryz.prog Tryz.laysNm220_ren:={
 mixed:=by kernel_rfl
 f20:=Tryz.func145.trans (congrArg some (by kernel_rfl))
 t0:=Tryz.underlying0
 a0:=Tryz.isAgg0
 z0:=Tryz.sizeOf0
 v0:=Tryz.zeroValue0
 t3:=Tryz.underlying3
 a3:=Tryz.isAgg3
 z3:=Tryz.sizeOf3
 v3:=Tryz.zeroValue3
 t4:=Tryz.underlying4
 a4:=Tryz.isAgg4
 z4:=Tryz.sizeOf4
 v4:=Tryz.zeroValue4
 t22:=Tryz.underlying22
 a22:=Tryz.isAgg22
 z22:=Tryz.sizeOf22
 v22:=Tryz.zeroValue22
 i3:=by kernel_rfl }
open Go.RowKit Go.Lib Go.Sort in
open Go.RowKit Go.Lib Go.Sort in
theorem Tryz.slices_Compact_int (blk off cap:Nat) (zs:List Int) (w:World) (hH:Holds (Value.int .i64) w blk off zs.toArray) (hsz:zs.length<=9223372036854775807) (hcap:zs.length<=cap) :
  Calls Tryz.prog 145 #[.slice (some ⟨blk,off,none⟩) zs.length cap] w fun e w'=>e=.returned (.slice (some ⟨blk,off,none⟩) (Lib.compact zs).length cap)/\∃ q,w'=putRow (Value.int .i64) (Sort.ahead w q) blk off (Lib.compact zs++List.replicate (zs.length-(Lib.compact zs).length) 0).toArray:=Any.slices_Compact_int Tryz.laysNm220 blk off cap zs w hH hsz hcap
open Go.RowKit Go.Lib Go.Sort in
def Tryz.laysNm225_ren:Go.Shelf.Ren:=⟨fun | 25=>167 | 31=>216 | 32=>217 | 37=>133 | n=>n,fun | 22=>22 | 3=>3 | 4=>4 | 40=>59 | 0=>0 | n=>n,fun | n=>n⟩
theorem Tryz.laysNm225:Go.Proofs.Lays2.n25 Tryz.prog Tryz.laysNm225_ren:={
 mixed:=by kernel_rfl
 f25:=Tryz.func167.trans (congrArg some (by kernel_rfl))
 f31:=Tryz.func216.trans (congrArg some (by kernel_rfl))
 f32:=Tryz.func217.trans (congrArg some (by kernel_rfl))
 f37:=Tryz.func133.trans (congrArg some (by kernel_rfl))
 t0:=Tryz.underlying0
 a0:=Tryz.isAgg0
 z0:=Tryz.sizeOf0
 v0:=Tryz.zeroValue0
 t3:=Tryz.underlying3
 a3:=Tryz.isAgg3
 z3:=Tryz.sizeOf3
 v3:=Tryz.zeroValue3
 t4:=Tryz.underlying4
 a4:=Tryz.isAgg4
 z4:=Tryz.sizeOf4
 v4:=Tryz.zeroValue4
 t22:=Tryz.underlying22
 a22:=Tryz.isAgg22
 z22:=Tryz.sizeOf22
 v22:=Tryz.zeroValue22
 t40:=Tryz.underlying59
 a40:=Tryz.isAgg59
 z40:=Tryz.sizeOf59
 v40:=Tryz.zeroValue59 }
open Go.RowKit Go.Lib in
theorem Tryz.slices_BinarySearch_int (b off n c:Nat) (zs:List Int) (x:Int) (w:World) (hz:n<=zs.length) (hbig:n<4611686018427387904) (hc:∀ j,j<zs.length->w.cell? ⟨b,off+j,none⟩=some (.int .i64 (zs.getD j 0))) (hs:(zs.take n).Pairwise (·<=·)) :
  Calls Tryz.prog 167 #[.slice (some ⟨b,off,none⟩) n c,.int .i64 x] w fun e w'=>e=.returned (.tuple #[.int .i64 ((zs.take n).countP (· < x):Nat),.bool ((zs.take n).contains x)])/\∃ q,w'=w.drewN q:=Any.slices_BinarySearch_int Tryz.laysNm225 b off n c zs x w hz hbig hc hs
def Tryz.laysnb115_ren:Go.Shelf.Ren:=⟨fun | 115=>266 | n=>n,fun | 37=>39 | 4=>4 | 9=>9 | 5=>5 | n=>n,fun | n=>n⟩
theorem Tryz.laysnb115:Go.Proofs.Lays.nb115 Tryz.prog Tryz.laysnb115_ren:={
 mixed:=by kernel_rfl
 f115:=Tryz.func266.trans (congrArg some (by kernel_rfl))
 t4:=Tryz.underlying4
 a4:=Tryz.isAgg4
 z4:=Tryz.sizeOf4
 v4:=Tryz.zeroValue4
 t9:=Tryz.underlying9
 a9:=Tryz.isAgg9
 z9:=Tryz.sizeOf9
 v9:=Tryz.zeroValue9
 t37:=Tryz.underlying39
 a37:=Tryz.isAgg39
 z37:=Tryz.sizeOf39
 v37:=Tryz.zeroValue39
 t5:=Tryz.underlying5
 a5:=Tryz.isAgg5
 z5:=Tryz.sizeOf5
 v5:=Tryz.zeroValue5 }
theorem Tryz.bytes_Equal_all (p1 p2:Option Addr) (n c m d:Nat) (xs ys:List Int) (w:World) (hx:xs.length=n) (hy:ys.length=m) (h1:Lib.BytesIn w p1 n xs) (h2:Lib.BytesIn w p2 m ys) :
  Calls Tryz.prog 266 #[.slice p1 n c,.slice p2 m d] w fun e w'=>e=.returned (.bool (Lib.bytesOf xs==Lib.bytesOf ys))/\w'=w:=Any.bytes_Equal_all Tryz.laysnb115 p1 p2 n c m d xs ys w hx hy h1 h2
end Go.Proofs
