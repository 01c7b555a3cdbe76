/- Laid by the kit's shelf (lay-shelf.mjs, lay-plain.mjs): contracts of slices.Sort, Max, Clone, Compact, BinarySearch at []int, of bytes.Equal, and what sort.SliceStable's closure asks, at this translation. -/
import Derived.Shelf.Sort.Plain
import Derived.Shelf.GgSortFunc.Insertion
import Derived.Shelf.GgSortFunc.Compose
import Derived.Shelf.GgSortMore.Stable
import Derived.Shelf.Slices.Turned
import Derived.Shelf.Slices.Clone
import Derived.Shelf.Slices.CompactI
import Derived.Shelf.Slices.SearchI
import Derived.Shelf.Bytes.SlEqualAll
import Derived.Test.YtijpbkakncglgaaGreatDoorProg
set_option linter.unusedVariables false
set_option linter.unusedSimpArgs false
namespace Go.Proofs
open Go.Shelf
def Tryz.lays189_ren:Go.Shelf.Ren:=⟨fun | 189=>115 | 125=>165 | 257=>164 | 128=>200 | 129=>176 | 294=>192 | 295=>193 | 296=>194 | 297=>195 | 298=>196 | 299=>197 | 216=>179 | 300=>198 | 301=>199 | 328=>211 | 329=>212 | 330=>213 | 331=>214 | 332=>215 | 215=>207 | 343=>223 | n=>n,fun | 28=>22 | 3=>3 | 46=>78 | 0=>0 | 51=>87 | 53=>70 | 4=>4 | 183=>226 | 182=>225 | 131=>161 | 5=>5 | 9=>9 | 218=>235 | 222=>239 | 228=>251 | 229=>139 | n=>n,fun | n=>n⟩
theorem Tryz.lays189:Go.Proofs.Lays.n189 Tryz.prog Tryz.lays189_ren:={
 mixed:=by kernel_rfl
 f125:=Tryz.func165.trans (congrArg some (by kernel_rfl))
 f128:=Tryz.func200.trans (congrArg some (by kernel_rfl))
 f129:=Tryz.func176.trans (congrArg some (by kernel_rfl))
 f189:=Tryz.func115.trans (congrArg some (by kernel_rfl))
 f215:=Tryz.func207.trans (congrArg some (by kernel_rfl))
 f216:=Tryz.func179.trans (congrArg some (by kernel_rfl))
 f257:=Tryz.func164.trans (congrArg some (by kernel_rfl))
 f294:=Tryz.func192.trans (congrArg some (by kernel_rfl))
 f295:=Tryz.func193.trans (congrArg some (by kernel_rfl))
 f296:=Tryz.func194.trans (congrArg some (by kernel_rfl))
 f297:=Tryz.func195.trans (congrArg some (by kernel_rfl))
 f298:=Tryz.func196.trans (congrArg some (by kernel_rfl))
 f299:=Tryz.func197.trans (congrArg some (by kernel_rfl))
 f300:=Tryz.func198.trans (congrArg some (by kernel_rfl))
 f301:=Tryz.func199.trans (congrArg some (by kernel_rfl))
 f328:=Tryz.func211.trans (congrArg some (by kernel_rfl))
 f329:=Tryz.func212.trans (congrArg some (by kernel_rfl))
 f330:=Tryz.func213.trans (congrArg some (by kernel_rfl))
 f331:=Tryz.func214.trans (congrArg some (by kernel_rfl))
 f332:=Tryz.func215.trans (congrArg some (by kernel_rfl))
 f343:=Tryz.func223.trans (congrArg some (by kernel_rfl))
 t0:=Tryz.underlying0
 a0:=Tryz.isAgg0
 z0:=Tryz.sizeOf0
 v0:=Tryz.zeroValue0
 t3:=Tryz.underlying3
 a3:=Tryz.isAgg3
 z3:=Tryz.sizeOf3
 v3:=Tryz.zeroValue3
 t4:=Tryz.underlying4
 a4:=Tryz.isAgg4
 z4:=Tryz.sizeOf4
 v4:=Tryz.zeroValue4
 t5:=Tryz.underlying5
 a5:=Tryz.isAgg5
 z5:=Tryz.sizeOf5
 v5:=Tryz.zeroValue5
 t9:=Tryz.underlying9
 a9:=Tryz.isAgg9
 z9:=Tryz.sizeOf9
 v9:=Tryz.zeroValue9
 t28:=Tryz.underlying22
 a28:=Tryz.isAgg22
 z28:=Tryz.sizeOf22
 v28:=Tryz.zeroValue22
 t46:=Tryz.underlying78
 a46:=Tryz.isAgg78
 z46:=Tryz.sizeOf78
 v46:=Tryz.zeroValue78
 t51:=Tryz.underlying87
 a51:=Tryz.isAgg87
 z51:=Tryz.sizeOf87
 v51:=Tryz.zeroValue87
 t53:=Tryz.underlying70
 a53:=Tryz.isAgg70
 z53:=Tryz.sizeOf70
 v53:=Tryz.zeroValue70
 t131:=Tryz.underlying161
 a131:=Tryz.isAgg161
 z131:=Tryz.sizeOf161
 v131:=Tryz.zeroValue161
 t182:=Tryz.underlying225
 a182:=Tryz.isAgg225
 z182:=Tryz.sizeOf225
 v182:=Tryz.zeroValue225
 t183:=Tryz.underlying226
 a183:=Tryz.isAgg226
 z183:=Tryz.sizeOf226
 v183:=Tryz.zeroValue226
 t218:=Tryz.underlying235
 a218:=Tryz.isAgg235
 z218:=Tryz.sizeOf235
 v218:=Tryz.zeroValue235
 t222:=Tryz.underlying239
 a222:=Tryz.isAgg239
 z222:=Tryz.sizeOf239
 v222:=Tryz.zeroValue239
 t228:=Tryz.underlying251
 a228:=Tryz.isAgg251
 z228:=Tryz.sizeOf251
 v228:=Tryz.zeroValue251
 t229:=Tryz.underlying139
 a229:=Tryz.isAgg139
 z229:=Tryz.sizeOf139
 v229:=Tryz.zeroValue139 }
open Go.Sort Go.RowKit in
theorem Tryz.slices_Sort_int (blk off cap:Nat) (zs:List Int) (w:World) (hH:Holds (Value.int .i64) w blk off zs.toArray) (hblk:blk<w.heap.size) (hsz:zs.length<4611686018427387904) :
  Calls Tryz.prog 115 #[.slice (some ⟨blk,off,none⟩) zs.length cap] w fun e w' =>
   e=.returned (.tuple #[])∧∃ n os,w'=grow (putRow (Value.int .i64) (Sort.ahead w n) blk off (zs.mergeSort fun x y=>decide (x≤y)).toArray) os:=Any.slices_Sort_int Tryz.lays189 blk off cap zs w hH hblk hsz
def Tryz.laysGg26_ren:Go.Shelf.Ren:=⟨fun | 26=>233 | n=>n,fun | 44=>250 | 3=>3 | 0=>0 | 4=>4 | 26=>170 | 37=>130 | n=>n,fun | n=>n⟩
theorem Tryz.laysGg26:Go.Proofs.LaysGg.n26 Tryz.prog Tryz.laysGg26_ren:={
 mixed:=by kernel_rfl
 f26:=Tryz.func233.trans (congrArg some (by kernel_rfl))
 t0:=Tryz.underlying0
 a0:=Tryz.isAgg0
 z0:=Tryz.sizeOf0
 v0:=Tryz.zeroValue0
 i0:=by kernel_rfl
 t3:=Tryz.underlying3
 a3:=Tryz.isAgg3
 z3:=Tryz.sizeOf3
 v3:=Tryz.zeroValue3
 i3:=by kernel_rfl
 t4:=Tryz.underlying4
 a4:=Tryz.isAgg4
 z4:=Tryz.sizeOf4
 v4:=Tryz.zeroValue4
 i4:=by kernel_rfl
 t26:=Tryz.underlying170
 a26:=Tryz.isAgg170
 z26:=Tryz.sizeOf170
 v26:=Tryz.zeroValue170
 i26:=by kernel_rfl
 t37:=Tryz.underlying130
 a37:=Tryz.isAgg130
 z37:=Tryz.sizeOf130
 v37:=Tryz.zeroValue130
 i37:=by kernel_rfl
 t44:=Tryz.underlying250
 a44:=Tryz.isAgg250
 z44:=Tryz.sizeOf250
 v44:=Tryz.zeroValue250
 i44:=by kernel_rfl }
open Go.RowKit Go.Lib Go.Sort in
theorem Tryz.insertionSort_func_w {α:Type} [Inhabited α] (enc:α→Value) (lt:α→α→Bool) (g:Nat) (lb:Array Value) (sf:Nat) (sb:Array Value) (blk off a b:Nat) (d:Array α) (w:World) (eg:∀ args w,(callFunc g args).run Tryz.prog w=.ok (.enter g args) w) (hless:LessReads Tryz.prog g lb enc lt blk off d.size w) (hswap:SwapSwaps Tryz.prog sf sb enc blk off d.size) (hH:Holds enc w blk off d) (hblk:blk<w.heap.size) (hab:a≤b) (hb:b≤d.size) (hsz:d.size<4611686018427387904) :
  Calls Tryz.prog 233 #[.agg #[.func (.func g) #[] lb,.func (.func sf) #[] sb],.int .i64 a,.int .i64 b] w fun e w'=>e=.returned (.tuple #[])∧∃ n os,w'=sortWorld enc w blk off n (Sort.insertionSort lt d a b) os:=Any.insertionSort_func_w Tryz.laysGg26 enc lt g lb sf sb blk off a b d w eg hless hswap hH hblk hab hb hsz
def Tryz.laysGt8_ren:Go.Shelf.Ren:=⟨fun | 8=>208 | 13=>219 | 14=>220 | 16=>222 | 15=>221 | 29=>233 | 30=>234 | 42=>235 | 49=>236 | n=>n,fun | 20=>20 | 26=>170 | 36=>245 | 0=>0 | 38=>130 | 42=>250 | 3=>3 | 4=>4 | 47=>78 | 17=>17 | 33=>242 | 34=>243 | 89=>271 | 12=>12 | 56=>87 | 82=>264 | 5=>5 | 83=>265 | 84=>266 | 85=>267 | 86=>268 | 87=>269 | n=>n,fun | n=>n⟩
theorem Tryz.laysGt8:Go.Proofs.LaysGt.n8 Tryz.prog Tryz.laysGt8_ren:={
 mixed:=by kernel_rfl
 f8:=Tryz.func208.trans (congrArg some (by kernel_rfl))
 f13:=Tryz.func219.trans (congrArg some (by kernel_rfl))
 f14:=Tryz.func220.trans (congrArg some (by kernel_rfl))
 f15:=Tryz.func221.trans (congrArg some (by kernel_rfl))
 f16:=Tryz.func222.trans (congrArg some (by kernel_rfl))
 f29:=Tryz.func233.trans (congrArg some (by kernel_rfl))
 f30:=Tryz.func234.trans (congrArg some (by kernel_rfl))
 f42:=Tryz.func235.trans (congrArg some (by kernel_rfl))
 f49:=Tryz.func236.trans (congrArg some (by kernel_rfl))
 t0:=Tryz.underlying0
 a0:=Tryz.isAgg0
 z0:=Tryz.sizeOf0
 v0:=Tryz.zeroValue0
 i0:=by kernel_rfl
 t3:=Tryz.underlying3
 a3:=Tryz.isAgg3
 z3:=Tryz.sizeOf3
 v3:=Tryz.zeroValue3
 i3:=by kernel_rfl
 t4:=Tryz.underlying4
 a4:=Tryz.isAgg4
 z4:=Tryz.sizeOf4
 v4:=Tryz.zeroValue4
 i4:=by kernel_rfl
 t5:=Tryz.underlying5
 a5:=Tryz.isAgg5
 z5:=Tryz.sizeOf5
 v5:=Tryz.zeroValue5
 i5:=by kernel_rfl
 t12:=Tryz.underlying12
 a12:=Tryz.isAgg12
 z12:=Tryz.sizeOf12
 v12:=Tryz.zeroValue12
 i12:=by kernel_rfl
 t17:=Tryz.underlying17
 a17:=Tryz.isAgg17
 z17:=Tryz.sizeOf17
 v17:=Tryz.zeroValue17
 i17:=by kernel_rfl
 t20:=Tryz.underlying20
 a20:=Tryz.isAgg20
 z20:=Tryz.sizeOf20
 v20:=Tryz.zeroValue20
 i20:=by kernel_rfl
 t26:=Tryz.underlying170
 a26:=Tryz.isAgg170
 z26:=Tryz.sizeOf170
 v26:=Tryz.zeroValue170
 i26:=by kernel_rfl
 t33:=Tryz.underlying242
 a33:=Tryz.isAgg242
 z33:=Tryz.sizeOf242
 v33:=Tryz.zeroValue242
 i33:=by kernel_rfl
 t34:=Tryz.underlying243
 a34:=Tryz.isAgg243
 z34:=Tryz.sizeOf243
 v34:=Tryz.zeroValue243
 i34:=by kernel_rfl
 t36:=Tryz.underlying245
 a36:=Tryz.isAgg245
 z36:=Tryz.sizeOf245
 v36:=Tryz.zeroValue245
 i36:=by kernel_rfl
 t38:=Tryz.underlying130
 a38:=Tryz.isAgg130
 z38:=Tryz.sizeOf130
 v38:=Tryz.zeroValue130
 i38:=by kernel_rfl
 t42:=Tryz.underlying250
 a42:=Tryz.isAgg250
 z42:=Tryz.sizeOf250
 v42:=Tryz.zeroValue250
 i42:=by kernel_rfl
 t47:=Tryz.underlying78
 a47:=Tryz.isAgg78
 z47:=Tryz.sizeOf78
 v47:=Tryz.zeroValue78
 i47:=by kernel_rfl
 t56:=Tryz.underlying87
 a56:=Tryz.isAgg87
 z56:=Tryz.sizeOf87
 v56:=Tryz.zeroValue87
 i56:=by kernel_rfl
 t82:=Tryz.underlying264
 a82:=Tryz.isAgg264
 z82:=Tryz.sizeOf264
 v82:=Tryz.zeroValue264
 i82:=by kernel_rfl
 t83:=Tryz.underlying265
 a83:=Tryz.isAgg265
 z83:=Tryz.sizeOf265
 v83:=Tryz.zeroValue265
 i83:=by kernel_rfl
 t84:=Tryz.underlying266
 a84:=Tryz.isAgg266
 z84:=Tryz.sizeOf266
 v84:=Tryz.zeroValue266
 i84:=by kernel_rfl
 t85:=Tryz.underlying267
 a85:=Tryz.isAgg267
 z85:=Tryz.sizeOf267
 v85:=Tryz.zeroValue267
 i85:=by kernel_rfl
 t86:=Tryz.underlying268
 a86:=Tryz.isAgg268
 z86:=Tryz.sizeOf268
 v86:=Tryz.zeroValue268
 i86:=by kernel_rfl
 t87:=Tryz.underlying269
 a87:=Tryz.isAgg269
 z87:=Tryz.sizeOf269
 v87:=Tryz.zeroValue269
 i87:=by kernel_rfl
 t89:=Tryz.underlying271
 a89:=Tryz.isAgg271
 z89:=Tryz.sizeOf271
 v89:=Tryz.zeroValue271
 i89:=by kernel_rfl }
def Tryz.lays113_ren:Go.Shelf.Ren:=⟨fun | 113=>84 | n=>n,fun | 28=>22 | 3=>3 | 4=>4 | 9=>9 | 20=>20 | 0=>0 | n=>n,fun | n=>n⟩
theorem Tryz.lays113:Go.Proofs.Lays.n113 Tryz.prog Tryz.lays113_ren:={
 mixed:=by kernel_rfl
 f113:=Tryz.func84.trans (congrArg some (by kernel_rfl))
 t0:=Tryz.underlying0
 a0:=Tryz.isAgg0
 z0:=Tryz.sizeOf0
 v0:=Tryz.zeroValue0
 t3:=Tryz.underlying3
 a3:=Tryz.isAgg3
 z3:=Tryz.sizeOf3
 v3:=Tryz.zeroValue3
 t4:=Tryz.underlying4
 a4:=Tryz.isAgg4
 z4:=Tryz.sizeOf4
 v4:=Tryz.zeroValue4
 t9:=Tryz.underlying9
 a9:=Tryz.isAgg9
 z9:=Tryz.sizeOf9
 v9:=Tryz.zeroValue9
 t20:=Tryz.underlying20
 a20:=Tryz.isAgg20
 z20:=Tryz.sizeOf20
 v20:=Tryz.zeroValue20
 t28:=Tryz.underlying22
 a28:=Tryz.isAgg22
 z28:=Tryz.sizeOf22
 v28:=Tryz.zeroValue22 }
open Go.Lib in
theorem Tryz.slices_Max_int (b off n c:Nat) (zs:List Int) (w:World) (hn:0<n) (hz:n≤zs.length) (hbig:n≤9223372036854775807) (hc:∀ j,j<zs.length→w.cell? ⟨b,off+j,none⟩=some (.int .i64 (zs.getD j 0))) :
  Calls Tryz.prog 84 #[.slice (some ⟨b,off,none⟩) n c] w fun e w'=>e=.returned (.int .i64 (Lib.maxOf (zs.take n)))∧w'=w:=Any.slices_Max_int Tryz.lays113 b off n c zs w hn hz hbig hc
def Tryz.laysNm215_ren:Go.Shelf.Ren:=⟨fun | 15=>59 | n=>n,fun | 22=>22 | 3=>3 | 4=>4 | n=>n,fun | n=>n⟩
theorem Tryz.laysNm215:Go.Proofs.Lays2.n15 Tryz.prog Tryz.laysNm215_ren:={
 mixed:=by kernel_rfl
 f15:=Tryz.func59.trans (congrArg some (by kernel_rfl))
 t3:=Tryz.underlying3
 a3:=Tryz.isAgg3
 z3:=Tryz.sizeOf3
 v3:=Tryz.zeroValue3
 t4:=Tryz.underlying4
 a4:=Tryz.isAgg4
 z4:=Tryz.sizeOf4
 v4:=Tryz.zeroValue4
 t22:=Tryz.underlying22
 a22:=Tryz.isAgg22
 z22:=Tryz.sizeOf22
 v22:=Tryz.zeroValue22
 i3:=by kernel_rfl }
open Go.RowKit Go.Lib in
theorem Tryz.slices_Clone_int (b off n c:Nat) (zs:List Int) (w:World) (hz:n≤zs.length) (hbig:n*8≤140737488355328) (hc:∀ j,j<zs.length→w.cell? ⟨b,off+j,none⟩=some (.int .i64 (zs.getD j 0))) :
  Calls Tryz.prog 59 #[.slice (some ⟨b,off,none⟩) n c] w fun e w'=>∃ v',e=.returned v'∧w'.ownsRow w.heap.size 3 1 v' n ((zs.take n).map (Value.int .i64))∧v'≠.slice none 0 0∧Below w.heap.size w w':=Any.slices_Clone_int Tryz.laysNm215 b off n c zs w hz hbig hc
open Go.RowKit Go.Lib in
open Go.RowKit Go.Lib in
def Tryz.laysNm220_ren:Go.Shelf.Ren:=⟨fun | 20=>116 | n=>n,fun | 22=>22 | 3=>3 | 4=>4 | 0=>0 | n=>n,fun | n=>n⟩
theorem Tryz.laysNm220:Go.Proofs.Lays2.n20 Tryz.prog Tryz.laysNm220_ren:={
 mixed:=by kernel_rfl
 f20:=Tryz.func116.trans (congrArg some (by kernel_rfl))
 t0:=Tryz.underlying0
 a0:=Tryz.isAgg0
 z0:=Tryz.sizeOf0
 v0:=Tryz.zeroValue0
 t3:=Tryz.underlying3
 a3:=Tryz.isAgg3
 z3:=Tryz.sizeOf3
 v3:=Tryz.zeroValue3
 t4:=Tryz.underlying4
 a4:=Tryz.isAgg4
 z4:=Tryz.sizeOf4
 v4:=Tryz.zeroValue4
 t22:=Tryz.underlying22
 a22:=Tryz.isAgg22
 z22:=Tryz.sizeOf22
 v22:=Tryz.zeroValue22
 i3:=by kernel_rfl }
open Go.RowKit Go.Lib Go.Sort in
open Go.RowKit Go.Lib Go.Sort in
theorem Tryz.slices_Compact_int (blk off cap:Nat) (zs:List Int) (w:World) (hH:Holds (Value.int .i64) w blk off zs.toArray) (hsz:zs.length≤9223372036854775807) (hcap:zs.length≤cap) :
  Calls Tryz.prog 116 #[.slice (some ⟨blk,off,none⟩) zs.length cap] w fun e w'=>e=.returned (.slice (some ⟨blk,off,none⟩) (Lib.compact zs).length cap)∧∃ q,w'=putRow (Value.int .i64) (Sort.ahead w q) blk off (Lib.compact zs++List.replicate (zs.length-(Lib.compact zs).length) 0).toArray:=Any.slices_Compact_int Tryz.laysNm220 blk off cap zs w hH hsz hcap
open Go.RowKit Go.Lib Go.Sort in
def Tryz.laysNm225_ren:Go.Shelf.Ren:=⟨fun | 25=>133 | 31=>179 | 32=>180 | 37=>207 | n=>n,fun | 22=>22 | 3=>3 | 4=>4 | 40=>78 | 0=>0 | n=>n,fun | n=>n⟩
theorem Tryz.laysNm225:Go.Proofs.Lays2.n25 Tryz.prog Tryz.laysNm225_ren:={
 mixed:=by kernel_rfl
 f25:=Tryz.func133.trans (congrArg some (by kernel_rfl))
 f31:=Tryz.func179.trans (congrArg some (by kernel_rfl))
 f32:=Tryz.func180.trans (congrArg some (by kernel_rfl))
 f37:=Tryz.func207.trans (congrArg some (by kernel_rfl))
 t0:=Tryz.underlying0
 a0:=Tryz.isAgg0
 z0:=Tryz.sizeOf0
 v0:=Tryz.zeroValue0
 t3:=Tryz.underlying3
 a3:=Tryz.isAgg3
 z3:=Tryz.sizeOf3
 v3:=Tryz.zeroValue3
 t4:=Tryz.underlying4
 a4:=Tryz.isAgg4
 z4:=Tryz.sizeOf4
 v4:=Tryz.zeroValue4
 t22:=Tryz.underlying22
 a22:=Tryz.isAgg22
 z22:=Tryz.sizeOf22
 v22:=Tryz.zeroValue22
 t40:=Tryz.underlying78
 a40:=Tryz.isAgg78
 z40:=Tryz.sizeOf78
 v40:=Tryz.zeroValue78 }
open Go.RowKit Go.Lib in
theorem Tryz.slices_BinarySearch_int (b off n c:Nat) (zs:List Int) (x:Int) (w:World) (hz:n≤zs.length) (hbig:n<4611686018427387904) (hc:∀ j,j<zs.length→w.cell? ⟨b,off+j,none⟩=some (.int .i64 (zs.getD j 0))) (hs:(zs.take n).Pairwise (·≤·)) :
  Calls Tryz.prog 133 #[.slice (some ⟨b,off,none⟩) n c,.int .i64 x] w fun e w'=>e=.returned (.tuple #[.int .i64 ((zs.take n).countP (· < x):Nat),.bool ((zs.take n).contains x)])∧∃ q,w'=w.drewN q:=Any.slices_BinarySearch_int Tryz.laysNm225 b off n c zs x w hz hbig hc hs
def Tryz.laysnb115_ren:Go.Shelf.Ren:=⟨fun | 115=>160 | n=>n,fun | 37=>29 | 4=>4 | 9=>9 | 5=>5 | n=>n,fun | n=>n⟩
theorem Tryz.laysnb115:Go.Proofs.Lays.nb115 Tryz.prog Tryz.laysnb115_ren:={
 mixed:=by kernel_rfl
 f115:=Tryz.func160.trans (congrArg some (by kernel_rfl))
 t4:=Tryz.underlying4
 a4:=Tryz.isAgg4
 z4:=Tryz.sizeOf4
 v4:=Tryz.zeroValue4
 t9:=Tryz.underlying9
 a9:=Tryz.isAgg9
 z9:=Tryz.sizeOf9
 v9:=Tryz.zeroValue9
 t37:=Tryz.underlying29
 a37:=Tryz.isAgg29
 z37:=Tryz.sizeOf29
 v37:=Tryz.zeroValue29
 t5:=Tryz.underlying5
 a5:=Tryz.isAgg5
 z5:=Tryz.sizeOf5
 v5:=Tryz.zeroValue5 }
theorem Tryz.bytes_Equal_all (p1 p2:Option Addr) (n c m d:Nat) (xs ys:List Int) (w:World) (hx:xs.length=n) (hy:ys.length=m) (h1:Lib.BytesIn w p1 n xs) (h2:Lib.BytesIn w p2 m ys) :
  Calls Tryz.prog 160 #[.slice p1 n c,.slice p2 m d] w fun e w'=>e=.returned (.bool (Lib.bytesOf xs==Lib.bytesOf ys))∧w'=w:=Any.bytes_Equal_all Tryz.laysnb115 p1 p2 n c m d xs ys w hx hy h1 h2
end Go.Proofs
