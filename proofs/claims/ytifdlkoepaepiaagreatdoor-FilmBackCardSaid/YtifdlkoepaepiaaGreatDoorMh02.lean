/- Lemmas. -/
import Derived.Shelf.Sort.Plain
import Derived.Shelf.GgSortFunc.Insertion
import Derived.Shelf.GgSortFunc.Compose
import Derived.Shelf.GgSortMore.Stable
import Derived.Shelf.Slices.Turned
import Derived.Shelf.Slices.Clone
import Derived.Shelf.Slices.CompactI
import Derived.Shelf.Slices.SearchI
import Derived.Shelf.Bytes.SlEqualAll
import Derived.Test.YtifdlkoepaepiaaGreatDoorProg
set_option linter.all false
namespace Go.Proofs
open Tryz List Nat Go.Shelf
def lays189_ren:Go.Shelf.Ren:=⟨fun | 189=>182 | 125=>120 | 257=>235 | 128=>160 | 129=>161 | 294=>252 | 295=>253 | 296=>254 | 297=>255 | 298=>256 | 299=>257 | 216=>229 | 300=>258 | 301=>259 | 328=>268 | 329=>213 | 330=>214 | 331=>269 | 332=>270 | 215=>162 | 343=>282 | n=>n,fun | 28=>22 | 3=>3 | 46=>84 | 0=>0 | 51=>96 | 53=>92 | 4=>4 | 183=>201 | 182=>200 | 131=>153 | 5=>5 | 9=>9 | 218=>257 | 222=>261 | 228=>289 | 229=>194 | n=>n,fun | n=>n⟩
theorem lays189:Go.Proofs.Lays.n189 prog lays189_ren:={
 mixed:=by kernel_rfl
 f125:=func120.trans (congrArg some (by kernel_rfl))
 f128:=func160.trans (congrArg some (by kernel_rfl))
 f129:=func161.trans (congrArg some (by kernel_rfl))
 f189:=func182.trans (congrArg some (by kernel_rfl))
 f215:=func162.trans (congrArg some (by kernel_rfl))
 f216:=func229.trans (congrArg some (by kernel_rfl))
 f257:=func235.trans (congrArg some (by kernel_rfl))
 f294:=func252.trans (congrArg some (by kernel_rfl))
 f295:=func253.trans (congrArg some (by kernel_rfl))
 f296:=func254.trans (congrArg some (by kernel_rfl))
 f297:=func255.trans (congrArg some (by kernel_rfl))
 f298:=func256.trans (congrArg some (by kernel_rfl))
 f299:=func257.trans (congrArg some (by kernel_rfl))
 f300:=func258.trans (congrArg some (by kernel_rfl))
 f301:=func259.trans (congrArg some (by kernel_rfl))
 f328:=func268.trans (congrArg some (by kernel_rfl))
 f329:=func213.trans (congrArg some (by kernel_rfl))
 f330:=func214.trans (congrArg some (by kernel_rfl))
 f331:=func269.trans (congrArg some (by kernel_rfl))
 f332:=func270.trans (congrArg some (by kernel_rfl))
 f343:=func282.trans (congrArg some (by kernel_rfl))
 t0:=underlying0
 a0:=isAgg0
 z0:=sizeOf0
 v0:=zeroValue0
 t3:=underlying3
 a3:=isAgg3
 z3:=sizeOf3
 v3:=zeroValue3
 t4:=underlying4
 a4:=isAgg4
 z4:=sizeOf4
 v4:=zeroValue4
 t5:=underlying5
 a5:=isAgg5
 z5:=sizeOf5
 v5:=zeroValue5
 t9:=underlying9
 a9:=isAgg9
 z9:=sizeOf9
 v9:=zeroValue9
 t28:=underlying22
 a28:=isAgg22
 z28:=sizeOf22
 v28:=zeroValue22
 t46:=underlying84
 a46:=isAgg84
 z46:=sizeOf84
 v46:=zeroValue84
 t51:=underlying96
 a51:=isAgg96
 z51:=sizeOf96
 v51:=zeroValue96
 t53:=underlying92
 a53:=isAgg92
 z53:=sizeOf92
 v53:=zeroValue92
 t131:=underlying153
 a131:=isAgg153
 z131:=sizeOf153
 v131:=zeroValue153
 t182:=underlying200
 a182:=isAgg200
 z182:=sizeOf200
 v182:=zeroValue200
 t183:=underlying201
 a183:=isAgg201
 z183:=sizeOf201
 v183:=zeroValue201
 t218:=underlying257
 a218:=isAgg257
 z218:=sizeOf257
 v218:=zeroValue257
 t222:=underlying261
 a222:=isAgg261
 z222:=sizeOf261
 v222:=zeroValue261
 t228:=underlying289
 a228:=isAgg289
 z228:=sizeOf289
 v228:=zeroValue289
 t229:=underlying194
 a229:=isAgg194
 z229:=sizeOf194
 v229:=zeroValue194 }
open Go.Sort Go.RowKit in
theorem slices_Sort_int(blk a b:Nat)(d:List Int)(w:World)(hH:Holds (Value.int .i64) w blk a d.toArray)(c:blk<w.heap.size)(f:d.length<4611686018427387904):Calls prog 182 #[.slice (some ⟨blk,a,none⟩) d.length b] w λe g=>e=.returned (.tuple #[])/\∃n os,g=grow (putRow (Value.int .i64) (Sort.ahead w n) blk a (d.mergeSort λx y=>decide (x<=y)).toArray) os:=Any.slices_Sort_int lays189 blk a b d w hH c f
def laysGg26_ren:Go.Shelf.Ren:=⟨fun | 26=>280 | n=>n,fun | 44=>308 | 3=>3 | 0=>0 | 4=>4 | 26=>87 | 37=>185 | n=>n,fun | n=>n⟩
theorem laysGg26:Go.Proofs.LaysGg.n26 prog laysGg26_ren:={
 mixed:=by kernel_rfl
 f26:=func280.trans (congrArg some (by kernel_rfl))
 t0:=underlying0
 a0:=isAgg0
 z0:=sizeOf0
 v0:=zeroValue0
 i0:=by kernel_rfl
 t3:=underlying3
 a3:=isAgg3
 z3:=sizeOf3
 v3:=zeroValue3
 i3:=by kernel_rfl
 t4:=underlying4
 a4:=isAgg4
 z4:=sizeOf4
 v4:=zeroValue4
 i4:=by kernel_rfl
 t26:=underlying87
 a26:=isAgg87
 z26:=sizeOf87
 v26:=zeroValue87
 i26:=by kernel_rfl
 t37:=underlying185
 a37:=isAgg185
 z37:=sizeOf185
 v37:=zeroValue185
 i37:=by kernel_rfl
 t44:=underlying308
 a44:=isAgg308
 z44:=sizeOf308
 v44:=zeroValue308
 i44:=by kernel_rfl }
open Go.RowKit Go.Lib Go.Sort in
theorem insertionSort_func_w{α:Type}[Inhabited α](enc:α->Value)(lt:α->α->Bool)(g:Nat)(l:Array Value)(o:Nat)(m:Array Value)(blk c a b:Nat)(d:Array α)(w:World)(p:∀args w,(callFunc g args).run prog w=.ok (.enter g args) w)(f:LessReads prog g l enc lt blk c d.size w)(h:SwapSwaps prog o m enc blk c d.size)(hH:Holds enc w blk c d)(i:blk<w.heap.size)(j:a<=b)(q:b<=d.size)(k:d.size<4611686018427387904):Calls prog 280 #[.agg #[.func (.func g) #[] l,.func (.func o) #[] m],.int .i64 a,.int .i64 b] w λe r=>e=.returned (.tuple #[])/\∃n os,r=sortWorld enc w blk c n (Sort.insertionSort lt d a b) os:=Any.insertionSort_func_w laysGg26 enc lt g l o m blk c a b d w p f h hH i j q k
def laysGt8_ren:Go.Shelf.Ren:=⟨fun | 8=>250 | 13=>264 | 14=>265 | 16=>267 | 15=>266 | 29=>280 | 30=>281 | 42=>283 | 49=>284 | n=>n,fun | 20=>20 | 26=>87 | 36=>303 | 0=>0 | 38=>185 | 42=>308 | 3=>3 | 4=>4 | 47=>84 | 17=>17 | 33=>300 | 34=>301 | 89=>330 | 12=>12 | 56=>96 | 82=>323 | 5=>5 | 83=>324 | 84=>325 | 85=>326 | 86=>327 | 87=>328 | n=>n,fun | n=>n⟩
theorem laysGt8:Go.Proofs.LaysGt.n8 prog laysGt8_ren:={
 mixed:=by kernel_rfl
 f8:=func250.trans (congrArg some (by kernel_rfl))
 f13:=func264.trans (congrArg some (by kernel_rfl))
 f14:=func265.trans (congrArg some (by kernel_rfl))
 f15:=func266.trans (congrArg some (by kernel_rfl))
 f16:=func267.trans (congrArg some (by kernel_rfl))
 f29:=func280.trans (congrArg some (by kernel_rfl))
 f30:=func281.trans (congrArg some (by kernel_rfl))
 f42:=func283.trans (congrArg some (by kernel_rfl))
 f49:=func284.trans (congrArg some (by kernel_rfl))
 t0:=underlying0
 a0:=isAgg0
 z0:=sizeOf0
 v0:=zeroValue0
 i0:=by kernel_rfl
 t3:=underlying3
 a3:=isAgg3
 z3:=sizeOf3
 v3:=zeroValue3
 i3:=by kernel_rfl
 t4:=underlying4
 a4:=isAgg4
 z4:=sizeOf4
 v4:=zeroValue4
 i4:=by kernel_rfl
 t5:=underlying5
 a5:=isAgg5
 z5:=sizeOf5
 v5:=zeroValue5
 i5:=by kernel_rfl
 t12:=underlying12
 a12:=isAgg12
 z12:=sizeOf12
 v12:=zeroValue12
 i12:=by kernel_rfl
 t17:=underlying17
 a17:=isAgg17
 z17:=sizeOf17
 v17:=zeroValue17
 i17:=by kernel_rfl
 t20:=underlying20
 a20:=isAgg20
 z20:=sizeOf20
 v20:=zeroValue20
 i20:=by kernel_rfl
 t26:=underlying87
 a26:=isAgg87
 z26:=sizeOf87
 v26:=zeroValue87
 i26:=by kernel_rfl
 t33:=underlying300
 a33:=isAgg300
 z33:=sizeOf300
 v33:=zeroValue300
 i33:=by kernel_rfl
 t34:=underlying301
 a34:=isAgg301
 z34:=sizeOf301
 v34:=zeroValue301
 i34:=by kernel_rfl
 t36:=underlying303
 a36:=isAgg303
 z36:=sizeOf303
 v36:=zeroValue303
 i36:=by kernel_rfl
 t38:=underlying185
 a38:=isAgg185
 z38:=sizeOf185
 v38:=zeroValue185
 i38:=by kernel_rfl
 t42:=underlying308
 a42:=isAgg308
 z42:=sizeOf308
 v42:=zeroValue308
 i42:=by kernel_rfl
 t47:=underlying84
 a47:=isAgg84
 z47:=sizeOf84
 v47:=zeroValue84
 i47:=by kernel_rfl
 t56:=underlying96
 a56:=isAgg96
 z56:=sizeOf96
 v56:=zeroValue96
 i56:=by kernel_rfl
 t82:=underlying323
 a82:=isAgg323
 z82:=sizeOf323
 v82:=zeroValue323
 i82:=by kernel_rfl
 t83:=underlying324
 a83:=isAgg324
 z83:=sizeOf324
 v83:=zeroValue324
 i83:=by kernel_rfl
 t84:=underlying325
 a84:=isAgg325
 z84:=sizeOf325
 v84:=zeroValue325
 i84:=by kernel_rfl
 t85:=underlying326
 a85:=isAgg326
 z85:=sizeOf326
 v85:=zeroValue326
 i85:=by kernel_rfl
 t86:=underlying327
 a86:=isAgg327
 z86:=sizeOf327
 v86:=zeroValue327
 i86:=by kernel_rfl
 t87:=underlying328
 a87:=isAgg328
 z87:=sizeOf328
 v87:=zeroValue328
 i87:=by kernel_rfl
 t89:=underlying330
 a89:=isAgg330
 z89:=sizeOf330
 v89:=zeroValue330
 i89:=by kernel_rfl }
def lays113_ren:Go.Shelf.Ren:=⟨fun | 113=>131 | n=>n,fun | 28=>22 | 3=>3 | 4=>4 | 9=>9 | 20=>20 | 0=>0 | n=>n,fun | n=>n⟩
theorem lays113:Go.Proofs.Lays.n113 prog lays113_ren:={
 mixed:=by kernel_rfl
 f113:=func131.trans (congrArg some (by kernel_rfl))
 t0:=underlying0
 a0:=isAgg0
 z0:=sizeOf0
 v0:=zeroValue0
 t3:=underlying3
 a3:=isAgg3
 z3:=sizeOf3
 v3:=zeroValue3
 t4:=underlying4
 a4:=isAgg4
 z4:=sizeOf4
 v4:=zeroValue4
 t9:=underlying9
 a9:=isAgg9
 z9:=sizeOf9
 v9:=zeroValue9
 t20:=underlying20
 a20:=isAgg20
 z20:=sizeOf20
 v20:=zeroValue20
 t28:=underlying22
 a28:=isAgg22
 z28:=sizeOf22
 v28:=zeroValue22 }
open Go.Lib in
theorem slices_Max_int(b a n c:Nat)(f:List Int)(w:World)(h:0<n)(i:n<=f.length)(d:n<=9223372036854775807)(g:∀j,j<f.length->w.cell? ⟨b,a+j,none⟩=some (.int .i64 (f.getD j 0))):Calls prog 131 #[.slice (some ⟨b,a,none⟩) n c] w λe k=>e=.returned (.int .i64 (Lib.maxOf (f.take n)))/\k=w:=Any.slices_Max_int lays113 b a n c f w h i d g
def laysNm215_ren:Go.Shelf.Ren:=⟨fun | 15=>93 | n=>n,fun | 22=>22 | 3=>3 | 4=>4 | n=>n,fun | n=>n⟩
theorem laysNm215:Go.Proofs.Lays2.n15 prog laysNm215_ren:={
 mixed:=by kernel_rfl
 f15:=func93.trans (congrArg some (by kernel_rfl))
 t3:=underlying3
 a3:=isAgg3
 z3:=sizeOf3
 v3:=zeroValue3
 t4:=underlying4
 a4:=isAgg4
 z4:=sizeOf4
 v4:=zeroValue4
 t22:=underlying22
 a22:=isAgg22
 z22:=sizeOf22
 v22:=zeroValue22
 i3:=by kernel_rfl }
open Go.RowKit Go.Lib in
theorem slices_Clone_int(b a n c:Nat)(f:List Int)(w:World)(h:n<=f.length)(d:n*8<=140737488355328)(g:∀j,j<f.length->w.cell? ⟨b,a+j,none⟩=some (.int .i64 (f.getD j 0))):Calls prog 93 #[.slice (some ⟨b,a,none⟩) n c] w λe w'=>∃v',e=.returned v'/\w'.ownsRow w.heap.size 3 1 v' n ((f.take n).map (Value.int .i64))/\v'≠.slice none 0 0/\Below w.heap.size w w':=Any.slices_Clone_int laysNm215 b a n c f w h d g
open Go.RowKit Go.Lib in
open Go.RowKit Go.Lib in
def laysNm220_ren:Go.Shelf.Ren:=⟨fun | 20=>183 | n=>n,fun | 22=>22 | 3=>3 | 4=>4 | 0=>0 | n=>n,fun | n=>n⟩
theorem laysNm220:Go.Proofs.Lays2.n20 prog laysNm220_ren:={
 mixed:=by kernel_rfl
 f20:=func183.trans (congrArg some (by kernel_rfl))
 t0:=underlying0
 a0:=isAgg0
 z0:=sizeOf0
 v0:=zeroValue0
 t3:=underlying3
 a3:=isAgg3
 z3:=sizeOf3
 v3:=zeroValue3
 t4:=underlying4
 a4:=isAgg4
 z4:=sizeOf4
 v4:=zeroValue4
 t22:=underlying22
 a22:=isAgg22
 z22:=sizeOf22
 v22:=zeroValue22
 i3:=by kernel_rfl }
open Go.RowKit Go.Lib Go.Sort in
open Go.RowKit Go.Lib Go.Sort in
theorem slices_Compact_int(blk a b:Nat)(c:List Int)(w:World)(hH:Holds (Value.int .i64) w blk a c.toArray)(f:c.length<=9223372036854775807)(d:c.length<=b):Calls prog 183 #[.slice (some ⟨blk,a,none⟩) c.length b] w λe g=>e=.returned (.slice (some ⟨blk,a,none⟩) (Lib.compact c).length b)/\∃q,g=putRow (Value.int .i64) (Sort.ahead w q) blk a (Lib.compact c++replicate (c.length-(Lib.compact c).length) 0).toArray:=Any.slices_Compact_int laysNm220 blk a b c w hH f d
open Go.RowKit Go.Lib Go.Sort in
def laysNm225_ren:Go.Shelf.Ren:=⟨fun | 25=>178 | 31=>229 | 32=>230 | 37=>162 | n=>n,fun | 22=>22 | 3=>3 | 4=>4 | 40=>84 | 0=>0 | n=>n,fun | n=>n⟩
theorem laysNm225:Go.Proofs.Lays2.n25 prog laysNm225_ren:={
 mixed:=by kernel_rfl
 f25:=func178.trans (congrArg some (by kernel_rfl))
 f31:=func229.trans (congrArg some (by kernel_rfl))
 f32:=func230.trans (congrArg some (by kernel_rfl))
 f37:=func162.trans (congrArg some (by kernel_rfl))
 t0:=underlying0
 a0:=isAgg0
 z0:=sizeOf0
 v0:=zeroValue0
 t3:=underlying3
 a3:=isAgg3
 z3:=sizeOf3
 v3:=zeroValue3
 t4:=underlying4
 a4:=isAgg4
 z4:=sizeOf4
 v4:=zeroValue4
 t22:=underlying22
 a22:=isAgg22
 z22:=sizeOf22
 v22:=zeroValue22
 t40:=underlying84
 a40:=isAgg84
 z40:=sizeOf84
 v40:=zeroValue84 }
open Go.RowKit Go.Lib in
theorem slices_BinarySearch_int(b a n c:Nat)(d:List Int)(x:Int)(w:World)(i:n<=d.length)(f:n<4611686018427387904)(g:∀j,j<d.length->w.cell? ⟨b,a+j,none⟩=some (.int .i64 (d.getD j 0)))(h:(d.take n).Pairwise (·<=·)):Calls prog 178 #[.slice (some ⟨b,a,none⟩) n c,.int .i64 x] w λe k=>e=.returned (.tuple #[.int .i64 ((d.take n).countP (· < x):Nat),.bool ((d.take n).contains x)])/\∃q,k=w.drewN q:=Any.slices_BinarySearch_int laysNm225 b a n c d x w i f g h
def laysnb115_ren:Go.Shelf.Ren:=⟨fun | 115=>208 | n=>n,fun | 37=>41 | 4=>4 | 9=>9 | 5=>5 | n=>n,fun | n=>n⟩
theorem laysnb115:Go.Proofs.Lays.nb115 prog laysnb115_ren:={
 mixed:=by kernel_rfl
 f115:=func208.trans (congrArg some (by kernel_rfl))
 t4:=underlying4
 a4:=isAgg4
 z4:=sizeOf4
 v4:=zeroValue4
 t9:=underlying9
 a9:=isAgg9
 z9:=sizeOf9
 v9:=zeroValue9
 t37:=underlying41
 a37:=isAgg41
 z37:=sizeOf41
 v37:=zeroValue41
 t5:=underlying5
 a5:=isAgg5
 z5:=sizeOf5
 v5:=zeroValue5 }
theorem bytes_Equal_all(b f:Option Addr)(n c m d:Nat)(a ys:List Int)(w:World)(i:a.length=n)(j:ys.length=m)(g:Lib.BytesIn w b n a)(h:Lib.BytesIn w f m ys):Calls prog 208 #[.slice b n c,.slice f m d] w λe k=>e=.returned (.bool (Lib.bytesOf a==Lib.bytesOf ys))/\k=w:=Any.bytes_Equal_all laysnb115 b f n c m d a ys w i j g h
end Go.Proofs
