/- Lemmas. -/
import Derived.Shelf.Strconv.Itoa0
import Derived.Test.YtifdlkoepaepiaaGreatDoorProg
import Derived.Shelf.SlSortCmp.Whole1
set_option linter.all false
namespace Go.Proofs
open Tryz List Nat Go.Shelf
def lays129_ren:Go.Shelf.Ren:=⟨fun | 129=>161 | n=>n,fun | 53=>92 | 3=>3 | 4=>4 | 46=>84 | 5=>5 | 9=>9 | n=>n,fun | n=>n⟩
theorem lays129:Go.Proofs.Lays.n129 prog lays129_ren:={
 mixed:=by kernel_rfl
 f129:=func161.trans (congrArg some (by kernel_rfl))
 t3:=underlying3
 a3:=isAgg3
 z3:=sizeOf3
 v3:=zeroValue3
 t4:=underlying4
 a4:=isAgg4
 z4:=sizeOf4
 v4:=zeroValue4
 t5:=underlying5
 a5:=isAgg5
 z5:=sizeOf5
 v5:=zeroValue5
 t9:=underlying9
 a9:=isAgg9
 z9:=sizeOf9
 v9:=zeroValue9
 t46:=underlying84
 a46:=isAgg84
 z46:=sizeOf84
 v46:=zeroValue84
 t53:=underlying92
 a53:=isAgg92
 z53:=sizeOf92
 v53:=zeroValue92 }
theorem bits_Len64(x:Int)(w:World)(a:0<=x)(b:x<=18446744073709551615):Calls prog 161 #[.int .u64 x] w λe c=>e=.returned (.int .i64 (Lib.bitLen x.toNat))/\c=w:=Any.bits_Len64 lays129 x w a b
open Go.Shelf
def laysSlF6_f73_ren:Go.Shelf.Ren:=⟨fun | 6=>97 | 15=>120 | 14=>119 | 28=>160 | 29=>161 | 20=>152 | 21=>153 | 22=>154 | 23=>155 | 24=>156 | 25=>157 | 26=>158 | 27=>159 | 46=>212 | 47=>213 | 48=>214 | 49=>215 | 50=>216 | 57=>243 | n=>n,fun | 22=>44 | 24=>22 | 25=>149 | 3=>3 | 39=>84 | 0=>0 | 53=>96 | 55=>92 | 4=>4 | 46=>201 | 45=>200 | 50=>153 | 5=>5 | 9=>9 | 66=>257 | 70=>261 | 76=>289 | 77=>194 | n=>n,fun | n=>n⟩
theorem laysSlF6_f73:Go.Proofs.SlLaysF.n6 prog laysSlF6_f73_ren:={
 mixed:=by kernel_rfl
 f6:=⟨f97.name,by decide,func97.trans (congrArg some (by kernel_rfl))⟩
 f14:=⟨f119.name,by decide,func119.trans (congrArg some (by kernel_rfl))⟩
 f15:=func120.trans (congrArg some (by kernel_rfl))
 f20:=⟨f152.name,by decide,func152.trans (congrArg some (by kernel_rfl))⟩
 f21:=⟨f153.name,by decide,func153.trans (congrArg some (by kernel_rfl))⟩
 f22:=⟨f154.name,by decide,func154.trans (congrArg some (by kernel_rfl))⟩
 f23:=⟨f155.name,by decide,func155.trans (congrArg some (by kernel_rfl))⟩
 f24:=⟨f156.name,by decide,func156.trans (congrArg some (by kernel_rfl))⟩
 f25:=⟨f157.name,by decide,func157.trans (congrArg some (by kernel_rfl))⟩
 f26:=⟨f158.name,by decide,func158.trans (congrArg some (by kernel_rfl))⟩
 f27:=⟨f159.name,by decide,func159.trans (congrArg some (by kernel_rfl))⟩
 f28:=func160.trans (congrArg some (by kernel_rfl))
 f29:=func161.trans (congrArg some (by kernel_rfl))
 f46:=⟨f212.name,by decide,func212.trans (congrArg some (by kernel_rfl))⟩
 f47:=func213.trans (congrArg some (by kernel_rfl))
 f48:=func214.trans (congrArg some (by kernel_rfl))
 f49:=⟨f215.name,by decide,func215.trans (congrArg some (by kernel_rfl))⟩
 f50:=⟨f216.name,by decide,func216.trans (congrArg some (by kernel_rfl))⟩
 f57:=⟨f243.name,by decide,func243.trans (congrArg some (by kernel_rfl))⟩
 t0:=underlying0
 a0:=isAgg0
 z0:=sizeOf0
 v0:=zeroValue0
 t3:=underlying3
 a3:=isAgg3
 z3:=sizeOf3
 v3:=zeroValue3
 t4:=underlying4
 a4:=isAgg4
 z4:=sizeOf4
 v4:=zeroValue4
 t5:=underlying5
 a5:=isAgg5
 z5:=sizeOf5
 v5:=zeroValue5
 t9:=underlying9
 a9:=isAgg9
 z9:=sizeOf9
 v9:=zeroValue9
 t22:=underlying44
 a22:=isAgg44
 z22:=sizeOf44
 v22:=zeroValue44
 a24:=isAgg22
 z24:=sizeOf22
 t25:=underlying149
 a25:=isAgg149
 z25:=sizeOf149
 v25:=zeroValue149
 t39:=underlying84
 a39:=isAgg84
 z39:=sizeOf84
 v39:=zeroValue84
 t45:=underlying200
 a45:=isAgg200
 z45:=sizeOf200
 v45:=zeroValue200
 t46:=underlying201
 a46:=isAgg201
 z46:=sizeOf201
 v46:=zeroValue201
 t50:=underlying153
 a50:=isAgg153
 z50:=sizeOf153
 v50:=zeroValue153
 t53:=underlying96
 a53:=isAgg96
 z53:=sizeOf96
 v53:=zeroValue96
 t55:=underlying92
 a55:=isAgg92
 z55:=sizeOf92
 v55:=zeroValue92
 t66:=underlying257
 a66:=isAgg257
 z66:=sizeOf257
 v66:=zeroValue257
 t70:=underlying261
 a70:=isAgg261
 z70:=sizeOf261
 v70:=zeroValue261
 t76:=underlying289
 a76:=isAgg289
 z76:=sizeOf289
 v76:=zeroValue289
 t77:=underlying194
 a77:=isAgg194
 z77:=sizeOf194
 v77:=zeroValue194 }
open Go.RowKit Go.Lib Go.Sort in
theorem slices_SortFunc{α:Type}[Inhabited α](enc:α->Value)(l:OneCell enc)(h:α->α->Int)(m:SWO (ltOf h))(g:Nat)(i:Array Value)(blk a b:Nat)(d:Array α)(w:World)(k:∀args w,(callFunc g args).run prog w=.ok (.enter g args) w)(f:CmpLays1 prog g i enc h blk a d.size w)(hH:Holds enc w blk a d)(c:blk<w.heap.size)(j:d.size<4611686018427387904):Calls prog 97 #[.slice (some ⟨blk,a,none⟩) d.size b,.func (.func g) #[] i] w λe o => e=.returned (.tuple #[])/\∃d' n os,PermIn 0 d.size d d'/\SortedIn (ltOf h) 0 d.size d'/\o=sortWorld enc w blk a n d' os:=Any.slices_SortFunc laysSlF6_f73 enc l h m g i blk a b d w k f hH c j
end Go.Proofs
