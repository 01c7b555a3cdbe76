/- Lemmas. -/
import Derived.Shelf.Strconv.Itoa0
import Derived.Test.YtnepiccbpokmiaaGreatDoorProg
set_option linter.all false
namespace Go.Proofs
open Tryz List Nat Go.Shelf
def lays129_ren:Go.Shelf.Ren:=⟨fun | 129=>276 | n=>n,fun | 53=>72 | 3=>3 | 4=>4 | 46=>89 | 5=>5 | 9=>9 | n=>n,fun | n=>n⟩
theorem lays129:Go.Proofs.Lays.n129 prog lays129_ren:={
 mixed:=by kernel_rfl
 f129:=func276.trans (congrArg some (by kernel_rfl))
 t3:=underlying3
 a3:=isAgg3
 z3:=sizeOf3
 v3:=zeroValue3
 t4:=underlying4
 a4:=isAgg4
 z4:=sizeOf4
 v4:=zeroValue4
 t5:=underlying5
 a5:=isAgg5
 z5:=sizeOf5
 v5:=zeroValue5
 t9:=underlying9
 a9:=isAgg9
 z9:=sizeOf9
 v9:=zeroValue9
 t46:=underlying89
 a46:=isAgg89
 z46:=sizeOf89
 v46:=zeroValue89
 t53:=underlying72
 a53:=isAgg72
 z53:=sizeOf72
 v53:=zeroValue72 }
theorem bits_Len64(x:Int)(w:World)(a:0<=x)(b:x<=18446744073709551615):Calls prog 276 #[.int .u64 x] w λe c=>e=.returned (.int .i64 (Lib.bitLen x.toNat))/\c=w:=Any.bits_Len64 lays129 x w a b
end Go.Proofs
