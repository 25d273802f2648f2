/- math/bits.Mul at this seat: laid by the kit's lay-shelf and lay-plain, its numbers by name. -/
import Derived.Shelf.Bits.Mul64
import Derived.Test.YtgphnkkdmlohlaaGreatProg
namespace Go.Proofs.YtgphnkkdmlohlaaGreat
open Go.Shelf
def lays212_ren:Go.Shelf.Ren:=⟨fun|212=>137|263=>162|264=>163|n=>n,fun|46=>171|51=>97|146=>205|53=>127|148=>207|n=>n,fun|n=>n⟩
theorem lays212:Go.Proofs.Lays.n212 Tryz.prog lays212_ren:={
 mixed:=by kernel_rfl
 f212:=Tryz.func137.trans (congrArg some (by kernel_rfl))
 f263:=Tryz.func162.trans (congrArg some (by kernel_rfl))
 f264:=Tryz.func163.trans (congrArg some (by kernel_rfl))
 t46:=Tryz.underlying171
 a46:=Tryz.isAgg171
 z46:=Tryz.sizeOf171
 v46:=Tryz.zeroValue171
 t51:=Tryz.underlying97
 a51:=Tryz.isAgg97
 z51:=Tryz.sizeOf97
 v51:=Tryz.zeroValue97
 t53:=Tryz.underlying127
 a53:=Tryz.isAgg127
 z53:=Tryz.sizeOf127
 v53:=Tryz.zeroValue127
 t146:=Tryz.underlying205
 a146:=Tryz.isAgg205
 z146:=Tryz.sizeOf205
 v146:=Tryz.zeroValue205
 t148:=Tryz.underlying207
 a148:=Tryz.isAgg207
 z148:=Tryz.sizeOf207
 v148:=Tryz.zeroValue207 }
open Go.RowKit Go.Lib in
theorem bits_Mul (x y:Nat) (hx:x<18446744073709551616) (hy:y<18446744073709551616) (w:World):
  Calls Tryz.prog 137 #[.int .u64 x,.int .u64 y] w fun e w'=>e=.returned (.tuple #[.int .u64 ((x*y / 18446744073709551616:Nat):Int),.int .u64 ((x*y % 18446744073709551616:Nat):Int)])∧w'=w:=Any.bits_Mul lays212 x y hx hy w
end Go.Proofs.YtgphnkkdmlohlaaGreat
