/- math/bits.Mul at this seat: laid by the kit's lay-shelf and lay-plain, its numbers by name. -/
import Derived.Shelf.Bits.Mul64
import Derived.Test.YtgphnkkdmlohlaaGreatDoorProg
namespace Go.Proofs.YtgphnkkdmlohlaaGreatDoor
open Go.Shelf
def lays212_ren:Go.Shelf.Ren:=⟨fun|212=>90|263=>109|264=>110|n=>n,fun|46=>112|51=>77|146=>125|53=>127|148=>128|n=>n,fun|n=>n⟩
theorem lays212:Go.Proofs.Lays.n212 Tryz.prog lays212_ren:={
 mixed:=by kernel_rfl
 f212:=Tryz.func90.trans (congrArg some (by kernel_rfl))
 f263:=Tryz.func109.trans (congrArg some (by kernel_rfl))
 f264:=Tryz.func110.trans (congrArg some (by kernel_rfl))
 t46:=Tryz.underlying112
 a46:=Tryz.isAgg112
 z46:=Tryz.sizeOf112
 v46:=Tryz.zeroValue112
 t51:=Tryz.underlying77
 a51:=Tryz.isAgg77
 z51:=Tryz.sizeOf77
 v51:=Tryz.zeroValue77
 t53:=Tryz.underlying127
 a53:=Tryz.isAgg127
 z53:=Tryz.sizeOf127
 v53:=Tryz.zeroValue127
 t146:=Tryz.underlying125
 a146:=Tryz.isAgg125
 z146:=Tryz.sizeOf125
 v146:=Tryz.zeroValue125
 t148:=Tryz.underlying128
 a148:=Tryz.isAgg128
 z148:=Tryz.sizeOf128
 v148:=Tryz.zeroValue128 }
open Go.RowKit Go.Lib in
theorem bits_Mul (x y:Nat) (hx:x<18446744073709551616) (hy:y<18446744073709551616) (w:World):
  Calls Tryz.prog 90 #[.int .u64 x,.int .u64 y] w fun e w'=>e=.returned (.tuple #[.int .u64 ((x*y / 18446744073709551616:Nat):Int),.int .u64 ((x*y % 18446744073709551616:Nat):Int)])∧w'=w:=Any.bits_Mul lays212 x y hx hy w
end Go.Proofs.YtgphnkkdmlohlaaGreatDoor
