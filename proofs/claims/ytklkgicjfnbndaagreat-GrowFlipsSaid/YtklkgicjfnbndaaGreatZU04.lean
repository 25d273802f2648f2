/- math/bits.Mul at this seat: laid by the kit's lay-shelf and lay-plain, its numbers by name. -/
import Derived.Shelf.Bits.Mul64
import Derived.Test.YtklkgicjfnbndaaGreatProg
namespace Go.Proofs.YtklkgicjfnbndaaGreat
open Go.Shelf
def lays212_ren:Go.Shelf.Ren:=⟨fun|212=>148|263=>156|264=>157|n=>n,fun|46=>166|51=>79|146=>177|53=>179|148=>180|n=>n,fun|n=>n⟩
theorem lays212:Go.Proofs.Lays.n212 Tryz.prog lays212_ren:={
 mixed:=by kernel_rfl
 f212:=Tryz.func148.trans (congrArg some (by kernel_rfl))
 f263:=Tryz.func156.trans (congrArg some (by kernel_rfl))
 f264:=Tryz.func157.trans (congrArg some (by kernel_rfl))
 t46:=Tryz.underlying166
 a46:=Tryz.isAgg166
 z46:=Tryz.sizeOf166
 v46:=Tryz.zeroValue166
 t51:=Tryz.underlying79
 a51:=Tryz.isAgg79
 z51:=Tryz.sizeOf79
 v51:=Tryz.zeroValue79
 t53:=Tryz.underlying179
 a53:=Tryz.isAgg179
 z53:=Tryz.sizeOf179
 v53:=Tryz.zeroValue179
 t146:=Tryz.underlying177
 a146:=Tryz.isAgg177
 z146:=Tryz.sizeOf177
 v146:=Tryz.zeroValue177
 t148:=Tryz.underlying180
 a148:=Tryz.isAgg180
 z148:=Tryz.sizeOf180
 v148:=Tryz.zeroValue180 }
open Go.RowKit Go.Lib in
theorem bits_Mul (x y:Nat) (hx:x<18446744073709551616) (hy:y<18446744073709551616) (w:World):
  Calls Tryz.prog 148 #[.int .u64 x,.int .u64 y] w fun e w'=>e=.returned (.tuple #[.int .u64 ((x*y / 18446744073709551616:Nat):Int),.int .u64 ((x*y % 18446744073709551616:Nat):Int)])∧w'=w:=Any.bits_Mul lays212 x y hx hy w
end Go.Proofs.YtklkgicjfnbndaaGreat
