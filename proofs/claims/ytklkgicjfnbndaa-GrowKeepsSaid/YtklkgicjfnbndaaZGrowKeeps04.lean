/- math/bits.Mul at this seat: laid by the kit's lay-shelf and lay-plain, its numbers by name. -/
import Derived.Shelf.Bits.Mul64
import Derived.Test.YtklkgicjfnbndaaProg
namespace Go.Proofs.Ytklkgicjfnbndaa
open Go.Shelf
def lays212_ren:Go.Shelf.Ren:=⟨fun|212=>91|263=>100|264=>101|n=>n,fun|46=>122|51=>69|146=>132|53=>134|148=>135|n=>n,fun|n=>n⟩
theorem lays212:Go.Proofs.Lays.n212 Try.prog lays212_ren:={
 mixed:=by kernel_rfl
 f212:=Try.func91.trans (congrArg some (by kernel_rfl))
 f263:=Try.func100.trans (congrArg some (by kernel_rfl))
 f264:=Try.func101.trans (congrArg some (by kernel_rfl))
 t46:=Try.underlying122
 a46:=Try.isAgg122
 z46:=Try.sizeOf122
 v46:=Try.zeroValue122
 t51:=Try.underlying69
 a51:=Try.isAgg69
 z51:=Try.sizeOf69
 v51:=Try.zeroValue69
 t53:=Try.underlying134
 a53:=Try.isAgg134
 z53:=Try.sizeOf134
 v53:=Try.zeroValue134
 t146:=Try.underlying132
 a146:=Try.isAgg132
 z146:=Try.sizeOf132
 v146:=Try.zeroValue132
 t148:=Try.underlying135
 a148:=Try.isAgg135
 z148:=Try.sizeOf135
 v148:=Try.zeroValue135 }
open Go.RowKit Go.Lib in
theorem bits_Mul (x y:Nat) (hx:x<18446744073709551616) (hy:y<18446744073709551616) (w:World):
  Calls Try.prog 91 #[.int .u64 x,.int .u64 y] w fun e w'=>e=.returned (.tuple #[.int .u64 ((x*y / 18446744073709551616:Nat):Int),.int .u64 ((x*y % 18446744073709551616:Nat):Int)])∧w'=w:=Any.bits_Mul lays212 x y hx hy w
end Go.Proofs.Ytklkgicjfnbndaa
