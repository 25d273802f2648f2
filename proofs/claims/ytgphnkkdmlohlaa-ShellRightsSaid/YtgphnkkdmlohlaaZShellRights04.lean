/- math/bits.Mul at this seat: laid by the kit's lay-shelf and lay-plain, its numbers by name. -/
import Derived.Shelf.Bits.Mul64
import Derived.Test.YtgphnkkdmlohlaaProg
namespace Go.Proofs.Ytgphnkkdmlohlaa
open Go.Shelf
def lays212_ren:Go.Shelf.Ren:=⟨fun|212=>48|263=>63|264=>64|n=>n,fun|46=>83|51=>65|146=>93|53=>95|148=>96|n=>n,fun|n=>n⟩
theorem lays212:Go.Proofs.Lays.n212 Try.prog lays212_ren:={
 mixed:=by kernel_rfl
 f212:=Try.func48.trans (congrArg some (by kernel_rfl))
 f263:=Try.func63.trans (congrArg some (by kernel_rfl))
 f264:=Try.func64.trans (congrArg some (by kernel_rfl))
 t46:=Try.underlying83
 a46:=Try.isAgg83
 z46:=Try.sizeOf83
 v46:=Try.zeroValue83
 t51:=Try.underlying65
 a51:=Try.isAgg65
 z51:=Try.sizeOf65
 v51:=Try.zeroValue65
 t53:=Try.underlying95
 a53:=Try.isAgg95
 z53:=Try.sizeOf95
 v53:=Try.zeroValue95
 t146:=Try.underlying93
 a146:=Try.isAgg93
 z146:=Try.sizeOf93
 v146:=Try.zeroValue93
 t148:=Try.underlying96
 a148:=Try.isAgg96
 z148:=Try.sizeOf96
 v148:=Try.zeroValue96 }
open Go.RowKit Go.Lib in
theorem bits_Mul (x y:Nat) (hx:x<18446744073709551616) (hy:y<18446744073709551616) (w:World):
  Calls Try.prog 48 #[.int .u64 x,.int .u64 y] w fun e w'=>e=.returned (.tuple #[.int .u64 ((x*y / 18446744073709551616:Nat):Int),.int .u64 ((x*y % 18446744073709551616:Nat):Int)])∧w'=w:=Any.bits_Mul lays212 x y hx hy w
end Go.Proofs.Ytgphnkkdmlohlaa
