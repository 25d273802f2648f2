/- math/bits.Mul at this seat: laid by the kit's lay-shelf and lay-plain, its numbers by name. -/
import Derived.Shelf.Bits.Mul64
import Derived.Test.YtcnmbenfnpjkjaaProg
namespace Go.Proofs.Ytcnmbenfnpjkjaa
open Go.Shelf
def lays212_ren : Go.Shelf.Ren := ⟨fun | 212 => 57 | 263 => 71 | 264 => 72 | n => n, fun | 46 => 92 | 51 => 61 | 146 => 98 | 53 => 100 | 148 => 101 | n => n, fun | n => n⟩
theorem lays212 : Go.Proofs.Lays.n212 Try.prog lays212_ren := {
  mixed := by kernel_rfl
  f212 := Try.func57.trans (congrArg some (by kernel_rfl))
  f263 := Try.func71.trans (congrArg some (by kernel_rfl))
  f264 := Try.func72.trans (congrArg some (by kernel_rfl))
  t46 := Try.underlying92
  a46 := Try.isAgg92
  z46 := Try.sizeOf92
  v46 := Try.zeroValue92
  t51 := Try.underlying61
  a51 := Try.isAgg61
  z51 := Try.sizeOf61
  v51 := Try.zeroValue61
  t53 := Try.underlying100
  a53 := Try.isAgg100
  z53 := Try.sizeOf100
  v53 := Try.zeroValue100
  t146 := Try.underlying98
  a146 := Try.isAgg98
  z146 := Try.sizeOf98
  v146 := Try.zeroValue98
  t148 := Try.underlying101
  a148 := Try.isAgg101
  z148 := Try.sizeOf101
  v148 := Try.zeroValue101 }
open Go.RowKit Go.Lib in
/-- math/bits.Mul: "Mul returns the full-width product of x and y": on a machine of 64 bits: Mul64's. (LAID: no walk: one application.) -/
theorem bits_Mul (x y : Nat) (hx : x < 18446744073709551616) (hy : y < 18446744073709551616) (w : World) :
    Calls Try.prog 57 #[.int .u64 x, .int .u64 y] w fun e w' => e = .returned (.tuple #[.int .u64 ((x * y / 18446744073709551616 : Nat) : Int), .int .u64 ((x * y % 18446744073709551616 : Nat) : Int)]) ∧ w' = w := Any.bits_Mul lays212 x y hx hy w
end Go.Proofs.Ytcnmbenfnpjkjaa
