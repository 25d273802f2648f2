/- math/bits.Mul at this seat: laid by the kit's lay-shelf and lay-plain, its numbers by name. -/
import Derived.Shelf.Bits.Mul64
import Derived.Test.YtcnmbenfnpjkjaaGreatProg
namespace Go.Proofs.YtcnmbenfnpjkjaaGreat
open Go.Shelf
def lays212_ren : Go.Shelf.Ren := ⟨fun | 212 => 95 | 263 => 110 | 264 => 111 | n => n, fun | 46 => 112 | 51 => 86 | 146 => 129 | 53 => 131 | 148 => 132 | n => n, fun | n => n⟩
theorem lays212 : Go.Proofs.Lays.n212 Tryz.prog lays212_ren := {
  mixed := by kernel_rfl
  f212 := Tryz.func95.trans (congrArg some (by kernel_rfl))
  f263 := Tryz.func110.trans (congrArg some (by kernel_rfl))
  f264 := Tryz.func111.trans (congrArg some (by kernel_rfl))
  t46 := Tryz.underlying112
  a46 := Tryz.isAgg112
  z46 := Tryz.sizeOf112
  v46 := Tryz.zeroValue112
  t51 := Tryz.underlying86
  a51 := Tryz.isAgg86
  z51 := Tryz.sizeOf86
  v51 := Tryz.zeroValue86
  t53 := Tryz.underlying131
  a53 := Tryz.isAgg131
  z53 := Tryz.sizeOf131
  v53 := Tryz.zeroValue131
  t146 := Tryz.underlying129
  a146 := Tryz.isAgg129
  z146 := Tryz.sizeOf129
  v146 := Tryz.zeroValue129
  t148 := Tryz.underlying132
  a148 := Tryz.isAgg132
  z148 := Tryz.sizeOf132
  v148 := Tryz.zeroValue132 }
open Go.RowKit Go.Lib in
/-- math/bits.Mul: "Mul returns the full-width product of x and y": on a machine of 64 bits: Mul64's. (LAID: no walk: one application.) -/
theorem bits_Mul (x y : Nat) (hx : x < 18446744073709551616) (hy : y < 18446744073709551616) (w : World) :
    Calls Tryz.prog 95 #[.int .u64 x, .int .u64 y] w fun e w' => e = .returned (.tuple #[.int .u64 ((x * y / 18446744073709551616 : Nat) : Int), .int .u64 ((x * y % 18446744073709551616 : Nat) : Int)]) ∧ w' = w := Any.bits_Mul lays212 x y hx hy w
end Go.Proofs.YtcnmbenfnpjkjaaGreat
