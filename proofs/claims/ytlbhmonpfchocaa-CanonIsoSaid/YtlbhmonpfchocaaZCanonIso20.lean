/- A map of pairs of numbers to how often they came, of the call's own. Conditions: none. -/
import Derived.Test.YtlbhmonpfchocaaZCanonIso13
import Derived.Test.YtlbhmonpfchocaaZCanonIso19
import Derived.DeepKeys5
import Derived.WideKeyPair
import Derived.WideKeyEntry
namespace Go.Proofs.Ytlbhmonpfchocaa
open Go.RowKit Go.Maps
open Go.ChangeMaps (setBlock heap_setBlock_same heap_setBlock_other)
set_option linter.unusedVariables false

def pairV (x y : Int) : Value := .agg #[.int .i64 x, .int .i64 y]
def pairL (x y : Int) : Lit := .string (keyBytes [.int .i64 x, .int .i64 y])

theorem pair_un : ∃ m, Try.prog.types.size = m + 1 := ⟨Try.prog.types.size - 1, (Nat.sub_add_cancel (Nat.le_of_ble_eq_true (by kernel_rfl))).symm⟩
theorem int_co : Try.prog.cellsOf 3 = 1 := by kernel_rfl

theorem setBlock_twice (w : World) (b : Nat) (o o' : Obj) : setBlock (setBlock w b o) b o' = setBlock w b o' := by
  simp [setBlock]

def pairUp (f : Int → Int → Int) (x y c u v : Int) : Int := if u = x ∧ v = y then c else f u v

end Go.Proofs.Ytlbhmonpfchocaa
