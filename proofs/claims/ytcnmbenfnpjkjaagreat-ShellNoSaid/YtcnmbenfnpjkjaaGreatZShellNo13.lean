/- What the laws have in common: a map, and the document's; the answer true; short lists. Conditions: none. parquetrylaw08: made. Conditions: the bytes lie in memory. -/
import Derived.Test.YtcnmbenfnpjkjaaGreatZShellNo11
import Derived.Test.YtcnmbenfnpjkjaaGreatZShellNo12
namespace Go.Proofs.YtcnmbenfnpjkjaaGreat
open Go.RowKit
set_option linter.unusedVariables false

theorem anyRoot_ok {n r : Nat} : (2 * n = 0 ∧ anyRoot n r = -1) ∨ (0 ≤ anyRoot n r ∧ anyRoot n r < (2 * n : Nat)) := by
  unfold anyRoot
  split
  · rename_i h
    have := Nat.mod_lt r (show 2 * n > 0 by omega)
    right; omega
  · left; omega

theorem made_ok (n r : Nat) (bs : List Nat) (l : Nat) (hn : n ≤ 1000) (hl : l ≤ 1000) : MapOk (mixL (2 * n) bs) (anyRoot n r) l := by
  have := @anyRoot_ok n r
  unfold MapOk
  rw [mixL_length]
  omega

/-- nothing but true comes back -/
def RetTrue (R : Reg) (w : World) (e : Ending) (w' : World) : Prop := e = .returned (.bool true) ∧ ∃ R', Ev R w R' w'

end Go.Proofs.YtcnmbenfnpjkjaaGreat

namespace Go.Proofs.YtcnmbenfnpjkjaaGreat
open Go.RowKit
set_option linter.unusedVariables false

end Go.Proofs.YtcnmbenfnpjkjaaGreat
