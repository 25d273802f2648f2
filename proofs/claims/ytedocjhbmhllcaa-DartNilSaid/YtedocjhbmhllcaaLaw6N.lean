/- parquetrylaw06.DartNil, the walk: it answers true. Conditions: none. -/
import Derived.Test.YtedocjhbmhllcaaLaw6A
namespace Go.Proofs.Ytedocjhbmhllcaa
open Go.RowKit
set_option linter.unusedVariables false

set_option maxRecDepth 100000 in
set_option maxHeartbeats 4000000 in
theorem dartNil_walk (w : World) (d : Int) : Calls Try.prog 8 #[.int .i64 d] w (RetTrue noReg w) := by
  have HA := Lib.hid (awake6_any noReg w (Inv.noReg w))
  have hnot := not_run
  by_cases h0 : d < 0
  all_goals
    go_enter Try.func8, Try.ntmps8
    go_wp2_with fail
    refine HA.out.mono ?_
    rintro e w1 ⟨rfl, R1, he1⟩
    have HE1 := Lib.hid he1
    clear he1
    go_wp2
    go_ret
    exact ⟨rfl, R1, HE1.out⟩

end Go.Proofs.Ytedocjhbmhllcaa
