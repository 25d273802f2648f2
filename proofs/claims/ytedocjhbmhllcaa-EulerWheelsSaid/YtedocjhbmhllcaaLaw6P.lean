/- parquetrylaw06: what the laws' walks share. Conditions: none. -/
import Derived.Test.YtedocjhbmhllcaaLaw6A
import Derived.Test.YtedocjhbmhllcaaArgs
import Derived.Test.YtedocjhbmhllcaaMathD
import Derived.Deep.DeepCutAuto
import Derived.Deep.RegionHeld3
namespace Go.Proofs.Ytedocjhbmhllcaa
open Go.RowKit
set_option linter.unusedVariables false

/-- the cells of the document's map in a variable -/
theorem Ev.ref3 {R R' : Reg} {w w' : World} {v : Value} {r l : Int} (h : Ev R (w.alloc (.cells #[v, .int .i64 r, .int .i64 l] 27)) R' w') (hn : R w.heap.size = none) :
    w'.cell? ⟨w.heap.size, 0, none⟩ = some v ∧ w'.cell? ⟨w.heap.size, 1, none⟩ = some (.int .i64 r) ∧ w'.cell? ⟨w.heap.size, 2, none⟩ = some (.int .i64 l) := by
  refine ⟨?_, ?_, ?_⟩
  all_goals rw [h.cell (by simp) hn]; simp

end Go.Proofs.Ytedocjhbmhllcaa
