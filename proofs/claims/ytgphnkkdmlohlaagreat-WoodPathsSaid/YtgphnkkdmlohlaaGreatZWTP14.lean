/- What the laws have in common: a map, and the document's; the answer true; short lists. -/
import Derived.Test.YtgphnkkdmlohlaaGreatZWTP12
import Derived.Test.YtgphnkkdmlohlaaGreatZWTP13
namespace Go.Proofs.YtgphnkkdmlohlaaGreat
section
open Go.RowKit
set_option linter.unusedVariables false
def RetTrue (R:Reg) (w:World) (e:Ending) (w':World):Prop:=e=.returned (.bool true)∧∃ R',Ev R w R' w'
theorem Ev.ref3 {R R':Reg} {w w':World} {v:Value} {r l:Int} (h:Ev R (w.alloc (.cells #[v,.int .i64 r,.int .i64 l] 26)) R' w') (hn:R w.heap.size=none):
  w'.cell? ⟨w.heap.size,0,none⟩=some v∧w'.cell? ⟨w.heap.size,1,none⟩=some (.int .i64 r)∧w'.cell? ⟨w.heap.size,2,none⟩=some (.int .i64 l):=by
 refine⟨?_,?_,?_⟩
 all_goals rw[h.cell (by simp) hn];simp
end
section
open Go.RowKit
set_option linter.unusedVariables false
end
end Go.Proofs.YtgphnkkdmlohlaaGreat
