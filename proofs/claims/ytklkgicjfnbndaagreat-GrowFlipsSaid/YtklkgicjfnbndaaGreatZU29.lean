/- canon.Canon. -/
import Derived.Test.YtklkgicjfnbndaaGreatZU27
import Derived.Test.YtklkgicjfnbndaaGreatZU28
import Derived.StillTailTactics
import Derived.OwnWalk
import Derived.Test.YtklkgicjfnbndaaGreatZU13
import Derived.Test.YtklkgicjfnbndaaGreatZU22
import Derived.Test.YtklkgicjfnbndaaGreatZU26
namespace Go.Proofs.YtklkgicjfnbndaaGreat
section
open Go.RowKit
set_option linter.unusedVariables false
end
section
open Go.RowKit
set_option linter.unusedVariables false
end
section
open Go.RowKit Go.Maps
set_option linter.unusedVariables false
theorem Ev.boxC3 {R R':Reg} {w0 w':World} {b:Nat} {x y z:Value} {T:TypeId} (hb:w0.heap[b]?=some (.cells #[x,y,z] T (0,0))) (hn:R b=none) (h:Ev R w0 R' w'):
  w'.heap[b]?=some (.cells #[x,y,z] T (0,0))∧R' b=none:=⟨(h.block b (lt_of_block hb) hn).trans hb,h.free b (lt_of_block hb) hn⟩
theorem boxC_cells {w:World} {b:Nat} {x y z:Value} {T:TypeId} (hb:w.heap[b]?=some (.cells #[x,y,z] T (0,0))):w.cell? ⟨b,0,none⟩=some x∧w.cell? ⟨b,1,none⟩=some y∧w.cell? ⟨b,2,none⟩=some z∧∀ o,w.frozen? ⟨b,o,none⟩=false:=
 ⟨cells_at hb 0,cells_at hb 1,cells_at hb 2,fun o=>by simp[World.frozen?,hb]⟩
end
end Go.Proofs.YtklkgicjfnbndaaGreat
