/- A slice of bools that came in, as a law's walk takes it. Conditions: none. -/
import Derived.Test.YtgphnkkdmlohlaaGreatDoorZWoodNo12
import Derived.Deep.Grids
namespace Go.Proofs.YtgphnkkdmlohlaaGreatDoor
open Go.RowKit
set_option linter.unusedVariables false
def FreeT (R:Reg) (w:World) (v:Value) (n:Nat) (B:Nat→Bool):Prop:=
 ∃ a cap,v=.slice a n cap∧n≤maxLen∧∀ i,i<n→∃ b off,a=some ⟨b,off,none⟩∧R b=none∧w.cell? ⟨b,off+i,none⟩=some (.bool (B i))
theorem FreeT.ev {R R1:Reg} {w w1:World} {v:Value} {n:Nat} {B:Nat→Bool} (h:FreeT R w v n B) (he:Ev R w R1 w1):FreeT R1 w1 v n B:=by
 obtain⟨a,cap,h1,h2,h3⟩:=h
 refine⟨a,cap,h1,h2,fun i hi=>?_⟩
 obtain⟨b,off,e,hb,hc⟩:=h3 i hi
 have hlt:=lt_of_cell hc
 exact⟨b,off,e,he.free b hlt hb,(he.cell hlt hb).trans hc⟩
end Go.Proofs.YtgphnkkdmlohlaaGreatDoor
