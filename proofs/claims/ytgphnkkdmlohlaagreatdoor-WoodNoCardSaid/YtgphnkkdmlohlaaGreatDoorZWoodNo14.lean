/- What the laws have in common: a map, and the document's; the answer true; short lists. -/
import Derived.Test.YtgphnkkdmlohlaaGreatDoorZWoodNo12
import Derived.Test.YtgphnkkdmlohlaaGreatDoorZWoodNo13
namespace Go.Proofs.YtgphnkkdmlohlaaGreatDoor
section
open Go.RowKit
set_option linter.unusedVariables false
def RetTrue (R:Reg) (w:World) (e:Ending) (w':World):Prop:=e=.returned (.bool true)∧∃ R',Ev R w R' w'
end
section
open Go.RowKit
set_option linter.unusedVariables false
end
end Go.Proofs.YtgphnkkdmlohlaaGreatDoor
