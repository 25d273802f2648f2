/- A map of numbers to how often they came, of the call's own, in a registry. -/
import Derived.Test.YtgphnkkdmlohlaaGreatDoorZWoodNo14
import Derived.Test.YtgphnkkdmlohlaaGreatDoorZWoodNo05
import Derived.Maps.OwnOps
import Derived.Maps.OwnSet
import Derived.Maps.Views
namespace Go.Proofs.YtgphnkkdmlohlaaGreatDoor
section
open Go.RowKit Go.Maps
set_option linter.unusedVariables false
end
section
open Go.RowKit Go.Maps
set_option linter.unusedVariables false
end
end Go.Proofs.YtgphnkkdmlohlaaGreatDoor
