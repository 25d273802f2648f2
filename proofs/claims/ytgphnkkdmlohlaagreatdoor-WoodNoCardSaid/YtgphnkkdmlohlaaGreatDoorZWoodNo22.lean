/- parquetryref09.Walk: the document's walk. Conditions: the list is a permutation of an even number that lies in memory. -/
import Derived.Test.YtgphnkkdmlohlaaGreatDoorZWoodNo17
import Derived.Test.YtgphnkkdmlohlaaGreatDoorZWoodNo16
import Derived.Test.YtgphnkkdmlohlaaGreatDoorZWoodNo18
namespace Go.Proofs.YtgphnkkdmlohlaaGreatDoor
open Go.RowKit
set_option linter.unusedVariables false
end Go.Proofs.YtgphnkkdmlohlaaGreatDoor
