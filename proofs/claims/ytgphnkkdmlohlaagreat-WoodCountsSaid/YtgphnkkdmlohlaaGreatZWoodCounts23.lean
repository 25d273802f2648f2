/- parquetryref09.Walk: the document's walk. Conditions: the list is a permutation of an even number that lies in memory. -/
import Derived.Test.YtgphnkkdmlohlaaGreatZWoodCounts17
import Derived.Test.YtgphnkkdmlohlaaGreatZWoodCounts16
import Derived.Test.YtgphnkkdmlohlaaGreatZWoodCounts18
namespace Go.Proofs.YtgphnkkdmlohlaaGreat
open Go.RowKit
set_option linter.unusedVariables false
end Go.Proofs.YtgphnkkdmlohlaaGreat
