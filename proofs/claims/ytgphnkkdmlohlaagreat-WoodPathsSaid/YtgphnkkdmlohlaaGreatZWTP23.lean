/- parquetryref09.Walk: the document's walk. Conditions: the list is a permutation of an even number that lies in memory. -/
import Derived.Test.YtgphnkkdmlohlaaGreatZWTP17
import Derived.Test.YtgphnkkdmlohlaaGreatZWTP16
import Derived.Test.YtgphnkkdmlohlaaGreatZWTP18
namespace Go.Proofs.YtgphnkkdmlohlaaGreat
open Go.RowKit
set_option linter.unusedVariables false
end Go.Proofs.YtgphnkkdmlohlaaGreat
