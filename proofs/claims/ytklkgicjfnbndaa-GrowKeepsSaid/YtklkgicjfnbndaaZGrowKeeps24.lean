/- parquetryref09.Walk: the document's walk. Conditions: the list is a permutation of an even number that lies in memory. -/
import Derived.Test.YtklkgicjfnbndaaZGrowKeeps17
import Derived.Test.YtklkgicjfnbndaaZGrowKeeps18
import Derived.Test.YtklkgicjfnbndaaZGrowKeeps20
namespace Go.Proofs.Ytklkgicjfnbndaa
open Go.RowKit
set_option linter.unusedVariables false
end Go.Proofs.Ytklkgicjfnbndaa
