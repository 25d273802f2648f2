/- parquetryref09.Walk: the document's walk. Conditions: the list is a permutation of an even number that lies in memory. -/
import Derived.Test.YtklkgicjfnbndaaZGrowPlays17
import Derived.Test.YtklkgicjfnbndaaZGrowPlays18
import Derived.Test.YtklkgicjfnbndaaZGrowPlays20
namespace Go.Proofs.Ytklkgicjfnbndaa
open Go.RowKit
set_option linter.unusedVariables false
end Go.Proofs.Ytklkgicjfnbndaa
