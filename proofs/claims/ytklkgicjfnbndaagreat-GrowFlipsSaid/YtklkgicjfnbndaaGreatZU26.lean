/- parquetryref09.Walk: the document's walk. Conditions: the list is a permutation of an even number that lies in memory. -/
import Derived.Test.YtklkgicjfnbndaaGreatZU17
import Derived.Test.YtklkgicjfnbndaaGreatZU18
import Derived.Test.YtklkgicjfnbndaaGreatZU20
namespace Go.Proofs.YtklkgicjfnbndaaGreat
open Go.RowKit
set_option linter.unusedVariables false
end Go.Proofs.YtklkgicjfnbndaaGreat
