/- parquetryref09.Walk: the document's walk. Conditions: the list is a permutation of an even number that lies in memory. -/
import Derived.Test.YtcnmbenfnpjkjaaGreatZShellNo16
import Derived.Test.YtcnmbenfnpjkjaaGreatZShellNo14
import Derived.Test.YtcnmbenfnpjkjaaGreatZShellNo17
namespace Go.Proofs.YtcnmbenfnpjkjaaGreat
open Go.RowKit
set_option linter.unusedVariables false

end Go.Proofs.YtcnmbenfnpjkjaaGreat
