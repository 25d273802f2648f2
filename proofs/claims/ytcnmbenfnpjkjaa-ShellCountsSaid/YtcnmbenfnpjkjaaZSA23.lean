/- parquetryref09.Walk: the document's walk. Conditions: the list is a permutation of an even number that lies in memory. -/
import Derived.Test.YtcnmbenfnpjkjaaZSA17
import Derived.Test.YtcnmbenfnpjkjaaZSA16
import Derived.Test.YtcnmbenfnpjkjaaZSA18
namespace Go.Proofs.Ytcnmbenfnpjkjaa
open Go.RowKit
set_option linter.unusedVariables false

end Go.Proofs.Ytcnmbenfnpjkjaa
