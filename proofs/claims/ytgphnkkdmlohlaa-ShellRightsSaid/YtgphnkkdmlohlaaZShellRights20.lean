/- parquetryref09.Walk: the document's walk. Conditions: the list is a permutation of an even number that lies in memory. -/
import Derived.Test.YtgphnkkdmlohlaaZShellRights15
import Derived.Test.YtgphnkkdmlohlaaZShellRights14
import Derived.Test.YtgphnkkdmlohlaaZShellRights16
namespace Go.Proofs.Ytgphnkkdmlohlaa
open Go.RowKit
set_option linter.unusedVariables false
end Go.Proofs.Ytgphnkkdmlohlaa
