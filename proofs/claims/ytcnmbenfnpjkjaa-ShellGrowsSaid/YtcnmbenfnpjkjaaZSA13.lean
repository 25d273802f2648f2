/- What the laws have in common: a map, and the document's; the answer true; short lists. Conditions: none. parquetrylaw08: made. Conditions: the bytes lie in memory. -/
import Derived.Test.YtcnmbenfnpjkjaaZSA11
import Derived.Test.YtcnmbenfnpjkjaaZSA12
namespace Go.Proofs.Ytcnmbenfnpjkjaa
open Go.RowKit
set_option linter.unusedVariables false

/-- nothing but true comes back -/
def RetTrue (R : Reg) (w : World) (e : Ending) (w' : World) : Prop := e = .returned (.bool true) ∧ ∃ R', Ev R w R' w'

end Go.Proofs.Ytcnmbenfnpjkjaa

namespace Go.Proofs.Ytcnmbenfnpjkjaa
open Go.RowKit
set_option linter.unusedVariables false

end Go.Proofs.Ytcnmbenfnpjkjaa
