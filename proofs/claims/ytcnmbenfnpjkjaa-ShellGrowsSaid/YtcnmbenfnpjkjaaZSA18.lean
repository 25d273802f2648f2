/- A map of numbers to how often they came, of the call's own, in a registry. Conditions: none. A map of numbers to numbers of the call's own, in a registry: what it has is told by a function. Conditions: none. -/
import Derived.Test.YtcnmbenfnpjkjaaZSA13
import Derived.Test.YtcnmbenfnpjkjaaZSA07
import Derived.Maps.OwnOps
import Derived.Maps.OwnSet
import Derived.Maps.Views
namespace Go.Proofs.Ytcnmbenfnpjkjaa
open Go.RowKit Go.Maps
set_option linter.unusedVariables false

end Go.Proofs.Ytcnmbenfnpjkjaa

namespace Go.Proofs.Ytcnmbenfnpjkjaa
open Go.RowKit Go.Maps
set_option linter.unusedVariables false

end Go.Proofs.Ytcnmbenfnpjkjaa
