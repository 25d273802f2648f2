/- A map of numbers to how often they came, of the call's own, in a registry. -/
import Derived.Test.YtgphnkkdmlohlaaZShellRights13
import Derived.Test.YtgphnkkdmlohlaaZShellRights07
import Derived.Maps.OwnOps
import Derived.Maps.OwnSet
import Derived.Maps.Views
namespace Go.Proofs.Ytgphnkkdmlohlaa
section
open Go.RowKit Go.Maps
set_option linter.unusedVariables false
end
section
open Go.RowKit Go.Maps
set_option linter.unusedVariables false
end
end Go.Proofs.Ytgphnkkdmlohlaa
