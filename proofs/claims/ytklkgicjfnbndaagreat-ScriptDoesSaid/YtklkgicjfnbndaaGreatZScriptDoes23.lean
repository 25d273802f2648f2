/- A map of pairs of numbers to how often they came, of the call's own. Conditions: none. -/
import Derived.Test.YtklkgicjfnbndaaGreatZScriptDoes15
import Derived.Test.YtklkgicjfnbndaaGreatZScriptDoes22
import Derived.DeepKeys5
import Derived.WideKeyPair
import Derived.WideKeyEntry
namespace Go.Proofs.YtklkgicjfnbndaaGreat
open Go.RowKit Go.Maps
open Go.ChangeMaps (setBlock heap_setBlock_same heap_setBlock_other)
set_option linter.unusedVariables false
end Go.Proofs.YtklkgicjfnbndaaGreat
