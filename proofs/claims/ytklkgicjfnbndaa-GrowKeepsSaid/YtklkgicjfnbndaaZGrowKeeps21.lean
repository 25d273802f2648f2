/- A map of pairs of numbers to how often they came, of the call's own. Conditions: none. -/
import Derived.Test.YtklkgicjfnbndaaZGrowKeeps14
import Derived.Test.YtklkgicjfnbndaaZGrowKeeps20
import Derived.DeepKeys5
import Derived.WideKeyPair
import Derived.WideKeyEntry
namespace Go.Proofs.Ytklkgicjfnbndaa
open Go.RowKit Go.Maps
open Go.ChangeMaps (setBlock heap_setBlock_same heap_setBlock_other)
set_option linter.unusedVariables false
end Go.Proofs.Ytklkgicjfnbndaa
