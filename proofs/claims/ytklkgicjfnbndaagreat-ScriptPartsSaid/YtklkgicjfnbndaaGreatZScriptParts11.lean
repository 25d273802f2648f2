/- the references of layer 6: Mate, Phi, Vertices, Borders. Conditions: the list is a permutation of an even number that lies in memory. -/
import Derived.Test.YtklkgicjfnbndaaGreatZScriptParts09
import Derived.Test.YtklkgicjfnbndaaGreatZScriptParts10
import Derived.Deep.RegionLaw
namespace Go.Proofs.YtklkgicjfnbndaaGreat
open Go.RowKit
set_option linter.unusedVariables false

end Go.Proofs.YtklkgicjfnbndaaGreat
