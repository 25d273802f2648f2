/- euler.Parts: a map's parts. -/
import Derived.Test.YtklkgicjfnbndaaZGrowPlays16
import Derived.Deep.DeepCutAuto
import Derived.BigRegion
import Derived.Test.YtklkgicjfnbndaaZGrowPlays15
import Derived.Deep.QuietTactic
import Derived.BigQuiet
namespace Go.Proofs.Ytklkgicjfnbndaa
section
open Go.RowKit
set_option linter.unusedVariables false
end
section
open Go.RowKit
set_option linter.unusedVariables false
end
section
open Go.RowKit
set_option linter.unusedVariables false
end
end Go.Proofs.Ytklkgicjfnbndaa
