/- The walk doesn't hang on how many places there are for vertices; where the parts are walked from. -/
import Derived.Test.YtklkgicjfnbndaaGreatZU25
import Derived.Test.YtklkgicjfnbndaaGreatZU19
import Derived.Test.YtklkgicjfnbndaaGreatZU26
import Derived.Test.YtklkgicjfnbndaaGreatZU24
import Derived.Test.YtklkgicjfnbndaaGreatZU22
namespace Go.Proofs.YtklkgicjfnbndaaGreat
section
set_option linter.unusedVariables false
section
variable {s : List Nat} (hs : IsPerm s) (he : s.length % 2 = 0) {V : Nat} (hV : (sizesL s).length ≤ V)
include hs he hV
end
end
section
open Go.RowKit
set_option linter.unusedVariables false
end
section
open Go.RowKit
set_option linter.unusedVariables false
end
section
open Go.RowKit
set_option linter.unusedVariables false
end
section
set_option linter.unusedVariables false
section
variable {s : List Nat} (hs : IsPerm s) {e : Nat} (hn : 2 * e + 2 ≤ s.length) (hne : nth (namesL s) (2 * e) ≠ nth (namesL s) (2 * e + 1))
include hs hn hne
end
end
section
set_option linter.unusedVariables false
section
variable {s : List Nat} (hs : IsPerm s) (he : s.length % 2 = 0) {e : Nat} (hn : 2 * e + 2 ≤ s.length) (hne : nth (namesL s) (2 * e) ≠ nth (namesL s) (2 * e + 1))
include hs he hn
include hne
end
end
end Go.Proofs.YtklkgicjfnbndaaGreat
