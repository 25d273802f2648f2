/- Shrunk, a map has as many parts, and the same genus. Conditions: none. A vertex's darts in order, without an edge's: each one's next is the map's that is left. Conditions: none. The document's lists, laid into a row, are the map that is left. Conditions: none. parquetryref10: name, from. Conditions: the map's list lies in memory, the dart is there. -/
import Derived.Test.YtklkgicjfnbndaaGreatZScriptParts25
import Derived.Test.YtklkgicjfnbndaaGreatZScriptParts26
namespace Go.Proofs.YtklkgicjfnbndaaGreat
set_option linter.unusedVariables false

section
variable {s : List Nat} (hs : IsPerm s) (he : s.length % 2 = 0) {e : Nat} (hn : 2 * e + 2 ≤ s.length) (hne : nth (namesL s) (2 * e) ≠ nth (namesL s) (2 * e + 1))
include hs he hn

include hne
end
end Go.Proofs.YtklkgicjfnbndaaGreat

namespace Go.Proofs.YtklkgicjfnbndaaGreat
set_option linter.unusedVariables false

end Go.Proofs.YtklkgicjfnbndaaGreat

namespace Go.Proofs.YtklkgicjfnbndaaGreat
set_option linter.unusedVariables false

end Go.Proofs.YtklkgicjfnbndaaGreat

namespace Go.Proofs.YtklkgicjfnbndaaGreat
open Go.RowKit
set_option linter.unusedVariables false

end Go.Proofs.YtklkgicjfnbndaaGreat
