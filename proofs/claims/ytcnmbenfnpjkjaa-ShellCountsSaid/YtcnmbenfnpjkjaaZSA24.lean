/- Canonical names: the darts that are met first, edge by edge, have the even names. Conditions: none. The walk, and so the canonical names, by other names. Conditions: none. The canonical map's canonical names are its own. Conditions: none. The walk doesn't hang on how many places there are for vertices; where the parts are walked from. Conditions: none. canon.roots. Conditions: the map is registered. perm.One. Conditions: not below nought, not too great. dual.Relabel. Conditions: the map and the names are registered. parquetrylaw10: made, awake. Conditions: the bytes lie in memory. parquetryref10.Dual, Mirror; parquetrylaw10.like, where it is so. Conditions: the map's list lies in memory. Shrunk, an edge of two vertices leaves one vertex less, and as many faces; those that are left bare counted. Conditions: none. -/
import Derived.Test.YtcnmbenfnpjkjaaZSA22
import Derived.Test.YtcnmbenfnpjkjaaZSA16
import Derived.Test.YtcnmbenfnpjkjaaZSA17
import Derived.Test.YtcnmbenfnpjkjaaZSA23
import Derived.Test.YtcnmbenfnpjkjaaZSA21
import Derived.Test.YtcnmbenfnpjkjaaZSA13
import Derived.Deep.RegionHeld3
namespace Go.Proofs.Ytcnmbenfnpjkjaa
set_option linter.unusedVariables false

/-- was an edge met? -/
def hasE (F : List Nat) (d : Nat) : Bool := F.any fun x => decide (x / 2 = d / 2)
/-- each edge once -/
structure FOk (n : Nat) (F : List Nat) : Prop where
  lt : ∀ i, i < F.length → at' F i < n
  one : ∀ i j, i < F.length → j < F.length → at' F i / 2 = at' F j / 2 → i = j
section
variable {n : Nat} {F : List Nat} (h : FOk n F) (he : n % 2 = 0) (hall : ∀ d, d < n → hasE F d = true)
include h he hall
end

section
variable {s : List Nat} (hs : IsPerm s) (he : s.length % 2 = 0)
include hs he
end

end Go.Proofs.Ytcnmbenfnpjkjaa

namespace Go.Proofs.Ytcnmbenfnpjkjaa
set_option linter.unusedVariables false

section
variable {s t : List Nat} (hs : IsPerm s) (he : s.length % 2 = 0) (ht : IsPerm t) (hl : t.length = s.length) (hm : Mates t)
include hs he ht hl hm

end

section
variable {s t : List Nat} (hs : IsPerm s) (he : s.length % 2 = 0) (ht : IsPerm t) (hl : t.length = s.length) (hm : Mates t)
include hs he ht hl hm
end
end Go.Proofs.Ytcnmbenfnpjkjaa

namespace Go.Proofs.Ytcnmbenfnpjkjaa
set_option linter.unusedVariables false

section
variable {n : Nat} {G l : List Nat} (h : FOk n (G ++ l))
include h
end
section
variable {s : List Nat} (hs : IsPerm s) (he : s.length % 2 = 0)
include hs he
end
end Go.Proofs.Ytcnmbenfnpjkjaa

namespace Go.Proofs.Ytcnmbenfnpjkjaa
set_option linter.unusedVariables false

section
variable {s : List Nat} (hs : IsPerm s) (he : s.length % 2 = 0) {V : Nat} (hV : (sizesL s).length ≤ V)
include hs he hV
end

end Go.Proofs.Ytcnmbenfnpjkjaa

namespace Go.Proofs.Ytcnmbenfnpjkjaa
open Go.RowKit
set_option linter.unusedVariables false

end Go.Proofs.Ytcnmbenfnpjkjaa

namespace Go.Proofs.Ytcnmbenfnpjkjaa
open Go.RowKit
set_option linter.unusedVariables false


end Go.Proofs.Ytcnmbenfnpjkjaa

namespace Go.Proofs.Ytcnmbenfnpjkjaa
open Go.RowKit
set_option linter.unusedVariables false

end Go.Proofs.Ytcnmbenfnpjkjaa

namespace Go.Proofs.Ytcnmbenfnpjkjaa
open Go.RowKit
set_option linter.unusedVariables false

end Go.Proofs.Ytcnmbenfnpjkjaa

namespace Go.Proofs.Ytcnmbenfnpjkjaa
open Go.RowKit
set_option linter.unusedVariables false

end Go.Proofs.Ytcnmbenfnpjkjaa

namespace Go.Proofs.Ytcnmbenfnpjkjaa
set_option linter.unusedVariables false

section
variable {s : List Nat} (hs : IsPerm s) {e : Nat} (hn : 2 * e + 2 ≤ s.length) (hne : nth (namesL s) (2 * e) ≠ nth (namesL s) (2 * e + 1))
include hs hn hne

end
end Go.Proofs.Ytcnmbenfnpjkjaa
