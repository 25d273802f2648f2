/- The walk's letters: pairs, and how many of each kind. Conditions: none. -/
import Derived.Test.YtgphnkkdmlohlaaGreatDoorZWoodNo06
namespace Go.Proofs.YtgphnkkdmlohlaaGreatDoor
set_option linter.unusedVariables false
section
variable {s : List Nat} (hs : IsPerm s) (he : s.length % 2 = 0) {V root : Nat} (hr : root < s.length) (hV : (sizesL s).length ≤ V)
include hs he hr hV
end
end Go.Proofs.YtgphnkkdmlohlaaGreatDoor
