/- Shrunk, a map has as many parts, and the same genus. Conditions: none. A vertex's darts in order, without an edge's: each one's next is the map's that is left. Conditions: none. The document's lists, laid into a row, are the map that is left. Conditions: none. parquetryref10: name, from. Conditions: the map's list lies in memory, the dart is there. parquetryref10.others: the vertices that an edge isn't at. Conditions: the map's list lies in memory, the edge is there. The document's lists of vertices, for Cut and for Shrink, have each dart that is left. Conditions: none. The document's lists for Shrink have each dart that is left; the root that is left. Conditions: none. -/
import Derived.Test.YtcnmbenfnpjkjaaZSA24
import Derived.Test.YtcnmbenfnpjkjaaZSA22
import Derived.Test.YtcnmbenfnpjkjaaZSA25
import Derived.Test.YtcnmbenfnpjkjaaZSA15
import Derived.Test.YtcnmbenfnpjkjaaZSA18
import Derived.Deep.RegionLaw
namespace Go.Proofs.Ytcnmbenfnpjkjaa
set_option linter.unusedVariables false

section
variable {s : List Nat} (hs : IsPerm s) (he : s.length % 2 = 0) {e : Nat} (hn : 2 * e + 2 ≤ s.length) (hne : nth (namesL s) (2 * e) ≠ nth (namesL s) (2 * e + 1))
include hs he hn

include hne
end
end Go.Proofs.Ytcnmbenfnpjkjaa

namespace Go.Proofs.Ytcnmbenfnpjkjaa
set_option linter.unusedVariables false

theorem orbitGo_map {s : List Nat} {i : Nat} : ∀ (f x : Nat), Reach s i f x → ∃ m, it s m x = i ∧ orbitGo s i f x = (List.range m).map (fun j => it s j x)
  | 0, x, h => by
    obtain ⟨j, hj, e⟩ := h
    obtain rfl : j = 0 := by omega
    exact ⟨0, e, rfl⟩
  | f + 1, x, h => by
    by_cases hx : x = i
    · subst hx; exact ⟨0, rfl, by rw [orbitGo_end]; rfl⟩
    · obtain ⟨f', hf, hr⟩ := h.next hx
      obtain rfl : f' = f := by omega
      obtain ⟨m, h1, h2⟩ := orbitGo_map f' (at' s x) hr
      refine ⟨m + 1, h1, ?_⟩
      rw [orbitGo_next hx, h2, List.range_succ_eq_map, List.map_cons, List.map_map]
      rfl
theorem orbitL_map {s : List Nat} (hs : IsPerm s) {i : Nat} (hi : i < s.length) : ∃ c, 0 < c ∧ it s c i = i ∧ orbitL s i = (List.range c).map (fun j => it s j i) := by
  obtain ⟨m, h1, h2⟩ := orbitGo_map s.length (at' s i) (hs.reach hi)
  refine ⟨m + 1, by omega, h1, ?_⟩
  show i :: orbitGo s i s.length (at' s i) = _
  rw [h2, List.range_succ_eq_map, List.map_cons, List.map_map]
  rfl
/-- who stands behind whom -/
def nextI (n i : Nat) : Nat := if i + 1 < n then i + 1 else 0
end Go.Proofs.Ytcnmbenfnpjkjaa

namespace Go.Proofs.Ytcnmbenfnpjkjaa
set_option linter.unusedVariables false

end Go.Proofs.Ytcnmbenfnpjkjaa

namespace Go.Proofs.Ytcnmbenfnpjkjaa
open Go.RowKit
set_option linter.unusedVariables false

end Go.Proofs.Ytcnmbenfnpjkjaa

namespace Go.Proofs.Ytcnmbenfnpjkjaa
open Go.RowKit Go.Maps
set_option linter.unusedVariables false

end Go.Proofs.Ytcnmbenfnpjkjaa

namespace Go.Proofs.Ytcnmbenfnpjkjaa
set_option linter.unusedVariables false

section
variable {s : List Nat} (hs : IsPerm s) {e : Nat}
include hs

end
section
variable {s : List Nat} (hs : IsPerm s) {e : Nat} (hn : 2 * e + 2 ≤ s.length)
include hs hn
end
end Go.Proofs.Ytcnmbenfnpjkjaa

namespace Go.Proofs.Ytcnmbenfnpjkjaa
set_option linter.unusedVariables false

section
variable {s : List Nat} (hs : IsPerm s) {e : Nat} (hn : 2 * e + 2 ≤ s.length)
include hs hn
end

end Go.Proofs.Ytcnmbenfnpjkjaa
