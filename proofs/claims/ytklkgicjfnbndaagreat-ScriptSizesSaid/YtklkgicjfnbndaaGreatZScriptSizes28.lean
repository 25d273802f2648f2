/- parquetryref10.others: the vertices that an edge isn't at. Conditions: the map's list lies in memory, the edge is there. The document's lists of vertices, for Cut and for Shrink, have each dart that is left. Conditions: none. The document's lists for Shrink have each dart that is left; the root that is left. Conditions: none. -/
import Derived.Test.YtklkgicjfnbndaaGreatZScriptSizes27
import Derived.Test.YtklkgicjfnbndaaGreatZScriptSizes17
import Derived.Test.YtklkgicjfnbndaaGreatZScriptSizes21
import Derived.Deep.RegionLaw
namespace Go.Proofs.YtklkgicjfnbndaaGreat
open Go.RowKit Go.Maps
set_option linter.unusedVariables false

/-- a slice's value that holds a list, in none of X's blocks -/
def RowOk (R : Reg) (w : World) (X : Nat → Prop) (u : Value) (xs : List Nat) : Prop := ∃ a c, u = .slice a xs.length c ∧ FreeI R w (.slice a xs.length c) (toI xs) ∧ ∀ k, (Value.slice a xs.length c).ownBlock = some k → ¬ X k ∧ k < w.heap.size
theorem RowOk.ev {R R' : Reg} {w w' : World} {X : Nat → Prop} {u : Value} {xs : List Nat} (h : RowOk R w X u xs) (he : Ev R w R' w') : RowOk R' w' X u xs := by
  obtain ⟨a, c, e, hf, hb⟩ := h
  exact ⟨a, c, e, hf.ev he, fun k hk => ⟨(hb k hk).1, Nat.lt_of_lt_of_le (hb k hk).2 he.size⟩⟩
theorem RowOk.kept {R : Reg} {w w' : World} {X : Nat → Prop} {row : Option Nat} {u : Value} {xs : List Nat} (h : RowOk R w X u xs) (hg : w.grownBy w' row) (hx : ∀ k, row = some k → X k) : RowOk R w' X u xs := by
  obtain ⟨a, c, e, hf, hb⟩ := h
  refine ⟨a, c, e, ?_, fun k hk => ⟨(hb k hk).1, Nat.lt_of_lt_of_le (hb k hk).2 hg.size⟩⟩
  obtain ⟨⟨a', cap, h1, h2, h3, h4⟩, hfr⟩ := hf
  refine ⟨⟨a', cap, h1, h2, h3, fun i hi => ?_⟩, hfr⟩
  obtain ⟨b, off, e2, hc⟩ := h4 i hi
  subst e2
  refine ⟨b, off, rfl, ?_⟩
  have hb2 := hg.block b (lt_of_cell hc) (fun e3 => (hb b (by rw [h1]; rfl)).1 (hx b e3.symm))
  simp only [World.cell?, hb2] at hc ⊢
  exact hc
/-- rows of rows -/
structure RowsLL (R : Reg) (w : World) (X : Nat → Prop) (vs : List Value) (xss : List (List Nat)) : Prop where
  len : vs.length = xss.length
  row : ∀ i, i < xss.length → ∃ u, vs[i]? = some u ∧ RowOk R w X u (xss.getD i [])
theorem RowsLL.nil (R : Reg) (w : World) (X : Nat → Prop) : RowsLL R w X [] [] := ⟨rfl, fun i hi => by simp at hi⟩
theorem RowsLL.ev {R R' : Reg} {w w' : World} {X : Nat → Prop} {vs : List Value} {xss : List (List Nat)} (h : RowsLL R w X vs xss) (he : Ev R w R' w') : RowsLL R' w' X vs xss :=
  ⟨h.len, fun i hi => by obtain ⟨u, h1, h2⟩ := h.row i hi; exact ⟨u, h1, h2.ev he⟩⟩
theorem RowsLL.kept {R : Reg} {w w' : World} {X : Nat → Prop} {row : Option Nat} {vs : List Value} {xss : List (List Nat)} (h : RowsLL R w X vs xss) (hg : w.grownBy w' row) (hx : ∀ k, row = some k → X k) : RowsLL R w' X vs xss :=
  ⟨h.len, fun i hi => by obtain ⟨u, h1, h2⟩ := h.row i hi; exact ⟨u, h1, h2.kept hg hx⟩⟩
theorem RowsLL.app {R : Reg} {w : World} {X : Nat → Prop} {vs : List Value} {xss : List (List Nat)} (h : RowsLL R w X vs xss) {u : Value} {xs : List Nat} (hu : RowOk R w X u xs) : RowsLL R w X (vs ++ [u]) (xss ++ [xs]) := by
  refine ⟨by simp [h.len], fun i hi => ?_⟩
  rw [List.length_append, List.length_singleton] at hi
  by_cases hl : i < xss.length
  · obtain ⟨v, h1, h2⟩ := h.row i hl
    refine ⟨v, by rw [List.getElem?_append_left (by rw [h.len]; exact hl)]; exact h1, ?_⟩
    simpa [List.getD, List.getElem?_append_left hl] using h2
  · have e : i = xss.length := by omega
    subst e
    refine ⟨u, by rw [← h.len]; simp, ?_⟩
    simpa [List.getD] using hu

end Go.Proofs.YtklkgicjfnbndaaGreat

namespace Go.Proofs.YtklkgicjfnbndaaGreat
set_option linter.unusedVariables false

/-- the first of a class -/
theorem first_of (N : Nat → Int) : ∀ x, ∃ d, d ≤ x ∧ N d = N x ∧ ∀ y, y < d → N y ≠ N x := fun x => by
  induction x using Nat.strongRecOn with
  | ind x ih =>
    by_cases h : ∃ y, y < x ∧ N y = N x
    · obtain ⟨y, hy, e⟩ := h
      obtain ⟨d, h1, h2, h3⟩ := ih y hy
      exact ⟨d, by omega, by rw [h2, e], fun z hz => by rw [← e]; exact h3 z hz⟩
    · exact ⟨x, Nat.le_refl _, rfl, fun y hy e => h ⟨y, hy, e⟩⟩

section
variable {s : List Nat} (hs : IsPerm s) {e : Nat}
include hs

end
section
variable {s : List Nat} (hs : IsPerm s) {e : Nat} (hn : 2 * e + 2 ≤ s.length)
include hs hn
end
end Go.Proofs.YtklkgicjfnbndaaGreat

namespace Go.Proofs.YtklkgicjfnbndaaGreat
set_option linter.unusedVariables false

section
variable {s : List Nat} (hs : IsPerm s) {e : Nat} (hn : 2 * e + 2 ≤ s.length)
include hs hn
end

end Go.Proofs.YtklkgicjfnbndaaGreat
