/- A map of pairs of numbers to how often they came, of the call's own. Conditions: none. -/
import Derived.Test.YtklkgicjfnbndaaGreatZScriptParts14
import Derived.Test.YtklkgicjfnbndaaGreatZScriptParts21
import Derived.DeepKeys5
import Derived.WideKeyPair
import Derived.WideKeyEntry
namespace Go.Proofs.YtklkgicjfnbndaaGreat
open Go.RowKit Go.Maps
open Go.ChangeMaps (setBlock heap_setBlock_same heap_setBlock_other)
set_option linter.unusedVariables false

def pairL (x y : Int) : Lit := .string (keyBytes [.int .i64 x, .int .i64 y])

/-- block b, which no one has registered, is a map that has f's numbers -/
def PairMap (R : Reg) (w : World) (b n : Nat) (f : Int → Int → Int) : Prop :=
  R b = none ∧ ∃ D : DataW Unit, w.ownsMap Tryz.prog 147 (plainElem Tryz.prog 3) b n D ∧
    ∀ x y : Int, (Lit.int .i64 x).wf = true → (Lit.int .i64 y).wf = true → D.atKey (pairL x y) (.lit (.int .i64 0)) = .lit (.int .i64 (f x y))

theorem PairMap.lt {R : Reg} {w : World} {b n : Nat} {f : Int → Int → Int} (h : PairMap R w b n f) : b < w.heap.size := by
  obtain ⟨_, D, h, _⟩ := h
  exact h.lt
theorem PairMap.ev {R R1 : Reg} {w w1 : World} {b n : Nat} {f : Int → Int → Int} (h : PairMap R w b n f) (he : Ev R w R1 w1) : PairMap R1 w1 b n f := by
  have hlt := h.lt
  obtain ⟨hb, D, ⟨es, clock, h1, h2, h3, h4⟩, h5⟩ := h
  exact ⟨he.free b hlt hb, D, ⟨es, clock, (he.block b hlt hb).trans h1, h2, h3, h4⟩, h5⟩
theorem PairMap.made {R : Reg} {w : World} (hI : Inv R w) : PairMap R (w.alloc (.map #[] 0)) w.heap.size 0 (fun _ _ => 0) := by
  refine ⟨hI.none_of_ge (Nat.le_refl _), .map [], World.ownsMap_made _ _ _ _, fun x y _ _ => ?_⟩
  simp [DataW.atKey]

end Go.Proofs.YtklkgicjfnbndaaGreat
