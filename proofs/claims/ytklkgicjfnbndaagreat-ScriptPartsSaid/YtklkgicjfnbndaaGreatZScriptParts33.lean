/- parquetryref09.Walk: the document's walk. Conditions: the list is a permutation of an even number that lies in memory. -/
import Derived.Test.YtklkgicjfnbndaaGreatZScriptParts18
import Derived.Test.YtklkgicjfnbndaaGreatZScriptParts19
import Derived.Test.YtklkgicjfnbndaaGreatZScriptParts21
namespace Go.Proofs.YtklkgicjfnbndaaGreat
open Go.RowKit
set_option linter.unusedVariables false

/-- of each edge its first kind; which vertices were met -/
def FirstOf (f : Int → Option Int) (ed : List Int) : Prop := ∀ e : Nat, f (e : Int) = if nth ed e = 0 then none else some (nth ed e - 1)
def MetOf (f : Int → Option Int) (mt : List Bool) : Prop := ∀ v : Nat, (f (v : Int)).getD 0 = if getB mt v = true then 1 else 0

theorem FirstOf.put {f : Int → Option Int} {ed : List Int} (hf : FirstOf f ed) {h : Nat} (hh : h < ed.length) (k : Nat) : FirstOf (updF f (h : Int) (k : Int)) (ed.set h ((k : Int) + 1)) := fun e => by
  rw [nth_set hh]
  by_cases e1 : h = e
  · subst e1
    rw [updF_same, if_pos rfl, if_neg (by omega)]
    congr 1; omega
  · rw [updF_other _ _ _ (by omega), if_neg e1]
    exact hf e
theorem MetOf.put {f : Int → Option Int} {mt : List Bool} (hf : MetOf f mt) {v : Nat} (hv : v < mt.length) : MetOf (updF f (v : Int) 1) (mt.set v true) := fun e => by
  rw [getB_set hv]
  by_cases e1 : v = e
  · subst e1
    rw [updF_same, if_pos rfl]; rfl
  · rw [updF_other _ _ _ (by omega), if_neg e1]
    exact hf e
theorem dis_neI {u v : Value} (h : ∀ k, u.ownBlock = some k → v.ownBlock ≠ some k) : v.ownBlock = none ∨ v.ownBlock ≠ u.ownBlock := by
  cases hu : u.ownBlock with
  | none =>
    cases hv : v.ownBlock with
    | none => exact Or.inl rfl
    | some k => exact Or.inr (by simp)
  | some k => exact Or.inr (h k hu)

end Go.Proofs.YtklkgicjfnbndaaGreat
