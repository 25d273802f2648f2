/- The document's maps of numbers: plain law. Conditions: none. -/
import Derived.Test.YtnbecpeiodcohaaMathB
namespace Go.Proofs.Ytnbecpeiodcohaa
set_option linter.unusedVariables false

theorem IsPerm.of_inj {l : List Nat} (h1 : ∀ i, i < l.length → at' l i < l.length) (h2 : ∀ i j, i < l.length → j < l.length → at' l i = at' l j → i = j) : IsPerm l := by
  refine ⟨List.pairwise_iff_getElem.2 fun i j hi hj hij e => ?_, fun x hx => ?_⟩
  · rw [← at'_eq hi, ← at'_eq hj] at e
    have := h2 i j hi hj e
    omega
  · obtain ⟨i, hi, rfl⟩ := List.mem_iff_getElem.1 hx
    rw [← at'_eq hi]
    exact h1 i hi

theorem at'_set {l : List Nat} {i j x : Nat} (h : i < l.length) : at' (l.set i x) j = if i = j then x else at' l j := by
  unfold at'
  rw [List.getD_eq_getElem?_getD, List.getElem?_set]
  split
  · rename_i e; subst e; simp
  · rw [List.getD_eq_getElem?_getD]

/-- two change places -/
def swapL (l : List Nat) (i k : Nat) : List Nat := (l.set i (at' l k)).set k (at' l i)
theorem swapL_length (l : List Nat) (i k : Nat) : (swapL l i k).length = l.length := by simp [swapL]
theorem at'_swap {l : List Nat} {i k : Nat} (hi : i < l.length) (hk : k < l.length) (j : Nat) : at' (swapL l i k) j = at' l (if k = j then i else if i = j then k else j) := by
  unfold swapL
  rw [at'_set (by simpa using hk), at'_set hi]
  split
  · rfl
  · split <;> rfl
theorem swapL_perm {l : List Nat} (h : IsPerm l) {i k : Nat} (hi : i < l.length) (hk : k < l.length) : IsPerm (swapL l i k) := by
  refine IsPerm.of_inj (fun j hj => ?_) (fun a b ha hb e => ?_)
  · rw [swapL_length] at hj ⊢
    rw [at'_swap hi hk]
    refine h.lt ?_
    split
    · exact hi
    · split
      · exact hk
      · exact hj
  · rw [swapL_length] at ha hb
    rw [at'_swap hi hk, at'_swap hi hk] at e
    have hlt : ∀ j, j < l.length → (if k = j then i else if i = j then k else j) < l.length := fun j hj => by
      split
      · exact hi
      · split
        · exact hk
        · exact hj
    have := h.inj (hlt a ha) (hlt b hb) e
    split at this <;> split at this <;> (try split at this) <;> (try split at this) <;> omega

def mixStep (n : Nat) (bs : List Nat) (l : List Nat) (i : Nat) : List Nat :=
  if i < bs.length then swapL l i (i + at' bs i % (n - i)) else l
def mixGo (n : Nat) (bs : List Nat) (k : Nat) : List Nat := (List.range k).foldl (mixStep n bs) (List.range n)
def mixL (n : Nat) (bs : List Nat) : List Nat := mixGo n bs n
theorem mixGo_succ (n : Nat) (bs : List Nat) (k : Nat) : mixGo n bs (k + 1) = mixStep n bs (mixGo n bs k) k := by simp [mixGo, List.range_succ]
theorem mixGo_length (n : Nat) (bs : List Nat) (k : Nat) : (mixGo n bs k).length = n := by
  induction k with
  | zero => simp [mixGo]
  | succ k ih =>
    rw [mixGo_succ]
    unfold mixStep
    split
    · rw [swapL_length]; exact ih
    · exact ih
theorem range_perm (n : Nat) : IsPerm (List.range n) := ⟨List.nodup_range, fun x hx => by simpa using hx⟩
theorem mixGo_perm (n : Nat) (bs : List Nat) (k : Nat) (hk : k ≤ n) : IsPerm (mixGo n bs k) := by
  induction k with
  | zero => exact range_perm n
  | succ k ih =>
    rw [mixGo_succ]
    unfold mixStep
    split
    · have hm := Nat.mod_lt (at' bs k) (show n - k > 0 by omega)
      exact swapL_perm (ih (by omega)) (by rw [mixGo_length]; omega) (by rw [mixGo_length]; omega)
    · exact ih (by omega)
theorem mixL_perm (n : Nat) (bs : List Nat) : IsPerm (mixL n bs) := mixGo_perm n bs n (Nat.le_refl _)
theorem mixL_length (n : Nat) (bs : List Nat) : (mixL n bs).length = n := mixGo_length n bs n

/-- the root of the document's map of numbers -/
def anyRoot (edges root : Nat) : Int := if 0 < edges then ((root % (2 * edges) : Nat) : Int) else -1

end Go.Proofs.Ytnbecpeiodcohaa
