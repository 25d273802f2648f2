/- Is a list a permutation: plain law. Conditions: none. -/
import Derived.Test.YtedocjhbmhllcaaMathC
import Derived.Test.YtedocjhbmhllcaaPermE
namespace Go.Proofs.Ytedocjhbmhllcaa
set_option linter.unusedVariables false

theorem inj_surj {n : Nat} (f : Nat → Nat) (h1 : ∀ i, i < n → f i < n) (h2 : ∀ i j, i < n → j < n → f i = f j → i = j) {y : Nat} (hy : y < n) : ∃ i, i < n ∧ f i = y := by
  refine Classical.byContradiction fun hno => ?_
  have hno' : ∀ i, i < n → f i ≠ y := fun i hi e => hno ⟨i, hi, e⟩
  obtain ⟨a, b, hab, hb, e⟩ := pigeon n (fun k => if k < n then f k else y) (fun k hk => by
    show (if k < n then f k else y) < n
    split
    · rename_i h; exact h1 k h
    · exact hy)
  rw [if_pos (show a < n by omega)] at e
  by_cases hbn : b < n
  · rw [if_pos hbn] at e
    have := h2 a b (by omega) hbn e
    omega
  · rw [if_neg hbn] at e
    exact hno' a (by omega) e

theorem IsPerm.surj {s : List Nat} (h : IsPerm s) {y : Nat} (hy : y < s.length) : ∃ i, i < s.length ∧ at' s i = y :=
  inj_surj (at' s) (fun i hi => h.lt hi) (fun i j hi hj e => h.inj hi hj e) hy

/-- how often i stands among the first k -/
def occ (xs : List Int) (i : Int) : Nat → Nat
  | 0 => 0
  | k + 1 => occ xs i k + (if nth xs k = i then 1 else 0)
theorem occ_le (xs : List Int) (i : Int) (k : Nat) : occ xs i k ≤ k := by
  induction k with
  | zero => simp [occ]
  | succ k ih => unfold occ; split <;> omega
theorem occ_zero {xs : List Int} {i : Int} {k : Nat} (h : ∀ j, j < k → nth xs j ≠ i) : occ xs i k = 0 := by
  induction k with
  | zero => rfl
  | succ k ih => unfold occ; rw [ih (fun j hj => h j (by omega)), if_neg (h k (by omega))]
theorem occ_pos {xs : List Int} {i : Int} {k : Nat} (h : 0 < occ xs i k) : ∃ j, j < k ∧ nth xs j = i := by
  refine Classical.byContradiction fun hno => ?_
  rw [occ_zero (fun j hj e => hno ⟨j, hj, e⟩)] at h
  omega
theorem occ_one {xs : List Int} {i : Int} {k j : Nat} (hj : j < k) (e : nth xs j = i) (h : ∀ a, a < k → nth xs a = i → a = j) : occ xs i k = 1 := by
  induction k with
  | zero => omega
  | succ k ih =>
    unfold occ
    by_cases hk : j = k
    · subst hk
      rw [occ_zero (fun a ha e' => by have := h a (by omega) e'; omega), if_pos e]
    · rw [ih (by omega) (fun a ha => h a (by omega)), if_neg (fun e' => by have := h k (by omega) e'; omega)]
theorem occ_two {xs : List Int} {i : Int} {k a b : Nat} (hab : a < b) (hb : b < k) (ea : nth xs a = i) (eb : nth xs b = i) : 2 ≤ occ xs i k := by
  have mono : ∀ c d, c ≤ d → occ xs i c ≤ occ xs i d := by
    intro c d h
    induction d with
    | zero => obtain rfl : c = 0 := by omega
              exact Nat.le_refl _
    | succ d ih =>
      by_cases e : c = d + 1
      · subst e; exact Nat.le_refl _
      · exact Nat.le_trans (ih (by omega)) (Nat.le_add_right _ _)
  have h1 : occ xs i (a + 1) = occ xs i a + 1 := by rw [occ, if_pos ea]
  have h2 : occ xs i (b + 1) = occ xs i b + 1 := by rw [occ, if_pos eb]
  have h3 := mono (a + 1) b (by omega)
  have h4 := mono (b + 1) k (by omega)
  rw [h2] at h4
  rw [h1] at h3
  omega

theorem PermI.occ {xs : List Int} (h : PermI xs) {i : Nat} (hi : i < xs.length) : Go.Proofs.Ytedocjhbmhllcaa.occ xs i xs.length = 1 := by
  obtain ⟨S, hS, rfl⟩ := h
  rw [toI_length] at hi ⊢
  obtain ⟨j, hj, e⟩ := hS.surj hi
  refine occ_one hj (by rw [toI_nth, e]) fun a ha e' => ?_
  rw [toI_nth] at e'
  exact hS.inj ha hj (by omega)

theorem PermI.of_occ {xs : List Int} (h : ∀ i, i < xs.length → Go.Proofs.Ytedocjhbmhllcaa.occ xs (i : Nat) xs.length = 1) : PermI xs := by
  have hpos : ∀ i, ∃ j, i < xs.length → j < xs.length ∧ nth xs j = (i : Int) := fun i => by
    by_cases hi : i < xs.length
    · obtain ⟨j, hj⟩ := occ_pos (xs := xs) (i := i) (k := xs.length) (by rw [h i hi]; omega)
      exact ⟨j, fun _ => hj⟩
    · exact ⟨0, fun h => absurd h hi⟩
  let f : Nat → Nat := fun i => Classical.choose (hpos i)
  have hf : ∀ i, i < xs.length → f i < xs.length ∧ nth xs (f i) = (i : Int) := fun i hi => Classical.choose_spec (hpos i) hi
  have hr : ∀ j, j < xs.length → ∃ i, i < xs.length ∧ nth xs j = (i : Int) := fun j hj => by
    obtain ⟨i, hi, e⟩ := inj_surj f (fun i hi => (hf i hi).1) (fun a b ha hb e => by
      have h1 := (hf a ha).2
      have h2 := (hf b hb).2
      rw [e] at h1
      omega) hj
    exact ⟨i, hi, by rw [← e]; exact (hf i hi).2⟩
  refine PermI.of_good (fun j hj => ?_) (fun a b hab hb e => ?_)
  · obtain ⟨i, hi, e⟩ := hr j hj
    omega
  · obtain ⟨i, hi, e1⟩ := hr b hb
    have := occ_two hab hb (e.trans e1) e1
    rw [h i hi] at this
    omega

end Go.Proofs.Ytedocjhbmhllcaa
