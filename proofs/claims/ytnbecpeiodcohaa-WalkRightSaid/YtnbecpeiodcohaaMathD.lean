/- How many darts a vertex has: plain law. Conditions: none. -/
import Derived.Test.YtnbecpeiodcohaaMathC
namespace Go.Proofs.Ytnbecpeiodcohaa
set_option linter.unusedVariables false

/-- how many of the first k are named j -/
def cnt (s : List Nat) (j : Nat) : Nat → Int
  | 0 => 0
  | k + 1 => cnt s j k + (if nth (namesL s) k = j then 1 else 0)

theorem cnt_bound (s : List Nat) (j k : Nat) : 0 ≤ cnt s j k ∧ cnt s j k ≤ k := by
  induction k with
  | zero => simp [cnt]
  | succ k ih => unfold cnt; split <;> omega

theorem nth_append (xs ys : List Int) (j : Nat) : nth (xs ++ ys) j = if j < xs.length then nth xs j else nth ys (j - xs.length) := by
  unfold nth
  rw [List.getD_eq_getElem?_getD, List.getElem?_append]
  split <;> simp [List.getD_eq_getElem?_getD]
theorem nth_out {xs : List Int} {j : Nat} (h : xs.length ≤ j) : nth xs j = 0 := by simp [nth, h]
theorem nth_rep0 (n j : Nat) : nth (List.replicate n 0) j = 0 := by
  unfold nth
  rw [List.getD_eq_getElem?_getD, List.getElem?_replicate]
  split <;> rfl

theorem sizesGo_cnt {s : List Nat} (hs : IsPerm s) (k : Nat) (hk : k ≤ s.length) (j : Nat) : nth (sizesGo s k) j = cnt s j k := by
  induction k with
  | zero => simp [sizesGo_zero, nth, cnt]
  | succ k ih =>
    have ih := ih (by omega)
    have hl := sizesGo_length hs k (by omega)
    rw [sizesGo_succ (by omega)]
    unfold cnt
    rw [← ih]
    rcases names_next hs (k := k) (by omega) with ⟨a, b, c⟩ | ⟨a, c⟩
    · obtain ⟨y, hy⟩ := Int.eq_ofNat_of_zero_le a
      rw [hy]
      have hlt : y < (sizesGo s k).length := by omega
      rw [sizeStep_old' hlt, nth_set hlt]
      by_cases e : y = j
      · subst e; simp
      · rw [if_neg e, if_neg (by omega)]; omega
    · rw [a, ← hl, sizeStep_new', nth_set (by simp)]
      by_cases e : (sizesGo s k).length = j
      · subst e; rw [if_pos rfl, if_pos (by omega), nth_out (Nat.le_refl _)]; rfl
      · rw [if_neg e, if_neg (by omega), nth_append]
        split
        · omega
        · rw [nth_out (xs := sizesGo s k) (by omega)]
          have : nth [0] (j - (sizesGo s k).length) = 0 := nth_out (by simp; omega)
          omega

theorem sizesL_cnt {s : List Nat} (hs : IsPerm s) (j : Nat) : nth (sizesL s) j = cnt s j s.length := by
  rw [← sizesGo_all]; exact sizesGo_cnt hs _ (Nat.le_refl _) j

/-- degrees told so far, in m places -/
def degGo (s : List Nat) (m k : Nat) : List Int := (List.range m).map fun j => cnt s j k
theorem degGo_length (s : List Nat) (m k : Nat) : (degGo s m k).length = m := by simp [degGo]
theorem degGo_zero (s : List Nat) (m : Nat) : degGo s m 0 = List.replicate m 0 := by
  refine List.ext_getElem (by simp [degGo]) fun i h1 h2 => ?_
  simp [degGo, cnt]
theorem degGo_nth {s : List Nat} {m k j : Nat} (h : j < m) : nth (degGo s m k) j = cnt s j k := by simp [nth, degGo, h]
theorem degGo_succ {s : List Nat} {m k y : Nat} (hy : nth (namesL s) k = (y : Int)) (hm : y < m) : (degGo s m k).set y (nth (degGo s m k) y + 1) = degGo s m (k + 1) := by
  rw [degGo_nth hm]
  refine List.ext_getElem (by simp [degGo]) fun i h1 h2 => ?_
  simp only [degGo, List.getElem_set, List.getElem_map, List.getElem_range]
  conv => rhs; unfold cnt
  rw [hy]
  by_cases e : y = i
  · subst e; rw [if_pos rfl, if_pos rfl]
  · rw [if_neg e, if_neg (by omega)]; omega

theorem names_lt {s : List Nat} (hs : IsPerm s) {k : Nat} (hk : k < s.length) : 0 ≤ nth (namesL s) k ∧ nth (namesL s) k < (sizesL s).length := by
  have h1 : (sizesL s).length = (namesGo s s.length).2 := by rw [← sizesGo_all, sizesGo_length hs _ (Nat.le_refl _)]
  have hI := namesGo_inv hs s.length (Nat.le_refl _)
  have h0 := hI.told k hk hk
  rcases hI.val k hk with e | e
  · have : nth (namesL s) k = -1 := e
    have h2 : 0 ≤ nth (namesL s) k := h0
    omega
  · exact ⟨h0, by rw [h1]; exact e.2⟩

/-- of the first k places, together -/
def sumTo (xs : List Int) : Nat → Int
  | 0 => 0
  | k + 1 => sumTo xs k + nth xs k

theorem sum_cnt {s : List Nat} (m : Nat) (k : Nat) (hm : ∀ d, d < k → 0 ≤ nth (namesL s) d ∧ nth (namesL s) d < m) : sumTo (degGo s m k) m = k := by
  have key : ∀ j, j ≤ m → ∀ k, sumTo (degGo s m (k + 1)) j = sumTo (degGo s m k) j + (if 0 ≤ nth (namesL s) k ∧ nth (namesL s) k < j then 1 else 0) := by
    intro j
    induction j with
    | zero => intro _ k; simp [sumTo]
    | succ j ih =>
      intro hj k
      unfold sumTo
      rw [ih (by omega) k, degGo_nth (by omega), degGo_nth (by omega)]
      conv => lhs; unfold cnt
      by_cases h1 : nth (namesL s) k = j
      · rw [if_pos h1, if_neg (by omega), if_pos (by omega)]; omega
      · rw [if_neg h1]
        by_cases h2 : 0 ≤ nth (namesL s) k ∧ nth (namesL s) k < j
        · rw [if_pos h2, if_pos (by omega)]; omega
        · rw [if_neg h2, if_neg (by omega)]; omega
  induction k with
  | zero =>
    rw [degGo_zero]
    have : ∀ j, sumTo (List.replicate m 0) j = 0 := by
      intro j
      induction j with
      | zero => rfl
      | succ j ih => unfold sumTo; rw [ih, nth_rep0]; rfl
    rw [this]; rfl
  | succ k ih =>
    rw [key m (Nat.le_refl _) k, ih (fun d hd => hm d (by omega)), if_pos (hm k (by omega))]
    omega

theorem sumTo_bound {s : List Nat} {m k : Nat} (hm : ∀ d, d < k → 0 ≤ nth (namesL s) d ∧ nth (namesL s) d < m) (j : Nat) (hj : j ≤ m) : 0 ≤ sumTo (degGo s m k) j ∧ sumTo (degGo s m k) j ≤ k := by
  have mono : ∀ a b, a ≤ b → b ≤ m → sumTo (degGo s m k) a ≤ sumTo (degGo s m k) b := by
    intro a b hab
    induction b with
    | zero => intro _; obtain rfl : a = 0 := by omega
              exact Int.le_refl _
    | succ b ih =>
      intro hb
      by_cases e : a = b + 1
      · subst e; exact Int.le_refl _
      · have h1 := ih (by omega) (by omega)
        have h2 := (cnt_bound s b k).1
        conv => rhs; unfold sumTo
        rw [degGo_nth (by omega)]
        omega
  have h1 := mono 0 j (by omega) hj
  have h2 := mono j m hj (Nat.le_refl _)
  rw [sum_cnt m k hm] at h2
  exact ⟨by simpa [sumTo] using h1, h2⟩

end Go.Proofs.Ytnbecpeiodcohaa
