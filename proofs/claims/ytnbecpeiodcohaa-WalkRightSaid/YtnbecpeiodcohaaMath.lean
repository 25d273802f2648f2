/- Permutations as lists: plain law. Conditions: none. -/
import Derived.Test.YtnbecpeiodcohaaBase
namespace Go.Proofs.Ytnbecpeiodcohaa
set_option linter.unusedVariables false

def it (s : List Nat) : Nat → Nat → Nat
  | 0, i => i
  | k + 1, i => it s k (at' s i)

theorem at'_eq {s : List Nat} {i : Nat} (h : i < s.length) : at' s i = s[i] := by simp [at', List.getD, h]
theorem IsPerm.lt {s : List Nat} (h : IsPerm s) {i : Nat} (hi : i < s.length) : at' s i < s.length := by
  rw [at'_eq hi]
  exact h.2 _ (List.getElem_mem hi)
theorem IsPerm.inj {s : List Nat} (h : IsPerm s) {i j : Nat} (hi : i < s.length) (hj : j < s.length) (e : at' s i = at' s j) : i = j := by
  rw [at'_eq hi, at'_eq hj] at e
  have hp := List.pairwise_iff_getElem.1 h.1
  rcases Nat.lt_trichotomy i j with hl | hl | hl
  · exact absurd e (hp i j hi hj hl)
  · exact hl
  · exact absurd e.symm (hp j i hj hi hl)

theorem it_succ (s : List Nat) (k i : Nat) : it s (k + 1) i = at' s (it s k i) := by
  induction k generalizing i with
  | zero => rfl
  | succ k ih => exact ih (at' s i)
theorem it_add (s : List Nat) (k j i : Nat) : it s (k + j) i = it s k (it s j i) := by
  induction j generalizing i with
  | zero => rfl
  | succ j ih => exact ih (at' s i)
theorem IsPerm.it_lt {s : List Nat} (h : IsPerm s) {i : Nat} (hi : i < s.length) (k : Nat) : it s k i < s.length := by
  induction k with
  | zero => exact hi
  | succ k ih => rw [it_succ]; exact h.lt ih
theorem IsPerm.it_inj {s : List Nat} (h : IsPerm s) {x y : Nat} (hx : x < s.length) (hy : y < s.length) (k : Nat) (e : it s k x = it s k y) : x = y := by
  induction k with
  | zero => exact e
  | succ k ih => rw [it_succ, it_succ] at e; exact ih (h.inj (h.it_lt hx k) (h.it_lt hy k) e)

theorem pigeon : ∀ (n : Nat) (f : Nat → Nat), (∀ k, k ≤ n → f k < n) → ∃ a b, a < b ∧ b ≤ n ∧ f a = f b
  | 0, f, h => absurd (h 0 (Nat.le_refl _)) (by omega)
  | n + 1, f, h => by
    by_cases hv : ∃ a, a ≤ n ∧ f a = f (n + 1)
    · obtain ⟨a, ha, e⟩ := hv
      exact ⟨a, n + 1, by omega, Nat.le_refl _, e⟩
    · have hv' : ∀ a, a ≤ n → f a ≠ f (n + 1) := fun a ha e => hv ⟨a, ha, e⟩
      obtain ⟨a, b, hab, hb, e⟩ := pigeon n (fun k => if f k = n then f (n + 1) else f k) (fun k hk => by
        have h1 := h k (by omega)
        have h2 := h (n + 1) (Nat.le_refl _)
        have h3 := hv' k hk
        show (if f k = n then f (n + 1) else f k) < n
        split <;> omega)
      refine ⟨a, b, hab, by omega, ?_⟩
      have ha' := hv' a (by omega)
      have hb' := hv' b hb
      split at e <;> split at e <;> omega

/-- from x one comes to i -/
def Reach (s : List Nat) (i f x : Nat) : Prop := ∃ j, j ≤ f ∧ it s j x = i

theorem IsPerm.cycle {s : List Nat} (h : IsPerm s) {i : Nat} (hi : i < s.length) : ∃ d, 0 < d ∧ d ≤ s.length ∧ it s d i = i := by
  obtain ⟨a, b, hab, hb, e⟩ := pigeon s.length (fun k => it s k i) (fun k _ => h.it_lt hi k)
  refine ⟨b - a, by omega, by omega, ?_⟩
  have e' : it s b i = it s a (it s (b - a) i) := by rw [← it_add]; congr 1; omega
  exact (h.it_inj hi (h.it_lt hi _) a (e.trans e')).symm

theorem IsPerm.reach {s : List Nat} (h : IsPerm s) {i : Nat} (hi : i < s.length) : Reach s i s.length (at' s i) := by
  obtain ⟨d, hd, hn, e⟩ := h.cycle hi
  obtain ⟨d', rfl⟩ : ∃ d', d = d' + 1 := ⟨d - 1, by omega⟩
  exact ⟨d', by omega, e⟩

theorem Reach.next {s : List Nat} {i f x : Nat} (h : Reach s i f x) (hx : x ≠ i) : ∃ f', f = f' + 1 ∧ Reach s i f' (at' s x) := by
  obtain ⟨j, hj, e⟩ := h
  match j, e with
  | 0, e => exact absurd e hx
  | j + 1, e => exact ⟨f - 1, by omega, j, by omega, e⟩

theorem orbitGo_next {s : List Nat} {i f x : Nat} (hx : x ≠ i) : orbitGo s i (f + 1) x = x :: orbitGo s i f (at' s x) := by simp [orbitGo, hx]
theorem orbitGo_end (s : List Nat) (i f : Nat) : orbitGo s i f i = [] := by cases f <;> simp [orbitGo]
theorem orbitGo_length (s : List Nat) (i f x : Nat) : (orbitGo s i f x).length ≤ f := by
  induction f generalizing x with
  | zero => simp [orbitGo]
  | succ f ih => unfold orbitGo; split <;> simp; exact ih _
theorem orbitL_length (s : List Nat) (i : Nat) : (orbitL s i).length ≤ s.length + 1 := by
  simp only [orbitL, List.length_cons]
  have := orbitGo_length s i s.length (at' s i)
  omega
theorem orbitGo_lt {s : List Nat} (h : IsPerm s) (i f : Nat) : ∀ x, x < s.length → ∀ y, y ∈ orbitGo s i f x → y < s.length := by
  induction f with
  | zero => intro x hx y hy; simp [orbitGo] at hy
  | succ f ih =>
    intro x hx y hy
    unfold orbitGo at hy
    split at hy
    · simp at hy
    · rcases List.mem_cons.1 hy with rfl | hy
      · exact hx
      · exact ih _ (h.lt hx) y hy
theorem orbitL_lt {s : List Nat} (h : IsPerm s) {i : Nat} (hi : i < s.length) : ∀ y, y ∈ orbitL s i → y < s.length := by
  intro y hy
  rcases List.mem_cons.1 hy with rfl | hy
  · exact hi
  · exact orbitGo_lt h i _ _ (h.lt hi) y hy

theorem foldl_set_length (l : List Nat) (y : Int) (xs : List Int) : (l.foldl (fun l x => l.set x y) xs).length = xs.length := by
  induction l generalizing xs with
  | nil => rfl
  | cons x l ih => rw [List.foldl_cons, ih, List.length_set]
theorem namesGo_zero (s : List Nat) : namesGo s 0 = (List.replicate s.length (-1), 0) := rfl
theorem namesGo_succ (s : List Nat) (k : Nat) : namesGo s (k + 1) = nameStep s (namesGo s k) k := by
  simp [namesGo, List.range_succ]
theorem namesGo_length (s : List Nat) (k : Nat) : (namesGo s k).1.length = s.length := by
  induction k with
  | zero => simp [namesGo_zero]
  | succ k ih =>
    rw [namesGo_succ]
    unfold nameStep
    split
    · exact ih
    · rw [foldl_set_length]; exact ih
theorem namesGo_count (s : List Nat) (k : Nat) : (namesGo s k).2 ≤ k := by
  induction k with
  | zero => simp [namesGo_zero]
  | succ k ih =>
    rw [namesGo_succ]
    unfold nameStep
    split
    · omega
    · simp; omega
theorem namesL_length (s : List Nat) : (namesL s).length = s.length := namesGo_length s _
theorem nameStep_old {s : List Nat} {st : List Int × Nat} {i : Nat} (h : 0 ≤ st.1.getD i (-1)) : nameStep s st i = st := by unfold nameStep; rw [if_pos h]
theorem nameStep_new {s : List Nat} {st : List Int × Nat} {i : Nat} (h : ¬ 0 ≤ st.1.getD i (-1)) : nameStep s st i = ((orbitL s i).foldl (fun l x => l.set x (st.2 : Int)) st.1, st.2 + 1) := by
  unfold nameStep; rw [if_neg h]
theorem foldl_take_succ {α β : Type} (f : β → α → β) (b : β) (l : List α) (j : Nat) (h : j < l.length) : (l.take (j + 1)).foldl f b = f ((l.take j).foldl f b) l[j] := by
  rw [List.take_succ_eq_append_getElem h, List.foldl_append]; rfl

end Go.Proofs.Ytnbecpeiodcohaa
