/- The walk's letters: pairs, and how many of each kind. Conditions: none. -/
import Derived.Test.YtnbecpeiodcohaaMathN
namespace Go.Proofs.Ytnbecpeiodcohaa
set_option linter.unusedVariables false

/-- of a kind among the first i -/
def wcnt (s : List Nat) (V root k : Nat) : Nat → Nat
  | 0 => 0
  | i + 1 => wcnt s V root k i + if wk s V root i = k then 1 else 0
theorem wcnt_le (s : List Nat) (V root k : Nat) : ∀ i, wcnt s V root k i ≤ i
  | 0 => Nat.le_refl _
  | i + 1 => by have := wcnt_le s V root k i; unfold wcnt; split <;> omega
theorem wcnt_tally (s : List Nat) (V root k : Nat) : ∀ i, wcnt s V root k i = tally (fun j => wk s V root j = k) i
  | 0 => rfl
  | i + 1 => by
    rw [tally_succ, ← wcnt_tally s V root k i]
    show wcnt s V root k i + (if wk s V root i = k then 1 else 0) = _
    by_cases h : wk s V root i = k
    · rw [if_pos h, ind_yes h]
    · rw [if_neg h, ind_no h]
theorem wk_le (s : List Nat) (V root i : Nat) : wk s V root i ≤ 3 := wkind_le s _
theorem wcnt_all (s : List Nat) (V root : Nat) : ∀ i, wcnt s V root 0 i + wcnt s V root 1 i + wcnt s V root 2 i + wcnt s V root 3 i = i
  | 0 => rfl
  | i + 1 => by
    have ih := wcnt_all s V root i
    have hk := wk_le s V root i
    unfold wcnt
    rcases (show wk s V root i = 0 ∨ wk s V root i = 1 ∨ wk s V root i = 2 ∨ wk s V root i = 3 by omega) with h | h | h | h <;> simp [h] <;> omega

section
variable {s : List Nat} (hs : IsPerm s) (he : s.length % 2 = 0) {V root : Nat} (hr : root < s.length) (hV : (sizesL s).length ≤ V)
include hs he hr hV

/-- what is told of an edge is its first kind -/
theorem wed_first {j : Nat} (hj : ∀ k, k < j → wd s V root k / 2 ≠ wd s V root j / 2) : ∀ i, j < i → nth (wst s V root i).ed (wd s V root j / 2) = (wk s V root j : Int) + 1
  | i + 1, hi => by
    have h := winv hs he hr hV i
    have e1 : (wst s V root (i + 1)).ed = wed s (wst s V root i) := rfl
    have hlt : wd s V root j / 2 < s.length / 2 := by have := (winv hs he hr hV j).lt j (Nat.le_refl _); omega
    rw [e1]
    unfold wed
    by_cases e : j = i
    · subst e
      have h0 : nth (wst s V root j).ed (wd s V root j / 2) = 0 := by
        apply Classical.byContradiction
        intro hn
        obtain ⟨k, hk, ek⟩ := (h.seen _).1 hn
        exact hj k hk ek
      have h0' : nth (wst s V root j).ed ((wst s V root j).d / 2) = 0 := h0
      rw [if_pos h0', nth_set (by rw [h.edl]; exact hlt), if_pos (show (wst s V root j).d / 2 = wd s V root j / 2 from rfl)]
      rfl
    · have ih := wed_first hj i (by omega)
      have hn : nth (wst s V root i).ed (wd s V root j / 2) ≠ 0 := by rw [ih]; omega
      split
      · rename_i h0
        by_cases e' : (wst s V root i).d / 2 = wd s V root j / 2
        · rw [e'] at h0; exact absurd h0 hn
        · rw [nth_set (by rw [h.edl]; have := h.lt i (Nat.le_refl _); show (wst s V root i).d / 2 < _; have e2 : (wst s V root i).d = wd s V root i := rfl; omega), if_neg e']
          exact ih
      · exact ih

/-- the kind at the first look -/
theorem wk_first {j : Nat} (hj : ∀ k, k < j → wd s V root k / 2 ≠ wd s V root j / 2) : wk s V root j = 0 ∨ wk s V root j = 2 := by
  have h := winv hs he hr hV j
  have h0 : nth (wst s V root j).ed ((wst s V root j).d / 2) = 0 := by
    apply Classical.byContradiction
    intro hn
    obtain ⟨k, hk, ek⟩ := (h.seen _).1 hn
    exact hj k hk ek
  unfold wk wkind
  rw [if_pos h0]
  split
  · exact Or.inr rfl
  · exact Or.inl rfl

/-- the kind at the second look -/
theorem wk_second {j i : Nat} (hj : ∀ k, k < j → wd s V root k / 2 ≠ wd s V root j / 2) (hji : j < i) (e : wd s V root i / 2 = wd s V root j / 2) : wk s V root i = wk s V root j + 1 := by
  have h1 := wed_first hs he hr hV hj i hji
  have e1 : nth (wst s V root i).ed ((wst s V root i).d / 2) = (wk s V root j : Int) + 1 := by
    rw [← h1]
    show nth _ (wd s V root i / 2) = _
    rw [e]
  show wkind s (wst s V root i) = _
  unfold wkind
  rw [e1, if_neg (by omega)]
  rcases wk_first hs he hr hV hj with k | k
  · rw [k, if_pos (by decide)]
  · rw [k, if_neg (by decide)]

/-- each dart's mate comes too; of the two the first has the lower kind -/
theorem wpair {j : Nat} (hj : j < partC' s root) : ∃ i, i < partC' s root ∧ i ≠ j ∧ wd s V root i = wd s V root j ^^^ 1 ∧
    (j < i → (wk s V root j = 0 ∨ wk s V root j = 2) ∧ wk s V root i = wk s V root j + 1) ∧ (i < j → (wk s V root i = 0 ∨ wk s V root i = 2) ∧ wk s V root j = wk s V root i + 1) := by
  obtain ⟨hp, h0, hmin⟩ := wlen hs he hr hV
  have hall := wall hs he hr hV h0 hp hmin
  have hdl := (winv hs he hr hV j).lt j (Nat.le_refl _)
  obtain ⟨i, hi, ei⟩ := (hall (wd s V root j ^^^ 1)).1 ((Con.per hs).trans ((hall _).2 ⟨j, hj, rfl⟩) (Con.mate hs he hdl))
  have hne : i ≠ j := fun e => by subst e; exact xor_one_ne _ ei.symm
  have hhalf : wd s V root i / 2 = wd s V root j / 2 := by rw [ei, xor_one_div]
  have hdist := fun {a b : Nat} (h1 : a < b) (h2 : b < partC' s root) => wdist hs he hr hV hp hmin h1 h2
  have hfirst : ∀ {a b : Nat}, a < b → b < partC' s root → wd s V root b / 2 = wd s V root a / 2 → ∀ k, k < a → wd s V root k / 2 ≠ wd s V root a / 2 := fun {a b} hab hb e k hk ek => by
    rcases half_eq ek with e1 | e1
    · exact hdist hk (by omega) e1
    · rcases half_eq e with e2 | e2
      · exact hdist hab hb e2.symm
      · exact hdist (show k < b by omega) hb (by rw [e1, e2])
  refine ⟨i, hi, hne, ei, fun hji => ?_, fun hij => ?_⟩
  · have hf := hfirst hji hi hhalf
    exact ⟨wk_first hs he hr hV hf, wk_second hs he hr hV hf hji hhalf⟩
  · have hf := hfirst hij hj hhalf.symm
    exact ⟨wk_first hs he hr hV hf, wk_second hs he hr hV hf hij hhalf.symm⟩

theorem wpairs_le (a b : Nat) (h : ∀ j i, j < partC' s root → i < partC' s root → wk s V root j = a → wd s V root i = wd s V root j ^^^ 1 → i ≠ j → wk s V root i = b) : wcnt s V root a (partC' s root) ≤ wcnt s V root b (partC' s root) := by
  obtain ⟨hp, h0, hmin⟩ := wlen hs he hr hV
  rw [wcnt_tally, wcnt_tally]
  have hex : ∀ j, ∃ i, j < partC' s root → i < partC' s root ∧ i ≠ j ∧ wd s V root i = wd s V root j ^^^ 1 := fun j => by
    by_cases hj : j < partC' s root
    · obtain ⟨i, h1, h2, h3, _⟩ := wpair hs he hr hV hj
      exact ⟨i, fun _ => ⟨h1, h2, h3⟩⟩
    · exact ⟨0, fun h => absurd h hj⟩
  refine tally_inj (fun j => Classical.choose (hex j)) (fun j hj hk => ?_) (fun i j hi hj _ _ e => ?_)
  · obtain ⟨h1, h2, h3⟩ := Classical.choose_spec (hex j) hj
    exact ⟨h1, h j _ hj h1 hk h3 h2⟩
  · obtain ⟨_, _, h3⟩ := Classical.choose_spec (hex i) hi
    obtain ⟨_, _, k3⟩ := Classical.choose_spec (hex j) hj
    have e : Classical.choose (hex i) = Classical.choose (hex j) := e
    rw [← e, h3] at k3
    have k4 : wd s V root i = wd s V root j := by have := congrArg (· ^^^ 1) k3; simpa [xor_one_one] using this
    rcases Nat.lt_trichotomy i j with k | k | k
    · exact absurd k4 (wdist hs he hr hV hp hmin k hj)
    · exact k
    · exact absurd k4.symm (wdist hs he hr hV hp hmin k hi)

/-- as many of a kind as of the other one of its sort -/
theorem wbal : wcnt s V root 0 (partC' s root) = wcnt s V root 1 (partC' s root) ∧ wcnt s V root 2 (partC' s root) = wcnt s V root 3 (partC' s root) := by
  have key : ∀ j i, j < partC' s root → i < partC' s root → wd s V root i = wd s V root j ^^^ 1 → i ≠ j → (j < i ∧ (wk s V root j = 0 ∨ wk s V root j = 2) ∧ wk s V root i = wk s V root j + 1) ∨ (i < j ∧ (wk s V root i = 0 ∨ wk s V root i = 2) ∧ wk s V root j = wk s V root i + 1) := fun j i hj hi e hne => by
    obtain ⟨hp, h0, hmin⟩ := wlen hs he hr hV
    obtain ⟨i', h1, h2, h3, h4, h5⟩ := wpair hs he hr hV hj
    have : i' = i := by
      rcases Nat.lt_trichotomy i' i with k | k | k
      · exact absurd (h3.trans e.symm) (wdist hs he hr hV hp hmin k hi)
      · exact k
      · exact absurd (e.trans h3.symm) (wdist hs he hr hV hp hmin k h1)
    subst this
    rcases Nat.lt_or_ge j i' with k | k
    · exact Or.inl ⟨k, h4 k⟩
    · exact Or.inr ⟨by omega, h5 (by omega)⟩
  constructor
  · refine Nat.le_antisymm (wpairs_le hs he hr hV 0 1 fun j i hj hi hk e hne => ?_) (wpairs_le hs he hr hV 1 0 fun j i hj hi hk e hne => ?_)
    · rcases key j i hj hi e hne with ⟨_, _, k⟩ | ⟨_, _, k⟩ <;> omega
    · rcases key j i hj hi e hne with ⟨_, _, k⟩ | ⟨_, _, k⟩ <;> omega
  · refine Nat.le_antisymm (wpairs_le hs he hr hV 2 3 fun j i hj hi hk e hne => ?_) (wpairs_le hs he hr hV 3 2 fun j i hj hi hk e hne => ?_)
    · rcases key j i hj hi e hne with ⟨_, _, k⟩ | ⟨_, k', k⟩ <;> omega
    · rcases key j i hj hi e hne with ⟨_, k', k⟩ | ⟨_, _, k⟩ <;> omega

/-- the vertices met are one more than the edges opened -/
theorem wmet_count : ∀ i, tally (fun x => Least (cyc s.length (at' s)) x ∧ getB (wst s V root i).mt (vtx s x) = true) s.length = wcnt s V root 0 i + 1
  | 0 => by
    have h := winv hs he hr hV 0
    obtain ⟨l, _, hl, hl2⟩ := hs.pm.per.least root hr
    have hll := hs.pm.per.dom hl
    have hm : ∀ x, x < s.length → (getB (wst s V root 0).mt (vtx s x) = true ↔ cyc s.length (at' s) root x) := fun x hx => by
      rw [h.met x hx]
      exact cyc_congr h.pm fun z _ => psi_none (fun e => by show nth (List.replicate _ 0) e ≠ 1; rw [nth_rep]; decide) z
    rw [tally_but hll ⟨hl2, (hm l hll).2 (hs.pm.per.symm hl)⟩, tally_none fun x hx hk => ?_]
    · rfl
    · obtain ⟨⟨k1, k2⟩, k3⟩ := hk
      exact k3 (hs.pm.per.least_one k1 hl2 (hs.pm.per.symm (hs.pm.per.trans hl ((hm x hx).1 k2))))
  | i + 1 => by
    have ih := wmet_count i
    have h := winv hs he hr hV i
    have hdl := h.lt i (Nat.le_refl _)
    have e1 : (wst s V root (i + 1)).mt = wmt s (wst s V root i) := rfl
    have e2 : wcnt s V root 0 (i + 1) = wcnt s V root 0 i + if wk s V root i = 0 then 1 else 0 := rfl
    rw [e1, e2]
    unfold wmt
    by_cases hk : wk s V root i = 0
    · have hk' : wkind s (wst s V root i) = 0 := hk
      rw [if_pos hk, if_pos hk']
      have hml := xor_one_lt he hdl
      have hvl : vtx s (wd s V root i ^^^ 1) < (wst s V root i).mt.length := by rw [h.mtl]; have := vtx_lt hs hml; omega
      have hum : ¬ getB (wst s V root i).mt (vtx s (wd s V root i ^^^ 1)) = true := fun hm => by
        unfold wkind at hk'
        split at hk'
        · have hm' : getB (wst s V root i).mt (vtx s ((wst s V root i).d ^^^ 1)) = true := hm
          rw [if_pos hm'] at hk'
          omega
        · split at hk' <;> omega
      obtain ⟨l, _, hl, hl2⟩ := hs.pm.per.least (wd s V root i ^^^ 1) hml
      have hll := hs.pm.per.dom hl
      have hlv := (vtx_cyc hs hll hml).2 hl
      have hset : ∀ v, getB ((wst s V root i).mt.set (vtx s ((wst s V root i).d ^^^ 1)) true) v = if vtx s (wd s V root i ^^^ 1) = v then true else getB (wst s V root i).mt v := fun v => getB_set hvl
      rw [tally_but hll ⟨hl2, by rw [hset, if_pos hlv.symm]⟩]
      have : tally (fun x => (Least (cyc s.length (at' s)) x ∧ getB ((wst s V root i).mt.set (vtx s ((wst s V root i).d ^^^ 1)) true) (vtx s x) = true) ∧ x ≠ l) s.length = tally (fun x => Least (cyc s.length (at' s)) x ∧ getB (wst s V root i).mt (vtx s x) = true) s.length := tally_congr fun x hx => by
        rw [hset]
        constructor
        · rintro ⟨⟨a, b⟩, c⟩
          refine ⟨a, ?_⟩
          by_cases e : vtx s (wd s V root i ^^^ 1) = vtx s x
          · exact absurd (hs.pm.per.least_one a hl2 ((vtx_cyc hs hx hll).1 (by rw [← e, hlv]))) c
          · rwa [if_neg e] at b
        · rintro ⟨a, b⟩
          refine ⟨⟨a, by split; rfl; exact b⟩, fun e => ?_⟩
          subst e
          rw [hlv] at b
          exact hum b
      rw [this, ih]
    · have hk' : ¬ wkind s (wst s V root i) = 0 := hk
      rw [if_neg hk, if_neg hk', ih]

/-- a tree: an edge less than vertices of the part -/
theorem wtree : wcnt s V root 0 (partC' s root) + 1 = vcnt s (partsL s) (nth (partsL s) root) s.length := by
  obtain ⟨hp, h0, hmin⟩ := wlen hs he hr hV
  have hall := wall hs he hr hV h0 hp hmin
  have h := winv hs he hr hV (partC' s root)
  rw [← wmet_count hs he hr hV, vcnt_tally hs _ _ (Nat.le_refl _)]
  refine tally_congr fun x hx => ?_
  have : getB (wst s V root (partC' s root)).mt (vtx s x) = true ↔ nth (partsL s) x = nth (partsL s) root := by
    rw [h.met x hx, (partsL_ord hs he).rel x root hx hr]
    constructor
    · intro hc; exact (Con.per hs).symm (h.con x hc)
    · intro hc
      obtain ⟨j, hj, e⟩ := (hall x).1 ((Con.per hs).symm hc)
      refine ⟨hr, hx, j, ?_⟩
      rw [← h.path_it j (by omega), e]
  rw [this]
  exact ⟨fun h => ⟨h.2, h.1⟩, fun h => ⟨h.2, h.1⟩⟩

theorem wpart : (partC' s root : Nat) = dcnt (partsL s) (nth (partsL s) root) s.length := by
  have _h := hV
  have key : ∀ j, j ≤ s.length → dcnt (partsL s) (nth (partsL s) root) j = tally (fun x => nth (partsL s) x = nth (partsL s) root) j := fun j => by
    induction j with
    | zero => intro _; rfl
    | succ j ih =>
      intro hj
      rw [dcnt_succ, tally_succ, ih (by omega)]
      by_cases h : nth (partsL s) j = nth (partsL s) root
      · rw [if_pos h, ind_yes h]
      · rw [if_neg h, ind_no h]
  rw [key _ (Nat.le_refl _)]
  exact tally_congr fun x hx => by
    rw [(partsL_ord hs he).rel x root hx hr]
    exact ⟨fun h => (Con.per hs).symm h, fun h => (Con.per hs).symm h⟩
end

end Go.Proofs.Ytnbecpeiodcohaa
