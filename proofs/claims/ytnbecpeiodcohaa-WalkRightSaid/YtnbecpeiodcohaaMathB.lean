/- Orbits, and their names: plain law. Conditions: none. -/
import Derived.Test.YtnbecpeiodcohaaMath
namespace Go.Proofs.Ytnbecpeiodcohaa
set_option linter.unusedVariables false

theorem orbitGo_it {s : List Nat} {i f x y : Nat} (h : y ∈ orbitGo s i f x) : ∃ j, it s j x = y := by
  induction f generalizing x with
  | zero => simp [orbitGo] at h
  | succ f ih =>
    unfold orbitGo at h
    split at h
    · simp at h
    · rcases List.mem_cons.1 h with rfl | h
      · exact ⟨0, rfl⟩
      · obtain ⟨j, hj⟩ := ih h
        exact ⟨j + 1, hj⟩

theorem orbitGo_has {s : List Nat} {i : Nat} : ∀ (f x : Nat), Reach s i f x → ∀ j, (∃ j', j' ≤ j ∧ it s j' x = i) ∨ it s j x ∈ orbitGo s i f x := by
  intro f
  induction f with
  | zero =>
    intro x hr j
    obtain ⟨j', h, e⟩ := hr
    exact Or.inl ⟨j', by omega, e⟩
  | succ f ih =>
    intro x hr j
    by_cases hx : x = i
    · exact Or.inl ⟨0, Nat.zero_le _, hx⟩
    · obtain ⟨f', hf, hr'⟩ := hr.next hx
      obtain rfl : f = f' := by omega
      rw [orbitGo_next hx]
      match j with
      | 0 => exact Or.inr (List.mem_cons_self)
      | j + 1 =>
        rcases ih _ hr' j with ⟨j', h1, h2⟩ | h
        · exact Or.inl ⟨j' + 1, by omega, h2⟩
        · exact Or.inr (List.mem_cons_of_mem _ h)

theorem IsPerm.mem_orbit {s : List Nat} (h : IsPerm s) {i : Nat} (hi : i < s.length) {x : Nat} : x ∈ orbitL s i ↔ ∃ j, it s j i = x := by
  constructor
  · intro hx
    rcases List.mem_cons.1 hx with rfl | hx
    · exact ⟨0, rfl⟩
    · obtain ⟨j, hj⟩ := orbitGo_it hx
      exact ⟨j + 1, hj⟩
  · rintro ⟨j, rfl⟩
    induction j using Nat.strongRecOn with
    | ind j ih =>
      match j with
      | 0 => exact List.mem_cons_self
      | j + 1 =>
        rcases orbitGo_has _ _ (h.reach hi) j with ⟨j', h1, h2⟩ | h'
        · have e : it s (j + 1) i = it s (j - j') i := by
            rw [show j + 1 = (j - j') + (j' + 1) by omega, it_add]
            congr 1
          rw [e]
          exact ih _ (by omega)
        · exact List.mem_cons_of_mem _ h'

theorem IsPerm.orbit_next {s : List Nat} (h : IsPerm s) {i : Nat} (hi : i < s.length) {x : Nat} (hx : x < s.length) : at' s x ∈ orbitL s i ↔ x ∈ orbitL s i := by
  rw [h.mem_orbit hi, h.mem_orbit hi]
  constructor
  · rintro ⟨j, hj⟩
    match j with
    | 0 =>
      obtain ⟨d, hd, _, e⟩ := h.cycle hi
      obtain ⟨d', rfl⟩ : ∃ d', d = d' + 1 := ⟨d - 1, by omega⟩
      refine ⟨d', h.inj (h.it_lt hi _) hx ?_⟩
      rw [← it_succ, e]
      exact hj
    | j + 1 =>
      rw [it_succ] at hj
      exact ⟨j, h.inj (h.it_lt hi _) hx hj⟩
  · rintro ⟨j, hj⟩
    exact ⟨j + 1, by rw [it_succ, hj]⟩

theorem nth_set {xs : List Int} {i j : Nat} {y : Int} (h : i < xs.length) : nth (xs.set i y) j = if i = j then y else nth xs j := by
  unfold nth
  rw [List.getD_eq_getElem?_getD, List.getElem?_set]
  split
  · rename_i e; subst e; simp
  · rw [List.getD_eq_getElem?_getD]

theorem nth_foldl_set (l : List Nat) (y : Int) (xs : List Int) (hl : ∀ x ∈ l, x < xs.length) (j : Nat) : nth (l.foldl (fun l x => l.set x y) xs) j = if j ∈ l then y else nth xs j := by
  induction l generalizing xs with
  | nil => simp
  | cons a l ih =>
    rw [List.foldl_cons, ih _ (fun x hx => by rw [List.length_set]; exact hl x (List.mem_cons_of_mem _ hx)), nth_set (hl a List.mem_cons_self)]
    by_cases h1 : j ∈ l
    · simp [h1]
    · by_cases h2 : a = j
      · simp [h2]
      · simp [h1, h2, Ne.symm h2]

/-- how far names have been told -/
structure NamesInv (s : List Nat) (k : Nat) (N : List Int) (C : Nat) : Prop where
  length : N.length = s.length
  val : ∀ x, x < s.length → nth N x = -1 ∨ (0 ≤ nth N x ∧ nth N x < C)
  same : ∀ x, x < s.length → nth N (at' s x) = nth N x
  told : ∀ x, x < s.length → x < k → 0 ≤ nth N x

theorem NamesInv.it {s : List Nat} {k : Nat} {N : List Int} {C : Nat} (h : NamesInv s k N C) (hs : IsPerm s) {i : Nat} (hi : i < s.length) (j : Nat) : nth N (Go.Proofs.Ytnbecpeiodcohaa.it s j i) = nth N i := by
  induction j with
  | zero => rfl
  | succ j ih => rw [it_succ, h.same _ (hs.it_lt hi j), ih]

theorem NamesInv.zero {s : List Nat} (hs : IsPerm s) : NamesInv s 0 (List.replicate s.length (-1)) 0 := by
  have key : ∀ x, x < s.length → nth (List.replicate s.length (-1)) x = -1 := fun x hx => by simp [nth, hx]
  exact ⟨by simp, fun x hx => Or.inl (key x hx), fun x hx => by rw [key x hx, key _ (hs.lt hx)], fun x hx h => by omega⟩

theorem NamesInv.step {s : List Nat} (hs : IsPerm s) {k : Nat} (hk : k < s.length) {N : List Int} {C : Nat} (h : NamesInv s k N C) : NamesInv s (k + 1) (nameStep s (N, C) k).1 (nameStep s (N, C) k).2 ∧
    (∀ x, x < s.length → 0 ≤ nth N x → nth (nameStep s (N, C) k).1 x = nth N x) ∧
    ((0 ≤ nth N k ∧ nth N k < C ∧ (nameStep s (N, C) k).2 = C) ∨ (nth N k = -1 ∧ nth (nameStep s (N, C) k).1 k = C ∧ (nameStep s (N, C) k).2 = C + 1)) := by
  have hg : N.getD k (-1) = nth N k := by
    have : k < N.length := by rw [h.length]; exact hk
    simp [nth, this]
  by_cases hold : 0 ≤ nth N k
  · rw [nameStep, if_pos (show 0 ≤ (N, C).1.getD k (-1) from by rw [hg]; exact hold)]
    refine ⟨⟨h.length, h.val, h.same, fun x hx hxk => ?_⟩, fun _ _ _ => rfl, Or.inl ⟨hold, ?_, rfl⟩⟩
    · by_cases e : x = k
      · subst e; exact hold
      · exact h.told x hx (by omega)
    · rcases h.val k hk with e | e
      · omega
      · exact e.2
  · have hm1 : nth N k = -1 := by
      rcases h.val k hk with e | e
      · exact e
      · omega
    have hst : nameStep s (N, C) k = ((orbitL s k).foldl (fun l x => l.set x (C : Int)) N, C + 1) := by
      unfold nameStep
      rw [if_neg (show ¬ 0 ≤ (N, C).1.getD k (-1) from by rw [hg]; exact hold)]
    rw [hst]
    have hlt : ∀ x ∈ orbitL s k, x < N.length := by rw [h.length]; exact orbitL_lt hs hk
    have hn := nth_foldl_set (orbitL s k) (C : Int) N hlt
    have horb : ∀ x, x ∈ orbitL s k → nth N x = -1 := fun x hx => by
      obtain ⟨j, rfl⟩ := (hs.mem_orbit hk).1 hx
      rw [h.it hs hk, hm1]
    have hkk : k ∈ orbitL s k := List.mem_cons_self
    refine ⟨⟨by rw [foldl_set_length]; exact h.length, fun x hx => ?_, fun x hx => ?_, fun x hx hxk => ?_⟩, fun x hx h0 => ?_, Or.inr ⟨hm1, ?_, rfl⟩⟩
    · show nth ((orbitL s k).foldl (fun l x => l.set x (C : Int)) N) x = -1 ∨ _
      rw [hn]
      split
      · right; simp; omega
      · rcases h.val x hx with e | e
        · exact Or.inl e
        · right; simp; omega
    · show nth ((orbitL s k).foldl (fun l x => l.set x (C : Int)) N) (at' s x) = nth ((orbitL s k).foldl (fun l x => l.set x (C : Int)) N) x
      rw [hn, hn, h.same x hx]
      by_cases e : x ∈ orbitL s k
      · rw [if_pos e, if_pos ((hs.orbit_next hk hx).2 e)]
      · rw [if_neg e, if_neg (fun e' => e ((hs.orbit_next hk hx).1 e'))]
    · show 0 ≤ nth ((orbitL s k).foldl (fun l x => l.set x (C : Int)) N) x
      rw [hn]
      split
      · omega
      · rename_i hne
        refine h.told x hx ?_
        have : x ≠ k := fun e => hne (e ▸ hkk)
        omega
    · show nth ((orbitL s k).foldl (fun l x => l.set x (C : Int)) N) x = nth N x
      rw [hn, if_neg (fun e => by have := horb x e; omega)]
    · show nth ((orbitL s k).foldl (fun l x => l.set x (C : Int)) N) k = C
      rw [hn, if_pos hkk]

theorem namesGo_inv {s : List Nat} (hs : IsPerm s) (k : Nat) (hk : k ≤ s.length) : NamesInv s k (namesGo s k).1 (namesGo s k).2 := by
  induction k with
  | zero => exact NamesInv.zero hs
  | succ k ih =>
    rw [namesGo_succ]
    exact (NamesInv.step hs (by omega) (ih (by omega))).1

theorem namesGo_keeps {s : List Nat} (hs : IsPerm s) {k : Nat} (hk : k < s.length) {x : Nat} (hx : x < s.length) (h0 : 0 ≤ nth (namesGo s k).1 x) : nth (namesGo s (k + 1)).1 x = nth (namesGo s k).1 x := by
  rw [namesGo_succ]
  exact (NamesInv.step hs hk (namesGo_inv hs k (by omega))).2.1 x hx h0

theorem namesGo_final {s : List Nat} (hs : IsPerm s) {k : Nat} (hk : k ≤ s.length) {x : Nat} (hx : x < s.length) (h0 : 0 ≤ nth (namesGo s k).1 x) : nth (namesL s) x = nth (namesGo s k).1 x := by
  have key : ∀ d, k + d ≤ s.length → nth (namesGo s (k + d)).1 x = nth (namesGo s k).1 x := by
    intro d
    induction d with
    | zero => intro _; rfl
    | succ d ih =>
      intro hd
      have e := ih (by omega)
      rw [show k + (d + 1) = (k + d) + 1 by omega, namesGo_keeps hs (by omega) hx (by rw [e]; exact h0), e]
  have := key (s.length - k) (by omega)
  rw [show k + (s.length - k) = s.length by omega] at this
  exact this

/-- each name is one that has been, or the next one -/
theorem names_next {s : List Nat} (hs : IsPerm s) {k : Nat} (hk : k < s.length) :
    (0 ≤ nth (namesL s) k ∧ nth (namesL s) k < (namesGo s k).2 ∧ (namesGo s (k + 1)).2 = (namesGo s k).2) ∨ (nth (namesL s) k = (namesGo s k).2 ∧ (namesGo s (k + 1)).2 = (namesGo s k).2 + 1) := by
  have hI := namesGo_inv hs k (by omega)
  obtain ⟨h1, h2, h3⟩ := NamesInv.step hs hk hI
  rw [show nameStep s ((namesGo s k).1, (namesGo s k).2) k = namesGo s (k + 1) from (namesGo_succ s k).symm] at h1 h2 h3
  rcases h3 with ⟨a, b, c⟩ | ⟨a, b, c⟩
  · left
    rw [namesGo_final hs (k := k) (by omega) hk a]
    exact ⟨a, b, c⟩
  · right
    rw [namesGo_final hs (k := k + 1) (by omega) hk (by rw [b]; omega), b]
    exact ⟨rfl, c⟩

def sizesGo (s : List Nat) (k : Nat) : List Int := ((namesL s).take k).foldl sizeStep []
theorem sizesGo_zero (s : List Nat) : sizesGo s 0 = [] := by simp [sizesGo]
theorem sizesGo_succ {s : List Nat} {k : Nat} (hk : k < s.length) : sizesGo s (k + 1) = sizeStep (sizesGo s k) (nth (namesL s) k) := by
  have h : k < (namesL s).length := by rw [namesL_length]; exact hk
  unfold sizesGo
  rw [foldl_take_succ _ _ _ _ h]
  simp [nth, h]
theorem sizesGo_all (s : List Nat) : sizesGo s s.length = sizesL s := by
  unfold sizesGo sizesL
  rw [List.take_of_length_le (by rw [namesL_length]; exact Nat.le_refl _)]

theorem sizeStep_new' {xs : List Int} : sizeStep xs (xs.length : Int) = (xs ++ [0]).set xs.length 1 := by
  unfold sizeStep
  simp
theorem sizeStep_old' {xs : List Int} {k : Nat} (h : k < xs.length) : sizeStep xs (k : Int) = xs.set k (nth xs k + 1) := by
  unfold sizeStep
  rw [if_neg (by omega)]
  simp [nth]
theorem sizesGo_length {s : List Nat} (hs : IsPerm s) (k : Nat) (hk : k ≤ s.length) : (sizesGo s k).length = (namesGo s k).2 := by
  induction k with
  | zero => simp [sizesGo_zero, namesGo_zero]
  | succ k ih =>
    have ih := ih (by omega)
    rw [sizesGo_succ (by omega)]
    unfold sizeStep
    rcases names_next hs (k := k) (by omega) with ⟨a, b, c⟩ | ⟨a, c⟩
    · rw [if_neg (by omega)]; simp only [List.length_set]; omega
    · rw [if_pos (by omega)]; simp only [List.length_set, List.length_append, List.length_cons, List.length_nil]; omega

theorem sizesGo_bound {s : List Nat} (k : Nat) (hk : k ≤ s.length) (j : Nat) : 0 ≤ nth (sizesGo s k) j ∧ nth (sizesGo s k) j ≤ k := by
  induction k generalizing j with
  | zero => simp [sizesGo_zero, nth]
  | succ k ih =>
    have ih := ih (by omega)
    rw [sizesGo_succ (by omega)]
    unfold sizeStep
    have key : ∀ (m : List Int), (∀ j, 0 ≤ nth m j ∧ nth m j ≤ k) → ∀ i, 0 ≤ nth (m.set i (m.getD i 0 + 1)) j ∧ nth (m.set i (m.getD i 0 + 1)) j ≤ (k + 1 : Nat) := by
      intro m hm i
      have hj := hm j
      have hi := hm i
      by_cases h : i < m.length
      · rw [nth_set h]
        split
        · unfold nth at hi; omega
        · omega
      · rw [List.set_eq_of_length_le (by omega)]; omega
    refine key _ (fun j => ?_) _
    split
    · have hj := ih j
      unfold nth at hj ⊢
      rw [List.getD_eq_getElem?_getD, List.getElem?_append]
      split
      · rw [List.getD_eq_getElem?_getD] at hj; exact hj
      · rename_i h1
        rcases Nat.lt_or_ge (j - (sizesGo s k).length) 1 with h2 | h2
        · rw [show j - (sizesGo s k).length = 0 by omega]; simp
        · rw [List.getElem?_eq_none (by simpa using h2)]; simp
    · exact ih j

theorem xor_one (i : Nat) : i ^^^ 1 = if i % 2 = 0 then i + 1 else i - 1 := by
  have h1 : (i ^^^ 1) % 2 = (i + 1) % 2 := by
    have : (i ^^^ 1) % 2 ^ 1 = (i % 2 ^ 1) ^^^ (1 % 2 ^ 1) := Nat.xor_mod_two_pow
    simp only [Nat.pow_one] at this
    rw [this]
    rcases Nat.mod_two_eq_zero_or_one i with h | h
    · rw [h, show (0 ^^^ 1 % 2 : Nat) = 1 from rfl]; omega
    · rw [h, show (1 ^^^ 1 % 2 : Nat) = 0 from rfl]; omega
  have h2 : (i ^^^ 1) / 2 = i / 2 := by
    have : (i ^^^ 1) / 2 ^ 1 = (i / 2 ^ 1) ^^^ (1 / 2 ^ 1) := Nat.xor_div_two_pow
    simpa using this
  split <;> omega
theorem xor_one_one (i : Nat) : (i ^^^ 1) ^^^ 1 = i := by rw [Nat.xor_assoc]; simp
theorem xor_one_lt {n i : Nat} (hn : n % 2 = 0) (hi : i < n) : i ^^^ 1 < n := by rw [xor_one]; split <;> omega

theorem phiL_length (s : List Nat) : (phiL s).length = s.length := by simp [phiL]
theorem phiL_at {s : List Nat} {d : Nat} (h : d < s.length) : at' (phiL s) d = at' s (d ^^^ 1) := by
  rw [at'_eq (by rw [phiL_length]; exact h)]; simp [phiL]
theorem phiL_perm {s : List Nat} (hs : IsPerm s) (he : s.length % 2 = 0) : IsPerm (phiL s) := by
  refine ⟨List.pairwise_iff_getElem.2 fun i j hi hj hij e => ?_, fun x hx => ?_⟩
  · rw [phiL_length] at hi hj
    rw [← at'_eq (by rw [phiL_length]; exact hi), ← at'_eq (by rw [phiL_length]; exact hj), phiL_at hi, phiL_at hj] at e
    have := hs.inj (xor_one_lt he hi) (xor_one_lt he hj) e
    have h2 := congrArg (· ^^^ 1) this
    simp only [xor_one_one] at h2
    omega
  · obtain ⟨i, hi, rfl⟩ := List.mem_iff_getElem.1 hx
    rw [phiL_length] at hi ⊢
    rw [← at'_eq (by rw [phiL_length]; exact hi), phiL_at hi]
    exact hs.lt (xor_one_lt he hi)

/-- the turns along faces, told so far -/
def phiGo (s : List Nat) (k : Nat) : List Nat := (List.range s.length).map fun d => if d < k then at' s (d ^^^ 1) else 0
theorem phiGo_zero (s : List Nat) : phiGo s 0 = List.replicate s.length 0 := by
  refine List.ext_getElem (by simp [phiGo]) fun i h1 h2 => ?_
  simp [phiGo]
theorem phiGo_length (s : List Nat) (k : Nat) : (phiGo s k).length = s.length := by simp [phiGo]
theorem phiGo_succ {s : List Nat} {k : Nat} (hk : k < s.length) : phiGo s (k + 1) = (phiGo s k).set k (at' s (k ^^^ 1)) := by
  refine List.ext_getElem (by simp [phiGo]) fun i h1 h2 => ?_
  simp only [phiGo, List.getElem_map, List.getElem_range, List.getElem_set]
  by_cases h : k = i
  · subst h; simp
  · rw [if_neg h]
    by_cases h' : i < k
    · rw [if_pos h', if_pos (by omega)]
    · rw [if_neg h', if_neg (by omega)]
theorem phiGo_all (s : List Nat) : phiGo s s.length = phiL s := by
  refine List.ext_getElem (by simp [phiGo, phiL]) fun i h1 h2 => ?_
  rw [phiGo_length] at h1
  simp only [phiGo, phiL, List.getElem_map, List.getElem_range]
  rw [if_pos h1]

end Go.Proofs.Ytnbecpeiodcohaa
