/- An orbit is as long as its name is often: plain law. Conditions: none. -/
import Derived.Test.YtnbecpeiodcohaaMathD
import Derived.Test.YtnbecpeiodcohaaPermF
namespace Go.Proofs.Ytnbecpeiodcohaa
set_option linter.unusedVariables false

theorem IsPerm.it_back {s : List Nat} (h : IsPerm s) {i : Nat} (hi : i < s.length) (a : Nat) : ∃ j, it s j (it s a i) = i := by
  induction a with
  | zero => exact ⟨0, rfl⟩
  | succ a ih =>
    obtain ⟨j, hj⟩ := ih
    obtain ⟨d, hd, _, e⟩ := h.cycle (h.it_lt hi a)
    obtain ⟨d', rfl⟩ : ∃ d', d = d' + 1 := ⟨d - 1, by omega⟩
    refine ⟨j + d', ?_⟩
    rw [it_add, it_succ, show it s d' (at' s (it s a i)) = it s a i from e, hj]

theorem namesGo_sep {s : List Nat} (hs : IsPerm s) (k : Nat) (hk : k ≤ s.length) : ∀ x y, x < s.length → y < s.length → 0 ≤ nth (namesGo s k).1 x → nth (namesGo s k).1 x = nth (namesGo s k).1 y → ∃ j, it s j x = y := by
  induction k with
  | zero =>
    intro x y hx hy h0
    rw [namesGo_zero] at h0
    have : nth (List.replicate s.length (-1)) x = -1 := by simp [nth, hx]
    rw [this] at h0
    exact absurd h0 (by decide)
  | succ k ih =>
    have ih := ih (by omega)
    have hk' : k < s.length := by omega
    have hI := namesGo_inv hs k (by omega)
    rw [namesGo_succ]
    obtain ⟨N, C, hNC⟩ : ∃ N C, namesGo s k = (N, C) := ⟨_, _, rfl⟩
    rw [hNC] at hI ih ⊢
    have hg : N.getD k (-1) = nth N k := by
      have : k < N.length := by rw [hI.length]; exact hk'
      simp [nth, this]
    by_cases hold : 0 ≤ nth N k
    · rw [nameStep, if_pos (show 0 ≤ (N, C).1.getD k (-1) from by rw [hg]; exact hold)]
      exact ih
    · have hst : nameStep s (N, C) k = ((orbitL s k).foldl (fun l x => l.set x (C : Int)) N, C + 1) := by
        unfold nameStep
        rw [if_neg (show ¬ 0 ≤ (N, C).1.getD k (-1) from by rw [hg]; exact hold)]
      rw [hst]
      have hlt : ∀ x ∈ orbitL s k, x < N.length := by rw [hI.length]; exact orbitL_lt hs hk'
      have hn := nth_foldl_set (orbitL s k) (C : Int) N hlt
      intro x y hx hy h0 he
      have h0 : 0 ≤ nth ((orbitL s k).foldl (fun l x => l.set x (C : Int)) N) x := h0
      have he : nth ((orbitL s k).foldl (fun l x => l.set x (C : Int)) N) x = nth ((orbitL s k).foldl (fun l x => l.set x (C : Int)) N) y := he
      rw [hn] at h0
      rw [hn, hn] at he
      have vx := hI.val x hx
      have vy := hI.val y hy
      simp only at vx vy ih
      by_cases ex : x ∈ orbitL s k
      · by_cases ey : y ∈ orbitL s k
        · obtain ⟨a, rfl⟩ := (hs.mem_orbit hk').1 ex
          obtain ⟨b, rfl⟩ := (hs.mem_orbit hk').1 ey
          obtain ⟨j, hj⟩ := hs.it_back hk' a
          exact ⟨b + j, by rw [it_add, hj]⟩
        · rw [if_pos ex, if_neg ey] at he
          omega
      · by_cases ey : y ∈ orbitL s k
        · rw [if_neg ex, if_pos ey] at he
          omega
        · rw [if_neg ex] at h0
          rw [if_neg ex, if_neg ey] at he
          exact ih x y hx hy h0 he

/-- the darts of one name are the orbit -/
theorem names_orbit {s : List Nat} (hs : IsPerm s) {k : Nat} (hk : k < s.length) {d : Nat} : d ∈ orbitL s k ↔ d < s.length ∧ nth (namesL s) d = nth (namesL s) k := by
  have hI := namesGo_inv hs s.length (Nat.le_refl _)
  constructor
  · intro h
    refine ⟨orbitL_lt hs hk d h, ?_⟩
    obtain ⟨j, rfl⟩ := (hs.mem_orbit hk).1 h
    exact hI.it hs hk j
  · intro ⟨hd, he⟩
    rw [hs.mem_orbit hk]
    exact namesGo_sep hs s.length (Nat.le_refl _) k d hk hd (hI.told k hk hk) he.symm

theorem orbitGo_it' {s : List Nat} {i : Nat} : ∀ (f x y : Nat), y ∈ orbitGo s i f x → ∃ j, it s j x = y ∧ ∀ j', j' ≤ j → it s j' x ≠ i
  | 0, x, y, h => by simp [orbitGo] at h
  | f + 1, x, y, h => by
    unfold orbitGo at h
    split at h
    · simp at h
    · rename_i hx
      have hx : x ≠ i := by simpa using hx
      rcases List.mem_cons.1 h with rfl | h
      · refine ⟨0, rfl, fun j' hj' => ?_⟩
        have e : j' = 0 := Nat.le_zero.1 hj'
        rw [e]
        exact hx
      · obtain ⟨j, h1, h2⟩ := orbitGo_it' f _ _ h
        refine ⟨j + 1, h1, fun j' hj' => ?_⟩
        rcases j' with _ | j'
        · exact hx
        · exact h2 j' (by omega)

theorem orbitGo_nodup {s : List Nat} {i : Nat} : ∀ (f x : Nat), Reach s i f x → (orbitGo s i f x).Nodup
  | 0, x, _ => by simp [orbitGo]
  | f + 1, x, h => by
    by_cases hx : x = i
    · subst hx; rw [orbitGo_end]; exact List.nodup_nil
    · obtain ⟨f', e, hr⟩ := h.next hx
      obtain rfl : f' = f := by omega
      rw [orbitGo_next hx, List.nodup_cons]
      refine ⟨fun hm => ?_, orbitGo_nodup _ _ hr⟩
      obtain ⟨j, h1, h2⟩ := orbitGo_it' _ _ _ hm
      have hno : ∀ J, it s J x ≠ i := by
        intro J
        induction J using Nat.strongRecOn with
        | ind J ih =>
          rcases J with _ | J
          · exact hx
          · by_cases hJ : J ≤ j
            · exact h2 J hJ
            · have e2 : it s (J + 1) x = it s (J - j) x := by
                rw [show J + 1 = (J - j) + (j + 1) by omega, it_add]
                rw [show it s (j + 1) x = x from h1]
              rw [e2]
              exact ih _ (by omega)
      obtain ⟨J, _, hJ⟩ := h
      exact hno J hJ

theorem orbitL_nodup {s : List Nat} (hs : IsPerm s) {i : Nat} (hi : i < s.length) : (orbitL s i).Nodup := by
  unfold orbitL
  rw [List.nodup_cons]
  refine ⟨fun h => ?_, orbitGo_nodup _ _ (hs.reach hi)⟩
  obtain ⟨j, h1, h2⟩ := orbitGo_it' _ _ _ h
  exact h2 j (Nat.le_refl _) h1

theorem tally_nodup : ∀ (n : Nat) (l : List Nat) (p : Nat → Bool), l.Nodup → (∀ d, d ∈ l ↔ d < n ∧ p d = true) → ∀ c : Nat → Int, c 0 = 0 → (∀ k, c (k + 1) = c k + if p k = true then 1 else 0) → (l.length : Int) = c n
  | 0, l, p, _, h, c, c0, _ => by
    have : l = [] := List.eq_nil_iff_forall_not_mem.2 fun d hd => by have := ((h d).1 hd).1; omega
    rw [this, c0]; rfl
  | n + 1, l, p, hl, h, c, c0, cs => by
    rw [cs]
    by_cases hp : p n = true
    · have hn : n ∈ l := (h n).2 ⟨by omega, hp⟩
      have hlen := List.length_erase_of_mem hn
      have hpos := List.length_pos_of_mem hn
      have := tally_nodup n (l.erase n) p (hl.erase n) (fun d => by
        rw [hl.mem_erase_iff, h]
        constructor
        · intro ⟨a, b, c⟩; exact ⟨by omega, c⟩
        · intro ⟨a, b⟩; exact ⟨by omega, by omega, b⟩) c c0 cs
      rw [if_pos hp]
      omega
    · rw [if_neg hp]
      have := tally_nodup n l p hl (fun d => by
        rw [h]
        constructor
        · intro ⟨a, b⟩
          refine ⟨?_, b⟩
          rcases Nat.lt_or_ge d n with h' | h'
          · exact h'
          · obtain rfl : d = n := by omega
            exact absurd b hp
        · intro ⟨a, b⟩; exact ⟨by omega, b⟩) c c0 cs
      omega

/-- an orbit is as long as its name is often -/
theorem orbit_size {s : List Nat} (hs : IsPerm s) {k y : Nat} (hk : k < s.length) (hy : nth (namesL s) k = (y : Int)) : nth (sizesL s) y = ((orbitL s k).length : Int) := by
  rw [sizesL_cnt hs]
  refine (tally_nodup s.length (orbitL s k) (fun d => decide (nth (namesL s) d = (y : Int))) (orbitL_nodup hs hk) (fun d => ?_) (cnt s y) rfl (fun k => ?_)).symm
  · rw [names_orbit hs hk, hy]; simp
  · simp [cnt]

theorem invGo_at {s : List Nat} (hs : IsPerm s) (k : Nat) (hk : k ≤ s.length) : ∀ x, x < k → at' (invGo s k) (at' s x) = x := by
  induction k with
  | zero => intro x hx; omega
  | succ k ih =>
    intro x hx
    have hkl : k < s.length := by omega
    rw [invGo_succ, at'_set (by rw [invGo_length]; exact hs.lt hkl)]
    by_cases e : x = k
    · subst e; rw [if_pos rfl]
    · rw [if_neg (fun h => e (hs.inj (show x < s.length by omega) hkl h.symm)), ih (by omega) x (by omega)]

/-- back from the next one -/
theorem invL_at {s : List Nat} (hs : IsPerm s) {x : Nat} (hx : x < s.length) : at' (invL s) (at' s x) = x := invGo_at hs _ (Nat.le_refl _) x hx

/-- the next one of the one before -/
theorem at_invL {s : List Nat} (hs : IsPerm s) {y : Nat} (hy : y < s.length) : at' s (at' (invL s) y) = y ∧ at' (invL s) y < s.length := by
  obtain ⟨d, hd, _, e⟩ := hs.cycle hy
  obtain ⟨d', rfl⟩ : ∃ d', d = d' + 1 := ⟨d - 1, by omega⟩
  rw [it_succ] at e
  have hx := hs.it_lt hy d'
  have h1 := invL_at hs hx
  rw [e] at h1
  rw [h1]
  exact ⟨e, hx⟩

end Go.Proofs.Ytnbecpeiodcohaa
