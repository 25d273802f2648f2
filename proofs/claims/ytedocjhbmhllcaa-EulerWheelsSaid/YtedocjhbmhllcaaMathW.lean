/- Wheels and cycles of 3 to 14, by evaluation. Conditions: none. -/
import Derived.Test.YtedocjhbmhllcaaEulE
import Derived.Test.YtedocjhbmhllcaaLaw8E
namespace Go.Proofs.Ytedocjhbmhllcaa
set_option linter.unusedVariables false

def whStep (n : Nat) (l : List Nat) (i : Nat) : List Nat :=
  (((l.set (2 * i) (2 * (n + i) + 1)).set (2 * (n + i) + 1) (2 * ((i + n - 1) % n) + 1)).set (2 * ((i + n - 1) % n) + 1) (2 * i)).set (2 * (n + i)) (2 * (n + (i + 1) % n))
def whGo (n k : Nat) : List Nat := (List.range k).foldl (whStep n) (List.replicate (4 * n) 0)
def whL (n : Nat) : List Nat := whGo n n
def cyStep (n : Nat) (l : List Nat) (i : Nat) : List Nat := (l.set (2 * i) (2 * ((i + n - 1) % n) + 1)).set (2 * ((i + n - 1) % n) + 1) (2 * i)
def cyGo (n k : Nat) : List Nat := (List.range k).foldl (cyStep n) (List.replicate (2 * n) 0)
def cyL (n : Nat) : List Nat := cyGo n n
theorem whGo_succ (n k : Nat) : whGo n (k + 1) = whStep n (whGo n k) k := by simp [whGo, List.range_succ]
theorem cyGo_succ (n k : Nat) : cyGo n (k + 1) = cyStep n (cyGo n k) k := by simp [cyGo, List.range_succ]
theorem whGo_length (n : Nat) : ∀ k, (whGo n k).length = 4 * n
  | 0 => by simp [whGo]
  | k + 1 => by rw [whGo_succ]; unfold whStep; simp [whGo_length n k]
theorem cyGo_length (n : Nat) : ∀ k, (cyGo n k).length = 2 * n
  | 0 => by simp [cyGo]
  | k + 1 => by rw [cyGo_succ]; unfold cyStep; simp [cyGo_length n k]

def permB (s : List Nat) : Bool := decide s.Nodup && s.all (fun x => decide (x < s.length))
theorem permB_iff {s : List Nat} (h : permB s = true) : IsPerm s := by
  unfold permB at h
  rw [Bool.and_eq_true, decide_eq_true_eq, List.all_eq_true] at h
  exact ⟨h.1, fun x hx => by have := h.2 x hx; simpa using this⟩
def sparse (N : List Int) (E : Nat) : Bool := (List.range E).all fun e => nth N (2 * e) != nth N (2 * e + 1) && (List.range e).all fun f =>
  !((nth N (2 * f) == nth N (2 * e) && nth N (2 * f + 1) == nth N (2 * e + 1)) || (nth N (2 * f) == nth N (2 * e + 1) && nth N (2 * f + 1) == nth N (2 * e)))
theorem sparse_simp {s : List Nat} (h : sparse (namesL s) (s.length / 2) = true) : simpB s = true := by
  unfold sparse at h
  rw [List.all_eq_true] at h
  have h1 : ∀ e, e < s.length / 2 → loopB s e = false ∧ dblB s e = false := fun e he => by
    have := h e (by simp [he])
    rw [Bool.and_eq_true, List.all_eq_true] at this
    have hl : loopB s e = false := by
      unfold loopB
      simpa using this.1
    refine ⟨hl, ?_⟩
    unfold dblB
    rw [hl]
    simp only [Bool.not_false, Bool.true_and]
    rw [List.any_eq_false]
    intro f hf
    have := this.2 f hf
    intro hp
    unfold pairB at hp
    rw [hp] at this
    cases this
  have h2 : ∀ e, e ≤ s.length / 2 → loopsTo s e = 0 ∧ dblsTo s e = 0 := fun e => by
    induction e with
    | zero => intro _; exact ⟨rfl, rfl⟩
    | succ e ih =>
      intro he
      obtain ⟨a, b⟩ := ih (by omega)
      obtain ⟨c, d⟩ := h1 e (by omega)
      unfold loopsTo dblsTo
      rw [a, b, c, d]
      exact ⟨rfl, rfl⟩
  unfold simpB
  have := h2 _ (Nat.le_refl _)
  exact decide_eq_true this
theorem plane_of {s : List Nat} (hs : IsPerm s) (he : s.length % 2 = 0) (h1 : partsN s = 1) (h : (sizesL s).length + (sizesL (phiL s)).length = s.length / 2 + 2) : genusL s = 0 := by
  have h2 := (genOf_euler hs he (k := 0) (by omega)).2
  have hN : ∀ x, x < s.length → 0 ≤ nth (partsL s) x ∧ nth (partsL s) x < ((1 : Nat) : Int) := fun x hx => by have := partsL_lt hs he hx; rwa [h1] at this
  have hp := phiL_perm hs he
  have e2 := vcnt_whole hp (N := partsL s) (fun x hx => hN x (by rw [phiL_length] at hx; exact hx))
  rw [phiL_length] at e2
  have h3 : 0 + ecnt (partsL s) ((0 : Nat) : Int) s.length = s.length / 2 := sum_ecnt (C := 1) hN (Nat.le_refl _)
  rw [vcnt_whole hs hN, e2] at h2
  unfold genusL
  rw [h1]
  show 0 + genOf s (partsL s) 0 = 0
  omega

def wheelB (n : Nat) : Bool := permB (whL n) && ((partsN (whL n) == 1) && (((sizesL (whL n)).length == n + 1) && (((sizesL (phiL (whL n))).length == n + 1) && (sparse (namesL (whL n)) (2 * n) && (triTo (whL n) (4 * n) == (n == 3))))))
def cycleB (n : Nat) : Bool := permB (cyL n) && ((partsN (cyL n) == 1) && (((sizesL (cyL n)).length == n) && (((sizesL (phiL (cyL n))).length == 2) && (sparse (namesL (cyL n)) n && (triTo (cyL n) (2 * n) == (n == 3))))))
theorem wheels_ok : ∀ k, k < 12 → wheelB (k + 3) = true ∧ cycleB (k + 3) = true := by decide +kernel

theorem wheel_facts {n : Nat} (h3 : 3 ≤ n) (h14 : n ≤ 14) : IsPerm (whL n) ∧ partsN (whL n) = 1 ∧ (sizesL (whL n)).length = n + 1 ∧ (sizesL (phiL (whL n))).length = n + 1 ∧ genusL (whL n) = 0 ∧ simpB (whL n) = true ∧ triB (whL n) 0 = (n == 3) := by
  have h := (wheels_ok (n - 3) (by omega)).1
  rw [show n - 3 + 3 = n by omega] at h
  unfold wheelB at h
  simp only [Bool.and_eq_true, beq_iff_eq] at h
  obtain ⟨h1, h2, h3', h4, h5, h6⟩ := h
  have hs := permB_iff h1
  have hl : (whL n).length = 4 * n := whGo_length n n
  have hg : genusL (whL n) = 0 := plane_of hs (by rw [hl]; omega) h2 (by rw [h3', h4, hl]; omega)
  have hsp : simpB (whL n) = true := sparse_simp (by rw [hl, show 4 * n / 2 = 2 * n by omega]; exact h5)
  refine ⟨hs, h2, h3', h4, hg, hsp, ?_⟩
  unfold triB
  rw [h2, h3', hg, hsp, hl, h6, decide_eq_true (show 3 ≤ n + 1 + 0 by omega)]
  rfl
theorem cycle_facts {n : Nat} (h3 : 3 ≤ n) (h14 : n ≤ 14) : IsPerm (cyL n) ∧ partsN (cyL n) = 1 ∧ (sizesL (phiL (cyL n))).length = 2 ∧ genusL (cyL n) = 0 ∧ triB (cyL n) 0 = (n == 3) := by
  have h := (wheels_ok (n - 3) (by omega)).2
  rw [show n - 3 + 3 = n by omega] at h
  unfold cycleB at h
  simp only [Bool.and_eq_true, beq_iff_eq] at h
  obtain ⟨h1, h2, h3', h4, h5, h6⟩ := h
  have hs := permB_iff h1
  have hl : (cyL n).length = 2 * n := cyGo_length n n
  have hg : genusL (cyL n) = 0 := plane_of hs (by rw [hl]; omega) h2 (by rw [h3', h4, hl]; omega)
  have hsp : simpB (cyL n) = true := sparse_simp (by rw [hl, show 2 * n / 2 = n by omega]; exact h5)
  refine ⟨hs, h2, h4, hg, ?_⟩
  unfold triB
  rw [h2, h3', hg, hsp, hl, h6, decide_eq_true (show 3 ≤ n + 0 by omega)]
  rfl

end Go.Proofs.Ytedocjhbmhllcaa
