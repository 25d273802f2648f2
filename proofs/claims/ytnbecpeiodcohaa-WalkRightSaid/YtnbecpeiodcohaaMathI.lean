/- A map's parts, edge by edge; Euler's bound: a genus is not below 0, and a whole number. Conditions: none. -/
import Derived.Test.YtnbecpeiodcohaaMathH
namespace Go.Proofs.Ytnbecpeiodcohaa
set_option linter.unusedVariables false

theorem IsPerm.pm {s : List Nat} (h : IsPerm s) : Pm s.length (at' s) := ⟨fun hx => h.lt hx, fun hx hy e => h.inj hx hy e⟩
theorem Pm.congr {n : Nat} {f g : Nat → Nat} (h : Pm n f) (e : ∀ x, x < n → f x = g x) : Pm n g :=
  ⟨fun {x} hx => by rw [← e x hx]; exact h.lt hx, fun {x y} hx hy h' => h.inj hx hy (by rw [e x hx, e y hy]; exact h')⟩

/-- the face permutation, where the first k edges alone are sewn -/
def fk (s : List Nat) (k x : Nat) : Nat := at' s (if x < 2 * k then x ^^^ 1 else x)
theorem fk_zero (s : List Nat) (x : Nat) : fk s 0 x = at' s x := by simp [fk]
theorem xor_even (k : Nat) : (2 * k) ^^^ 1 = 2 * k + 1 := by rw [xor_one]; simp
theorem xor_odd (k : Nat) : (2 * k + 1) ^^^ 1 = 2 * k := by rw [xor_one, if_neg (by omega)]; omega
theorem xor_one_ne (k : Nat) : k ^^^ 1 ≠ k := by rw [xor_one]; split <;> omega
theorem xor_one_div (k : Nat) : (k ^^^ 1) / 2 = k / 2 := by rw [xor_one]; split <;> omega
theorem fk_succ (s : List Nat) (k x : Nat) : fk s (k + 1) x = swp (fk s k) (2 * k) (2 * k + 1) x := by
  by_cases e1 : x = 2 * k
  · subst e1
    rw [swp_a]
    unfold fk
    rw [if_pos (by omega), if_neg (by omega), xor_even]
  · by_cases e2 : x = 2 * k + 1
    · subst e2
      rw [swp_b _ (by omega)]
      unfold fk
      rw [if_pos (by omega), if_neg (by omega), xor_odd]
    · rw [swp_o _ e1 e2]
      unfold fk
      by_cases h : x < 2 * k
      · rw [if_pos h, if_pos (by omega)]
      · rw [if_neg h, if_neg (by omega)]
theorem fk_pm {s : List Nat} (h : IsPerm s) : ∀ {k : Nat}, 2 * k ≤ s.length → Pm s.length (fk s k)
  | 0, _ => h.pm.congr fun x _ => (fk_zero s x).symm
  | k + 1, hk => ((fk_pm h (k := k) (by omega)).swap (a := 2 * k) (b := 2 * k + 1) (by omega) (by omega) (by omega)).congr fun x _ => (fk_succ s k x).symm
theorem fk_all {s : List Nat} {x : Nat} (h : s.length % 2 = 0) (hx : x < s.length) : fk s (s.length / 2) x = at' (phiL s) x := by
  rw [phiL_at hx]
  unfold fk
  rw [if_pos (by omega)]

/-- what comes together by s and the first k edges -/
def st (s : List Nat) : Nat → Nat → Nat → Prop
  | 0 => cyc s.length (at' s)
  | k + 1 => mrg (st s k) (2 * k) (2 * k + 1)
/-- of one part -/
def Con (s : List Nat) : Nat → Nat → Prop := st s (s.length / 2)

theorem st_per {s : List Nat} (h : IsPerm s) : ∀ {k : Nat}, 2 * k ≤ s.length → Per s.length (st s k)
  | 0, _ => h.pm.per
  | k + 1, hk => (st_per h (k := k) (by omega)).mrg (by omega) (by omega)
theorem st_mono {s : List Nat} {k x y : Nat} (h : st s k x y) : ∀ j, st s (k + j) x y
  | 0 => h
  | j + 1 => Or.inl (st_mono h j)
theorem st_le {s : List Nat} {k l x y : Nat} (h : st s k x y) (hk : k ≤ l) : st s l x y := by
  rw [show l = k + (l - k) by omega]; exact st_mono h _
theorem st_edge {s : List Nat} (h : IsPerm s) {k x : Nat} (hk : 2 * k ≤ s.length) (hx : x < 2 * k) : st s k x (x ^^^ 1) := by
  have key : st s (x / 2 + 1) (2 * (x / 2)) (2 * (x / 2) + 1) := by
    have hp := st_per h (k := x / 2) (by omega)
    exact Or.inr (Or.inl ⟨hp.refl (by omega), hp.refl (by omega)⟩)
  have key := st_le key (show x / 2 + 1 ≤ k by omega)
  by_cases e : x % 2 = 0
  · have e1 : x = 2 * (x / 2) := by omega
    rw [← e1] at key
    rw [xor_one, if_pos e]
    exact key
  · have e1 : 2 * (x / 2) + 1 = x := by omega
    rw [xor_one, if_neg e, ← show 2 * (x / 2) = x - 1 by omega]
    rw [e1] at key
    exact (st_per h hk).symm key
theorem st_s {s : List Nat} (h : IsPerm s) (k : Nat) {x : Nat} (hx : x < s.length) : st s k x (at' s x) := by
  have : st s 0 x (at' s x) := h.pm.step hx
  exact st_le this (Nat.zero_le _)
theorem st_fk {s : List Nat} (h : IsPerm s) (he : s.length % 2 = 0) {k : Nat} (hk : 2 * k ≤ s.length) {x y : Nat} (hc : cyc s.length (fk s k) x y) : st s k x y := by
  refine (fk_pm h hk).cyc_sub (st_per h hk) (fun z hz => ?_) hc
  unfold fk
  split
  · rename_i hz'
    exact (st_per h hk).trans (st_edge h hk hz') (st_s h k (xor_one_lt he hz))
  · exact st_s h k hz

theorem Con.per {s : List Nat} (h : IsPerm s) : Per s.length (Con s) := st_per h (by omega)
theorem Con.step {s : List Nat} (h : IsPerm s) {x : Nat} (hx : x < s.length) : Con s x (at' s x) := st_s h _ hx
theorem Con.mate {s : List Nat} (h : IsPerm s) (he : s.length % 2 = 0) {x : Nat} (hx : x < s.length) : Con s x (x ^^^ 1) := st_edge h (by omega) (by omega)
theorem st_sub {s : List Nat} (h : IsPerm s) {r : Nat → Nat → Prop} (hr : Per s.length r) (h1 : ∀ x, x < s.length → r x (at' s x)) (h2 : ∀ x, x < s.length → r x (x ^^^ 1)) :
    ∀ {k : Nat}, 2 * k ≤ s.length → ∀ {x y}, st s k x y → r x y
  | 0, _, x, y, hc => h.pm.cyc_sub hr h1 hc
  | k + 1, hk, x, y, hc => by
    have e : r (2 * k) (2 * k + 1) := by have := h2 (2 * k) (by omega); rwa [xor_even] at this
    rcases hc with k1 | ⟨k1, k2⟩ | ⟨k1, k2⟩
    · exact st_sub h hr h1 h2 (by omega) k1
    · exact hr.trans (st_sub h hr h1 h2 (by omega) k1) (hr.trans e (st_sub h hr h1 h2 (by omega) k2))
    · exact hr.trans (st_sub h hr h1 h2 (by omega) k1) (hr.trans (hr.symm e) (st_sub h hr h1 h2 (by omega) k2))
/-- it is the least such relation -/
theorem Con.sub {s : List Nat} (h : IsPerm s) {r : Nat → Nat → Prop} (hr : Per s.length r) (h1 : ∀ x, x < s.length → r x (at' s x)) (h2 : ∀ x, x < s.length → r x (x ^^^ 1)) {x y : Nat} (hc : Con s x y) : r x y :=
  st_sub h hr h1 h2 (by omega) hc

/-- closed under both steps -/
structure Closed (s : List Nat) (P : Nat → Prop) : Prop where
  turn : ∀ x, x < s.length → (P (at' s x) ↔ P x)
  mate : ∀ x, x < s.length → (P (x ^^^ 1) ↔ P x)

theorem Closed.st {s : List Nat} (h : IsPerm s) (he : s.length % 2 = 0) {P : Nat → Prop} (hP : Closed s P) {k : Nat} (hk : 2 * k ≤ s.length) {x y : Nat} (hx : P x) (hc : Go.Proofs.Ytnbecpeiodcohaa.st s k x y) : P y := by
  have : ∀ x y, (x < s.length ∧ y < s.length ∧ (P x ↔ P y)) → (P x → P y) := fun _ _ h => h.2.2.1
  exact this x y (st_sub h (r := fun x y => x < s.length ∧ y < s.length ∧ (P x ↔ P y)) ⟨fun hx => ⟨hx, hx, Iff.rfl⟩, fun h => ⟨h.2.1, h.1, h.2.2.symm⟩, fun h k => ⟨h.1, k.2.1, h.2.2.trans k.2.2⟩, fun h => h.1⟩ (fun z hz => ⟨hz, h.lt hz, (hP.turn z hz).symm⟩) (fun z hz => ⟨hz, xor_one_lt he hz, (hP.mate z hz).symm⟩) hk hc) hx

theorem Closed.fk {s : List Nat} (h : IsPerm s) (he : s.length % 2 = 0) {P : Nat → Prop} (hP : Closed s P) (k : Nat) {x : Nat} (hx : x < s.length) : P (Go.Proofs.Ytnbecpeiodcohaa.fk s k x) ↔ P x := by
  unfold Go.Proofs.Ytnbecpeiodcohaa.fk
  split
  · rw [hP.turn _ (xor_one_lt he hx), hP.mate _ hx]
  · exact hP.turn _ hx

/-- vertices and faces against edges and parts, edge by edge -/
theorem euler_go {s : List Nat} (h : IsPerm s) (he : s.length % 2 = 0) {P : Nat → Prop} (hP : Closed s P) : ∀ {k : Nat}, 2 * k ≤ s.length →
    ∃ t, cls (cyc s.length (at' s)) P s.length + cls (cyc s.length (fk s k)) P s.length + 2 * t = tally (fun e => P (2 * e)) k + 2 * cls (st s k) P s.length
  | 0, _ => ⟨0, by
    rw [tally_zero', cls_congr (r := cyc s.length (fk s 0)) (q := cyc s.length (at' s)) fun x y _ _ => cyc_congr (fk_pm h (by omega)) fun z _ => fk_zero s z]
    show _ = 0 + 2 * cls (cyc s.length (at' s)) P s.length
    omega⟩
  | k + 1, hk => by
    obtain ⟨t, ih⟩ := euler_go h he hP (k := k) (by omega)
    have hf := fk_pm h (k := k) (by omega)
    have e1 : cls (cyc s.length (fk s (k + 1))) P s.length = cls (cyc s.length (swp (fk s k) (2 * k) (2 * k + 1))) P s.length := cls_congr fun x y _ _ => cyc_congr (fk_pm h hk) fun z _ => fk_succ s k z
    have hmate : P (2 * k + 1) ↔ P (2 * k) := by have := hP.mate (2 * k) (by omega); rwa [xor_even] at this
    rw [tally_succ]
    by_cases hp : P (2 * k)
    · rw [ind_yes hp]
      have hp' := hmate.2 hp
      by_cases hc : st s k (2 * k) (2 * k + 1)
      · have e2 : cls (st s (k + 1)) P s.length = cls (st s k) P s.length := cls_congr fun x y _ _ => (st_per h (by omega)).mrg_same hc
        rcases hf.swp_cls (P := P) (fun x hx => hP.fk h he k hx) (a := 2 * k) (b := 2 * k + 1) (by omega) (by omega) (by omega) hp hp' with ⟨_, e3⟩ | ⟨_, e3⟩
        · exact ⟨t + 1, by omega⟩
        · exact ⟨t, by omega⟩
      · have e2 := cls_mrg (st_per h (k := k) (by omega)) (P := P) (fun x y hx hc => hP.st h he (by omega) hx hc) (a := 2 * k) (b := 2 * k + 1) (by omega) (by omega) hc hp hp'
        have e2 : cls (st s k) P s.length = cls (st s (k + 1)) P s.length + 1 := e2
        rcases hf.swp_cls (P := P) (fun x hx => hP.fk h he k hx) (a := 2 * k) (b := 2 * k + 1) (by omega) (by omega) (by omega) hp hp' with ⟨_, e3⟩ | ⟨h3, e3⟩
        · exact ⟨t, by omega⟩
        · exact absurd (st_fk h he (by omega) h3) hc
    · rw [ind_no hp]
      have hp' : ¬ P (2 * k + 1) := fun h => hp (hmate.1 h)
      have e2 : cls (st s k) P s.length = cls (st s (k + 1)) P s.length := cls_mrg_out (st_per h (k := k) (by omega)) (P := P) (fun x y hx hc => hP.st h he (by omega) hx hc) hp hp'
      have e3 := hf.swp_cls_out (P := P) (fun x hx => hP.fk h he k hx) (a := 2 * k) (b := 2 * k + 1) (by omega) (by omega) (by omega) hp hp'
      exact ⟨t, by omega⟩

/-- the edges that join nothing -/
theorem forest_go {s : List Nat} (h : IsPerm s) (he : s.length % 2 = 0) {P : Nat → Prop} (hP : Closed s P) : ∀ {k : Nat}, 2 * k ≤ s.length →
    cls (cyc s.length (at' s)) P s.length + tally (fun e => P (2 * e) ∧ st s e (2 * e) (2 * e + 1)) k = tally (fun e => P (2 * e)) k + cls (st s k) P s.length
  | 0, _ => by rw [tally_zero', tally_zero']; show _ = 0 + cls (cyc s.length (at' s)) P s.length; omega
  | k + 1, hk => by
    have ih := forest_go h he hP (k := k) (by omega)
    have hmate : P (2 * k + 1) ↔ P (2 * k) := by have := hP.mate (2 * k) (by omega); rwa [xor_even] at this
    rw [tally_succ, tally_succ]
    by_cases hp : P (2 * k)
    · rw [ind_yes hp]
      have hp' := hmate.2 hp
      by_cases hc : st s k (2 * k) (2 * k + 1)
      · have e2 : cls (st s (k + 1)) P s.length = cls (st s k) P s.length := cls_congr fun x y _ _ => (st_per h (by omega)).mrg_same hc
        rw [ind_yes ⟨hp, hc⟩]
        omega
      · have e2 := cls_mrg (st_per h (k := k) (by omega)) (P := P) (fun x y hx hc => hP.st h he (by omega) hx hc) (a := 2 * k) (b := 2 * k + 1) (by omega) (by omega) hc hp hp'
        have e2 : cls (st s k) P s.length = cls (st s (k + 1)) P s.length + 1 := e2
        rw [ind_no (fun h => hc h.2)]
        omega
    · have hp' : ¬ P (2 * k + 1) := fun h => hp (hmate.1 h)
      have e2 : cls (st s k) P s.length = cls (st s (k + 1)) P s.length := cls_mrg_out (st_per h (k := k) (by omega)) (P := P) (fun x y hx hc => hP.st h he (by omega) hx hc) hp hp'
      rw [ind_no hp, ind_no (fun h => hp h.1)]
      omega

end Go.Proofs.Ytnbecpeiodcohaa
