/- package perm: Back, with its memo. Conditions: permutations are registered. An orbit is as long as its name is often: plain law. Conditions: none. Counting, classes, what joining two classes does to their number; a permutation's cycles, and a swap of two of its values; Euler's bound. Conditions: none. A map's parts, edge by edge; Euler's bound: a genus is not below 0, and a whole number. Conditions: none. -/
import Derived.Test.YtcnmbenfnpjkjaaZSA03
import Derived.Test.YtcnmbenfnpjkjaaZSA06
import Derived.Test.YtcnmbenfnpjkjaaZSA01
namespace Go.Proofs.Ytcnmbenfnpjkjaa
open Go.RowKit
set_option linter.unusedVariables false

/-- all blocks but b are as they were -/
structure But (b : Nat) (w w' : World) : Prop where
  os : w'.os = w.os
  tape : w'.tape = w.tape
  output : w'.output = w.output
  size : w.heap.size ≤ w'.heap.size
  block : ∀ k, k < w.heap.size → k ≠ b → w'.heap[k]? = w.heap[k]?

theorem But.refl (b : Nat) (w : World) : But b w w := ⟨rfl, rfl, rfl, Nat.le_refl _, fun _ _ _ => rfl⟩
theorem But.trans {b : Nat} {w w1 w2 : World} (h : But b w w1) (k : But b w1 w2) : But b w w2 :=
  ⟨k.os.trans h.os, k.tape.trans h.tape, k.output.trans h.output, Nat.le_trans h.size k.size, fun i hi hb => (k.block i (Nat.lt_of_lt_of_le hi h.size) hb).trans (h.block i hi hb)⟩
theorem But.set {b : Nat} {w w1 : World} (h : But b w w1) (o : Nat) (u : Value) : But b w (w1.setCell ⟨b, o, none⟩ u) :=
  h.trans ⟨rfl, rfl, rfl, by simp, fun k _ hk => Below.heap_setCell _ _ _ _ hk⟩
theorem invGo_succ (s : List Nat) (k : Nat) : invGo s (k + 1) = (invGo s k).set (at' s k) k := by
  simp [invGo, List.range_succ]
theorem invGo_length (s : List Nat) (k : Nat) : (invGo s k).length = s.length := by
  induction k with
  | zero => simp [invGo]
  | succ k ih => rw [invGo_succ, List.length_set, ih]
theorem toI_set (s : List Nat) (i x : Nat) : toI (s.set i x) = (toI s).set i (x : Int) := by simp [toI]

def RetV (R : Reg) (w : World) (v : Value) (e : Ending) (w' : World) : Prop := e = .returned v ∧ ∃ R', Ev R w R' w'

theorem makeFunc_run (fn : Fn) (first cap : Array Value) (w : World) : (Instr.makeFunc fn first cap).run Try.prog w = .ok (.func fn first cap) w := rfl

end Go.Proofs.Ytcnmbenfnpjkjaa

namespace Go.Proofs.Ytcnmbenfnpjkjaa
set_option linter.unusedVariables false

theorem IsPerm.it_back {s : List Nat} (h : IsPerm s) {i : Nat} (hi : i < s.length) (a : Nat) : ∃ j, it s j (it s a i) = i := by
  induction a with
  | zero => exact ⟨0, rfl⟩
  | succ a ih =>
    obtain ⟨j, hj⟩ := ih
    obtain ⟨d, hd, _, e⟩ := h.cycle (h.it_lt hi a)
    obtain ⟨d', rfl⟩ : ∃ d', d = d' + 1 := ⟨d - 1, by omega⟩
    refine ⟨j + d', ?_⟩
    rw [it_add, it_succ, show it s d' (at' s (it s a i)) = it s a i from e, hj]

theorem namesGo_sep {s : List Nat} (hs : IsPerm s) (k : Nat) (hk : k ≤ s.length) : ∀ x y, x < s.length → y < s.length → 0 ≤ nth (namesGo s k).1 x → nth (namesGo s k).1 x = nth (namesGo s k).1 y → ∃ j, it s j x = y := by
  induction k with
  | zero =>
    intro x y hx hy h0
    rw [namesGo_zero] at h0
    have : nth (List.replicate s.length (-1)) x = -1 := by simp [nth, hx]
    rw [this] at h0
    exact absurd h0 (by decide)
  | succ k ih =>
    have ih := ih (by omega)
    have hk' : k < s.length := by omega
    have hI := namesGo_inv hs k (by omega)
    rw [namesGo_succ]
    obtain ⟨N, C, hNC⟩ : ∃ N C, namesGo s k = (N, C) := ⟨_, _, rfl⟩
    rw [hNC] at hI ih ⊢
    have hg : N.getD k (-1) = nth N k := by
      have : k < N.length := by rw [hI.length]; exact hk'
      simp [nth, this]
    by_cases hold : 0 ≤ nth N k
    · rw [nameStep, if_pos (show 0 ≤ (N, C).1.getD k (-1) from by rw [hg]; exact hold)]
      exact ih
    · have hst : nameStep s (N, C) k = ((orbitL s k).foldl (fun l x => l.set x (C : Int)) N, C + 1) := by
        unfold nameStep
        rw [if_neg (show ¬ 0 ≤ (N, C).1.getD k (-1) from by rw [hg]; exact hold)]
      rw [hst]
      have hlt : ∀ x ∈ orbitL s k, x < N.length := by rw [hI.length]; exact orbitL_lt hs hk'
      have hn := nth_foldl_set (orbitL s k) (C : Int) N hlt
      intro x y hx hy h0 he
      have h0 : 0 ≤ nth ((orbitL s k).foldl (fun l x => l.set x (C : Int)) N) x := h0
      have he : nth ((orbitL s k).foldl (fun l x => l.set x (C : Int)) N) x = nth ((orbitL s k).foldl (fun l x => l.set x (C : Int)) N) y := he
      rw [hn] at h0
      rw [hn, hn] at he
      have vx := hI.val x hx
      have vy := hI.val y hy
      simp only at vx vy ih
      by_cases ex : x ∈ orbitL s k
      · by_cases ey : y ∈ orbitL s k
        · obtain ⟨a, rfl⟩ := (hs.mem_orbit hk').1 ex
          obtain ⟨b, rfl⟩ := (hs.mem_orbit hk').1 ey
          obtain ⟨j, hj⟩ := hs.it_back hk' a
          exact ⟨b + j, by rw [it_add, hj]⟩
        · rw [if_pos ex, if_neg ey] at he
          omega
      · by_cases ey : y ∈ orbitL s k
        · rw [if_neg ex, if_pos ey] at he
          omega
        · rw [if_neg ex] at h0
          rw [if_neg ex, if_neg ey] at he
          exact ih x y hx hy h0 he

/-- the darts of one name are the orbit -/
theorem names_orbit {s : List Nat} (hs : IsPerm s) {k : Nat} (hk : k < s.length) {d : Nat} : d ∈ orbitL s k ↔ d < s.length ∧ nth (namesL s) d = nth (namesL s) k := by
  have hI := namesGo_inv hs s.length (Nat.le_refl _)
  constructor
  · intro h
    refine ⟨orbitL_lt hs hk d h, ?_⟩
    obtain ⟨j, rfl⟩ := (hs.mem_orbit hk).1 h
    exact hI.it hs hk j
  · intro ⟨hd, he⟩
    rw [hs.mem_orbit hk]
    exact namesGo_sep hs s.length (Nat.le_refl _) k d hk hd (hI.told k hk hk) he.symm

theorem orbitGo_it' {s : List Nat} {i : Nat} : ∀ (f x y : Nat), y ∈ orbitGo s i f x → ∃ j, it s j x = y ∧ ∀ j', j' ≤ j → it s j' x ≠ i
  | 0, x, y, h => by simp [orbitGo] at h
  | f + 1, x, y, h => by
    unfold orbitGo at h
    split at h
    · simp at h
    · rename_i hx
      have hx : x ≠ i := by simpa using hx
      rcases List.mem_cons.1 h with rfl | h
      · refine ⟨0, rfl, fun j' hj' => ?_⟩
        have e : j' = 0 := Nat.le_zero.1 hj'
        rw [e]
        exact hx
      · obtain ⟨j, h1, h2⟩ := orbitGo_it' f _ _ h
        refine ⟨j + 1, h1, fun j' hj' => ?_⟩
        rcases j' with _ | j'
        · exact hx
        · exact h2 j' (by omega)

theorem orbitGo_nodup {s : List Nat} {i : Nat} : ∀ (f x : Nat), Reach s i f x → (orbitGo s i f x).Nodup
  | 0, x, _ => by simp [orbitGo]
  | f + 1, x, h => by
    by_cases hx : x = i
    · subst hx; rw [orbitGo_end]; exact List.nodup_nil
    · obtain ⟨f', e, hr⟩ := h.next hx
      obtain rfl : f' = f := by omega
      rw [orbitGo_next hx, List.nodup_cons]
      refine ⟨fun hm => ?_, orbitGo_nodup _ _ hr⟩
      obtain ⟨j, h1, h2⟩ := orbitGo_it' _ _ _ hm
      have hno : ∀ J, it s J x ≠ i := by
        intro J
        induction J using Nat.strongRecOn with
        | ind J ih =>
          rcases J with _ | J
          · exact hx
          · by_cases hJ : J ≤ j
            · exact h2 J hJ
            · have e2 : it s (J + 1) x = it s (J - j) x := by
                rw [show J + 1 = (J - j) + (j + 1) by omega, it_add]
                rw [show it s (j + 1) x = x from h1]
              rw [e2]
              exact ih _ (by omega)
      obtain ⟨J, _, hJ⟩ := h
      exact hno J hJ

theorem orbitL_nodup {s : List Nat} (hs : IsPerm s) {i : Nat} (hi : i < s.length) : (orbitL s i).Nodup := by
  unfold orbitL
  rw [List.nodup_cons]
  refine ⟨fun h => ?_, orbitGo_nodup _ _ (hs.reach hi)⟩
  obtain ⟨j, h1, h2⟩ := orbitGo_it' _ _ _ h
  exact h2 j (Nat.le_refl _) h1

theorem invGo_at {s : List Nat} (hs : IsPerm s) (k : Nat) (hk : k ≤ s.length) : ∀ x, x < k → at' (invGo s k) (at' s x) = x := by
  induction k with
  | zero => intro x hx; omega
  | succ k ih =>
    intro x hx
    have hkl : k < s.length := by omega
    rw [invGo_succ, at'_set (by rw [invGo_length]; exact hs.lt hkl)]
    by_cases e : x = k
    · subst e; rw [if_pos rfl]
    · rw [if_neg (fun h => e (hs.inj (show x < s.length by omega) hkl h.symm)), ih (by omega) x (by omega)]

/-- back from the next one -/
theorem invL_at {s : List Nat} (hs : IsPerm s) {x : Nat} (hx : x < s.length) : at' (invL s) (at' s x) = x := invGo_at hs _ (Nat.le_refl _) x hx

/-- the next one of the one before -/
theorem at_invL {s : List Nat} (hs : IsPerm s) {y : Nat} (hy : y < s.length) : at' s (at' (invL s) y) = y ∧ at' (invL s) y < s.length := by
  obtain ⟨d, hd, _, e⟩ := hs.cycle hy
  obtain ⟨d', rfl⟩ : ∃ d', d = d' + 1 := ⟨d - 1, by omega⟩
  rw [it_succ] at e
  have hx := hs.it_lt hy d'
  have h1 := invL_at hs hx
  rw [e] at h1
  rw [h1]
  exact ⟨e, hx⟩

end Go.Proofs.Ytcnmbenfnpjkjaa

namespace Go.Proofs.Ytcnmbenfnpjkjaa
set_option linter.unusedVariables false

noncomputable def ind (p : Prop) : Nat := @ite Nat p (Classical.propDecidable p) 1 0
theorem ind_yes {p : Prop} (h : p) : ind p = 1 := by unfold ind; exact if_pos h
theorem ind_no {p : Prop} (h : ¬ p) : ind p = 0 := by unfold ind; exact if_neg h
theorem ind_congr {p q : Prop} (h : p ↔ q) : ind p = ind q := by rw [propext h]
theorem ind_le (p : Prop) : ind p ≤ 1 := by
  by_cases h : p
  · rw [ind_yes h]; exact Nat.le_refl _
  · rw [ind_no h]; omega

/-- how many numbers below n have it -/
noncomputable def tally (p : Nat → Prop) : Nat → Nat
  | 0 => 0
  | k + 1 => tally p k + ind (p k)

theorem tally_zero' (p : Nat → Prop) : tally p 0 = 0 := rfl
theorem tally_succ (p : Nat → Prop) (k : Nat) : tally p (k + 1) = tally p k + ind (p k) := rfl

theorem tally_congr {p q : Nat → Prop} : ∀ {n : Nat}, (∀ k, k < n → (p k ↔ q k)) → tally p n = tally q n
  | 0, _ => rfl
  | n + 1, h => by rw [tally_succ, tally_succ, tally_congr fun k hk => h k (by omega), ind_congr (h n (by omega))]

theorem tally_le (p : Nat → Prop) : ∀ n, tally p n ≤ n
  | 0 => Nat.le_refl _
  | n + 1 => by rw [tally_succ]; have := tally_le p n; have := ind_le (p n); omega

theorem tally_none {p : Nat → Prop} : ∀ {n : Nat}, (∀ k, k < n → ¬ p k) → tally p n = 0
  | 0, _ => rfl
  | n + 1, h => by rw [tally_succ, tally_none fun k hk => h k (by omega), ind_no (h n (by omega))]

theorem tally_all {p : Nat → Prop} : ∀ {n : Nat}, (∀ k, k < n → p k) → tally p n = n
  | 0, _ => rfl
  | n + 1, h => by rw [tally_succ, tally_all fun k hk => h k (by omega), ind_yes (h n (by omega))]

theorem tally_split (p q : Nat → Prop) : ∀ n, tally p n = tally (fun k => p k ∧ q k) n + tally (fun k => p k ∧ ¬ q k) n
  | 0 => rfl
  | n + 1 => by
    rw [tally_succ, tally_succ, tally_succ, tally_split p q n]
    by_cases hp : p n
    · by_cases hq : q n
      · rw [ind_yes hp, ind_yes ⟨hp, hq⟩, ind_no (fun h => h.2 hq)]; omega
      · rw [ind_yes hp, ind_no (fun h => hq h.2), ind_yes ⟨hp, hq⟩]; omega
    · rw [ind_no hp, ind_no (fun h => hp h.1), ind_no (fun h => hp h.1)]; omega

theorem tally_but {p : Nat → Prop} {a : Nat} : ∀ {n : Nat}, a < n → p a → tally p n = tally (fun k => p k ∧ k ≠ a) n + 1
  | n + 1, h, hp => by
    rw [tally_succ, tally_succ]
    by_cases e : a = n
    · subst e
      rw [ind_yes hp, ind_no (fun h => h.2 rfl), tally_congr (q := fun k => p k ∧ k ≠ a) fun k hk => ⟨fun h => ⟨h, by omega⟩, fun h => h.1⟩]
    · rw [tally_but (show a < n by omega) hp, ind_congr (p := p n) (q := p n ∧ n ≠ a) ⟨fun h => ⟨h, fun h' => e h'.symm⟩, fun h => h.1⟩]
      omega

theorem tally_pos {p : Nat → Prop} {a n : Nat} (h : a < n) (hp : p a) : 0 < tally p n := by rw [tally_but h hp]; omega

theorem tally_inj (f : Nat → Nat) {p : Nat → Prop} {m : Nat} : ∀ {n : Nat} {q : Nat → Prop}, (∀ x, x < n → p x → f x < m ∧ q (f x)) → (∀ x y, x < n → y < n → p x → p y → f x = f y → x = y) → tally p n ≤ tally q m
  | 0, _, _, _ => Nat.zero_le _
  | n + 1, q, h1, h2 => by
    rw [tally_succ]
    by_cases hp : p n
    · obtain ⟨a, b⟩ := h1 n (by omega) hp
      rw [ind_yes hp, tally_but a b]
      have := tally_inj f (n := n) (q := fun k => q k ∧ k ≠ f n) (fun x hx hpx => ⟨(h1 x (by omega) hpx).1, (h1 x (by omega) hpx).2, fun e => by
        have := h2 x n (by omega) (by omega) hpx hp e
        omega⟩) (fun x y hx hy => h2 x y (by omega) (by omega))
      omega
    · rw [ind_no hp]
      exact tally_inj f (fun x hx => h1 x (by omega)) (fun x y hx hy => h2 x y (by omega) (by omega))

theorem tally_mono {p q : Nat → Prop} {n : Nat} (h : ∀ x, x < n → p x → q x) : tally p n ≤ tally q n :=
  tally_inj (fun x => x) (fun x hx hp => ⟨hx, h x hx hp⟩) (fun x y _ _ _ _ e => e)

/-- an equivalence on the numbers below n -/
structure Per (n : Nat) (r : Nat → Nat → Prop) : Prop where
  refl : ∀ {x}, x < n → r x x
  symm : ∀ {x y}, r x y → r y x
  trans : ∀ {x y z}, r x y → r y z → r x z
  dom : ∀ {x y}, r x y → x < n

/-- the least of its class -/
def Least (r : Nat → Nat → Prop) (x : Nat) : Prop := ∀ y, y < x → ¬ r y x
noncomputable def cls (r : Nat → Nat → Prop) (P : Nat → Prop) (n : Nat) : Nat := tally (fun x => P x ∧ Least r x) n
/-- two classes joined -/
def mrg (r : Nat → Nat → Prop) (a b x y : Nat) : Prop := r x y ∨ (r x a ∧ r b y) ∨ (r x b ∧ r a y)

theorem Per.least {n : Nat} {r : Nat → Nat → Prop} (h : Per n r) : ∀ (x : Nat), x < n → ∃ l, l ≤ x ∧ r l x ∧ Least r l := by
  intro x
  induction x using Nat.strongRecOn with
  | ind x ih =>
    intro hx
    by_cases hl : Least r x
    · exact ⟨x, Nat.le_refl _, h.refl hx, hl⟩
    · unfold Least at hl
      have : ∃ y, y < x ∧ r y x := by
        apply Classical.byContradiction
        intro hn
        exact hl fun y hy hr => hn ⟨y, hy, hr⟩
      obtain ⟨y, hy, hr⟩ := this
      obtain ⟨l, h1, h2, h3⟩ := ih y hy (by omega)
      exact ⟨l, by omega, h.trans h2 hr, h3⟩

theorem Per.least_one {n : Nat} {r : Nat → Nat → Prop} (h : Per n r) {x y : Nat} (hx : Least r x) (hy : Least r y) (e : r x y) : x = y := by
  rcases Nat.lt_trichotomy x y with h1 | h1 | h1
  · exact absurd e (hy x h1)
  · exact h1
  · exact absurd (h.symm e) (hx y h1)

theorem Per.mrg {n : Nat} {r : Nat → Nat → Prop} (h : Per n r) {a b : Nat} (ha : a < n) (hb : b < n) : Per n (mrg r a b) := by
  refine ⟨fun hx => Or.inl (h.refl hx), ?_, ?_, ?_⟩
  · rintro x y (h1 | ⟨h1, h2⟩ | ⟨h1, h2⟩)
    · exact Or.inl (h.symm h1)
    · exact Or.inr (Or.inr ⟨h.symm h2, h.symm h1⟩)
    · exact Or.inr (Or.inl ⟨h.symm h2, h.symm h1⟩)
  · rintro x y z (h1 | ⟨h1, h2⟩ | ⟨h1, h2⟩) (k1 | ⟨k1, k2⟩ | ⟨k1, k2⟩)
    · exact Or.inl (h.trans h1 k1)
    · exact Or.inr (Or.inl ⟨h.trans h1 k1, k2⟩)
    · exact Or.inr (Or.inr ⟨h.trans h1 k1, k2⟩)
    · exact Or.inr (Or.inl ⟨h1, h.trans h2 k1⟩)
    · exact Or.inr (Or.inl ⟨h1, k2⟩)
    · exact Or.inl (h.trans h1 k2)
    · exact Or.inr (Or.inr ⟨h1, h.trans h2 k1⟩)
    · exact Or.inl (h.trans h1 k2)
    · exact Or.inr (Or.inr ⟨h1, k2⟩)
  · rintro x y (h1 | ⟨h1, h2⟩ | ⟨h1, h2⟩)
    · exact h.dom h1
    · exact h.dom h1
    · exact h.dom h1

theorem mrg_swap {r : Nat → Nat → Prop} {a b x y : Nat} : mrg r a b x y ↔ mrg r b a x y := by unfold mrg; exact ⟨fun h => by rcases h with h | h | h <;> simp [h], fun h => by rcases h with h | h | h <;> simp [h]⟩

theorem Per.mrg_same {n : Nat} {r : Nat → Nat → Prop} (h : Per n r) {a b : Nat} (hab : r a b) {x y : Nat} : Go.Proofs.Ytcnmbenfnpjkjaa.mrg r a b x y ↔ r x y := by
  refine ⟨?_, Or.inl⟩
  rintro (h1 | ⟨h1, h2⟩ | ⟨h1, h2⟩)
  · exact h1
  · exact h.trans h1 (h.trans hab h2)
  · exact h.trans h1 (h.trans (h.symm hab) h2)

theorem cls_congr {r q : Nat → Nat → Prop} {P : Nat → Prop} {n : Nat} (h : ∀ x y, x < n → y < n → (r x y ↔ q x y)) : cls r P n = cls q P n := by
  refine tally_congr fun k hk => and_congr Iff.rfl ?_
  unfold Least
  exact ⟨fun h' y hy hq => h' y hy ((h y k (by omega) hk).2 hq), fun h' y hy hq => h' y hy ((h y k (by omega) hk).1 hq)⟩

theorem cls_mrg_lt {n : Nat} {r : Nat → Nat → Prop} (h : Per n r) {P : Nat → Prop} (hP : ∀ x y, P x → r x y → P y) {a b la lb : Nat} (hb : b < n) (hla : r la a) (hlb : r lb b) (h1 : Least r la) (h2 : Least r lb) (hlt : la < lb) (pb : P b) :
    cls r P n = cls (mrg r a b) P n + 1 := by
  unfold cls
  rw [tally_but (a := lb) (h.dom hlb) ⟨hP _ _ pb (h.symm hlb), h2⟩]
  refine congrArg (· + 1) (tally_congr fun x hx => ⟨fun ⟨⟨p, l⟩, ne⟩ => ⟨p, ?_⟩, fun ⟨p, l⟩ => ⟨⟨p, fun y hy hr => l y hy (Or.inl hr)⟩, fun e => ?_⟩⟩)
  · rintro y hy (k1 | ⟨k1, k2⟩ | ⟨k1, k2⟩)
    · exact l y hy k1
    · exact ne (h.least_one l h2 (h.trans (h.symm k2) (h.symm hlb)))
    · have e := h.least_one l h1 (h.trans (h.symm k2) (h.symm hla))
      have : ¬ y < lb := fun hy' => h2 y hy' (h.trans k1 (h.symm hlb))
      omega
  · subst e
    exact l la hlt (Or.inr (Or.inl ⟨hla, h.symm hlb⟩))

theorem cls_mrg {n : Nat} {r : Nat → Nat → Prop} (h : Per n r) {P : Nat → Prop} (hP : ∀ x y, P x → r x y → P y) {a b : Nat} (ha : a < n) (hb : b < n) (hab : ¬ r a b) (pa : P a) (pb : P b) :
    cls r P n = cls (mrg r a b) P n + 1 := by
  obtain ⟨la, _, hla, h1⟩ := h.least a ha
  obtain ⟨lb, _, hlb, h2⟩ := h.least b hb
  rcases Nat.lt_trichotomy la lb with hl | hl | hl
  · exact cls_mrg_lt h hP hb hla hlb h1 h2 hl pb
  · subst hl
    exact absurd (h.trans (h.symm hla) hlb) hab
  · rw [cls_mrg_lt h hP ha hlb hla h2 h1 hl pa, cls_congr fun x y _ _ => mrg_swap]

theorem cls_mrg_out {n : Nat} {r : Nat → Nat → Prop} (h : Per n r) {P : Nat → Prop} (hP : ∀ x y, P x → r x y → P y) {a b : Nat} (pa : ¬ P a) (pb : ¬ P b) :
    cls r P n = cls (mrg r a b) P n := by
  refine tally_congr fun x hx => ⟨fun ⟨p, l⟩ => ⟨p, ?_⟩, fun ⟨p, l⟩ => ⟨p, fun y hy hr => l y hy (Or.inl hr)⟩⟩
  rintro y hy (k1 | ⟨k1, k2⟩ | ⟨k1, k2⟩)
  · exact l y hy k1
  · exact pb (hP _ _ p (h.symm k2))
  · exact pa (hP _ _ p (h.symm k2))

/-- cycles -/
def itf (f : Nat → Nat) : Nat → Nat → Nat
  | 0, x => x
  | k + 1, x => itf f k (f x)
/-- f permutes the numbers below n -/
structure Pm (n : Nat) (f : Nat → Nat) : Prop where
  lt : ∀ {x}, x < n → f x < n
  inj : ∀ {x y}, x < n → y < n → f x = f y → x = y
def cyc (n : Nat) (f : Nat → Nat) (x y : Nat) : Prop := x < n ∧ y < n ∧ ∃ j, itf f j x = y
/-- the values at a and b change places -/
def swp (f : Nat → Nat) (a b x : Nat) : Nat := if x = a then f b else if x = b then f a else f x

theorem itf_succ (f : Nat → Nat) : ∀ (k x : Nat), itf f (k + 1) x = f (itf f k x)
  | 0, _ => rfl
  | k + 1, x => itf_succ f k (f x)
theorem itf_add (f : Nat → Nat) (k : Nat) : ∀ (j x : Nat), itf f (k + j) x = itf f k (itf f j x)
  | 0, _ => rfl
  | j + 1, x => itf_add f k j (f x)
theorem itf_at (s : List Nat) : ∀ (k x : Nat), itf (at' s) k x = it s k x
  | 0, _ => rfl
  | k + 1, x => itf_at s k (at' s x)

theorem Pm.it {n : Nat} {f : Nat → Nat} (h : Pm n f) {x : Nat} (hx : x < n) : ∀ k, itf f k x < n
  | 0 => hx
  | k + 1 => by rw [itf_succ]; exact h.lt (h.it hx k)
theorem Pm.itInj {n : Nat} {f : Nat → Nat} (h : Pm n f) {x y : Nat} (hx : x < n) (hy : y < n) : ∀ k, itf f k x = itf f k y → x = y
  | 0, e => e
  | k + 1, e => by
    rw [itf_succ, itf_succ] at e
    exact h.itInj hx hy k (h.inj (h.it hx k) (h.it hy k) e)
theorem Pm.back {n : Nat} {f : Nat → Nat} (h : Pm n f) {x : Nat} (hx : x < n) : ∃ d, 0 < d ∧ itf f d x = x := by
  obtain ⟨a, b, hab, hb, e⟩ := pigeon n (fun k => itf f k x) (fun k _ => h.it hx k)
  refine ⟨b - a, by omega, (h.itInj hx (h.it hx _) a ?_).symm⟩
  rw [← itf_add, show a + (b - a) = b by omega]
  exact e

theorem itf_round {f : Nat → Nat} {d x : Nat} (h : itf f d x = x) : ∀ k, itf f (k * d) x = x
  | 0 => by rw [Nat.zero_mul]; rfl
  | k + 1 => by rw [Nat.succ_mul, itf_add, h]; exact itf_round h k

theorem Pm.per {n : Nat} {f : Nat → Nat} (h : Pm n f) : Per n (cyc n f) := by
  refine ⟨fun hx => ⟨hx, hx, 0, rfl⟩, ?_, ?_, fun hr => hr.1⟩
  · rintro x y ⟨hx, hy, j, e⟩
    obtain ⟨d, hd, ed⟩ := h.back hx
    refine ⟨hy, hx, j * d - j, ?_⟩
    rw [← e, ← itf_add, show j * d - j + j = j * d from by have := Nat.le_mul_of_pos_right j hd; omega]
    exact itf_round ed j
  · rintro x y z ⟨hx, hy, j, e⟩ ⟨_, hz, k, e'⟩
    exact ⟨hx, hz, k + j, by rw [itf_add, e, e']⟩

theorem Pm.step {n : Nat} {f : Nat → Nat} (h : Pm n f) {x : Nat} (hx : x < n) : cyc n f x (f x) := ⟨hx, h.lt hx, 1, rfl⟩

/-- a relation that holds of each step holds of all that is on one cycle -/
theorem Pm.cyc_sub {n : Nat} {f : Nat → Nat} (h : Pm n f) {r : Nat → Nat → Prop} (hr : Per n r) (hs : ∀ x, x < n → r x (f x)) {x y : Nat} (hc : cyc n f x y) : r x y := by
  obtain ⟨hx, hy, j, rfl⟩ := hc
  clear hy
  induction j with
  | zero => exact hr.refl hx
  | succ j ih => rw [itf_succ]; exact hr.trans ih (hs _ (h.it hx j))

theorem least_nat {p : Nat → Prop} : ∀ (m : Nat), p m → ∃ k, k ≤ m ∧ p k ∧ ∀ j, j < k → ¬ p j := by
  intro m
  induction m using Nat.strongRecOn with
  | ind m ih =>
    intro hm
    by_cases h : ∃ j, j < m ∧ p j
    · obtain ⟨j, hj, hp⟩ := h
      obtain ⟨k, h1, h2, h3⟩ := ih j hj hp
      exact ⟨k, by omega, h2, h3⟩
    · exact ⟨m, Nat.le_refl _, hm, fun j hj hp => h ⟨j, hj, hp⟩⟩

theorem swp_a (f : Nat → Nat) (a b : Nat) : swp f a b a = f b := by simp [swp]
theorem swp_b {a b : Nat} (f : Nat → Nat) (h : a ≠ b) : swp f a b b = f a := by simp [swp, h.symm]
theorem swp_o {a b x : Nat} (f : Nat → Nat) (h : x ≠ a) (h' : x ≠ b) : swp f a b x = f x := by simp [swp, h, h']

theorem Pm.swap {n : Nat} {f : Nat → Nat} (h : Pm n f) {a b : Nat} (ha : a < n) (hb : b < n) (hab : a ≠ b) : Pm n (swp f a b) := by
  have key : ∀ x, ∃ y, swp f a b x = f y ∧ y = if x = a then b else if x = b then a else x := fun x => by
    refine ⟨_, ?_, rfl⟩
    unfold swp
    split
    · rfl
    · split <;> rfl
  refine ⟨fun {x} hx => ?_, fun {x y} hx hy e => ?_⟩
  · obtain ⟨y, e, hy⟩ := key x
    rw [e]
    refine h.lt ?_
    rw [hy]
    split
    · exact hb
    · split
      · exact ha
      · exact hx
  · obtain ⟨u, e1, hu⟩ := key x
    obtain ⟨v, e2, hv⟩ := key y
    rw [e1, e2] at e
    have hul : u < n := by rw [hu]; split; exact hb; split; exact ha; exact hx
    have hvl : v < n := by rw [hv]; split; exact hb; split; exact ha; exact hy
    have := h.inj hul hvl e
    rw [hu, hv] at this
    split at this <;> split at this <;> (try split at this) <;> (try split at this) <;> omega

theorem Pm.swp_join {n : Nat} {f : Nat → Nat} (h : Pm n f) {a b : Nat} (ha : a < n) (hb : b < n) (hab : a ≠ b) (hn : ¬ cyc n f a b) : cyc n (swp f a b) a b := by
  obtain ⟨d, hd, ed⟩ := h.back hb
  obtain ⟨m, _, ⟨hm, em⟩, hmin⟩ := least_nat (p := fun m => 0 < m ∧ itf f m b = b) d ⟨hd, ed⟩
  have key : ∀ j, 0 < j → j ≤ m → itf (swp f a b) j a = itf f j b := by
    intro j
    induction j with
    | zero => intro h0; omega
    | succ j ih =>
      intro _ hj
      by_cases h0 : j = 0
      · subst h0
        show swp f a b a = f b
        exact swp_a f a b
      · rw [itf_succ, ih (by omega) (by omega), itf_succ, swp_o]
        · intro e
          exact hn (h.per.symm ⟨hb, ha, j, e⟩)
        · intro e
          exact hmin j (by omega) ⟨by omega, e⟩
  exact ⟨ha, hb, m, by rw [key m hm (Nat.le_refl _), em]⟩

theorem Pm.swp_part {n : Nat} {f : Nat → Nat} (h : Pm n f) {a b : Nat} (ha : a < n) (hb : b < n) (hab : a ≠ b) (hn : cyc n f a b) : ¬ cyc n (swp f a b) a b := by
  intro hg
  obtain ⟨_, _, d, ed⟩ := hn
  obtain ⟨m, _, em, hmin⟩ := least_nat (p := fun m => itf f m a = b) d ed
  have hm : 0 < m := by
    rcases Nat.eq_zero_or_pos m with h0 | h0
    · subst h0; exact absurd em hab
    · exact h0
  have hne : ∀ j, 0 < j → j ≤ m → itf f j a ≠ a := fun j h0 hj e => by
    refine hmin (m - j) (by omega) ?_
    rw [show m = m - j + j by omega, itf_add, e] at em
    exact em
  have hstep : ∀ z, (∃ j, 0 < j ∧ j ≤ m ∧ itf f j a = z) → ∃ j, 0 < j ∧ j ≤ m ∧ itf f j a = swp f a b z := by
    rintro z ⟨j, h0, hj, rfl⟩
    by_cases e : j = m
    · subst e
      exact ⟨1, by omega, by omega, by rw [em, swp_b f hab]; rfl⟩
    · exact ⟨j + 1, by omega, by omega, by rw [swp_o f (hne j h0 hj) (hmin j (by omega)), itf_succ]⟩
  obtain ⟨_, _, k, ek⟩ := (h.swap ha hb hab).per.symm hg
  have hall : ∀ k, ∃ j, 0 < j ∧ j ≤ m ∧ itf f j a = itf (swp f a b) k b := by
    intro k
    induction k with
    | zero => exact ⟨m, hm, Nat.le_refl _, em⟩
    | succ k ih => rw [itf_succ]; exact hstep _ ih
  obtain ⟨j, h0, hj, e⟩ := hall k
  exact hne j h0 hj (e.trans ek)

theorem Pm.swp_mrg {n : Nat} {f : Nat → Nat} (h : Pm n f) {a b : Nat} (ha : a < n) (hb : b < n) (hab : a ≠ b) (hn : ¬ cyc n f a b) {x y : Nat} : cyc n (swp f a b) x y ↔ mrg (cyc n f) a b x y := by
  have hg := h.swap ha hb hab
  have hj := h.swp_join ha hb hab hn
  refine ⟨fun hc => hg.cyc_sub (h.per.mrg ha hb) (fun z hz => ?_) hc, fun hm => ?_⟩
  · by_cases e1 : z = a
    · subst e1
      rw [swp_a]
      exact Or.inr (Or.inl ⟨h.per.refl hz, h.step hb⟩)
    · by_cases e2 : z = b
      · subst e2
        rw [swp_b f hab]
        exact Or.inr (Or.inr ⟨h.per.refl hz, h.step ha⟩)
      · rw [swp_o f e1 e2]
        exact Or.inl (h.step hz)
  · have hs : ∀ z, z < n → cyc n (swp f a b) z (f z) := fun z hz => by
      by_cases e1 : z = a
      · subst e1
        have := hg.step hb
        rw [swp_b f hab] at this
        exact hg.per.trans hj this
      · by_cases e2 : z = b
        · subst e2
          have := hg.step ha
          rw [swp_a] at this
          exact hg.per.trans (hg.per.symm hj) this
        · have := hg.step hz
          rwa [swp_o f e1 e2] at this
    have sub : ∀ {u v}, cyc n f u v → cyc n (swp f a b) u v := fun hc => h.cyc_sub hg.per hs hc
    rcases hm with k | ⟨k1, k2⟩ | ⟨k1, k2⟩
    · exact sub k
    · exact hg.per.trans (sub k1) (hg.per.trans hj (sub k2))
    · exact hg.per.trans (sub k1) (hg.per.trans (hg.per.symm hj) (sub k2))

theorem cyc_congr {n : Nat} {f g : Nat → Nat} (hf : Pm n f) (h : ∀ x, x < n → f x = g x) {x y : Nat} : cyc n f x y ↔ cyc n g x y := by
  have key : ∀ {x}, x < n → ∀ j, itf f j x = itf g j x := fun {x} hx j => by
    induction j with
    | zero => rfl
    | succ j ih => rw [itf_succ, itf_succ, ← ih, h _ (hf.it hx j)]
  unfold cyc
  constructor
  · rintro ⟨hx, hy, j, e⟩; exact ⟨hx, hy, j, by rw [← key hx]; exact e⟩
  · rintro ⟨hx, hy, j, e⟩; exact ⟨hx, hy, j, by rw [key hx]; exact e⟩

theorem swp_swp {a b : Nat} (f : Nat → Nat) (hab : a ≠ b) (x : Nat) : swp (swp f a b) a b x = f x := by
  by_cases e1 : x = a
  · subst e1; rw [swp_a, swp_b f hab]
  · by_cases e2 : x = b
    · subst e2; rw [swp_b _ hab, swp_a]
    · rw [swp_o _ e1 e2, swp_o _ e1 e2]

/-- a swap of two values makes a cycle more, or one less -/
theorem Pm.swp_cls {n : Nat} {f : Nat → Nat} (h : Pm n f) {P : Nat → Prop} (hP : ∀ x, x < n → (P (f x) ↔ P x)) {a b : Nat} (ha : a < n) (hb : b < n) (hab : a ≠ b) (pa : P a) (pb : P b) :
    (¬ cyc n f a b ∧ cls (cyc n f) P n = cls (cyc n (swp f a b)) P n + 1) ∨ (cyc n f a b ∧ cls (cyc n f) P n + 1 = cls (cyc n (swp f a b)) P n) := by
  have closed : ∀ {f : Nat → Nat}, Pm n f → (∀ x, x < n → (P (f x) ↔ P x)) → ∀ x y, P x → cyc n f x y → P y := fun {f} hf hP x y hx hc => by
    obtain ⟨hx', hy, j, rfl⟩ := hc
    clear hy
    induction j with
    | zero => exact hx
    | succ j ih => rw [itf_succ]; exact (hP _ (hf.it hx' j)).2 ih
  have hg := h.swap ha hb hab
  have hPg : ∀ x, x < n → (P (swp f a b x) ↔ P x) := fun x hx => by
    by_cases e1 : x = a
    · subst e1; rw [swp_a, hP b hb]; exact ⟨fun _ => pa, fun _ => pb⟩
    · by_cases e2 : x = b
      · subst e2; rw [swp_b f hab, hP a ha]; exact ⟨fun _ => pb, fun _ => pa⟩
      · rw [swp_o f e1 e2]; exact hP x hx
  by_cases hc : cyc n f a b
  · refine Or.inr ⟨hc, ?_⟩
    have hn := h.swp_part ha hb hab hc
    rw [cls_mrg hg.per (closed hg hPg) ha hb hn pa pb]
    refine congrArg (· + 1) (cls_congr fun x y _ _ => ?_)
    rw [← hg.swp_mrg ha hb hab hn]
    exact cyc_congr h fun z _ => (swp_swp f hab z).symm
  · refine Or.inl ⟨hc, ?_⟩
    rw [cls_mrg h.per (closed h hP) ha hb hc pa pb]
    exact congrArg (· + 1) (cls_congr fun x y _ _ => (h.swp_mrg ha hb hab hc).symm)

theorem Pm.swp_cls_out {n : Nat} {f : Nat → Nat} (h : Pm n f) {P : Nat → Prop} (hP : ∀ x, x < n → (P (f x) ↔ P x)) {a b : Nat} (ha : a < n) (hb : b < n) (hab : a ≠ b) (pa : ¬ P a) (pb : ¬ P b) :
    cls (cyc n f) P n = cls (cyc n (swp f a b)) P n := by
  have closed : ∀ {f : Nat → Nat}, Pm n f → (∀ x, x < n → (P (f x) ↔ P x)) → ∀ x y, P x → cyc n f x y → P y := fun {f} hf hP x y hx hc => by
    obtain ⟨hx', hy, j, rfl⟩ := hc
    clear hy
    induction j with
    | zero => exact hx
    | succ j ih => rw [itf_succ]; exact (hP _ (hf.it hx' j)).2 ih
  have hg := h.swap ha hb hab
  have hPg : ∀ x, x < n → (P (swp f a b x) ↔ P x) := fun x hx => by
    by_cases e1 : x = a
    · subst e1; rw [swp_a, hP b hb]; exact ⟨fun h => absurd h pb, fun h => absurd h pa⟩
    · by_cases e2 : x = b
      · subst e2; rw [swp_b f hab, hP a ha]; exact ⟨fun h => absurd h pa, fun h => absurd h pb⟩
      · rw [swp_o f e1 e2]; exact hP x hx
  by_cases hc : cyc n f a b
  · have hn := h.swp_part ha hb hab hc
    rw [cls_mrg_out hg.per (closed hg hPg) pa pb]
    refine cls_congr fun x y _ _ => ?_
    rw [← hg.swp_mrg ha hb hab hn]
    exact cyc_congr h fun z _ => (swp_swp f hab z).symm
  · rw [cls_mrg_out h.per (closed h hP) pa pb]
    exact cls_congr fun x y _ _ => (h.swp_mrg ha hb hab hc).symm

end Go.Proofs.Ytcnmbenfnpjkjaa

namespace Go.Proofs.Ytcnmbenfnpjkjaa
set_option linter.unusedVariables false

theorem IsPerm.pm {s : List Nat} (h : IsPerm s) : Pm s.length (at' s) := ⟨fun hx => h.lt hx, fun hx hy e => h.inj hx hy e⟩
theorem Pm.congr {n : Nat} {f g : Nat → Nat} (h : Pm n f) (e : ∀ x, x < n → f x = g x) : Pm n g :=
  ⟨fun {x} hx => by rw [← e x hx]; exact h.lt hx, fun {x y} hx hy h' => h.inj hx hy (by rw [e x hx, e y hy]; exact h')⟩

/-- the face permutation, where the first k edges alone are sewn -/
def fk (s : List Nat) (k x : Nat) : Nat := at' s (if x < 2 * k then x ^^^ 1 else x)
theorem fk_zero (s : List Nat) (x : Nat) : fk s 0 x = at' s x := by simp [fk]
theorem xor_even (k : Nat) : (2 * k) ^^^ 1 = 2 * k + 1 := by rw [xor_one]; simp
theorem xor_odd (k : Nat) : (2 * k + 1) ^^^ 1 = 2 * k := by rw [xor_one, if_neg (by omega)]; omega
theorem xor_one_ne (k : Nat) : k ^^^ 1 ≠ k := by rw [xor_one]; split <;> omega
theorem xor_one_div (k : Nat) : (k ^^^ 1) / 2 = k / 2 := by rw [xor_one]; split <;> omega
theorem fk_succ (s : List Nat) (k x : Nat) : fk s (k + 1) x = swp (fk s k) (2 * k) (2 * k + 1) x := by
  by_cases e1 : x = 2 * k
  · subst e1
    rw [swp_a]
    unfold fk
    rw [if_pos (by omega), if_neg (by omega), xor_even]
  · by_cases e2 : x = 2 * k + 1
    · subst e2
      rw [swp_b _ (by omega)]
      unfold fk
      rw [if_pos (by omega), if_neg (by omega), xor_odd]
    · rw [swp_o _ e1 e2]
      unfold fk
      by_cases h : x < 2 * k
      · rw [if_pos h, if_pos (by omega)]
      · rw [if_neg h, if_neg (by omega)]
theorem fk_pm {s : List Nat} (h : IsPerm s) : ∀ {k : Nat}, 2 * k ≤ s.length → Pm s.length (fk s k)
  | 0, _ => h.pm.congr fun x _ => (fk_zero s x).symm
  | k + 1, hk => ((fk_pm h (k := k) (by omega)).swap (a := 2 * k) (b := 2 * k + 1) (by omega) (by omega) (by omega)).congr fun x _ => (fk_succ s k x).symm
theorem fk_all {s : List Nat} {x : Nat} (h : s.length % 2 = 0) (hx : x < s.length) : fk s (s.length / 2) x = at' (phiL s) x := by
  rw [phiL_at hx]
  unfold fk
  rw [if_pos (by omega)]

/-- what comes together by s and the first k edges -/
def st (s : List Nat) : Nat → Nat → Nat → Prop
  | 0 => cyc s.length (at' s)
  | k + 1 => mrg (st s k) (2 * k) (2 * k + 1)
/-- of one part -/
def Con (s : List Nat) : Nat → Nat → Prop := st s (s.length / 2)

theorem st_per {s : List Nat} (h : IsPerm s) : ∀ {k : Nat}, 2 * k ≤ s.length → Per s.length (st s k)
  | 0, _ => h.pm.per
  | k + 1, hk => (st_per h (k := k) (by omega)).mrg (by omega) (by omega)
theorem st_mono {s : List Nat} {k x y : Nat} (h : st s k x y) : ∀ j, st s (k + j) x y
  | 0 => h
  | j + 1 => Or.inl (st_mono h j)
theorem st_le {s : List Nat} {k l x y : Nat} (h : st s k x y) (hk : k ≤ l) : st s l x y := by
  rw [show l = k + (l - k) by omega]; exact st_mono h _
theorem st_edge {s : List Nat} (h : IsPerm s) {k x : Nat} (hk : 2 * k ≤ s.length) (hx : x < 2 * k) : st s k x (x ^^^ 1) := by
  have key : st s (x / 2 + 1) (2 * (x / 2)) (2 * (x / 2) + 1) := by
    have hp := st_per h (k := x / 2) (by omega)
    exact Or.inr (Or.inl ⟨hp.refl (by omega), hp.refl (by omega)⟩)
  have key := st_le key (show x / 2 + 1 ≤ k by omega)
  by_cases e : x % 2 = 0
  · have e1 : x = 2 * (x / 2) := by omega
    rw [← e1] at key
    rw [xor_one, if_pos e]
    exact key
  · have e1 : 2 * (x / 2) + 1 = x := by omega
    rw [xor_one, if_neg e, ← show 2 * (x / 2) = x - 1 by omega]
    rw [e1] at key
    exact (st_per h hk).symm key
theorem st_s {s : List Nat} (h : IsPerm s) (k : Nat) {x : Nat} (hx : x < s.length) : st s k x (at' s x) := by
  have : st s 0 x (at' s x) := h.pm.step hx
  exact st_le this (Nat.zero_le _)
theorem st_fk {s : List Nat} (h : IsPerm s) (he : s.length % 2 = 0) {k : Nat} (hk : 2 * k ≤ s.length) {x y : Nat} (hc : cyc s.length (fk s k) x y) : st s k x y := by
  refine (fk_pm h hk).cyc_sub (st_per h hk) (fun z hz => ?_) hc
  unfold fk
  split
  · rename_i hz'
    exact (st_per h hk).trans (st_edge h hk hz') (st_s h k (xor_one_lt he hz))
  · exact st_s h k hz

theorem Con.per {s : List Nat} (h : IsPerm s) : Per s.length (Con s) := st_per h (by omega)
theorem Con.step {s : List Nat} (h : IsPerm s) {x : Nat} (hx : x < s.length) : Con s x (at' s x) := st_s h _ hx
theorem Con.mate {s : List Nat} (h : IsPerm s) (he : s.length % 2 = 0) {x : Nat} (hx : x < s.length) : Con s x (x ^^^ 1) := st_edge h (by omega) (by omega)
theorem st_sub {s : List Nat} (h : IsPerm s) {r : Nat → Nat → Prop} (hr : Per s.length r) (h1 : ∀ x, x < s.length → r x (at' s x)) (h2 : ∀ x, x < s.length → r x (x ^^^ 1)) :
    ∀ {k : Nat}, 2 * k ≤ s.length → ∀ {x y}, st s k x y → r x y
  | 0, _, x, y, hc => h.pm.cyc_sub hr h1 hc
  | k + 1, hk, x, y, hc => by
    have e : r (2 * k) (2 * k + 1) := by have := h2 (2 * k) (by omega); rwa [xor_even] at this
    rcases hc with k1 | ⟨k1, k2⟩ | ⟨k1, k2⟩
    · exact st_sub h hr h1 h2 (by omega) k1
    · exact hr.trans (st_sub h hr h1 h2 (by omega) k1) (hr.trans e (st_sub h hr h1 h2 (by omega) k2))
    · exact hr.trans (st_sub h hr h1 h2 (by omega) k1) (hr.trans (hr.symm e) (st_sub h hr h1 h2 (by omega) k2))
/-- it is the least such relation -/
theorem Con.sub {s : List Nat} (h : IsPerm s) {r : Nat → Nat → Prop} (hr : Per s.length r) (h1 : ∀ x, x < s.length → r x (at' s x)) (h2 : ∀ x, x < s.length → r x (x ^^^ 1)) {x y : Nat} (hc : Con s x y) : r x y :=
  st_sub h hr h1 h2 (by omega) hc

/-- closed under both steps -/
structure Closed (s : List Nat) (P : Nat → Prop) : Prop where
  turn : ∀ x, x < s.length → (P (at' s x) ↔ P x)
  mate : ∀ x, x < s.length → (P (x ^^^ 1) ↔ P x)

theorem Closed.st {s : List Nat} (h : IsPerm s) (he : s.length % 2 = 0) {P : Nat → Prop} (hP : Closed s P) {k : Nat} (hk : 2 * k ≤ s.length) {x y : Nat} (hx : P x) (hc : Go.Proofs.Ytcnmbenfnpjkjaa.st s k x y) : P y := by
  have : ∀ x y, (x < s.length ∧ y < s.length ∧ (P x ↔ P y)) → (P x → P y) := fun _ _ h => h.2.2.1
  exact this x y (st_sub h (r := fun x y => x < s.length ∧ y < s.length ∧ (P x ↔ P y)) ⟨fun hx => ⟨hx, hx, Iff.rfl⟩, fun h => ⟨h.2.1, h.1, h.2.2.symm⟩, fun h k => ⟨h.1, k.2.1, h.2.2.trans k.2.2⟩, fun h => h.1⟩ (fun z hz => ⟨hz, h.lt hz, (hP.turn z hz).symm⟩) (fun z hz => ⟨hz, xor_one_lt he hz, (hP.mate z hz).symm⟩) hk hc) hx

theorem Closed.fk {s : List Nat} (h : IsPerm s) (he : s.length % 2 = 0) {P : Nat → Prop} (hP : Closed s P) (k : Nat) {x : Nat} (hx : x < s.length) : P (Go.Proofs.Ytcnmbenfnpjkjaa.fk s k x) ↔ P x := by
  unfold Go.Proofs.Ytcnmbenfnpjkjaa.fk
  split
  · rw [hP.turn _ (xor_one_lt he hx), hP.mate _ hx]
  · exact hP.turn _ hx

/-- vertices and faces against edges and parts, edge by edge -/
theorem euler_go {s : List Nat} (h : IsPerm s) (he : s.length % 2 = 0) {P : Nat → Prop} (hP : Closed s P) : ∀ {k : Nat}, 2 * k ≤ s.length →
    ∃ t, cls (cyc s.length (at' s)) P s.length + cls (cyc s.length (fk s k)) P s.length + 2 * t = tally (fun e => P (2 * e)) k + 2 * cls (st s k) P s.length
  | 0, _ => ⟨0, by
    rw [tally_zero', cls_congr (r := cyc s.length (fk s 0)) (q := cyc s.length (at' s)) fun x y _ _ => cyc_congr (fk_pm h (by omega)) fun z _ => fk_zero s z]
    show _ = 0 + 2 * cls (cyc s.length (at' s)) P s.length
    omega⟩
  | k + 1, hk => by
    obtain ⟨t, ih⟩ := euler_go h he hP (k := k) (by omega)
    have hf := fk_pm h (k := k) (by omega)
    have e1 : cls (cyc s.length (fk s (k + 1))) P s.length = cls (cyc s.length (swp (fk s k) (2 * k) (2 * k + 1))) P s.length := cls_congr fun x y _ _ => cyc_congr (fk_pm h hk) fun z _ => fk_succ s k z
    have hmate : P (2 * k + 1) ↔ P (2 * k) := by have := hP.mate (2 * k) (by omega); rwa [xor_even] at this
    rw [tally_succ]
    by_cases hp : P (2 * k)
    · rw [ind_yes hp]
      have hp' := hmate.2 hp
      by_cases hc : st s k (2 * k) (2 * k + 1)
      · have e2 : cls (st s (k + 1)) P s.length = cls (st s k) P s.length := cls_congr fun x y _ _ => (st_per h (by omega)).mrg_same hc
        rcases hf.swp_cls (P := P) (fun x hx => hP.fk h he k hx) (a := 2 * k) (b := 2 * k + 1) (by omega) (by omega) (by omega) hp hp' with ⟨_, e3⟩ | ⟨_, e3⟩
        · exact ⟨t + 1, by omega⟩
        · exact ⟨t, by omega⟩
      · have e2 := cls_mrg (st_per h (k := k) (by omega)) (P := P) (fun x y hx hc => hP.st h he (by omega) hx hc) (a := 2 * k) (b := 2 * k + 1) (by omega) (by omega) hc hp hp'
        have e2 : cls (st s k) P s.length = cls (st s (k + 1)) P s.length + 1 := e2
        rcases hf.swp_cls (P := P) (fun x hx => hP.fk h he k hx) (a := 2 * k) (b := 2 * k + 1) (by omega) (by omega) (by omega) hp hp' with ⟨_, e3⟩ | ⟨h3, e3⟩
        · exact ⟨t, by omega⟩
        · exact absurd (st_fk h he (by omega) h3) hc
    · rw [ind_no hp]
      have hp' : ¬ P (2 * k + 1) := fun h => hp (hmate.1 h)
      have e2 : cls (st s k) P s.length = cls (st s (k + 1)) P s.length := cls_mrg_out (st_per h (k := k) (by omega)) (P := P) (fun x y hx hc => hP.st h he (by omega) hx hc) hp hp'
      have e3 := hf.swp_cls_out (P := P) (fun x hx => hP.fk h he k hx) (a := 2 * k) (b := 2 * k + 1) (by omega) (by omega) (by omega) hp hp'
      exact ⟨t, by omega⟩

end Go.Proofs.Ytcnmbenfnpjkjaa
