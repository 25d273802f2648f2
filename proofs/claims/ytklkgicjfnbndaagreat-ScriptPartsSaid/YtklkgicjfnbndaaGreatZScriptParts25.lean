/- parquetryref10.Dual, Mirror; parquetrylaw10.like, where it is so. Conditions: the map's list lies in memory. The dual has the same parts, of the same genus; the dual's dual is the map, the mirror's mirror too. Conditions: none. Shrunk in the map, an edge is cut in the dual. Conditions: none. Edges are cut in any order; cut, a map has as many vertices, those that are left bare counted. Conditions: none. Cut, a map has as many vertices, those that are left bare counted. Conditions: none. Shrunk, an edge of two vertices leaves one vertex less, and as many faces; those that are left bare counted. Conditions: none. A turn by other names. Conditions: none. A map's genus, by how many parts, vertices, edges and faces it has; so by other names it is the same. Conditions: none. -/
import Derived.Test.YtklkgicjfnbndaaGreatZScriptParts24
import Derived.Deep.RegionHeld3
import Derived.Test.YtklkgicjfnbndaaGreatZScriptParts23
namespace Go.Proofs.YtklkgicjfnbndaaGreat
open Go.RowKit
set_option linter.unusedVariables false

theorem box_cells {w : World} {b : Nat} {x y z : Value} {T : TypeId} (hb : w.heap[b]? = some (.cells #[x, y, z] T (0, 0))) : w.cell? ⟨b, 0, none⟩ = some x ∧ w.cell? ⟨b, 1, none⟩ = some y ∧ w.cell? ⟨b, 2, none⟩ = some z ∧ ∀ o, w.frozen? ⟨b, o, none⟩ = false :=
  ⟨cells_at hb 0, cells_at hb 1, cells_at hb 2, fun o => by simp [World.frozen?, hb]⟩

end Go.Proofs.YtklkgicjfnbndaaGreat

namespace Go.Proofs.YtklkgicjfnbndaaGreat
set_option linter.unusedVariables false

section
variable {s : List Nat} (hs : IsPerm s) (he : s.length % 2 = 0)

include hs he
end
end Go.Proofs.YtklkgicjfnbndaaGreat

namespace Go.Proofs.YtklkgicjfnbndaaGreat
set_option linter.unusedVariables false

end Go.Proofs.YtklkgicjfnbndaaGreat

namespace Go.Proofs.YtklkgicjfnbndaaGreat
set_option linter.unusedVariables false

/-- the first dart behind d that is none of Q's -/
inductive Way (s : List Nat) (Q : Nat → Prop) : Nat → Nat → Prop
  | one {d : Nat} : ¬ Q (at' s d) → Way s Q d (at' s d)
  | more {d y : Nat} : Q (at' s d) → Way s Q (at' s d) y → Way s Q d y
theorem Way.not {s : List Nat} {Q : Nat → Prop} {d y : Nat} (h : Way s Q d y) : ¬ Q y := by
  induction h with
  | one h => exact h
  | more _ _ ih => exact ih
theorem Way.same {s : List Nat} {Q : Nat → Prop} {d y z : Nat} (h : Way s Q d y) : Way s Q d z → y = z := by
  induction h with
  | one h => intro k; cases k with
    | one _ => rfl
    | more k _ => exact absurd k h
  | more h _ ih => intro k; cases k with
    | one k => exact absurd h k
    | more _ k => exact ih k
theorem Way.congr {s : List Nat} {Q Q' : Nat → Prop} (hq : ∀ x, Q x ↔ Q' x) {d y : Nat} (h : Way s Q d y) : Way s Q' d y := by
  induction h with
  | one h => exact .one fun k => h ((hq _).2 k)
  | more h _ ih => exact .more ((hq _).1 h) ih
/-- more is passed by -/
theorem Way.stop {s : List Nat} {Q P : Nat → Prop} {d y : Nat} (h : Way s Q d y) (hp : ¬ P y) : Way s (fun x => Q x ∨ P x) d y := by
  induction h with
  | one h => exact .one fun k => k.elim h hp
  | more h _ ih => exact .more (Or.inl h) (ih hp)
theorem Way.go {s : List Nat} {Q P : Nat → Prop} {d y z : Nat} (h : Way s Q d y) (hp : P y) (k : Way s (fun x => Q x ∨ P x) y z) : Way s (fun x => Q x ∨ P x) d z := by
  induction h with
  | one h => exact .more (Or.inr hp) k
  | more h _ ih => exact .more (Or.inl h) (ih hp k)
theorem Way.it {s : List Nat} {Q : Nat → Prop} {d y : Nat} (h : Way s Q d y) : ∃ m, itf (at' s) (m + 1) d = y ∧ ∀ j, 1 ≤ j → j ≤ m → Q (itf (at' s) j d) := by
  induction h with
  | one h => exact ⟨0, rfl, fun j h1 h2 => by omega⟩
  | more h _ ih =>
    obtain ⟨m, e, hq⟩ := ih
    refine ⟨m + 1, e, fun j h1 h2 => ?_⟩
    cases j with
    | zero => omega
    | succ j =>
      cases j with
      | zero => exact h
      | succ j => exact hq (j + 1) (by omega) (by omega)

section
variable {s : List Nat} (hs : IsPerm s)
include hs
end
end Go.Proofs.YtklkgicjfnbndaaGreat

namespace Go.Proofs.YtklkgicjfnbndaaGreat
set_option linter.unusedVariables false

theorem sizesL_tally {s : List Nat} (hs : IsPerm s) : (sizesL s).length = tally (Least (cyc s.length (at' s))) s.length := by
  have h1 := sizesGo_length hs s.length (Nat.le_refl _)
  have h2 := (namesL_ord hs).cnt_eq (Nat.le_refl s.length)
  have e : sizesGo s s.length = sizesL s := by unfold sizesGo sizesL; rw [List.take_of_length_le (by rw [namesL_length]; exact Nat.le_refl _)]
  rw [← e, h1]
  exact h2
section
variable {p n : Nat} {r q : Nat → Nat → Prop} {P : Nat → Prop} (hr : Per p r) (hq : Per n q) (f : Nat → Nat)
  (hf : ∀ x, x < p → f x < n ∧ P (f x)) (hb : ∀ y, y < n → P y → ∃ x, x < p ∧ q (f x) y) (hP : ∀ x y, P x → q x y → P y) (hrq : ∀ x y, x < p → y < p → (r x y ↔ q (f x) (f y)))
include hr hq hf hb hP hrq
/-- as many classes there as here, where each class there is met -/
theorem cls_cover : cls r (fun _ => True) p = cls q P n := by
  have hx : ∀ x, ∃ l, x < p → q l (f x) ∧ Least q l := fun x => by
    by_cases h : x < p
    · obtain ⟨l, _, h1, h2⟩ := hq.least (f x) (hf x h).1
      exact ⟨l, fun _ => ⟨h1, h2⟩⟩
    · exact ⟨0, fun h' => absurd h' h⟩
  have hy : ∀ y, ∃ l, y < n → P y → ∃ x, x < p ∧ q (f x) y ∧ r l x ∧ Least r l := fun y => by
    by_cases h : y < n ∧ P y
    · obtain ⟨x, h1, h2⟩ := hb y h.1 h.2
      obtain ⟨l, _, h3, h4⟩ := hr.least x h1
      exact ⟨l, fun _ _ => ⟨x, h1, h2, h3, h4⟩⟩
    · exact ⟨0, fun h1 h2 => absurd ⟨h1, h2⟩ h⟩
  refine Nat.le_antisymm ?_ ?_
  · refine tally_inj (fun x => Classical.choose (hx x)) (fun x hxp _ => ?_) (fun x y hxp hyp h1 h2 e => ?_)
    · obtain ⟨h1, h2⟩ := Classical.choose_spec (hx x) hxp
      exact ⟨hq.dom h1, hP _ _ (hf x hxp).2 (hq.symm h1), h2⟩
    · have e : Classical.choose (hx x) = Classical.choose (hx y) := e
      have a := (Classical.choose_spec (hx x) hxp).1
      have b := (Classical.choose_spec (hx y) hyp).1
      rw [e] at a
      exact hr.least_one h1.2 h2.2 ((hrq x y hxp hyp).2 (hq.trans (hq.symm a) b))
  · refine tally_inj (fun y => Classical.choose (hy y)) (fun y hyn h => ?_) (fun y z hyn hzn h1 h2 e => ?_)
    · obtain ⟨x, h1, h2, h3, h4⟩ := Classical.choose_spec (hy y) hyn h.1
      exact ⟨hr.dom h3, trivial, h4⟩
    · have e : Classical.choose (hy y) = Classical.choose (hy z) := e
      obtain ⟨x, a1, a2, a3, _⟩ := Classical.choose_spec (hy y) hyn h1.1
      obtain ⟨x', b1, b2, b3, _⟩ := Classical.choose_spec (hy z) hzn h2.1
      rw [e] at a3
      have h := (hrq x x' a1 b1).1 (hr.trans (hr.symm a3) b3)
      exact hq.least_one h1.2 h2.2 (hq.trans (hq.symm a2) (hq.trans h b2))
end

section
variable {s : List Nat} (hs : IsPerm s) {e : Nat} (hn : 2 * e + 2 ≤ s.length)
include hs hn

end

end Go.Proofs.YtklkgicjfnbndaaGreat

namespace Go.Proofs.YtklkgicjfnbndaaGreat
set_option linter.unusedVariables false

section
variable {s : List Nat} (hs : IsPerm s) {e : Nat} (hn : 2 * e + 2 ≤ s.length) (hne : nth (namesL s) (2 * e) ≠ nth (namesL s) (2 * e + 1))
include hs hn hne

end
end Go.Proofs.YtklkgicjfnbndaaGreat

namespace Go.Proofs.YtklkgicjfnbndaaGreat
set_option linter.unusedVariables false

/-- by other names t -/
def relL (s t : List Nat) : List Nat := (List.range s.length).map fun j => at' t (at' s (at' (invL t) j))
theorem relL_length (s t : List Nat) : (relL s t).length = s.length := by simp [relL]
theorem relL_at {s t : List Nat} {j : Nat} (h : j < s.length) : at' (relL s t) j = at' t (at' s (at' (invL t) j)) := by simp [relL, at', h]
/-- do the names keep mates? -/
def Mates (t : List Nat) : Prop := ∀ d, d < t.length → at' t (d ^^^ 1) = at' t d ^^^ 1
section
variable {s t : List Nat} (hs : IsPerm s) (ht : IsPerm t) (hl : t.length = s.length)
include hs ht hl
theorem relL_perm : IsPerm (relL s t) := by
  refine IsPerm.of_inj (fun i hi => ?_) (fun i j hi hj e => ?_)
  · rw [relL_length] at hi ⊢
    rw [relL_at hi, ← hl]
    exact ht.lt (by rw [hl]; exact hs.lt (by rw [← hl]; exact (at_invL ht (by rw [hl]; exact hi)).2))
  · rw [relL_length] at hi hj
    have h1 := (at_invL ht (y := i) (by rw [hl]; exact hi))
    have h2 := (at_invL ht (y := j) (by rw [hl]; exact hj))
    rw [relL_at hi, relL_at hj] at e
    have e1 := ht.inj (by rw [hl]; exact hs.lt (by rw [← hl]; exact h1.2)) (by rw [hl]; exact hs.lt (by rw [← hl]; exact h2.2)) e
    have e2 := hs.inj (by rw [← hl]; exact h1.2) (by rw [← hl]; exact h2.2) e1
    rw [← h1.1, ← h2.1, e2]
end
theorem relL_to {s t : List Nat} (ht : IsPerm t) (hl : t.length = s.length) {d : Nat} (hd : d < s.length) : at' (relL s t) (at' t d) = at' t (at' s d) := by
  have hd' : d < t.length := by rw [hl]; exact hd
  rw [relL_at (by rw [← hl]; exact ht.lt hd'), invL_at ht hd']

/-- named so far -/
def relGo (s t : List Nat) (i : Nat) : List Int := (List.range s.length).map fun j => if at' (invL t) j < i then ((at' t (at' s (at' (invL t) j)) : Nat) : Int) else 0
theorem relGo_length (s t : List Nat) (i : Nat) : (relGo s t i).length = s.length := by simp [relGo]
theorem relGo_zero (s t : List Nat) : relGo s t 0 = List.replicate s.length 0 := by
  refine List.ext_getElem (by simp [relGo]) fun i h1 h2 => ?_
  simp [relGo]
theorem relGo_set {s t : List Nat} (ht : IsPerm t) (hl : t.length = s.length) {i : Nat} (hi : i < s.length) : (relGo s t i).set (at' t i) ((at' t (at' s i) : Nat) : Int) = relGo s t (i + 1) := by
  refine List.ext_getElem (by simp [relGo]) fun j h1 h2 => ?_
  have hj : j < s.length := by simp [relGo] at h2; exact h2
  rw [List.getElem_set]
  have hit : i < t.length := by rw [hl]; exact hi
  have h := at_invL ht (y := j) (by rw [hl]; exact hj)
  by_cases e1 : at' t i = j
  · subst e1
    rw [if_pos rfl]
    simp only [relGo, List.getElem_map, List.getElem_range, invL_at ht hit]
    rw [if_pos (by omega)]
  · rw [if_neg e1]
    simp only [relGo, List.getElem_map, List.getElem_range]
    by_cases h3 : at' (invL t) j < i
    · rw [if_pos h3, if_pos (by omega)]
    · have : at' (invL t) j ≠ i := fun e' => e1 (by rw [← e', h.1])
      rw [if_neg h3, if_neg (by omega)]
theorem relGo_all {s t : List Nat} (ht : IsPerm t) (hl : t.length = s.length) : relGo s t s.length = toI (relL s t) := by
  unfold relGo relL toI
  rw [List.map_map]
  refine List.map_congr_left fun j hj => ?_
  rw [if_pos (by rw [← hl]; exact (at_invL ht (by rw [hl]; exact List.mem_range.1 hj)).2)]
  rfl
theorem relRoot {s t : List Nat} {root lone : Int} (h : MapOk s root lone) (ht : IsPerm t) (hl : t.length = s.length) : MapOk (relL s t) (atI t root) lone := by
  obtain ⟨h1, h2, h3, h4, h5⟩ := h
  have hrl := relL_length s t
  refine ⟨by rw [hrl]; exact h1, by rw [hrl]; exact h2, h3, h4, ?_⟩
  rcases h5 with ⟨h5, rfl⟩ | ⟨h5, h6⟩
  · left; exact ⟨by rw [hrl]; exact h5, atI_out (Or.inl (by omega))⟩
  · right
    obtain ⟨k, rfl⟩ := Int.eq_ofNat_of_zero_le h5
    have hk : k < t.length := by omega
    rw [atI_in hk, hrl]
    have := ht.lt hk
    omega

end Go.Proofs.YtklkgicjfnbndaaGreat

namespace Go.Proofs.YtklkgicjfnbndaaGreat
set_option linter.unusedVariables false

section
variable {p n : Nat} {r q : Nat → Nat → Prop} {P' P : Nat → Prop} (hr : Per p r) (hq : Per n q) (f : Nat → Nat)
  (hf : ∀ x, x < p → P' x → f x < n ∧ P (f x)) (hb : ∀ y, y < n → P y → ∃ x, x < p ∧ P' x ∧ q (f x) y) (hP : ∀ x y, P x → q x y → P y) (hP' : ∀ x y, P' x → r x y → P' y) (hfl : ∀ x, x < p → f x < n) (hrq : ∀ x y, x < p → y < p → (r x y ↔ q (f x) (f y)))
include hr hq hf hb hP hP' hfl hrq
end

section
variable {s t : List Nat} (hs : IsPerm s) (ht : IsPerm t) (hl : t.length = s.length)
include hs ht hl

theorem rel_it : ∀ (j : Nat) {x : Nat}, x < s.length → itf (at' (relL s t)) j (at' t x) = at' t (itf (at' s) j x)
  | 0, x, _ => rfl
  | j + 1, x, hx => by
    show itf _ j (at' (relL s t) (at' t x)) = at' t (itf (at' s) j (at' s x))
    rw [relL_to ht hl hx]
    exact rel_it j (hs.lt hx)
theorem rel_cyc {x y : Nat} (hx : x < s.length) (hy : y < s.length) : cyc s.length (at' s) x y ↔ cyc s.length (at' (relL s t)) (at' t x) (at' t y) := by
  have hlt : ∀ x, x < s.length → at' t x < s.length := fun x hx => by have := ht.lt (i := x) (by rw [hl]; exact hx); omega
  constructor
  · rintro ⟨_, _, j, e⟩
    exact ⟨hlt x hx, hlt y hy, j, by rw [rel_it hs ht hl j hx, e]⟩
  · rintro ⟨_, _, j, e⟩
    rw [rel_it hs ht hl j hx] at e
    exact ⟨hx, hy, j, ht.inj (by rw [hl]; exact hs.pm.it hx j) (by rw [hl]; exact hy) e⟩
theorem rel_vertices : (sizesL (relL s t)).length = (sizesL s).length := by
  have hp := relL_perm hs ht hl
  have hlt : ∀ x, x < s.length → at' t x < s.length := fun x hx => by have := ht.lt (i := x) (by rw [hl]; exact hx); omega
  rw [sizesL_tally hs, sizesL_tally hp, relL_length]
  have h := cls_cover (p := s.length) (n := s.length) (P := fun _ => True) hs.pm.per (q := cyc s.length (at' (relL s t))) (by have := hp.pm.per; rwa [relL_length] at this) (at' t) (fun x hx => ⟨hlt x hx, trivial⟩) (fun y hy _ => by
    obtain ⟨x, hx, e⟩ := ht.surj (y := y) (by rw [hl]; exact hy)
    refine ⟨x, by rw [← hl]; exact hx, ?_⟩
    rw [e]
    exact (show Per s.length (cyc s.length (at' (relL s t))) by have := hp.pm.per; rwa [relL_length] at this).refl hy) (fun _ _ _ _ => trivial) (fun x y hx hy => rel_cyc hs ht hl hx hy)
  have e1 : cls (cyc s.length (at' s)) (fun _ => True) s.length = tally (Least (cyc s.length (at' s))) s.length := tally_congr fun k _ => ⟨fun h => h.2, fun h => ⟨trivial, h⟩⟩
  have e2 : cls (cyc s.length (at' (relL s t))) (fun _ => True) s.length = tally (Least (cyc s.length (at' (relL s t)))) s.length := tally_congr fun k _ => ⟨fun h => h.2, fun h => ⟨trivial, h⟩⟩
  rw [← e1, ← e2, h]
end

section
variable {s t : List Nat} (hs : IsPerm s) (he : s.length % 2 = 0) (ht : IsPerm t) (hl : t.length = s.length) (hm : Mates t)
include hs he ht hl hm

end
end Go.Proofs.YtklkgicjfnbndaaGreat
