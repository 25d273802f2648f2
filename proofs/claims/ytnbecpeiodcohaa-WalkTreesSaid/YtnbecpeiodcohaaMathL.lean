/- The parts of a map, by labels that sink till nothing changes. Conditions: none. -/
import Derived.Test.YtnbecpeiodcohaaMathK
namespace Go.Proofs.Ytnbecpeiodcohaa
set_option linter.unusedVariables false

def sumL : List Nat → Nat
  | [] => 0
  | x :: l => x + sumL l
theorem sumL_set : ∀ {L : List Nat} {i y : Nat}, i < L.length → sumL (L.set i y) + at' L i = sumL L + y
  | x :: l, 0, y, _ => by simp [sumL, at']; omega
  | x :: l, i + 1, y, h => by
    have := sumL_set (L := l) (i := i) (y := y) (by simpa using h)
    simp [sumL, at'] at this ⊢
    omega

/-- labels, that are not above, and of the same part -/
structure LInv (s : List Nat) (L : List Nat) : Prop where
  len : L.length = s.length
  le : ∀ d, d < s.length → at' L d ≤ d
  con : ∀ d, d < s.length → Con s (at' L d) d

theorem LInv.start {s : List Nat} (hs : IsPerm s) : LInv s (List.range s.length) := by
  have key : ∀ d, d < s.length → at' (List.range s.length) d = d := fun d hd => by simp [at', hd]
  exact ⟨by simp, fun d hd => by rw [key d hd]; exact Nat.le_refl _, fun d hd => by rw [key d hd]; exact (Con.per hs).refl hd⟩

theorem LInv.sink {s : List Nat} (hs : IsPerm s) {L : List Nat} (h : LInv s L) {d x : Nat} (hd : d < s.length) (hx : x < s.length) (hc : Con s x d) (hlt : at' L x < at' L d) : LInv s (L.set d (at' L x)) ∧ sumL (L.set d (at' L x)) + 1 ≤ sumL L := by
  have hl : d < L.length := by rw [h.len]; exact hd
  refine ⟨⟨by rw [List.length_set]; exact h.len, fun e he => ?_, fun e he => ?_⟩, ?_⟩
  · rw [at'_set hl]
    split
    · rename_i e'; subst e'; have := h.le d hd; omega
    · exact h.le e he
  · rw [at'_set hl]
    split
    · rename_i e'; subst e'; exact (Con.per hs).trans (h.con x hx) hc
    · exact h.con e he
  · have := sumL_set (L := L) (y := at' L x) hl
    omega

def LClosed (s : List Nat) (L : List Nat) : Prop := ∀ d, d < s.length → at' L (at' s d) = at' L d ∧ at' L (d ^^^ 1) = at' L d

theorem LInv.const {s : List Nat} (hs : IsPerm s) (he : s.length % 2 = 0) {L : List Nat} (h : LInv s L) (hc : LClosed s L) {x y : Nat} (hxy : Con s x y) : at' L x = at' L y := by
  have : ∀ x y, (x < s.length ∧ y < s.length ∧ at' L x = at' L y) → at' L x = at' L y := fun _ _ h => h.2.2
  exact this x y (Con.sub hs (r := fun x y => x < s.length ∧ y < s.length ∧ at' L x = at' L y) ⟨fun hx => ⟨hx, hx, rfl⟩, fun h => ⟨h.2.1, h.1, h.2.2.symm⟩, fun h k => ⟨h.1, k.2.1, h.2.2.trans k.2.2⟩, fun h => h.1⟩
    (fun z hz => ⟨hz, hs.lt hz, ((hc z hz).1).symm⟩) (fun z hz => ⟨hz, xor_one_lt he hz, ((hc z hz).2).symm⟩) hxy)

/-- in the end a dart keeps its own label just if it is the least of its part; else its label's dart is of its part, and below -/
theorem LInv.last {s : List Nat} (hs : IsPerm s) (he : s.length % 2 = 0) {L : List Nat} (h : LInv s L) (hc : LClosed s L) {d : Nat} (hd : d < s.length) :
    (at' L d = d ∧ nth (partsL s) d = ((partsGo s d).2 : Int) ∧ (partsGo s (d + 1)).2 = (partsGo s d).2 + 1) ∨
    (at' L d < d ∧ nth (partsL s) d = nth (partsL s) (at' L d) ∧ (partsGo s (d + 1)).2 = (partsGo s d).2) := by
  have hO := partsL_ord hs he
  have hle := h.le d hd
  by_cases e : at' L d = d
  · left
    have hl : Least (Con s) d := fun y hy hr => by
      have h1 := h.const hs he hc hr
      have h2 := h.le y (by omega)
      omega
    have h1 := (hO.least hd).1 hl
    have h1 : nth (partsL s) d = ((partsGo s d).2 : Int) := h1
    rcases hO.ord d hd with ⟨_, b, _⟩ | ⟨_, b⟩
    · have b : nth (partsL s) d < ((partsGo s d).2 : Int) := b
      omega
    · exact ⟨e, h1, b⟩
  · right
    have hlt : at' L d < d := by omega
    have hr := h.con d hd
    refine ⟨hlt, ((hO.rel _ _ (by omega) hd).2 hr).symm, ?_⟩
    rcases hO.ord d hd with ⟨_, _, b⟩ | ⟨a, _⟩
    · exact b
    · exact absurd hr ((hO.least hd).2 a _ hlt)

end Go.Proofs.Ytnbecpeiodcohaa
