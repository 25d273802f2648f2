/- ShellGrows' plain side: the first k of the order, the faces, told as the program tells them. Conditions: none. -/
import Derived.Test.YtcnmbenfnpjkjaaZSA45
namespace Go.Proofs.Ytcnmbenfnpjkjaa
set_option linter.unusedVariables false
set_option linter.unusedSectionVars false
open Classical in
/-- where it stands in a list -/
noncomputable def plC (L : List Int) (v : Int) : Nat := if k : ∃ i, i < L.length ∧ nth L i = v then Classical.choose k else 0
theorem plC_place {L : List Int} (hn : L.Nodup) : Place L (plC L) := fun i hi => by
  have k : ∃ j, j < L.length ∧ nth L j = nth L i := ⟨i, hi, rfl⟩
  have e : plC L (nth L i) = Classical.choose k := dif_pos k
  obtain ⟨k1, k2⟩ := Classical.choose_spec k
  rw [← e] at k1 k2
  generalize plC L (nth L i) = j at k1 k2 ⊢
  rw [nth_at k1, nth_at hi] at k2
  exact nodup_idx hn k1 hi k2
section
variable {s : List Nat} (h : TriS s) {r : Nat} (hr : r < s.length) {pl : Int → Nat} (hp : Place (orderL s r) pl)
include h hr hp
theorem mem_first {x K : Nat} (hx : x < s.length) (hK : K ≤ (sizesL s).length) : nth (namesL s) x ∈ (orderL s r).take K ↔ plD s pl x < K := by
  obtain ⟨k1, k2⟩ := place_of h hr hp hx
  have hl := order_len h hr
  constructor
  · intro k
    obtain ⟨i, hi, e⟩ := mem_nth k
    rw [List.length_take] at hi
    have e2 : nth ((orderL s r).take K) i = nth (orderL s r) i := by rw [nth_at (by rw [List.length_take]; omega), nth_at (by omega), List.getElem_take]
    rw [e2] at e
    have := hp i (by omega)
    rw [e] at this
    unfold plD
    omega
  · intro k
    unfold plD at k
    generalize pl (nth (namesL s) x) = j at k k1 k2
    have e2 : nth ((orderL s r).take K) j = nth (orderL s r) j := by rw [nth_at (by rw [List.length_take]; omega), nth_at (by omega), List.getElem_take]
    rw [← k2, ← e2]
    exact nth_mem (by rw [List.length_take]; omega)
theorem late_first {e K : Nat} : lateN s pl e < K ↔ plD s pl (2 * e) < K ∧ plD s pl (2 * e + 1) < K := by unfold lateN plD; omega
theorem lateF_first {d K : Nat} : lateF s pl d < K ↔ plD s pl d < K ∧ plD s pl (at' (phiL s) d) < K ∧ plD s pl (at' (phiL s) (at' (phiL s) d)) < K := by unfold lateF; omega
end
section
variable {s : List Nat} (h : TriS s) {r : Nat} (hr : r < s.length)
include h hr
theorem face_off {d : Nat} (hd : d < s.length) : nth (namesL (phiL s)) d ≠ nth (namesL (phiL s)) r ↔ OffR s r d := by
  have hp := phiL_perm h.perm h.even
  have hl := phiL_length s
  have e : nth (namesL (phiL s)) d = nth (namesL (phiL s)) r ↔ d = r ∨ d = at' (phiL s) r ∨ d = at' (phiL s) (at' (phiL s) r) := by
    constructor
    · intro e
      obtain ⟨_, _, m, hm⟩ := (cyc_at hp).2 ⟨by rw [hl]; exact hr, by rw [hl]; exact hd, e.symm⟩
      have all : ∀ m, itf (at' (phiL s)) m r = r ∨ itf (at' (phiL s)) m r = at' (phiL s) r ∨ itf (at' (phiL s)) m r = at' (phiL s) (at' (phiL s) r) := fun m => by
        induction m with
        | zero => exact .inl rfl
        | succ m ih =>
          rw [itf_succ]
          rcases ih with e | e | e <;> rw [e]
          · exact .inr (.inl rfl)
          · exact .inr (.inr rfl)
          · exact .inl (h.three r hr).1
      rw [← hm]
      exact all m
    · have t : ∀ x, x < s.length → nth (namesL (phiL s)) (at' (phiL s) x) = nth (namesL (phiL s)) x := fun x hx => names_turn hp (by rw [hl]; exact hx)
      rintro (e | e | e) <;> rw [e]
      · exact t r hr
      · rw [t _ (h.phl hr), t r hr]
  unfold OffR
  rw [Ne, e]
  constructor
  · intro k
    exact ⟨fun e => k (.inl e), fun e => k (.inr (.inl e)), fun e => k (.inr (.inr e))⟩
  · rintro ⟨a, b, c⟩ (e | e | e)
    · exact a e
    · exact b e
    · exact c e
/-- the faces told up to d -/
noncomputable def facesTo (s : List Nat) (r : Nat) (pl : Int → Nat) (K d : Nat) : Nat := tally (fun d => (Lst s d ∧ OffR s r d) ∧ lateF s pl d < K) d
noncomputable def edgesTo (s : List Nat) (pl : Int → Nat) (K e : Nat) : Nat := tally (fun e => lateN s pl e < K) e
end
end Go.Proofs.Ytcnmbenfnpjkjaa
