/- A map of numbers to how often they came, of the call's own, in a registry. Conditions: none. -/
import Derived.Test.YtnbecpeiodcohaaZDualNames13
import Derived.Test.YtnbecpeiodcohaaZDualNames07
import Derived.Maps.OwnOps
import Derived.Maps.OwnSet
import Derived.Maps.Views
namespace Go.Proofs.Ytnbecpeiodcohaa
open Go.RowKit Go.Maps
set_option linter.unusedVariables false

theorem mapKeyed : Keyed Try.prog 3 := int_keyed Try.underlying3
theorem mapZero (w : World) : (zeroValue 3).run Try.prog w = .ok (.int .i64 0) w := by kernel_rfl

/-- block b, which no one has registered, is a map that has at each j below the list's length the list's number, and nothing else -/
def CntMap (R : Reg) (w : World) (b n : Nat) (xs : List Int) : Prop :=
  R b = none ∧ ∃ D : DataW Unit, w.ownsMap Try.prog 3 (plainElem Try.prog 3) b n D ∧
    (∀ j : Nat, D.atKey (.int .i64 (j : Int)) (.lit (.int .i64 0)) = .lit (.int .i64 (nth xs j))) ∧ Maps.size D = xs.length ∧ ∀ j : Nat, Maps.has D (.int .i64 (j : Int)) = decide (j < xs.length)

theorem CntMap.lt {R : Reg} {w : World} {b n : Nat} {xs : List Int} (h : CntMap R w b n xs) : b < w.heap.size := by
  obtain ⟨_, D, h, _⟩ := h
  exact h.lt

theorem CntMap.ev {R R1 : Reg} {w w1 : World} {b n : Nat} {xs : List Int} (h : CntMap R w b n xs) (he : Ev R w R1 w1) : CntMap R1 w1 b n xs := by
  have hlt := h.lt
  obtain ⟨hb, D, ⟨es, clock, h1, h2, h3, h4⟩, h5⟩ := h
  exact ⟨he.free b hlt hb, D, ⟨es, clock, (he.block b hlt hb).trans h1, h2, h3, h4⟩, h5⟩

theorem CntMap.kept {R : Reg} {w w1 : World} {b b' n : Nat} {xs : List Int} (h : CntMap R w b n xs) (hg : w.grownBy w1 (some b')) (hne : b ≠ b') : CntMap R w1 b n xs := by
  obtain ⟨hb, D, h1, h2⟩ := h
  exact ⟨hb, D, h1.kept hg (fun e => hne (by injection e)), h2⟩

theorem CntMap.made {R : Reg} {w : World} (hI : Inv R w) : CntMap R (w.alloc (.map #[] 0)) w.heap.size 0 [] := by
  refine ⟨hI.none_of_ge (Nat.le_refl _), .map [], World.ownsMap_made _ _ _ _, fun j => ?_, rfl, fun j => ?_⟩
  · simp [DataW.atKey, nth]
  · simp [Maps.has]

theorem CntMap.put_eq {D : DataW Unit} {xs : List Int} {y : Nat} (hD : Tidy D) (hy : y ≤ xs.length)
    (h1 : ∀ j : Nat, D.atKey (.int .i64 (j : Int)) (.lit (.int .i64 0)) = .lit (.int .i64 (nth xs j))) (h2 : Maps.size D = xs.length) (h3 : ∀ j : Nat, Maps.has D (.int .i64 (j : Int)) = decide (j < xs.length)) :
    (∀ j : Nat, (D.put (.int .i64 (y : Int)) (.lit (.int .i64 (nth xs y + 1)))).atKey (.int .i64 (j : Int)) (.lit (.int .i64 0)) = .lit (.int .i64 (nth (sizeStep xs (y : Int)) j))) ∧
    Maps.size (D.put (.int .i64 (y : Int)) (.lit (.int .i64 (nth xs y + 1)))) = (sizeStep xs (y : Int)).length ∧
    ∀ j : Nat, Maps.has (D.put (.int .i64 (y : Int)) (.lit (.int .i64 (nth xs y + 1)))) (.int .i64 (j : Int)) = decide (j < (sizeStep xs (y : Int)).length) := by
  have hs : (∀ j, nth (sizeStep xs (y : Int)) j = if y = j then nth xs y + 1 else nth xs j) ∧ (sizeStep xs (y : Int)).length = if y < xs.length then xs.length else xs.length + 1 := by
    by_cases hlt : y < xs.length
    · rw [sizeStep_old' hlt]
      exact ⟨fun j => by rw [nth_set hlt], by simp [hlt]⟩
    · obtain rfl : y = xs.length := by omega
      rw [sizeStep_new']
      refine ⟨fun j => ?_, by simp⟩
      rw [nth_set (by simp)]
      split
      · rw [nth_out (Nat.le_refl _)]; rfl
      · rename_i hne
        rw [nth_append]
        split
        · rfl
        · rw [nth_out (xs := xs) (by omega), nth_out (by simp; omega)]
  refine ⟨fun j => ?_, ?_, fun j => ?_⟩
  · rw [hs.1]
    by_cases e : y = j
    · subst e
      rw [if_pos rfl, atKey_put_same hD.isMap (show WideAt.IsKeyLit (.int .i64 (y : Int)) from trivial)]
    · rw [if_neg e, atKey_put_other (fun h => e (by injection h with _ h; omega)), h1]
  · rw [hs.2, size_put hD, h2, h3]
    by_cases hlt : y < xs.length <;> simp [hlt]
  · rw [hs.2]
    by_cases e : y = j
    · subst e
      rw [has_put_same hD.isMap (show WideAt.IsKeyLit (.int .i64 (y : Int)) from trivial)]
      by_cases hlt : y < xs.length
      · simp [hlt]
      · simp [hlt]; omega
    · rw [has_put_other (fun h => e (by injection h with _ h; omega)), h3]
      by_cases hlt : y < xs.length
      · simp [hlt]
      · rw [if_neg hlt]
        by_cases hj : j < xs.length
        · rw [decide_eq_true hj, decide_eq_true (show j < xs.length + 1 by omega)]
        · rw [decide_eq_false hj, decide_eq_false (show ¬ j < xs.length + 1 by omega)]

/-- the sizes of the orbits, as far as k darts tell them: the next dart's name is put -/
theorem CntMap.open {R : Reg} {w : World} {b n : Nat} {xs : List Int} (h : CntMap R w b n xs) : ∃ D : DataW Unit, w.ownsMap Try.prog 3 (plainElem Try.prog 3) b n D ∧ Tidy D ∧
    (∀ j : Nat, D.atKey (.int .i64 (j : Int)) (.lit (.int .i64 0)) = .lit (.int .i64 (nth xs j))) ∧ Maps.size D = xs.length ∧ ∀ j : Nat, Maps.has D (.int .i64 (j : Int)) = decide (j < xs.length) := by
  obtain ⟨_, D, h1, h2⟩ := h
  exact ⟨D, h1, h1.tidy mapKeyed, h2⟩

theorem CntMap.shut {R : Reg} {w w' : World} {b n : Nat} {xs : List Int} {y : Nat} {D : DataW Unit} (h : CntMap R w b n xs) (hD : Tidy D) (hy : y ≤ xs.length)
    (h1 : ∀ j : Nat, D.atKey (.int .i64 (j : Int)) (.lit (.int .i64 0)) = .lit (.int .i64 (nth xs j))) (h2 : Maps.size D = xs.length) (h3 : ∀ j : Nat, Maps.has D (.int .i64 (j : Int)) = decide (j < xs.length))
    (hw : w'.ownsMap Try.prog 3 (plainElem Try.prog 3) b (n + 1) (D.put (.int .i64 (y : Int)) (.lit (.int .i64 (nth xs y + 1))))) : CntMap R w' b (n + 1) (sizeStep xs (y : Int)) :=
  ⟨h.1, _, hw, CntMap.put_eq hD hy h1 h2 h3⟩

/-- the map's look-up, ahead of the walk -/
theorem CntMap.look {R : Reg} {w : World} {b n : Nat} {xs : List Int} (h : CntMap R w b n xs) (y : Nat) (hy : y ≤ 4194304) :
    (Instr.lookup 47 (.map (some b)) (.int .i64 (y : Int)) false).run Try.prog w = .ok (.int .i64 (nth xs y)) w := by
  obtain ⟨D, h1, _, h2, _⟩ := h.open
  have hwf : (Lit.int .i64 (y : Int)).wf = true := WalkArith.wf_i64 (by omega)
  obtain ⟨c, hrun, hat, _⟩ := h1.lookup_int mapKeyed Try.underlying47 Try.underlying3 (mapZero _) (keyOf_int_mk Try.underlying3 hwf)
  rw [h2] at hat
  simp only [DataW.lit.injEq, Lit.int.injEq, true_and] at hat
  rw [hat]; exact hrun

theorem CntMap.len {R : Reg} {w : World} {b n : Nat} {xs : List Int} (h : CntMap R w b n xs) (ty : TypeId) :
    (Builtin.len_ #[47] ty #[.map (some b)]).run Try.prog w = .ok (.int .i64 xs.length) w := by
  obtain ⟨D, h1, _, _, h2, _⟩ := h.open
  have := h1.len Try.underlying47 ty
  rw [h2] at this
  exact this

end Go.Proofs.Ytnbecpeiodcohaa
