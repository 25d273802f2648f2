/- A slice of bools that came in, as a law's walk takes it. Conditions: none. -/
import Derived.Test.YtlbhmonpfchocaaZCanonOnce11
import Derived.Deep.Grids
namespace Go.Proofs.Ytlbhmonpfchocaa
open Go.RowKit
set_option linter.unusedVariables false

def IsBools (w : World) (a : Option Addr) (len cap : Nat) (B : Nat → Bool) : Prop :=
  (a = none ∧ len = 0 ∧ cap = 0) ∨ ∃ x, a = some x ∧ len ≤ cap ∧ cap ≤ maxLen ∧ ∀ i, i < cap → w.cell? (x.add i) = some (.bool (B i))
/-- bools in memory that is nobody's -/
def FreeT (R : Reg) (w : World) (v : Value) (n : Nat) (B : Nat → Bool) : Prop :=
  ∃ a cap, v = .slice a n cap ∧ n ≤ maxLen ∧ ∀ i, i < n → ∃ b off, a = some ⟨b, off, none⟩ ∧ R b = none ∧ w.cell? ⟨b, off + i, none⟩ = some (.bool (B i))
theorem FreeT.ev {R R1 : Reg} {w w1 : World} {v : Value} {n : Nat} {B : Nat → Bool} (h : FreeT R w v n B) (he : Ev R w R1 w1) : FreeT R1 w1 v n B := by
  obtain ⟨a, cap, h1, h2, h3⟩ := h
  refine ⟨a, cap, h1, h2, fun i hi => ?_⟩
  obtain ⟨b, off, e, hb, hc⟩ := h3 i hi
  have hlt := lt_of_cell hc
  exact ⟨b, off, e, he.free b hlt hb, (he.cell hlt hb).trans hc⟩
theorem FreeT.of_row {w : World} {a : Option Addr} {len cap : Nat} {B : Nat → Bool} (h : IsBools w a len cap B) : FreeT noReg w (.slice a len cap) len B := by
  rcases h with ⟨rfl, rfl, rfl⟩ | ⟨x, rfl, hl, hm, hc⟩
  · exact ⟨none, 0, rfl, by simp [maxLen], fun i hi => by omega⟩
  · refine ⟨some x, cap, rfl, by omega, fun i hi => ?_⟩
    have hcell := hc i (by omega)
    obtain ⟨b, off, sp⟩ := x
    have hsp : sp = none := by
      have h0 := World.cell?_spot (hc 0 (by omega))
      simpa [Addr.add] using h0
    subst hsp
    rw [Addr.add_lit] at hcell
    exact ⟨b, off, rfl, rfl, hcell⟩

end Go.Proofs.Ytlbhmonpfchocaa
