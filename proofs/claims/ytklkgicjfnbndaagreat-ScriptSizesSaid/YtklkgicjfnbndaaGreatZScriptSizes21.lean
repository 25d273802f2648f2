/- A map of numbers to how often they came, of the call's own, in a registry. Conditions: none. A map of numbers to numbers of the call's own, in a registry: what it has is told by a function. Conditions: none. -/
import Derived.Test.YtklkgicjfnbndaaGreatZScriptSizes14
import Derived.Test.YtklkgicjfnbndaaGreatZScriptSizes08
import Derived.Maps.OwnOps
import Derived.Maps.OwnSet
import Derived.Maps.Views
namespace Go.Proofs.YtklkgicjfnbndaaGreat
open Go.RowKit Go.Maps
set_option linter.unusedVariables false

theorem mapKeyed : Keyed Tryz.prog 3 := int_keyed Tryz.underlying3
theorem mapZero (w : World) : (zeroValue 3).run Tryz.prog w = .ok (.int .i64 0) w := by kernel_rfl

/-- block b, which no one has registered, is a map that has at each j below the list's length the list's number, and nothing else -/
def CntMap (R : Reg) (w : World) (b n : Nat) (xs : List Int) : Prop :=
  R b = none ∧ ∃ D : DataW Unit, w.ownsMap Tryz.prog 3 (plainElem Tryz.prog 3) b n D ∧
    (∀ j : Nat, D.atKey (.int .i64 (j : Int)) (.lit (.int .i64 0)) = .lit (.int .i64 (nth xs j))) ∧ Maps.size D = xs.length ∧ ∀ j : Nat, Maps.has D (.int .i64 (j : Int)) = decide (j < xs.length)

theorem CntMap.lt {R : Reg} {w : World} {b n : Nat} {xs : List Int} (h : CntMap R w b n xs) : b < w.heap.size := by
  obtain ⟨_, D, h, _⟩ := h
  exact h.lt

theorem CntMap.ev {R R1 : Reg} {w w1 : World} {b n : Nat} {xs : List Int} (h : CntMap R w b n xs) (he : Ev R w R1 w1) : CntMap R1 w1 b n xs := by
  have hlt := h.lt
  obtain ⟨hb, D, ⟨es, clock, h1, h2, h3, h4⟩, h5⟩ := h
  exact ⟨he.free b hlt hb, D, ⟨es, clock, (he.block b hlt hb).trans h1, h2, h3, h4⟩, h5⟩

theorem CntMap.kept {R : Reg} {w w1 : World} {b b' n : Nat} {xs : List Int} (h : CntMap R w b n xs) (hg : w.grownBy w1 (some b')) (hne : b ≠ b') : CntMap R w1 b n xs := by
  obtain ⟨hb, D, h1, h2⟩ := h
  exact ⟨hb, D, h1.kept hg (fun e => hne (by injection e)), h2⟩

theorem CntMap.made {R : Reg} {w : World} (hI : Inv R w) : CntMap R (w.alloc (.map #[] 0)) w.heap.size 0 [] := by
  refine ⟨hI.none_of_ge (Nat.le_refl _), .map [], World.ownsMap_made _ _ _ _, fun j => ?_, rfl, fun j => ?_⟩
  · simp [DataW.atKey, nth]
  · simp [Maps.has]

/-- the sizes of the orbits, as far as k darts tell them: the next dart's name is put -/
theorem CntMap.open {R : Reg} {w : World} {b n : Nat} {xs : List Int} (h : CntMap R w b n xs) : ∃ D : DataW Unit, w.ownsMap Tryz.prog 3 (plainElem Tryz.prog 3) b n D ∧ Tidy D ∧
    (∀ j : Nat, D.atKey (.int .i64 (j : Int)) (.lit (.int .i64 0)) = .lit (.int .i64 (nth xs j))) ∧ Maps.size D = xs.length ∧ ∀ j : Nat, Maps.has D (.int .i64 (j : Int)) = decide (j < xs.length) := by
  obtain ⟨_, D, h1, h2⟩ := h
  exact ⟨D, h1, h1.tidy mapKeyed, h2⟩

/-- the map's look-up, ahead of the walk -/
theorem CntMap.look {R : Reg} {w : World} {b n : Nat} {xs : List Int} (h : CntMap R w b n xs) (y : Nat) (hy : y ≤ 4194304) :
    (Instr.lookup 157 (.map (some b)) (.int .i64 (y : Int)) false).run Tryz.prog w = .ok (.int .i64 (nth xs y)) w := by
  obtain ⟨D, h1, _, h2, _⟩ := h.open
  have hwf : (Lit.int .i64 (y : Int)).wf = true := WalkArith.wf_i64 (by omega)
  obtain ⟨c, hrun, hat, _⟩ := h1.lookup_int mapKeyed Tryz.underlying157 Tryz.underlying3 (mapZero _) (keyOf_int_mk Tryz.underlying3 hwf)
  rw [h2] at hat
  simp only [DataW.lit.injEq, Lit.int.injEq, true_and] at hat
  rw [hat]; exact hrun

theorem CntMap.len {R : Reg} {w : World} {b n : Nat} {xs : List Int} (h : CntMap R w b n xs) (ty : TypeId) :
    (Builtin.len_ #[157] ty #[.map (some b)]).run Tryz.prog w = .ok (.int .i64 xs.length) w := by
  obtain ⟨D, h1, _, _, h2, _⟩ := h.open
  have := h1.len Tryz.underlying157 ty
  rw [h2] at this
  exact this

end Go.Proofs.YtklkgicjfnbndaaGreat

namespace Go.Proofs.YtklkgicjfnbndaaGreat
open Go.RowKit Go.Maps
set_option linter.unusedVariables false

def updF (f : Int → Option Int) (y u : Int) : Int → Option Int := fun j => if j = y then some u else f j
theorem updF_same (f : Int → Option Int) (y u : Int) : updF f y u y = some u := by simp [updF]
theorem updF_other (f : Int → Option Int) (y u : Int) {j : Int} (h : j ≠ y) : updF f y u j = f j := by simp [updF, h]

/-- block b, which no one has registered, is a map that has at each j what f says, and c keys -/
def FMap (R : Reg) (w : World) (b n : Nat) (f : Int → Option Int) (c : Nat) : Prop :=
  R b = none ∧ ∃ D : DataW Unit, w.ownsMap Tryz.prog 3 (plainElem Tryz.prog 3) b n D ∧
    (∀ j : Int, D.atKey (.int .i64 j) (.lit (.int .i64 0)) = .lit (.int .i64 ((f j).getD 0))) ∧ Maps.size D = c ∧ ∀ j : Int, Maps.has D (.int .i64 j) = (f j).isSome

theorem FMap.lt {R : Reg} {w : World} {b n c : Nat} {f : Int → Option Int} (h : FMap R w b n f c) : b < w.heap.size := by
  obtain ⟨_, D, h, _⟩ := h
  exact h.lt
theorem FMap.free {R : Reg} {w : World} {b n c : Nat} {f : Int → Option Int} (h : FMap R w b n f c) : R b = none := h.1
theorem FMap.ev {R R1 : Reg} {w w1 : World} {b n c : Nat} {f : Int → Option Int} (h : FMap R w b n f c) (he : Ev R w R1 w1) : FMap R1 w1 b n f c := by
  have hlt := h.lt
  obtain ⟨hb, D, ⟨es, clock, h1, h2, h3, h4⟩, h5⟩ := h
  exact ⟨he.free b hlt hb, D, ⟨es, clock, (he.block b hlt hb).trans h1, h2, h3, h4⟩, h5⟩
theorem FMap.kept {R : Reg} {w w1 : World} {b n c : Nat} {row : Option Nat} {f : Int → Option Int} (h : FMap R w b n f c) (hg : w.grownBy w1 row) (hne : row ≠ some b) : FMap R w1 b n f c := by
  obtain ⟨hb, D, h1, h2⟩ := h
  exact ⟨hb, D, h1.kept hg (fun e => hne e.symm), h2⟩
theorem FMap.alloc {R : Reg} {w : World} {b n c : Nat} {f : Int → Option Int} (h : FMap R w b n f c) (o : Obj) : FMap R (w.alloc o) b n f c := h.kept (World.grownBy_alloc w o none) (by simp)
theorem FMap.drew {R : Reg} {w : World} {b n c : Nat} {f : Int → Option Int} (h : FMap R w b n f c) : FMap R w.drew b n f c := h
theorem FMap.setCell {R : Reg} {w : World} {b n c : Nat} {f : Int → Option Int} (h : FMap R w b n f c) {a : Addr} (ha : b ≠ a.block) (u : Value) : FMap R (w.setCell a u) b n f c := by
  obtain ⟨hb, D, h1, h2⟩ := h
  exact ⟨hb, D, h1.setCell ha u, h2⟩
theorem FMap.made {R : Reg} {w : World} (hI : Inv R w) : FMap R (w.alloc (.map #[] 0)) w.heap.size 0 (fun _ => none) 0 := by
  refine ⟨hI.none_of_ge (Nat.le_refl _), .map [], World.ownsMap_made _ _ _ _, fun j => ?_, rfl, fun j => ?_⟩
  · simp [DataW.atKey]
  · simp [Maps.has]

theorem FMap.look {R : Reg} {w : World} {b n c : Nat} {f : Int → Option Int} (h : FMap R w b n f c) (y : Int) (hy : -9223372036854775808 ≤ y ∧ y ≤ 9223372036854775807) :
    (Instr.lookup 157 (.map (some b)) (.int .i64 y) false).run Tryz.prog w = .ok (.int .i64 ((f y).getD 0)) w := by
  obtain ⟨_, D, h1, h2, _, _⟩ := h
  have hwf : (Lit.int .i64 y).wf = true := WalkArith.wf_i64 (by omega)
  obtain ⟨c', hrun, hat, _⟩ := h1.lookup_int mapKeyed Tryz.underlying157 Tryz.underlying3 (mapZero _) (keyOf_int_mk Tryz.underlying3 hwf)
  rw [h2] at hat
  simp only [DataW.lit.injEq, Lit.int.injEq, true_and] at hat
  rw [hat]; exact hrun
theorem FMap.len {R : Reg} {w : World} {b n c : Nat} {f : Int → Option Int} (h : FMap R w b n f c) (ty : TypeId) :
    (Builtin.len_ #[157] ty #[.map (some b)]).run Tryz.prog w = .ok (.int .i64 (c : Int)) w := by
  obtain ⟨_, D, h1, _, h2, _⟩ := h
  have := h1.len Tryz.underlying157 ty
  rw [h2] at this
  exact this

end Go.Proofs.YtklkgicjfnbndaaGreat
