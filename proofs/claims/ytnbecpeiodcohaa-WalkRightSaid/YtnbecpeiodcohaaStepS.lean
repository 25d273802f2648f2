/- Rows of steps (two integers each) in memory. Conditions: none. -/
import Derived.Test.YtnbecpeiodcohaaWalkA
namespace Go.Proofs.Ytnbecpeiodcohaa
open Go.RowKit
set_option linter.unusedVariables false

def stepsV : List (Int × Int) → List Value
  | [] => []
  | x :: l => .int .i64 x.1 :: .int .i64 x.2 :: stepsV l
theorem stepsV_length : ∀ l, (stepsV l).length = l.length * 2
  | [] => rfl
  | x :: l => by
    show (stepsV l).length + 1 + 1 = (l.length + 1) * 2
    rw [stepsV_length l]; omega
theorem stepsV_append : ∀ l m, stepsV (l ++ m) = stepsV l ++ stepsV m
  | [], _ => rfl
  | x :: l, m => by
    show _ :: _ :: stepsV (l ++ m) = _ :: _ :: (stepsV l ++ stepsV m)
    rw [stepsV_append l m]
def nthS (l : List (Int × Int)) (i : Nat) : Int × Int := l.getD i (0, 0)
theorem stepsV_get : ∀ {l : List (Int × Int)} {i : Nat}, i < l.length → (stepsV l)[i * 2]? = some (.int .i64 (nthS l i).1) ∧ (stepsV l)[i * 2 + 1]? = some (.int .i64 (nthS l i).2)
  | x :: l, 0, _ => ⟨rfl, rfl⟩
  | x :: l, i + 1, h => by
    have ih := stepsV_get (l := l) (i := i) (by simpa using h)
    have e : (i + 1) * 2 = i * 2 + 1 + 1 := by omega
    rw [e]
    exact ih
theorem stepsV_one : ∀ (l : List (Int × Int)) (u : Value), u ∈ stepsV l → u.oneCell' = true
  | [], u, h => by cases h
  | x :: l, u, h => by
    unfold stepsV at h
    simp only [List.mem_cons] at h
    rcases h with rfl | rfl | h
    · rfl
    · rfl
    · exact stepsV_one l u h
theorem nthS_take {l : List (Int × Int)} {k i : Nat} (h : i < k) : nthS (l.take k) i = nthS l i := by
  unfold nthS
  rw [List.getD_eq_getElem?_getD, List.getD_eq_getElem?_getD, List.getElem?_take, if_pos h]
theorem nthS_append_left {l m : List (Int × Int)} {i : Nat} (h : i < l.length) : nthS (l ++ m) i = nthS l i := by
  unfold nthS
  rw [List.getD_eq_getElem?_getD, List.getD_eq_getElem?_getD, List.getElem?_append_left h]
theorem nthS_get {l : List (Int × Int)} {i : Nat} (h : i < l.length) : nthS l i = l[i] := by
  unfold nthS; rw [List.getD_eq_getElem?_getD, List.getElem?_eq_getElem h]; rfl

theorem cells_new (w : World) (l : List Value) (T : TypeId) (j : Nat) (u : Value) (h : l[j]? = some u) : (w.alloc (.cells l.toArray T)).cell? ((⟨w.heap.size, 0, none⟩ : Addr).add j) = some u := by
  have hadd : (⟨w.heap.size, 0, none⟩ : Addr).add j = ⟨w.heap.size, j, none⟩ := by unfold Addr.add; split <;> simp_all
  rw [hadd]
  simp [h]

theorem step_info : (Try.prog.info? 41).map (fun i => (i.zero, i.size, i.bytes)) = some (some (.agg #[.int .i64 0, .int .i64 0]), 2, 16) := by kernel_rfl

/-- a row of steps that is read: in a block that no one has registered, or of no element -/
def FreeS (R : Reg) (w : World) (v : Value) (xs : List (Int × Int)) : Prop :=
  ∃ a cap, v = .slice a xs.length cap ∧ xs.length ≤ cap ∧ cap ≤ maxLen ∧ ∀ i, i < xs.length → ∃ b off, a = some ⟨b, off, none⟩ ∧ R b = none ∧ w.cell? ⟨b, off + i * 2, none⟩ = some (.int .i64 (nthS xs i).1) ∧ w.cell? ⟨b, off + i * 2 + 1, none⟩ = some (.int .i64 (nthS xs i).2)
theorem FreeS.ev {R R1 : Reg} {w w1 : World} {v : Value} {xs : List (Int × Int)} (h : FreeS R w v xs) (he : Ev R w R1 w1) : FreeS R1 w1 v xs := by
  obtain ⟨a, cap, h1, h2, h3, h4⟩ := h
  refine ⟨a, cap, h1, h2, h3, fun i hi => ?_⟩
  obtain ⟨b, off, e, hb, c1, c2⟩ := h4 i hi
  have hl := lt_of_cell c1
  exact ⟨b, off, e, he.free b hl hb, (he.cell hl hb).trans c1, (he.cell hl hb).trans c2⟩
theorem FreeS.nil (R : Reg) (w : World) : FreeS R w nilS [] := ⟨none, 0, rfl, Nat.le_refl _, by simp [maxLen], fun i hi => by simp at hi⟩
theorem FreeS.of_own {R : Reg} {B : Nat} {E : TypeId} {w : World} {v : Value} {xs : List (Int × Int)} (h : OwnV R B E 2 w v xs.length (stepsV xs)) : FreeS R w v xs := by
  obtain ⟨a, cap, e, h1, h2, h3⟩ := h.open
  refine ⟨a, cap, e, h1, h2, fun i hi => ?_⟩
  obtain ⟨g, e1, _, hn, c1, _⟩ := h3 (i * 2) (by rw [stepsV_length]; omega)
  obtain ⟨g', e2, _, _, c2, _⟩ := h3 (i * 2 + 1) (by rw [stepsV_length]; omega)
  have e3 : g' = g := by rw [e1] at e2; injection e2 with e2; injection e2 with e2; exact e2.symm
  subst e3
  exact ⟨g', 0, e1, hn, by rw [Nat.zero_add, c1, (stepsV_get hi).1], by rw [Nat.zero_add, c2, (stepsV_get hi).2]⟩
theorem FreeS.take {R : Reg} {w : World} {a : Option Addr} {n cap : Nat} {xs : List (Int × Int)} (h : FreeS R w (.slice a n cap) xs) {k : Nat} (hk : k ≤ n) : FreeS R w (.slice a k cap) (xs.take k) := by
  obtain ⟨a', cap', e, h1, h2, h3⟩ := h
  cases e
  have hl : (xs.take k).length = k := by rw [List.length_take]; omega
  refine ⟨_, _, by rw [hl], by omega, h2, fun i hi => ?_⟩
  rw [hl] at hi
  rw [nthS_take hi]
  exact h3 i (by omega)
theorem FreeS.open {R : Reg} {w : World} {v : Value} {xs : List (Int × Int)} (h : FreeS R w v xs) : ∃ a cap, v = .slice a xs.length cap ∧ FreeS R w (.slice a xs.length cap) xs := by
  have h' := h
  obtain ⟨a, cap, e, _⟩ := h
  subst e
  exact ⟨a, cap, rfl, h'⟩
theorem FreeS.at {R : Reg} {w : World} {a : Option Addr} {n cap : Nat} {xs : List (Int × Int)} (h : FreeS R w (.slice a n cap) xs) {i : Nat} (hi : i < n) :
    ∃ b off, a = some ⟨b, off, none⟩ ∧ R b = none ∧ w.cell? ⟨b, off + i * 2, none⟩ = some (.int .i64 (nthS xs i).1) ∧ w.cell? ⟨b, off + i * 2 + 1, none⟩ = some (.int .i64 (nthS xs i).2) := by
  obtain ⟨a', cap', e, h1, h2, h3⟩ := h
  cases e
  exact h3 i hi
theorem FreeS.length {R : Reg} {w : World} {a : Option Addr} {n cap : Nat} {xs : List (Int × Int)} (h : FreeS R w (.slice a n cap) xs) : n = xs.length := by
  obtain ⟨a', cap', e, h1, h2, h3⟩ := h
  cases e
  rfl

/-- make([]T, n) as an equation, in whatever world -/
theorem make_eq {n : Nat} {z : Value} {t e : TypeId} {i : TypeInfo} (h1 : Try.prog.underlying t = some (.slice e)) (h2 : Try.prog.info? e = some i) (h3 : i.zero = some z) (h4 : i.size = 1) (b2 : i.bytes * n ≤ 281474976710656) (b3 : n ≤ maxLen) (W : World) :
    (Instr.makeSlice t (.int .i64 (n : Int)) (.int .i64 (n : Int))).run Try.prog W = .ok (.slice (some ⟨W.heap.size, 0, none⟩) n n) (W.alloc (.cells (madeCells z.cells (n * 1)) e)) := by
  have h63' : (n : Int) ≤ 9223372036854775807 := by
    have h := b3
    simp [maxLen] at h
    omega
  have hb' : (i.bytes : Int) * (n : Int) ≤ 281474976710656 := by
    have h : ((i.bytes * n : Nat) : Int) ≤ 281474976710656 := by omega
    rwa [Int.natCast_mul] at h
  have hr := run_make (P := Try.prog) W t e i z h1 h2 h3 .i64 .i64 n n (by omega) (Int.le_refl _) hb' h63'
  simp only [Int.toNat_natCast, h4] at hr
  exact hr

/-- one's own row of noughts, of one cell each -/
theorem OwnV.madeAt {R : Reg} {w1 : World} {B : Nat} {E : TypeId} {g n : Nat} {z : Value} (hg : R g = none) (ho : w1.ownsRow B E 1 (.slice (some ⟨g, 0, none⟩) n n) n (madeCells #[z] (n * 1)).toList) :
    OwnV R B E 1 w1 (.slice (some ⟨g, 0, none⟩) n n) n (List.replicate n z) := by
  refine ⟨?_, fun k hk => ?_⟩
  · rw [Nat.mul_one, toList_madeCells_one] at ho
    exact ho
  · simp only [Value.ownBlock, Option.some.injEq] at hk
    rw [← hk]; exact hg

/-- a row of noughts, laid in the heap -/
theorem rowI_made {R : Reg} {W : World} {B n : Nat} (hI : Inv R W) (hB : B ≤ W.heap.size) (hn : n ≤ maxLen) :
    OwnI R B 3 (W.alloc (.cells (madeCells #[.int .i64 0] (n * 1)) 3)) (.slice (some ⟨W.heap.size, 0, none⟩) n n) (List.replicate n 0) := by
  have h := World.ownsRow_lit (size := 1) (e := 3) W _ n hB hn (size_madeCells #[.int .i64 0] (n * 1))
  exact OwnI.made hI (by simpa using h)
theorem rowV_made {R : Reg} {W : World} {B n : Nat} {E : TypeId} {z : Value} (hI : Inv R W) (hB : B ≤ W.heap.size) (hn : n ≤ maxLen) :
    OwnV R B E 1 (W.alloc (.cells (madeCells #[z] (n * 1)) E)) (.slice (some ⟨W.heap.size, 0, none⟩) n n) n (List.replicate n z) := by
  have h := World.ownsRow_lit (size := 1) (e := E) W _ n hB hn (size_madeCells #[z] (n * 1))
  exact OwnV.madeAt (hI.none_of_ge (Nat.le_refl _)) h

end Go.Proofs.Ytnbecpeiodcohaa
