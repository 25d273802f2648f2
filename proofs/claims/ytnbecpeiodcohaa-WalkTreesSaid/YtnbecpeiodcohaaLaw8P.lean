/- The numbers of a part are small. Conditions: none. -/
import Derived.Test.YtnbecpeiodcohaaEulB
namespace Go.Proofs.Ytnbecpeiodcohaa
open Go.RowKit
set_option linter.unusedVariables false

theorem genOf_le {s : List Nat} (hs : IsPerm s) (he : s.length % 2 = 0) (hn : s.length ≤ 131073) {k : Nat} (hk : k < partsN s) : 0 ≤ genOf s (partsL s) k ∧ genOf s (partsL s) k ≤ 65538 := by
  obtain ⟨h1, h2⟩ := genOf_euler hs he hk
  have := ecnt_le (partsL s) (k : Int) s.length
  omega
theorem partsF_g {s : List Nat} (hs : IsPerm s) (he : s.length % 2 = 0) (hn : s.length ≤ 131073) (k : Nat) : 0 ≤ (partsF s k).g ∧ (partsF s k).g ≤ 65538 := by
  unfold partsF
  by_cases h : k < partsN s
  · rw [if_pos h]; exact genOf_le hs he hn h
  · rw [if_neg h]; exact ⟨by decide, by decide⟩

theorem partsF_fields {s : List Nat} (hs : IsPerm s) (he : s.length % 2 = 0) (hn : s.length ≤ 131073) (k : Nat) :
    (0 ≤ (partsF s k).v ∧ (partsF s k).v ≤ 131073) ∧ (0 ≤ (partsF s k).e ∧ (partsF s k).e ≤ 131073) ∧ (0 ≤ (partsF s k).b ∧ (partsF s k).b ≤ 131073) ∧ (0 ≤ (partsF s k).g ∧ (partsF s k).g ≤ 65538) ∧
    (partsF s k).v - (partsF s k).e + (partsF s k).b = 2 - 2 * (partsF s k).g := by
  have hg := partsF_g hs he hn k
  refine ⟨?_, ?_, ?_, hg, ?_⟩
  · unfold partsF
    split
    · have := vcnt_le s (partsL s) (k : Int) s.length
      show 0 ≤ ((vcnt s (partsL s) (k : Int) s.length : Nat) : Int) ∧ ((vcnt s (partsL s) (k : Int) s.length : Nat) : Int) ≤ _
      omega
    · exact ⟨by decide, by decide⟩
  · unfold partsF
    split
    · have := ecnt_le (partsL s) (k : Int) s.length
      show 0 ≤ ((ecnt (partsL s) (k : Int) s.length : Nat) : Int) ∧ ((ecnt (partsL s) (k : Int) s.length : Nat) : Int) ≤ _
      omega
    · exact ⟨by decide, by decide⟩
  · unfold partsF
    split
    · have := vcnt_le (phiL s) (partsL s) (k : Int) s.length
      show 0 ≤ ((vcnt (phiL s) (partsL s) (k : Int) s.length : Nat) : Int) ∧ ((vcnt (phiL s) (partsL s) (k : Int) s.length : Nat) : Int) ≤ _
      omega
    · exact ⟨by decide, by decide⟩
  · unfold partsF
    split
    · rename_i h
      exact (genOf_euler hs he h).2
    · decide

/-- a block of the call's own, through calls -/
theorem zero_ev {R R1 : Reg} {w w1 : World} {b B : Nat} {o : Obj} (h : w.heap[b]? = some o ∧ R b = none ∧ B ≤ b) (he : Ev R w R1 w1) : w1.heap[b]? = some o ∧ R1 b = none ∧ B ≤ b :=
  ⟨(he.block b (lt_of_block h.1) h.2.1).trans h.1, he.free b (lt_of_block h.1) h.2.1, h.2.2⟩
theorem zero_evA {R0 R R1 : Reg} {w0 w w1 : World} {cs : Array Value} {T : TypeId} (h : Ev R0 w0 R w) (he : Ev R (w.alloc (.cells cs T)) R1 w1) : w1.heap[w.heap.size]? = some (.cells cs T (0, 0)) ∧ R1 w.heap.size = none ∧ w0.heap.size ≤ w.heap.size :=
  zero_ev ⟨heap_alloc_new w _, h.inv.none_of_ge (Nat.le_refl _), h.size⟩ he
theorem zero_evD {R R1 : Reg} {w w1 : World} {cs : Array Value} {T : TypeId} (h : Inv R w) (he : Ev R (w.alloc (.cells cs T)).drew R1 w1) : w1.heap[w.heap.size]? = some (.cells cs T (0, 0)) ∧ R1 w.heap.size = none ∧ w.heap.size ≤ w.heap.size :=
  zero_ev (w := (w.alloc (.cells cs T)).drew) ⟨heap_alloc_new w _, h.none_of_ge (Nat.le_refl _), Nat.le_refl _⟩ he
theorem zero_cells {w : World} {b : Nat} {T : TypeId} {c0 c1 c2 c3 c4 : Value} (h : w.heap[b]? = some (.cells #[c0, c1, c2, c3, c4] T (0, 0))) :
    w.cell? ⟨b, 0, none⟩ = some c0 ∧ w.cell? ⟨b, 1, none⟩ = some c1 ∧ w.cell? ⟨b, 2, none⟩ = some c2 ∧ w.cell? ⟨b, 3, none⟩ = some c3 ∧ w.cell? ⟨b, 4, none⟩ = some c4 ∧ ∀ o, w.frozen? ⟨b, o, none⟩ = false :=
  ⟨cells_at h 0, cells_at h 1, cells_at h 2, cells_at h 3, cells_at h 4, fun o => free_at h o⟩
theorem set5 {w : World} {b : Nat} {T : TypeId} {c0 c1 c2 c3 c4 x0 x1 x2 x3 x4 : Value} (h : w.heap[b]? = some (.cells #[c0, c1, c2, c3, c4] T (0, 0))) :
    (((((w.setCell ⟨b, 0, none⟩ x0).setCell ⟨b, 1, none⟩ x1).setCell ⟨b, 2, none⟩ x2).setCell ⟨b, 3, none⟩ x3).setCell ⟨b, 4, none⟩ x4).heap[b]? = some (.cells #[x0, x1, x2, x3, x4] T (0, 0)) := by
  have e1 := heap_setCell_same w b 0 _ T x0 h
  have e2 := heap_setCell_same _ b 1 _ T x1 e1
  have e3 := heap_setCell_same _ b 2 _ T x2 e2
  have e4 := heap_setCell_same _ b 3 _ T x3 e3
  exact heap_setCell_same _ b 4 _ T x4 e4

/-- a variable that holds a part -/
def PartVar (R0 : Reg) (w0 : World) (v : Value) (wx : World) (p0 p1 p2 p3 p4 : Int) : Prop :=
  ∃ (g : Nat) (Rx : Reg), v = .pointer (some ⟨g, 0, none⟩) ∧ Ev R0 w0 Rx wx ∧ Rx g = none ∧ wx.cell? ⟨g, 0, none⟩ = some (.int .i64 p0) ∧ wx.cell? ⟨g, 1, none⟩ = some (.int .i64 p1) ∧ wx.cell? ⟨g, 2, none⟩ = some (.int .i64 p2) ∧ wx.cell? ⟨g, 3, none⟩ = some (.int .i64 p3) ∧ wx.cell? ⟨g, 4, none⟩ = some (.int .i64 p4)
theorem PartVar.new {R0 R : Reg} {w0 w : World} {T : TypeId} {p0 p1 p2 p3 p4 : Int} (he : Ev R0 w0 R w) :
    PartVar R0 w0 (.pointer (some ⟨w.heap.size, 0, none⟩)) (w.alloc (.cells #[.int .i64 p0, .int .i64 p1, .int .i64 p2, .int .i64 p3, .int .i64 p4] T)) p0 p1 p2 p3 p4 :=
  ⟨_, R, rfl, he.alloc _, he.inv.none_of_ge (Nat.le_refl _), by simp, by simp, by simp, by simp, by simp⟩
theorem PartVar.old {R0 R : Reg} {w0 w : World} {T : TypeId} {b : Nat} {c0 c1 c2 c3 c4 : Value} {p0 p1 p2 p3 p4 : Int} (he : Ev R0 w0 R w) (hz : w.heap[b]? = some (.cells #[c0, c1, c2, c3, c4] T (0, 0)) ∧ R b = none ∧ w0.heap.size ≤ b) :
    PartVar R0 w0 (.pointer (some ⟨b, 0, none⟩)) (((((w.setCell ⟨b, 0, none⟩ (.int .i64 p0)).setCell ⟨b, 1, none⟩ (.int .i64 p1)).setCell ⟨b, 2, none⟩ (.int .i64 p2)).setCell ⟨b, 3, none⟩ (.int .i64 p3)).setCell ⟨b, 4, none⟩ (.int .i64 p4)) p0 p1 p2 p3 p4 := by
  obtain ⟨h1, h2, h3⟩ := hz
  have h5 := set5 (x0 := .int .i64 p0) (x1 := .int .i64 p1) (x2 := .int .i64 p2) (x3 := .int .i64 p3) (x4 := .int .i64 p4) h1
  exact ⟨b, R, rfl, ((((he.setCell (p := ⟨b, 0, none⟩) h3 h2 _).setCell (p := ⟨b, 1, none⟩) h3 h2 _).setCell (p := ⟨b, 2, none⟩) h3 h2 _).setCell (p := ⟨b, 3, none⟩) h3 h2 _).setCell (p := ⟨b, 4, none⟩) h3 h2 _, h2, cells_at h5 0, cells_at h5 1, cells_at h5 2, cells_at h5 3, cells_at h5 4⟩

end Go.Proofs.Ytnbecpeiodcohaa
