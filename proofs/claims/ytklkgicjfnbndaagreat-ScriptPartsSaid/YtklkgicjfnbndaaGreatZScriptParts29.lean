/- parquetryref10.made: lists of darts, laid into a map. Conditions: the rows lie in memory; their darts are the map's, none of the edge's. -/
import Derived.Test.YtklkgicjfnbndaaGreatZScriptParts28
namespace Go.Proofs.YtklkgicjfnbndaaGreat
open Go.RowKit
set_option linter.unusedVariables false

/-- the map that is laid, in its variable -/
structure OutAt (R : Reg) (w0 w : World) (bo gS m : Nat) (T : List Nat) (r l : Int) : Prop where
  ev : Ev R w0 R w
  nb : R bo = none
  blk : w.heap[bo]? = some (.cells #[.slice (some ⟨gS, 0, none⟩) m m, .int .i64 r, .int .i64 l] 27 (0, 0))
  own : OwnI R w0.heap.size 3 w (.slice (some ⟨gS, 0, none⟩) m m) (toI T)
  lt : w0.heap.size ≤ bo
  ne : gS ≠ bo
  len : T.length = m
/-- its cells -/
theorem OutAt.cells {R : Reg} {w0 w : World} {bo gS m : Nat} {T : List Nat} {r l : Int} (h : OutAt R w0 w bo gS m T r l) :
    w.cell? ⟨bo, 0, none⟩ = some (.slice (some ⟨gS, 0, none⟩) m m) ∧ w.cell? ⟨bo, 1, none⟩ = some (.int .i64 r) ∧ w.cell? ⟨bo, 2, none⟩ = some (.int .i64 l) ∧ ∀ o, w.frozen? ⟨bo, o, none⟩ = false := box_cells h.blk

/-- laid so far -/
theorem OutAt.drew {R : Reg} {w0 w : World} {bo gS m : Nat} {T : List Nat} {r l : Int} (h : OutAt R w0 w bo gS m T r l) : OutAt R w0 w.drew bo gS m T r l := ⟨h.ev.drew, h.nb, h.blk, h.own.drew, h.lt, h.ne, h.len⟩
end Go.Proofs.YtklkgicjfnbndaaGreat
