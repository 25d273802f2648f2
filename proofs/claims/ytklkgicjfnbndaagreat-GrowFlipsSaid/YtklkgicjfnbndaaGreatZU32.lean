/- The document's lists of vertices, for Cut and for Shrink, have each dart that is left. -/
import Derived.Test.YtklkgicjfnbndaaGreatZU31
namespace Go.Proofs.YtklkgicjfnbndaaGreat
section
set_option linter.unusedVariables false
section
variable {s : List Nat} (hs : IsPerm s) {e : Nat}
include hs
end
section
variable {s : List Nat} (hs : IsPerm s) {e : Nat} (hn : 2 * e + 2 ≤ s.length)
include hs hn
end
end
section
set_option linter.unusedVariables false
section
variable {s : List Nat} (hs : IsPerm s) {e : Nat} (hn : 2 * e + 2 ≤ s.length)
include hs hn
end
end
section
open Go.RowKit
set_option linter.unusedVariables false
structure OutAt (R:Reg) (w0 w:World) (bo gS m:Nat) (T:List Nat) (r l:Int):Prop where
 ev:Ev R w0 R w
 nb:R bo=none
 blk:w.heap[bo]?=some (.cells #[.slice (some ⟨gS,0,none⟩) m m,.int .i64 r,.int .i64 l] 27 (0,0))
 own:OwnI R w0.heap.size 3 w (.slice (some ⟨gS,0,none⟩) m m) (toI T)
 lt:w0.heap.size≤bo
 ne:gS≠bo
 len:T.length=m
theorem OutAt.putS {R:Reg} {w0 w:World} {bo gS m:Nat} {T:List Nat} {r l:Int} (h:OutAt R w0 w bo gS m T r l) {i:Nat} (hi:i<m) (y:Nat):OutAt R w0 (w.setCell ⟨gS,i,none⟩ (.int .i64 ((y:Nat):Int))) bo gS m (T.set i y) r l where
 ev:=h.ev.setCell (h.own.lt gS rfl).1 (h.own.2 gS rfl) _
 nb:=h.nb
 blk:=by
  rw[Below.heap_setCell _ _ _ _ (by first|exact h.ne|exact h.ne.symm)]
  exact h.blk
 own:=by
  have e1:toI (T.set i y)=(toI T).set i ((y:Nat):Int):=by simp[toI,List.map_set]
  rw[e1]
  exact h.own.put (by rw[toI_length];exact h.len) i hi _
 lt:=h.lt
 ne:=h.ne
 len:=by rw[List.length_set];exact h.len
theorem OutAt.cells {R:Reg} {w0 w:World} {bo gS m:Nat} {T:List Nat} {r l:Int} (h:OutAt R w0 w bo gS m T r l):
  w.cell? ⟨bo,0,none⟩=some (.slice (some ⟨gS,0,none⟩) m m)∧w.cell? ⟨bo,1,none⟩=some (.int .i64 r)∧w.cell? ⟨bo,2,none⟩=some (.int .i64 l)∧∀ o,w.frozen? ⟨bo,o,none⟩=false:=box_cells h.blk
theorem toI_reps (m:Nat):toI (List.replicate m 0)=List.replicate m 0:=by simp[toI]
end
end Go.Proofs.YtklkgicjfnbndaaGreat
