/- slices.Replace at []int: one element, neither the first nor the last, by a row of another block. Conditions: lengths. -/
import Derived.Test.YtgphnkkdmlohlaaGreatDoorZWoodNo11
import Derived.Test.YtgphnkkdmlohlaaGreatDoorZWoodNo29
import Derived.Lib.Overlaps
import Derived.Laws.IdiomCopy
namespace Go.Proofs.YtgphnkkdmlohlaaGreatDoor
open Go.RowKit
set_option linter.unusedVariables false
set_option linter.unusedSimpArgs false
theorem row_cell {W:World} {g:Nat} {cur:Array Value} {E:TypeId} (hh:W.heap[g]?=some (.cells cur E (0,0))) {j:Nat} {v:Value} (hj:cur.toList[j]?=some v):W.cell? ⟨g,j,none⟩=some v:=by
 simp only[World.cell?,hh]
 simpa using hj
theorem row_some {W:World} {g:Nat} {cur:Array Value} {E:TypeId} (hh:W.heap[g]?=some (.cells cur E (0,0))) {j:Nat} (hj:j<cur.size):(W.cell? ⟨g,j,none⟩).isSome=true:=by
 rw[row_cell hh (v:=cur[j]) (by simp[hj])];rfl
theorem row_frozen {W:World} {g:Nat} {cur:Array Value} {E:TypeId} (hh:W.heap[g]?=some (.cells cur E (0,0))) (j:Nat):W.frozen? ⟨g,j,none⟩=false:=by simp[World.frozen?,hh]
theorem row_shape {W:World} {g:Nat} {cur:Array Value} {E:TypeId} (hh:W.heap[g]?=some (.cells cur E (0,0))):W.shape? g=some (E,cur.size):=by simp[World.shape?,hh]
theorem int_size:(Tryz.prog.info? 3).map (·.size)=some 1:=by
 obtain⟨i0,hi,hz0,hz1,hz2⟩:=info_parts int_info
 rw[hi];simp[hz1]
theorem run_apart (W:World) {g gv:Nat} {cur cuv:Array Value} {E E':TypeId} (hg:W.heap[g]?=some (.cells cur E (0,0))) (hv:W.heap[gv]?=some (.cells cuv E' (0,0))) (hne:g≠gv) (h0:cuv.size≠0) (o la ca lb cb:Nat):
  (callFunc 97 #[.slice (some ⟨g,o,none⟩) la ca,.slice (some ⟨gv,0,none⟩) lb cb]).run Tryz.prog W=.ok (.value (.bool false)) W:=by
 rw[run_callFunc_extern Tryz.func97 (by kernel_rfl) (by kernel_rfl) (by kernel_rfl) (e:=Extern.SlicesOverlaps.overlaps #[25,25] #[4]) (by kernel_rfl),
  Lib.run_overlaps_apart W 25 4 3 Tryz.underlying25 1 (fun w=>by kernel_rfl) ⟨g,o,none⟩ ⟨gv,0,none⟩ la ca lb cb hne E E' cur.size cuv.size (row_shape hg) (row_shape hv) h0 (row_frozen hg o) (row_frozen hg _)]
 rfl
end Go.Proofs.YtgphnkkdmlohlaaGreatDoor
