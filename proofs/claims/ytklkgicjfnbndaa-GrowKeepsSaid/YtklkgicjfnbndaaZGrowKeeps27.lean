/- A vertex's darts in order, without an edge's: each one's next is the map's that is left. -/
import Derived.Test.YtklkgicjfnbndaaZGrowKeeps25
import Derived.Test.YtklkgicjfnbndaaZGrowKeeps10
import Derived.Test.YtklkgicjfnbndaaZGrowKeeps14
import Derived.Test.YtklkgicjfnbndaaZGrowKeeps22
import Derived.Deep.RegionHeld3
import Derived.Test.YtklkgicjfnbndaaZGrowKeeps16
import Derived.Test.YtklkgicjfnbndaaZGrowKeeps20
import Derived.Deep.RegionLaw
namespace Go.Proofs.Ytklkgicjfnbndaa
section
set_option linter.unusedVariables false
theorem orbitGo_map {s:List Nat} {i:Nat}:∀ (f x:Nat),Reach s i f x→∃ m,it s m x=i∧orbitGo s i f x=(List.range m).map (fun j=>it s j x)
 | 0,x,h=>by
  obtain⟨j,hj,e⟩:=h
  obtain rfl:j=0:=by omega
  exact⟨0,e,rfl⟩
 | f+1,x,h=>by
  by_cases hx:x=i
  ·subst hx;exact⟨0,rfl,by rw[orbitGo_end];rfl⟩
  ·obtain⟨f',hf,hr⟩:=h.next hx
   obtain rfl:f'=f:=by omega
   obtain⟨m,h1,h2⟩:=orbitGo_map f' (at' s x) hr
   refine⟨m+1,h1,?_⟩
   rw[orbitGo_next hx,h2,List.range_succ_eq_map,List.map_cons,List.map_map]
   rfl
theorem orbitL_map {s:List Nat} (hs:IsPerm s) {i:Nat} (hi:i<s.length):∃ c,0<c∧it s c i=i∧orbitL s i=(List.range c).map (fun j=>it s j i):=by
 obtain⟨m,h1,h2⟩:=orbitGo_map s.length (at' s i) (hs.reach hi)
 refine⟨m+1,by omega,h1,?_⟩
 show i :: orbitGo s i s.length (at' s i)=_
 rw[h2,List.range_succ_eq_map,List.map_cons,List.map_map]
 rfl
def nextI (n i:Nat):Nat:=if i+1<n then i+1 else 0
end
section
open Go.RowKit
set_option linter.unusedVariables false
end
section
open Go.RowKit
set_option linter.unusedVariables false
theorem box_cells {w:World} {b:Nat} {x y z:Value} {T:TypeId} (hb:w.heap[b]?=some (.cells #[x,y,z] T (0,0))):w.cell? ⟨b,0,none⟩=some x∧w.cell? ⟨b,1,none⟩=some y∧w.cell? ⟨b,2,none⟩=some z∧∀ o,w.frozen? ⟨b,o,none⟩=false:=
 ⟨cells_at hb 0,cells_at hb 1,cells_at hb 2,fun o=>by simp[World.frozen?,hb]⟩
end
section
set_option linter.unusedVariables false
end
section
open Go.RowKit
set_option linter.unusedVariables false
end
section
open Go.RowKit Go.Maps
set_option linter.unusedVariables false
def RowOk (R:Reg) (w:World) (X:Nat→Prop) (u:Value) (xs:List Nat):Prop:=∃ a c,u=.slice a xs.length c∧FreeI R w (.slice a xs.length c) (toI xs)∧∀ k,(Value.slice a xs.length c).ownBlock=some k→¬ X k∧k<w.heap.size
structure RowsLL (R:Reg) (w:World) (X:Nat→Prop) (vs:List Value) (xss:List (List Nat)):Prop where
 len:vs.length=xss.length
 row:∀ i,i<xss.length→∃ u,vs[i]?=some u∧RowOk R w X u (xss.getD i [])
theorem islice_info:(Try.prog.info? 25).map (fun i=>(i.zero,i.size,i.bytes))=some (some nilS,1,24):=by kernel_rfl
end
section
set_option linter.unusedVariables false
section
variable {s : List Nat} (hs : IsPerm s) {e : Nat}
include hs
end
section
variable {s : List Nat} (hs : IsPerm s) {e : Nat} (hn : 2 * e + 2 ≤ s.length)
include hs hn
end
end
section
set_option linter.unusedVariables false
section
variable {s : List Nat} (hs : IsPerm s) {e : Nat} (hn : 2 * e + 2 ≤ s.length)
include hs hn
end
end
section
open Go.RowKit
set_option linter.unusedVariables false
structure OutAt (R:Reg) (w0 w:World) (bo gS m:Nat) (T:List Nat) (r l:Int):Prop where
 ev:Ev R w0 R w
 nb:R bo=none
 blk:w.heap[bo]?=some (.cells #[.slice (some ⟨gS,0,none⟩) m m,.int .i64 r,.int .i64 l] 27 (0,0))
 own:OwnI R w0.heap.size 3 w (.slice (some ⟨gS,0,none⟩) m m) (toI T)
 lt:w0.heap.size≤bo
 ne:gS≠bo
 len:T.length=m
theorem OutAt.putS {R:Reg} {w0 w:World} {bo gS m:Nat} {T:List Nat} {r l:Int} (h:OutAt R w0 w bo gS m T r l) {i:Nat} (hi:i<m) (y:Nat):OutAt R w0 (w.setCell ⟨gS,i,none⟩ (.int .i64 ((y:Nat):Int))) bo gS m (T.set i y) r l where
 ev:=h.ev.setCell (h.own.lt gS rfl).1 (h.own.2 gS rfl) _
 nb:=h.nb
 blk:=by
  rw[Below.heap_setCell _ _ _ _ (by first|exact h.ne|exact h.ne.symm)]
  exact h.blk
 own:=by
  have e1:toI (T.set i y)=(toI T).set i ((y:Nat):Int):=by simp[toI,List.map_set]
  rw[e1]
  exact h.own.put (by rw[toI_length];exact h.len) i hi _
 lt:=h.lt
 ne:=h.ne
 len:=by rw[List.length_set];exact h.len
theorem OutAt.cells {R:Reg} {w0 w:World} {bo gS m:Nat} {T:List Nat} {r l:Int} (h:OutAt R w0 w bo gS m T r l):
  w.cell? ⟨bo,0,none⟩=some (.slice (some ⟨gS,0,none⟩) m m)∧w.cell? ⟨bo,1,none⟩=some (.int .i64 r)∧w.cell? ⟨bo,2,none⟩=some (.int .i64 l)∧∀ o,w.frozen? ⟨bo,o,none⟩=false:=box_cells h.blk
theorem toI_reps (m:Nat):toI (List.replicate m 0)=List.replicate m 0:=by simp[toI]
end
end Go.Proofs.Ytklkgicjfnbndaa
