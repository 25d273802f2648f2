/- A vertex's darts in order, without an edge's: each one's next is the map's that is left. -/
import Derived.Test.YtklkgicjfnbndaaGreatZU27
import Derived.Test.YtklkgicjfnbndaaGreatZU10
import Derived.Test.YtklkgicjfnbndaaGreatZU14
import Derived.Test.YtklkgicjfnbndaaGreatZU24
import Derived.Deep.RegionHeld3
import Derived.Test.YtklkgicjfnbndaaGreatZU16
import Derived.Test.YtklkgicjfnbndaaGreatZU20
import Derived.Deep.RegionLaw
namespace Go.Proofs.YtklkgicjfnbndaaGreat
section
set_option linter.unusedVariables false
theorem orbitGo_map {s:List Nat} {i:Nat}:∀ (f x:Nat),Reach s i f x→∃ m,it s m x=i∧orbitGo s i f x=(List.range m).map (fun j=>it s j x)
 | 0,x,h=>by
  obtain⟨j,hj,e⟩:=h
  obtain rfl:j=0:=by omega
  exact⟨0,e,rfl⟩
 | f+1,x,h=>by
  by_cases hx:x=i
  ·subst hx;exact⟨0,rfl,by rw[orbitGo_end];rfl⟩
  ·obtain⟨f',hf,hr⟩:=h.next hx
   obtain rfl:f'=f:=by omega
   obtain⟨m,h1,h2⟩:=orbitGo_map f' (at' s x) hr
   refine⟨m+1,h1,?_⟩
   rw[orbitGo_next hx,h2,List.range_succ_eq_map,List.map_cons,List.map_map]
   rfl
theorem orbitL_map {s:List Nat} (hs:IsPerm s) {i:Nat} (hi:i<s.length):∃ c,0<c∧it s c i=i∧orbitL s i=(List.range c).map (fun j=>it s j i):=by
 obtain⟨m,h1,h2⟩:=orbitGo_map s.length (at' s i) (hs.reach hi)
 refine⟨m+1,by omega,h1,?_⟩
 show i :: orbitGo s i s.length (at' s i)=_
 rw[h2,List.range_succ_eq_map,List.map_cons,List.map_map]
 rfl
def nextI (n i:Nat):Nat:=if i+1<n then i+1 else 0
end
section
open Go.RowKit
set_option linter.unusedVariables false
end
section
open Go.RowKit
set_option linter.unusedVariables false
theorem box_cells {w:World} {b:Nat} {x y z:Value} {T:TypeId} (hb:w.heap[b]?=some (.cells #[x,y,z] T (0,0))):w.cell? ⟨b,0,none⟩=some x∧w.cell? ⟨b,1,none⟩=some y∧w.cell? ⟨b,2,none⟩=some z∧∀ o,w.frozen? ⟨b,o,none⟩=false:=
 ⟨cells_at hb 0,cells_at hb 1,cells_at hb 2,fun o=>by simp[World.frozen?,hb]⟩
end
section
set_option linter.unusedVariables false
end
section
open Go.RowKit
set_option linter.unusedVariables false
end
section
open Go.RowKit Go.Maps
set_option linter.unusedVariables false
def RowOk (R:Reg) (w:World) (X:Nat→Prop) (u:Value) (xs:List Nat):Prop:=∃ a c,u=.slice a xs.length c∧FreeI R w (.slice a xs.length c) (toI xs)∧∀ k,(Value.slice a xs.length c).ownBlock=some k→¬ X k∧k<w.heap.size
structure RowsLL (R:Reg) (w:World) (X:Nat→Prop) (vs:List Value) (xss:List (List Nat)):Prop where
 len:vs.length=xss.length
 row:∀ i,i<xss.length→∃ u,vs[i]?=some u∧RowOk R w X u (xss.getD i [])
theorem islice_info:(Tryz.prog.info? 25).map (fun i=>(i.zero,i.size,i.bytes))=some (some nilS,1,24):=by kernel_rfl
end
end Go.Proofs.YtklkgicjfnbndaaGreat
