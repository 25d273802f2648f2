/- dual.Relabel. -/
import Derived.Test.YtgphnkkdmlohlaaGreatZShellOrders22
import Derived.Test.YtgphnkkdmlohlaaGreatZShellOrders20
import Derived.Test.YtgphnkkdmlohlaaGreatZShellOrders13
import Derived.Deep.RegionHeld3
import Derived.Test.YtgphnkkdmlohlaaGreatZShellOrders01
import Derived.Test.YtgphnkkdmlohlaaGreatZShellOrders15
import Derived.Test.YtgphnkkdmlohlaaGreatZShellOrders17
import Derived.Deep.RegionLaw
namespace Go.Proofs.YtgphnkkdmlohlaaGreat
section
open Go.RowKit
set_option linter.unusedVariables false
end
section
open Go.RowKit
set_option linter.unusedVariables false
end
section
open Go.RowKit
set_option linter.unusedVariables false
end
section
set_option linter.unusedVariables false
section
variable {s : List Nat} (hs : IsPerm s) {e : Nat} (hn : 2 * e + 2 ≤ s.length) (hne : nth (namesL s) (2 * e) ≠ nth (namesL s) (2 * e + 1))
include hs hn hne
end
end
section
set_option linter.unusedVariables false
section
variable {s : List Nat} (hs : IsPerm s) (he : s.length % 2 = 0) {e : Nat} (hn : 2 * e + 2 ≤ s.length) (hne : nth (namesL s) (2 * e) ≠ nth (namesL s) (2 * e + 1))
include hs he hn
include hne
end
end
section
set_option linter.unusedVariables false
theorem orbitGo_map {s:List Nat} {i:Nat}:∀ (f x:Nat),Reach s i f x→∃ m,it s m x=i∧orbitGo s i f x=(List.range m).map (fun j=>it s j x)
 | 0,x,h=>by
  obtain⟨j,hj,e⟩:=h
  obtain rfl:j=0:=by omega
  exact⟨0,e,rfl⟩
 | f+1,x,h=>by
  by_cases hx:x=i
  ·subst hx;exact⟨0,rfl,by rw[orbitGo_end];rfl⟩
  ·obtain⟨f',hf,hr⟩:=h.next hx
   obtain rfl:f'=f:=by omega
   obtain⟨m,h1,h2⟩:=orbitGo_map f' (at' s x) hr
   refine⟨m+1,h1,?_⟩
   rw[orbitGo_next hx,h2,List.range_succ_eq_map,List.map_cons,List.map_map]
   rfl
theorem orbitL_map {s:List Nat} (hs:IsPerm s) {i:Nat} (hi:i<s.length):∃ c,0<c∧it s c i=i∧orbitL s i=(List.range c).map (fun j=>it s j i):=by
 obtain⟨m,h1,h2⟩:=orbitGo_map s.length (at' s i) (hs.reach hi)
 refine⟨m+1,by omega,h1,?_⟩
 show i :: orbitGo s i s.length (at' s i)=_
 rw[h2,List.range_succ_eq_map,List.map_cons,List.map_map]
 rfl
def nextI (n i:Nat):Nat:=if i+1<n then i+1 else 0
end
section
set_option linter.unusedVariables false
end
section
open Go.RowKit
set_option linter.unusedVariables false
end
section
open Go.RowKit Go.Maps
set_option linter.unusedVariables false
end
section
set_option linter.unusedVariables false
section
variable {s : List Nat} (hs : IsPerm s) {e : Nat}
include hs
end
section
variable {s : List Nat} (hs : IsPerm s) {e : Nat} (hn : 2 * e + 2 ≤ s.length)
include hs hn
end
end
section
set_option linter.unusedVariables false
section
variable {s : List Nat} (hs : IsPerm s) {e : Nat} (hn : 2 * e + 2 ≤ s.length)
include hs hn
end
end
section
open Go.RowKit
set_option linter.unusedVariables false
end
end Go.Proofs.YtgphnkkdmlohlaaGreat
