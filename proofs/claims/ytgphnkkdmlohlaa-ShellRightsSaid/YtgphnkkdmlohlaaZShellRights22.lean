/- Shrunk, a map has as many parts, and the same genus. -/
import Derived.Test.YtgphnkkdmlohlaaZShellRights21
import Derived.Test.YtgphnkkdmlohlaaZShellRights01
import Derived.Test.YtgphnkkdmlohlaaZShellRights15
import Derived.Test.YtgphnkkdmlohlaaZShellRights16
import Derived.Deep.RegionLaw
import Derived.Deep.RegionHeld3
import Derived.Test.YtgphnkkdmlohlaaZShellRights19
import Derived.Test.YtgphnkkdmlohlaaZShellRights13
import Derived.Test.YtgphnkkdmlohlaaZShellRights11
namespace Go.Proofs.Ytgphnkkdmlohlaa
section
set_option linter.unusedVariables false
section
variable {s : List Nat} (hs : IsPerm s) (he : s.length % 2 = 0) {e : Nat} (hn : 2 * e + 2 ≤ s.length) (hne : nth (namesL s) (2 * e) ≠ nth (namesL s) (2 * e + 1))
include hs he hn
include hne
end
end
section
set_option linter.unusedVariables false
theorem orbitGo_map {s:List Nat} {i:Nat}:∀ (f x:Nat),Reach s i f x→∃ m,it s m x=i∧orbitGo s i f x=(List.range m).map (fun j=>it s j x)
 | 0,x,h=>by
  obtain⟨j,hj,e⟩:=h
  obtain rfl:j=0:=by omega
  exact⟨0,e,rfl⟩
 | f+1,x,h=>by
  by_cases hx:x=i
  ·subst hx;exact⟨0,rfl,by rw[orbitGo_end];rfl⟩
  ·obtain⟨f',hf,hr⟩:=h.next hx
   obtain rfl:f'=f:=by omega
   obtain⟨m,h1,h2⟩:=orbitGo_map f' (at' s x) hr
   refine⟨m+1,h1,?_⟩
   rw[orbitGo_next hx,h2,List.range_succ_eq_map,List.map_cons,List.map_map]
   rfl
theorem orbitL_map {s:List Nat} (hs:IsPerm s) {i:Nat} (hi:i<s.length):∃ c,0<c∧it s c i=i∧orbitL s i=(List.range c).map (fun j=>it s j i):=by
 obtain⟨m,h1,h2⟩:=orbitGo_map s.length (at' s i) (hs.reach hi)
 refine⟨m+1,by omega,h1,?_⟩
 show i :: orbitGo s i s.length (at' s i)=_
 rw[h2,List.range_succ_eq_map,List.map_cons,List.map_map]
 rfl
def nextI (n i:Nat):Nat:=if i+1<n then i+1 else 0
end
section
set_option linter.unusedVariables false
end
section
open Go.RowKit
set_option linter.unusedVariables false
end
section
open Go.RowKit Go.Maps
set_option linter.unusedVariables false
end
section
set_option linter.unusedVariables false
section
variable {s : List Nat} (hs : IsPerm s) {e : Nat}
include hs
end
section
variable {s : List Nat} (hs : IsPerm s) {e : Nat} (hn : 2 * e + 2 ≤ s.length)
include hs hn
end
end
section
set_option linter.unusedVariables false
section
variable {s : List Nat} (hs : IsPerm s) {e : Nat} (hn : 2 * e + 2 ≤ s.length)
include hs hn
end
end
section
open Go.RowKit
set_option linter.unusedVariables false
end
section
open Go.RowKit
set_option linter.unusedVariables false
end
section
open Go.RowKit
set_option linter.unusedVariables false
def aftF (t d x:Nat):List Nat:=if x=t then [x,d] else [x]
def witF (d x:Nat):List Nat:=if x=d then [] else [x]
def outL (f:Nat→List Nat) (xss:List (List Nat)):List (List Nat):=xss.map fun v=>v.flatMap f
end
section
open Go.RowKit
set_option linter.unusedVariables false
end
section
open Go.RowKit
set_option linter.unusedVariables false
end
section
open Go.RowKit
set_option linter.unusedVariables false
end
section
open Go.RowKit
set_option linter.unusedVariables false
theorem vcnt_whole {t:List Nat} (ht:IsPerm t) {N:List Int} (hN:∀ x,x<t.length→0≤nth N x∧nth N x<((1:Nat):Int)):vcnt t N ((0:Nat):Int) t.length=(sizesL t).length:=by
 have h:=sum_vcnt ht (C:=1) hN (Nat.le_refl _)
 rw[←sizesGo_all,sizesGo_length ht _ (Nat.le_refl _),←h]
 show _=0+vcnt t N ((0:Nat):Int) t.length
 omega
theorem euler_plane {s:List Nat} (hs:IsPerm s) (he:s.length % 2=0) (h1:partsN s=1) (hg:genusL s=0):(sizesL s).length+(sizesL (phiL s)).length=s.length / 2+2:=by
 have hg0:genOf s (partsL s) 0=0:=by
  unfold genusL at hg
  rw[h1] at hg
  show _=(0:Int)
  have:genusTo s 1=0+genOf s (partsL s) 0:=rfl
  omega
 have h:=(genOf_euler hs he (k:=0) (by omega)).2
 have hN:∀ x,x<s.length→0≤nth (partsL s) x∧nth (partsL s) x<((1:Nat):Int):=fun x hx=>by have:=partsL_lt hs he hx;rwa [h1] at this
 have hp:=phiL_perm hs he
 rw[hg0,vcnt_whole hs hN] at h
 have h2:=vcnt_whole hp (N:=partsL s) (fun x hx=>hN x (by rw[phiL_length] at hx;exact hx))
 rw[phiL_length] at h2
 have h3:=sum_ecnt (C:=1) hN (Nat.le_refl _)
 have h3:0+ecnt (partsL s) ((0:Nat):Int) s.length=s.length / 2:=h3
 rw[h2] at h
 omega
end
end Go.Proofs.Ytgphnkkdmlohlaa
