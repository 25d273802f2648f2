/- parquetryref10.Cut, Shrink. Conditions: the map's list lies in memory, the edge is there. -/
import Derived.Test.YtklkgicjfnbndaaGreatZU32
import Derived.Deep.RegionHeld3
import Derived.Deep.RegionLaw
namespace Go.Proofs.YtklkgicjfnbndaaGreat
open Go.RowKit
set_option linter.unusedVariables false
theorem one_cell (w:World) (u:Value):∀ j x,[u][j]?=some x→(w.alloc (.cells #[u] 25)).cell? ((⟨w.heap.size,0,none⟩:Addr).add j)=some x:=by
 intro j x hj
 match j,hj with
 | 0,hj=>
  simp only[List.getElem?_cons_zero,Option.some.injEq] at hj
  subst hj
  simp[Addr.add]
theorem one_one (a:Option Addr) (n c:Nat):∀ u∈[Value.slice a n c],u.oneCell'=true:=by
 intro u hu
 simp only[List.mem_singleton] at hu
 subst hu
 rfl
theorem OwnI.capLe {R:Reg} {B:Nat} {E:TypeId} {w:World} {a:Option Addr} {n c:Nat} {xs:List Int} (h:OwnI R B E w (.slice a n c) xs) (hn:xs.length=n):n≤c:=by
 subst hn
 rcases h.1.2 with ⟨e1,e2⟩|⟨g,cap,cur,e,hbg,hg,hnc,hcm,hcs,htake⟩
 ·simp at e1;omega
 ·cases e;exact hnc
end Go.Proofs.YtklkgicjfnbndaaGreat
