/- parquetryref10.Cut, Shrink. -/
import Derived.Test.YtklkgicjfnbndaaZGrowKeeps27
import Derived.Deep.RegionHeld3
import Derived.Deep.RegionLaw
import Derived.Test.YtklkgicjfnbndaaZGrowKeeps22
import Derived.Test.YtklkgicjfnbndaaZGrowKeeps14
import Derived.Test.YtklkgicjfnbndaaZGrowKeeps12
namespace Go.Proofs.Ytklkgicjfnbndaa
section
open Go.RowKit
set_option linter.unusedVariables false
theorem one_cell (w:World) (u:Value):∀ j x,[u][j]?=some x→(w.alloc (.cells #[u] 25)).cell? ((⟨w.heap.size,0,none⟩:Addr).add j)=some x:=by
 intro j x hj
 match j,hj with
 | 0,hj=>
  simp only[List.getElem?_cons_zero,Option.some.injEq] at hj
  subst hj
  simp[Addr.add]
theorem one_one (a:Option Addr) (n c:Nat):∀ u∈[Value.slice a n c],u.oneCell'=true:=by
 intro u hu
 simp only[List.mem_singleton] at hu
 subst hu
 rfl
theorem OwnI.capLe {R:Reg} {B:Nat} {E:TypeId} {w:World} {a:Option Addr} {n c:Nat} {xs:List Int} (h:OwnI R B E w (.slice a n c) xs) (hn:xs.length=n):n≤c:=by
 subst hn
 rcases h.1.2 with ⟨e1,e2⟩|⟨g,cap,cur,e,hbg,hg,hnc,hcm,hcs,htake⟩
 ·simp at e1;omega
 ·cases e;exact hnc
end
section
open Go.RowKit
set_option linter.unusedVariables false
def aftF (t d x:Nat):List Nat:=if x=t then [x,d] else [x]
def witF (d x:Nat):List Nat:=if x=d then [] else [x]
def outL (f:Nat→List Nat) (xss:List (List Nat)):List (List Nat):=xss.map fun v=>v.flatMap f
def RowsSm (xss:List (List Nat)):Prop:=xss.length≤100000∧∀ i,i<xss.length→(xss.getD i []).length≤100000∧∀ x,x∈xss.getD i []→x≤1000000
end
section
open Go.RowKit
set_option linter.unusedVariables false
end
section
open Go.RowKit
set_option linter.unusedVariables false
end
section
open Go.RowKit
set_option linter.unusedVariables false
end
section
open Go.RowKit
set_option linter.unusedVariables false
end
section
set_option linter.unusedVariables false
end
end Go.Proofs.Ytklkgicjfnbndaa
