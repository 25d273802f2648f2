/- parquetryref23: after, without: lists of lists, one by one. -/
import Derived.Test.YtklkgicjfnbndaaGreatZU33
import Derived.Test.YtklkgicjfnbndaaGreatZU22
import Derived.Deep.RegionHeld3
import Derived.Test.YtklkgicjfnbndaaGreatZU14
import Derived.Test.YtklkgicjfnbndaaGreatZU12
namespace Go.Proofs.YtklkgicjfnbndaaGreat
section
open Go.RowKit
set_option linter.unusedVariables false
def aftF (t d x:Nat):List Nat:=if x=t then [x,d] else [x]
def witF (d x:Nat):List Nat:=if x=d then [] else [x]
def outL (f:Nat→List Nat) (xss:List (List Nat)):List (List Nat):=xss.map fun v=>v.flatMap f
def RowsSm (xss:List (List Nat)):Prop:=xss.length≤100000∧∀ i,i<xss.length→(xss.getD i []).length≤100000∧∀ x,x∈xss.getD i []→x≤1000000
end
section
open Go.RowKit
set_option linter.unusedVariables false
end
section
open Go.RowKit
set_option linter.unusedVariables false
end
section
open Go.RowKit
set_option linter.unusedVariables false
end
section
open Go.RowKit
set_option linter.unusedVariables false
end
section
set_option linter.unusedVariables false
def sparse (N:List Int) (E:Nat):Bool:=(List.range E).all fun e=>nth N (2*e) != nth N (2*e+1) && (List.range e).all fun f=>
 !((nth N (2*f) == nth N (2*e) && nth N (2*f+1) == nth N (2*e+1)) || (nth N (2*f) == nth N (2*e+1) && nth N (2*f+1) == nth N (2*e)))
theorem sparse_simp {s:List Nat} (h:sparse (namesL s) (s.length / 2)=true):simpB s=true:=by
 unfold sparse at h
 rw[List.all_eq_true] at h
 have h1:∀ e,e<s.length / 2→loopB s e=false∧dblB s e=false:=fun e he=>by
  have:=h e (by simp[he])
  rw[Bool.and_eq_true,List.all_eq_true] at this
  have hl:loopB s e=false:=by
   unfold loopB
   simpa using this.1
  refine⟨hl,?_⟩
  unfold dblB
  rw[hl]
  simp only[Bool.not_false,Bool.true_and]
  rw[List.any_eq_false]
  intro f hf
  have:=this.2 f hf
  intro hp
  unfold pairB at hp
  rw[hp] at this
  cases this
 have h2:∀ e,e≤s.length / 2→loopsTo s e=0∧dblsTo s e=0:=fun e=>by
  induction e with
  | zero=>intro _;exact⟨rfl,rfl⟩
  | succ e ih=>
   intro he
   obtain⟨a,b⟩:=ih (by omega)
   obtain⟨c,d⟩:=h1 e (by omega)
   unfold loopsTo dblsTo
   rw[a,b,c,d]
   exact⟨rfl,rfl⟩
 unfold simpB
 have:=h2 _ (Nat.le_refl _)
 exact decide_eq_true this
end
end Go.Proofs.YtklkgicjfnbndaaGreat
