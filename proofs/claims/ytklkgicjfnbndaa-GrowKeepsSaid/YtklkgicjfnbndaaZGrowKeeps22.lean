/- euler.Doubles, Simple. -/
import Derived.Test.YtklkgicjfnbndaaZGrowKeeps19
import Derived.Test.YtklkgicjfnbndaaZGrowKeeps21
import Derived.Test.YtklkgicjfnbndaaZGrowKeeps03
import Derived.Test.YtklkgicjfnbndaaZGrowKeeps13
import Derived.BigRegion
import Derived.StillTailTactics
namespace Go.Proofs.Ytklkgicjfnbndaa
section
open Go.RowKit Go.Maps
set_option linter.unusedVariables false
end
section
open Go.RowKit
set_option linter.unusedVariables false
end
section
set_option linter.unusedVariables false
theorem invL_length (s:List Nat):(invL s).length=s.length:=by unfold invL;rw[invGo_length]
theorem invL_perm {s:List Nat} (hs:IsPerm s):IsPerm (invL s):=by
 refine IsPerm.of_inj (fun i hi=>?_) (fun i j hi hj e=>?_)
 ·rw[invL_length] at hi ⊢
  exact (at_invL hs hi).2
 ·rw[invL_length] at hi hj
  rw[←(at_invL hs hi).1,←(at_invL hs hj).1,e]
section
variable {s : List Nat} (hs : IsPerm s) (he : s.length % 2 = 0)
include hs
include he
end
end
section
set_option linter.unusedVariables false
section
variable {s : List Nat} (hs : IsPerm s) (he : s.length % 2 = 0)
include hs he
end
end
section
set_option linter.unusedVariables false
def Mates (t:List Nat):Prop:=∀ d,d<t.length→at' t (d ^^^ 1)=at' t d ^^^ 1
section
variable {s t : List Nat} (hs : IsPerm s) (ht : IsPerm t) (hl : t.length = s.length)
include hs ht hl
end
end
section
open Go.RowKit
set_option linter.unusedVariables false
end
section
set_option linter.unusedVariables false
section
variable {t : List Nat} (ht : IsPerm t) {e : Nat}
include ht
end
end
section
open Go.RowKit
set_option linter.unusedVariables false
structure LessAt (R:Reg) (w:World) (x p:Value) (e:Nat) (L:List Nat):Prop where
 ex:∃ b a cap,x=.pointer (some ⟨b,0,none⟩)∧R b=none∧w.cell? ⟨b,0,none⟩=some p∧w.cell? ⟨b,1,none⟩=some (.int .i64 (e:Int))∧w.cell? ⟨b,2,none⟩=some (.slice a L.length cap)∧FreeI R w (.slice a L.length cap) (toI L)
section
variable {R : Reg} {w : World} {x p : Value} {e : Nat} {L : List Nat} (h : LessAt R w x p e L)
include h
end
end
section
open Go.RowKit
set_option linter.unusedVariables false
end
section
open Go.RowKit
set_option linter.unusedVariables false
end
section
open Go.RowKit
set_option linter.unusedVariables false
end
section
open Go.RowKit
set_option linter.unusedVariables false
end
section
set_option linter.unusedVariables false
end
section
set_option linter.unusedVariables false
section
variable {s : List Nat} (hs : IsPerm s)
include hs
end
end
end Go.Proofs.Ytklkgicjfnbndaa
