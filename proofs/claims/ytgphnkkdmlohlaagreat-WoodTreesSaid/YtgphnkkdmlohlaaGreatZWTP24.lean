/- parquetryref10.Cut, Shrink. -/
import Derived.Test.YtgphnkkdmlohlaaGreatZWTP22
import Derived.Deep.RegionHeld3
import Derived.Deep.RegionLaw
import Derived.Test.YtgphnkkdmlohlaaGreatZWTP16
import Derived.Test.YtgphnkkdmlohlaaGreatZWTP17
import Derived.Test.YtgphnkkdmlohlaaGreatZWTP23
import Derived.Test.YtgphnkkdmlohlaaGreatZWTP21
namespace Go.Proofs.YtgphnkkdmlohlaaGreat
section
open Go.RowKit
set_option linter.unusedVariables false
end
section
open Go.RowKit
set_option linter.unusedVariables false
def aftF (t d x:Nat):List Nat:=if x=t then [x,d] else [x]
def witF (d x:Nat):List Nat:=if x=d then [] else [x]
def outL (f:Nat→List Nat) (xss:List (List Nat)):List (List Nat):=xss.map fun v=>v.flatMap f
end
section
set_option linter.unusedVariables false
section
variable {s t : List Nat} (hs : IsPerm s) (he : s.length % 2 = 0) (ht : IsPerm t) (hl : t.length = s.length) (hm : Mates t)
include hs he ht hl hm
end
end
section
set_option linter.unusedVariables false
section
variable {M : List Nat} (hM : IsPerm M) (fb : Nat → Bool)
include hM
end
section
variable {s t : List Nat} (hs : IsPerm s) (ht : IsPerm t) (hl : t.length = s.length)
include ht
include hs hl
end
end
section
set_option linter.unusedVariables false
def hasE (F:List Nat) (d:Nat):Bool:=F.any fun x=>decide (x / 2=d / 2)
structure FOk (n:Nat) (F:List Nat):Prop where
 lt:∀ i,i<F.length→at' F i<n
 one:∀ i j,i<F.length→j<F.length→at' F i / 2=at' F j / 2→i=j
section
variable {n : Nat} {F : List Nat} (h : FOk n F) (he : n % 2 = 0) (hall : ∀ d, d < n → hasE F d = true)
include h he hall
end
section
variable {s : List Nat} (hs : IsPerm s) (he : s.length % 2 = 0)
include hs he
end
end
section
set_option linter.unusedVariables false
section
variable {s t : List Nat} (hs : IsPerm s) (he : s.length % 2 = 0) (ht : IsPerm t) (hl : t.length = s.length) (hm : Mates t)
include hs he ht hl hm
end
section
variable {s t : List Nat} (hs : IsPerm s) (he : s.length % 2 = 0) (ht : IsPerm t) (hl : t.length = s.length) (hm : Mates t)
include hs he ht hl hm
end
end
section
set_option linter.unusedVariables false
section
variable {n : Nat} {G l : List Nat} (h : FOk n (G ++ l))
include h
end
section
variable {s : List Nat} (hs : IsPerm s) (he : s.length % 2 = 0)
include hs he
end
end
section
set_option linter.unusedVariables false
section
variable {s : List Nat} (hs : IsPerm s) (he : s.length % 2 = 0) {V : Nat} (hV : (sizesL s).length ≤ V)
include hs he hV
end
end
section
open Go.RowKit
set_option linter.unusedVariables false
end
section
open Go.RowKit
set_option linter.unusedVariables false
end
end Go.Proofs.YtgphnkkdmlohlaaGreat
