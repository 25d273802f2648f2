/- By other names a map has as many double edges. -/
import Derived.Test.YtklkgicjfnbndaaGreatZU24
import Derived.Test.YtklkgicjfnbndaaGreatZU18
namespace Go.Proofs.YtklkgicjfnbndaaGreat
section
set_option linter.unusedVariables false
def par (s:List Nat) (n:Nat) (e f:Nat):Prop:=e<n∧f<n∧((nth (namesL s) (2*e)=nth (namesL s) (2*f)∧nth (namesL s) (2*e+1)=nth (namesL s) (2*f+1))∨(nth (namesL s) (2*e)=nth (namesL s) (2*f+1)∧nth (namesL s) (2*e+1)=nth (namesL s) (2*f)))
section
variable {s t : List Nat} (hs : IsPerm s) (he : s.length % 2 = 0) (ht : IsPerm t) (hl : t.length = s.length) (hm : Mates t)
include hs he ht hl hm
end
end
section
set_option linter.unusedVariables false
section
variable {M : List Nat} (hM : IsPerm M) (fb : Nat → Bool)
include hM
end
section
variable {s t : List Nat} (hs : IsPerm s) (ht : IsPerm t) (hl : t.length = s.length)
include ht
include hs hl
end
end
section
set_option linter.unusedVariables false
def hasE (F:List Nat) (d:Nat):Bool:=F.any fun x=>decide (x / 2=d / 2)
structure FOk (n:Nat) (F:List Nat):Prop where
 lt:∀ i,i<F.length→at' F i<n
 one:∀ i j,i<F.length→j<F.length→at' F i / 2=at' F j / 2→i=j
section
variable {n : Nat} {F : List Nat} (h : FOk n F) (he : n % 2 = 0) (hall : ∀ d, d < n → hasE F d = true)
include h he hall
end
section
variable {s : List Nat} (hs : IsPerm s) (he : s.length % 2 = 0)
include hs he
end
end
section
set_option linter.unusedVariables false
section
variable {s t : List Nat} (hs : IsPerm s) (he : s.length % 2 = 0) (ht : IsPerm t) (hl : t.length = s.length) (hm : Mates t)
include hs he ht hl hm
end
section
variable {s t : List Nat} (hs : IsPerm s) (he : s.length % 2 = 0) (ht : IsPerm t) (hl : t.length = s.length) (hm : Mates t)
include hs he ht hl hm
end
end
section
set_option linter.unusedVariables false
section
variable {n : Nat} {G l : List Nat} (h : FOk n (G ++ l))
include h
end
section
variable {s : List Nat} (hs : IsPerm s) (he : s.length % 2 = 0)
include hs he
end
end
end Go.Proofs.YtklkgicjfnbndaaGreat
