/- Parentheses matched by a stack: it is a pairing's just if no two of its pairs cross. Conditions: none. The places of a sort, in order: their pairs are a pairing of the sort's own numbers. Conditions: none. -/
import Derived.Test.YtcnmbenfnpjkjaaZSA01
namespace Go.Proofs.Ytcnmbenfnpjkjaa
set_option linter.unusedVariables false

def updN (f : Nat → Nat) (x y : Nat) : Nat → Nat := fun j => if j = x then y else f j
/-- what is open, the last one first, and who is matched with whom, ahead of a place -/
def stk (op : Nat → Bool) : Nat → List Nat × (Nat → Nat)
  | 0 => ([], fun _ => 0)
  | i + 1 =>
    if op i = true then (i :: (stk op i).1, (stk op i).2)
    else ((stk op i).1.tail, updN (updN (stk op i).2 i ((stk op i).1.headD 0)) ((stk op i).1.headD 0) i)
/-- a pairing of the first q places: an opening one comes first -/
structure Pairing (q : Nat) (op : Nat → Bool) (u : Nat → Nat) : Prop where
  lt : ∀ i, i < q → u i < q
  inv : ∀ i, i < q → u (u i) = i
  ne : ∀ i, i < q → u i ≠ i
  op_iff : ∀ i, i < q → (op i = true ↔ i < u i)

section
variable {q : Nat} {op : Nat → Bool} {u : Nat → Nat} (hp : Pairing q op u)
include hp

end
section
variable {q : Nat} {op : Nat → Bool} {u : Nat → Nat} (hp : Pairing q op u)
include hp

end
end Go.Proofs.Ytcnmbenfnpjkjaa

namespace Go.Proofs.Ytcnmbenfnpjkjaa
set_option linter.unusedVariables false

/-- places that come in pairs, each pair of one sort -/
structure PMatch (P : Nat) (S : Nat → Bool) (m : Nat → Nat) : Prop where
  lt : ∀ j, j < P → m j < P
  inv : ∀ j, j < P → m (m j) = j
  ne : ∀ j, j < P → m j ≠ j
  same : ∀ j, j < P → S (m j) = S j

section
variable {P : Nat} {S : Nat → Bool} {m : Nat → Nat} (hm : PMatch P S m)
include hm

end
end Go.Proofs.Ytcnmbenfnpjkjaa
