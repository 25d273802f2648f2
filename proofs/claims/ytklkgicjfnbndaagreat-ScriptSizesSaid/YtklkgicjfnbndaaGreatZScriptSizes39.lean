/- parquetryref23: after, without: lists of lists, one by one. Conditions: at most 100000 of each. -/
import Derived.Test.YtklkgicjfnbndaaGreatZScriptSizes30
namespace Go.Proofs.YtklkgicjfnbndaaGreat
open Go.RowKit
set_option linter.unusedVariables false

def aftF (t d x : Nat) : List Nat := if x = t then [x, d] else [x]
def witF (d x : Nat) : List Nat := if x = d then [] else [x]
def outL (f : Nat → List Nat) (xss : List (List Nat)) : List (List Nat) := xss.map fun v => v.flatMap f
end Go.Proofs.YtklkgicjfnbndaaGreat
