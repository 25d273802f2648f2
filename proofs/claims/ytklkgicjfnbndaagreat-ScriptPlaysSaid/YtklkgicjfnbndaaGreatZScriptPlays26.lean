/- Parentheses matched by a stack: it is a pairing's just if no two of its pairs cross. -/
import Derived.Test.YtklkgicjfnbndaaGreatZScriptPlays01
namespace Go.Proofs.YtklkgicjfnbndaaGreat
section
set_option linter.unusedVariables false
def updN (f:Nat→Nat) (x y:Nat):Nat→Nat:=fun j=>if j=x then y else f j
def stk (op:Nat→Bool):Nat→List Nat × (Nat→Nat)
 | 0=>([],fun _=>0)
 | i+1=>
  if op i=true then (i :: (stk op i).1,(stk op i).2)
  else ((stk op i).1.tail,updN (updN (stk op i).2 i ((stk op i).1.headD 0)) ((stk op i).1.headD 0) i)
structure Pairing (q:Nat) (op:Nat→Bool) (u:Nat→Nat):Prop where
 lt:∀ i,i<q→u i<q
 inv:∀ i,i<q→u (u i)=i
 ne:∀ i,i<q→u i≠i
 op_iff:∀ i,i<q→(op i=true↔i<u i)
section
variable {q : Nat} {op : Nat → Bool} {u : Nat → Nat} (hp : Pairing q op u)
include hp
end
section
variable {q : Nat} {op : Nat → Bool} {u : Nat → Nat} (hp : Pairing q op u)
include hp
end
end
section
set_option linter.unusedVariables false
structure PMatch (P:Nat) (S:Nat→Bool) (m:Nat→Nat):Prop where
 lt:∀ j,j<P→m j<P
 inv:∀ j,j<P→m (m j)=j
 ne:∀ j,j<P→m j≠j
 same:∀ j,j<P→S (m j)=S j
def srt (S:Nat→Bool) (P:Nat):List Nat:=(List.range P).filter S
theorem getD_lt {l:List Nat} {i:Nat} (h:i<l.length):l.getD i 0=l[i]:=by simp[List.getD,h]
theorem mem_srt {S:Nat→Bool} {P j:Nat}:j∈srt S P↔j<P∧S j=true:=by
 unfold srt
 rw[List.mem_filter,List.mem_range]
theorem srt_asc (S:Nat→Bool) (P:Nat):(srt S P).Pairwise (· < ·):=List.Pairwise.filter _ List.pairwise_lt_range
theorem srt_lt {S:Nat→Bool} {P i j:Nat} (hj:j<(srt S P).length) (h:i<j):(srt S P).getD i 0<(srt S P).getD j 0:=by
 have:=List.pairwise_iff_getElem.1 (srt_asc S P) i j (by omega) hj h
 rw[getD_lt hj,getD_lt (by omega)]
 exact this
theorem srt_lt_iff {S:Nat→Bool} {P i j:Nat} (hi:i<(srt S P).length) (hj:j<(srt S P).length):(srt S P).getD i 0<(srt S P).getD j 0↔i<j:=by
 constructor
 ·intro h
  rcases Nat.lt_trichotomy i j with h1|h1|h1
  ·exact h1
  ·subst h1;omega
  ·have:=srt_lt hi h1;omega
 ·exact srt_lt hj
theorem srt_get {S:Nat→Bool} {P i:Nat} (hi:i<(srt S P).length):(srt S P).getD i 0<P∧S ((srt S P).getD i 0)=true:=by
 rw[getD_lt hi]
 exact mem_srt.1 (List.getElem_mem hi)
theorem srt_idx {S:Nat→Bool} {P j:Nat} (hj:j<P) (hs:S j=true):(srt S P).idxOf j<(srt S P).length∧(srt S P).getD ((srt S P).idxOf j) 0=j:=by
 have h:=List.idxOf_lt_length_of_mem (mem_srt.2 ⟨hj,hs⟩)
 refine⟨h,?_⟩
 rw[getD_lt h]
 exact List.getElem_idxOf h
section
variable {P : Nat} {S : Nat → Bool} {m : Nat → Nat} (hm : PMatch P S m)
include hm
end
end
end Go.Proofs.YtklkgicjfnbndaaGreat
