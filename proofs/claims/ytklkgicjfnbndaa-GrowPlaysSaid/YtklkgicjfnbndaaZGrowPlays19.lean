/- parquetryref08.of, Parts. -/
import Derived.Test.YtklkgicjfnbndaaZGrowPlays17
import Derived.Test.YtklkgicjfnbndaaZGrowPlays16
import Derived.Test.YtklkgicjfnbndaaZGrowPlays18
import Derived.Test.YtklkgicjfnbndaaZGrowPlays11
namespace Go.Proofs.Ytklkgicjfnbndaa
section
open Go.RowKit
set_option linter.unusedVariables false
end
section
open Go.RowKit
set_option linter.unusedVariables false
end
section
open Go.RowKit
set_option linter.unusedVariables false
end
section
open Go.RowKit
set_option linter.unusedVariables false
theorem make_eq {n:Nat} {z:Value} {t e:TypeId} {i:TypeInfo} (h1:Try.prog.underlying t=some (.slice e)) (h2:Try.prog.info? e=some i) (h3:i.zero=some z) (h4:i.size=1) (b2:i.bytes*n≤281474976710656) (b3:n≤maxLen) (W:World):
  (Instr.makeSlice t (.int .i64 (n:Int)) (.int .i64 (n:Int))).run Try.prog W=.ok (.slice (some ⟨W.heap.size,0,none⟩) n n) (W.alloc (.cells (madeCells z.cells (n*1)) e)):=by
 have h63':(n:Int)≤9223372036854775807:=by
  have h:=b3
  simp[maxLen] at h
  omega
 have hb':(i.bytes:Int)*(n:Int)≤281474976710656:=by
  have h:((i.bytes*n:Nat):Int)≤281474976710656:=by omega
  rwa [Int.natCast_mul] at h
 have hr:=run_make (P:=Try.prog) W t e i z h1 h2 h3 .i64 .i64 n n (by omega) (Int.le_refl _) hb' h63'
 simp only[Int.toNat_natCast,h4] at hr
 exact hr
theorem rowI_made {R:Reg} {W:World} {B n:Nat} (hI:Inv R W) (hB:B≤W.heap.size) (hn:n≤maxLen):
  OwnI R B 3 (W.alloc (.cells (madeCells #[.int .i64 0] (n*1)) 3)) (.slice (some ⟨W.heap.size,0,none⟩) n n) (List.replicate n 0):=by
 have h:=World.ownsRow_lit (size:=1) (e:=3) W _ n hB hn (size_madeCells #[.int .i64 0] (n*1))
 exact OwnI.made hI (by simpa using h)
end
section
open Go.RowKit
set_option linter.unusedVariables false
end
section
set_option linter.unusedVariables false
def opL (L:List Int) (i:Nat):Bool:=decide (nth L i=1)
def mateL (op:Nat→Bool) (n i:Nat):List Int:=(List.range n).map fun j=>(((stk op i).2 j:Nat):Int)
def stackL (op:Nat→Bool) (i:Nat):List Int:=toI (stk op i).1.reverse
theorem mateL_length (op:Nat→Bool) (n i:Nat):(mateL op n i).length=n:=by simp[mateL]
theorem mateL_nth {op:Nat→Bool} {n i j:Nat} (h:j<n):nth (mateL op n i) j=(((stk op i).2 j:Nat):Int):=by
 simp[mateL,nth,h]
theorem mateL_zero (op:Nat→Bool) (n:Nat):mateL op n 0=List.replicate n 0:=by
 refine List.ext_getElem (by simp[mateL]) fun i h1 h2=>?_
 simp[mateL,stk]
theorem mateL_open {op:Nat→Bool} {n i:Nat} (h:op i=true):mateL op n (i+1)=mateL op n i:=by
 unfold mateL;rw[stk_open h]
theorem nth_set_if (xs:List Int) (i j:Nat) (y:Int) (hj:j<xs.length):nth (xs.set i y) j=if i=j then y else nth xs j:=by
 by_cases h:i=j
 ·subst h
  simp[nth,hj]
 ·simp[nth,h]
theorem mateL_close {op:Nat→Bool} {n i o:Nat} {r:List Nat} (h:op i=false) (hs:(stk op i).1=o :: r):mateL op n (i+1)=((mateL op n i).set i (o:Int)).set o (i:Int):=by
 refine ext_nth (by simp[mateL_length]) fun j hj=>?_
 rw[mateL_length] at hj
 rw[mateL_nth hj,stk_close h hs,nth_set_if _ _ _ _ (by rw[List.length_set,mateL_length];exact hj),nth_set_if _ _ _ _ (by rw[mateL_length];exact hj),mateL_nth hj]
 show (((if j=o then i else if j=i then o else (stk op i).2 j:Nat)):Int)=_
 by_cases h1:j=o
 ·rw[if_pos h1,if_pos h1.symm]
 ·have h1':¬ o=j:=fun e=>h1 e.symm
  by_cases h2:j=i
  ·subst h2;simp[h1,h1']
  ·have h2':¬ i=j:=fun e=>h2 e.symm
   simp[h1,h1',h2,h2']
theorem stackL_open {op:Nat→Bool} {i:Nat} (h:op i=true):stackL op (i+1)=stackL op i ++ [(i:Int)]:=by
 unfold stackL;rw[stk_open h];simp[toI]
theorem stackL_close {op:Nat→Bool} {i o:Nat} {r:List Nat} (h:op i=false) (hs:(stk op i).1=o :: r):stackL op i=stackL op (i+1) ++ [(o:Int)]:=by
 unfold stackL;rw[stk_close h hs,hs];simp[toI]
theorem stk_height (op:Nat→Bool):∀ i,(stk op i).1.length≤i
 | 0=>Nat.le_refl _
 | i+1=>by
  have h:=stk_height op i
  cases ho:op i with
  | true=>rw[stk_open ho];simp;omega
  | false=>
   cases hs:(stk op i).1 with
   | nil=>
    show ((if op i=true then _ else _:List Nat × (Nat→Nat))).1.length≤_
    rw[if_neg (by simp[ho]),hs]
    simp
   | cons o r=>
    rw[stk_close ho hs]
    rw[hs] at h
    simp at h ⊢
    omega
theorem stackL_length (op:Nat→Bool) (i:Nat):(stackL op i).length≤i:=by
 have:=stk_height op i
 simp[stackL,toI]
 exact this
end
end Go.Proofs.Ytklkgicjfnbndaa
