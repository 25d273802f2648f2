/- What the laws have in common: a map, and the document's; the answer true; short lists. -/
import Derived.Test.YtklkgicjfnbndaaZGrowKeeps12
import Derived.Test.YtklkgicjfnbndaaZGrowKeeps13
namespace Go.Proofs.Ytklkgicjfnbndaa
section
open Go.RowKit
set_option linter.unusedVariables false
theorem anyRoot_ok {n r:Nat}:(2*n=0∧anyRoot n r=-1)∨(0≤anyRoot n r∧anyRoot n r<(2*n:Nat)):=by
 unfold anyRoot
 split
 ·rename_i h
  have:=Nat.mod_lt r (show 2*n > 0 by omega)
  right;omega
 ·left;omega
theorem made_ok (n r:Nat) (bs:List Nat) (l:Nat) (hn:n≤1000) (hl:l≤1000):MapOk (mixL (2*n) bs) (anyRoot n r) l:=by
 have:=@anyRoot_ok n r
 unfold MapOk
 rw[mixL_length]
 omega
def RetTrue (R:Reg) (w:World) (e:Ending) (w':World):Prop:=e=.returned (.bool true)∧∃ R',Ev R w R' w'
theorem Ints.two (w:World) (x y:Int):FreeI noReg (w.alloc (.cells #[.int .i64 x,.int .i64 y] 3)) (.slice (some ⟨w.heap.size,0,none⟩) 2 2) [x,y]:=
 ⟨⟨_,2,rfl,Nat.le_refl _,by simp[maxLen],fun i hi=>⟨w.heap.size,0,rfl,by
  match i,hi with
  | 0,_=>simp[nth]
  | 1,_=>simp[nth]⟩⟩,Or.inr ⟨w.heap.size,0,2,2,rfl,rfl⟩⟩
theorem FreeI.two {R:Reg} {w:World} (hI:Inv R w) (x y:Int):FreeI R (w.alloc (.cells #[.int .i64 x,.int .i64 y] 3)) (.slice (some ⟨w.heap.size,0,none⟩) 2 2) [x,y]:=
 ⟨(Ints.two w x y).1,Or.inr ⟨w.heap.size,0,2,2,rfl,hI.none_of_ge (Nat.le_refl _)⟩⟩
theorem perm01:IsPerm [0,1]:=⟨by decide,by decide⟩
end
section
open Go.RowKit
set_option linter.unusedVariables false
end
end Go.Proofs.Ytklkgicjfnbndaa
