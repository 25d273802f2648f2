/- What the laws have in common: a map, and the document's; the answer true; short lists. Conditions: none. -/
import Derived.Test.YtklkgicjfnbndaaGreatZScriptPlays12
import Derived.Test.YtklkgicjfnbndaaGreatZScriptPlays13
namespace Go.Proofs.YtklkgicjfnbndaaGreat
open Go.RowKit
set_option linter.unusedVariables false
def RetTrue (R:Reg) (w:World) (e:Ending) (w':World):Prop:=e=.returned (.bool true)∧∃ R',Ev R w R' w'
theorem Ints.two (w:World) (x y:Int):FreeI noReg (w.alloc (.cells #[.int .i64 x,.int .i64 y] 3)) (.slice (some ⟨w.heap.size,0,none⟩) 2 2) [x,y]:=
 ⟨⟨_,2,rfl,Nat.le_refl _,by simp[maxLen],fun i hi=>⟨w.heap.size,0,rfl,by
  match i,hi with
  | 0,_=>simp[nth]
  | 1,_=>simp[nth]⟩⟩,Or.inr ⟨w.heap.size,0,2,2,rfl,rfl⟩⟩
theorem FreeI.two {R:Reg} {w:World} (hI:Inv R w) (x y:Int):FreeI R (w.alloc (.cells #[.int .i64 x,.int .i64 y] 3)) (.slice (some ⟨w.heap.size,0,none⟩) 2 2) [x,y]:=
 ⟨(Ints.two w x y).1,Or.inr ⟨w.heap.size,0,2,2,rfl,hI.none_of_ge (Nat.le_refl _)⟩⟩
theorem perm01:IsPerm [0,1]:=⟨by decide,by decide⟩
theorem Ev.ref3 {R R':Reg} {w w':World} {v:Value} {r l:Int} (h:Ev R (w.alloc (.cells #[v,.int .i64 r,.int .i64 l] 27)) R' w') (hn:R w.heap.size=none):
  w'.cell? ⟨w.heap.size,0,none⟩=some v∧w'.cell? ⟨w.heap.size,1,none⟩=some (.int .i64 r)∧w'.cell? ⟨w.heap.size,2,none⟩=some (.int .i64 l):=by
 refine⟨?_,?_,?_⟩
 all_goals rw[h.cell (by simp) hn];simp
end Go.Proofs.YtklkgicjfnbndaaGreat
