/- What the laws have in common: a map, and the document's; the answer true; short lists. -/
import Derived.Test.YtgphnkkdmlohlaaZShellRights11
import Derived.Test.YtgphnkkdmlohlaaZShellRights12
import Derived.Test.YtgphnkkdmlohlaaZShellRights09
namespace Go.Proofs.Ytgphnkkdmlohlaa
section
open Go.RowKit
set_option linter.unusedVariables false
def RetTrue (R:Reg) (w:World) (e:Ending) (w':World):Prop:=e=.returned (.bool true)∧∃ R',Ev R w R' w'
theorem Ev.ref3 {R R':Reg} {w w':World} {v:Value} {r l:Int} (h:Ev R (w.alloc (.cells #[v,.int .i64 r,.int .i64 l] 27)) R' w') (hn:R w.heap.size=none):
  w'.cell? ⟨w.heap.size,0,none⟩=some v∧w'.cell? ⟨w.heap.size,1,none⟩=some (.int .i64 r)∧w'.cell? ⟨w.heap.size,2,none⟩=some (.int .i64 l):=by
 refine⟨?_,?_,?_⟩
 all_goals rw[h.cell (by simp) hn];simp
end
section
open Go.RowKit
set_option linter.unusedVariables false
end
section
open Go.RowKit
set_option linter.unusedVariables false
end
section
open Go.RowKit
set_option linter.unusedVariables false
theorem nth_take {xs:List Int} {i t:Nat} (h:i<t):nth (xs.take t) i=nth xs i:=by
 unfold nth
 rw[List.getD_eq_getElem?_getD,List.getElem?_take,if_pos h,List.getD_eq_getElem?_getD]
theorem FreeI.take {R:Reg} {w:World} {a:Option Addr} {n cap:Nat} {xs:List Int} (h:FreeI R w (.slice a n cap) xs) (t:Nat) (ht:t≤n):FreeI R w (.slice a t cap) (xs.take t):=by
 obtain⟨⟨a',cap',e,h1,h2,h3⟩,hf⟩:=h
 cases e
 have hl:(xs.take t).length=t:=by rw[List.length_take];omega
 refine⟨⟨a,cap,by rw[hl],by omega,h2,fun i hi=>?_⟩,?_⟩
 ·rw[hl] at hi
  obtain⟨b,off,e1,e2⟩:=h3 i (by omega)
  exact⟨b,off,e1,by rw[e2,nth_take hi]⟩
 ·rcases hf with rfl|⟨b,off,m,c,e1,e2⟩
  ·exact Or.inl (by simp)
  ·cases e1
   exact Or.inr ⟨b,off,t,cap,rfl,e2⟩
end
end Go.Proofs.Ytgphnkkdmlohlaa
