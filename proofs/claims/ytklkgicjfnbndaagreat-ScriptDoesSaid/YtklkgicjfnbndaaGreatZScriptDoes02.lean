/- A region in the body of a loop over a function, where no operation is a defer: what any order does outside it does inside. Conditions: none. -/
import Derived.RangeFuncBox
import Derived.RangeFuncLeaves
import Derived.RangeFuncCalls
import Derived.OwnWalkIn
import Derived.OrdersHeld
import Derived.OrdersIn
import Derived.Test.YtklkgicjfnbndaaGreatZScriptDoes01
namespace Go.Proofs.YtklkgicjfnbndaaGreat
set_option linter.unusedVariables false
theorem rowsIn_of {P:Program} {row:String} {args:Array Value} {w:World} {R:Value→World→Prop} {n l:Nat} (h:Rows P row args w R):RowsIn (Fence.wide.inRound l) n P row args w R:=
 fun c cs _=>let ⟨v,w',r,s⟩:=h c cs;⟨v,w',r,stepsIn_wide.2 s⟩
theorem opIn_of {P:Program} {o:Oper} {a:Act} {w:World} {K:Act→World→Prop} {Q:Exit→Act→World→Prop} {n l:Nat} (hd:∀ c,o.op≠.defer c) (h:o.wp P a w K Q):o.wpIn (Fence.wide.inRound l) n P a w K Q:=by
 refine⟨fun _ _=>trivial,?_⟩
 rw[Oper.semAt_plain _ _ _ hd]
 unfold Oper.wp at h
 cases hr:(execOp a.eval o).run P w with
 | ok x w'=>
  rw[hr] at h
  cases x <;> first
   | exact h
   | exact⟨(fun hs=>by cases hs),CallsIn.inRound l (callsIn_wide.2 h)⟩
   | exact⟨(fun hs=>by cases hs),rowsIn_of h⟩
   | exact absurd h (fun h=>h)
 | halt x w'=>
  rw[hr] at h
  cases x <;> first|exact h|exact absurd h (fun h=>h)
theorem opIn_of_op {P:Program} {ops:Array Oper} {Q:Exit→Act→World→Prop} {i:Nat} {K:Act→World→Prop} {a:Act} {w:World} {n l:Nat} (hd:∀ (i:Nat) o c,ops[i]?=some o→o.op≠.defer c) (hq:¬ LetsOut Q)
  (h:wpOp P ops Q i K a w):wpOpIn (Fence.wide.inRound l) n P ops Q i K a w:=by
 unfold wpOp at h
 unfold wpOpIn
 split
 ·rename_i ho
  rw[ho] at h
  exact h
 ·rename_i o ho
  rw[ho] at h
  simp only at h
  by_cases hw:Region.wanted o (yielded ops a.tmps)=true
  ·rw[if_pos hw] at h ⊢
   exact opIn_of (hd i o · ho) (h.resolve_right fun hn=>hq hn.2)
  ·rw[if_neg hw] at h ⊢
   exact⟨fun _ _=>trivial,h⟩
theorem anyIn_of {P:Program} {ops:Array Oper} {Q:Exit→Act→World→Prop} {md:Region.Mode} {n l:Nat} (hd:∀ (i:Nat) o c,ops[i]?=some o→o.op≠.defer c) (hq:¬ LetsOut Q):
  ∀ (fuel:Nat) (listed:Array Bool) (a:Act) (w:World),wpAny P md ops Q fuel listed a w→wpAnyIn (Fence.wide.inRound l) n P md ops Q fuel listed a w
 | 0,_,_,_,h=>h
 | fuel+1,_,_,_,h=>⟨h.1,fun i hi=>wpOpIn_mono (fun a' w' h'=>anyIn_of hd hq fuel _ a' w' h') (opIn_of_op hd hq (h.2 i hi))⟩
theorem region_round {P:Program} {id:Nat} {ops:Array Oper} {Q:Exit→Act→World→Prop} {a:Act} {w:World} {n l:Nat} (hm:P.follows .mixedOrders=true) (hd:∀ (i:Nat) o c,ops[i]?=some o→o.op≠.defer c) (hq:¬ LetsOut Q)
  (h:wpAny P .any ops Q ops.size (Array.replicate ops.size false) a { w with drawn:=w.drawn+1 }):(Code.region id ops true).wpIn (Fence.wide.inRound l) n P Q a w:=
 wpIn_region_any hm (anyIn_of hd hq _ _ _ _ h)
def noDefer (ops:Array Oper):Bool:=ops.toList.all fun o=>match o.op with|.defer _=>false|_=>true
theorem noDefer_spec {ops:Array Oper} (h:noDefer ops=true) (i:Nat) (o:Oper) (c:Call) (hi:ops[i]?=some o):o.op≠.defer c:=fun e=>by
 unfold noDefer at h
 rw[List.all_eq_true] at h
 have hm:o∈ops.toList:=by
  rw[Array.getElem?_eq_some_iff] at hi
  obtain⟨hlt,rfl⟩:=hi
  exact Array.mem_toList_iff.2 (Array.getElem_mem hlt)
 have:=h o hm
 rw[e] at this
 cases this
end Go.Proofs.YtklkgicjfnbndaaGreat
