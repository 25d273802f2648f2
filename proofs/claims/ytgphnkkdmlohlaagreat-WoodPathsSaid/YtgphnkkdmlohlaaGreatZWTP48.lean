/- range over a map of integers told by a function. Conditions: none. -/
import Derived.Test.YtgphnkkdmlohlaaGreatZWTP18
import Derived.Maps.RangeWalk
namespace Go.Proofs.YtgphnkkdmlohlaaGreat
open Go.RowKit
set_option linter.unusedVariables false
def FRange (R:Reg) (w:World) (b r n:Nat) (f:Int→Option Int) (lf:Int→Bool) (cnt c:Nat):Prop:=
 R b=none∧R r=none∧∃ D left,w.ranges Tryz.prog 3 (plainElem Tryz.prog 3) b r n (D:DataW Unit) left cnt ∧
  (∀ j:Int,D.atKey (.int .i64 j) (.lit (.int .i64 0))=.lit (.int .i64 ((f j).getD 0)))∧(∀ j:Int,left (.int .i64 j)=lf j)∧(∀ j,lf j=true→(f j).isSome=true)∧Maps.size D=c∧∀ j:Int,Maps.has D (.int .i64 j)=(f j).isSome
theorem wpList_frange {w:World} {ops:Array Oper} {rest:List Oper} {o:Oper} {a:Act} {Q:Exit→Act→World→Prop} (hg:o.guard=none) (m:Operand) (hop:o.op=Op.range 43 m)
  {R:Reg} {b n c:Nat} {f:Int→Option Int} (h:FMap R w b n f c) (hR:R w.heap.size=none) (hm:a.eval m=.map (some b))
  (hK:∀ w',FRange R w' b w.heap.size n f (fun j=>(f j).isSome) c c→w.grownBy w' none→wpList Tryz.prog ops Q rest (a.put o.dst (.pointer (some ⟨w.heap.size,0,none⟩))) w'):
  wpList Tryz.prog ops Q (o :: rest) a w:=by
 obtain⟨hb,D,h1,h2,h3,h4⟩:=h
 refine wpList_range_own w hg m 43 hop 3 3 mapKeyed Tryz.underlying43 _ b n D hm h1 fun w' r1 r2 _=>?_
 rw[h3] at r1
 exact hK w' ⟨hb,hR,D,_,r1,h2,h4,fun j h=>h,h3,h4⟩ r2
theorem wpList_fnext {w:World} {ops:Array Oper} {rest:List Oper} {o:Oper} {a:Act} {Q:Exit→Act→World→Prop} (hg:o.guard=none) (it:Operand) (hop:o.op=Op.next it false)
  {R:Reg} {b r n cnt c:Nat} {f:Int→Option Int} {lf:Int→Bool} (h:FRange R w b r n f lf cnt c) (hit:a.eval it=.pointer (some ⟨r,0,none⟩))
  (hDone:(∀ j,lf j=false)→wpList Tryz.prog ops Q rest (a.put o.dst (.tuple #[.bool false])) w)
  (hMore:∀ (x y:Int) (w':World) (cnt':Nat),lf x=true→f x=some y→FRange R w' b r n f (fun j=>lf j && !decide (j=x)) cnt' c→cnt' < cnt→w.grownBy w' (some r) →
   (Instr.entry (.pointer (some ⟨r,0,none⟩))).run Tryz.prog w'=.ok (.tuple #[.int .i64 x,.int .i64 y]) w'→wpList Tryz.prog ops Q rest (a.put o.dst (.tuple #[.bool true,.int .i64 x,.int .i64 y])) w'):
  wpList Tryz.prog ops Q (o :: rest) a w:=by
 obtain⟨a1,a2,D,left,a3,a4,a5,a6,a7⟩:=h
 refine wpList_next_ranges_ii w hg it hop 3 3 .i64 .i64 mapKeyed Tryz.underlying3 Tryz.underlying3 b r n D left cnt hit a3 (fun h0 hl=>hDone fun j=>by rw[←a5];exact hl _) ?_
 intro x v w1 cnt1 hwx hwc hlx hat hrg hlt hgr hs1 hen
 have hl:=hlx
 rw[a5] at hl
 have hsome:=a6 x hl
 have hv:=hat (.lit (.int .i64 0))
 rw[a4] at hv
 simp only[DataW.lit.injEq,Lit.int.injEq,true_and] at hv
 obtain⟨c',hc'⟩:=Option.isSome_iff_exists.1 hsome
 rw[hc'] at hv
 simp only[Option.getD_some] at hv
 subst hv
 refine hMore x c' w1 cnt1 hl hc' ⟨a1,a2,D,_,hrg,a4,fun j=>?_,fun j hj=>a6 j (by simp at hj;exact hj.1),a7⟩ hlt hgr hen
 show _=(lf j && !decide (j=x))
 rw[←a5 j]
 congr 2
 by_cases e:j=x
 ·subst e;simp[Lit.sameKey]
 ·simp[Lit.sameKey,e]
end Go.Proofs.YtgphnkkdmlohlaaGreat
