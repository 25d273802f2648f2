/- A map of numbers to how often they came, of the call's own, in a registry. -/
import Derived.Test.YtgphnkkdmlohlaaGreatZWTP14
import Derived.Test.YtgphnkkdmlohlaaGreatZWTP05
import Derived.Maps.OwnOps
import Derived.Maps.OwnSet
import Derived.Maps.Views
namespace Go.Proofs.YtgphnkkdmlohlaaGreat
section
open Go.RowKit Go.Maps
set_option linter.unusedVariables false
theorem mapKeyed:Keyed Tryz.prog 3:=int_keyed Tryz.underlying3
theorem mapZero (w:World):(zeroValue 3).run Tryz.prog w=.ok (.int .i64 0) w:=by kernel_rfl
end
section
open Go.RowKit Go.Maps
set_option linter.unusedVariables false
def updF (f:Int→Option Int) (y u:Int):Int→Option Int:=fun j=>if j=y then some u else f j
theorem updF_same (f:Int→Option Int) (y u:Int):updF f y u y=some u:=by simp[updF]
theorem updF_other (f:Int→Option Int) (y u:Int) {j:Int} (h:j≠y):updF f y u j=f j:=by simp[updF,h]
def FMap (R:Reg) (w:World) (b n:Nat) (f:Int→Option Int) (c:Nat):Prop:=
 R b=none∧∃ D:DataW Unit,w.ownsMap Tryz.prog 3 (plainElem Tryz.prog 3) b n D ∧
  (∀ j:Int,D.atKey (.int .i64 j) (.lit (.int .i64 0))=.lit (.int .i64 ((f j).getD 0)))∧Maps.size D=c∧∀ j:Int,Maps.has D (.int .i64 j)=(f j).isSome
theorem FMap.lt {R:Reg} {w:World} {b n c:Nat} {f:Int→Option Int} (h:FMap R w b n f c):b<w.heap.size:=by
 obtain⟨_,D,h,_⟩:=h
 exact h.lt
theorem FMap.ev {R R1:Reg} {w w1:World} {b n c:Nat} {f:Int→Option Int} (h:FMap R w b n f c) (he:Ev R w R1 w1):FMap R1 w1 b n f c:=by
 have hlt:=h.lt
 obtain⟨hb,D,⟨es,clock,h1,h2,h3,h4⟩,h5⟩:=h
 exact⟨he.free b hlt hb,D,⟨es,clock,(he.block b hlt hb).trans h1,h2,h3,h4⟩,h5⟩
theorem FMap.made {R:Reg} {w:World} (hI:Inv R w):FMap R (w.alloc (.map #[] 0)) w.heap.size 0 (fun _=>none) 0:=by
 refine⟨hI.none_of_ge (Nat.le_refl _),.map [],World.ownsMap_made _ _ _ _,fun j=>?_,rfl,fun j=>?_⟩
 ·simp[DataW.atKey]
 ·simp[Maps.has]
theorem FMap.look {R:Reg} {w:World} {b n c:Nat} {f:Int→Option Int} (h:FMap R w b n f c) (y:Int) (hy:-9223372036854775808≤y∧y≤9223372036854775807):
  (Instr.lookup 43 (.map (some b)) (.int .i64 y) false).run Tryz.prog w=.ok (.int .i64 ((f y).getD 0)) w:=by
 obtain⟨_,D,h1,h2,_,_⟩:=h
 have hwf:(Lit.int .i64 y).wf=true:=WalkArith.wf_i64 (by omega)
 obtain⟨c',hrun,hat,_⟩:=h1.lookup_int mapKeyed Tryz.underlying43 Tryz.underlying3 (mapZero _) (keyOf_int_mk Tryz.underlying3 hwf)
 rw[h2] at hat
 simp only[DataW.lit.injEq,Lit.int.injEq,true_and] at hat
 rw[hat];exact hrun
theorem FMap.putD {R:Reg} {w':World} {b n c:Nat} {f:Int→Option Int} (hb:R b=none) {D:DataW Unit} (ht:Tidy D)
  (h2:∀ j:Int,D.atKey (.int .i64 j) (.lit (.int .i64 0))=.lit (.int .i64 ((f j).getD 0))) (h3:Maps.size D=c) (h4:∀ j:Int,Maps.has D (.int .i64 j)=(f j).isSome) (y u:Int)
  (hw:w'.ownsMap Tryz.prog 3 (plainElem Tryz.prog 3) b (n+1) (D.put (.int .i64 y) (.lit (.int .i64 u)))):FMap R w' b (n+1) (updF f y u) (if (f y).isSome then c else c+1):=by
 refine⟨hb,_,hw,fun j=>?_,?_,fun j=>?_⟩
 ·by_cases e:j=y
  ·subst e
   rw[updF_same,atKey_put_same ht.isMap (show WideAt.IsKeyLit (.int .i64 j) from trivial)];rfl
  ·rw[updF_other _ _ _ e,atKey_put_other (fun h=>e (by injection h)),h2]
 ·rw[size_put ht,h3,h4]
 ·by_cases e:j=y
  ·subst e
   rw[updF_same,has_put_same ht.isMap (show WideAt.IsKeyLit (.int .i64 j) from trivial)];rfl
  ·rw[updF_other _ _ _ e,has_put_other (fun h=>e (by injection h)),h4]
theorem wpList_fput {w:World} {ops:Array Oper} {rest:List Oper} {o:Oper} {a:Act} {Q:Exit→Act→World→Prop} (hg:o.guard=none) (m x v:Operand) (hop:o.op=Op.mapUpdate 43 m x v)
  {R:Reg} {b n c:Nat} {f:Int→Option Int} (h:FMap R w b n f c) (hn:n<8388608) (y u:Int) (hm:a.eval m=.map (some b)) (hx:a.eval x=.int .i64 y) (hv:a.eval v=.int .i64 u)
  (hy:-9223372036854775808≤y∧y≤9223372036854775807) (hu:-9223372036854775808≤u∧u≤9223372036854775807)
  (hK:∀ w',FMap R w' b (n+1) (updF f y u) (if (f y).isSome then c else c+1)→w.grownBy w' (some b)→wpList Tryz.prog ops Q rest (a.put o.dst undef) w'):
  wpList Tryz.prog ops Q (o :: rest) a w:=by
 obtain⟨hb,D,h1,h2,h3,h4⟩:=h
 have hwy:(Lit.int .i64 y).wf=true:=WalkArith.wf_i64 (by omega)
 have hwu:(Lit.int .i64 u).wf=true:=WalkArith.wf_i64 (by omega)
 refine wpList_mapUpdate_own w hg m x v 43 hop 3 3 mapKeyed Tryz.underlying43 _ b n D hm h1 (by unfold maxLen;omega) _ _ _ hx hv (keyOf_int_mk Tryz.underlying3 hwy) _ [] (plainElem_int Tryz.underlying3 hwu) fun w' hw hgr=>?_
 exact hK w' (FMap.putD hb (h1.tidy mapKeyed) h2 h3 h4 y u hw) hgr
theorem Ev.mput {R0 R:Reg} {w0 w w':World} {b n c:Nat} {f:Int→Option Int} (he:Ev R0 w0 R w) (h:FMap R w b n f c) (hB:w0.heap.size≤b) (hg:w.grownBy w' (some b)):Ev R0 w0 R w':=
 he.grown hg fun k hk=>by cases hk;exact⟨hB,h.1⟩
end
end Go.Proofs.YtgphnkkdmlohlaaGreat
