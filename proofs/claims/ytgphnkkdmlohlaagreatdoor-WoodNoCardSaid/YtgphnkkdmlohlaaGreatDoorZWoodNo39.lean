/- A region that draws, operation by operation: the words of the kit's laws, with what is always so filled in. Conditions: none. -/
import Derived.Deep.RegionHeld
namespace Go.Proofs.YtgphnkkdmlohlaaGreatDoor
section
set_option linter.unusedVariables false
section
variable {P : Program} {ops : Array Oper} {Q : Exit → Act → World → Prop} {S : World → Prop}
theorem tk (i:Nat) {oi:Oper} {v:Value} {fuel:Nat} {listed:Array Bool} {a:Act} {w:World}
  (hy:∀ w,S w→(execOp a.eval oi).run P w=.ok (.value v) w) (h:wpAnyH P .any ops Q S fuel (listed.setIfInBounds i true) (a.put oi.dst v) w)
  (hi:ops[i]?=some oi:=by rfl) (hs:Region.noSelect ops=true:=by kernel_rfl) (hf:Region.free .any ops listed i=true:=by kernel_rfl) (hr:(Region.ready .any ops listed).contains i=true:=by kernel_rfl)
  (hQ:∀ c a w,Q (.panic c) (a.put oi.dst v) w→Q (.panic c) a w:=by exact fun _ _ _ h=>h) (hw:Region.wanted oi (yielded ops a.tmps)=true:=by rfl) (hS:S w:=by assumption):wpAnyH P .any ops Q S (fuel+1) listed a w:=
 wpAnyH_take hi hs hf hr hQ (Or.inl ⟨hw,hy⟩) hS h
theorem sk (i:Nat) {oi:Oper} {fuel:Nat} {listed:Array Bool} {a:Act} {w:World}
  (h:wpAnyH P .any ops Q S fuel (listed.setIfInBounds i true) (a.put oi.dst undef) w)
  (hi:ops[i]?=some oi:=by rfl) (hs:Region.noSelect ops=true:=by kernel_rfl) (hf:Region.free .any ops listed i=true:=by kernel_rfl) (hr:(Region.ready .any ops listed).contains i=true:=by kernel_rfl)
  (hQ:∀ c a w,Q (.panic c) (a.put oi.dst undef) w→Q (.panic c) a w:=by exact fun _ _ _ h=>h) (hw:Region.wanted oi (yielded ops a.tmps)=false:=by rfl) (hS:S w:=by assumption):wpAnyH P .any ops Q S (fuel+1) listed a w:=
 wpAnyH_take hi hs hf hr hQ (Or.inr ⟨hw,rfl⟩) hS h
theorem nx (i:Nat) {o:Oper} {fuel:Nat} {listed:Array Bool} {a:Act} {w:World}
  (h:∀ K':Act→World→Prop,Shut (∀ a w,S w→(S w→wpAnyH P .any ops Q S fuel (listed.setIfInBounds i true) a w)→K' a w)→if Region.wanted o (yielded ops a.tmps)=true then Oper.wp P o a w K' Q else K' (a.put o.dst undef) w)
  (ho:ops[i]?=some o:=by rfl) (hr:Region.ready .any ops listed=[i]:=by kernel_rfl):wpAnyH P .any ops Q S (fuel+1) listed a w:=
 wpAnyH_ready hr (by simp) (AllReadyH.cons ho h AllReadyH.nil)
end
section
variable {P : Program} {ops : Array Oper} {Q : Exit → Act → World → Prop} {a : Act} {w w' : World} {rest : List Oper} {o : Oper}
theorem ls (v:Value) (hy:(execOp a.eval o).run P w=.ok (.value v) w') (h:wpList P ops Q rest (a.put o.dst v) w') (hg:o.guard=none:=by rfl):wpList P ops Q (o :: rest) a w:=
 wpList_plain hg fun K hK=>by unfold Oper.wp;rw[hy];exact hK _ _ h
theorem lu (w':World) (hy:(execOp a.eval o).run P w=.ok .skip w') (h:wpList P ops Q rest (a.put o.dst undef) w') (hg:o.guard=none:=by rfl):wpList P ops Q (o :: rest) a w:=
 wpList_plain hg fun K hK=>by unfold Oper.wp;rw[hy];exact hK _ _ h
end
theorem rd {α:Type}:(∀ (xs:List α) (i:Nat) (h:i<xs.toArray.size),xs.toArray[i]=xs[i]'(by simpa using h))∧(∀ (a:α) (as:List α) (i:Nat) (h:i+1<(a :: as).length),(a :: as)[i+1]=as[i]'(by simpa using h))∧(∀ (a:α) (as:List α) (h:0<(a :: as).length),(a :: as)[0]=a) ∧
  (∀ (l:List α) (i:Nat) (a:α),l.toArray.setIfInBounds i a=(l.set i a).toArray)∧(∀ (xs:List α) (a b:α),(a :: xs).set 0 b=b :: xs)∧∀ (xs:List α) (a b:α) (n:Nat),(a :: xs).set (n+1) b=a :: xs.set n b:=
 ⟨fun _ _ _=>rfl,fun _ _ _ _=>rfl,fun _ _ _=>rfl,fun l i a=>by simp,fun _ _ _=>rfl,fun _ _ _ _=>rfl⟩
end
end Go.Proofs.YtgphnkkdmlohlaaGreatDoor
