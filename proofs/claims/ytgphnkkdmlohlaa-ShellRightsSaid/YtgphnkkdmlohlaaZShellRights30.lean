/- Wheels and cycles of 3 to 14, by evaluation. Conditions: none. -/
import Derived.Test.YtgphnkkdmlohlaaZShellRights19
import Derived.Test.YtgphnkkdmlohlaaZShellRights22
namespace Go.Proofs.Ytgphnkkdmlohlaa
set_option linter.unusedVariables false
def sparse (N:List Int) (E:Nat):Bool:=(List.range E).all fun e=>nth N (2*e) != nth N (2*e+1) && (List.range e).all fun f=>
 !((nth N (2*f) == nth N (2*e) && nth N (2*f+1) == nth N (2*e+1)) || (nth N (2*f) == nth N (2*e+1) && nth N (2*f+1) == nth N (2*e)))
theorem sparse_simp {s:List Nat} (h:sparse (namesL s) (s.length / 2)=true):simpB s=true:=by
 unfold sparse at h
 rw[List.all_eq_true] at h
 have h1:∀ e,e<s.length / 2→loopB s e=false∧dblB s e=false:=fun e he=>by
  have:=h e (by simp[he])
  rw[Bool.and_eq_true,List.all_eq_true] at this
  have hl:loopB s e=false:=by
   unfold loopB
   simpa using this.1
  refine⟨hl,?_⟩
  unfold dblB
  rw[hl]
  simp only[Bool.not_false,Bool.true_and]
  rw[List.any_eq_false]
  intro f hf
  have:=this.2 f hf
  intro hp
  unfold pairB at hp
  rw[hp] at this
  cases this
 have h2:∀ e,e≤s.length / 2→loopsTo s e=0∧dblsTo s e=0:=fun e=>by
  induction e with
  | zero=>intro _;exact⟨rfl,rfl⟩
  | succ e ih=>
   intro he
   obtain⟨a,b⟩:=ih (by omega)
   obtain⟨c,d⟩:=h1 e (by omega)
   unfold loopsTo dblsTo
   rw[a,b,c,d]
   exact⟨rfl,rfl⟩
 unfold simpB
 have:=h2 _ (Nat.le_refl _)
 exact decide_eq_true this
end Go.Proofs.Ytgphnkkdmlohlaa
