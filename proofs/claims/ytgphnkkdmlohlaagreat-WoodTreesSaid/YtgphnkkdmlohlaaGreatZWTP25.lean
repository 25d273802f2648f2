/- dual.Relabel. -/
import Derived.Test.YtgphnkkdmlohlaaGreatZWTP24
import Derived.Test.YtgphnkkdmlohlaaGreatZWTP22
import Derived.Test.YtgphnkkdmlohlaaGreatZWTP21
import Derived.Deep.RegionHeld3
import Derived.Test.YtgphnkkdmlohlaaGreatZWTP14
import Derived.Test.YtgphnkkdmlohlaaGreatZWTP12
namespace Go.Proofs.YtgphnkkdmlohlaaGreat
section
open Go.RowKit
set_option linter.unusedVariables false
end
section
open Go.RowKit
set_option linter.unusedVariables false
end
section
open Go.RowKit
set_option linter.unusedVariables false
end
section
open Go.RowKit
set_option linter.unusedVariables false
end
section
open Go.RowKit
set_option linter.unusedVariables false
theorem vcnt_whole {t:List Nat} (ht:IsPerm t) {N:List Int} (hN:∀ x,x<t.length→0≤nth N x∧nth N x<((1:Nat):Int)):vcnt t N ((0:Nat):Int) t.length=(sizesL t).length:=by
 have h:=sum_vcnt ht (C:=1) hN (Nat.le_refl _)
 rw[←sizesGo_all,sizesGo_length ht _ (Nat.le_refl _),←h]
 show _=0+vcnt t N ((0:Nat):Int) t.length
 omega
theorem euler_plane {s:List Nat} (hs:IsPerm s) (he:s.length % 2=0) (h1:partsN s=1) (hg:genusL s=0):(sizesL s).length+(sizesL (phiL s)).length=s.length / 2+2:=by
 have hg0:genOf s (partsL s) 0=0:=by
  unfold genusL at hg
  rw[h1] at hg
  show _=(0:Int)
  have:genusTo s 1=0+genOf s (partsL s) 0:=rfl
  omega
 have h:=(genOf_euler hs he (k:=0) (by omega)).2
 have hN:∀ x,x<s.length→0≤nth (partsL s) x∧nth (partsL s) x<((1:Nat):Int):=fun x hx=>by have:=partsL_lt hs he hx;rwa [h1] at this
 have hp:=phiL_perm hs he
 rw[hg0,vcnt_whole hs hN] at h
 have h2:=vcnt_whole hp (N:=partsL s) (fun x hx=>hN x (by rw[phiL_length] at hx;exact hx))
 rw[phiL_length] at h2
 have h3:=sum_ecnt (C:=1) hN (Nat.le_refl _)
 have h3:0+ecnt (partsL s) ((0:Nat):Int) s.length=s.length / 2:=h3
 rw[h2] at h
 omega
end
section
set_option linter.unusedVariables false
def sparse (N:List Int) (E:Nat):Bool:=(List.range E).all fun e=>nth N (2*e) != nth N (2*e+1) && (List.range e).all fun f=>
 !((nth N (2*f) == nth N (2*e) && nth N (2*f+1) == nth N (2*e+1)) || (nth N (2*f) == nth N (2*e+1) && nth N (2*f+1) == nth N (2*e)))
theorem sparse_simp {s:List Nat} (h:sparse (namesL s) (s.length / 2)=true):simpB s=true:=by
 unfold sparse at h
 rw[List.all_eq_true] at h
 have h1:∀ e,e<s.length / 2→loopB s e=false∧dblB s e=false:=fun e he=>by
  have:=h e (by simp[he])
  rw[Bool.and_eq_true,List.all_eq_true] at this
  have hl:loopB s e=false:=by
   unfold loopB
   simpa using this.1
  refine⟨hl,?_⟩
  unfold dblB
  rw[hl]
  simp only[Bool.not_false,Bool.true_and]
  rw[List.any_eq_false]
  intro f hf
  have:=this.2 f hf
  intro hp
  unfold pairB at hp
  rw[hp] at this
  cases this
 have h2:∀ e,e≤s.length / 2→loopsTo s e=0∧dblsTo s e=0:=fun e=>by
  induction e with
  | zero=>intro _;exact⟨rfl,rfl⟩
  | succ e ih=>
   intro he
   obtain⟨a,b⟩:=ih (by omega)
   obtain⟨c,d⟩:=h1 e (by omega)
   unfold loopsTo dblsTo
   rw[a,b,c,d]
   exact⟨rfl,rfl⟩
 unfold simpB
 have:=h2 _ (Nat.le_refl _)
 exact decide_eq_true this
end
end Go.Proofs.YtgphnkkdmlohlaaGreat
