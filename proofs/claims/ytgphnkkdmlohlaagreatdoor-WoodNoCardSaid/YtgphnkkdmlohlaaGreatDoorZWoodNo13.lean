/- package dart: Rooted, Same; a nil map. Conditions: maps are registered. -/
import Derived.Test.YtgphnkkdmlohlaaGreatDoorZWoodNo10
import Derived.StillTailTactics
namespace Go.Proofs.YtgphnkkdmlohlaaGreatDoor
open Go.RowKit
set_option linter.unusedVariables false
theorem newErr_ok {S:List Nat} {root lone:Int} (hS:IsPerm S) (hm:MapOk S root lone):newErr (toI S) root lone=0:=by
 obtain⟨h1,h2,h3,h4,h5⟩:=hm
 unfold newErr
 rw[toI_length,if_neg (fun h=>h.elim (fun h=>h ⟨S,hS,rfl⟩) (fun h=>by omega)),if_neg (by omega),if_neg (by omega)]
def NewYes (R:Reg) (w:World) (S:List Nat) (root lone:Int) (e:Ending) (w':World):Prop:=
 ∃ p R',e=.returned (.tuple #[p,.int .i64 0])∧Ev R w R' w'∧MapAt R' p S root lone
theorem new_yes (R:Reg) (w:World) (hI:Inv R w) (v:Value) (S:List Nat) (hv:FreeI R w v (toI S)) (root lone:Int) (hS:IsPerm S) (hm:MapOk S root lone):
  Calls Tryz.prog 40 #[v,.int .i64 root,.int .i64 lone] w (NewYes R w S root lone):=by
 refine (new_any R w hI v (toI S) hv (by rw[toI_length];have:=hm.2.1;omega) root lone).mono ?_
 rintro e w' (⟨h,_⟩|⟨_,S',p,R',_,he',_,rfl,he,hq⟩)
 ·exact absurd (newErr_ok hS hm) h
 ·have:=toI_inj he'
  subst this
  exact⟨p,R',rfl,he,hq⟩
end Go.Proofs.YtgphnkkdmlohlaaGreatDoor
