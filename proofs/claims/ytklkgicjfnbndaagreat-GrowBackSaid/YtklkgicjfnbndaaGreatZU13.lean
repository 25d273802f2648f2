/- package dart: Rooted, Same; a nil map. Conditions: maps are registered. -/
import Derived.Test.YtklkgicjfnbndaaGreatZU09
import Derived.StillTailTactics
namespace Go.Proofs.YtklkgicjfnbndaaGreat
open Go.RowKit
set_option linter.unusedVariables false
theorem newErr_ok {S:List Nat} {root lone:Int} (hS:IsPerm S) (hm:MapOk S root lone):newErr (toI S) root lone=0:=by
 obtain⟨h1,h2,h3,h4,h5⟩:=hm
 unfold newErr
 rw[toI_length,if_neg (fun h=>h.elim (fun h=>h ⟨S,hS,rfl⟩) (fun h=>by omega)),if_neg (by omega),if_neg (by omega)]
def NewYes (R:Reg) (w:World) (S:List Nat) (root lone:Int) (e:Ending) (w':World):Prop:=
 ∃ p R',e=.returned (.tuple #[p,.int .i64 0])∧Ev R w R' w'∧MapAt R' p S root lone
theorem new_yes (R:Reg) (w:World) (hI:Inv R w) (v:Value) (S:List Nat) (hv:FreeI R w v (toI S)) (root lone:Int) (hS:IsPerm S) (hm:MapOk S root lone):
  Calls Tryz.prog 37 #[v,.int .i64 root,.int .i64 lone] w (NewYes R w S root lone):=by
 refine (new_any R w hI v (toI S) hv (by rw[toI_length];have:=hm.2.1;omega) root lone).mono ?_
 rintro e w' (⟨h,_⟩|⟨_,S',p,R',_,he',_,rfl,he,hq⟩)
 ·exact absurd (newErr_ok hS hm) h
 ·have:=toI_inj he'
  subst this
  exact⟨p,R',rfl,he,hq⟩
def sameB (s t:List Nat) (r1 r2 l1 l2:Int):Bool:=decide (s=t∧r1=r2∧l1=l2)
set_option maxRecDepth 100000 in
set_option maxHeartbeats 2000000 in
theorem msame_any (R:Reg) (w:World) (hI:Inv R w) (p q:Value) (s t:List Nat) (r1 r2 l1 l2:Int) (hp:MapAt R p s r1 l1) (hq:MapAt R q t r2 l2):
  Calls Tryz.prog 17 #[p,q] w fun e w'=>e=.returned (.bool (sameB s t r1 r2 l1 l2))∧Ev R w R w':=by
 obtain⟨b,rfl,hb⟩:=hp
 obtain⟨b',rfl,hb'⟩:=hq
 obtain⟨hs,hm,_,_,hblt,bp,_,hpp,_,c0,_,c12,c13⟩:=hI.mapCells hb
 obtain⟨ht,hm',_,_,hblt',bp',_,hpp',_,c0',_,c12',c13'⟩:=hI.mapCells hb'
 have hsame:=same_any R w.drew hI.drew _ _ s t hpp hpp' (by have:=hm.2.1;omega) (by have:=hm'.2.1;omega)
 have HSM:=Lib.hid hsame
 have HI:=Lib.hid hI
 clear hI hb hb' hs ht hm hm' hpp hpp' hsame
 by_cases hr:r1=r2
 ·by_cases hl:l1=l2
  ·have HE:=Lib.hid (show sameB s t r1 r2 l1 l2=eqL (toI s) (toI t) by
    unfold sameB eqL
    by_cases h:s=t
    ·subst h;simp[hr,hl]
    ·rw[decide_eq_false (fun h'=>h h'.1),decide_eq_false (fun h'=>h (toI_inj h'))])
   have g1:(r1 == r2)=true:=by rw[beq_iff_eq];exact hr
   have g2:(l1 == l2)=true:=by rw[beq_iff_eq];exact hl
   clear hr hl
   go_enter Tryz.func17,Tryz.ntmps17
   go_wp2_with fail
   go_still_tail 31,(by kernel_rfl)
   change wpList _ _ _ _ _ w.drew
   have HI2:=Lib.hid ((Ev.refl HI.out).drew)
   generalize w.drew=w2 at *
   go_wp2_with fail
   refine HSM.out.mono ?_
   rintro e w' ⟨rfl,he⟩
   have HE':=Lib.hid he
   clear he
   go_wp2_with fail
   go_ret
   exact⟨ret_bool HE.out.symm,HI2.out.trans HE'.out⟩
  ·have HE:=Lib.hid (show sameB s t r1 r2 l1 l2=false by unfold sameB;exact decide_eq_false (fun h'=>hl h'.2.2))
   have g1:(r1 == r2)=true:=by rw[beq_iff_eq];exact hr
   have g2:(l1 == l2)=false:=by rw[beq_eq_false_iff_ne];exact hl
   clear hr hl
   go_enter Tryz.func17,Tryz.ntmps17
   go_wp2_with fail
   go_quiet (fail)
   go_wp2_with fail
   go_ret
   exact⟨ret_bool HE.out.symm,(Ev.refl HI.out).drewN _⟩
 ·have HE:=Lib.hid (show sameB s t r1 r2 l1 l2=false by unfold sameB;exact decide_eq_false (fun h'=>hr h'.2.1))
  have g1:(r1 == r2)=false:=by rw[beq_eq_false_iff_ne];exact hr
  clear hr
  go_enter Tryz.func17,Tryz.ntmps17
  go_wp2_with fail
  go_quiet (fail)
  go_wp2_with fail
  go_ret
  exact⟨ret_bool HE.out.symm,(Ev.refl HI.out).drewN _⟩
end Go.Proofs.YtklkgicjfnbndaaGreat
