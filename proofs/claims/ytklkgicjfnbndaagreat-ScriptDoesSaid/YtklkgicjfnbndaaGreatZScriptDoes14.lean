/- package dart: Rooted, Same; a nil map. Conditions: maps are registered. -/
import Derived.Test.YtklkgicjfnbndaaGreatZScriptDoes10
import Derived.StillTailTactics
namespace Go.Proofs.YtklkgicjfnbndaaGreat
open Go.RowKit
set_option linter.unusedVariables false
theorem newErr_ok {S:List Nat} {root lone:Int} (hS:IsPerm S) (hm:MapOk S root lone):newErr (toI S) root lone=0:=by
 obtain⟨h1,h2,h3,h4,h5⟩:=hm
 unfold newErr
 rw[toI_length,if_neg (fun h=>h.elim (fun h=>h ⟨S,hS,rfl⟩) (fun h=>by omega)),if_neg (by omega),if_neg (by omega)]
def RootedPost (R:Reg) (w:World) (s:List Nat) (lone d:Int) (e:Ending) (w':World):Prop:=
 ((d<0∨(s.length:Int)≤d)∧e=.returned (.tuple #[.pointer none,.int .i64 5])∧∃ R',Ev R w R' w') ∨
 (0≤d∧d<s.length∧∃ p R',e=.returned (.tuple #[p,.int .i64 0])∧Ev R w R' w'∧MapAt R' p s d lone)
def NewYes (R:Reg) (w:World) (S:List Nat) (root lone:Int) (e:Ending) (w':World):Prop:=
 ∃ p R',e=.returned (.tuple #[p,.int .i64 0])∧Ev R w R' w'∧MapAt R' p S root lone
theorem new_yes (R:Reg) (w:World) (hI:Inv R w) (v:Value) (S:List Nat) (hv:FreeI R w v (toI S)) (root lone:Int) (hS:IsPerm S) (hm:MapOk S root lone):
  Calls Tryz.prog 37 #[v,.int .i64 root,.int .i64 lone] w (NewYes R w S root lone):=by
 refine (new_any R w hI v (toI S) hv (by rw[toI_length];have:=hm.2.1;omega) root lone).mono ?_
 rintro e w' (⟨h,_⟩|⟨_,S',p,R',_,he',_,rfl,he,hq⟩)
 ·exact absurd (newErr_ok hS hm) h
 ·have:=toI_inj he'
  subst this
  exact⟨p,R',rfl,he,hq⟩
set_option maxRecDepth 100000 in
set_option maxHeartbeats 2000000 in
theorem rooted_any (R:Reg) (w:World) (hI:Inv R w) (p:Value) (s:List Nat) (root lone:Int) (hp:MapAt R p s root lone) (d:Int):
  Calls Tryz.prog 107 #[p,.int .i64 d] w (RootedPost R w s lone d):=by
 have HL:=Lib.hid (darts_any R w hI p s root lone hp)
 have HM:=Lib.hid (fun w' (h:Inv R w')=>mlist_any R w' h p s root lone hp)
 obtain⟨b,rfl,hb⟩:=hp
 obtain⟨hs,hm,_⟩:=hI.mapCells hb
 have HS:=Lib.hid hs
 have HMK:=Lib.hid hm
 have HI:=Lib.hid hI
 have HB:=Lib.hid hb
 have HI':=Lib.hid hI.drew
 obtain⟨_,_,_,_,hblt,_,_,_,_,_,_,_,c13⟩:=hI.mapCells hb
 clear hI hb hs hm
 by_cases h0:d<0
 ·go_enter Tryz.func107,Tryz.ntmps107
  go_wp2_with fail
  go_ret2
  exact Or.inl ⟨Or.inl (by first|assumption|omega),rfl,R,Ev.refl HI.out⟩
 ·by_cases h1:(s.length:Int)≤d
  ·go_enter Tryz.func107,Tryz.ntmps107
   go_wp2_with (go_at_call 18;refine HL.out.mono ?_;rintro e w' ⟨rfl,rfl⟩)
   go_ret2
   exact Or.inl ⟨Or.inr (by first|assumption|omega),rfl,R,Ev.refl HI.out⟩
  ·have h2:0≤d:=by omega
   have h3:d<s.length:=by omega
   have hnew:=fun (w1:World) (v:Value) (he:Ev R w.drew R w1) (ho:OwnI R w.drew.heap.size 3 w1 v (toI s))=>new_yes R w1 he.inv v s ho.free d lone HS.out (by have:=HMK.out;unfold MapOk at this ⊢;omega)
   have HN:=Lib.hid hnew
   have hcells:∀ (w':World),Ev R w.drew R w'→w'.cell? ⟨b,13,none⟩=some (.int .i64 lone):=fun w' he=>by
    obtain⟨_,_,_,_,_,_,_,_,_,_,_,_,h⟩:=he.inv.mapCells HB.out
    exact h
   have HCL:=Lib.hid hcells
   clear hnew hcells
   go_enter Tryz.func107,Tryz.ntmps107
   go_wp2_with (go_at_call 18;refine HL.out.mono ?_;rintro e w' ⟨rfl,rfl⟩)
   go_region_with (first|(go_at_call 24;refine (HM.out _ HI'.out).mono ?_;rintro e w' ⟨v,rfl,he,ho⟩;have c13':=HCL.out w' he;have HE:=Lib.hid he;have HO:=Lib.hid ho;clear he ho)|(go_at_call 37;refine (HN.out _ _ HE.out HO.out).mono ?_;rintro e w' ⟨p2,R2,rfl,he2,hm2⟩;have HE2:=Lib.hid he2;have HM2:=Lib.hid hm2;clear he2 hm2))
   all_goals go_wp2_with fail
   all_goals go_ret2
   all_goals exact Or.inr ⟨h2,h3,p2,R2,rfl,((Ev.refl HI.out).drew.trans HE.out).trans HE2.out,HM2.out⟩
end Go.Proofs.YtklkgicjfnbndaaGreat
