/- shell.Order, Right: of nil, and of what is no triangulation. Conditions: none. -/
import Derived.Test.YtcnmbenfnpjkjaaGreatZShellNo34
import Derived.Test.YtcnmbenfnpjkjaaGreatZShellNo09
import Derived.Test.YtcnmbenfnpjkjaaGreatZShellNo38
namespace Go.Proofs.YtcnmbenfnpjkjaaGreat
open Go.RowKit
set_option linter.unusedVariables false
set_option linter.unusedSimpArgs false

theorem vertices_nil (w : World) : Calls Tryz.prog 27 #[.pointer none] w fun e w' => e = .returned (.int .i64 0) ∧ w = w' := by
  go_enter Tryz.func27, Tryz.ntmps27
  go_wp2_with fail
  go_ret
  exact ⟨rfl, rfl⟩
theorem sorder_nil (w : World) : Calls Tryz.prog 11 #[.pointer none] w fun e w' => e = .returned (.tuple #[nilS, .int .i64 2]) ∧ w = w' := by
  have HC := Lib.hid (corners_nil w)
  go_enter Tryz.func11, Tryz.ntmps11
  go_wp2_with fail
  refine HC.out.mono ?_
  rintro e w1 ⟨rfl, rfl⟩
  go_wp2_with fail
  go_ret2
  exact ⟨rfl, rfl⟩
theorem sorder_no (R : Reg) (w : World) (hI : Inv R w) (p : Value) (s : List Nat) (rt : Int) (lone : Nat) (hp : MapAt R p s rt lone) (h : triB s lone = false) :
    Calls Tryz.prog 11 #[p] w (RetV R w (.tuple #[nilS, .int .i64 8])) := by
  have HC := Lib.hid (corners_no R w hI p s rt lone hp h)
  obtain ⟨b, rfl, hb⟩ := hp
  clear hb
  go_enter Tryz.func11, Tryz.ntmps11
  go_wp2_with fail
  refine HC.out.mono ?_
  rintro e w1 ⟨rfl, R1, he1⟩
  have HE1 := Lib.hid he1
  clear he1
  go_wp2_with fail
  go_ret2
  exact ⟨rfl, R1, HE1.out⟩
set_option maxRecDepth 100000 in
set_option maxHeartbeats 2000000 in
theorem sright_no (R : Reg) (w : World) (hI : Inv R w) (p : Value) (s : List Nat) (rt : Int) (lone : Nat) (hp : MapAt R p s rt lone) (h : triB s lone = false) (v : Value) :
    Calls Tryz.prog 17 #[p, v] w (RetV R w (.bool false)) := by
  have HC := Lib.hid (corners_no R w hI p s rt lone hp h)
  have HVs := Lib.hid (fun R' w' (he : Ev R w R' w') => vertices_any R' w' he.inv p s rt lone (he.map hp))
  obtain ⟨V, hV⟩ : ∃ V : Int, ((sizesL s).length : Int) + (lone : Int) = V := ⟨_, rfl⟩
  rw [hV] at HVs
  obtain ⟨b, rfl, hb⟩ := hp
  clear hb hV
  go_enter Tryz.func17, Tryz.ntmps17
  go_wp2_with fail
  refine HC.out.mono ?_
  rintro e w1 ⟨rfl, R1, he1⟩
  have HE1 := Lib.hid he1
  clear he1
  go_wp2_with fail
  refine (HVs.out _ _ HE1.out).mono ?_
  rintro e w2 ⟨rfl, R2, he2⟩
  have HE2 := Lib.hid (HE1.out.trans he2)
  clear he2
  go_wp2_with fail
  refine wp_region_held_drew (S := fun W => True) (by kernel_rfl) trivial (fun hHeld => ?_)
  refine tk 0 (v := ?ft1) ?gt1 ?_
  case gt1 => (intro w' s0; go_simp; try with_reducible rfl)
  try simp only [Act.put, rd]
  refine tk 1 (v := (.bool true)) ?gt2 ?_
  case gt2 => (intro w' s0; go_simp; try with_reducible rfl)
  try simp only [Act.put, rd]
  refine tk 2 (v := (.bool true)) ?gt3 ?_
  case gt3 => (intro w' s0; go_simp; try with_reducible rfl)
  try simp only [Act.put, rd]
  refine sk 3 ?_
  try simp only [Act.put, rd]
  refine sk 4 ?_
  try simp only [Act.put, rd]
  refine sk 5 ?_
  try simp only [Act.put, rd]
  refine sk 6 ?_
  try simp only [Act.put, rd]
  refine tk 7 (v := (.bool true)) ?gt4 ?_
  case gt4 => (intro w' s0; go_simp; try with_reducible rfl)
  try simp only [Act.put, rd]
  refine tk 8 (v := (.bool true)) ?gt5 ?_
  case gt5 => (intro w' s0; go_simp; try with_reducible rfl)
  try simp only [Act.put, rd]
  refine sk 9 ?_
  try simp only [Act.put, rd]
  refine sk 10 ?_
  try simp only [Act.put, rd]
  refine sk 11 ?_
  try simp only [Act.put, rd]
  refine sk 12 ?_
  try simp only [Act.put, rd]
  refine sk 13 ?_
  try simp only [Act.put, rd]
  refine sk 14 ?_
  try simp only [Act.put, rd]
  refine sk 15 ?_
  try simp only [Act.put, rd]
  refine tk 16 (v := (.bool true)) ?gt6 ?_
  case gt6 => (intro w' s0; go_simp; try with_reducible rfl)
  try simp only [Act.put, rd]
  refine tk 17 (v := (.bool true)) ?gt7 ?_
  case gt7 => (intro w' s0; go_simp; try with_reducible rfl)
  try simp only [Act.put, rd]
  refine sk 18 ?_
  try simp only [Act.put, rd]
  refine sk 19 ?_
  try simp only [Act.put, rd]
  refine sk 20 ?_
  try simp only [Act.put, rd]
  refine sk 21 ?_
  try simp only [Act.put, rd]
  refine sk 22 ?_
  try simp only [Act.put, rd]
  refine sk 23 ?_
  try simp only [Act.put, rd]
  refine sk 24 ?_
  try simp only [Act.put, rd]
  refine tk 25 (v := (.bool true)) ?gt8 ?_
  case gt8 => (intro w' s0; go_simp; try with_reducible rfl)
  try simp only [Act.put, rd]
  refine tk 26 (v := (.bool true)) ?gt9 ?_
  case gt9 => (intro w' s0; go_simp; try with_reducible rfl)
  try simp only [Act.put, rd]
  refine sk 27 ?_
  try simp only [Act.put, rd]
  refine sk 28 ?_
  try simp only [Act.put, rd]
  refine sk 29 ?_
  try simp only [Act.put, rd]
  refine sk 30 ?_
  try simp only [Act.put, rd]
  refine sk 31 ?_
  try simp only [Act.put, rd]
  refine sk 32 ?_
  try simp only [Act.put, rd]
  refine sk 33 ?_
  try simp only [Act.put, rd]
  refine sk 34 ?_
  try simp only [Act.put, rd]
  refine sk 35 ?_
  try simp only [Act.put, rd]
  refine tk 36 (v := (.bool true)) ?gt10 ?_
  case gt10 => (intro w' s0; go_simp; try with_reducible rfl)
  try simp only [Act.put, rd]
  refine wpAnyH_done (by kernel_rfl) ?_ _
  go_wp2_with fail
  go_ret
  exact ⟨rfl, R2, HE2.out.drew⟩
set_option maxRecDepth 100000 in
set_option maxHeartbeats 2000000 in
theorem sright_nil (R : Reg) (w : World) (hI : Inv R w) (v : Value) :
    Calls Tryz.prog 17 #[.pointer none, v] w (RetV R w (.bool false)) := by
  have HC := Lib.hid (corners_nil w)
  have HI := Lib.hid hI
  clear hI
  go_enter Tryz.func17, Tryz.ntmps17
  go_wp2_with fail
  refine HC.out.mono ?_
  rintro e w1 ⟨rfl, rfl⟩
  have HVn := Lib.hid (vertices_nil w)
  go_wp2_with fail
  refine HVn.out.mono ?_
  rintro e w2 ⟨rfl, rfl⟩
  go_wp2_with fail
  have HEd := Lib.hid (Ev.refl HI.out).drew
  refine wp_region_held_drew (S := fun W => True) (by kernel_rfl) trivial (fun hHeld => ?_)
  refine tk 0 (v := ?ft11) ?gt11 ?_
  case gt11 => (intro w' s0; go_simp; try with_reducible rfl)
  try simp only [Act.put, rd]
  refine tk 1 (v := (.bool true)) ?gt12 ?_
  case gt12 => (intro w' s0; go_simp; try with_reducible rfl)
  try simp only [Act.put, rd]
  refine tk 2 (v := (.bool true)) ?gt13 ?_
  case gt13 => (intro w' s0; go_simp; try with_reducible rfl)
  try simp only [Act.put, rd]
  refine sk 3 ?_
  try simp only [Act.put, rd]
  refine sk 4 ?_
  try simp only [Act.put, rd]
  refine sk 5 ?_
  try simp only [Act.put, rd]
  refine sk 6 ?_
  try simp only [Act.put, rd]
  refine tk 7 (v := (.bool true)) ?gt14 ?_
  case gt14 => (intro w' s0; go_simp; try with_reducible rfl)
  try simp only [Act.put, rd]
  refine tk 8 (v := (.bool true)) ?gt15 ?_
  case gt15 => (intro w' s0; go_simp; try with_reducible rfl)
  try simp only [Act.put, rd]
  refine sk 9 ?_
  try simp only [Act.put, rd]
  refine sk 10 ?_
  try simp only [Act.put, rd]
  refine sk 11 ?_
  try simp only [Act.put, rd]
  refine sk 12 ?_
  try simp only [Act.put, rd]
  refine sk 13 ?_
  try simp only [Act.put, rd]
  refine sk 14 ?_
  try simp only [Act.put, rd]
  refine sk 15 ?_
  try simp only [Act.put, rd]
  refine tk 16 (v := (.bool true)) ?gt16 ?_
  case gt16 => (intro w' s0; go_simp; try with_reducible rfl)
  try simp only [Act.put, rd]
  refine tk 17 (v := (.bool true)) ?gt17 ?_
  case gt17 => (intro w' s0; go_simp; try with_reducible rfl)
  try simp only [Act.put, rd]
  refine sk 18 ?_
  try simp only [Act.put, rd]
  refine sk 19 ?_
  try simp only [Act.put, rd]
  refine sk 20 ?_
  try simp only [Act.put, rd]
  refine sk 21 ?_
  try simp only [Act.put, rd]
  refine sk 22 ?_
  try simp only [Act.put, rd]
  refine sk 23 ?_
  try simp only [Act.put, rd]
  refine sk 24 ?_
  try simp only [Act.put, rd]
  refine tk 25 (v := (.bool true)) ?gt18 ?_
  case gt18 => (intro w' s0; go_simp; try with_reducible rfl)
  try simp only [Act.put, rd]
  refine tk 26 (v := (.bool true)) ?gt19 ?_
  case gt19 => (intro w' s0; go_simp; try with_reducible rfl)
  try simp only [Act.put, rd]
  refine sk 27 ?_
  try simp only [Act.put, rd]
  refine sk 28 ?_
  try simp only [Act.put, rd]
  refine sk 29 ?_
  try simp only [Act.put, rd]
  refine sk 30 ?_
  try simp only [Act.put, rd]
  refine sk 31 ?_
  try simp only [Act.put, rd]
  refine sk 32 ?_
  try simp only [Act.put, rd]
  refine sk 33 ?_
  try simp only [Act.put, rd]
  refine sk 34 ?_
  try simp only [Act.put, rd]
  refine sk 35 ?_
  try simp only [Act.put, rd]
  refine tk 36 (v := (.bool true)) ?gt20 ?_
  case gt20 => (intro w' s0; go_simp; try with_reducible rfl)
  try simp only [Act.put, rd]
  refine wpAnyH_done (by kernel_rfl) ?_ _
  go_wp2_with fail
  go_ret
  exact ⟨rfl, R, HEd.out⟩
end Go.Proofs.YtcnmbenfnpjkjaaGreat
