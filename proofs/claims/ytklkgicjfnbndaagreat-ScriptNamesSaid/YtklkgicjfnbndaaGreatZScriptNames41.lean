/- parquetrylaw24.ScriptNames, the walk: it answers true. Conditions: none. -/
import Derived.Test.YtklkgicjfnbndaaGreatZScriptNames40
import Derived.Deep.RegionHeld
namespace Go.Proofs.YtklkgicjfnbndaaGreat
open Go.RowKit
set_option linter.unusedVariables false
set_option linter.unusedSimpArgs false
theorem newErr_opt (xs : List Int) (r l : Int) : newErr xs r l ≠ 15 := by
  unfold newErr
  split
  · decide
  · split
    · decide
    · split <;> decide
theorem act_opt (s : List Nat) (root lone k D E : Int) (hk : 0 ≤ k ∧ k ≤ 10) : ¬ actC s root lone k D E = 15 := by
  unfold actC
  rw [if_neg (by omega)]
  split
  · split <;> decide
  · decide
  · decide
  · split
    · decide
    · split <;> decide
  · split
    · decide
    · split
      · split <;> decide
      · decide
  · decide
  · unfold wayC
    split
    · decide
    · split
      · decide
      · exact newErr_opt _ _ _
theorem act_two {R : Reg} {w : World} {code : Int} {M : List Nat} {root lone : Int} {f : Nat} {vs : Array Value} (h : Calls Tryz.prog f vs w (ActPost R w code M root lone)) : Calls Tryz.prog f vs w fun e w' => ∃ q R', e = .returned (.tuple #[q, .int .i64 code]) ∧ Ev R w R' w' :=
  h.mono fun e w' ⟨q, R', h1, h2, _⟩ => ⟨q, R', h1, h2⟩

set_option maxRecDepth 100000 in
set_option maxHeartbeats 4000000 in
theorem scriptNames_0 (w : World) (D E : Int) (hD : D < 9223372036854775808) : Calls Tryz.prog 6 #[.agg #[.int .i64 0, .int .i64 D, .int .i64 E]] w (RetTrue noReg w) := by
  have HA := Lib.hid (fun R' w' (hI : Inv R' w') => awake24_any R' w' hI)
  have HNl := Lib.hid (fun w' => sdo_nil w' 0 D E)
  have HSd := Lib.hid (fun R' w' (hI : Inv R' w') => seed_any R' w' hI)
  have hc15 := act_opt [0, 1] 0 ((0 : Nat) : Int) 0 D E (by omega)
  have HDo := Lib.hid (fun R' w' (hI : Inv R' w') p (hp : MapAt R' p [0, 1] 0 ((0 : Nat) : Int)) => act_two (sdo_any R' w' hI p [0, 1] 0 0 hp 0 D E hD (by omega)))
  obtain ⟨c, hc⟩ : ∃ c, actC [0, 1] 0 ((0 : Nat) : Int) 0 D E = c := ⟨_, rfl⟩
  rw [hc] at hc15 HDo
  have hcb : (c == 15) = false := beq_eq_false_iff_ne.2 hc15
  clear hc hc15
  have HNm := Lib.hid (fun w' => sname_any w' 0)
  rw [show nameV 0 = .string ⟨#[108, 101, 97, 102]⟩ from rfl] at HNm
  have HE0 := Lib.hid (show Ev noReg w noReg (w.alloc (.cells #[.int .i64 0, .int .i64 D, .int .i64 E] 50)) from (Ev.refl (Inv.noReg w)).alloc _)
  have hbx := heap_alloc_new w (.cells #[.int .i64 0, .int .i64 D, .int .i64 E] 50)
  go_enter Tryz.func6, Tryz.ntmps6
  go_wp2_with fail
  refine (HA.out _ _ HE0.out.inv).mono ?_
  rintro e w1 ⟨rfl, R1, he1⟩
  have HE1 := Lib.hid (HE0.out.trans he1)
  have HF1 := Lib.hid he1
  have hbx1 := (he1.block w.heap.size (by simp) rfl).trans hbx
  obtain ⟨y0, y1, y2, _⟩ := boxC_cells hbx1
  have hlt : w.heap.size < w1.heap.size := lt_of_cell y0
  have HB := Lib.hid hbx
  have HEn := Lib.hid (show Ev R1 w1 R1 (w1.alloc (.cells #[.string ⟨#[108, 101, 97, 102]⟩, .string ⟨#[99, 104, 111, 114, 100]⟩, .string ⟨#[115, 112, 108, 105, 116]⟩, .string ⟨#[115, 116, 97, 114]⟩, .string ⟨#[102, 108, 105, 112]⟩, .string ⟨#[114, 111, 111, 116]⟩, .string ⟨#[100, 117, 97, 108]⟩, .string ⟨#[109, 105, 114, 114, 111, 114]⟩, .string ⟨#[99, 117, 116]⟩, .string ⟨#[115, 104, 114, 105, 110, 107]⟩, .string ⟨#[99, 97, 110, 111, 110]⟩] 9)) from (Ev.refl he1.inv).alloc _)
  clear hbx he1 hbx1
  go_wp2_with fail
  refine (HNl.out _).mono ?_
  rintro e w2 ⟨rfl, he2⟩
  have HF2 := Lib.hid (HF1.out.trans (HEn.out.trans (he2 _ HEn.out.inv)))
  clear y0 y1 y2 hlt he2
  have hbx2 := (HF2.out.block w.heap.size (by simp) rfl).trans HB.out
  obtain ⟨y0, y1, y2, _⟩ := boxC_cells hbx2
  have HEd := Lib.hid ((Ev.refl HF2.out.inv).drew)
  clear hbx2
  go_wp2_with fail
  refine wp_region_held_drew (S := (fun w' : World => w'.cell? ⟨w.heap.size, 0, none⟩ = some (.int .i64 0) ∧ w'.cell? ⟨w.heap.size, 1, none⟩ = some (.int .i64 D) ∧ w'.cell? ⟨w.heap.size, 2, none⟩ = some (.int .i64 E))) (by kernel_rfl) ⟨y0, y1, y2⟩ (fun hHeld => ?_)
  refine wpAnyH_take (i := 1) (v := ?a1) rfl (by kernel_rfl) (by kernel_rfl) (by kernel_rfl) (fun _ _ _ h => h) (Or.inl ⟨by rfl, ?a1h⟩) (by assumption) ?_
  case a1h => (intro w' hSw; (try dsimp only at hSw); obtain ⟨s0, s1, s2⟩ := hSw; go_simp; try with_reducible rfl)
  try simp only [Act.put, List.setIfInBounds_toArray, List.set_cons_zero, List.set_cons_succ]
  refine wpAnyH_ready (rs := [0]) (by kernel_rfl) (by simp) (AllReadyH.cons rfl (fun K hK => ?_) AllReadyH.nil)
  go_simp
  refine (HSd.out _ _ HEd.out.inv).mono ?_
  rintro z w3 ⟨p, R3, rfl, he3, hp3⟩
  have HF3 := Lib.hid ((HF2.out.trans HEd.out).trans he3)
  have HP3 := Lib.hid hp3
  clear hp3
  have hbx3 := (HF3.out.block w.heap.size (by simp) rfl).trans HB.out
  obtain ⟨z0, z1, z2, _⟩ := boxC_cells hbx3
  have hS3 : (fun w' : World => w'.cell? ⟨w.heap.size, 0, none⟩ = some (.int .i64 0) ∧ w'.cell? ⟨w.heap.size, 1, none⟩ = some (.int .i64 D) ∧ w'.cell? ⟨w.heap.size, 2, none⟩ = some (.int .i64 E)) w3 := ⟨z0, z1, z2⟩
  clear he3 hbx3
  go_simp
  refine hK.out _ _ hS3 (fun hHeld3 => ?_)
  clear hHeld z0 z1 z2
  refine wpAnyH_ready (rs := [2]) (by kernel_rfl) (by simp) (AllReadyH.cons rfl (fun K hK => ?_) AllReadyH.nil)
  go_simp
  refine (HDo.out _ _ HF3.out.inv _ HP3.out).mono ?_
  rintro z w4 ⟨q, R4, rfl, he4⟩
  have HF4 := Lib.hid (HF3.out.trans he4)
  have hbx4 := (HF4.out.block w.heap.size (by simp) rfl).trans HB.out
  obtain ⟨z0, z1, z2, _⟩ := boxC_cells hbx4
  have hS4 : (fun w' : World => w'.cell? ⟨w.heap.size, 0, none⟩ = some (.int .i64 0) ∧ w'.cell? ⟨w.heap.size, 1, none⟩ = some (.int .i64 D) ∧ w'.cell? ⟨w.heap.size, 2, none⟩ = some (.int .i64 E)) w4 := ⟨z0, z1, z2⟩
  clear he4 hbx4
  go_simp
  refine hK.out _ _ hS4 (fun hHeld4 => ?_)
  clear hHeld3 z0 z1 z2
  refine wpAnyH_take (i := 3) (v := ?b3) rfl (by kernel_rfl) (by kernel_rfl) (by kernel_rfl) (fun _ _ _ h => h) (Or.inl ⟨by rfl, ?b3h⟩) (by assumption) ?_
  case b3h => (intro w' hSw; (try dsimp only at hSw); obtain ⟨s0, s1, s2⟩ := hSw; go_simp; try with_reducible rfl)
  try simp only [Act.put, List.setIfInBounds_toArray, List.set_cons_zero, List.set_cons_succ]
  refine wpAnyH_take (i := 4) (v := ?b4) rfl (by kernel_rfl) (by kernel_rfl) (by kernel_rfl) (fun _ _ _ h => h) (Or.inl ⟨by rfl, ?b4h⟩) (by assumption) ?_
  case b4h => (intro w' hSw; (try dsimp only at hSw); obtain ⟨s0, s1, s2⟩ := hSw; go_simp; try with_reducible rfl)
  try simp only [Act.put, List.setIfInBounds_toArray, List.set_cons_zero, List.set_cons_succ]
  refine wpAnyH_take (i := 5) (v := ?b5) rfl (by kernel_rfl) (by kernel_rfl) (by kernel_rfl) (fun _ _ _ h => h) (Or.inl ⟨by rfl, ?b5h⟩) (by assumption) ?_
  case b5h => (intro w' hSw; (try dsimp only at hSw); obtain ⟨s0, s1, s2⟩ := hSw; go_simp; try with_reducible rfl)
  try simp only [Act.put, List.setIfInBounds_toArray, List.set_cons_zero, List.set_cons_succ]
  refine wpAnyH_take (i := 6) (v := ?b6) rfl (by kernel_rfl) (by kernel_rfl) (by kernel_rfl) (fun _ _ _ h => h) (Or.inl ⟨by rfl, ?b6h⟩) (by assumption) ?_
  case b6h => (intro w' hSw; (try dsimp only at hSw); obtain ⟨s0, s1, s2⟩ := hSw; go_simp; try with_reducible rfl)
  try simp only [Act.put, List.setIfInBounds_toArray, List.set_cons_zero, List.set_cons_succ]
  refine wpAnyH_take (i := 7) (v := ?b7) rfl (by kernel_rfl) (by kernel_rfl) (by kernel_rfl) (fun _ _ _ h => h) (Or.inl ⟨by rfl, ?b7h⟩) (by assumption) ?_
  case b7h => (intro w' hSw; (try dsimp only at hSw); obtain ⟨s0, s1, s2⟩ := hSw; go_simp; try with_reducible rfl)
  try simp only [Act.put, List.setIfInBounds_toArray, List.set_cons_zero, List.set_cons_succ]
  refine wpAnyH_done (by kernel_rfl) ?_ _
  clear hHeld4
  go_wp2_with fail
  refine (HNm.out _).mono ?_
  rintro e w5 ⟨rfl, he5⟩
  have HF5 := Lib.hid (HF4.out.trans (he5 _ HF4.out.inv))
  clear he5 y0 y1 y2
  go_wp2_with fail
  go_ret
  exact ⟨by first | rfl | simp, R4, HE0.out.trans HF5.out⟩

set_option maxRecDepth 100000 in
set_option maxHeartbeats 4000000 in
theorem scriptNames_1 (w : World) (D E : Int) (hD : D < 9223372036854775808) : Calls Tryz.prog 6 #[.agg #[.int .i64 1, .int .i64 D, .int .i64 E]] w (RetTrue noReg w) := by
  have HA := Lib.hid (fun R' w' (hI : Inv R' w') => awake24_any R' w' hI)
  have HNl := Lib.hid (fun w' => sdo_nil w' 1 D E)
  have HSd := Lib.hid (fun R' w' (hI : Inv R' w') => seed_any R' w' hI)
  have hc15 := act_opt [0, 1] 0 ((0 : Nat) : Int) 1 D E (by omega)
  have HDo := Lib.hid (fun R' w' (hI : Inv R' w') p (hp : MapAt R' p [0, 1] 0 ((0 : Nat) : Int)) => act_two (sdo_any R' w' hI p [0, 1] 0 0 hp 1 D E hD (by omega)))
  obtain ⟨c, hc⟩ : ∃ c, actC [0, 1] 0 ((0 : Nat) : Int) 1 D E = c := ⟨_, rfl⟩
  rw [hc] at hc15 HDo
  have hcb : (c == 15) = false := beq_eq_false_iff_ne.2 hc15
  clear hc hc15
  have HNm := Lib.hid (fun w' => sname_any w' 1)
  rw [show nameV 1 = .string ⟨#[99, 104, 111, 114, 100]⟩ from rfl] at HNm
  have HE0 := Lib.hid (show Ev noReg w noReg (w.alloc (.cells #[.int .i64 1, .int .i64 D, .int .i64 E] 50)) from (Ev.refl (Inv.noReg w)).alloc _)
  have hbx := heap_alloc_new w (.cells #[.int .i64 1, .int .i64 D, .int .i64 E] 50)
  go_enter Tryz.func6, Tryz.ntmps6
  go_wp2_with fail
  refine (HA.out _ _ HE0.out.inv).mono ?_
  rintro e w1 ⟨rfl, R1, he1⟩
  have HE1 := Lib.hid (HE0.out.trans he1)
  have HF1 := Lib.hid he1
  have hbx1 := (he1.block w.heap.size (by simp) rfl).trans hbx
  obtain ⟨y0, y1, y2, _⟩ := boxC_cells hbx1
  have hlt : w.heap.size < w1.heap.size := lt_of_cell y0
  have HB := Lib.hid hbx
  have HEn := Lib.hid (show Ev R1 w1 R1 (w1.alloc (.cells #[.string ⟨#[108, 101, 97, 102]⟩, .string ⟨#[99, 104, 111, 114, 100]⟩, .string ⟨#[115, 112, 108, 105, 116]⟩, .string ⟨#[115, 116, 97, 114]⟩, .string ⟨#[102, 108, 105, 112]⟩, .string ⟨#[114, 111, 111, 116]⟩, .string ⟨#[100, 117, 97, 108]⟩, .string ⟨#[109, 105, 114, 114, 111, 114]⟩, .string ⟨#[99, 117, 116]⟩, .string ⟨#[115, 104, 114, 105, 110, 107]⟩, .string ⟨#[99, 97, 110, 111, 110]⟩] 9)) from (Ev.refl he1.inv).alloc _)
  clear hbx he1 hbx1
  go_wp2_with fail
  refine (HNl.out _).mono ?_
  rintro e w2 ⟨rfl, he2⟩
  have HF2 := Lib.hid (HF1.out.trans (HEn.out.trans (he2 _ HEn.out.inv)))
  clear y0 y1 y2 hlt he2
  have hbx2 := (HF2.out.block w.heap.size (by simp) rfl).trans HB.out
  obtain ⟨y0, y1, y2, _⟩ := boxC_cells hbx2
  have HEd := Lib.hid ((Ev.refl HF2.out.inv).drew)
  clear hbx2
  go_wp2_with fail
  refine wp_region_held_drew (S := (fun w' : World => w'.cell? ⟨w.heap.size, 0, none⟩ = some (.int .i64 1) ∧ w'.cell? ⟨w.heap.size, 1, none⟩ = some (.int .i64 D) ∧ w'.cell? ⟨w.heap.size, 2, none⟩ = some (.int .i64 E))) (by kernel_rfl) ⟨y0, y1, y2⟩ (fun hHeld => ?_)
  refine wpAnyH_take (i := 1) (v := ?a1) rfl (by kernel_rfl) (by kernel_rfl) (by kernel_rfl) (fun _ _ _ h => h) (Or.inl ⟨by rfl, ?a1h⟩) (by assumption) ?_
  case a1h => (intro w' hSw; (try dsimp only at hSw); obtain ⟨s0, s1, s2⟩ := hSw; go_simp; try with_reducible rfl)
  try simp only [Act.put, List.setIfInBounds_toArray, List.set_cons_zero, List.set_cons_succ]
  refine wpAnyH_ready (rs := [0]) (by kernel_rfl) (by simp) (AllReadyH.cons rfl (fun K hK => ?_) AllReadyH.nil)
  go_simp
  refine (HSd.out _ _ HEd.out.inv).mono ?_
  rintro z w3 ⟨p, R3, rfl, he3, hp3⟩
  have HF3 := Lib.hid ((HF2.out.trans HEd.out).trans he3)
  have HP3 := Lib.hid hp3
  clear hp3
  have hbx3 := (HF3.out.block w.heap.size (by simp) rfl).trans HB.out
  obtain ⟨z0, z1, z2, _⟩ := boxC_cells hbx3
  have hS3 : (fun w' : World => w'.cell? ⟨w.heap.size, 0, none⟩ = some (.int .i64 1) ∧ w'.cell? ⟨w.heap.size, 1, none⟩ = some (.int .i64 D) ∧ w'.cell? ⟨w.heap.size, 2, none⟩ = some (.int .i64 E)) w3 := ⟨z0, z1, z2⟩
  clear he3 hbx3
  go_simp
  refine hK.out _ _ hS3 (fun hHeld3 => ?_)
  clear hHeld z0 z1 z2
  refine wpAnyH_ready (rs := [2]) (by kernel_rfl) (by simp) (AllReadyH.cons rfl (fun K hK => ?_) AllReadyH.nil)
  go_simp
  refine (HDo.out _ _ HF3.out.inv _ HP3.out).mono ?_
  rintro z w4 ⟨q, R4, rfl, he4⟩
  have HF4 := Lib.hid (HF3.out.trans he4)
  have hbx4 := (HF4.out.block w.heap.size (by simp) rfl).trans HB.out
  obtain ⟨z0, z1, z2, _⟩ := boxC_cells hbx4
  have hS4 : (fun w' : World => w'.cell? ⟨w.heap.size, 0, none⟩ = some (.int .i64 1) ∧ w'.cell? ⟨w.heap.size, 1, none⟩ = some (.int .i64 D) ∧ w'.cell? ⟨w.heap.size, 2, none⟩ = some (.int .i64 E)) w4 := ⟨z0, z1, z2⟩
  clear he4 hbx4
  go_simp
  refine hK.out _ _ hS4 (fun hHeld4 => ?_)
  clear hHeld3 z0 z1 z2
  refine wpAnyH_take (i := 3) (v := ?b3) rfl (by kernel_rfl) (by kernel_rfl) (by kernel_rfl) (fun _ _ _ h => h) (Or.inl ⟨by rfl, ?b3h⟩) (by assumption) ?_
  case b3h => (intro w' hSw; (try dsimp only at hSw); obtain ⟨s0, s1, s2⟩ := hSw; go_simp; try with_reducible rfl)
  try simp only [Act.put, List.setIfInBounds_toArray, List.set_cons_zero, List.set_cons_succ]
  refine wpAnyH_take (i := 4) (v := ?b4) rfl (by kernel_rfl) (by kernel_rfl) (by kernel_rfl) (fun _ _ _ h => h) (Or.inl ⟨by rfl, ?b4h⟩) (by assumption) ?_
  case b4h => (intro w' hSw; (try dsimp only at hSw); obtain ⟨s0, s1, s2⟩ := hSw; go_simp; try with_reducible rfl)
  try simp only [Act.put, List.setIfInBounds_toArray, List.set_cons_zero, List.set_cons_succ]
  refine wpAnyH_take (i := 5) (v := ?b5) rfl (by kernel_rfl) (by kernel_rfl) (by kernel_rfl) (fun _ _ _ h => h) (Or.inl ⟨by rfl, ?b5h⟩) (by assumption) ?_
  case b5h => (intro w' hSw; (try dsimp only at hSw); obtain ⟨s0, s1, s2⟩ := hSw; go_simp; try with_reducible rfl)
  try simp only [Act.put, List.setIfInBounds_toArray, List.set_cons_zero, List.set_cons_succ]
  refine wpAnyH_take (i := 6) (v := ?b6) rfl (by kernel_rfl) (by kernel_rfl) (by kernel_rfl) (fun _ _ _ h => h) (Or.inl ⟨by rfl, ?b6h⟩) (by assumption) ?_
  case b6h => (intro w' hSw; (try dsimp only at hSw); obtain ⟨s0, s1, s2⟩ := hSw; go_simp; try with_reducible rfl)
  try simp only [Act.put, List.setIfInBounds_toArray, List.set_cons_zero, List.set_cons_succ]
  refine wpAnyH_take (i := 7) (v := ?b7) rfl (by kernel_rfl) (by kernel_rfl) (by kernel_rfl) (fun _ _ _ h => h) (Or.inl ⟨by rfl, ?b7h⟩) (by assumption) ?_
  case b7h => (intro w' hSw; (try dsimp only at hSw); obtain ⟨s0, s1, s2⟩ := hSw; go_simp; try with_reducible rfl)
  try simp only [Act.put, List.setIfInBounds_toArray, List.set_cons_zero, List.set_cons_succ]
  refine wpAnyH_done (by kernel_rfl) ?_ _
  clear hHeld4
  go_wp2_with fail
  refine (HNm.out _).mono ?_
  rintro e w5 ⟨rfl, he5⟩
  have HF5 := Lib.hid (HF4.out.trans (he5 _ HF4.out.inv))
  clear he5 y0 y1 y2
  go_wp2_with fail
  go_ret
  exact ⟨by first | rfl | simp, R4, HE0.out.trans HF5.out⟩

set_option maxRecDepth 100000 in
set_option maxHeartbeats 4000000 in
theorem scriptNames_2 (w : World) (D E : Int) (hD : D < 9223372036854775808) : Calls Tryz.prog 6 #[.agg #[.int .i64 2, .int .i64 D, .int .i64 E]] w (RetTrue noReg w) := by
  have HA := Lib.hid (fun R' w' (hI : Inv R' w') => awake24_any R' w' hI)
  have HNl := Lib.hid (fun w' => sdo_nil w' 2 D E)
  have HSd := Lib.hid (fun R' w' (hI : Inv R' w') => seed_any R' w' hI)
  have hc15 := act_opt [0, 1] 0 ((0 : Nat) : Int) 2 D E (by omega)
  have HDo := Lib.hid (fun R' w' (hI : Inv R' w') p (hp : MapAt R' p [0, 1] 0 ((0 : Nat) : Int)) => act_two (sdo_any R' w' hI p [0, 1] 0 0 hp 2 D E hD (by omega)))
  obtain ⟨c, hc⟩ : ∃ c, actC [0, 1] 0 ((0 : Nat) : Int) 2 D E = c := ⟨_, rfl⟩
  rw [hc] at hc15 HDo
  have hcb : (c == 15) = false := beq_eq_false_iff_ne.2 hc15
  clear hc hc15
  have HNm := Lib.hid (fun w' => sname_any w' 2)
  rw [show nameV 2 = .string ⟨#[115, 112, 108, 105, 116]⟩ from rfl] at HNm
  have HE0 := Lib.hid (show Ev noReg w noReg (w.alloc (.cells #[.int .i64 2, .int .i64 D, .int .i64 E] 50)) from (Ev.refl (Inv.noReg w)).alloc _)
  have hbx := heap_alloc_new w (.cells #[.int .i64 2, .int .i64 D, .int .i64 E] 50)
  go_enter Tryz.func6, Tryz.ntmps6
  go_wp2_with fail
  refine (HA.out _ _ HE0.out.inv).mono ?_
  rintro e w1 ⟨rfl, R1, he1⟩
  have HE1 := Lib.hid (HE0.out.trans he1)
  have HF1 := Lib.hid he1
  have hbx1 := (he1.block w.heap.size (by simp) rfl).trans hbx
  obtain ⟨y0, y1, y2, _⟩ := boxC_cells hbx1
  have hlt : w.heap.size < w1.heap.size := lt_of_cell y0
  have HB := Lib.hid hbx
  have HEn := Lib.hid (show Ev R1 w1 R1 (w1.alloc (.cells #[.string ⟨#[108, 101, 97, 102]⟩, .string ⟨#[99, 104, 111, 114, 100]⟩, .string ⟨#[115, 112, 108, 105, 116]⟩, .string ⟨#[115, 116, 97, 114]⟩, .string ⟨#[102, 108, 105, 112]⟩, .string ⟨#[114, 111, 111, 116]⟩, .string ⟨#[100, 117, 97, 108]⟩, .string ⟨#[109, 105, 114, 114, 111, 114]⟩, .string ⟨#[99, 117, 116]⟩, .string ⟨#[115, 104, 114, 105, 110, 107]⟩, .string ⟨#[99, 97, 110, 111, 110]⟩] 9)) from (Ev.refl he1.inv).alloc _)
  clear hbx he1 hbx1
  go_wp2_with fail
  refine (HNl.out _).mono ?_
  rintro e w2 ⟨rfl, he2⟩
  have HF2 := Lib.hid (HF1.out.trans (HEn.out.trans (he2 _ HEn.out.inv)))
  clear y0 y1 y2 hlt he2
  have hbx2 := (HF2.out.block w.heap.size (by simp) rfl).trans HB.out
  obtain ⟨y0, y1, y2, _⟩ := boxC_cells hbx2
  have HEd := Lib.hid ((Ev.refl HF2.out.inv).drew)
  clear hbx2
  go_wp2_with fail
  refine wp_region_held_drew (S := (fun w' : World => w'.cell? ⟨w.heap.size, 0, none⟩ = some (.int .i64 2) ∧ w'.cell? ⟨w.heap.size, 1, none⟩ = some (.int .i64 D) ∧ w'.cell? ⟨w.heap.size, 2, none⟩ = some (.int .i64 E))) (by kernel_rfl) ⟨y0, y1, y2⟩ (fun hHeld => ?_)
  refine wpAnyH_take (i := 1) (v := ?a1) rfl (by kernel_rfl) (by kernel_rfl) (by kernel_rfl) (fun _ _ _ h => h) (Or.inl ⟨by rfl, ?a1h⟩) (by assumption) ?_
  case a1h => (intro w' hSw; (try dsimp only at hSw); obtain ⟨s0, s1, s2⟩ := hSw; go_simp; try with_reducible rfl)
  try simp only [Act.put, List.setIfInBounds_toArray, List.set_cons_zero, List.set_cons_succ]
  refine wpAnyH_ready (rs := [0]) (by kernel_rfl) (by simp) (AllReadyH.cons rfl (fun K hK => ?_) AllReadyH.nil)
  go_simp
  refine (HSd.out _ _ HEd.out.inv).mono ?_
  rintro z w3 ⟨p, R3, rfl, he3, hp3⟩
  have HF3 := Lib.hid ((HF2.out.trans HEd.out).trans he3)
  have HP3 := Lib.hid hp3
  clear hp3
  have hbx3 := (HF3.out.block w.heap.size (by simp) rfl).trans HB.out
  obtain ⟨z0, z1, z2, _⟩ := boxC_cells hbx3
  have hS3 : (fun w' : World => w'.cell? ⟨w.heap.size, 0, none⟩ = some (.int .i64 2) ∧ w'.cell? ⟨w.heap.size, 1, none⟩ = some (.int .i64 D) ∧ w'.cell? ⟨w.heap.size, 2, none⟩ = some (.int .i64 E)) w3 := ⟨z0, z1, z2⟩
  clear he3 hbx3
  go_simp
  refine hK.out _ _ hS3 (fun hHeld3 => ?_)
  clear hHeld z0 z1 z2
  refine wpAnyH_ready (rs := [2]) (by kernel_rfl) (by simp) (AllReadyH.cons rfl (fun K hK => ?_) AllReadyH.nil)
  go_simp
  refine (HDo.out _ _ HF3.out.inv _ HP3.out).mono ?_
  rintro z w4 ⟨q, R4, rfl, he4⟩
  have HF4 := Lib.hid (HF3.out.trans he4)
  have hbx4 := (HF4.out.block w.heap.size (by simp) rfl).trans HB.out
  obtain ⟨z0, z1, z2, _⟩ := boxC_cells hbx4
  have hS4 : (fun w' : World => w'.cell? ⟨w.heap.size, 0, none⟩ = some (.int .i64 2) ∧ w'.cell? ⟨w.heap.size, 1, none⟩ = some (.int .i64 D) ∧ w'.cell? ⟨w.heap.size, 2, none⟩ = some (.int .i64 E)) w4 := ⟨z0, z1, z2⟩
  clear he4 hbx4
  go_simp
  refine hK.out _ _ hS4 (fun hHeld4 => ?_)
  clear hHeld3 z0 z1 z2
  refine wpAnyH_take (i := 3) (v := ?b3) rfl (by kernel_rfl) (by kernel_rfl) (by kernel_rfl) (fun _ _ _ h => h) (Or.inl ⟨by rfl, ?b3h⟩) (by assumption) ?_
  case b3h => (intro w' hSw; (try dsimp only at hSw); obtain ⟨s0, s1, s2⟩ := hSw; go_simp; try with_reducible rfl)
  try simp only [Act.put, List.setIfInBounds_toArray, List.set_cons_zero, List.set_cons_succ]
  refine wpAnyH_take (i := 4) (v := ?b4) rfl (by kernel_rfl) (by kernel_rfl) (by kernel_rfl) (fun _ _ _ h => h) (Or.inl ⟨by rfl, ?b4h⟩) (by assumption) ?_
  case b4h => (intro w' hSw; (try dsimp only at hSw); obtain ⟨s0, s1, s2⟩ := hSw; go_simp; try with_reducible rfl)
  try simp only [Act.put, List.setIfInBounds_toArray, List.set_cons_zero, List.set_cons_succ]
  refine wpAnyH_take (i := 5) (v := ?b5) rfl (by kernel_rfl) (by kernel_rfl) (by kernel_rfl) (fun _ _ _ h => h) (Or.inl ⟨by rfl, ?b5h⟩) (by assumption) ?_
  case b5h => (intro w' hSw; (try dsimp only at hSw); obtain ⟨s0, s1, s2⟩ := hSw; go_simp; try with_reducible rfl)
  try simp only [Act.put, List.setIfInBounds_toArray, List.set_cons_zero, List.set_cons_succ]
  refine wpAnyH_take (i := 6) (v := ?b6) rfl (by kernel_rfl) (by kernel_rfl) (by kernel_rfl) (fun _ _ _ h => h) (Or.inl ⟨by rfl, ?b6h⟩) (by assumption) ?_
  case b6h => (intro w' hSw; (try dsimp only at hSw); obtain ⟨s0, s1, s2⟩ := hSw; go_simp; try with_reducible rfl)
  try simp only [Act.put, List.setIfInBounds_toArray, List.set_cons_zero, List.set_cons_succ]
  refine wpAnyH_take (i := 7) (v := ?b7) rfl (by kernel_rfl) (by kernel_rfl) (by kernel_rfl) (fun _ _ _ h => h) (Or.inl ⟨by rfl, ?b7h⟩) (by assumption) ?_
  case b7h => (intro w' hSw; (try dsimp only at hSw); obtain ⟨s0, s1, s2⟩ := hSw; go_simp; try with_reducible rfl)
  try simp only [Act.put, List.setIfInBounds_toArray, List.set_cons_zero, List.set_cons_succ]
  refine wpAnyH_done (by kernel_rfl) ?_ _
  clear hHeld4
  go_wp2_with fail
  refine (HNm.out _).mono ?_
  rintro e w5 ⟨rfl, he5⟩
  have HF5 := Lib.hid (HF4.out.trans (he5 _ HF4.out.inv))
  clear he5 y0 y1 y2
  go_wp2_with fail
  go_ret
  exact ⟨by first | rfl | simp, R4, HE0.out.trans HF5.out⟩

set_option maxRecDepth 100000 in
set_option maxHeartbeats 4000000 in
theorem scriptNames_3 (w : World) (D E : Int) (hD : D < 9223372036854775808) : Calls Tryz.prog 6 #[.agg #[.int .i64 3, .int .i64 D, .int .i64 E]] w (RetTrue noReg w) := by
  have HA := Lib.hid (fun R' w' (hI : Inv R' w') => awake24_any R' w' hI)
  have HNl := Lib.hid (fun w' => sdo_nil w' 3 D E)
  have HSd := Lib.hid (fun R' w' (hI : Inv R' w') => seed_any R' w' hI)
  have hc15 := act_opt [0, 1] 0 ((0 : Nat) : Int) 3 D E (by omega)
  have HDo := Lib.hid (fun R' w' (hI : Inv R' w') p (hp : MapAt R' p [0, 1] 0 ((0 : Nat) : Int)) => act_two (sdo_any R' w' hI p [0, 1] 0 0 hp 3 D E hD (by omega)))
  obtain ⟨c, hc⟩ : ∃ c, actC [0, 1] 0 ((0 : Nat) : Int) 3 D E = c := ⟨_, rfl⟩
  rw [hc] at hc15 HDo
  have hcb : (c == 15) = false := beq_eq_false_iff_ne.2 hc15
  clear hc hc15
  have HNm := Lib.hid (fun w' => sname_any w' 3)
  rw [show nameV 3 = .string ⟨#[115, 116, 97, 114]⟩ from rfl] at HNm
  have HE0 := Lib.hid (show Ev noReg w noReg (w.alloc (.cells #[.int .i64 3, .int .i64 D, .int .i64 E] 50)) from (Ev.refl (Inv.noReg w)).alloc _)
  have hbx := heap_alloc_new w (.cells #[.int .i64 3, .int .i64 D, .int .i64 E] 50)
  go_enter Tryz.func6, Tryz.ntmps6
  go_wp2_with fail
  refine (HA.out _ _ HE0.out.inv).mono ?_
  rintro e w1 ⟨rfl, R1, he1⟩
  have HE1 := Lib.hid (HE0.out.trans he1)
  have HF1 := Lib.hid he1
  have hbx1 := (he1.block w.heap.size (by simp) rfl).trans hbx
  obtain ⟨y0, y1, y2, _⟩ := boxC_cells hbx1
  have hlt : w.heap.size < w1.heap.size := lt_of_cell y0
  have HB := Lib.hid hbx
  have HEn := Lib.hid (show Ev R1 w1 R1 (w1.alloc (.cells #[.string ⟨#[108, 101, 97, 102]⟩, .string ⟨#[99, 104, 111, 114, 100]⟩, .string ⟨#[115, 112, 108, 105, 116]⟩, .string ⟨#[115, 116, 97, 114]⟩, .string ⟨#[102, 108, 105, 112]⟩, .string ⟨#[114, 111, 111, 116]⟩, .string ⟨#[100, 117, 97, 108]⟩, .string ⟨#[109, 105, 114, 114, 111, 114]⟩, .string ⟨#[99, 117, 116]⟩, .string ⟨#[115, 104, 114, 105, 110, 107]⟩, .string ⟨#[99, 97, 110, 111, 110]⟩] 9)) from (Ev.refl he1.inv).alloc _)
  clear hbx he1 hbx1
  go_wp2_with fail
  refine (HNl.out _).mono ?_
  rintro e w2 ⟨rfl, he2⟩
  have HF2 := Lib.hid (HF1.out.trans (HEn.out.trans (he2 _ HEn.out.inv)))
  clear y0 y1 y2 hlt he2
  have hbx2 := (HF2.out.block w.heap.size (by simp) rfl).trans HB.out
  obtain ⟨y0, y1, y2, _⟩ := boxC_cells hbx2
  have HEd := Lib.hid ((Ev.refl HF2.out.inv).drew)
  clear hbx2
  go_wp2_with fail
  refine wp_region_held_drew (S := (fun w' : World => w'.cell? ⟨w.heap.size, 0, none⟩ = some (.int .i64 3) ∧ w'.cell? ⟨w.heap.size, 1, none⟩ = some (.int .i64 D) ∧ w'.cell? ⟨w.heap.size, 2, none⟩ = some (.int .i64 E))) (by kernel_rfl) ⟨y0, y1, y2⟩ (fun hHeld => ?_)
  refine wpAnyH_take (i := 1) (v := ?a1) rfl (by kernel_rfl) (by kernel_rfl) (by kernel_rfl) (fun _ _ _ h => h) (Or.inl ⟨by rfl, ?a1h⟩) (by assumption) ?_
  case a1h => (intro w' hSw; (try dsimp only at hSw); obtain ⟨s0, s1, s2⟩ := hSw; go_simp; try with_reducible rfl)
  try simp only [Act.put, List.setIfInBounds_toArray, List.set_cons_zero, List.set_cons_succ]
  refine wpAnyH_ready (rs := [0]) (by kernel_rfl) (by simp) (AllReadyH.cons rfl (fun K hK => ?_) AllReadyH.nil)
  go_simp
  refine (HSd.out _ _ HEd.out.inv).mono ?_
  rintro z w3 ⟨p, R3, rfl, he3, hp3⟩
  have HF3 := Lib.hid ((HF2.out.trans HEd.out).trans he3)
  have HP3 := Lib.hid hp3
  clear hp3
  have hbx3 := (HF3.out.block w.heap.size (by simp) rfl).trans HB.out
  obtain ⟨z0, z1, z2, _⟩ := boxC_cells hbx3
  have hS3 : (fun w' : World => w'.cell? ⟨w.heap.size, 0, none⟩ = some (.int .i64 3) ∧ w'.cell? ⟨w.heap.size, 1, none⟩ = some (.int .i64 D) ∧ w'.cell? ⟨w.heap.size, 2, none⟩ = some (.int .i64 E)) w3 := ⟨z0, z1, z2⟩
  clear he3 hbx3
  go_simp
  refine hK.out _ _ hS3 (fun hHeld3 => ?_)
  clear hHeld z0 z1 z2
  refine wpAnyH_ready (rs := [2]) (by kernel_rfl) (by simp) (AllReadyH.cons rfl (fun K hK => ?_) AllReadyH.nil)
  go_simp
  refine (HDo.out _ _ HF3.out.inv _ HP3.out).mono ?_
  rintro z w4 ⟨q, R4, rfl, he4⟩
  have HF4 := Lib.hid (HF3.out.trans he4)
  have hbx4 := (HF4.out.block w.heap.size (by simp) rfl).trans HB.out
  obtain ⟨z0, z1, z2, _⟩ := boxC_cells hbx4
  have hS4 : (fun w' : World => w'.cell? ⟨w.heap.size, 0, none⟩ = some (.int .i64 3) ∧ w'.cell? ⟨w.heap.size, 1, none⟩ = some (.int .i64 D) ∧ w'.cell? ⟨w.heap.size, 2, none⟩ = some (.int .i64 E)) w4 := ⟨z0, z1, z2⟩
  clear he4 hbx4
  go_simp
  refine hK.out _ _ hS4 (fun hHeld4 => ?_)
  clear hHeld3 z0 z1 z2
  refine wpAnyH_take (i := 3) (v := ?b3) rfl (by kernel_rfl) (by kernel_rfl) (by kernel_rfl) (fun _ _ _ h => h) (Or.inl ⟨by rfl, ?b3h⟩) (by assumption) ?_
  case b3h => (intro w' hSw; (try dsimp only at hSw); obtain ⟨s0, s1, s2⟩ := hSw; go_simp; try with_reducible rfl)
  try simp only [Act.put, List.setIfInBounds_toArray, List.set_cons_zero, List.set_cons_succ]
  refine wpAnyH_take (i := 4) (v := ?b4) rfl (by kernel_rfl) (by kernel_rfl) (by kernel_rfl) (fun _ _ _ h => h) (Or.inl ⟨by rfl, ?b4h⟩) (by assumption) ?_
  case b4h => (intro w' hSw; (try dsimp only at hSw); obtain ⟨s0, s1, s2⟩ := hSw; go_simp; try with_reducible rfl)
  try simp only [Act.put, List.setIfInBounds_toArray, List.set_cons_zero, List.set_cons_succ]
  refine wpAnyH_take (i := 5) (v := ?b5) rfl (by kernel_rfl) (by kernel_rfl) (by kernel_rfl) (fun _ _ _ h => h) (Or.inl ⟨by rfl, ?b5h⟩) (by assumption) ?_
  case b5h => (intro w' hSw; (try dsimp only at hSw); obtain ⟨s0, s1, s2⟩ := hSw; go_simp; try with_reducible rfl)
  try simp only [Act.put, List.setIfInBounds_toArray, List.set_cons_zero, List.set_cons_succ]
  refine wpAnyH_take (i := 6) (v := ?b6) rfl (by kernel_rfl) (by kernel_rfl) (by kernel_rfl) (fun _ _ _ h => h) (Or.inl ⟨by rfl, ?b6h⟩) (by assumption) ?_
  case b6h => (intro w' hSw; (try dsimp only at hSw); obtain ⟨s0, s1, s2⟩ := hSw; go_simp; try with_reducible rfl)
  try simp only [Act.put, List.setIfInBounds_toArray, List.set_cons_zero, List.set_cons_succ]
  refine wpAnyH_take (i := 7) (v := ?b7) rfl (by kernel_rfl) (by kernel_rfl) (by kernel_rfl) (fun _ _ _ h => h) (Or.inl ⟨by rfl, ?b7h⟩) (by assumption) ?_
  case b7h => (intro w' hSw; (try dsimp only at hSw); obtain ⟨s0, s1, s2⟩ := hSw; go_simp; try with_reducible rfl)
  try simp only [Act.put, List.setIfInBounds_toArray, List.set_cons_zero, List.set_cons_succ]
  refine wpAnyH_done (by kernel_rfl) ?_ _
  clear hHeld4
  go_wp2_with fail
  refine (HNm.out _).mono ?_
  rintro e w5 ⟨rfl, he5⟩
  have HF5 := Lib.hid (HF4.out.trans (he5 _ HF4.out.inv))
  clear he5 y0 y1 y2
  go_wp2_with fail
  go_ret
  exact ⟨by first | rfl | simp, R4, HE0.out.trans HF5.out⟩

set_option maxRecDepth 100000 in
set_option maxHeartbeats 4000000 in
theorem scriptNames_4 (w : World) (D E : Int) (hD : D < 9223372036854775808) : Calls Tryz.prog 6 #[.agg #[.int .i64 4, .int .i64 D, .int .i64 E]] w (RetTrue noReg w) := by
  have HA := Lib.hid (fun R' w' (hI : Inv R' w') => awake24_any R' w' hI)
  have HNl := Lib.hid (fun w' => sdo_nil w' 4 D E)
  have HSd := Lib.hid (fun R' w' (hI : Inv R' w') => seed_any R' w' hI)
  have hc15 := act_opt [0, 1] 0 ((0 : Nat) : Int) 4 D E (by omega)
  have HDo := Lib.hid (fun R' w' (hI : Inv R' w') p (hp : MapAt R' p [0, 1] 0 ((0 : Nat) : Int)) => act_two (sdo_any R' w' hI p [0, 1] 0 0 hp 4 D E hD (by omega)))
  obtain ⟨c, hc⟩ : ∃ c, actC [0, 1] 0 ((0 : Nat) : Int) 4 D E = c := ⟨_, rfl⟩
  rw [hc] at hc15 HDo
  have hcb : (c == 15) = false := beq_eq_false_iff_ne.2 hc15
  clear hc hc15
  have HNm := Lib.hid (fun w' => sname_any w' 4)
  rw [show nameV 4 = .string ⟨#[102, 108, 105, 112]⟩ from rfl] at HNm
  have HE0 := Lib.hid (show Ev noReg w noReg (w.alloc (.cells #[.int .i64 4, .int .i64 D, .int .i64 E] 50)) from (Ev.refl (Inv.noReg w)).alloc _)
  have hbx := heap_alloc_new w (.cells #[.int .i64 4, .int .i64 D, .int .i64 E] 50)
  go_enter Tryz.func6, Tryz.ntmps6
  go_wp2_with fail
  refine (HA.out _ _ HE0.out.inv).mono ?_
  rintro e w1 ⟨rfl, R1, he1⟩
  have HE1 := Lib.hid (HE0.out.trans he1)
  have HF1 := Lib.hid he1
  have hbx1 := (he1.block w.heap.size (by simp) rfl).trans hbx
  obtain ⟨y0, y1, y2, _⟩ := boxC_cells hbx1
  have hlt : w.heap.size < w1.heap.size := lt_of_cell y0
  have HB := Lib.hid hbx
  have HEn := Lib.hid (show Ev R1 w1 R1 (w1.alloc (.cells #[.string ⟨#[108, 101, 97, 102]⟩, .string ⟨#[99, 104, 111, 114, 100]⟩, .string ⟨#[115, 112, 108, 105, 116]⟩, .string ⟨#[115, 116, 97, 114]⟩, .string ⟨#[102, 108, 105, 112]⟩, .string ⟨#[114, 111, 111, 116]⟩, .string ⟨#[100, 117, 97, 108]⟩, .string ⟨#[109, 105, 114, 114, 111, 114]⟩, .string ⟨#[99, 117, 116]⟩, .string ⟨#[115, 104, 114, 105, 110, 107]⟩, .string ⟨#[99, 97, 110, 111, 110]⟩] 9)) from (Ev.refl he1.inv).alloc _)
  clear hbx he1 hbx1
  go_wp2_with fail
  refine (HNl.out _).mono ?_
  rintro e w2 ⟨rfl, he2⟩
  have HF2 := Lib.hid (HF1.out.trans (HEn.out.trans (he2 _ HEn.out.inv)))
  clear y0 y1 y2 hlt he2
  have hbx2 := (HF2.out.block w.heap.size (by simp) rfl).trans HB.out
  obtain ⟨y0, y1, y2, _⟩ := boxC_cells hbx2
  have HEd := Lib.hid ((Ev.refl HF2.out.inv).drew)
  clear hbx2
  go_wp2_with fail
  refine wp_region_held_drew (S := (fun w' : World => w'.cell? ⟨w.heap.size, 0, none⟩ = some (.int .i64 4) ∧ w'.cell? ⟨w.heap.size, 1, none⟩ = some (.int .i64 D) ∧ w'.cell? ⟨w.heap.size, 2, none⟩ = some (.int .i64 E))) (by kernel_rfl) ⟨y0, y1, y2⟩ (fun hHeld => ?_)
  refine wpAnyH_take (i := 1) (v := ?a1) rfl (by kernel_rfl) (by kernel_rfl) (by kernel_rfl) (fun _ _ _ h => h) (Or.inl ⟨by rfl, ?a1h⟩) (by assumption) ?_
  case a1h => (intro w' hSw; (try dsimp only at hSw); obtain ⟨s0, s1, s2⟩ := hSw; go_simp; try with_reducible rfl)
  try simp only [Act.put, List.setIfInBounds_toArray, List.set_cons_zero, List.set_cons_succ]
  refine wpAnyH_ready (rs := [0]) (by kernel_rfl) (by simp) (AllReadyH.cons rfl (fun K hK => ?_) AllReadyH.nil)
  go_simp
  refine (HSd.out _ _ HEd.out.inv).mono ?_
  rintro z w3 ⟨p, R3, rfl, he3, hp3⟩
  have HF3 := Lib.hid ((HF2.out.trans HEd.out).trans he3)
  have HP3 := Lib.hid hp3
  clear hp3
  have hbx3 := (HF3.out.block w.heap.size (by simp) rfl).trans HB.out
  obtain ⟨z0, z1, z2, _⟩ := boxC_cells hbx3
  have hS3 : (fun w' : World => w'.cell? ⟨w.heap.size, 0, none⟩ = some (.int .i64 4) ∧ w'.cell? ⟨w.heap.size, 1, none⟩ = some (.int .i64 D) ∧ w'.cell? ⟨w.heap.size, 2, none⟩ = some (.int .i64 E)) w3 := ⟨z0, z1, z2⟩
  clear he3 hbx3
  go_simp
  refine hK.out _ _ hS3 (fun hHeld3 => ?_)
  clear hHeld z0 z1 z2
  refine wpAnyH_ready (rs := [2]) (by kernel_rfl) (by simp) (AllReadyH.cons rfl (fun K hK => ?_) AllReadyH.nil)
  go_simp
  refine (HDo.out _ _ HF3.out.inv _ HP3.out).mono ?_
  rintro z w4 ⟨q, R4, rfl, he4⟩
  have HF4 := Lib.hid (HF3.out.trans he4)
  have hbx4 := (HF4.out.block w.heap.size (by simp) rfl).trans HB.out
  obtain ⟨z0, z1, z2, _⟩ := boxC_cells hbx4
  have hS4 : (fun w' : World => w'.cell? ⟨w.heap.size, 0, none⟩ = some (.int .i64 4) ∧ w'.cell? ⟨w.heap.size, 1, none⟩ = some (.int .i64 D) ∧ w'.cell? ⟨w.heap.size, 2, none⟩ = some (.int .i64 E)) w4 := ⟨z0, z1, z2⟩
  clear he4 hbx4
  go_simp
  refine hK.out _ _ hS4 (fun hHeld4 => ?_)
  clear hHeld3 z0 z1 z2
  refine wpAnyH_take (i := 3) (v := ?b3) rfl (by kernel_rfl) (by kernel_rfl) (by kernel_rfl) (fun _ _ _ h => h) (Or.inl ⟨by rfl, ?b3h⟩) (by assumption) ?_
  case b3h => (intro w' hSw; (try dsimp only at hSw); obtain ⟨s0, s1, s2⟩ := hSw; go_simp; try with_reducible rfl)
  try simp only [Act.put, List.setIfInBounds_toArray, List.set_cons_zero, List.set_cons_succ]
  refine wpAnyH_take (i := 4) (v := ?b4) rfl (by kernel_rfl) (by kernel_rfl) (by kernel_rfl) (fun _ _ _ h => h) (Or.inl ⟨by rfl, ?b4h⟩) (by assumption) ?_
  case b4h => (intro w' hSw; (try dsimp only at hSw); obtain ⟨s0, s1, s2⟩ := hSw; go_simp; try with_reducible rfl)
  try simp only [Act.put, List.setIfInBounds_toArray, List.set_cons_zero, List.set_cons_succ]
  refine wpAnyH_take (i := 5) (v := ?b5) rfl (by kernel_rfl) (by kernel_rfl) (by kernel_rfl) (fun _ _ _ h => h) (Or.inl ⟨by rfl, ?b5h⟩) (by assumption) ?_
  case b5h => (intro w' hSw; (try dsimp only at hSw); obtain ⟨s0, s1, s2⟩ := hSw; go_simp; try with_reducible rfl)
  try simp only [Act.put, List.setIfInBounds_toArray, List.set_cons_zero, List.set_cons_succ]
  refine wpAnyH_take (i := 6) (v := ?b6) rfl (by kernel_rfl) (by kernel_rfl) (by kernel_rfl) (fun _ _ _ h => h) (Or.inl ⟨by rfl, ?b6h⟩) (by assumption) ?_
  case b6h => (intro w' hSw; (try dsimp only at hSw); obtain ⟨s0, s1, s2⟩ := hSw; go_simp; try with_reducible rfl)
  try simp only [Act.put, List.setIfInBounds_toArray, List.set_cons_zero, List.set_cons_succ]
  refine wpAnyH_take (i := 7) (v := ?b7) rfl (by kernel_rfl) (by kernel_rfl) (by kernel_rfl) (fun _ _ _ h => h) (Or.inl ⟨by rfl, ?b7h⟩) (by assumption) ?_
  case b7h => (intro w' hSw; (try dsimp only at hSw); obtain ⟨s0, s1, s2⟩ := hSw; go_simp; try with_reducible rfl)
  try simp only [Act.put, List.setIfInBounds_toArray, List.set_cons_zero, List.set_cons_succ]
  refine wpAnyH_done (by kernel_rfl) ?_ _
  clear hHeld4
  go_wp2_with fail
  refine (HNm.out _).mono ?_
  rintro e w5 ⟨rfl, he5⟩
  have HF5 := Lib.hid (HF4.out.trans (he5 _ HF4.out.inv))
  clear he5 y0 y1 y2
  go_wp2_with fail
  go_ret
  exact ⟨by first | rfl | simp, R4, HE0.out.trans HF5.out⟩

set_option maxRecDepth 100000 in
set_option maxHeartbeats 4000000 in
theorem scriptNames_5 (w : World) (D E : Int) (hD : D < 9223372036854775808) : Calls Tryz.prog 6 #[.agg #[.int .i64 5, .int .i64 D, .int .i64 E]] w (RetTrue noReg w) := by
  have HA := Lib.hid (fun R' w' (hI : Inv R' w') => awake24_any R' w' hI)
  have HNl := Lib.hid (fun w' => sdo_nil w' 5 D E)
  have HSd := Lib.hid (fun R' w' (hI : Inv R' w') => seed_any R' w' hI)
  have hc15 := act_opt [0, 1] 0 ((0 : Nat) : Int) 5 D E (by omega)
  have HDo := Lib.hid (fun R' w' (hI : Inv R' w') p (hp : MapAt R' p [0, 1] 0 ((0 : Nat) : Int)) => act_two (sdo_any R' w' hI p [0, 1] 0 0 hp 5 D E hD (by omega)))
  obtain ⟨c, hc⟩ : ∃ c, actC [0, 1] 0 ((0 : Nat) : Int) 5 D E = c := ⟨_, rfl⟩
  rw [hc] at hc15 HDo
  have hcb : (c == 15) = false := beq_eq_false_iff_ne.2 hc15
  clear hc hc15
  have HNm := Lib.hid (fun w' => sname_any w' 5)
  rw [show nameV 5 = .string ⟨#[114, 111, 111, 116]⟩ from rfl] at HNm
  have HE0 := Lib.hid (show Ev noReg w noReg (w.alloc (.cells #[.int .i64 5, .int .i64 D, .int .i64 E] 50)) from (Ev.refl (Inv.noReg w)).alloc _)
  have hbx := heap_alloc_new w (.cells #[.int .i64 5, .int .i64 D, .int .i64 E] 50)
  go_enter Tryz.func6, Tryz.ntmps6
  go_wp2_with fail
  refine (HA.out _ _ HE0.out.inv).mono ?_
  rintro e w1 ⟨rfl, R1, he1⟩
  have HE1 := Lib.hid (HE0.out.trans he1)
  have HF1 := Lib.hid he1
  have hbx1 := (he1.block w.heap.size (by simp) rfl).trans hbx
  obtain ⟨y0, y1, y2, _⟩ := boxC_cells hbx1
  have hlt : w.heap.size < w1.heap.size := lt_of_cell y0
  have HB := Lib.hid hbx
  have HEn := Lib.hid (show Ev R1 w1 R1 (w1.alloc (.cells #[.string ⟨#[108, 101, 97, 102]⟩, .string ⟨#[99, 104, 111, 114, 100]⟩, .string ⟨#[115, 112, 108, 105, 116]⟩, .string ⟨#[115, 116, 97, 114]⟩, .string ⟨#[102, 108, 105, 112]⟩, .string ⟨#[114, 111, 111, 116]⟩, .string ⟨#[100, 117, 97, 108]⟩, .string ⟨#[109, 105, 114, 114, 111, 114]⟩, .string ⟨#[99, 117, 116]⟩, .string ⟨#[115, 104, 114, 105, 110, 107]⟩, .string ⟨#[99, 97, 110, 111, 110]⟩] 9)) from (Ev.refl he1.inv).alloc _)
  clear hbx he1 hbx1
  go_wp2_with fail
  refine (HNl.out _).mono ?_
  rintro e w2 ⟨rfl, he2⟩
  have HF2 := Lib.hid (HF1.out.trans (HEn.out.trans (he2 _ HEn.out.inv)))
  clear y0 y1 y2 hlt he2
  have hbx2 := (HF2.out.block w.heap.size (by simp) rfl).trans HB.out
  obtain ⟨y0, y1, y2, _⟩ := boxC_cells hbx2
  have HEd := Lib.hid ((Ev.refl HF2.out.inv).drew)
  clear hbx2
  go_wp2_with fail
  refine wp_region_held_drew (S := (fun w' : World => w'.cell? ⟨w.heap.size, 0, none⟩ = some (.int .i64 5) ∧ w'.cell? ⟨w.heap.size, 1, none⟩ = some (.int .i64 D) ∧ w'.cell? ⟨w.heap.size, 2, none⟩ = some (.int .i64 E))) (by kernel_rfl) ⟨y0, y1, y2⟩ (fun hHeld => ?_)
  refine wpAnyH_take (i := 1) (v := ?a1) rfl (by kernel_rfl) (by kernel_rfl) (by kernel_rfl) (fun _ _ _ h => h) (Or.inl ⟨by rfl, ?a1h⟩) (by assumption) ?_
  case a1h => (intro w' hSw; (try dsimp only at hSw); obtain ⟨s0, s1, s2⟩ := hSw; go_simp; try with_reducible rfl)
  try simp only [Act.put, List.setIfInBounds_toArray, List.set_cons_zero, List.set_cons_succ]
  refine wpAnyH_ready (rs := [0]) (by kernel_rfl) (by simp) (AllReadyH.cons rfl (fun K hK => ?_) AllReadyH.nil)
  go_simp
  refine (HSd.out _ _ HEd.out.inv).mono ?_
  rintro z w3 ⟨p, R3, rfl, he3, hp3⟩
  have HF3 := Lib.hid ((HF2.out.trans HEd.out).trans he3)
  have HP3 := Lib.hid hp3
  clear hp3
  have hbx3 := (HF3.out.block w.heap.size (by simp) rfl).trans HB.out
  obtain ⟨z0, z1, z2, _⟩ := boxC_cells hbx3
  have hS3 : (fun w' : World => w'.cell? ⟨w.heap.size, 0, none⟩ = some (.int .i64 5) ∧ w'.cell? ⟨w.heap.size, 1, none⟩ = some (.int .i64 D) ∧ w'.cell? ⟨w.heap.size, 2, none⟩ = some (.int .i64 E)) w3 := ⟨z0, z1, z2⟩
  clear he3 hbx3
  go_simp
  refine hK.out _ _ hS3 (fun hHeld3 => ?_)
  clear hHeld z0 z1 z2
  refine wpAnyH_ready (rs := [2]) (by kernel_rfl) (by simp) (AllReadyH.cons rfl (fun K hK => ?_) AllReadyH.nil)
  go_simp
  refine (HDo.out _ _ HF3.out.inv _ HP3.out).mono ?_
  rintro z w4 ⟨q, R4, rfl, he4⟩
  have HF4 := Lib.hid (HF3.out.trans he4)
  have hbx4 := (HF4.out.block w.heap.size (by simp) rfl).trans HB.out
  obtain ⟨z0, z1, z2, _⟩ := boxC_cells hbx4
  have hS4 : (fun w' : World => w'.cell? ⟨w.heap.size, 0, none⟩ = some (.int .i64 5) ∧ w'.cell? ⟨w.heap.size, 1, none⟩ = some (.int .i64 D) ∧ w'.cell? ⟨w.heap.size, 2, none⟩ = some (.int .i64 E)) w4 := ⟨z0, z1, z2⟩
  clear he4 hbx4
  go_simp
  refine hK.out _ _ hS4 (fun hHeld4 => ?_)
  clear hHeld3 z0 z1 z2
  refine wpAnyH_take (i := 3) (v := ?b3) rfl (by kernel_rfl) (by kernel_rfl) (by kernel_rfl) (fun _ _ _ h => h) (Or.inl ⟨by rfl, ?b3h⟩) (by assumption) ?_
  case b3h => (intro w' hSw; (try dsimp only at hSw); obtain ⟨s0, s1, s2⟩ := hSw; go_simp; try with_reducible rfl)
  try simp only [Act.put, List.setIfInBounds_toArray, List.set_cons_zero, List.set_cons_succ]
  refine wpAnyH_take (i := 4) (v := ?b4) rfl (by kernel_rfl) (by kernel_rfl) (by kernel_rfl) (fun _ _ _ h => h) (Or.inl ⟨by rfl, ?b4h⟩) (by assumption) ?_
  case b4h => (intro w' hSw; (try dsimp only at hSw); obtain ⟨s0, s1, s2⟩ := hSw; go_simp; try with_reducible rfl)
  try simp only [Act.put, List.setIfInBounds_toArray, List.set_cons_zero, List.set_cons_succ]
  refine wpAnyH_take (i := 5) (v := ?b5) rfl (by kernel_rfl) (by kernel_rfl) (by kernel_rfl) (fun _ _ _ h => h) (Or.inl ⟨by rfl, ?b5h⟩) (by assumption) ?_
  case b5h => (intro w' hSw; (try dsimp only at hSw); obtain ⟨s0, s1, s2⟩ := hSw; go_simp; try with_reducible rfl)
  try simp only [Act.put, List.setIfInBounds_toArray, List.set_cons_zero, List.set_cons_succ]
  refine wpAnyH_take (i := 6) (v := ?b6) rfl (by kernel_rfl) (by kernel_rfl) (by kernel_rfl) (fun _ _ _ h => h) (Or.inl ⟨by rfl, ?b6h⟩) (by assumption) ?_
  case b6h => (intro w' hSw; (try dsimp only at hSw); obtain ⟨s0, s1, s2⟩ := hSw; go_simp; try with_reducible rfl)
  try simp only [Act.put, List.setIfInBounds_toArray, List.set_cons_zero, List.set_cons_succ]
  refine wpAnyH_take (i := 7) (v := ?b7) rfl (by kernel_rfl) (by kernel_rfl) (by kernel_rfl) (fun _ _ _ h => h) (Or.inl ⟨by rfl, ?b7h⟩) (by assumption) ?_
  case b7h => (intro w' hSw; (try dsimp only at hSw); obtain ⟨s0, s1, s2⟩ := hSw; go_simp; try with_reducible rfl)
  try simp only [Act.put, List.setIfInBounds_toArray, List.set_cons_zero, List.set_cons_succ]
  refine wpAnyH_done (by kernel_rfl) ?_ _
  clear hHeld4
  go_wp2_with fail
  refine (HNm.out _).mono ?_
  rintro e w5 ⟨rfl, he5⟩
  have HF5 := Lib.hid (HF4.out.trans (he5 _ HF4.out.inv))
  clear he5 y0 y1 y2
  go_wp2_with fail
  go_ret
  exact ⟨by first | rfl | simp, R4, HE0.out.trans HF5.out⟩

set_option maxRecDepth 100000 in
set_option maxHeartbeats 4000000 in
theorem scriptNames_6 (w : World) (D E : Int) (hD : D < 9223372036854775808) : Calls Tryz.prog 6 #[.agg #[.int .i64 6, .int .i64 D, .int .i64 E]] w (RetTrue noReg w) := by
  have HA := Lib.hid (fun R' w' (hI : Inv R' w') => awake24_any R' w' hI)
  have HNl := Lib.hid (fun w' => sdo_nil w' 6 D E)
  have HSd := Lib.hid (fun R' w' (hI : Inv R' w') => seed_any R' w' hI)
  have hc15 := act_opt [0, 1] 0 ((0 : Nat) : Int) 6 D E (by omega)
  have HDo := Lib.hid (fun R' w' (hI : Inv R' w') p (hp : MapAt R' p [0, 1] 0 ((0 : Nat) : Int)) => act_two (sdo_any R' w' hI p [0, 1] 0 0 hp 6 D E hD (by omega)))
  obtain ⟨c, hc⟩ : ∃ c, actC [0, 1] 0 ((0 : Nat) : Int) 6 D E = c := ⟨_, rfl⟩
  rw [hc] at hc15 HDo
  have hcb : (c == 15) = false := beq_eq_false_iff_ne.2 hc15
  clear hc hc15
  have HNm := Lib.hid (fun w' => sname_any w' 6)
  rw [show nameV 6 = .string ⟨#[100, 117, 97, 108]⟩ from rfl] at HNm
  have HE0 := Lib.hid (show Ev noReg w noReg (w.alloc (.cells #[.int .i64 6, .int .i64 D, .int .i64 E] 50)) from (Ev.refl (Inv.noReg w)).alloc _)
  have hbx := heap_alloc_new w (.cells #[.int .i64 6, .int .i64 D, .int .i64 E] 50)
  go_enter Tryz.func6, Tryz.ntmps6
  go_wp2_with fail
  refine (HA.out _ _ HE0.out.inv).mono ?_
  rintro e w1 ⟨rfl, R1, he1⟩
  have HE1 := Lib.hid (HE0.out.trans he1)
  have HF1 := Lib.hid he1
  have hbx1 := (he1.block w.heap.size (by simp) rfl).trans hbx
  obtain ⟨y0, y1, y2, _⟩ := boxC_cells hbx1
  have hlt : w.heap.size < w1.heap.size := lt_of_cell y0
  have HB := Lib.hid hbx
  have HEn := Lib.hid (show Ev R1 w1 R1 (w1.alloc (.cells #[.string ⟨#[108, 101, 97, 102]⟩, .string ⟨#[99, 104, 111, 114, 100]⟩, .string ⟨#[115, 112, 108, 105, 116]⟩, .string ⟨#[115, 116, 97, 114]⟩, .string ⟨#[102, 108, 105, 112]⟩, .string ⟨#[114, 111, 111, 116]⟩, .string ⟨#[100, 117, 97, 108]⟩, .string ⟨#[109, 105, 114, 114, 111, 114]⟩, .string ⟨#[99, 117, 116]⟩, .string ⟨#[115, 104, 114, 105, 110, 107]⟩, .string ⟨#[99, 97, 110, 111, 110]⟩] 9)) from (Ev.refl he1.inv).alloc _)
  clear hbx he1 hbx1
  go_wp2_with fail
  refine (HNl.out _).mono ?_
  rintro e w2 ⟨rfl, he2⟩
  have HF2 := Lib.hid (HF1.out.trans (HEn.out.trans (he2 _ HEn.out.inv)))
  clear y0 y1 y2 hlt he2
  have hbx2 := (HF2.out.block w.heap.size (by simp) rfl).trans HB.out
  obtain ⟨y0, y1, y2, _⟩ := boxC_cells hbx2
  have HEd := Lib.hid ((Ev.refl HF2.out.inv).drew)
  clear hbx2
  go_wp2_with fail
  refine wp_region_held_drew (S := (fun w' : World => w'.cell? ⟨w.heap.size, 0, none⟩ = some (.int .i64 6) ∧ w'.cell? ⟨w.heap.size, 1, none⟩ = some (.int .i64 D) ∧ w'.cell? ⟨w.heap.size, 2, none⟩ = some (.int .i64 E))) (by kernel_rfl) ⟨y0, y1, y2⟩ (fun hHeld => ?_)
  refine wpAnyH_take (i := 1) (v := ?a1) rfl (by kernel_rfl) (by kernel_rfl) (by kernel_rfl) (fun _ _ _ h => h) (Or.inl ⟨by rfl, ?a1h⟩) (by assumption) ?_
  case a1h => (intro w' hSw; (try dsimp only at hSw); obtain ⟨s0, s1, s2⟩ := hSw; go_simp; try with_reducible rfl)
  try simp only [Act.put, List.setIfInBounds_toArray, List.set_cons_zero, List.set_cons_succ]
  refine wpAnyH_ready (rs := [0]) (by kernel_rfl) (by simp) (AllReadyH.cons rfl (fun K hK => ?_) AllReadyH.nil)
  go_simp
  refine (HSd.out _ _ HEd.out.inv).mono ?_
  rintro z w3 ⟨p, R3, rfl, he3, hp3⟩
  have HF3 := Lib.hid ((HF2.out.trans HEd.out).trans he3)
  have HP3 := Lib.hid hp3
  clear hp3
  have hbx3 := (HF3.out.block w.heap.size (by simp) rfl).trans HB.out
  obtain ⟨z0, z1, z2, _⟩ := boxC_cells hbx3
  have hS3 : (fun w' : World => w'.cell? ⟨w.heap.size, 0, none⟩ = some (.int .i64 6) ∧ w'.cell? ⟨w.heap.size, 1, none⟩ = some (.int .i64 D) ∧ w'.cell? ⟨w.heap.size, 2, none⟩ = some (.int .i64 E)) w3 := ⟨z0, z1, z2⟩
  clear he3 hbx3
  go_simp
  refine hK.out _ _ hS3 (fun hHeld3 => ?_)
  clear hHeld z0 z1 z2
  refine wpAnyH_ready (rs := [2]) (by kernel_rfl) (by simp) (AllReadyH.cons rfl (fun K hK => ?_) AllReadyH.nil)
  go_simp
  refine (HDo.out _ _ HF3.out.inv _ HP3.out).mono ?_
  rintro z w4 ⟨q, R4, rfl, he4⟩
  have HF4 := Lib.hid (HF3.out.trans he4)
  have hbx4 := (HF4.out.block w.heap.size (by simp) rfl).trans HB.out
  obtain ⟨z0, z1, z2, _⟩ := boxC_cells hbx4
  have hS4 : (fun w' : World => w'.cell? ⟨w.heap.size, 0, none⟩ = some (.int .i64 6) ∧ w'.cell? ⟨w.heap.size, 1, none⟩ = some (.int .i64 D) ∧ w'.cell? ⟨w.heap.size, 2, none⟩ = some (.int .i64 E)) w4 := ⟨z0, z1, z2⟩
  clear he4 hbx4
  go_simp
  refine hK.out _ _ hS4 (fun hHeld4 => ?_)
  clear hHeld3 z0 z1 z2
  refine wpAnyH_take (i := 3) (v := ?b3) rfl (by kernel_rfl) (by kernel_rfl) (by kernel_rfl) (fun _ _ _ h => h) (Or.inl ⟨by rfl, ?b3h⟩) (by assumption) ?_
  case b3h => (intro w' hSw; (try dsimp only at hSw); obtain ⟨s0, s1, s2⟩ := hSw; go_simp; try with_reducible rfl)
  try simp only [Act.put, List.setIfInBounds_toArray, List.set_cons_zero, List.set_cons_succ]
  refine wpAnyH_take (i := 4) (v := ?b4) rfl (by kernel_rfl) (by kernel_rfl) (by kernel_rfl) (fun _ _ _ h => h) (Or.inl ⟨by rfl, ?b4h⟩) (by assumption) ?_
  case b4h => (intro w' hSw; (try dsimp only at hSw); obtain ⟨s0, s1, s2⟩ := hSw; go_simp; try with_reducible rfl)
  try simp only [Act.put, List.setIfInBounds_toArray, List.set_cons_zero, List.set_cons_succ]
  refine wpAnyH_take (i := 5) (v := ?b5) rfl (by kernel_rfl) (by kernel_rfl) (by kernel_rfl) (fun _ _ _ h => h) (Or.inl ⟨by rfl, ?b5h⟩) (by assumption) ?_
  case b5h => (intro w' hSw; (try dsimp only at hSw); obtain ⟨s0, s1, s2⟩ := hSw; go_simp; try with_reducible rfl)
  try simp only [Act.put, List.setIfInBounds_toArray, List.set_cons_zero, List.set_cons_succ]
  refine wpAnyH_take (i := 6) (v := ?b6) rfl (by kernel_rfl) (by kernel_rfl) (by kernel_rfl) (fun _ _ _ h => h) (Or.inl ⟨by rfl, ?b6h⟩) (by assumption) ?_
  case b6h => (intro w' hSw; (try dsimp only at hSw); obtain ⟨s0, s1, s2⟩ := hSw; go_simp; try with_reducible rfl)
  try simp only [Act.put, List.setIfInBounds_toArray, List.set_cons_zero, List.set_cons_succ]
  refine wpAnyH_take (i := 7) (v := ?b7) rfl (by kernel_rfl) (by kernel_rfl) (by kernel_rfl) (fun _ _ _ h => h) (Or.inl ⟨by rfl, ?b7h⟩) (by assumption) ?_
  case b7h => (intro w' hSw; (try dsimp only at hSw); obtain ⟨s0, s1, s2⟩ := hSw; go_simp; try with_reducible rfl)
  try simp only [Act.put, List.setIfInBounds_toArray, List.set_cons_zero, List.set_cons_succ]
  refine wpAnyH_done (by kernel_rfl) ?_ _
  clear hHeld4
  go_wp2_with fail
  refine (HNm.out _).mono ?_
  rintro e w5 ⟨rfl, he5⟩
  have HF5 := Lib.hid (HF4.out.trans (he5 _ HF4.out.inv))
  clear he5 y0 y1 y2
  go_wp2_with fail
  go_ret
  exact ⟨by first | rfl | simp, R4, HE0.out.trans HF5.out⟩

set_option maxRecDepth 100000 in
set_option maxHeartbeats 4000000 in
theorem scriptNames_7 (w : World) (D E : Int) (hD : D < 9223372036854775808) : Calls Tryz.prog 6 #[.agg #[.int .i64 7, .int .i64 D, .int .i64 E]] w (RetTrue noReg w) := by
  have HA := Lib.hid (fun R' w' (hI : Inv R' w') => awake24_any R' w' hI)
  have HNl := Lib.hid (fun w' => sdo_nil w' 7 D E)
  have HSd := Lib.hid (fun R' w' (hI : Inv R' w') => seed_any R' w' hI)
  have hc15 := act_opt [0, 1] 0 ((0 : Nat) : Int) 7 D E (by omega)
  have HDo := Lib.hid (fun R' w' (hI : Inv R' w') p (hp : MapAt R' p [0, 1] 0 ((0 : Nat) : Int)) => act_two (sdo_any R' w' hI p [0, 1] 0 0 hp 7 D E hD (by omega)))
  obtain ⟨c, hc⟩ : ∃ c, actC [0, 1] 0 ((0 : Nat) : Int) 7 D E = c := ⟨_, rfl⟩
  rw [hc] at hc15 HDo
  have hcb : (c == 15) = false := beq_eq_false_iff_ne.2 hc15
  clear hc hc15
  have HNm := Lib.hid (fun w' => sname_any w' 7)
  rw [show nameV 7 = .string ⟨#[109, 105, 114, 114, 111, 114]⟩ from rfl] at HNm
  have HE0 := Lib.hid (show Ev noReg w noReg (w.alloc (.cells #[.int .i64 7, .int .i64 D, .int .i64 E] 50)) from (Ev.refl (Inv.noReg w)).alloc _)
  have hbx := heap_alloc_new w (.cells #[.int .i64 7, .int .i64 D, .int .i64 E] 50)
  go_enter Tryz.func6, Tryz.ntmps6
  go_wp2_with fail
  refine (HA.out _ _ HE0.out.inv).mono ?_
  rintro e w1 ⟨rfl, R1, he1⟩
  have HE1 := Lib.hid (HE0.out.trans he1)
  have HF1 := Lib.hid he1
  have hbx1 := (he1.block w.heap.size (by simp) rfl).trans hbx
  obtain ⟨y0, y1, y2, _⟩ := boxC_cells hbx1
  have hlt : w.heap.size < w1.heap.size := lt_of_cell y0
  have HB := Lib.hid hbx
  have HEn := Lib.hid (show Ev R1 w1 R1 (w1.alloc (.cells #[.string ⟨#[108, 101, 97, 102]⟩, .string ⟨#[99, 104, 111, 114, 100]⟩, .string ⟨#[115, 112, 108, 105, 116]⟩, .string ⟨#[115, 116, 97, 114]⟩, .string ⟨#[102, 108, 105, 112]⟩, .string ⟨#[114, 111, 111, 116]⟩, .string ⟨#[100, 117, 97, 108]⟩, .string ⟨#[109, 105, 114, 114, 111, 114]⟩, .string ⟨#[99, 117, 116]⟩, .string ⟨#[115, 104, 114, 105, 110, 107]⟩, .string ⟨#[99, 97, 110, 111, 110]⟩] 9)) from (Ev.refl he1.inv).alloc _)
  clear hbx he1 hbx1
  go_wp2_with fail
  refine (HNl.out _).mono ?_
  rintro e w2 ⟨rfl, he2⟩
  have HF2 := Lib.hid (HF1.out.trans (HEn.out.trans (he2 _ HEn.out.inv)))
  clear y0 y1 y2 hlt he2
  have hbx2 := (HF2.out.block w.heap.size (by simp) rfl).trans HB.out
  obtain ⟨y0, y1, y2, _⟩ := boxC_cells hbx2
  have HEd := Lib.hid ((Ev.refl HF2.out.inv).drew)
  clear hbx2
  go_wp2_with fail
  refine wp_region_held_drew (S := (fun w' : World => w'.cell? ⟨w.heap.size, 0, none⟩ = some (.int .i64 7) ∧ w'.cell? ⟨w.heap.size, 1, none⟩ = some (.int .i64 D) ∧ w'.cell? ⟨w.heap.size, 2, none⟩ = some (.int .i64 E))) (by kernel_rfl) ⟨y0, y1, y2⟩ (fun hHeld => ?_)
  refine wpAnyH_take (i := 1) (v := ?a1) rfl (by kernel_rfl) (by kernel_rfl) (by kernel_rfl) (fun _ _ _ h => h) (Or.inl ⟨by rfl, ?a1h⟩) (by assumption) ?_
  case a1h => (intro w' hSw; (try dsimp only at hSw); obtain ⟨s0, s1, s2⟩ := hSw; go_simp; try with_reducible rfl)
  try simp only [Act.put, List.setIfInBounds_toArray, List.set_cons_zero, List.set_cons_succ]
  refine wpAnyH_ready (rs := [0]) (by kernel_rfl) (by simp) (AllReadyH.cons rfl (fun K hK => ?_) AllReadyH.nil)
  go_simp
  refine (HSd.out _ _ HEd.out.inv).mono ?_
  rintro z w3 ⟨p, R3, rfl, he3, hp3⟩
  have HF3 := Lib.hid ((HF2.out.trans HEd.out).trans he3)
  have HP3 := Lib.hid hp3
  clear hp3
  have hbx3 := (HF3.out.block w.heap.size (by simp) rfl).trans HB.out
  obtain ⟨z0, z1, z2, _⟩ := boxC_cells hbx3
  have hS3 : (fun w' : World => w'.cell? ⟨w.heap.size, 0, none⟩ = some (.int .i64 7) ∧ w'.cell? ⟨w.heap.size, 1, none⟩ = some (.int .i64 D) ∧ w'.cell? ⟨w.heap.size, 2, none⟩ = some (.int .i64 E)) w3 := ⟨z0, z1, z2⟩
  clear he3 hbx3
  go_simp
  refine hK.out _ _ hS3 (fun hHeld3 => ?_)
  clear hHeld z0 z1 z2
  refine wpAnyH_ready (rs := [2]) (by kernel_rfl) (by simp) (AllReadyH.cons rfl (fun K hK => ?_) AllReadyH.nil)
  go_simp
  refine (HDo.out _ _ HF3.out.inv _ HP3.out).mono ?_
  rintro z w4 ⟨q, R4, rfl, he4⟩
  have HF4 := Lib.hid (HF3.out.trans he4)
  have hbx4 := (HF4.out.block w.heap.size (by simp) rfl).trans HB.out
  obtain ⟨z0, z1, z2, _⟩ := boxC_cells hbx4
  have hS4 : (fun w' : World => w'.cell? ⟨w.heap.size, 0, none⟩ = some (.int .i64 7) ∧ w'.cell? ⟨w.heap.size, 1, none⟩ = some (.int .i64 D) ∧ w'.cell? ⟨w.heap.size, 2, none⟩ = some (.int .i64 E)) w4 := ⟨z0, z1, z2⟩
  clear he4 hbx4
  go_simp
  refine hK.out _ _ hS4 (fun hHeld4 => ?_)
  clear hHeld3 z0 z1 z2
  refine wpAnyH_take (i := 3) (v := ?b3) rfl (by kernel_rfl) (by kernel_rfl) (by kernel_rfl) (fun _ _ _ h => h) (Or.inl ⟨by rfl, ?b3h⟩) (by assumption) ?_
  case b3h => (intro w' hSw; (try dsimp only at hSw); obtain ⟨s0, s1, s2⟩ := hSw; go_simp; try with_reducible rfl)
  try simp only [Act.put, List.setIfInBounds_toArray, List.set_cons_zero, List.set_cons_succ]
  refine wpAnyH_take (i := 4) (v := ?b4) rfl (by kernel_rfl) (by kernel_rfl) (by kernel_rfl) (fun _ _ _ h => h) (Or.inl ⟨by rfl, ?b4h⟩) (by assumption) ?_
  case b4h => (intro w' hSw; (try dsimp only at hSw); obtain ⟨s0, s1, s2⟩ := hSw; go_simp; try with_reducible rfl)
  try simp only [Act.put, List.setIfInBounds_toArray, List.set_cons_zero, List.set_cons_succ]
  refine wpAnyH_take (i := 5) (v := ?b5) rfl (by kernel_rfl) (by kernel_rfl) (by kernel_rfl) (fun _ _ _ h => h) (Or.inl ⟨by rfl, ?b5h⟩) (by assumption) ?_
  case b5h => (intro w' hSw; (try dsimp only at hSw); obtain ⟨s0, s1, s2⟩ := hSw; go_simp; try with_reducible rfl)
  try simp only [Act.put, List.setIfInBounds_toArray, List.set_cons_zero, List.set_cons_succ]
  refine wpAnyH_take (i := 6) (v := ?b6) rfl (by kernel_rfl) (by kernel_rfl) (by kernel_rfl) (fun _ _ _ h => h) (Or.inl ⟨by rfl, ?b6h⟩) (by assumption) ?_
  case b6h => (intro w' hSw; (try dsimp only at hSw); obtain ⟨s0, s1, s2⟩ := hSw; go_simp; try with_reducible rfl)
  try simp only [Act.put, List.setIfInBounds_toArray, List.set_cons_zero, List.set_cons_succ]
  refine wpAnyH_take (i := 7) (v := ?b7) rfl (by kernel_rfl) (by kernel_rfl) (by kernel_rfl) (fun _ _ _ h => h) (Or.inl ⟨by rfl, ?b7h⟩) (by assumption) ?_
  case b7h => (intro w' hSw; (try dsimp only at hSw); obtain ⟨s0, s1, s2⟩ := hSw; go_simp; try with_reducible rfl)
  try simp only [Act.put, List.setIfInBounds_toArray, List.set_cons_zero, List.set_cons_succ]
  refine wpAnyH_done (by kernel_rfl) ?_ _
  clear hHeld4
  go_wp2_with fail
  refine (HNm.out _).mono ?_
  rintro e w5 ⟨rfl, he5⟩
  have HF5 := Lib.hid (HF4.out.trans (he5 _ HF4.out.inv))
  clear he5 y0 y1 y2
  go_wp2_with fail
  go_ret
  exact ⟨by first | rfl | simp, R4, HE0.out.trans HF5.out⟩

set_option maxRecDepth 100000 in
set_option maxHeartbeats 4000000 in
theorem scriptNames_8 (w : World) (D E : Int) (hD : D < 9223372036854775808) : Calls Tryz.prog 6 #[.agg #[.int .i64 8, .int .i64 D, .int .i64 E]] w (RetTrue noReg w) := by
  have HA := Lib.hid (fun R' w' (hI : Inv R' w') => awake24_any R' w' hI)
  have HNl := Lib.hid (fun w' => sdo_nil w' 8 D E)
  have HSd := Lib.hid (fun R' w' (hI : Inv R' w') => seed_any R' w' hI)
  have hc15 := act_opt [0, 1] 0 ((0 : Nat) : Int) 8 D E (by omega)
  have HDo := Lib.hid (fun R' w' (hI : Inv R' w') p (hp : MapAt R' p [0, 1] 0 ((0 : Nat) : Int)) => act_two (sdo_any R' w' hI p [0, 1] 0 0 hp 8 D E hD (by omega)))
  obtain ⟨c, hc⟩ : ∃ c, actC [0, 1] 0 ((0 : Nat) : Int) 8 D E = c := ⟨_, rfl⟩
  rw [hc] at hc15 HDo
  have hcb : (c == 15) = false := beq_eq_false_iff_ne.2 hc15
  clear hc hc15
  have HNm := Lib.hid (fun w' => sname_any w' 8)
  rw [show nameV 8 = .string ⟨#[99, 117, 116]⟩ from rfl] at HNm
  have HE0 := Lib.hid (show Ev noReg w noReg (w.alloc (.cells #[.int .i64 8, .int .i64 D, .int .i64 E] 50)) from (Ev.refl (Inv.noReg w)).alloc _)
  have hbx := heap_alloc_new w (.cells #[.int .i64 8, .int .i64 D, .int .i64 E] 50)
  go_enter Tryz.func6, Tryz.ntmps6
  go_wp2_with fail
  refine (HA.out _ _ HE0.out.inv).mono ?_
  rintro e w1 ⟨rfl, R1, he1⟩
  have HE1 := Lib.hid (HE0.out.trans he1)
  have HF1 := Lib.hid he1
  have hbx1 := (he1.block w.heap.size (by simp) rfl).trans hbx
  obtain ⟨y0, y1, y2, _⟩ := boxC_cells hbx1
  have hlt : w.heap.size < w1.heap.size := lt_of_cell y0
  have HB := Lib.hid hbx
  have HEn := Lib.hid (show Ev R1 w1 R1 (w1.alloc (.cells #[.string ⟨#[108, 101, 97, 102]⟩, .string ⟨#[99, 104, 111, 114, 100]⟩, .string ⟨#[115, 112, 108, 105, 116]⟩, .string ⟨#[115, 116, 97, 114]⟩, .string ⟨#[102, 108, 105, 112]⟩, .string ⟨#[114, 111, 111, 116]⟩, .string ⟨#[100, 117, 97, 108]⟩, .string ⟨#[109, 105, 114, 114, 111, 114]⟩, .string ⟨#[99, 117, 116]⟩, .string ⟨#[115, 104, 114, 105, 110, 107]⟩, .string ⟨#[99, 97, 110, 111, 110]⟩] 9)) from (Ev.refl he1.inv).alloc _)
  clear hbx he1 hbx1
  go_wp2_with fail
  refine (HNl.out _).mono ?_
  rintro e w2 ⟨rfl, he2⟩
  have HF2 := Lib.hid (HF1.out.trans (HEn.out.trans (he2 _ HEn.out.inv)))
  clear y0 y1 y2 hlt he2
  have hbx2 := (HF2.out.block w.heap.size (by simp) rfl).trans HB.out
  obtain ⟨y0, y1, y2, _⟩ := boxC_cells hbx2
  have HEd := Lib.hid ((Ev.refl HF2.out.inv).drew)
  clear hbx2
  go_wp2_with fail
  refine wp_region_held_drew (S := (fun w' : World => w'.cell? ⟨w.heap.size, 0, none⟩ = some (.int .i64 8) ∧ w'.cell? ⟨w.heap.size, 1, none⟩ = some (.int .i64 D) ∧ w'.cell? ⟨w.heap.size, 2, none⟩ = some (.int .i64 E))) (by kernel_rfl) ⟨y0, y1, y2⟩ (fun hHeld => ?_)
  refine wpAnyH_take (i := 1) (v := ?a1) rfl (by kernel_rfl) (by kernel_rfl) (by kernel_rfl) (fun _ _ _ h => h) (Or.inl ⟨by rfl, ?a1h⟩) (by assumption) ?_
  case a1h => (intro w' hSw; (try dsimp only at hSw); obtain ⟨s0, s1, s2⟩ := hSw; go_simp; try with_reducible rfl)
  try simp only [Act.put, List.setIfInBounds_toArray, List.set_cons_zero, List.set_cons_succ]
  refine wpAnyH_ready (rs := [0]) (by kernel_rfl) (by simp) (AllReadyH.cons rfl (fun K hK => ?_) AllReadyH.nil)
  go_simp
  refine (HSd.out _ _ HEd.out.inv).mono ?_
  rintro z w3 ⟨p, R3, rfl, he3, hp3⟩
  have HF3 := Lib.hid ((HF2.out.trans HEd.out).trans he3)
  have HP3 := Lib.hid hp3
  clear hp3
  have hbx3 := (HF3.out.block w.heap.size (by simp) rfl).trans HB.out
  obtain ⟨z0, z1, z2, _⟩ := boxC_cells hbx3
  have hS3 : (fun w' : World => w'.cell? ⟨w.heap.size, 0, none⟩ = some (.int .i64 8) ∧ w'.cell? ⟨w.heap.size, 1, none⟩ = some (.int .i64 D) ∧ w'.cell? ⟨w.heap.size, 2, none⟩ = some (.int .i64 E)) w3 := ⟨z0, z1, z2⟩
  clear he3 hbx3
  go_simp
  refine hK.out _ _ hS3 (fun hHeld3 => ?_)
  clear hHeld z0 z1 z2
  refine wpAnyH_ready (rs := [2]) (by kernel_rfl) (by simp) (AllReadyH.cons rfl (fun K hK => ?_) AllReadyH.nil)
  go_simp
  refine (HDo.out _ _ HF3.out.inv _ HP3.out).mono ?_
  rintro z w4 ⟨q, R4, rfl, he4⟩
  have HF4 := Lib.hid (HF3.out.trans he4)
  have hbx4 := (HF4.out.block w.heap.size (by simp) rfl).trans HB.out
  obtain ⟨z0, z1, z2, _⟩ := boxC_cells hbx4
  have hS4 : (fun w' : World => w'.cell? ⟨w.heap.size, 0, none⟩ = some (.int .i64 8) ∧ w'.cell? ⟨w.heap.size, 1, none⟩ = some (.int .i64 D) ∧ w'.cell? ⟨w.heap.size, 2, none⟩ = some (.int .i64 E)) w4 := ⟨z0, z1, z2⟩
  clear he4 hbx4
  go_simp
  refine hK.out _ _ hS4 (fun hHeld4 => ?_)
  clear hHeld3 z0 z1 z2
  refine wpAnyH_take (i := 3) (v := ?b3) rfl (by kernel_rfl) (by kernel_rfl) (by kernel_rfl) (fun _ _ _ h => h) (Or.inl ⟨by rfl, ?b3h⟩) (by assumption) ?_
  case b3h => (intro w' hSw; (try dsimp only at hSw); obtain ⟨s0, s1, s2⟩ := hSw; go_simp; try with_reducible rfl)
  try simp only [Act.put, List.setIfInBounds_toArray, List.set_cons_zero, List.set_cons_succ]
  refine wpAnyH_take (i := 4) (v := ?b4) rfl (by kernel_rfl) (by kernel_rfl) (by kernel_rfl) (fun _ _ _ h => h) (Or.inl ⟨by rfl, ?b4h⟩) (by assumption) ?_
  case b4h => (intro w' hSw; (try dsimp only at hSw); obtain ⟨s0, s1, s2⟩ := hSw; go_simp; try with_reducible rfl)
  try simp only [Act.put, List.setIfInBounds_toArray, List.set_cons_zero, List.set_cons_succ]
  refine wpAnyH_take (i := 5) (v := ?b5) rfl (by kernel_rfl) (by kernel_rfl) (by kernel_rfl) (fun _ _ _ h => h) (Or.inl ⟨by rfl, ?b5h⟩) (by assumption) ?_
  case b5h => (intro w' hSw; (try dsimp only at hSw); obtain ⟨s0, s1, s2⟩ := hSw; go_simp; try with_reducible rfl)
  try simp only [Act.put, List.setIfInBounds_toArray, List.set_cons_zero, List.set_cons_succ]
  refine wpAnyH_take (i := 6) (v := ?b6) rfl (by kernel_rfl) (by kernel_rfl) (by kernel_rfl) (fun _ _ _ h => h) (Or.inl ⟨by rfl, ?b6h⟩) (by assumption) ?_
  case b6h => (intro w' hSw; (try dsimp only at hSw); obtain ⟨s0, s1, s2⟩ := hSw; go_simp; try with_reducible rfl)
  try simp only [Act.put, List.setIfInBounds_toArray, List.set_cons_zero, List.set_cons_succ]
  refine wpAnyH_take (i := 7) (v := ?b7) rfl (by kernel_rfl) (by kernel_rfl) (by kernel_rfl) (fun _ _ _ h => h) (Or.inl ⟨by rfl, ?b7h⟩) (by assumption) ?_
  case b7h => (intro w' hSw; (try dsimp only at hSw); obtain ⟨s0, s1, s2⟩ := hSw; go_simp; try with_reducible rfl)
  try simp only [Act.put, List.setIfInBounds_toArray, List.set_cons_zero, List.set_cons_succ]
  refine wpAnyH_done (by kernel_rfl) ?_ _
  clear hHeld4
  go_wp2_with fail
  refine (HNm.out _).mono ?_
  rintro e w5 ⟨rfl, he5⟩
  have HF5 := Lib.hid (HF4.out.trans (he5 _ HF4.out.inv))
  clear he5 y0 y1 y2
  go_wp2_with fail
  go_ret
  exact ⟨by first | rfl | simp, R4, HE0.out.trans HF5.out⟩

set_option maxRecDepth 100000 in
set_option maxHeartbeats 4000000 in
theorem scriptNames_9 (w : World) (D E : Int) (hD : D < 9223372036854775808) : Calls Tryz.prog 6 #[.agg #[.int .i64 9, .int .i64 D, .int .i64 E]] w (RetTrue noReg w) := by
  have HA := Lib.hid (fun R' w' (hI : Inv R' w') => awake24_any R' w' hI)
  have HNl := Lib.hid (fun w' => sdo_nil w' 9 D E)
  have HSd := Lib.hid (fun R' w' (hI : Inv R' w') => seed_any R' w' hI)
  have hc15 := act_opt [0, 1] 0 ((0 : Nat) : Int) 9 D E (by omega)
  have HDo := Lib.hid (fun R' w' (hI : Inv R' w') p (hp : MapAt R' p [0, 1] 0 ((0 : Nat) : Int)) => act_two (sdo_any R' w' hI p [0, 1] 0 0 hp 9 D E hD (by omega)))
  obtain ⟨c, hc⟩ : ∃ c, actC [0, 1] 0 ((0 : Nat) : Int) 9 D E = c := ⟨_, rfl⟩
  rw [hc] at hc15 HDo
  have hcb : (c == 15) = false := beq_eq_false_iff_ne.2 hc15
  clear hc hc15
  have HNm := Lib.hid (fun w' => sname_any w' 9)
  rw [show nameV 9 = .string ⟨#[115, 104, 114, 105, 110, 107]⟩ from rfl] at HNm
  have HE0 := Lib.hid (show Ev noReg w noReg (w.alloc (.cells #[.int .i64 9, .int .i64 D, .int .i64 E] 50)) from (Ev.refl (Inv.noReg w)).alloc _)
  have hbx := heap_alloc_new w (.cells #[.int .i64 9, .int .i64 D, .int .i64 E] 50)
  go_enter Tryz.func6, Tryz.ntmps6
  go_wp2_with fail
  refine (HA.out _ _ HE0.out.inv).mono ?_
  rintro e w1 ⟨rfl, R1, he1⟩
  have HE1 := Lib.hid (HE0.out.trans he1)
  have HF1 := Lib.hid he1
  have hbx1 := (he1.block w.heap.size (by simp) rfl).trans hbx
  obtain ⟨y0, y1, y2, _⟩ := boxC_cells hbx1
  have hlt : w.heap.size < w1.heap.size := lt_of_cell y0
  have HB := Lib.hid hbx
  have HEn := Lib.hid (show Ev R1 w1 R1 (w1.alloc (.cells #[.string ⟨#[108, 101, 97, 102]⟩, .string ⟨#[99, 104, 111, 114, 100]⟩, .string ⟨#[115, 112, 108, 105, 116]⟩, .string ⟨#[115, 116, 97, 114]⟩, .string ⟨#[102, 108, 105, 112]⟩, .string ⟨#[114, 111, 111, 116]⟩, .string ⟨#[100, 117, 97, 108]⟩, .string ⟨#[109, 105, 114, 114, 111, 114]⟩, .string ⟨#[99, 117, 116]⟩, .string ⟨#[115, 104, 114, 105, 110, 107]⟩, .string ⟨#[99, 97, 110, 111, 110]⟩] 9)) from (Ev.refl he1.inv).alloc _)
  clear hbx he1 hbx1
  go_wp2_with fail
  refine (HNl.out _).mono ?_
  rintro e w2 ⟨rfl, he2⟩
  have HF2 := Lib.hid (HF1.out.trans (HEn.out.trans (he2 _ HEn.out.inv)))
  clear y0 y1 y2 hlt he2
  have hbx2 := (HF2.out.block w.heap.size (by simp) rfl).trans HB.out
  obtain ⟨y0, y1, y2, _⟩ := boxC_cells hbx2
  have HEd := Lib.hid ((Ev.refl HF2.out.inv).drew)
  clear hbx2
  go_wp2_with fail
  refine wp_region_held_drew (S := (fun w' : World => w'.cell? ⟨w.heap.size, 0, none⟩ = some (.int .i64 9) ∧ w'.cell? ⟨w.heap.size, 1, none⟩ = some (.int .i64 D) ∧ w'.cell? ⟨w.heap.size, 2, none⟩ = some (.int .i64 E))) (by kernel_rfl) ⟨y0, y1, y2⟩ (fun hHeld => ?_)
  refine wpAnyH_take (i := 1) (v := ?a1) rfl (by kernel_rfl) (by kernel_rfl) (by kernel_rfl) (fun _ _ _ h => h) (Or.inl ⟨by rfl, ?a1h⟩) (by assumption) ?_
  case a1h => (intro w' hSw; (try dsimp only at hSw); obtain ⟨s0, s1, s2⟩ := hSw; go_simp; try with_reducible rfl)
  try simp only [Act.put, List.setIfInBounds_toArray, List.set_cons_zero, List.set_cons_succ]
  refine wpAnyH_ready (rs := [0]) (by kernel_rfl) (by simp) (AllReadyH.cons rfl (fun K hK => ?_) AllReadyH.nil)
  go_simp
  refine (HSd.out _ _ HEd.out.inv).mono ?_
  rintro z w3 ⟨p, R3, rfl, he3, hp3⟩
  have HF3 := Lib.hid ((HF2.out.trans HEd.out).trans he3)
  have HP3 := Lib.hid hp3
  clear hp3
  have hbx3 := (HF3.out.block w.heap.size (by simp) rfl).trans HB.out
  obtain ⟨z0, z1, z2, _⟩ := boxC_cells hbx3
  have hS3 : (fun w' : World => w'.cell? ⟨w.heap.size, 0, none⟩ = some (.int .i64 9) ∧ w'.cell? ⟨w.heap.size, 1, none⟩ = some (.int .i64 D) ∧ w'.cell? ⟨w.heap.size, 2, none⟩ = some (.int .i64 E)) w3 := ⟨z0, z1, z2⟩
  clear he3 hbx3
  go_simp
  refine hK.out _ _ hS3 (fun hHeld3 => ?_)
  clear hHeld z0 z1 z2
  refine wpAnyH_ready (rs := [2]) (by kernel_rfl) (by simp) (AllReadyH.cons rfl (fun K hK => ?_) AllReadyH.nil)
  go_simp
  refine (HDo.out _ _ HF3.out.inv _ HP3.out).mono ?_
  rintro z w4 ⟨q, R4, rfl, he4⟩
  have HF4 := Lib.hid (HF3.out.trans he4)
  have hbx4 := (HF4.out.block w.heap.size (by simp) rfl).trans HB.out
  obtain ⟨z0, z1, z2, _⟩ := boxC_cells hbx4
  have hS4 : (fun w' : World => w'.cell? ⟨w.heap.size, 0, none⟩ = some (.int .i64 9) ∧ w'.cell? ⟨w.heap.size, 1, none⟩ = some (.int .i64 D) ∧ w'.cell? ⟨w.heap.size, 2, none⟩ = some (.int .i64 E)) w4 := ⟨z0, z1, z2⟩
  clear he4 hbx4
  go_simp
  refine hK.out _ _ hS4 (fun hHeld4 => ?_)
  clear hHeld3 z0 z1 z2
  refine wpAnyH_take (i := 3) (v := ?b3) rfl (by kernel_rfl) (by kernel_rfl) (by kernel_rfl) (fun _ _ _ h => h) (Or.inl ⟨by rfl, ?b3h⟩) (by assumption) ?_
  case b3h => (intro w' hSw; (try dsimp only at hSw); obtain ⟨s0, s1, s2⟩ := hSw; go_simp; try with_reducible rfl)
  try simp only [Act.put, List.setIfInBounds_toArray, List.set_cons_zero, List.set_cons_succ]
  refine wpAnyH_take (i := 4) (v := ?b4) rfl (by kernel_rfl) (by kernel_rfl) (by kernel_rfl) (fun _ _ _ h => h) (Or.inl ⟨by rfl, ?b4h⟩) (by assumption) ?_
  case b4h => (intro w' hSw; (try dsimp only at hSw); obtain ⟨s0, s1, s2⟩ := hSw; go_simp; try with_reducible rfl)
  try simp only [Act.put, List.setIfInBounds_toArray, List.set_cons_zero, List.set_cons_succ]
  refine wpAnyH_take (i := 5) (v := ?b5) rfl (by kernel_rfl) (by kernel_rfl) (by kernel_rfl) (fun _ _ _ h => h) (Or.inl ⟨by rfl, ?b5h⟩) (by assumption) ?_
  case b5h => (intro w' hSw; (try dsimp only at hSw); obtain ⟨s0, s1, s2⟩ := hSw; go_simp; try with_reducible rfl)
  try simp only [Act.put, List.setIfInBounds_toArray, List.set_cons_zero, List.set_cons_succ]
  refine wpAnyH_take (i := 6) (v := ?b6) rfl (by kernel_rfl) (by kernel_rfl) (by kernel_rfl) (fun _ _ _ h => h) (Or.inl ⟨by rfl, ?b6h⟩) (by assumption) ?_
  case b6h => (intro w' hSw; (try dsimp only at hSw); obtain ⟨s0, s1, s2⟩ := hSw; go_simp; try with_reducible rfl)
  try simp only [Act.put, List.setIfInBounds_toArray, List.set_cons_zero, List.set_cons_succ]
  refine wpAnyH_take (i := 7) (v := ?b7) rfl (by kernel_rfl) (by kernel_rfl) (by kernel_rfl) (fun _ _ _ h => h) (Or.inl ⟨by rfl, ?b7h⟩) (by assumption) ?_
  case b7h => (intro w' hSw; (try dsimp only at hSw); obtain ⟨s0, s1, s2⟩ := hSw; go_simp; try with_reducible rfl)
  try simp only [Act.put, List.setIfInBounds_toArray, List.set_cons_zero, List.set_cons_succ]
  refine wpAnyH_done (by kernel_rfl) ?_ _
  clear hHeld4
  go_wp2_with fail
  refine (HNm.out _).mono ?_
  rintro e w5 ⟨rfl, he5⟩
  have HF5 := Lib.hid (HF4.out.trans (he5 _ HF4.out.inv))
  clear he5 y0 y1 y2
  go_wp2_with fail
  go_ret
  exact ⟨by first | rfl | simp, R4, HE0.out.trans HF5.out⟩

set_option maxRecDepth 100000 in
set_option maxHeartbeats 4000000 in
theorem scriptNames_10 (w : World) (D E : Int) (hD : D < 9223372036854775808) : Calls Tryz.prog 6 #[.agg #[.int .i64 10, .int .i64 D, .int .i64 E]] w (RetTrue noReg w) := by
  have HA := Lib.hid (fun R' w' (hI : Inv R' w') => awake24_any R' w' hI)
  have HNl := Lib.hid (fun w' => sdo_nil w' 10 D E)
  have HSd := Lib.hid (fun R' w' (hI : Inv R' w') => seed_any R' w' hI)
  have hc15 := act_opt [0, 1] 0 ((0 : Nat) : Int) 10 D E (by omega)
  have HDo := Lib.hid (fun R' w' (hI : Inv R' w') p (hp : MapAt R' p [0, 1] 0 ((0 : Nat) : Int)) => act_two (sdo_any R' w' hI p [0, 1] 0 0 hp 10 D E hD (by omega)))
  obtain ⟨c, hc⟩ : ∃ c, actC [0, 1] 0 ((0 : Nat) : Int) 10 D E = c := ⟨_, rfl⟩
  rw [hc] at hc15 HDo
  have hcb : (c == 15) = false := beq_eq_false_iff_ne.2 hc15
  clear hc hc15
  have HNm := Lib.hid (fun w' => sname_any w' 10)
  rw [show nameV 10 = .string ⟨#[99, 97, 110, 111, 110]⟩ from rfl] at HNm
  have HE0 := Lib.hid (show Ev noReg w noReg (w.alloc (.cells #[.int .i64 10, .int .i64 D, .int .i64 E] 50)) from (Ev.refl (Inv.noReg w)).alloc _)
  have hbx := heap_alloc_new w (.cells #[.int .i64 10, .int .i64 D, .int .i64 E] 50)
  go_enter Tryz.func6, Tryz.ntmps6
  go_wp2_with fail
  refine (HA.out _ _ HE0.out.inv).mono ?_
  rintro e w1 ⟨rfl, R1, he1⟩
  have HE1 := Lib.hid (HE0.out.trans he1)
  have HF1 := Lib.hid he1
  have hbx1 := (he1.block w.heap.size (by simp) rfl).trans hbx
  obtain ⟨y0, y1, y2, _⟩ := boxC_cells hbx1
  have hlt : w.heap.size < w1.heap.size := lt_of_cell y0
  have HB := Lib.hid hbx
  have HEn := Lib.hid (show Ev R1 w1 R1 (w1.alloc (.cells #[.string ⟨#[108, 101, 97, 102]⟩, .string ⟨#[99, 104, 111, 114, 100]⟩, .string ⟨#[115, 112, 108, 105, 116]⟩, .string ⟨#[115, 116, 97, 114]⟩, .string ⟨#[102, 108, 105, 112]⟩, .string ⟨#[114, 111, 111, 116]⟩, .string ⟨#[100, 117, 97, 108]⟩, .string ⟨#[109, 105, 114, 114, 111, 114]⟩, .string ⟨#[99, 117, 116]⟩, .string ⟨#[115, 104, 114, 105, 110, 107]⟩, .string ⟨#[99, 97, 110, 111, 110]⟩] 9)) from (Ev.refl he1.inv).alloc _)
  clear hbx he1 hbx1
  go_wp2_with fail
  refine (HNl.out _).mono ?_
  rintro e w2 ⟨rfl, he2⟩
  have HF2 := Lib.hid (HF1.out.trans (HEn.out.trans (he2 _ HEn.out.inv)))
  clear y0 y1 y2 hlt he2
  have hbx2 := (HF2.out.block w.heap.size (by simp) rfl).trans HB.out
  obtain ⟨y0, y1, y2, _⟩ := boxC_cells hbx2
  have HEd := Lib.hid ((Ev.refl HF2.out.inv).drew)
  clear hbx2
  go_wp2_with fail
  refine wp_region_held_drew (S := (fun w' : World => w'.cell? ⟨w.heap.size, 0, none⟩ = some (.int .i64 10) ∧ w'.cell? ⟨w.heap.size, 1, none⟩ = some (.int .i64 D) ∧ w'.cell? ⟨w.heap.size, 2, none⟩ = some (.int .i64 E))) (by kernel_rfl) ⟨y0, y1, y2⟩ (fun hHeld => ?_)
  refine wpAnyH_take (i := 1) (v := ?a1) rfl (by kernel_rfl) (by kernel_rfl) (by kernel_rfl) (fun _ _ _ h => h) (Or.inl ⟨by rfl, ?a1h⟩) (by assumption) ?_
  case a1h => (intro w' hSw; (try dsimp only at hSw); obtain ⟨s0, s1, s2⟩ := hSw; go_simp; try with_reducible rfl)
  try simp only [Act.put, List.setIfInBounds_toArray, List.set_cons_zero, List.set_cons_succ]
  refine wpAnyH_ready (rs := [0]) (by kernel_rfl) (by simp) (AllReadyH.cons rfl (fun K hK => ?_) AllReadyH.nil)
  go_simp
  refine (HSd.out _ _ HEd.out.inv).mono ?_
  rintro z w3 ⟨p, R3, rfl, he3, hp3⟩
  have HF3 := Lib.hid ((HF2.out.trans HEd.out).trans he3)
  have HP3 := Lib.hid hp3
  clear hp3
  have hbx3 := (HF3.out.block w.heap.size (by simp) rfl).trans HB.out
  obtain ⟨z0, z1, z2, _⟩ := boxC_cells hbx3
  have hS3 : (fun w' : World => w'.cell? ⟨w.heap.size, 0, none⟩ = some (.int .i64 10) ∧ w'.cell? ⟨w.heap.size, 1, none⟩ = some (.int .i64 D) ∧ w'.cell? ⟨w.heap.size, 2, none⟩ = some (.int .i64 E)) w3 := ⟨z0, z1, z2⟩
  clear he3 hbx3
  go_simp
  refine hK.out _ _ hS3 (fun hHeld3 => ?_)
  clear hHeld z0 z1 z2
  refine wpAnyH_ready (rs := [2]) (by kernel_rfl) (by simp) (AllReadyH.cons rfl (fun K hK => ?_) AllReadyH.nil)
  go_simp
  refine (HDo.out _ _ HF3.out.inv _ HP3.out).mono ?_
  rintro z w4 ⟨q, R4, rfl, he4⟩
  have HF4 := Lib.hid (HF3.out.trans he4)
  have hbx4 := (HF4.out.block w.heap.size (by simp) rfl).trans HB.out
  obtain ⟨z0, z1, z2, _⟩ := boxC_cells hbx4
  have hS4 : (fun w' : World => w'.cell? ⟨w.heap.size, 0, none⟩ = some (.int .i64 10) ∧ w'.cell? ⟨w.heap.size, 1, none⟩ = some (.int .i64 D) ∧ w'.cell? ⟨w.heap.size, 2, none⟩ = some (.int .i64 E)) w4 := ⟨z0, z1, z2⟩
  clear he4 hbx4
  go_simp
  refine hK.out _ _ hS4 (fun hHeld4 => ?_)
  clear hHeld3 z0 z1 z2
  refine wpAnyH_take (i := 3) (v := ?b3) rfl (by kernel_rfl) (by kernel_rfl) (by kernel_rfl) (fun _ _ _ h => h) (Or.inl ⟨by rfl, ?b3h⟩) (by assumption) ?_
  case b3h => (intro w' hSw; (try dsimp only at hSw); obtain ⟨s0, s1, s2⟩ := hSw; go_simp; try with_reducible rfl)
  try simp only [Act.put, List.setIfInBounds_toArray, List.set_cons_zero, List.set_cons_succ]
  refine wpAnyH_take (i := 4) (v := ?b4) rfl (by kernel_rfl) (by kernel_rfl) (by kernel_rfl) (fun _ _ _ h => h) (Or.inl ⟨by rfl, ?b4h⟩) (by assumption) ?_
  case b4h => (intro w' hSw; (try dsimp only at hSw); obtain ⟨s0, s1, s2⟩ := hSw; go_simp; try with_reducible rfl)
  try simp only [Act.put, List.setIfInBounds_toArray, List.set_cons_zero, List.set_cons_succ]
  refine wpAnyH_take (i := 5) (v := ?b5) rfl (by kernel_rfl) (by kernel_rfl) (by kernel_rfl) (fun _ _ _ h => h) (Or.inl ⟨by rfl, ?b5h⟩) (by assumption) ?_
  case b5h => (intro w' hSw; (try dsimp only at hSw); obtain ⟨s0, s1, s2⟩ := hSw; go_simp; try with_reducible rfl)
  try simp only [Act.put, List.setIfInBounds_toArray, List.set_cons_zero, List.set_cons_succ]
  refine wpAnyH_take (i := 6) (v := ?b6) rfl (by kernel_rfl) (by kernel_rfl) (by kernel_rfl) (fun _ _ _ h => h) (Or.inl ⟨by rfl, ?b6h⟩) (by assumption) ?_
  case b6h => (intro w' hSw; (try dsimp only at hSw); obtain ⟨s0, s1, s2⟩ := hSw; go_simp; try with_reducible rfl)
  try simp only [Act.put, List.setIfInBounds_toArray, List.set_cons_zero, List.set_cons_succ]
  refine wpAnyH_take (i := 7) (v := ?b7) rfl (by kernel_rfl) (by kernel_rfl) (by kernel_rfl) (fun _ _ _ h => h) (Or.inl ⟨by rfl, ?b7h⟩) (by assumption) ?_
  case b7h => (intro w' hSw; (try dsimp only at hSw); obtain ⟨s0, s1, s2⟩ := hSw; go_simp; try with_reducible rfl)
  try simp only [Act.put, List.setIfInBounds_toArray, List.set_cons_zero, List.set_cons_succ]
  refine wpAnyH_done (by kernel_rfl) ?_ _
  clear hHeld4
  go_wp2_with fail
  refine (HNm.out _).mono ?_
  rintro e w5 ⟨rfl, he5⟩
  have HF5 := Lib.hid (HF4.out.trans (he5 _ HF4.out.inv))
  clear he5 y0 y1 y2
  go_wp2_with fail
  go_ret
  exact ⟨by first | rfl | simp, R4, HE0.out.trans HF5.out⟩

set_option maxRecDepth 100000 in
set_option maxHeartbeats 4000000 in
theorem scriptNames_lo (w : World) (k : Int) (hk : k < 0) (D E : Int) (hD : D < 9223372036854775808) : Calls Tryz.prog 6 #[.agg #[.int .i64 k, .int .i64 D, .int .i64 E]] w (RetTrue noReg w) := by
  have HA := Lib.hid (fun R' w' (hI : Inv R' w') => awake24_any R' w' hI)
  have HNl := Lib.hid (fun w' => sdo_nil w' k D E)
  have HSd := Lib.hid (fun R' w' (hI : Inv R' w') => seed_any R' w' hI)
  have hcc : actC [0, 1] 0 ((0 : Nat) : Int) k D E = 15 := by unfold actC; rw [if_pos (by omega)]
  have HDo := Lib.hid (fun R' w' (hI : Inv R' w') p (hp : MapAt R' p [0, 1] 0 ((0 : Nat) : Int)) => act_two (sdo_any R' w' hI p [0, 1] 0 0 hp k D E hD (by omega)))
  rw [hcc] at HDo
  clear hcc
  have HNm := Lib.hid (fun w' => sname_any w' k)
  rw [show nameV k = .string ⟨#[]⟩ by unfold nameV; rw [if_pos (by omega)]] at HNm
  have HE0 := Lib.hid (show Ev noReg w noReg (w.alloc (.cells #[.int .i64 k, .int .i64 D, .int .i64 E] 50)) from (Ev.refl (Inv.noReg w)).alloc _)
  have hbx := heap_alloc_new w (.cells #[.int .i64 k, .int .i64 D, .int .i64 E] 50)
  go_enter Tryz.func6, Tryz.ntmps6
  go_wp2_with fail
  refine (HA.out _ _ HE0.out.inv).mono ?_
  rintro e w1 ⟨rfl, R1, he1⟩
  have HE1 := Lib.hid (HE0.out.trans he1)
  have HF1 := Lib.hid he1
  have hbx1 := (he1.block w.heap.size (by simp) rfl).trans hbx
  obtain ⟨y0, y1, y2, _⟩ := boxC_cells hbx1
  have hlt : w.heap.size < w1.heap.size := lt_of_cell y0
  have HB := Lib.hid hbx
  have HEn := Lib.hid (show Ev R1 w1 R1 (w1.alloc (.cells #[.string ⟨#[108, 101, 97, 102]⟩, .string ⟨#[99, 104, 111, 114, 100]⟩, .string ⟨#[115, 112, 108, 105, 116]⟩, .string ⟨#[115, 116, 97, 114]⟩, .string ⟨#[102, 108, 105, 112]⟩, .string ⟨#[114, 111, 111, 116]⟩, .string ⟨#[100, 117, 97, 108]⟩, .string ⟨#[109, 105, 114, 114, 111, 114]⟩, .string ⟨#[99, 117, 116]⟩, .string ⟨#[115, 104, 114, 105, 110, 107]⟩, .string ⟨#[99, 97, 110, 111, 110]⟩] 9)) from (Ev.refl he1.inv).alloc _)
  clear hbx he1 hbx1
  go_wp2_with fail
  refine (HNl.out _).mono ?_
  rintro e w2 ⟨rfl, he2⟩
  have HF2 := Lib.hid (HF1.out.trans (HEn.out.trans (he2 _ HEn.out.inv)))
  clear y0 y1 y2 hlt he2
  have hbx2 := (HF2.out.block w.heap.size (by simp) rfl).trans HB.out
  obtain ⟨y0, y1, y2, _⟩ := boxC_cells hbx2
  have HEd := Lib.hid ((Ev.refl HF2.out.inv).drew)
  clear hbx2
  go_wp2_with fail
  refine wp_region_held_drew (S := (fun w' : World => w'.cell? ⟨w.heap.size, 0, none⟩ = some (.int .i64 k) ∧ w'.cell? ⟨w.heap.size, 1, none⟩ = some (.int .i64 D) ∧ w'.cell? ⟨w.heap.size, 2, none⟩ = some (.int .i64 E))) (by kernel_rfl) ⟨y0, y1, y2⟩ (fun hHeld => ?_)
  refine wpAnyH_take (i := 1) (v := ?a1) rfl (by kernel_rfl) (by kernel_rfl) (by kernel_rfl) (fun _ _ _ h => h) (Or.inl ⟨by rfl, ?a1h⟩) (by assumption) ?_
  case a1h => (intro w' hSw; (try dsimp only at hSw); obtain ⟨s0, s1, s2⟩ := hSw; go_simp; try with_reducible rfl)
  try simp only [Act.put, List.setIfInBounds_toArray, List.set_cons_zero, List.set_cons_succ]
  refine wpAnyH_ready (rs := [0]) (by kernel_rfl) (by simp) (AllReadyH.cons rfl (fun K hK => ?_) AllReadyH.nil)
  go_simp
  refine (HSd.out _ _ HEd.out.inv).mono ?_
  rintro z w3 ⟨p, R3, rfl, he3, hp3⟩
  have HF3 := Lib.hid ((HF2.out.trans HEd.out).trans he3)
  have HP3 := Lib.hid hp3
  clear hp3
  have hbx3 := (HF3.out.block w.heap.size (by simp) rfl).trans HB.out
  obtain ⟨z0, z1, z2, _⟩ := boxC_cells hbx3
  have hS3 : (fun w' : World => w'.cell? ⟨w.heap.size, 0, none⟩ = some (.int .i64 k) ∧ w'.cell? ⟨w.heap.size, 1, none⟩ = some (.int .i64 D) ∧ w'.cell? ⟨w.heap.size, 2, none⟩ = some (.int .i64 E)) w3 := ⟨z0, z1, z2⟩
  clear he3 hbx3
  go_simp
  refine hK.out _ _ hS3 (fun hHeld3 => ?_)
  clear hHeld z0 z1 z2
  refine wpAnyH_ready (rs := [2]) (by kernel_rfl) (by simp) (AllReadyH.cons rfl (fun K hK => ?_) AllReadyH.nil)
  go_simp
  refine (HDo.out _ _ HF3.out.inv _ HP3.out).mono ?_
  rintro z w4 ⟨q, R4, rfl, he4⟩
  have HF4 := Lib.hid (HF3.out.trans he4)
  have hbx4 := (HF4.out.block w.heap.size (by simp) rfl).trans HB.out
  obtain ⟨z0, z1, z2, _⟩ := boxC_cells hbx4
  have hS4 : (fun w' : World => w'.cell? ⟨w.heap.size, 0, none⟩ = some (.int .i64 k) ∧ w'.cell? ⟨w.heap.size, 1, none⟩ = some (.int .i64 D) ∧ w'.cell? ⟨w.heap.size, 2, none⟩ = some (.int .i64 E)) w4 := ⟨z0, z1, z2⟩
  clear he4 hbx4
  go_simp
  refine hK.out _ _ hS4 (fun hHeld4 => ?_)
  clear hHeld3 z0 z1 z2
  refine wpAnyH_take (i := 3) (v := ?b3) rfl (by kernel_rfl) (by kernel_rfl) (by kernel_rfl) (fun _ _ _ h => h) (Or.inl ⟨by rfl, ?b3h⟩) (by assumption) ?_
  case b3h => (intro w' hSw; (try dsimp only at hSw); obtain ⟨s0, s1, s2⟩ := hSw; go_simp; try with_reducible rfl)
  try simp only [Act.put, List.setIfInBounds_toArray, List.set_cons_zero, List.set_cons_succ]
  refine wpAnyH_take (i := 4) (v := ?b4) rfl (by kernel_rfl) (by kernel_rfl) (by kernel_rfl) (fun _ _ _ h => h) (Or.inl ⟨by rfl, ?b4h⟩) (by assumption) ?_
  case b4h => (intro w' hSw; (try dsimp only at hSw); obtain ⟨s0, s1, s2⟩ := hSw; go_simp; try with_reducible rfl)
  try simp only [Act.put, List.setIfInBounds_toArray, List.set_cons_zero, List.set_cons_succ]
  refine wpAnyH_take (i := 5) (v := ?b5) rfl (by kernel_rfl) (by kernel_rfl) (by kernel_rfl) (fun _ _ _ h => h) (Or.inl ⟨by rfl, ?b5h⟩) (by assumption) ?_
  case b5h => (intro w' hSw; (try dsimp only at hSw); obtain ⟨s0, s1, s2⟩ := hSw; go_simp; try with_reducible rfl)
  try simp only [Act.put, List.setIfInBounds_toArray, List.set_cons_zero, List.set_cons_succ]
  refine wpAnyH_take (i := 6) (v := ?b6) rfl (by kernel_rfl) (by kernel_rfl) (by kernel_rfl) (fun _ _ _ h => h) (Or.inl ⟨by rfl, ?b6h⟩) (by assumption) ?_
  case b6h => (intro w' hSw; (try dsimp only at hSw); obtain ⟨s0, s1, s2⟩ := hSw; go_simp; try with_reducible rfl)
  try simp only [Act.put, List.setIfInBounds_toArray, List.set_cons_zero, List.set_cons_succ]
  refine wpAnyH_take (i := 7) (v := ?b7) rfl (by kernel_rfl) (by kernel_rfl) (by kernel_rfl) (fun _ _ _ h => h) (Or.inl ⟨by rfl, ?b7h⟩) (by assumption) ?_
  case b7h => (intro w' hSw; (try dsimp only at hSw); obtain ⟨s0, s1, s2⟩ := hSw; go_simp; try with_reducible rfl)
  try simp only [Act.put, List.setIfInBounds_toArray, List.set_cons_zero, List.set_cons_succ]
  refine wpAnyH_done (by kernel_rfl) ?_ _
  clear hHeld4
  go_wp2_with fail
  refine (HNm.out _).mono ?_
  rintro e w5 ⟨rfl, he5⟩
  have HF5 := Lib.hid (HF4.out.trans (he5 _ HF4.out.inv))
  clear he5 y0 y1 y2
  go_wp2_with fail
  go_ret
  exact ⟨by first | rfl | simp, R4, HE0.out.trans HF5.out⟩

set_option maxRecDepth 100000 in
set_option maxHeartbeats 4000000 in
theorem scriptNames_hi (w : World) (k : Int) (hk : 11 ≤ k) (D E : Int) (hD : D < 9223372036854775808) : Calls Tryz.prog 6 #[.agg #[.int .i64 k, .int .i64 D, .int .i64 E]] w (RetTrue noReg w) := by
  have HA := Lib.hid (fun R' w' (hI : Inv R' w') => awake24_any R' w' hI)
  have HNl := Lib.hid (fun w' => sdo_nil w' k D E)
  have HSd := Lib.hid (fun R' w' (hI : Inv R' w') => seed_any R' w' hI)
  have hcc : actC [0, 1] 0 ((0 : Nat) : Int) k D E = 15 := by unfold actC; rw [if_pos (by omega)]
  have HDo := Lib.hid (fun R' w' (hI : Inv R' w') p (hp : MapAt R' p [0, 1] 0 ((0 : Nat) : Int)) => act_two (sdo_any R' w' hI p [0, 1] 0 0 hp k D E hD (by omega)))
  rw [hcc] at HDo
  clear hcc
  have HNm := Lib.hid (fun w' => sname_any w' k)
  rw [show nameV k = .string ⟨#[]⟩ by unfold nameV; rw [if_pos (by omega)]] at HNm
  have HE0 := Lib.hid (show Ev noReg w noReg (w.alloc (.cells #[.int .i64 k, .int .i64 D, .int .i64 E] 50)) from (Ev.refl (Inv.noReg w)).alloc _)
  have hbx := heap_alloc_new w (.cells #[.int .i64 k, .int .i64 D, .int .i64 E] 50)
  go_enter Tryz.func6, Tryz.ntmps6
  go_wp2_with fail
  refine (HA.out _ _ HE0.out.inv).mono ?_
  rintro e w1 ⟨rfl, R1, he1⟩
  have HE1 := Lib.hid (HE0.out.trans he1)
  have HF1 := Lib.hid he1
  have hbx1 := (he1.block w.heap.size (by simp) rfl).trans hbx
  obtain ⟨y0, y1, y2, _⟩ := boxC_cells hbx1
  have hlt : w.heap.size < w1.heap.size := lt_of_cell y0
  have HB := Lib.hid hbx
  have HEn := Lib.hid (show Ev R1 w1 R1 (w1.alloc (.cells #[.string ⟨#[108, 101, 97, 102]⟩, .string ⟨#[99, 104, 111, 114, 100]⟩, .string ⟨#[115, 112, 108, 105, 116]⟩, .string ⟨#[115, 116, 97, 114]⟩, .string ⟨#[102, 108, 105, 112]⟩, .string ⟨#[114, 111, 111, 116]⟩, .string ⟨#[100, 117, 97, 108]⟩, .string ⟨#[109, 105, 114, 114, 111, 114]⟩, .string ⟨#[99, 117, 116]⟩, .string ⟨#[115, 104, 114, 105, 110, 107]⟩, .string ⟨#[99, 97, 110, 111, 110]⟩] 9)) from (Ev.refl he1.inv).alloc _)
  clear hbx he1 hbx1
  go_wp2_with fail
  refine (HNl.out _).mono ?_
  rintro e w2 ⟨rfl, he2⟩
  have HF2 := Lib.hid (HF1.out.trans (HEn.out.trans (he2 _ HEn.out.inv)))
  clear y0 y1 y2 hlt he2
  have hbx2 := (HF2.out.block w.heap.size (by simp) rfl).trans HB.out
  obtain ⟨y0, y1, y2, _⟩ := boxC_cells hbx2
  have HEd := Lib.hid ((Ev.refl HF2.out.inv).drew)
  clear hbx2
  go_wp2_with fail
  refine wp_region_held_drew (S := (fun w' : World => w'.cell? ⟨w.heap.size, 0, none⟩ = some (.int .i64 k) ∧ w'.cell? ⟨w.heap.size, 1, none⟩ = some (.int .i64 D) ∧ w'.cell? ⟨w.heap.size, 2, none⟩ = some (.int .i64 E))) (by kernel_rfl) ⟨y0, y1, y2⟩ (fun hHeld => ?_)
  refine wpAnyH_take (i := 1) (v := ?a1) rfl (by kernel_rfl) (by kernel_rfl) (by kernel_rfl) (fun _ _ _ h => h) (Or.inl ⟨by rfl, ?a1h⟩) (by assumption) ?_
  case a1h => (intro w' hSw; (try dsimp only at hSw); obtain ⟨s0, s1, s2⟩ := hSw; go_simp; try with_reducible rfl)
  try simp only [Act.put, List.setIfInBounds_toArray, List.set_cons_zero, List.set_cons_succ]
  refine wpAnyH_ready (rs := [0]) (by kernel_rfl) (by simp) (AllReadyH.cons rfl (fun K hK => ?_) AllReadyH.nil)
  go_simp
  refine (HSd.out _ _ HEd.out.inv).mono ?_
  rintro z w3 ⟨p, R3, rfl, he3, hp3⟩
  have HF3 := Lib.hid ((HF2.out.trans HEd.out).trans he3)
  have HP3 := Lib.hid hp3
  clear hp3
  have hbx3 := (HF3.out.block w.heap.size (by simp) rfl).trans HB.out
  obtain ⟨z0, z1, z2, _⟩ := boxC_cells hbx3
  have hS3 : (fun w' : World => w'.cell? ⟨w.heap.size, 0, none⟩ = some (.int .i64 k) ∧ w'.cell? ⟨w.heap.size, 1, none⟩ = some (.int .i64 D) ∧ w'.cell? ⟨w.heap.size, 2, none⟩ = some (.int .i64 E)) w3 := ⟨z0, z1, z2⟩
  clear he3 hbx3
  go_simp
  refine hK.out _ _ hS3 (fun hHeld3 => ?_)
  clear hHeld z0 z1 z2
  refine wpAnyH_ready (rs := [2]) (by kernel_rfl) (by simp) (AllReadyH.cons rfl (fun K hK => ?_) AllReadyH.nil)
  go_simp
  refine (HDo.out _ _ HF3.out.inv _ HP3.out).mono ?_
  rintro z w4 ⟨q, R4, rfl, he4⟩
  have HF4 := Lib.hid (HF3.out.trans he4)
  have hbx4 := (HF4.out.block w.heap.size (by simp) rfl).trans HB.out
  obtain ⟨z0, z1, z2, _⟩ := boxC_cells hbx4
  have hS4 : (fun w' : World => w'.cell? ⟨w.heap.size, 0, none⟩ = some (.int .i64 k) ∧ w'.cell? ⟨w.heap.size, 1, none⟩ = some (.int .i64 D) ∧ w'.cell? ⟨w.heap.size, 2, none⟩ = some (.int .i64 E)) w4 := ⟨z0, z1, z2⟩
  clear he4 hbx4
  go_simp
  refine hK.out _ _ hS4 (fun hHeld4 => ?_)
  clear hHeld3 z0 z1 z2
  refine wpAnyH_take (i := 3) (v := ?b3) rfl (by kernel_rfl) (by kernel_rfl) (by kernel_rfl) (fun _ _ _ h => h) (Or.inl ⟨by rfl, ?b3h⟩) (by assumption) ?_
  case b3h => (intro w' hSw; (try dsimp only at hSw); obtain ⟨s0, s1, s2⟩ := hSw; go_simp; try with_reducible rfl)
  try simp only [Act.put, List.setIfInBounds_toArray, List.set_cons_zero, List.set_cons_succ]
  refine wpAnyH_take (i := 4) (v := ?b4) rfl (by kernel_rfl) (by kernel_rfl) (by kernel_rfl) (fun _ _ _ h => h) (Or.inl ⟨by rfl, ?b4h⟩) (by assumption) ?_
  case b4h => (intro w' hSw; (try dsimp only at hSw); obtain ⟨s0, s1, s2⟩ := hSw; go_simp; try with_reducible rfl)
  try simp only [Act.put, List.setIfInBounds_toArray, List.set_cons_zero, List.set_cons_succ]
  refine wpAnyH_take (i := 5) (v := ?b5) rfl (by kernel_rfl) (by kernel_rfl) (by kernel_rfl) (fun _ _ _ h => h) (Or.inl ⟨by rfl, ?b5h⟩) (by assumption) ?_
  case b5h => (intro w' hSw; (try dsimp only at hSw); obtain ⟨s0, s1, s2⟩ := hSw; go_simp; try with_reducible rfl)
  try simp only [Act.put, List.setIfInBounds_toArray, List.set_cons_zero, List.set_cons_succ]
  refine wpAnyH_take (i := 6) (v := ?b6) rfl (by kernel_rfl) (by kernel_rfl) (by kernel_rfl) (fun _ _ _ h => h) (Or.inl ⟨by rfl, ?b6h⟩) (by assumption) ?_
  case b6h => (intro w' hSw; (try dsimp only at hSw); obtain ⟨s0, s1, s2⟩ := hSw; go_simp; try with_reducible rfl)
  try simp only [Act.put, List.setIfInBounds_toArray, List.set_cons_zero, List.set_cons_succ]
  refine wpAnyH_take (i := 7) (v := ?b7) rfl (by kernel_rfl) (by kernel_rfl) (by kernel_rfl) (fun _ _ _ h => h) (Or.inl ⟨by rfl, ?b7h⟩) (by assumption) ?_
  case b7h => (intro w' hSw; (try dsimp only at hSw); obtain ⟨s0, s1, s2⟩ := hSw; go_simp; try with_reducible rfl)
  try simp only [Act.put, List.setIfInBounds_toArray, List.set_cons_zero, List.set_cons_succ]
  refine wpAnyH_done (by kernel_rfl) ?_ _
  clear hHeld4
  go_wp2_with fail
  refine (HNm.out _).mono ?_
  rintro e w5 ⟨rfl, he5⟩
  have HF5 := Lib.hid (HF4.out.trans (he5 _ HF4.out.inv))
  clear he5 y0 y1 y2
  go_wp2_with fail
  go_ret
  exact ⟨by first | rfl | simp, R4, HE0.out.trans HF5.out⟩

theorem scriptNames_walk (w : World) (k D E : Int) (hD : D < 9223372036854775808) : Calls Tryz.prog 6 #[.agg #[.int .i64 k, .int .i64 D, .int .i64 E]] w (RetTrue noReg w) := by
  by_cases h0 : k < 0
  · exact scriptNames_lo w k h0 D E hD
  · by_cases h1 : 11 ≤ k
    · exact scriptNames_hi w k h1 D E hD
    · have h : k = 0 ∨ k = 1 ∨ k = 2 ∨ k = 3 ∨ k = 4 ∨ k = 5 ∨ k = 6 ∨ k = 7 ∨ k = 8 ∨ k = 9 ∨ k = 10 := by omega
      rcases h with rfl | rfl | rfl | rfl | rfl | rfl | rfl | rfl | rfl | rfl | rfl
      · exact scriptNames_0 w D E hD
      · exact scriptNames_1 w D E hD
      · exact scriptNames_2 w D E hD
      · exact scriptNames_3 w D E hD
      · exact scriptNames_4 w D E hD
      · exact scriptNames_5 w D E hD
      · exact scriptNames_6 w D E hD
      · exact scriptNames_7 w D E hD
      · exact scriptNames_8 w D E hD
      · exact scriptNames_9 w D E hD
      · exact scriptNames_10 w D E hD
end Go.Proofs.YtklkgicjfnbndaaGreat
