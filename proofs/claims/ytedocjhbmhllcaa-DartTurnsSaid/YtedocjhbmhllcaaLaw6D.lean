/- parquetrylaw06.DartTurns, the walk: it answers true. Conditions: the bytes lie in memory. -/
import Derived.Test.YtedocjhbmhllcaaLaw6P
namespace Go.Proofs.Ytedocjhbmhllcaa
open Go.RowKit
set_option linter.unusedVariables false

set_option maxRecDepth 100000 in
set_option maxHeartbeats 4000000 in
theorem dartTurns_walk (w : World) (n rt ln : Nat) (hn : n ≤ 255) (hr : rt ≤ 255) (hl : ln ≤ 255) (v : Value) (bs : List Nat) (hv : FreeB noReg w v bs) :
    Calls Try.prog 7 #[.int .u8 (n : Int), v, .int .u8 (rt : Int), .int .u8 (ln : Int)] w (RetTrue noReg w) := by
  have HA := Lib.hid (awake6_any noReg w (Inv.noReg w))
  have hnot := not_run
  have HV := Lib.hid hv
  have hok := made_ok (n % 10) rt bs (ln % 5) (by omega) (by omega)
  have hS := mixL_perm (2 * (n % 10)) bs
  have hSl := mixL_length (2 * (n % 10)) bs
  have HM := Lib.hid (fun R w' (hI : Inv R w') (hv : FreeB R w' v bs) => made_any R w' hI n rt ln hn hr hl v bs hv)
  obtain ⟨S, hSe⟩ : ∃ S, mixL (2 * (n % 10)) bs = S := ⟨_, rfl⟩
  obtain ⟨r, hre⟩ : ∃ r, anyRoot (n % 10) rt = r := ⟨_, rfl⟩
  obtain ⟨lo, hlo⟩ : ∃ lo, ln % 5 = lo := ⟨_, rfl⟩
  have hlo5 : lo ≤ 4 := by omega
  obtain ⟨m, hm⟩ : ∃ m, 2 * (n % 10) = m := ⟨_, rfl⟩
  have hm20 : m ≤ 18 := by omega
  have hev : m % 2 = 0 := by omega
  rw [hSe, hre, hlo] at hok HM
  rw [hSe, hm] at hSl
  rw [hSe] at hS
  have HOK := Lib.hid hok
  have HS := Lib.hid hS
  have HSL := Lib.hid hSl
  obtain ⟨a0, c0, rfl, _⟩ := hv
  clear hSe hre hlo hok hS hSl hm
  go_enter Try.func7, Try.ntmps7
  go_wp2_with fail
  refine HA.out.mono ?_
  rintro e w1 ⟨rfl, R1, he1⟩
  have HE1 := Lib.hid he1
  clear he1
  go_wp2_with fail
  refine (HM.out R1 w1 HE1.out.inv (HV.out.ev HE1.out)).mono ?_
  rintro e w2 ⟨p, a1, c1, R2, rfl, he2, hp2, hf2⟩
  unfold refV
  have hnone : R2 w2.heap.size = none := he2.inv.none_of_ge (Nat.le_refl _)
  have hI3 := he2.inv.alloc (.cells #[.slice a1 S.length c1, .int .i64 r, .int .i64 (lo : Int)] 27)
  have HE2 := Lib.hid (HE1.out.trans he2)
  have HP3 := Lib.hid hp2
  have hf3 := hf2.ev ((Ev.refl he2.inv).alloc (.cells #[.slice a1 S.length c1, .int .i64 r, .int .i64 (lo : Int)] 27))
  have HF3 := Lib.hid hf3
  have HI3 := Lib.hid hI3
  have HX := Lib.hid (fun R' w' (h : Ev R2 (w2.alloc (.cells #[.slice a1 S.length c1, .int .i64 r, .int .i64 (lo : Int)] 27)) R' w') => h.ref3 hnone)
  clear he2 hp2 hf2 hI3 hf3 hnone
  go_wp2_with fail
  obtain ⟨w3, hw3⟩ : ∃ w3, w3 = w2.alloc (.cells #[.slice a1 S.length c1, .int .i64 r, .int .i64 (lo : Int)] 27) := ⟨_, rfl⟩
  have HE3 : Hid (Ev noReg w R2 w3) := by rw [hw3]; exact HE2.out.alloc _
  have HX3 : Hid (∀ R' w', Ev R2 w3 R' w' → w'.cell? ⟨w2.heap.size, 0, none⟩ = some (.slice a1 S.length c1) ∧ w'.cell? ⟨w2.heap.size, 1, none⟩ = some (.int .i64 r) ∧ w'.cell? ⟨w2.heap.size, 2, none⟩ = some (.int .i64 (lo : Int))) := by rw [hw3]; exact HX.out
  rw [← hw3] at HF3 HI3 ⊢
  clear hw3 HX
  obtain ⟨x0, x1, x2⟩ := HX3.out R2 w3 (Ev.refl HI3.out)
  have h41 := fun w' (he : Ev R2 w3 R2 w') => rphi_any R2 w' he.inv (.slice a1 S.length c1) S r (lo : Int) (HF3.out.ev he) (by rw [HSL.out]; omega) (by rw [HSL.out]; exact hev)
  have h42 := fun w' (he : Ev R2 w3 R2 w') => rinverse_any R2 w' he.inv _ S (HF3.out.ev he) HS.out (by rw [HSL.out]; omega)
  have H41 := Lib.hid h41
  have H42 := Lib.hid h42
  unfold refV at H41
  have HEd := Lib.hid ((Ev.refl HI3.out).drew)
  clear h41 h42
  go_cut [11, 12] (fun s11 s12 wx => Ev R2 w3 R2 wx ∧ OwnI R2 w3.heap.size 3 wx s11 (toI (phiL S)) ∧ OwnI R2 w3.heap.size 3 wx s12 (toI (invL S)))
  case first =>
    go_region_held3 (fun w' => w'.cell? ⟨w2.heap.size, 0, none⟩ = some (.slice a1 S.length c1) ∧ w'.cell? ⟨w2.heap.size, 1, none⟩ = some (.int .i64 r) ∧ w'.cell? ⟨w2.heap.size, 2, none⟩ = some (.int .i64 (lo : Int))) (exact ⟨x0, x1, x2⟩) (first | (go_at_call 18; refine (H41.out _ HEd.out).mono ?_; rintro e w4 ⟨v4, rfl, he4, ho4⟩; have HE4 := Lib.hid (HEd.out.trans he4); have HO4 := Lib.hid ho4; clear he4 ho4; obtain ⟨x0, x1, x2⟩ := HX3.out R2 w4 HE4.out) | (go_at_call 43; refine (H42.out _ HE4.out).mono ?_; rintro e w5 ⟨v5, rfl, he5, ho5⟩; have HE5 := Lib.hid he5; have HO5 := Lib.hid ho5; clear he5 ho5; obtain ⟨x0, x1, x2⟩ := HX3.out R2 w5 (HE4.out.trans HE5.out)))
    all_goals (go_wp2_with fail; go_meet; exact ⟨HE4.out.trans HE5.out, (HO4.out.ev HE5.out).mono (by simp), HO5.out.mono HE4.out.size⟩)
  case rest =>
    obtain ⟨he7, ho4, ho6⟩ := hcut
    clear H41 H42 x0 x1 x2
    have hil : (invL S).length = m := by rw [show (invL S).length = S.length from invGo_length _ _, HSL.out]
    obtain ⟨a4, c4, rfl, hf4⟩ := ho4.free.open
    obtain ⟨a6, c6, rfl, hf6⟩ := ho6.free.open
    rw [toI_length, phiL_length, HSL.out] at hf4 ⊢
    rw [toI_length, hil] at hf6 ⊢
    have HE8 := Lib.hid he7
    have HV8 := Lib.hid hf4
    have HW8 := Lib.hid hf6
    have HIL := Lib.hid hil
    clear ho4 ho6 hf4 hf6 he7 hil
    obtain ⟨x0, x1, x2⟩ := HX3.out R2 _ HE8.out
    go_wp2_with fail
    go_loopg [34] m (fun g v34 wr => ∃ (k : Nat) (Rk : Reg), k ≤ m ∧ m - k ≤ g ∧ v34 = .int .i64 (k : Int) ∧ Ev R2 w3 Rk wr ∧ FreeI Rk wr (.slice a4 m c4) (toI (phiL S)) ∧ FreeI Rk wr (.slice a6 m c6) (toI (invL S)))
    case atStart => exact ⟨0, R2, Nat.zero_le _, by omega, rfl, HE8.out, HV8.out, HW8.out⟩
    case round =>
      obtain ⟨k, Rk, hk, hg, rfl, he, hv, hw⟩ := hrel
      have HEk := Lib.hid he
      have HVk := Lib.hid hv
      have HWk := Lib.hid hw
      clear he hv hw x0 x1 x2
      obtain ⟨wo, hwo⟩ : ∃ wo : World, wo = wr := ⟨_, rfl⟩
      subst hwo
      by_cases hkm : k < m
      · have hks : k < S.length := by rw [HSL.out]; exact hkm
        have hkp : k < (phiL S).length := by rw [phiL_length]; exact hks
        obtain ⟨b0, o0, e0, cs0⟩ := (HF3.out.ev HEk.out).at (i := k) hks
        obtain ⟨b4, o4, e4, cv0⟩ := HVk.out.at (i := k) hkp
        obtain ⟨b6, o6, e6, cw0⟩ := HWk.out.at (i := k) (by rw [HIL.out]; exact hkm)
        subst e0 e4 e6
        have hcs : ∀ R' w', Ev R2 w3 R' w' → w'.cell? ⟨b0, o0 + k, none⟩ = some (.int .i64 ((at' S k : Nat) : Int)) := fun R' w' he => by
          obtain ⟨b, off, e1, e2⟩ := (HF3.out.ev he).at (i := k) hks
          cases e1
          exact e2
        have hcv : ∀ R' w', Ev Rk wo R' w' → w'.cell? ⟨b4, o4 + k, none⟩ = some (.int .i64 ((at' (phiL S) k : Nat) : Int)) := fun R' w' he => by
          obtain ⟨b, off, e1, e2⟩ := (HVk.out.ev he).at (i := k) hkp
          cases e1
          exact e2
        have hcw : ∀ R' w', Ev Rk wo R' w' → w'.cell? ⟨b6, o6 + k, none⟩ = some (.int .i64 ((at' (invL S) k : Nat) : Int)) := fun R' w' he => by
          obtain ⟨b, off, e1, e2⟩ := (HWk.out.ev he).at (i := k) (by rw [HIL.out]; exact hkm)
          cases e1
          exact e2
        obtain ⟨y1, hy1⟩ : ∃ y, at' S k = y := ⟨_, rfl⟩
        obtain ⟨y2, hy2⟩ : ∃ y, at' (phiL S) k = y := ⟨_, rfl⟩
        obtain ⟨y3, hy3⟩ : ∃ y, at' (invL S) k = y := ⟨_, rfl⟩
        obtain ⟨y4, hy4⟩ : ∃ y, k ^^^ 1 = y := ⟨_, rfl⟩
        rw [hy1] at hcs cs0
        rw [hy2] at hcv cv0
        rw [hy3] at hcw cw0
        have g1 := fun R' w' (he : Ev R2 w3 R' w') => sigma_any R' w' he.inv p S r lo (he.map HP3.out) k
        have g2 := fun R' w' (he : Ev R2 w3 R' w') => mback_any R' w' he.inv p S r lo (he.map HP3.out) k
        have g3 := fun R' w' (he : Ev R2 w3 R' w') => mate_any R' w' he.inv p S r lo (he.map HP3.out) k
        have g4 := fun w' => rmate_any w' k (by omega)
        have g5 := fun R' w' (he : Ev R2 w3 R' w') => phi_any R' w' he.inv p S r lo (he.map HP3.out) k
        rw [atI_in hks, hy1] at g1
        rw [backI_in hks, hy3] at g2
        rw [mateI_in hks, hy4] at g3
        rw [hy4] at g4
        rw [atI_in hkp, hy2] at g5
        have G1 := Lib.hid g1
        have G2 := Lib.hid g2
        have G3 := Lib.hid g3
        have G4 := Lib.hid g4
        have G5 := Lib.hid g5
        have HCS := Lib.hid hcs
        have HCV := Lib.hid hcv
        have HCW := Lib.hid hcw
        clear g1 g2 g3 g4 g5 hcs hcv hcw hy1 hy2 hy3 hy4
        obtain ⟨x0, x1, x2⟩ := HX3.out _ _ HEk.out
        go_wp2_with fail
        go_cut [73] (fun s73 wx => s73 = .bool false ∧ ∃ R', Ev Rk wo R' wx)
        case first =>
          have HEd := Lib.hid ((Ev.refl HEk.out.inv).drew)
          go_region_held3 (fun w' => w'.cell? ⟨w2.heap.size, 0, none⟩ = some (.slice (some ⟨b0, o0, none⟩) S.length c1) ∧ w'.cell? ⟨b0, o0 + k, none⟩ = some (.int .i64 (y1 : Int)) ∧ w'.cell? ⟨b6, o6 + k, none⟩ = some (.int .i64 (y3 : Int)) ∧ w'.cell? ⟨b4, o4 + k, none⟩ = some (.int .i64 (y2 : Int))) (exact ⟨x0, cs0, cw0, cv0⟩) (first | (go_at_call 40; refine (G1.out _ _ (HEk.out.trans HEd.out)).mono ?_; rintro e w' ⟨rfl, rfl⟩) | (go_at_call 37; refine (G2.out _ _ (HEk.out.trans HEd.out)).mono ?_; rintro e w' ⟨rfl, R', he⟩; have HEb := Lib.hid (HEd.out.trans he); clear he; obtain ⟨x0, x1, x2⟩ := HX3.out _ _ (HEk.out.trans HEb.out); have cs0 := HCS.out _ _ (HEk.out.trans HEb.out); have cv0 := HCV.out _ _ HEb.out; have cw0 := HCW.out _ _ HEb.out) | (go_at_call 39; refine (G3.out _ _ (HEk.out.trans HEb.out)).mono ?_; rintro e w' ⟨rfl, rfl⟩) | (go_at_call 44; refine (G4.out _).mono ?_; rintro e w' ⟨rfl, rfl⟩) | (go_at_call 38; refine (G5.out _ _ (HEk.out.trans HEb.out)).mono ?_; rintro e w' ⟨rfl, rfl⟩))
          all_goals (go_wp2_with fail; go_meet; exact ⟨rfl, _, HEb.out⟩)
        case rest =>
          obtain ⟨rfl, R', he⟩ := hcut
          clear cs0 cv0 cw0 x0 x1 x2
          clear HCS HCV HCW G1 G2 G3 G4 G5
          have HEm := Lib.hid he
          clear he
          obtain ⟨x0, x1, x2⟩ := HX3.out _ _ (HEk.out.trans HEm.out)
          have HKP := Lib.hid hkp
          have HKS := Lib.hid hks
          have ol1 : (orbitL S k).length ≤ 19 := by have := orbitL_length S k; have := HSL.out; omega
          have ol2 : (orbitL (phiL S) k).length ≤ 19 := by have h1 := orbitL_length (phiL S) k; have h2 := HSL.out; rw [phiL_length] at h1; omega
          have HPP := Lib.hid (phiL_perm HS.out (by rw [HSL.out]; exact hev))
          have k1 := fun w' (he : Ev Rk wo R' w') => around_any R' w' he.inv p S r lo ((HEk.out.trans he).map HP3.out) k
          have k2 := fun w' (he : Ev Rk wo R' w') => rorbit_any R' w' he.inv _ S (HF3.out.ev (HEk.out.trans he)) HS.out (by rw [HSL.out]; omega) k hks
          have k4 := fun w' (he : Ev Rk wo R' w') => border_any R' w' he.inv p S r lo ((HEk.out.trans he).map HP3.out) k
          have k5 := fun w' (he : Ev Rk wo R' w') => rorbit_any R' w' he.inv _ (phiL S) (HVk.out.ev he) HPP.out (by rw [phiL_length, HSL.out]; omega) k hkp
          rw [orbI_in hks] at k1
          rw [orbI_in hkp] at k4
          obtain ⟨O1, hO1⟩ : ∃ O, toI (orbitL S k) = O := ⟨_, rfl⟩
          obtain ⟨O2, hO2⟩ : ∃ O, toI (orbitL (phiL S) k) = O := ⟨_, rfl⟩
          have l1 : O1.length ≤ 19 := by rw [← hO1, toI_length]; exact ol1
          have l2 : O2.length ≤ 19 := by rw [← hO2, toI_length]; exact ol2
          rw [hO1] at k1 k2
          rw [hO2] at k4 k5
          have k3 := fun w' (he : Ev Rk wo R' w') v u (hv : FreeI R' w' v O1) (hu : FreeI R' w' u O1) => equal_any R' w' he.inv v u O1 O1 hv.1 hu.1 (by omega) (by omega)
          have k6 := fun w' (he : Ev Rk wo R' w') v u (hv : FreeI R' w' v O2) (hu : FreeI R' w' u O2) => equal_any R' w' he.inv v u O2 O2 hv.1 hu.1 (by omega) (by omega)
          rw [eqL_true rfl] at k3 k6
          have K1 := Lib.hid k1
          have K2 := Lib.hid k2
          have K3 := Lib.hid k3
          have K4 := Lib.hid k4
          have K5 := Lib.hid k5
          have K6 := Lib.hid k6
          clear k1 k2 k3 k4 k5 k6 ol1 ol2 l1 l2 hO1 hO2 hkp
          go_wp2_with fail
          go_cut [92] (fun s92 wx => s92 = .bool false ∧ Ev Rk wo R' wx)
          case first =>
            have HEd := Lib.hid (HEm.out.drew)
            go_region_held3 (fun w' => w'.cell? ⟨w2.heap.size, 0, none⟩ = some (.slice (some ⟨b0, o0, none⟩) S.length c1)) (exact x0) (first | (go_at_call 42; refine (K1.out _ HEd.out).mono ?_; rintro e wa ⟨va, rfl, he, ho⟩; have HEa := Lib.hid (HEd.out.trans he); have HFa := Lib.hid ho.free; clear he ho; have x0 := (HX3.out _ _ (HEk.out.trans HEa.out)).1) | (go_at_call 41; refine (K4.out _ HEc.out).mono ?_; rintro e w9 ⟨v9, rfl, he, ho⟩; have HEe := Lib.hid (HEc.out.trans he); have HFe := Lib.hid ho.free; clear he ho; have x0 := (HX3.out _ _ (HEk.out.trans HEe.out)).1) | (go_at_call 45; first | ((with_reducible refine (K2.out _ HEa.out).mono ?_); rintro e wb ⟨vb, rfl, he, ho⟩; have HEb := Lib.hid (HEa.out.trans he); have HFb := Lib.hid ho.free; have HFa2 := Lib.hid (HFa.out.ev he); clear he ho; have x0 := (HX3.out _ _ (HEk.out.trans HEb.out)).1) | ((with_reducible refine (K5.out _ HEe.out).mono ?_); rintro e wf ⟨vf, rfl, he, ho⟩; have HEf := Lib.hid (HEe.out.trans he); have HFf := Lib.hid ho.free; have HFe2 := Lib.hid (HFe.out.ev he); clear he ho; have x0 := (HX3.out _ _ (HEk.out.trans HEf.out)).1)) | (go_at_call 31; first | ((with_reducible refine (K3.out _ HEb.out _ _ HFa2.out HFb.out).mono ?_); rintro e wc ⟨rfl, he⟩; have HEc := Lib.hid (HEb.out.trans he); clear he; have x0 := (HX3.out _ _ (HEk.out.trans HEc.out)).1) | ((with_reducible refine (K6.out _ HEf.out _ _ HFe2.out HFf.out).mono ?_); rintro e wg ⟨rfl, he⟩; have HEg := Lib.hid (HEf.out.trans he); clear he; have x0 := (HX3.out _ _ (HEk.out.trans HEg.out)).1)))
            all_goals (go_wp2_with fail; go_meet; exact ⟨rfl, HEg.out⟩)
          case rest =>
            obtain ⟨rfl, he⟩ := hcut
            have HEn := Lib.hid he
            clear he x0 x1 x2 K1 K2 K3 K4 K5 K6 HEm
            go_wp2_with fail
            go_roundg (m - (k + 1))
            case measure => omega
            case rel => exact ⟨k + 1, R', by omega, by omega, by go_num, HEk.out.trans HEn.out, HVk.out.ev HEn.out, HWk.out.ev HEn.out⟩
      · obtain rfl : k = m := by omega
        have hks : ¬ k < S.length := by rw [HSL.out]; omega
        obtain ⟨x0, x1, x2⟩ := HX3.out _ _ HEk.out
        go_wp2_with fail
        clear hkm hg hk x0 x1 x2 hks
        have hnq : Rk wo.heap.size = none := HEk.out.inv.none_of_ge (Nat.le_refl _)
        have hcl : ∀ R' w', Ev Rk (wo.alloc (.cells #[.int .i64 (-1), .int .i64 (S.length : Int)] 3)) R' w' → w'.cell? ⟨wo.heap.size, 0, none⟩ = some (.int .i64 (-1)) ∧ w'.cell? ⟨wo.heap.size, 1, none⟩ = some (.int .i64 (S.length : Int)) := fun R' w' h => by
          refine ⟨?_, ?_⟩
          all_goals rw [h.cell (by simp) hnq]; simp
        obtain ⟨wq, hwq⟩ : ∃ wq, wq = wo.alloc (.cells #[.int .i64 (-1), .int .i64 (S.length : Int)] 3) := ⟨_, rfl⟩
        have heq : Ev R2 w3 Rk wq := by rw [hwq]; exact HEk.out.alloc _
        rw [← hwq] at hcl ⊢
        have HEq := Lib.hid heq
        have HCL := Lib.hid hcl
        clear hcl heq hwq hnq
        go_loopg [99, 15] 2 (fun g v99 v15 wr => ∃ (j : Nat) (Rj : Reg), j ≤ 2 ∧ 2 - j ≤ g ∧ v99 = .int .i64 (j : Int) ∧ Ev Rk wq Rj wr)
        case atStart => exact ⟨0, Rk, by omega, by omega, rfl, Ev.refl HEq.out.inv⟩
        case round =>
          obtain ⟨j, Rj, hj, hg, rfl, he⟩ := hrel
          have HEj := Lib.hid he
          clear he
          by_cases hj2 : j < 2
          · obtain ⟨d, hd, hcd⟩ : ∃ d : Int, (d < 0 ∨ (S.length : Int) ≤ d) ∧ ∀ R' w', Ev Rk wq R' w' → w'.cell? ⟨wo.heap.size, j, none⟩ = some (.int .i64 d) := by
              by_cases h0 : j = 0
              · subst h0; exact ⟨-1, Or.inl (by omega), fun R' w' h => (HCL.out R' w' h).1⟩
              · obtain rfl : j = 1 := by omega
                exact ⟨S.length, Or.inr (Int.le_refl _), fun R' w' h => (HCL.out R' w' h).2⟩
            have hdp : d < 0 ∨ ((phiL S).length : Int) ≤ d := by rw [phiL_length]; exact hd
            have q0 := hcd _ _ HEj.out
            have HEr := Lib.hid (HEq.out.trans HEj.out)
            have g1 := fun R' w' (he : Ev R2 w3 R' w') => sigma_any R' w' he.inv p S r lo (he.map HP3.out) d
            have g2 := fun R' w' (he : Ev R2 w3 R' w') => mback_any R' w' he.inv p S r lo (he.map HP3.out) d
            have g3 := fun R' w' (he : Ev R2 w3 R' w') => mate_any R' w' he.inv p S r lo (he.map HP3.out) d
            have g4 := fun R' w' (he : Ev R2 w3 R' w') => phi_any R' w' he.inv p S r lo (he.map HP3.out) d
            have g5 := fun R' w' (he : Ev R2 w3 R' w') => vertex_any R' w' he.inv p S r lo (he.map HP3.out) d
            have g6 := fun R' w' (he : Ev R2 w3 R' w') => face_any R' w' he.inv p S r lo (he.map HP3.out) d
            have g7 := fun R' w' (he : Ev R2 w3 R' w') => around_any R' w' he.inv p S r lo (he.map HP3.out) d
            have g8 := fun R' w' (he : Ev R2 w3 R' w') => border_any R' w' he.inv p S r lo (he.map HP3.out) d
            rw [atI_out hd] at g1
            rw [backI_out hd] at g2
            rw [mateI_out hd] at g3
            rw [atI_out hdp] at g4
            rw [nameI_out hd] at g5
            rw [nameI_out hdp] at g6
            rw [orbI_out hd] at g7
            rw [orbI_out hdp] at g8
            have G1 := Lib.hid g1
            have G2 := Lib.hid g2
            have G3 := Lib.hid g3
            have G4 := Lib.hid g4
            have G5 := Lib.hid g5
            have G6 := Lib.hid g6
            have G7 := Lib.hid g7
            have G8 := Lib.hid g8
            clear g1 g2 g3 g4 g5 g6 g7 g8 hd hdp hcd
            go_wp2_with fail
            refine (G1.out _ _ HEr.out).mono ?_
            rintro e w' ⟨rfl, rfl⟩
            go_wp2_with fail
            refine (G2.out _ _ HEr.out).mono ?_
            rintro e w' ⟨rfl, R', he⟩
            have HEs := Lib.hid he
            clear he q0
            go_wp2_with fail
            refine (G3.out _ _ (HEr.out.trans HEs.out)).mono ?_
            rintro e w' ⟨rfl, rfl⟩
            go_wp2_with fail
            refine (G4.out _ _ (HEr.out.trans HEs.out)).mono ?_
            rintro e w' ⟨rfl, rfl⟩
            go_wp2_with fail
            refine (G5.out _ _ (HEr.out.trans HEs.out)).mono ?_
            rintro e w' ⟨rfl, R5, he⟩
            have HEt := Lib.hid (HEs.out.trans he)
            clear he
            go_wp2_with fail
            refine (G6.out _ _ (HEr.out.trans HEt.out)).mono ?_
            rintro e w' ⟨rfl, R6, he⟩
            have HEu := Lib.hid (HEt.out.trans he)
            clear he
            go_wp2_with fail
            refine (G7.out _ _ (HEr.out.trans HEu.out)).mono ?_
            rintro e w' ⟨v7, rfl, he, ho⟩
            obtain ⟨a7, c7, rfl, _⟩ := ho.free.open
            have HEv := Lib.hid (HEu.out.trans he)
            clear he ho
            simp only [List.length_nil]
            go_wp2_with fail
            refine (G8.out _ _ (HEr.out.trans HEv.out)).mono ?_
            rintro e w' ⟨v8, rfl, he, ho⟩
            obtain ⟨a8, c8, rfl, _⟩ := ho.free.open
            have HEx := Lib.hid (HEv.out.trans he)
            clear he ho
            simp only [List.length_nil]
            go_wp2_with fail
            go_roundg (2 - (j + 1))
            case measure => omega
            case rel => exact ⟨j + 1, R6, by omega, by omega, by go_num, HEj.out.trans HEx.out⟩
          · obtain rfl : j = 2 := by omega
            go_wp2_with fail
            go_ret
            exact ⟨rfl, _, (HE3.out.trans HEq.out).trans HEj.out⟩

end Go.Proofs.Ytedocjhbmhllcaa
