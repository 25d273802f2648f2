/- parquetrylaw08.EulerTrees, the walk: it answers true. Conditions: the bytes lie in memory. -/
import Derived.Test.YtedocjhbmhllcaaLaw8B
import Derived.Test.YtedocjhbmhllcaaArgs
namespace Go.Proofs.Ytedocjhbmhllcaa
open Go.RowKit
set_option linter.unusedVariables false

theorem vcnt_whole {t : List Nat} (ht : IsPerm t) {N : List Int} (hN : ∀ x, x < t.length → 0 ≤ nth N x ∧ nth N x < ((1 : Nat) : Int)) : vcnt t N ((0 : Nat) : Int) t.length = (sizesL t).length := by
  have h := sum_vcnt ht (C := 1) hN (Nat.le_refl _)
  rw [← sizesGo_all, sizesGo_length ht _ (Nat.le_refl _), ← h]
  show _ = 0 + vcnt t N ((0 : Nat) : Int) t.length
  omega
/-- Euler's: of a map of one part whose genus is nought -/
theorem euler_plane {s : List Nat} (hs : IsPerm s) (he : s.length % 2 = 0) (h1 : partsN s = 1) (hg : genusL s = 0) : (sizesL s).length + (sizesL (phiL s)).length = s.length / 2 + 2 := by
  have hg0 : genOf s (partsL s) 0 = 0 := by
    unfold genusL at hg
    rw [h1] at hg
    show _ = (0 : Int)
    have : genusTo s 1 = 0 + genOf s (partsL s) 0 := rfl
    omega
  have h := (genOf_euler hs he (k := 0) (by omega)).2
  have hN : ∀ x, x < s.length → 0 ≤ nth (partsL s) x ∧ nth (partsL s) x < ((1 : Nat) : Int) := fun x hx => by have := partsL_lt hs he hx; rwa [h1] at this
  have hp := phiL_perm hs he
  rw [hg0, vcnt_whole hs hN] at h
  have h2 := vcnt_whole hp (N := partsL s) (fun x hx => hN x (by rw [phiL_length] at hx; exact hx))
  rw [phiL_length] at h2
  have h3 := sum_ecnt (C := 1) hN (Nat.le_refl _)
  have h3 : 0 + ecnt (partsL s) ((0 : Nat) : Int) s.length = s.length / 2 := h3
  rw [h2] at h
  omega

set_option maxRecDepth 100000 in
set_option maxHeartbeats 8000000 in
theorem eulerTrees_walk (w : World) (n ln : Nat) (hn : n ≤ 255) (hl : ln ≤ 255) (v : Value) (bs : List Nat) (hv : FreeB noReg w v bs) :
    Calls Try.prog 9 #[.int .u8 (n : Int), v, .int .u8 (ln : Int)] w (RetTrue noReg w) := by
  have HA := Lib.hid (awake8_any noReg w (Inv.noReg w))
  have hnot := not_run
  have HV := Lib.hid hv
  have hS := mixL_perm (2 * (n % 12)) bs
  have hSl := mixL_length (2 * (n % 12)) bs
  have HM := Lib.hid (fun R w' (hI : Inv R w') (hv : FreeB R w' v bs) => made8_any R w' hI n ln hn hl v bs hv)
  obtain ⟨S, hSe⟩ : ∃ S, mixL (2 * (n % 12)) bs = S := ⟨_, rfl⟩
  obtain ⟨r, hre⟩ : ∃ r, anyRoot (n % 12) 0 = r := ⟨_, rfl⟩
  obtain ⟨lo, hlo⟩ : ∃ lo, ln % 4 = lo := ⟨_, rfl⟩
  have hlo5 : lo ≤ 4 := by omega
  obtain ⟨m, hm⟩ : ∃ m, 2 * (n % 12) = m := ⟨_, rfl⟩
  have hm20 : m ≤ 22 := by omega
  have hev : m % 2 = 0 := by omega
  rw [hSe, hre, hlo] at HM
  rw [hSe, hm] at hSl
  rw [hSe] at hS
  have HS := Lib.hid hS
  have HSL := Lib.hid hSl
  obtain ⟨a0, c0, rfl, _⟩ := hv
  clear hSe hre hlo hm
  rw [← hSl] at hev hm20
  have hpn := partsN_le hS hev
  have hfo := forest_bound hS hev
  have hpl := euler_plane hS hev
  have hp1 : 0 < S.length → 1 ≤ partsN S := fun h => by have := partsL_lt hS hev h; omega
  obtain ⟨V, hV⟩ : ∃ V, (sizesL S).length = V := ⟨_, rfl⟩
  obtain ⟨F, hF⟩ : ∃ V, (sizesL (phiL S)).length = V := ⟨_, rfl⟩
  obtain ⟨E, hE⟩ : ∃ V, S.length / 2 = V := ⟨_, rfl⟩
  obtain ⟨N0, hN0⟩ : ∃ V, partsN S = V := ⟨_, rfl⟩
  obtain ⟨G, hG⟩ : ∃ V, genusL S = V := ⟨_, rfl⟩
  obtain ⟨L, hL⟩ : ∃ V, loopsL S = V := ⟨_, rfl⟩
  obtain ⟨D, hD⟩ : ∃ V, dblsL S = V := ⟨_, rfl⟩
  have hsb := simpB_sum S
  rw [hL, hD] at hsb
  rw [hV, hL, hD, hE, hN0] at hfo
  rw [hV, hF, hE, hN0, hG] at hpl
  rw [hN0] at hpn hp1
  have K1 := Lib.hid (fun R w p (hI : Inv R w) (hp : MapAt R p S r lo) => by have := connected_any R w hI p S r lo hp; rwa [hN0] at this)
  have K2 := Lib.hid (fun R w p (hI : Inv R w) (hp : MapAt R p S r lo) => by have := planar_any R w hI p S r lo hp; rwa [hG] at this)
  have K3 := Lib.hid (fun R w p (hI : Inv R w) (hp : MapAt R p S r lo) => darts_any R w hI p S r lo hp)
  have K4 := Lib.hid (fun R w p (hI : Inv R w) (hp : MapAt R p S r lo) => by have := edges_any R w hI p S r lo hp; rwa [hE] at this)
  have K5 := Lib.hid (fun R w p (hI : Inv R w) (hp : MapAt R p S r lo) => by have := vertices_any R w hI p S r lo hp; rwa [hV] at this)
  have K6 := Lib.hid (fun R w p (hI : Inv R w) (hp : MapAt R p S r lo) => by have := borders_any R w hI p S r lo hp; rwa [hF] at this)
  have K7 := Lib.hid (fun R w p (hI : Inv R w) (hp : MapAt R p S r lo) => by have := simple_any R w hI p S r lo hp; rwa [hsb] at this)
  have K8 := Lib.hid (fun R w p (hI : Inv R w) (hp : MapAt R p S r lo) => by have := eloops_any R w hI p S r lo hp; rwa [hL] at this)
  have K9 := Lib.hid (fun R w p (hI : Inv R w) (hp : MapAt R p S r lo) => by have := edoubles_any R w hI p S r lo hp; rwa [hD] at this)
  have D1 : Hid (∀ R w a c, Inv R w → FreeI R w (.slice a S.length c) (toI S) → Calls Try.prog 50 #[refV (.slice a S.length c) r lo] w (fun e w2 => ∃ a c, e = .returned (.slice a (N0 + lo) c) ∧ Ev R w R w2)) := Lib.hid (fun R w a c hI hv =>
    (r8parts_any R w hI _ S r lo hv hS (by omega) hev (by omega)).mono (by
      rintro e w2 ⟨v, rfl, he3, a, c, rfl, _⟩
      rw [hN0]
      exact ⟨a, c, rfl, he3⟩))
  have D2 : Hid (∀ R w a c, Inv R w → FreeI R w (.slice a S.length c) (toI S) → Calls Try.prog 51 #[refV (.slice a S.length c) r lo] w (RetE R w (.int .i64 G))) := Lib.hid (fun R w a c hI hv => by have := r8genus_any R w hI _ S r lo hv hS (by omega) hev (by omega); rwa [hG] at this)
  have hb1 : V ≤ 100 ∧ F ≤ 100 ∧ L ≤ 100 ∧ D ≤ 100 := by
    have h1 := sizesL_le hS
    have h2 := sizesL_le (phiL_perm hS hev)
    rw [phiL_length] at h2
    omega
  obtain ⟨hb1, hb2, hb3, hb4⟩ := hb1
  have HF1 := Lib.hid hfo
  have HF2 := Lib.hid hpl
  have HF3 := Lib.hid hp1
  have hEb : 2 * E ≤ S.length := by omega
  have HE2 := Lib.hid hE
  clear hS hSl hV hF hE hN0 hG hL hD hsb hfo hpl hp1
  unfold refV at D1 D2
  by_cases hc : N0 + lo = 1
  · rw [decide_eq_true hc] at K1
    by_cases hg : G = 0
    · have hgt : (G == 0) = true := by rw [beq_iff_eq]; exact hg
      have hgn : (G != 0) = false := by rw [bne_eq_false_iff_eq]; exact hg
      rw [hgt] at K2
      by_cases hm0 : S.length = 0
      · have hc1 : (((N0 + lo : Nat) : Int) != 1) = false := by rw [bne_eq_false_iff_eq]; omega
        have hc1' : ((N0 : Int) + (lo : Int) != 1) = false := by rw [bne_eq_false_iff_eq]; omega
        have hz : ((S.length : Int) == 0) = true := by rw [beq_iff_eq]; omega
        clear hc hg hm0 hgt
        go_enter Try.func9, Try.ntmps9
        go_wp2_with fail
        refine HA.out.mono ?_
        rintro e w1 ⟨rfl, R1, he1⟩
        have HE1 := Lib.hid he1
        clear he1
        go_wp2_with fail
        refine (HM.out R1 w1 HE1.out.inv (HV.out.ev HE1.out)).mono ?_
        rintro e w2 ⟨p, a1, c1, R2, rfl, he2, hp2, hf2⟩
        unfold refV
        have hnone : R2 w2.heap.size = none := he2.inv.none_of_ge (Nat.le_refl _)
        have hI3 := he2.inv.alloc (.cells #[.slice a1 S.length c1, .int .i64 r, .int .i64 (lo : Int)] 27)
        have hf3 := hf2.ev ((Ev.refl he2.inv).alloc (.cells #[.slice a1 S.length c1, .int .i64 r, .int .i64 (lo : Int)] 27))
        have HE2 := Lib.hid (HE1.out.trans he2)
        have HP3 := Lib.hid hp2
        have HX := Lib.hid (fun R' w' (h : Ev R2 (w2.alloc (.cells #[.slice a1 S.length c1, .int .i64 r, .int .i64 (lo : Int)] 27)) R' w') => h.ref3 hnone)
        have HF3x := Lib.hid hf3
        have HI3 := Lib.hid hI3
        clear he2 hp2 hf2 hI3 hnone hf3
        go_wp2_with fail
        obtain ⟨w3, hw3⟩ : ∃ w3, w3 = w2.alloc (.cells #[.slice a1 S.length c1, .int .i64 r, .int .i64 (lo : Int)] 27) := ⟨_, rfl⟩
        have HE3 : Hid (Ev noReg w R2 w3) := by rw [hw3]; exact HE2.out.alloc _
        rw [← hw3] at HX HF3x HI3 ⊢
        clear hw3 HE2
        refine (K1.out _ _ _ HI3.out HP3.out).mono ?_
        rintro e w4 ⟨rfl, R4, he⟩
        have HE4 := Lib.hid he
        clear he
        go_wp2_with fail
        refine (K2.out _ _ _ HE4.out.inv (HE4.out.map HP3.out)).mono ?_
        rintro e w5 ⟨rfl, R5, he⟩
        have HE5 := Lib.hid (HE4.out.trans he)
        clear he
        go_wp2_with fail
        refine (K3.out _ _ _ HE5.out.inv (HE5.out.map HP3.out)).mono ?_
        rintro e w' ⟨rfl, rfl⟩
        obtain ⟨x0, x1, x2⟩ := HX.out _ _ HE5.out
        go_wp2_with fail
        refine (D1.out _ _ _ _ HE5.out.inv (HF3x.out.ev HE5.out)).mono ?_
        rintro e w6 ⟨a', c', rfl, he⟩
        have HE6 := Lib.hid (HE5.out.trans he)
        clear he x0 x1 x2
        obtain ⟨x0, x1, x2⟩ := HX.out _ _ HE6.out
        go_wp2_with fail
        refine (D2.out _ _ _ _ HE6.out.inv (HF3x.out.ev HE6.out)).mono ?_
        rintro e w7 ⟨rfl, he⟩
        have HE7 := Lib.hid (HE6.out.trans he)
        clear he x0 x1 x2
        obtain ⟨x0, x1, x2⟩ := HX.out _ _ HE7.out
        go_wp2_with fail
        go_ret
        exact ⟨rfl, _, HE3.out.trans HE7.out⟩
      · have hz : ((S.length : Int) == 0) = false := by rw [beq_eq_false_iff_ne]; omega
        have h1 := HF3.out (by omega)
        have hlo0 : lo = 0 := by omega
        have hN1 : N0 = 1 := by omega
        have h2 := HF2.out hN1 hg
        have h3 := HF1.out
        by_cases ht : E + 1 = V
        · have g1 : ((E : Int) == (V : Int) + (lo : Int) - 1) = true := by rw [beq_iff_eq]; omega
          have g2 : ((F : Int) == 1) = true := by rw [beq_iff_eq]; omega
          rw [show decide (L + D = 0) = true from decide_eq_true (by omega)] at K7
          have g3 : decide ((L : Int) + (D : Int) ≤ (E : Int) - ((V : Int) + (lo : Int)) + 1) = true := by rw [decide_eq_true_eq]; omega
          clear hc hg hm0 hgt h1 h2 h3 ht hN1 hlo0
          go_enter Try.func9, Try.ntmps9
          go_wp2_with fail
          refine HA.out.mono ?_
          rintro e w1 ⟨rfl, R1, he1⟩
          have HE1 := Lib.hid he1
          clear he1
          go_wp2_with fail
          refine (HM.out R1 w1 HE1.out.inv (HV.out.ev HE1.out)).mono ?_
          rintro e w2 ⟨p, a1, c1, R2, rfl, he2, hp2, hf2⟩
          unfold refV
          have hnone : R2 w2.heap.size = none := he2.inv.none_of_ge (Nat.le_refl _)
          have hI3 := he2.inv.alloc (.cells #[.slice a1 S.length c1, .int .i64 r, .int .i64 (lo : Int)] 27)
          have hf3 := hf2.ev ((Ev.refl he2.inv).alloc (.cells #[.slice a1 S.length c1, .int .i64 r, .int .i64 (lo : Int)] 27))
          have HE2 := Lib.hid (HE1.out.trans he2)
          have HP3 := Lib.hid hp2
          have HX := Lib.hid (fun R' w' (h : Ev R2 (w2.alloc (.cells #[.slice a1 S.length c1, .int .i64 r, .int .i64 (lo : Int)] 27)) R' w') => h.ref3 hnone)
          have HF3x := Lib.hid hf3
          have HI3 := Lib.hid hI3
          clear he2 hp2 hf2 hI3 hnone hf3
          go_wp2_with fail
          obtain ⟨w3, hw3⟩ : ∃ w3, w3 = w2.alloc (.cells #[.slice a1 S.length c1, .int .i64 r, .int .i64 (lo : Int)] 27) := ⟨_, rfl⟩
          have HE3 : Hid (Ev noReg w R2 w3) := by rw [hw3]; exact HE2.out.alloc _
          rw [← hw3] at HX HF3x HI3 ⊢
          clear hw3 HE2
          refine (K1.out _ _ _ HI3.out HP3.out).mono ?_
          rintro e w4 ⟨rfl, R4, he⟩
          have HE4 := Lib.hid he
          clear he
          go_wp2_with fail
          refine (K2.out _ _ _ HE4.out.inv (HE4.out.map HP3.out)).mono ?_
          rintro e w5 ⟨rfl, R5, he⟩
          have HE5 := Lib.hid (HE4.out.trans he)
          clear he
          go_wp2_with fail
          refine (K3.out _ _ _ HE5.out.inv (HE5.out.map HP3.out)).mono ?_
          rintro e w' ⟨rfl, rfl⟩
          go_wp2_with fail
          refine (K4.out _ _ _ HE5.out.inv (HE5.out.map HP3.out)).mono ?_
          rintro e w' ⟨rfl, rfl⟩
          go_wp2_with fail
          refine (K5.out _ _ _ HE5.out.inv (HE5.out.map HP3.out)).mono ?_
          rintro e w6 ⟨rfl, R6, he⟩
          have HE6 := Lib.hid (HE5.out.trans he)
          clear he
          go_wp2_with fail
          refine (K6.out _ _ _ HE6.out.inv (HE6.out.map HP3.out)).mono ?_
          rintro e w7 ⟨rfl, R7, he⟩
          have HE7 := Lib.hid (HE6.out.trans he)
          clear he
          go_wp2_with fail
          refine (K7.out _ _ _ HE7.out.inv (HE7.out.map HP3.out)).mono ?_
          rintro e w8 ⟨rfl, R8, he⟩
          have HE8 := Lib.hid (HE7.out.trans he)
          clear he
          go_wp2_with fail
          refine (K8.out _ _ _ HE8.out.inv (HE8.out.map HP3.out)).mono ?_
          rintro e w9 ⟨rfl, R9, he⟩
          have HE9 := Lib.hid (HE8.out.trans he)
          clear he
          go_wp2_with fail
          refine (K9.out _ _ _ HE9.out.inv (HE9.out.map HP3.out)).mono ?_
          rintro e w10 ⟨rfl, R10, he⟩
          have HE10 := Lib.hid (HE9.out.trans he)
          clear he
          go_wp2_with fail
          refine (K4.out _ _ _ HE10.out.inv (HE10.out.map HP3.out)).mono ?_
          rintro e w' ⟨rfl, rfl⟩
          go_wp2_with fail
          refine (K5.out _ _ _ HE10.out.inv (HE10.out.map HP3.out)).mono ?_
          rintro e w11 ⟨rfl, R11, he⟩
          have HE11 := Lib.hid (HE10.out.trans he)
          clear he
          go_wp2_with fail
          go_ret
          exact ⟨rfl, _, HE3.out.trans HE11.out⟩
        · have g1 : ((E : Int) == (V : Int) + (lo : Int) - 1) = false := by rw [beq_eq_false_iff_ne]; omega
          have g2 : ((F : Int) == 1) = false := by rw [beq_eq_false_iff_ne]; omega
          have g3 : decide ((L : Int) + (D : Int) ≤ (E : Int) - ((V : Int) + (lo : Int)) + 1) = true := by rw [decide_eq_true_eq]; omega
          clear hc hg hm0 hgt h1 h2 h3 ht hN1 hlo0
          go_enter Try.func9, Try.ntmps9
          go_wp2_with fail
          refine HA.out.mono ?_
          rintro e w1 ⟨rfl, R1, he1⟩
          have HE1 := Lib.hid he1
          clear he1
          go_wp2_with fail
          refine (HM.out R1 w1 HE1.out.inv (HV.out.ev HE1.out)).mono ?_
          rintro e w2 ⟨p, a1, c1, R2, rfl, he2, hp2, hf2⟩
          unfold refV
          have hnone : R2 w2.heap.size = none := he2.inv.none_of_ge (Nat.le_refl _)
          have hI3 := he2.inv.alloc (.cells #[.slice a1 S.length c1, .int .i64 r, .int .i64 (lo : Int)] 27)
          have hf3 := hf2.ev ((Ev.refl he2.inv).alloc (.cells #[.slice a1 S.length c1, .int .i64 r, .int .i64 (lo : Int)] 27))
          have HE2 := Lib.hid (HE1.out.trans he2)
          have HP3 := Lib.hid hp2
          have HX := Lib.hid (fun R' w' (h : Ev R2 (w2.alloc (.cells #[.slice a1 S.length c1, .int .i64 r, .int .i64 (lo : Int)] 27)) R' w') => h.ref3 hnone)
          have HF3x := Lib.hid hf3
          have HI3 := Lib.hid hI3
          clear he2 hp2 hf2 hI3 hnone hf3
          go_wp2_with fail
          obtain ⟨w3, hw3⟩ : ∃ w3, w3 = w2.alloc (.cells #[.slice a1 S.length c1, .int .i64 r, .int .i64 (lo : Int)] 27) := ⟨_, rfl⟩
          have HE3 : Hid (Ev noReg w R2 w3) := by rw [hw3]; exact HE2.out.alloc _
          rw [← hw3] at HX HF3x HI3 ⊢
          clear hw3 HE2
          refine (K1.out _ _ _ HI3.out HP3.out).mono ?_
          rintro e w4 ⟨rfl, R4, he⟩
          have HE4 := Lib.hid he
          clear he
          go_wp2_with fail
          refine (K2.out _ _ _ HE4.out.inv (HE4.out.map HP3.out)).mono ?_
          rintro e w5 ⟨rfl, R5, he⟩
          have HE5 := Lib.hid (HE4.out.trans he)
          clear he
          go_wp2_with fail
          refine (K3.out _ _ _ HE5.out.inv (HE5.out.map HP3.out)).mono ?_
          rintro e w' ⟨rfl, rfl⟩
          go_wp2_with fail
          refine (K4.out _ _ _ HE5.out.inv (HE5.out.map HP3.out)).mono ?_
          rintro e w' ⟨rfl, rfl⟩
          go_wp2_with fail
          refine (K5.out _ _ _ HE5.out.inv (HE5.out.map HP3.out)).mono ?_
          rintro e w6 ⟨rfl, R6, he⟩
          have HE6 := Lib.hid (HE5.out.trans he)
          clear he
          go_wp2_with fail
          refine (K6.out _ _ _ HE6.out.inv (HE6.out.map HP3.out)).mono ?_
          rintro e w7 ⟨rfl, R7, he⟩
          have HE7 := Lib.hid (HE6.out.trans he)
          clear he
          go_wp2_with fail
          refine (K8.out _ _ _ HE7.out.inv (HE7.out.map HP3.out)).mono ?_
          rintro e w8 ⟨rfl, R8, he⟩
          have HE8 := Lib.hid (HE7.out.trans he)
          clear he
          go_wp2_with fail
          refine (K9.out _ _ _ HE8.out.inv (HE8.out.map HP3.out)).mono ?_
          rintro e w9 ⟨rfl, R9, he⟩
          have HE9 := Lib.hid (HE8.out.trans he)
          clear he
          go_wp2_with fail
          refine (K4.out _ _ _ HE9.out.inv (HE9.out.map HP3.out)).mono ?_
          rintro e w' ⟨rfl, rfl⟩
          go_wp2_with fail
          refine (K5.out _ _ _ HE9.out.inv (HE9.out.map HP3.out)).mono ?_
          rintro e w10 ⟨rfl, R10, he⟩
          have HE10 := Lib.hid (HE9.out.trans he)
          clear he
          go_wp2_with fail
          go_ret
          exact ⟨rfl, _, HE3.out.trans HE10.out⟩
    · have hgt : (G == 0) = false := by rw [beq_eq_false_iff_ne]; exact hg
      have hgn : (G != 0) = true := by rw [bne_iff_ne]; exact hg
      rw [hgt] at K2
      have hc1 : (((N0 + lo : Nat) : Int) != 1) = false := by rw [bne_eq_false_iff_eq]; omega
      have hc1' : ((N0 : Int) + (lo : Int) != 1) = false := by rw [bne_eq_false_iff_eq]; omega
      clear hc hg hgt
      go_enter Try.func9, Try.ntmps9
      go_wp2_with fail
      refine HA.out.mono ?_
      rintro e w1 ⟨rfl, R1, he1⟩
      have HE1 := Lib.hid he1
      clear he1
      go_wp2_with fail
      refine (HM.out R1 w1 HE1.out.inv (HV.out.ev HE1.out)).mono ?_
      rintro e w2 ⟨p, a1, c1, R2, rfl, he2, hp2, hf2⟩
      unfold refV
      have hnone : R2 w2.heap.size = none := he2.inv.none_of_ge (Nat.le_refl _)
      have hI3 := he2.inv.alloc (.cells #[.slice a1 S.length c1, .int .i64 r, .int .i64 (lo : Int)] 27)
      have hf3 := hf2.ev ((Ev.refl he2.inv).alloc (.cells #[.slice a1 S.length c1, .int .i64 r, .int .i64 (lo : Int)] 27))
      have HE2 := Lib.hid (HE1.out.trans he2)
      have HP3 := Lib.hid hp2
      have HX := Lib.hid (fun R' w' (h : Ev R2 (w2.alloc (.cells #[.slice a1 S.length c1, .int .i64 r, .int .i64 (lo : Int)] 27)) R' w') => h.ref3 hnone)
      have HF3x := Lib.hid hf3
      have HI3 := Lib.hid hI3
      clear he2 hp2 hf2 hI3 hnone hf3
      go_wp2_with fail
      obtain ⟨w3, hw3⟩ : ∃ w3, w3 = w2.alloc (.cells #[.slice a1 S.length c1, .int .i64 r, .int .i64 (lo : Int)] 27) := ⟨_, rfl⟩
      have HE3 : Hid (Ev noReg w R2 w3) := by rw [hw3]; exact HE2.out.alloc _
      rw [← hw3] at HX HF3x HI3 ⊢
      clear hw3 HE2
      refine (K1.out _ _ _ HI3.out HP3.out).mono ?_
      rintro e w4 ⟨rfl, R4, he⟩
      have HE4 := Lib.hid he
      clear he
      go_wp2_with fail
      refine (K2.out _ _ _ HE4.out.inv (HE4.out.map HP3.out)).mono ?_
      rintro e w5 ⟨rfl, R5, he⟩
      have HE5 := Lib.hid (HE4.out.trans he)
      clear he
      obtain ⟨x0, x1, x2⟩ := HX.out _ _ HE5.out
      go_wp2_with fail
      refine (D1.out _ _ _ _ HE5.out.inv (HF3x.out.ev HE5.out)).mono ?_
      rintro e w6 ⟨a', c', rfl, he⟩
      have HE6 := Lib.hid (HE5.out.trans he)
      clear he x0 x1 x2
      obtain ⟨x0, x1, x2⟩ := HX.out _ _ HE6.out
      go_wp2_with fail
      refine (D2.out _ _ _ _ HE6.out.inv (HF3x.out.ev HE6.out)).mono ?_
      rintro e w7 ⟨rfl, he⟩
      have HE7 := Lib.hid (HE6.out.trans he)
      clear he x0 x1 x2
      obtain ⟨x0, x1, x2⟩ := HX.out _ _ HE7.out
      go_wp2_with fail
      go_ret
      exact ⟨rfl, _, HE3.out.trans HE7.out⟩
  · rw [decide_eq_false hc] at K1
    have hc1 : (((N0 + lo : Nat) : Int) != 1) = true := by rw [bne_iff_ne]; omega
    have hc1' : ((N0 : Int) + (lo : Int) != 1) = true := by rw [bne_iff_ne]; omega
    clear hc
    go_enter Try.func9, Try.ntmps9
    go_wp2_with fail
    refine HA.out.mono ?_
    rintro e w1 ⟨rfl, R1, he1⟩
    have HE1 := Lib.hid he1
    clear he1
    go_wp2_with fail
    refine (HM.out R1 w1 HE1.out.inv (HV.out.ev HE1.out)).mono ?_
    rintro e w2 ⟨p, a1, c1, R2, rfl, he2, hp2, hf2⟩
    unfold refV
    have hnone : R2 w2.heap.size = none := he2.inv.none_of_ge (Nat.le_refl _)
    have hI3 := he2.inv.alloc (.cells #[.slice a1 S.length c1, .int .i64 r, .int .i64 (lo : Int)] 27)
    have hf3 := hf2.ev ((Ev.refl he2.inv).alloc (.cells #[.slice a1 S.length c1, .int .i64 r, .int .i64 (lo : Int)] 27))
    have HE2 := Lib.hid (HE1.out.trans he2)
    have HP3 := Lib.hid hp2
    have HX := Lib.hid (fun R' w' (h : Ev R2 (w2.alloc (.cells #[.slice a1 S.length c1, .int .i64 r, .int .i64 (lo : Int)] 27)) R' w') => h.ref3 hnone)
    have HF3x := Lib.hid hf3
    have HI3 := Lib.hid hI3
    clear he2 hp2 hf2 hI3 hnone hf3
    go_wp2_with fail
    obtain ⟨w3, hw3⟩ : ∃ w3, w3 = w2.alloc (.cells #[.slice a1 S.length c1, .int .i64 r, .int .i64 (lo : Int)] 27) := ⟨_, rfl⟩
    have HE3 : Hid (Ev noReg w R2 w3) := by rw [hw3]; exact HE2.out.alloc _
    rw [← hw3] at HX HF3x HI3 ⊢
    clear hw3 HE2
    refine (K1.out _ _ _ HI3.out HP3.out).mono ?_
    rintro e w4 ⟨rfl, R4, he⟩
    have HE4 := Lib.hid he
    clear he
    obtain ⟨x0, x1, x2⟩ := HX.out _ _ HE4.out
    go_wp2_with fail
    refine (D1.out _ _ _ _ HE4.out.inv (HF3x.out.ev HE4.out)).mono ?_
    rintro e w5 ⟨a', c', rfl, he⟩
    have HE5 := Lib.hid (HE4.out.trans he)
    clear he x0 x1 x2
    obtain ⟨x0, x1, x2⟩ := HX.out _ _ HE5.out
    go_wp2_with fail
    go_ret
    exact ⟨rfl, _, HE3.out.trans HE5.out⟩

end Go.Proofs.Ytedocjhbmhllcaa
