/- parquetrylaw06.DartSums, the walk: it answers true. Conditions: the bytes lie in memory. -/
import Derived.Test.YtedocjhbmhllcaaLaw6P
import Derived.Test.YtedocjhbmhllcaaMapsA
import Derived.Test.YtedocjhbmhllcaaMathG
namespace Go.Proofs.Ytedocjhbmhllcaa
open Go.RowKit Go.Maps
set_option linter.unusedVariables false

set_option maxRecDepth 100000 in
set_option maxHeartbeats 4000000 in
theorem dartSums_walk (w : World) (n rt ln : Nat) (hn : n ≤ 255) (hr : rt ≤ 255) (hl : ln ≤ 255) (v : Value) (bs : List Nat) (hv : FreeB noReg w v bs) :
    Calls Try.prog 6 #[.int .u8 (n : Int), v, .int .u8 (rt : Int), .int .u8 (ln : Int)] w (RetTrue noReg w) := by
  have HA := Lib.hid (awake6_any noReg w (Inv.noReg w))
  have hnot := not_run
  have hmm := @run_makeMap Try.prog
  have HV := Lib.hid hv
  have hS := mixL_perm (2 * (n % 10)) bs
  have hSl := mixL_length (2 * (n % 10)) bs
  have HM := Lib.hid (fun R w' (hI : Inv R w') (hv : FreeB R w' v bs) => made_any R w' hI n rt ln hn hr hl v bs hv)
  obtain ⟨S, hSe⟩ : ∃ S, mixL (2 * (n % 10)) bs = S := ⟨_, rfl⟩
  obtain ⟨r, hre⟩ : ∃ r, anyRoot (n % 10) rt = r := ⟨_, rfl⟩
  obtain ⟨lo, hlo⟩ : ∃ lo, ln % 5 = lo := ⟨_, rfl⟩
  have hlo5 : lo ≤ 4 := by omega
  obtain ⟨m, hm⟩ : ∃ m, 2 * (n % 10) = m := ⟨_, rfl⟩
  have hm20 : m ≤ 18 := by omega
  have hev : m % 2 = 0 := by omega
  rw [hSe, hre, hlo] at HM
  rw [hSe, hm] at hSl
  rw [hSe] at hS
  have HS := Lib.hid hS
  have HSL := Lib.hid hSl
  have HPP := Lib.hid (phiL_perm hS (by rw [hSl]; exact hev))
  have HPL := Lib.hid (show (phiL S).length = m by rw [phiL_length, hSl])
  obtain ⟨a0, c0, rfl, _⟩ := hv
  clear hSe hre hlo hS hSl hm
  go_enter Try.func6, Try.ntmps6
  go_wp2_with fail
  refine HA.out.mono ?_
  rintro e w1 ⟨rfl, R1, he1⟩
  have HE1 := Lib.hid he1
  clear he1
  go_wp2_with fail
  refine (HM.out R1 w1 HE1.out.inv (HV.out.ev HE1.out)).mono ?_
  rintro e w2 ⟨p, a1, c1, R2, rfl, he2, hp2, hf2⟩
  unfold refV
  have hnone : R2 w2.heap.size = none := he2.inv.none_of_ge (Nat.le_refl _)
  have hI3 := he2.inv.alloc (.cells #[.slice a1 S.length c1, .int .i64 r, .int .i64 (lo : Int)] 27)
  have HE2 := Lib.hid (HE1.out.trans he2)
  have HP3 := Lib.hid hp2
  have HI3 := Lib.hid hI3
  have HX := Lib.hid (fun R' w' (h : Ev R2 (w2.alloc (.cells #[.slice a1 S.length c1, .int .i64 r, .int .i64 (lo : Int)] 27)) R' w') => h.ref3 hnone)
  clear he2 hp2 hf2 hI3 hnone
  go_wp2_with fail
  obtain ⟨w3, hw3⟩ : ∃ w3, w3 = w2.alloc (.cells #[.slice a1 S.length c1, .int .i64 r, .int .i64 (lo : Int)] 27) := ⟨_, rfl⟩
  have HE3 : Hid (Ev noReg w R2 w3) := by rw [hw3]; exact HE2.out.alloc _
  have hX3 : ∀ R' w', Ev R2 w3 R' w' → w'.cell? ⟨w2.heap.size, 0, none⟩ = some (.slice a1 S.length c1) ∧ w'.cell? ⟨w2.heap.size, 1, none⟩ = some (.int .i64 r) ∧ w'.cell? ⟨w2.heap.size, 2, none⟩ = some (.int .i64 (lo : Int)) := by rw [hw3]; exact HX.out
  have hB : w3.heap.size = w2.heap.size + 1 := by rw [hw3]; simp
  rw [← hw3] at HI3 ⊢
  have HX3 := Lib.hid hX3
  clear hw3 HX hX3
  have hm1 := CntMap.made HI3.out
  have hm2 := CntMap.made (HI3.out.alloc (.map #[] 0))
  have he5 : Ev R2 w3 R2 ((w3.alloc (.map #[] 0)).alloc (.map #[] 0)) := ((Ev.refl HI3.out).alloc _).alloc _
  have hm1 := hm1.ev ((Ev.refl (HI3.out.alloc (.map #[] 0))).alloc (.map #[] 0))
  have hs4 : (w3.alloc (.map #[] 0)).heap.size = w2.heap.size + 1 + 1 := by simp [hB]
  rw [hs4] at hm2
  rw [hB] at hm1
  have hBB : w3.heap.size ≤ w2.heap.size + 1 := by omega
  obtain ⟨w5, hw5⟩ : ∃ w5, w5 = (w3.alloc (.map #[] 0)).alloc (.map #[] 0) := ⟨_, rfl⟩
  rw [← hw5] at hm1 hm2 he5 ⊢
  clear hw5 hB hs4
  obtain ⟨B1, hB1⟩ : ∃ B, w2.heap.size + 1 = B := ⟨_, rfl⟩
  rw [hB1] at hm1 hm2 hBB ⊢
  have HE5 := Lib.hid he5
  have HM1 := Lib.hid hm1
  have HM2 := Lib.hid hm2
  clear hB1 he5 hm1 hm2
  go_loopg [30, 13] m (fun g v30 v13 wr => ∃ (k : Nat) (Rk : Reg), k ≤ m ∧ m - k ≤ g ∧ v30 = .int .i64 (k : Int) ∧ Ev R2 w3 Rk wr ∧ CntMap Rk wr B1 k (sizesGo (phiL S) k) ∧ CntMap Rk wr (B1 + 1) k (sizesGo S k))
  case atStart => exact ⟨0, R2, Nat.zero_le _, by omega, rfl, HE5.out, by rw [sizesGo_zero]; exact HM1.out, by rw [sizesGo_zero]; exact HM2.out⟩
  case round =>
    obtain ⟨k, Rk, hk, hg, rfl, he, h1, h2⟩ := hrel
    have HEk := Lib.hid he
    have HK1 := Lib.hid h1
    have HK2 := Lib.hid h2
    clear he h1 h2
    by_cases hkm : k < m
    · have hks : k < S.length := by rw [HSL.out]; exact hkm
      have hkp : k < (phiL S).length := by rw [HPL.out]; exact hkm
      have hw1 := names_lt HPP.out hkp
      have hw2 := names_lt HS.out hks
      obtain ⟨y1, hy1⟩ := Int.eq_ofNat_of_zero_le hw1.1
      obtain ⟨y2, hy2⟩ := Int.eq_ofNat_of_zero_le hw2.1
      have hl1 : y1 ≤ (sizesGo (phiL S) k).length := by
        rw [sizesGo_length HPP.out k (by omega)]
        rcases names_next HPP.out hkp with ⟨_, b, _⟩ | ⟨b, _⟩ <;> omega
      have hl2 : y2 ≤ (sizesGo S k).length := by
        rw [sizesGo_length HS.out k (by omega)]
        rcases names_next HS.out hks with ⟨_, b, _⟩ | ⟨b, _⟩ <;> omega
      have hc1 := sizesGo_bound (s := phiL S) k (by omega) y1
      have hc2 := sizesGo_bound (s := S) k (by omega) y2
      have hz1 := namesGo_count (phiL S) k
      have hz2 := namesGo_count S k
      rw [← sizesGo_length HPP.out k (by omega)] at hz1
      rw [← sizesGo_length HS.out k (by omega)] at hz2
      have hy1b : y1 ≤ 18 := by omega
      have hy2b : y2 ≤ 18 := by omega
      have hn1 := sizesGo_succ (s := phiL S) hkp
      have hn2 := sizesGo_succ (s := S) hks
      rw [hy1] at hn1
      rw [hy2] at hn2
      have f1 := face_any Rk wr HEk.out.inv p S r lo (HEk.out.map HP3.out) k
      have f2 := fun R' w' (he : Ev R2 w3 R' w') => vertex_any R' w' he.inv p S r lo (he.map HP3.out) k
      rw [nameI_in hkp, hy1] at f1
      rw [nameI_in hks, hy2] at f2
      have F1 := Lib.hid f1
      have F2 := Lib.hid f2
      have N1 := Lib.hid hn1
      have N2 := Lib.hid hn2
      have L1 := Lib.hid hl1
      have L2 := Lib.hid hl2
      have C1 := Lib.hid hc1
      have C2 := Lib.hid hc2
      clear hw1 hw2 hy1 hy2 f1 f2 hn1 hn2 hl1 hl2 hc1 hc2 hz1 hz2 hkp
      go_wp2_with fail
      refine F1.out.mono ?_
      rintro e wa ⟨rfl, Ra, hea⟩
      have HEa := Lib.hid (HEk.out.trans hea)
      have HA1 := Lib.hid (HK1.out.ev hea)
      have HA2 := Lib.hid (HK2.out.ev hea)
      clear hea
      obtain ⟨q1, hq1⟩ : ∃ q, nth (sizesGo (phiL S) k) y1 = q := ⟨_, rfl⟩
      have hlk := HA1.out.look y1 (by omega)
      obtain ⟨D1, hown, hD1, t1, t2, t3⟩ := HA1.out.open
      have T1 := Lib.hid t1
      have T2 := Lib.hid t2
      have T3 := Lib.hid t3
      have HD1 := Lib.hid hD1
      have hb1 : 0 ≤ q1 ∧ q1 ≤ 18 := by have := C1.out; rw [hq1] at this; omega
      obtain ⟨b1, b2⟩ := hb1
      rw [hq1] at hlk
      have HQ1 := Lib.hid hq1
      have HO1 := Lib.hid hown
      have hkey1 : keyOf Try.prog 3 (.int .i64 (y1 : Int)) = some (.int .i64 (y1 : Int)) := keyOf_int_mk Try.underlying3 (WalkArith.wf_i64 (by omega))
      have HKY1 := Lib.hid hkey1
      clear t1 t2 t3 hD1 hq1 hown hkey1
      go_wp2_with (first | (at_mapUpdate; refine wpList_mapUpdate_own _ rfl _ _ _ 46 rfl 3 3 mapKeyed Try.underlying46 _ B1 k D1 rfl HO1.out (by unfold maxLen; omega) _ _ _ rfl rfl HKY1.out _ [] (plainElem_int Try.underlying3 (WalkArith.wf_i64 (by omega))) ?_; intro wb hown1 hgrow1) | fail)
      have HB1 : Hid (CntMap Ra wb B1 (k + 1) (sizesGo (phiL S) (k + 1))) := Lib.hid (by rw [N1.out]; exact HA1.out.shut HD1.out L1.out T1.out T2.out T3.out (by rw [HQ1.out]; exact hown1))
      have HB2 := Lib.hid (HA2.out.kept hgrow1 (show B1 + 1 ≠ B1 by omega))
      have HEb := Lib.hid (HEa.out.grown hgrow1 (fun k e => by cases e; exact ⟨hBB, HA1.out.1⟩))
      clear hlk hown1 hgrow1 b1 b2 HO1 HKY1 HQ1 T1 T2 T3 HD1
      refine (F2.out _ _ HEb.out).mono ?_
      rintro e wc ⟨rfl, Rc, hec⟩
      have HEc := Lib.hid (HEb.out.trans hec)
      have HC1 := Lib.hid (HB1.out.ev hec)
      have HC2 := Lib.hid (HB2.out.ev hec)
      clear hec
      obtain ⟨q2, hq2⟩ : ∃ q, nth (sizesGo S k) y2 = q := ⟨_, rfl⟩
      have hlk := HC2.out.look y2 (by omega)
      obtain ⟨D2, hown, hD2, t1, t2, t3⟩ := HC2.out.open
      have T1 := Lib.hid t1
      have T2 := Lib.hid t2
      have T3 := Lib.hid t3
      have HD2 := Lib.hid hD2
      have hb1 : 0 ≤ q2 ∧ q2 ≤ 18 := by have := C2.out; rw [hq2] at this; omega
      obtain ⟨b1, b2⟩ := hb1
      rw [hq2] at hlk
      have HQ2 := Lib.hid hq2
      have HO2 := Lib.hid hown
      have hkey2 : keyOf Try.prog 3 (.int .i64 (y2 : Int)) = some (.int .i64 (y2 : Int)) := keyOf_int_mk Try.underlying3 (WalkArith.wf_i64 (by omega))
      have HKY2 := Lib.hid hkey2
      have HZ := Lib.hid (show at' (phiL S) k = at' S (k ^^^ 1) from phiL_at hks)
      have hx1 : k ^^^ 1 < m := xor_one_lt hev hkm
      have hx2 : k ^^^ 1 < S.length := by rw [HSL.out]; exact hx1
      have hzl := HS.out.lt hx2
      have hbk := at_invL HS.out hks
      obtain ⟨z, hz⟩ : ∃ z, at' S (k ^^^ 1) = z := ⟨_, rfl⟩
      obtain ⟨bk, hbke⟩ : ∃ z, at' (invL S) k = z := ⟨_, rfl⟩
      rw [hz] at hzl HZ
      rw [hbke] at hbk
      have p1 := fun R' w' (he : Ev R2 w3 R' w') => phi_any R' w' he.inv p S r lo (he.map HP3.out) k
      rw [atI_in (by rw [HPL.out]; exact hkm), HZ.out] at p1
      have p2 := fun R' w' (he : Ev R2 w3 R' w') => mback_any R' w' he.inv p S r lo (he.map HP3.out) z
      rw [backI_in hzl, ← hz, invL_at HS.out hx2, hz] at p2
      have p3 := fun R' w' (he : Ev R2 w3 R' w') => mate_any R' w' he.inv p S r lo (he.map HP3.out) k
      rw [mateI_in hks] at p3
      have p4 := fun R' w' (he : Ev R2 w3 R' w') => mate_any R' w' he.inv p S r lo (he.map HP3.out) ((k ^^^ 1 : Nat) : Int)
      rw [mateI_in hx2, xor_one_one] at p4
      have p5 := fun R' w' (he : Ev R2 w3 R' w') => mback_any R' w' he.inv p S r lo (he.map HP3.out) k
      rw [backI_in hks, hbke] at p5
      have p6 := fun R' w' (he : Ev R2 w3 R' w') => sigma_any R' w' he.inv p S r lo (he.map HP3.out) bk
      rw [atI_in hbk.2, hbk.1] at p6
      obtain ⟨x1, hx1e⟩ : ∃ x, k ^^^ 1 = x := ⟨_, rfl⟩
      rw [hx1e] at p2 p3 p4
      have P1 := Lib.hid p1
      have P2 := Lib.hid p2
      have P3 := Lib.hid p3
      have P4 := Lib.hid p4
      have P5 := Lib.hid p5
      have P6 := Lib.hid p6
      clear t1 t2 t3 hD2 hq2 hown hkey2 p1 p2 p3 p4 p5 p6 hx1 hx2 hzl hbk hz hbke HZ hx1e
      go_wp2_with (first | (at_mapUpdate; refine wpList_mapUpdate_own _ rfl _ _ _ 46 rfl 3 3 mapKeyed Try.underlying46 _ (B1 + 1) k D2 rfl HO2.out (by unfold maxLen; omega) _ _ _ rfl rfl HKY2.out _ [] (plainElem_int Try.underlying3 (WalkArith.wf_i64 (by omega))) ?_; intro wd hown2 hgrow2) | fail)
      have HF2 : Hid (CntMap Rc wd (B1 + 1) (k + 1) (sizesGo S (k + 1))) := Lib.hid (by rw [N2.out]; exact HC2.out.shut HD2.out L2.out T1.out T2.out T3.out (by rw [HQ2.out]; exact hown2))
      have HF1 := Lib.hid (HC1.out.kept hgrow2 (show B1 ≠ B1 + 1 by omega))
      have HEd := Lib.hid (HEc.out.grown hgrow2 (fun k e => by cases e; exact ⟨by omega, HC2.out.1⟩))
      clear hlk hown2 hgrow2 b1 b2 HO2 HKY2 HQ2 T1 T2 T3 HD2
      refine (P1.out _ _ HEd.out).mono ?_
      rintro e w' ⟨rfl, rfl⟩
      go_wp2_with fail
      refine (P2.out _ _ HEd.out).mono ?_
      rintro e we ⟨rfl, Re, hee⟩
      have HEe := Lib.hid (HEd.out.trans hee)
      have HG1 := Lib.hid (HF1.out.ev hee)
      have HG2 := Lib.hid (HF2.out.ev hee)
      clear hee
      go_wp2_with fail
      refine (P3.out _ _ HEe.out).mono ?_
      rintro e w' ⟨rfl, rfl⟩
      go_wp2_with fail
      refine (P3.out _ _ HEe.out).mono ?_
      rintro e w' ⟨rfl, rfl⟩
      go_wp2_with fail
      refine (P4.out _ _ HEe.out).mono ?_
      rintro e w' ⟨rfl, rfl⟩
      go_wp2_with fail
      refine (P5.out _ _ HEe.out).mono ?_
      rintro e wf ⟨rfl, Rf, hef⟩
      have HEf := Lib.hid (HEe.out.trans hef)
      have HH1 := Lib.hid (HG1.out.ev hef)
      have HH2 := Lib.hid (HG2.out.ev hef)
      clear hef
      go_wp2_with fail
      refine (P6.out _ _ HEf.out).mono ?_
      rintro e w' ⟨rfl, rfl⟩
      go_wp2_with fail
      go_roundg (m - (k + 1))
      case measure => omega
      case rel => exact ⟨k + 1, Rf, by omega, by omega, by go_num, HEf.out, HH1.out, HH2.out⟩
    · obtain rfl : k = m := by omega
      have hks : ¬ k < S.length := by rw [HSL.out]; omega
      have HS1 : Hid (CntMap Rk wr B1 k (sizesL (phiL S))) := Lib.hid (by rw [← sizesGo_all, HPL.out]; exact HK1.out)
      have HS2 : Hid (CntMap Rk wr (B1 + 1) k (sizesL S)) := Lib.hid (by rw [← sizesGo_all, HSL.out]; exact HK2.out)
      obtain ⟨x0, x1, x2⟩ := HX3.out _ _ HEk.out
      clear hkm hg hk
      go_wp2_with fail
      clear hks x0 x1 x2 HK1 HK2
      go_loopg [76, 14] k (fun g v76 v14 wr' => ∃ (j : Nat) (Rj : Reg), j ≤ k ∧ k - j ≤ g ∧ v76 = .int .i64 (j : Int) ∧ Ev Rk wr Rj wr')
      case atStart => exact ⟨0, Rk, Nat.zero_le _, by omega, rfl, Ev.refl HEk.out.inv⟩
      case round =>
        obtain ⟨j, Rj, hj, hg, rfl, he⟩ := hrel
        have HEj := Lib.hid he
        clear he
        by_cases hjk : j < k
        · have hjs : j < S.length := by rw [HSL.out]; exact hjk
          have hjp : j < (phiL S).length := by rw [HPL.out]; exact hjk
          have hw1 := names_lt HPP.out hjp
          have hw2 := names_lt HS.out hjs
          obtain ⟨y1, hy1⟩ := Int.eq_ofNat_of_zero_le hw1.1
          obtain ⟨y2, hy2⟩ := Int.eq_ofNat_of_zero_le hw2.1
          have hb1 := sizesL_le HPP.out
          have hb2 := sizesL_le HS.out
          have hO1 := orbit_size HPP.out hjp hy1
          have hO2 := orbit_size HS.out hjs hy2
          rw [HPL.out] at hb1
          rw [HSL.out] at hb2
          obtain ⟨o1, ho1⟩ : ∃ o, (orbitL (phiL S) j).length = o := ⟨_, rfl⟩
          obtain ⟨o2, ho2⟩ : ∃ o, (orbitL S j).length = o := ⟨_, rfl⟩
          rw [ho1] at hO1
          rw [ho2] at hO2
          have f1 := fun R' w' (he : Ev Rk _ R' w') => HS1.out.ev he
          have f2 := fun R' w' (he : Ev Rk _ R' w') => HS2.out.ev he
          have K1 : Hid (∀ R' w', Ev Rj wr R' w' → (Instr.lookup 46 (.map (some B1)) (.int .i64 (y1 : Int)) false).run Try.prog w' = .ok (.int .i64 (o1 : Int)) w') := Lib.hid (fun R' w' he => by have := (f1 _ _ (HEj.out.trans he)).look y1 (by omega); rw [hO1] at this; exact this)
          have K2 : Hid (∀ R' w', Ev Rj wr R' w' → (Instr.lookup 46 (.map (some (B1 + 1))) (.int .i64 (y2 : Int)) false).run Try.prog w' = .ok (.int .i64 (o2 : Int)) w') := Lib.hid (fun R' w' he => by have := (f2 _ _ (HEj.out.trans he)).look y2 (by omega); rw [hO2] at this; exact this)
          have HEt := Lib.hid (HEk.out.trans HEj.out)
          have g1 := fun R' w' (he : Ev Rj wr R' w') => face_any R' w' he.inv p S r lo ((HEt.out.trans he).map HP3.out) j
          have g2 := fun R' w' (he : Ev Rj wr R' w') => vertex_any R' w' he.inv p S r lo ((HEt.out.trans he).map HP3.out) j
          rw [nameI_in hjp, hy1] at g1
          rw [nameI_in hjs, hy2] at g2
          have G3 : Hid (∀ R' w', Ev Rj wr R' w' → Calls Try.prog 41 #[p, .int .i64 (j : Int)] w' (fun e w2 => ∃ a c, e = .returned (.slice a o1 c) ∧ Ev R' w' R' w2)) := Lib.hid (fun R' w' he => (border_any R' w' he.inv p S r lo ((HEt.out.trans he).map HP3.out) j).mono (by
            rintro e w2 ⟨v, rfl, he2, ho⟩
            obtain ⟨a, c, rfl, _⟩ := ho.free.open
            rw [orbI_in hjp, toI_length, ho1]
            exact ⟨a, c, rfl, he2⟩))
          have G4 : Hid (∀ R' w', Ev Rj wr R' w' → Calls Try.prog 42 #[p, .int .i64 (j : Int)] w' (fun e w2 => ∃ a c, e = .returned (.slice a o2 c) ∧ Ev R' w' R' w2)) := Lib.hid (fun R' w' he => (around_any R' w' he.inv p S r lo ((HEt.out.trans he).map HP3.out) j).mono (by
            rintro e w2 ⟨v, rfl, he2, ho⟩
            obtain ⟨a, c, rfl, _⟩ := ho.free.open
            rw [orbI_in hjs, toI_length, ho2]
            exact ⟨a, c, rfl, he2⟩))
          have G1 := Lib.hid g1
          have G2 := Lib.hid g2
          have HEd := Lib.hid ((Ev.refl HEj.out.inv).drew)
          clear f1 f2 g1 g2 hw1 hw2 hy1 hy2 hb1 hb2 hO1 hO2 ho1 ho2 hjp
          have k1 := K1.out _ _ HEd.out
          have k2 := K2.out _ _ HEd.out
          go_wp2_with fail
          go_cut [100] (fun s100 wx => s100 = .bool false ∧ ∃ R', Ev Rj wr R' wx)
          case first =>
            go_region_held3 (fun w' => (Instr.lookup 46 (.map (some B1)) (.int .i64 (y1 : Int)) false).run Try.prog w' = .ok (.int .i64 (o1 : Int)) w' ∧ (Instr.lookup 46 (.map (some (B1 + 1))) (.int .i64 (y2 : Int)) false).run Try.prog w' = .ok (.int .i64 (o2 : Int)) w') (exact ⟨k1, k2⟩) (first | (go_at_call 21; refine (G1.out _ _ HEd.out).mono ?_; rintro e w' ⟨rfl, R', he⟩; have HEd := Lib.hid (HEd.out.trans he); clear he; have k1 := K1.out _ _ HEd.out; have k2 := K2.out _ _ HEd.out) | (go_at_call 20; refine (G2.out _ _ HEd.out).mono ?_; rintro e w' ⟨rfl, R', he⟩; have HEd := Lib.hid (HEd.out.trans he); clear he; have k1 := K1.out _ _ HEd.out; have k2 := K2.out _ _ HEd.out) | (go_at_call 41; refine (G3.out _ _ HEd.out).mono ?_; rintro e w' ⟨a', c', rfl, he⟩; have HEd := Lib.hid (HEd.out.trans he); clear he; have k1 := K1.out _ _ HEd.out; have k2 := K2.out _ _ HEd.out) | (go_at_call 42; refine (G4.out _ _ HEd.out).mono ?_; rintro e w' ⟨a', c', rfl, he⟩; have HEd := Lib.hid (HEd.out.trans he); clear he; have k1 := K1.out _ _ HEd.out; have k2 := K2.out _ _ HEd.out))
            all_goals (go_wp2_with fail; go_meet; exact ⟨rfl, _, HEd.out⟩)
          case rest =>
            obtain ⟨rfl, R', he⟩ := hcut
            have HEn := Lib.hid he
            clear he k1 k2 HEd
            go_wp2_with fail
            go_roundg (k - (j + 1))
            case measure => omega
            case rel => exact ⟨j + 1, R', by omega, by omega, by go_num, HEj.out.trans HEn.out⟩
        · obtain rfl : j = k := by omega
          have hjs : ¬ j < S.length := by rw [HSL.out]; exact Nat.lt_irrefl _
          have hb1 := sizesL_le HPP.out
          have hb2 := sizesL_le HS.out
          rw [HPL.out] at hb1
          rw [HSL.out] at hb2
          have HEt := Lib.hid (HEk.out.trans HEj.out)
          have hl1 := fun ty => (HS1.out.ev HEj.out).len ty
          have hl2 := fun R' w' (he : Ev Rj wr R' w') ty => ((HS2.out.ev HEj.out).ev he).len ty
          have g1 := borders_any Rj wr HEj.out.inv p S r lo (HEt.out.map HP3.out)
          have g2 := fun R' w' (he : Ev Rj wr R' w') => vertices_any R' w' he.inv p S r lo ((HEt.out.trans he).map HP3.out)
          have g3 := fun R' w' (he : Ev Rj wr R' w') => lone_any R' w' he.inv p S r lo ((HEt.out.trans he).map HP3.out)
          obtain ⟨C, hC⟩ : ∃ C, (sizesL S).length = C := ⟨_, rfl⟩
          obtain ⟨F, hF⟩ : ∃ C, (sizesL (phiL S)).length = C := ⟨_, rfl⟩
          obtain ⟨D, hD⟩ : ∃ D, D = C + lo := ⟨_, rfl⟩
          have hDD : (C : Int) + (lo : Int) = (D : Int) := by omega
          rw [hF] at hl1 g1 hb1
          rw [hC] at hl2 g2 hb2
          rw [hDD] at g2
          have hsub : ((C : Int) == (D : Int) - (lo : Int)) = true := by rw [beq_iff_eq]; omega
          have hwr : IntKind.i64.wrap ((D : Int) - (lo : Int)) = (D : Int) - (lo : Int) := IntWalk.i64_in _ (by omega)
          have hff : ((F : Int) == (F : Int)) = true := by simp
          have G1 := Lib.hid g1
          have G2 := Lib.hid g2
          have G3 := Lib.hid g3
          have HL2 := Lib.hid hl2
          clear g1 g2 g3 hl2 hC hF hD hDD hb1 hb2 hjk hg hj
          go_wp2_with fail
          refine G1.out.mono ?_
          rintro e wx ⟨rfl, Rx, hex⟩
          have HEx := Lib.hid hex
          have hl2 := HL2.out _ _ hex
          clear hex hl1
          go_wp2_with fail
          refine (G2.out _ _ HEx.out).mono ?_
          rintro e wy ⟨rfl, Ry, hey⟩
          have HEy := Lib.hid (HEx.out.trans hey)
          clear hey hl2
          go_wp2_with fail
          refine (G3.out _ _ HEy.out).mono ?_
          rintro e w' ⟨rfl, rfl⟩
          go_wp2_with fail
          go_ret
          exact ⟨rfl, _, HE3.out.trans (HEt.out.trans HEy.out)⟩

end Go.Proofs.Ytedocjhbmhllcaa
