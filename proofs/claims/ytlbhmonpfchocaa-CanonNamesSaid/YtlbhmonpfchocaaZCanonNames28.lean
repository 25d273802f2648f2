/- parquetrylaw11.CanonNames, the walk: it answers true. Conditions: the bytes lie in memory. -/
import Derived.Test.YtlbhmonpfchocaaZCanonNames26
import Derived.Test.YtlbhmonpfchocaaZCanonNames27
import Derived.Test.YtlbhmonpfchocaaZCanonNames11
import Derived.Deep.RegionHeld3
namespace Go.Proofs.Ytlbhmonpfchocaa
open Go.RowKit
set_option linter.unusedVariables false

set_option maxRecDepth 100000 in
set_option maxHeartbeats 8000000 in
theorem canonNames_walk (w : World) (n rt ln : Nat) (hn : n ≤ 255) (hr : rt ≤ 255) (hl : ln ≤ 255) (v : Value) (bs : List Nat) (hv : FreeB noReg w v bs) :
    Calls Try.prog 8 #[.int .u8 (n : Int), v, .int .u8 (rt : Int), .int .u8 (ln : Int)] w (RetTrue noReg w) := by
  have HA := Lib.hid (awake11_any noReg w (Inv.noReg w))
  have hnot := not_run
  have HV := Lib.hid hv
  have hS := mixL_perm (2 * (n % 12)) bs
  have hSl := mixL_length (2 * (n % 12)) bs
  have hok0 := made_ok (n % 12) rt bs 0 (by omega) (by omega)
  have HM := Lib.hid (fun R w' (hI : Inv R w') (hv : FreeB R w' v bs) => (by
    have h := rany_any R w' hI (n % 12) (by omega) v bs hv rt hr
    rw [show ((n % 12 : Nat) : Int) = (n : Int) % 12 from by omega] at h
    exact h : Calls Try.prog 25 #[.int .i64 ((n : Int) % 12), v, .int .u8 (rt : Int)] w' (RetMap R w' (mixL (2 * (n % 12)) bs) (anyRoot (n % 12) rt) 0)))
  obtain ⟨S, hSe⟩ : ∃ S, mixL (2 * (n % 12)) bs = S := ⟨_, rfl⟩
  obtain ⟨r, hre⟩ : ∃ r, anyRoot (n % 12) rt = r := ⟨_, rfl⟩
  obtain ⟨m, hm⟩ : ∃ m, 2 * (n % 12) = m := ⟨_, rfl⟩
  have hm22 : m ≤ 22 := by omega
  have hev : m % 2 = 0 := by omega
  simp only [show ((0 : Nat) : Int) = 0 from rfl] at hok0
  rw [hSe, hre] at HM hok0
  rw [hSe, hm] at hSl
  rw [hSe] at hS
  rw [← hSl] at hev hm22
  obtain ⟨a0, c0, rfl, _⟩ := hv
  clear hSe hre hm hSl
  have HS := Lib.hid hS
  have HEv := Lib.hid hev
  have HOk := Lib.hid hok0
  clear hS hok0
  go_enter Try.func8, Try.ntmps8
  go_wp2_with fail
  refine HA.out.mono ?_
  rintro e w1 ⟨rfl, R1, he1⟩
  have HE1 := Lib.hid he1
  clear he1
  go_wp2_with fail
  refine (HM.out R1 w1 HE1.out.inv (HV.out.ev HE1.out)).mono ?_
  rintro e w2 ⟨a1, c1, rfl, he2, ho2⟩
  unfold refV
  have hnone : R1 w2.heap.size = none := he2.inv.none_of_ge (Nat.le_refl _)
  have hI3 := he2.inv.alloc (.cells #[.slice a1 S.length c1, .int .i64 r, .int .i64 0] 34)
  have hf3 := ho2.free.ev ((Ev.refl he2.inv).alloc (.cells #[.slice a1 S.length c1, .int .i64 r, .int .i64 0] 34))
  have HE2 := Lib.hid (HE1.out.trans he2)
  obtain ⟨ll, hll⟩ : ∃ x : Nat, (ln : Int) % 4 = (x : Int) := ⟨ln % 4, by omega⟩
  have hll3 : ll ≤ 3 := by omega
  clear hI3 hf3
  have hI3 := he2.inv.alloc (.cells #[.slice a1 S.length c1, .int .i64 r, .int .i64 (ll : Int)] 34)
  have hf3 := ho2.free.ev ((Ev.refl he2.inv).alloc (.cells #[.slice a1 S.length c1, .int .i64 r, .int .i64 (ll : Int)] 34))
  have HX := Lib.hid (fun R' w' (h : Ev R1 (w2.alloc (.cells #[.slice a1 S.length c1, .int .i64 r, .int .i64 (ll : Int)] 34)) R' w') => h.ref3 hnone)
  have HF3 := Lib.hid hf3
  have HI3 := Lib.hid hI3
  clear he2 ho2 hI3 hnone hf3
  go_upto_region 5 with fail
  try rw [hll]
  obtain ⟨w3, hw3⟩ : ∃ w3, w3 = w2.alloc (.cells #[.slice a1 S.length c1, .int .i64 r, .int .i64 (ll : Int)] 34) := ⟨_, rfl⟩
  have HE3 : Hid (Ev noReg w R1 w3) := by rw [hw3]; exact HE2.out.alloc _
  rw [← hw3] at HX HF3 HI3 ⊢
  clear hw3 HE2 hll
  have hokl : MapOk S r (ll : Int) := by have := HOk.out; unfold MapOk at this ⊢; omega
  have HOl := Lib.hid hokl
  have HOf := Lib.hid (fun R' w' (h : Ev R1 w3 R' w') => of11_any R' w' h.inv _ S r ll (HF3.out.ev h) HS.out hokl)
  unfold refV at HOf
  have HRc := Lib.hid (fun R' w' (h : Ev R1 w3 R' w') => r11canon_any R' w' h.inv _ S r ll (HF3.out.ev h) HS.out hokl (by omega))
  have HRn := Lib.hid (fun R' w' (h : Ev R1 w3 R' w') => r11names_any R' w' h.inv _ S r ll (HF3.out.ev h) HS.out hokl (by omega))
  unfold refV at HRc HRn
  have hcl : (canM S r).length = S.length := by
    unfold canM
    split
    · rfl
    · exact relL_length _ _
  have hpl : (canPm S r).length = S.length := by
    unfold canPm
    split
    · rename_i h; rw [h]; rfl
    · exact canP_length _ _
  have hcr0 : S.length = 0 → canR S r = -1 := fun h0 => by
    have := HOk.out.2.2.2.2
    unfold canR
    rw [if_pos h0]
    omega
  have hcr1 : S.length ≠ 0 → canR S r = 0 := fun h0 => by unfold canR; rw [if_neg h0]
  obtain ⟨C, hC⟩ : ∃ C, canM S r = C := ⟨_, rfl⟩
  obtain ⟨T, hT⟩ : ∃ T, canPm S r = T := ⟨_, rfl⟩
  obtain ⟨cr, hcr⟩ : ∃ x, canR S r = x := ⟨_, rfl⟩
  rw [hC, hcr] at HRc
  rw [hT] at HRn hpl
  rw [hC] at hcl
  rw [hcr] at hcr0 hcr1
  have HC := Lib.hid hC
  have HT := Lib.hid hT
  have HCr := Lib.hid hcr
  have HCl := Lib.hid hcl
  have HPl := Lib.hid hpl
  have HC0 := Lib.hid hcr0
  have HC1 := Lib.hid hcr1
  obtain ⟨B, hB⟩ : ∃ B, sameB C S cr r ll ll = B := ⟨_, rfl⟩
  have HB := Lib.hid hB
  clear hC hT hcr hcl hpl hcr0 hcr1 hokl hB
  obtain ⟨x0, x1, x2⟩ := HX.out _ _ (Ev.refl HI3.out)
  go_wp2_with fail
  refine (HOf.out _ _ (Ev.refl HI3.out)).mono ?_
  rintro e w4 ⟨p, R4, rfl, he4, hp4⟩
  have HE4 := Lib.hid he4
  have hc := canon_any R4 w4 he4.inv p S r ll hp4
  rw [HC.out, HCr.out, HT.out] at hc
  have HK := Lib.hid hc
  clear he4 hp4 hc x0 x1 x2
  go_wp2_with fail
  refine (HK.out).mono ?_
  rintro e w5 ⟨c, pm, R5, rfl, he5, hc5, hpm5⟩
  have HE5 := Lib.hid (HE4.out.trans he5)
  have HC5 := Lib.hid hc5
  have HP5 := Lib.hid hpm5
  obtain ⟨x0, x1, x2⟩ := HX.out _ _ HE5.out
  clear he5 hc5 hpm5 HE4 HK
  go_wp2_with fail
  refine (HRc.out _ _ HE5.out).mono ?_
  rintro e w6 ⟨a6, c6, rfl, he6, ho6⟩
  rw [HCl.out] at ho6 ⊢
  unfold refV
  have hyn : R5 w6.heap.size = none := he6.inv.none_of_ge (Nat.le_refl _)
  have HY := Lib.hid (fun R' w' (h : Ev R5 (w6.alloc (.cells #[.slice a6 S.length c6, .int .i64 cr, .int .i64 (ll : Int)] 34)) R' w') => h.ref3 hyn)
  have HE6 := Lib.hid ((HE5.out.trans he6).alloc (.cells #[.slice a6 S.length c6, .int .i64 cr, .int .i64 (ll : Int)] 34))
  have HC6 := Lib.hid (he6.map HC5.out)
  have HP6 := Lib.hid (he6.perm HP5.out)
  have HO6 := Lib.hid (ho6.alloc (.cells #[.slice a6 S.length c6, .int .i64 cr, .int .i64 (ll : Int)] 34))
  have hlx : w2.heap.size < w6.heap.size := lt_of_cell (HX.out _ _ (HE5.out.trans he6)).1
  clear he6 ho6 hyn HC5 HP5 HE5 x0 x1 x2
  go_upto_region 7 with fail
  obtain ⟨w7, hw7⟩ : ∃ w7, w7 = w6.alloc (.cells #[.slice a6 S.length c6, .int .i64 cr, .int .i64 (ll : Int)] 34) := ⟨_, rfl⟩
  obtain ⟨b7, hb7⟩ : ∃ b7, w6.heap.size = b7 := ⟨_, rfl⟩
  rw [← hw7] at HY HE6 HO6 ⊢
  rw [hb7] at HY ⊢
  clear hw7 hb7
  obtain ⟨x0, x1, x2⟩ := HX.out _ _ HE6.out
  obtain ⟨y0, y1, y2⟩ := HY.out _ _ (Ev.refl HE6.out.inv)
  have HQ1 := Lib.hid (equal_any R5 w7 HE6.out.inv _ _ _ _ (HF3.out.ev HE6.out).1 HO6.out.ints (by rw [toI_length]; omega) (by rw [toI_length, HCl.out]; omega))
  go_cut [14] (fun s14 wx => s14 = .bool B ∧ Ev R5 w7 R5 wx)
  case first =>
    by_cases hSC : S = C
    · have hbr : (r == cr) = B := by
        rw [← HB.out]
        unfold sameB
        by_cases h : r = cr
        · simp [h, hSC]
        · have : ¬ cr = r := fun e => h e.symm
          simp [h, this]
      have hq := HQ1.out
      rw [eqL_true (by rw [← hSC])] at hq
      have HQ := Lib.hid hq
      clear hq hSC HQ1
      go_wp2_with fail
      refine HQ.out.mono ?_
      rintro e w8 ⟨rfl, he8⟩
      have HE8 := Lib.hid he8
      obtain ⟨x0, x1, x2⟩ := HX.out _ _ (HE6.out.trans he8)
      obtain ⟨y0, y1, y2⟩ := HY.out _ _ he8
      clear he8
      go_wp2_with fail
      go_meet
      exact ⟨rfl, HE8.out⟩
    · have hbr : false = B := by
        rw [← HB.out]
        unfold sameB
        have : ¬ C = S := fun e => hSC e.symm
        simp [this]
      have hq := HQ1.out
      rw [eqL_false (fun e => hSC (toI_inj e))] at hq
      have HQ := Lib.hid hq
      have HBr := Lib.hid hbr
      clear hq hSC HQ1 hbr
      go_wp2_with fail
      refine HQ.out.mono ?_
      rintro e w8 ⟨rfl, he8⟩
      have HE8 := Lib.hid he8
      clear he8
      go_wp2_with fail
      go_meet
      exact ⟨by rw [HBr.out], HE8.out⟩
  case rest =>
    obtain ⟨rfl, hev⟩ := hcut
    obtain ⟨w8, hw8⟩ : ∃ w8, w8 = wc := ⟨_, rfl⟩
    subst hw8
    have HE8 := Lib.hid (HE6.out.trans hev)
    have HY8 := Lib.hid (fun R' w' (h : Ev R5 w8 R' w') => HY.out _ _ (hev.trans h))
    have HX8 := Lib.hid (fun R' w' (h : Ev R5 w8 R' w') => HX.out _ _ (HE6.out.trans (hev.trans h)))
    have HO8 := Lib.hid (HO6.out.ev hev)
    have hC8 := fun R' w' (h : Ev R5 w8 R' w') => h.map (hev.map (((Ev.refl HE6.out.inv).map HC6.out)))
    have hP8 := fun R' w' (h : Ev R5 w8 R' w') => h.perm (hev.perm HP6.out)
    have K1 := Lib.hid (fun R' w' (h : Ev R5 w8 R' w') => list_any R' w' h.inv pm T (hP8 R' w' h))
    have K2 := Lib.hid (fun R' w' (h : Ev R5 w8 R' w') => HRn.out R' w' (HE8.out.trans h))
    have K3 := Lib.hid (fun R' w' (h : Ev R5 w8 R' w') => mlist_any R' w' h.inv c C cr ll (hC8 R' w' h))
    have K4 := Lib.hid (fun R' w' (h : Ev R5 w8 R' w') => root_any R' w' h.inv c C cr ll (hC8 R' w' h))
    have K5 := Lib.hid (fun R' w' (h : Ev R5 w8 R' w') => lone_any R' w' h.inv c C cr ll (hC8 R' w' h))
    have K6 := Lib.hid (fun R' w' (h : Ev R5 w8 R' w') => HOf.out R' w' (HE8.out.trans h))
    have K7 := Lib.hid (fun R' w' (hI : Inv R' w') p2 (hp : MapAt R' p2 S r ll) => (by
      have h := cis_any R' w' hI p2 S r ll hp
      rw [HC.out, HCr.out, HB.out] at h
      exact h : Calls Try.prog 39 #[p2] w' (RetV R' w' (.bool B))))
    have HEd := Lib.hid ((Ev.refl hev.inv).drew)
    obtain ⟨x0, x1, x2⟩ := HX8.out _ _ HEd.out
    obtain ⟨y0, y1, y2⟩ := HY8.out _ _ HEd.out
    have hcc : (cr == cr) = true := by simp
    have hlc : ((ll : Int) == (ll : Int)) = true := by simp
    have hbb : (B == B) = true := by simp
    clear hev hC8 hP8 HE6 HY HX HO6 HC6 HP6 HQ1 hlx
    by_cases h0 : S.length = 0
    · have hcz := HC0.out h0
      have HS0 := Lib.hid h0
      subst hcz
      have hwk : IntKind.i64.wrap ((S.length : Int) - 1) = -1 := by rw [h0]; exact IntWalk.i64_in _ (by omega)
      clear h0 HC0 HC1
      go_wp2_with fail
      first | (go_region_held3 (fun w' => w'.cell? ⟨w2.heap.size, 0, none⟩ = some (.slice a1 S.length c1) ∧ w'.cell? ⟨w2.heap.size, 1, none⟩ = some (.int .i64 r) ∧ w'.cell? ⟨w2.heap.size, 2, none⟩ = some (.int .i64 (ll : Int)) ∧ w'.cell? ⟨b7, 0, none⟩ = some (.slice a6 S.length c6) ∧ w'.cell? ⟨b7, 1, none⟩ = some (.int .i64 (-1)) ∧ w'.cell? ⟨b7, 2, none⟩ = some (.int .i64 (ll : Int))) (exact ⟨x0, x1, x2, y0, y1, y2⟩) (first | (go_at_call 37; refine (K1.out _ _ HEd.out).mono ?_; rintro z wa ⟨v1, rfl, hea, ho1⟩; obtain ⟨b1, d1, rfl, _⟩ := ho1.ints.open; rw [toI_length, HPl.out] at ho1 ⊢; have HV1 := Lib.hid ho1; have HEd := Lib.hid (HEd.out.trans hea); clear hea ho1; obtain ⟨x0, x1, x2⟩ := HX8.out _ _ HEd.out; obtain ⟨y0, y1, y2⟩ := HY8.out _ _ HEd.out) | (go_at_call 38; refine (K2.out _ _ HEd.out).mono ?_; rintro z wb ⟨v2, rfl, heb, ho2⟩; obtain ⟨b2, d2, rfl, _⟩ := ho2.ints.open; rw [toI_length, HPl.out] at ho2 ⊢; have HV1 := Lib.hid (HV1.out.ev heb); have HV2 := Lib.hid ho2; have HEd := Lib.hid (HEd.out.trans heb); clear heb ho2; obtain ⟨x0, x1, x2⟩ := HX8.out _ _ HEd.out; obtain ⟨y0, y1, y2⟩ := HY8.out _ _ HEd.out) | (go_at_call 21; first | ((with_reducible refine (equal_any _ _ HEd.out.inv _ _ _ _ HV1.out.ints HV2.out.ints (by rw [toI_length, HPl.out]; omega) (by rw [toI_length, HPl.out]; omega)).mono ?_); rintro z wc ⟨rfl, hec⟩; rw [eqL_true rfl]; have HEd := Lib.hid (HEd.out.trans hec); clear hec HV1 HV2; obtain ⟨x0, x1, x2⟩ := HX8.out _ _ HEd.out; obtain ⟨y0, y1, y2⟩ := HY8.out _ _ HEd.out) | ((with_reducible refine (equal_any _ _ HEd.out.inv _ _ _ _ HV3.out.ints (HO8.out.ev HEd.out).ints (by rw [toI_length, HCl.out]; omega) (by rw [toI_length, HCl.out]; omega)).mono ?_); rintro z wc ⟨rfl, hec⟩; rw [eqL_true rfl]; have HEd := Lib.hid (HEd.out.trans hec); clear hec HV3; obtain ⟨x0, x1, x2⟩ := HX8.out _ _ HEd.out; obtain ⟨y0, y1, y2⟩ := HY8.out _ _ HEd.out)) | (go_at_call 22; refine (K3.out _ _ HEd.out).mono ?_; rintro z wd ⟨v3, rfl, hed, ho3⟩; obtain ⟨b3, d3, rfl, _⟩ := ho3.ints.open; rw [toI_length, HCl.out] at ho3 ⊢; have HV3 := Lib.hid ho3; have HEd := Lib.hid (HEd.out.trans hed); clear hed ho3; obtain ⟨x0, x1, x2⟩ := HX8.out _ _ HEd.out; obtain ⟨y0, y1, y2⟩ := HY8.out _ _ HEd.out) | (go_at_call 18; refine (K4.out _ _ HEd.out).mono ?_; rintro z w' ⟨rfl, rfl⟩) | (go_at_call 23; refine (K5.out _ _ HEd.out).mono ?_; rintro z w' ⟨rfl, rfl⟩) | (go_at_call 26; refine (K6.out _ _ HEd.out).mono ?_; rintro z we ⟨p2, Re, rfl, hee, hp2⟩; have HP2 := Lib.hid hp2; have HEd := Lib.hid (HEd.out.trans hee); clear hee hp2; obtain ⟨x0, x1, x2⟩ := HX8.out _ _ HEd.out; obtain ⟨y0, y1, y2⟩ := HY8.out _ _ HEd.out) | (go_at_call 39; refine (K7.out _ _ HEd.out.inv _ HP2.out).mono ?_; rintro z wf ⟨rfl, Rf, hef⟩; have HEd := Lib.hid (HEd.out.trans hef); clear hef; obtain ⟨x0, x1, x2⟩ := HX8.out _ _ HEd.out; obtain ⟨y0, y1, y2⟩ := HY8.out _ _ HEd.out))) | fail
      all_goals (go_wp2_with fail)
      all_goals go_ret
      all_goals exact ⟨by first | rfl | (simp; done) | (simp [Act.put]; done) | simp [go_sem], _, HE3.out.trans (HE8.out.trans HEd.out)⟩
    · have hcz := HC1.out h0
      have hpos : 0 < S.length := by omega
      obtain ⟨k1, hk1⟩ : ∃ k : Nat, (S.length : Int) - 1 = (k : Int) := ⟨S.length - 1, by omega⟩
      have hwk : IntKind.i64.wrap ((S.length : Int) - 1) = (k1 : Int) := by rw [hk1]; exact IntWalk.i64_in _ (by omega)
      have hn1 : ¬ ((k1 : Int) < 0) := by omega
      clear hk1
      subst hcz
      clear HC0 HC1
      go_wp2_with fail
      first | (go_region_held3 (fun w' => w'.cell? ⟨w2.heap.size, 0, none⟩ = some (.slice a1 S.length c1) ∧ w'.cell? ⟨w2.heap.size, 1, none⟩ = some (.int .i64 r) ∧ w'.cell? ⟨w2.heap.size, 2, none⟩ = some (.int .i64 (ll : Int)) ∧ w'.cell? ⟨b7, 0, none⟩ = some (.slice a6 S.length c6) ∧ w'.cell? ⟨b7, 1, none⟩ = some (.int .i64 0) ∧ w'.cell? ⟨b7, 2, none⟩ = some (.int .i64 (ll : Int))) (exact ⟨x0, x1, x2, y0, y1, y2⟩) (first | (go_at_call 37; refine (K1.out _ _ HEd.out).mono ?_; rintro z wa ⟨v1, rfl, hea, ho1⟩; obtain ⟨b1, d1, rfl, _⟩ := ho1.ints.open; rw [toI_length, HPl.out] at ho1 ⊢; have HV1 := Lib.hid ho1; have HEd := Lib.hid (HEd.out.trans hea); clear hea ho1; obtain ⟨x0, x1, x2⟩ := HX8.out _ _ HEd.out; obtain ⟨y0, y1, y2⟩ := HY8.out _ _ HEd.out) | (go_at_call 38; refine (K2.out _ _ HEd.out).mono ?_; rintro z wb ⟨v2, rfl, heb, ho2⟩; obtain ⟨b2, d2, rfl, _⟩ := ho2.ints.open; rw [toI_length, HPl.out] at ho2 ⊢; have HV1 := Lib.hid (HV1.out.ev heb); have HV2 := Lib.hid ho2; have HEd := Lib.hid (HEd.out.trans heb); clear heb ho2; obtain ⟨x0, x1, x2⟩ := HX8.out _ _ HEd.out; obtain ⟨y0, y1, y2⟩ := HY8.out _ _ HEd.out) | (go_at_call 21; first | ((with_reducible refine (equal_any _ _ HEd.out.inv _ _ _ _ HV1.out.ints HV2.out.ints (by rw [toI_length, HPl.out]; omega) (by rw [toI_length, HPl.out]; omega)).mono ?_); rintro z wc ⟨rfl, hec⟩; rw [eqL_true rfl]; have HEd := Lib.hid (HEd.out.trans hec); clear hec HV1 HV2; obtain ⟨x0, x1, x2⟩ := HX8.out _ _ HEd.out; obtain ⟨y0, y1, y2⟩ := HY8.out _ _ HEd.out) | ((with_reducible refine (equal_any _ _ HEd.out.inv _ _ _ _ HV3.out.ints (HO8.out.ev HEd.out).ints (by rw [toI_length, HCl.out]; omega) (by rw [toI_length, HCl.out]; omega)).mono ?_); rintro z wc ⟨rfl, hec⟩; rw [eqL_true rfl]; have HEd := Lib.hid (HEd.out.trans hec); clear hec HV3; obtain ⟨x0, x1, x2⟩ := HX8.out _ _ HEd.out; obtain ⟨y0, y1, y2⟩ := HY8.out _ _ HEd.out)) | (go_at_call 22; refine (K3.out _ _ HEd.out).mono ?_; rintro z wd ⟨v3, rfl, hed, ho3⟩; obtain ⟨b3, d3, rfl, _⟩ := ho3.ints.open; rw [toI_length, HCl.out] at ho3 ⊢; have HV3 := Lib.hid ho3; have HEd := Lib.hid (HEd.out.trans hed); clear hed ho3; obtain ⟨x0, x1, x2⟩ := HX8.out _ _ HEd.out; obtain ⟨y0, y1, y2⟩ := HY8.out _ _ HEd.out) | (go_at_call 18; refine (K4.out _ _ HEd.out).mono ?_; rintro z w' ⟨rfl, rfl⟩) | (go_at_call 23; refine (K5.out _ _ HEd.out).mono ?_; rintro z w' ⟨rfl, rfl⟩) | (go_at_call 26; refine (K6.out _ _ HEd.out).mono ?_; rintro z we ⟨p2, Re, rfl, hee, hp2⟩; have HP2 := Lib.hid hp2; have HEd := Lib.hid (HEd.out.trans hee); clear hee hp2; obtain ⟨x0, x1, x2⟩ := HX8.out _ _ HEd.out; obtain ⟨y0, y1, y2⟩ := HY8.out _ _ HEd.out) | (go_at_call 39; refine (K7.out _ _ HEd.out.inv _ HP2.out).mono ?_; rintro z wf ⟨rfl, Rf, hef⟩; have HEd := Lib.hid (HEd.out.trans hef); clear hef; obtain ⟨x0, x1, x2⟩ := HX8.out _ _ HEd.out; obtain ⟨y0, y1, y2⟩ := HY8.out _ _ HEd.out))) | fail
      all_goals (go_wp2_with fail)
      all_goals go_ret
      all_goals exact ⟨by first | rfl | (simp; done) | (simp [Act.put]; done) | simp [go_sem], _, HE3.out.trans (HE8.out.trans HEd.out)⟩

end Go.Proofs.Ytlbhmonpfchocaa
