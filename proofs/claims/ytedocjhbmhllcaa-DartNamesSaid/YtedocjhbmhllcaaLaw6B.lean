/- parquetrylaw06.DartNames, the walk: it answers true. Conditions: the bytes lie in memory. -/
import Derived.Test.YtedocjhbmhllcaaLaw6A
import Derived.Test.YtedocjhbmhllcaaArgs
import Derived.Test.YtedocjhbmhllcaaMathD
import Derived.Deep.DeepCutAuto
import Derived.Deep.RegionHeld3
namespace Go.Proofs.Ytedocjhbmhllcaa
open Go.RowKit
set_option linter.unusedVariables false

/-- the cells of the document's map in a variable -/
theorem Ev.ref3 {R R' : Reg} {w w' : World} {v : Value} {r l : Int} (h : Ev R (w.alloc (.cells #[v, .int .i64 r, .int .i64 l] 27)) R' w') (hn : R w.heap.size = none) :
    w'.cell? ⟨w.heap.size, 0, none⟩ = some v ∧ w'.cell? ⟨w.heap.size, 1, none⟩ = some (.int .i64 r) ∧ w'.cell? ⟨w.heap.size, 2, none⟩ = some (.int .i64 l) := by
  refine ⟨?_, ?_, ?_⟩
  all_goals rw [h.cell (by simp) hn]; simp

set_option maxRecDepth 100000 in
set_option maxHeartbeats 4000000 in
theorem dartNames_walk (w : World) (n rt ln : Nat) (hn : n ≤ 255) (hr : rt ≤ 255) (hl : ln ≤ 255) (v : Value) (bs : List Nat) (hv : FreeB noReg w v bs) :
    Calls Try.prog 3 #[.int .u8 (n : Int), v, .int .u8 (rt : Int), .int .u8 (ln : Int)] w (RetTrue noReg w) := by
  have HA := Lib.hid (awake6_any noReg w (Inv.noReg w))
  have hnot := not_run
  have HV := Lib.hid hv
  have hok := made_ok (n % 10) rt bs (ln % 5) (by omega) (by omega)
  have hS := mixL_perm (2 * (n % 10)) bs
  have hSl := mixL_length (2 * (n % 10)) bs
  have HM := Lib.hid (fun R w' (hI : Inv R w') (hv : FreeB R w' v bs) => made_any R w' hI n rt ln hn hr hl v bs hv)
  obtain ⟨S, hSe⟩ : ∃ S, mixL (2 * (n % 10)) bs = S := ⟨_, rfl⟩
  obtain ⟨r, hre⟩ : ∃ r, anyRoot (n % 10) rt = r := ⟨_, rfl⟩
  obtain ⟨lo, hlo⟩ : ∃ lo, ln % 5 = lo := ⟨_, rfl⟩
  have hlo5 : lo ≤ 4 := by omega
  obtain ⟨m, hm⟩ : ∃ m, 2 * (n % 10) = m := ⟨_, rfl⟩
  have hm20 : m ≤ 18 := by omega
  have hev : m % 2 = 0 := by omega
  rw [hSe, hre, hlo] at hok HM
  rw [hSe, hm] at hSl
  rw [hSe] at hS
  have HOK := Lib.hid hok
  have HS := Lib.hid hS
  have HSL := Lib.hid hSl
  obtain ⟨a0, c0, rfl, _⟩ := hv
  clear hSe hre hlo hok hS hSl hm
  go_enter Try.func3, Try.ntmps3
  go_wp2_with fail
  refine HA.out.mono ?_
  rintro e w1 ⟨rfl, R1, he1⟩
  have HE1 := Lib.hid he1
  clear he1
  go_wp2_with fail
  refine (HM.out R1 w1 HE1.out.inv (HV.out.ev HE1.out)).mono ?_
  rintro e w2 ⟨p, a1, c1, R2, rfl, he2, hp2, hf2⟩
  unfold refV
  have hnone : R2 w2.heap.size = none := he2.inv.none_of_ge (Nat.le_refl _)
  have hI3 := he2.inv.alloc (.cells #[.slice a1 S.length c1, .int .i64 r, .int .i64 (lo : Int)] 27)
  have HE2 := Lib.hid (HE1.out.trans he2)
  have HP3 := Lib.hid hp2
  have hf3 := hf2.ev ((Ev.refl he2.inv).alloc (.cells #[.slice a1 S.length c1, .int .i64 r, .int .i64 (lo : Int)] 27))
  have HF3 := Lib.hid hf3
  have HI3 := Lib.hid hI3
  have HX := Lib.hid (fun R' w' (h : Ev R2 (w2.alloc (.cells #[.slice a1 S.length c1, .int .i64 r, .int .i64 (lo : Int)] 27)) R' w') => h.ref3 hnone)
  clear he2 hp2 hf2 hI3 hf3 hnone
  go_wp2_with fail
  obtain ⟨w3, hw3⟩ : ∃ w3, w3 = w2.alloc (.cells #[.slice a1 S.length c1, .int .i64 r, .int .i64 (lo : Int)] 27) := ⟨_, rfl⟩
  have HE3 : Hid (Ev noReg w R2 w3) := by rw [hw3]; exact HE2.out.alloc _
  have HX3 : Hid (∀ R' w', Ev R2 w3 R' w' → w'.cell? ⟨w2.heap.size, 0, none⟩ = some (.slice a1 S.length c1) ∧ w'.cell? ⟨w2.heap.size, 1, none⟩ = some (.int .i64 r) ∧ w'.cell? ⟨w2.heap.size, 2, none⟩ = some (.int .i64 (lo : Int))) := by rw [hw3]; exact HX.out
  rw [← hw3] at HF3 HI3 ⊢
  clear hw3 HX
  obtain ⟨x0, x1, x2⟩ := HX3.out R2 w3 (Ev.refl HI3.out)
  have h41 := rnames_any R2 _ HI3.out.drew _ S (HF3.out.ev (Ev.refl HI3.out).drew) HS.out (by rw [HSL.out]; omega)
  have H41 := Lib.hid h41
  have h42 := fun w' (he : Ev R2 w3.drew R2 w') => rphi_any R2 w' he.inv (.slice a1 S.length c1) S r (lo : Int) (HF3.out.ev ((Ev.refl HI3.out).drew.trans he)) (by rw [HSL.out]; omega) (by rw [HSL.out]; exact hev)
  have H42 := Lib.hid h42
  have h43 := fun w' (hI : Inv R2 w') v' (hf : FreeI R2 w' v' (toI (phiL S))) => rnames_any R2 w' hI v' (phiL S) hf (phiL_perm HS.out (by rw [HSL.out]; exact hev)) (by rw [phiL_length, HSL.out]; omega)
  have H43 := Lib.hid h43
  unfold refV at H42
  clear h41 h42 h43
  go_cut [11, 12] (fun s11 s12 wx => Ev R2 w3 R2 wx ∧ OwnI R2 w3.heap.size 3 wx s11 (namesL S) ∧ OwnI R2 w3.heap.size 3 wx s12 (namesL (phiL S)))
  case first =>
    go_region_held3 (fun w' => w'.cell? ⟨w2.heap.size, 0, none⟩ = some (.slice a1 S.length c1) ∧ w'.cell? ⟨w2.heap.size, 1, none⟩ = some (.int .i64 r) ∧ w'.cell? ⟨w2.heap.size, 2, none⟩ = some (.int .i64 (lo : Int))) (exact ⟨x0, x1, x2⟩) (first | (go_at_call 17; first | ((with_reducible refine H41.out.mono ?_); rintro e w4 ⟨v4, rfl, he4, ho4⟩; obtain ⟨x0, x1, x2⟩ := HX3.out R2 w4 ((Ev.refl HI3.out).drew.trans he4); have HE4 := Lib.hid he4; have HO4 := Lib.hid ho4; clear he4 ho4) | ((with_reducible refine (H43.out _ HE5.out.inv _ HO5.out.free).mono ?_); rintro e w6 ⟨v6, rfl, he6, ho6⟩; have HE6 := Lib.hid he6; have HO6 := Lib.hid ho6; obtain ⟨x0, x1, x2⟩ := HX3.out R2 w6 ((Ev.refl HI3.out).drew.trans (HE4.out.trans (HE5.out.trans HE6.out))); clear he6 ho6)) | (go_at_call 18; refine (H42.out _ HE4.out).mono ?_; rintro e w5 ⟨v5, rfl, he5, ho5⟩; have HE5 := Lib.hid he5; have HO5 := Lib.hid ho5; obtain ⟨x0, x1, x2⟩ := HX3.out R2 w5 ((Ev.refl HI3.out).drew.trans (HE4.out.trans HE5.out)); clear he5 ho5))
    all_goals (go_wp2_with fail; go_meet; exact ⟨(Ev.refl HI3.out).drew.trans (HE4.out.trans (HE5.out.trans HE6.out)), (HO4.out.ev (HE5.out.trans HE6.out)).mono (by simp), HO6.out.mono (by have h1 := HE4.out.size; have h2 := HE5.out.size; simp at h1; omega)⟩)
  case rest =>
    obtain ⟨he7, ho4, ho6⟩ := hcut
    clear H41 H42 H43 x0 x1 x2
    obtain ⟨a4, c4, rfl, hf4⟩ := ho4.free.open
    obtain ⟨a6, c6, rfl, hf6⟩ := ho6.free.open
    rw [namesL_length, HSL.out] at hf4 ⊢
    rw [namesL_length, phiL_length, HSL.out] at hf6 ⊢
    have HE7 := Lib.hid he7
    have HF4 := Lib.hid hf4
    have HF6 := Lib.hid hf6
    clear ho4 ho6 hf4 hf6 he7
    obtain ⟨x0, x1, x2⟩ := HX3.out R2 _ HE7.out
    have hrv := rvertices_any R2 _ HE7.out.inv (.slice a1 S.length c1) S r (lo : Int) (HF3.out.ev HE7.out) HS.out (by rw [HSL.out]; omega) (by omega) (by omega)
    obtain ⟨C, hC⟩ : ∃ C, (sizesL S).length = C := ⟨_, rfl⟩
    have hCm : C ≤ m := by have := sizesL_le HS.out; rw [hC, HSL.out] at this; exact this
    rw [hC] at hrv
    have HRV := Lib.hid hrv
    have HC := Lib.hid hC
    unfold refV at HRV
    clear hrv hC
    go_wp2_with fail
    refine HRV.out.mono ?_
    rintro e w8 ⟨rfl, he8⟩
    have HE8 := Lib.hid (HE7.out.trans he8)
    have H8 := Lib.hid he8
    clear he8
    obtain ⟨i0, hi, hz0, hz1, hz2⟩ := info_parts int_info
    obtain ⟨D, hD⟩ : ∃ D, D = C + lo := ⟨_, rfl⟩
    have hDD : (C : Int) + (lo : Int) = (D : Int) := by omega
    have hD30 : D ≤ 30 := by omega
    rw [hDD]
    have HD := Lib.hid hD
    clear hD hDD
    go_wp2_with (refine wpList_make_full _ rfl _ _ 25 rfl w8.heap.size 3 i0 (.int .i64 0) 1 Try.underlying25 hi hz0 hz1 .i64 .i64 (D : Int) (D : Int) D rfl rfl rfl rfl ?q1 ?q2 (Nat.le_refl _) ?_)
    case q1 => rw [hz2]; omega
    case q2 => unfold maxLen; omega
    intro w9 ho9 hg9
    have hown := OwnI.made HE8.out.inv ho9
    rw [← degGo_zero S D] at hown
    have he9 : Ev R2 w3 R2 w9 := HE8.out.grown hg9 (by simp)
    have h89 : Ev R2 w8 R2 w9 := (Ev.refl H8.out.inv).grown hg9 (by simp)
    have H89 := Lib.hid h89
    have HV9 := Lib.hid (HF4.out.ev H8.out)
    have HW9 := Lib.hid (HF6.out.ev H8.out)
    have HO9 := Lib.hid hown
    have HE9 := Lib.hid he9
    have hz89 : w3.heap.size ≤ w8.heap.size := HE8.out.size
    clear ho9 hg9 hown he9 hi hz0 hz1 hz2 h89
    obtain ⟨x0, x1, x2⟩ := HX3.out R2 w9 HE9.out
    go_wp2_with fail
    go_loopg [40] m (fun g v40 wr => ∃ (k : Nat) (Rk : Reg), k ≤ m ∧ m - k ≤ g ∧ v40 = .int .i64 (k : Int) ∧ Ev R2 w8 Rk wr ∧ OwnI Rk w8.heap.size 3 wr (.slice (some ⟨w8.heap.size, 0, none⟩) D D) (degGo S D k))
    case atStart => exact ⟨0, R2, Nat.zero_le _, by omega, rfl, H89.out, HO9.out⟩
    case round =>
      obtain ⟨k, Rk, hk, hg, rfl, he, ho⟩ := hrel
      have HEc := Lib.hid he
      have HO := Lib.hid ho
      clear he ho x0 x1 x2
      obtain ⟨wo, hwo⟩ : ∃ wo : World, wo = wr := ⟨_, rfl⟩
      subst hwo
      by_cases hkm : k < m
      · have hks : k < S.length := by rw [HSL.out]; exact hkm
        have hnl := names_lt HS.out hks
        rw [HC.out] at hnl
        obtain ⟨y, hy⟩ := Int.eq_ofNat_of_zero_le hnl.1
        have hyC : y < C := by omega
        have hyD : y < D := by have := HD.out; omega
        obtain ⟨z, hz⟩ : ∃ z, nth (namesL (phiL S)) k = z := ⟨_, rfl⟩
        obtain ⟨b4, o4, e4, hcv0⟩ := (HV9.out.ev HEc.out).1.cell (i := k) (by rw [namesL_length]; exact hks)
        obtain ⟨b6, o6, e6, hcw0⟩ := (HW9.out.ev HEc.out).1.cell (i := k) (by rw [namesL_length, phiL_length]; exact hks)
        subst e4 e6
        have hcv : ∀ R' w', Ev R2 w8 R' w' → w'.cell? ⟨b4, o4 + k, none⟩ = some (.int .i64 (y : Int)) := fun R' w' he => by
          obtain ⟨b, off, e1, e2⟩ := (HV9.out.ev he).1.cell (i := k) (by rw [namesL_length]; exact hks)
          cases e1
          rw [e2, hy]
        have hcw : ∀ R' w', Ev R2 w8 R' w' → w'.cell? ⟨b6, o6 + k, none⟩ = some (.int .i64 z) := fun R' w' he => by
          obtain ⟨b, off, e1, e2⟩ := (HW9.out.ev he).1.cell (i := k) (by rw [namesL_length, phiL_length]; exact hks)
          cases e1
          rw [e2, hz]
        have hve : ∀ R' w', Ev R2 w8 R' w' → Calls Try.prog 20 #[p, .int .i64 (k : Int)] w' (RetV R' w' (.int .i64 (y : Int))) := fun R' w' he => by
          have := vertex_any R' w' he.inv p S r lo (he.map HP3.out) k
          rw [nameI_in hks, hy] at this
          exact this
        have hfa : ∀ R' w', Ev R2 w8 R' w' → Calls Try.prog 21 #[p, .int .i64 (k : Int)] w' (RetV R' w' (.int .i64 z)) := fun R' w' he => by
          have := face_any R' w' he.inv p S r lo (he.map HP3.out) k
          rw [nameI_in (by rw [phiL_length]; exact hks), hz] at this
          exact this
        have HCV := Lib.hid hcv
        have HCW := Lib.hid hcw
        have HVE := Lib.hid hve
        have HFA := Lib.hid hfa
        have HY := Lib.hid hy
        have HEk := HEc
        have HEd := Lib.hid HEc.out.drew
        clear hcv hcw hve hfa hcv0 hcw0 hy hz hnl
        have cv := HCV.out _ _ HEc.out
        have cw := HCW.out _ _ HEc.out
        go_wp2_with fail
        go_cut [60] (fun s60 wx => s60 = .bool false ∧ ∃ R', Ev Rk wo R' wx)
        case first =>
          go_region_held3 (fun w' => w'.cell? ⟨b4, o4 + k, none⟩ = some (.int .i64 (y : Int)) ∧ w'.cell? ⟨b6, o6 + k, none⟩ = some (.int .i64 z)) (exact ⟨cv, cw⟩) (first | (go_at_call 20; refine (HVE.out _ _ HEd.out).mono ?_; rintro e w' ⟨rfl, R', he⟩; have cv := HCV.out _ _ (HEd.out.trans he); have cw := HCW.out _ _ (HEd.out.trans he); have HEv := Lib.hid he; clear he) | (go_at_call 21; refine (HFA.out _ _ (HEd.out.trans HEv.out)).mono ?_; rintro e w'' ⟨rfl, R'', he⟩; have cv := HCV.out _ _ ((HEd.out.trans HEv.out).trans he); have cw := HCW.out _ _ ((HEd.out.trans HEv.out).trans he); have HEf := Lib.hid he; clear he))
          all_goals (go_wp2_with fail; go_meet; exact ⟨rfl, _, (Ev.refl HEk.out.inv).drew.trans (HEv.out.trans HEf.out)⟩)
        case rest =>
          obtain ⟨rfl, R', he⟩ := hcut
          clear cv cw
          have hec := HEk.out.trans he
          have cv := HCV.out _ _ hec
          have hod := HO.out.ev he
          obtain ⟨g', e2, hgb, hgn, hcd, hzd⟩ := hod.headAt (degGo_length S D k) hyD
          cases e2
          rw [degGo_nth hyD] at hcd
          have hcb := cnt_bound S y k
          have hst := hod.put (degGo_length S D k) y hyD (cnt S y k + 1)
          have hsuc := degGo_succ HY.out hyD
          rw [degGo_nth hyD] at hsuc
          rw [hsuc] at hst
          obtain ⟨q, hq⟩ : ∃ q, cnt S y k = q := ⟨_, rfl⟩
          rw [hq] at hcd hcb hst
          have hq0 : 0 ≤ q := hcb.1
          have hq1 : q ≤ 100 := by have := hcb.2; omega
          have HST := Lib.hid hst
          have HEC := Lib.hid hec
          clear hod hst hsuc hq hcb he hec
          go_wp2_with fail
          go_roundg (m - (k + 1))
          case measure => omega
          case rel => exact ⟨k + 1, R', by omega, by omega, by go_num, HEC.out.setCell (Nat.le_refl _) hgn _, HST.out⟩
      · obtain rfl : k = m := by omega
        have hks : ¬ k < S.length := by rw [HSL.out]; omega
        go_wp2_with fail
        clear hkm hg hk hks
        have hX : ∀ d, d < k → 0 ≤ nth (namesL S) d ∧ nth (namesL S) d < (D : Int) := fun d hd => by
          have := names_lt HS.out (k := d) (by rw [HSL.out]; exact hd)
          have h1 := HC.out
          have h2 := HD.out
          omega
        have HXD := Lib.hid hX
        obtain ⟨X, hXe⟩ : ∃ X, degGo S D k = X := ⟨_, rfl⟩
        rw [hXe] at HO
        have HXE := Lib.hid hXe
        have HXL := Lib.hid (show X.length = D by rw [← hXe]; exact degGo_length S D k)
        have HBX := Lib.hid (show ∀ j, j ≤ D → 0 ≤ sumTo X j ∧ sumTo X j ≤ k from fun j hj => by rw [← hXe]; exact sumTo_bound HXD.out j hj)
        have HNX := Lib.hid (show ∀ j, j < D → nth X j = cnt S j k from fun j hj => by rw [← hXe]; exact degGo_nth hj)
        have hdg : ∀ i : Int, degI S lo i = if 0 ≤ i ∧ i < D then nth X i.toNat else -1 := fun i => by
          have h1 := HC.out
          have h2 := HD.out
          unfold degI
          rw [h1]
          by_cases h : i < 0 ∨ (C : Int) + (lo : Int) ≤ i
          · rw [if_pos h, if_neg (show ¬ (0 ≤ i ∧ i < (D : Int)) by omega)]
          · rw [if_neg h, if_pos (show 0 ≤ i ∧ i < (D : Int) by omega)]
            obtain ⟨j, rfl⟩ := Int.eq_ofNat_of_zero_le (show 0 ≤ i by omega)
            simp only [Int.toNat_natCast]
            rw [HNX.out j (by omega)]
            have h3 := sizesL_cnt HS.out j
            rw [HSL.out] at h3
            rw [← h3]
            split
            · rw [nth_out (xs := sizesL S) (by rw [h1]; omega)]
            · rfl
        have HDG := Lib.hid hdg
        have hsumall : sumTo X (D + 1) = k := by
          show sumTo X D + nth X D = k
          rw [nth_out (xs := X) (by rw [HXL.out]; exact Nat.le_refl _), ← hXe, sum_cnt D k HXD.out]
          omega
        have HSA := Lib.hid hsumall
        clear hX hXe hdg hsumall
        have HEk := HEc
        clear HEc
        go_loopg [15, 16] (D + 2) (fun g v15 v16 wr => ∃ (i : Int) (Rk' : Reg), -1 ≤ i ∧ i ≤ D + 1 ∧ (D + 1 - i).toNat ≤ g ∧ v16 = .int .i64 i ∧ v15 = .int .i64 (sumTo X i.toNat) ∧ Ev R2 w8 Rk' wr ∧ OwnI Rk' w8.heap.size 3 wr (.slice (some ⟨w8.heap.size, 0, none⟩) D D) X)
        case atStart => exact ⟨-1, Rk, by omega, by omega, by omega, rfl, rfl, HEk.out, HO.out⟩
        case round =>
          obtain ⟨i, Ri, hi1, hi2, hg, rfl, rfl, he, ho⟩ := hrel
          have HEc := Lib.hid he
          have HOc := Lib.hid ho
          have hdeg := degree_any Ri wr he.inv p S r lo (he.map HP3.out) i
          rw [HDG.out] at hdeg
          clear he ho
          by_cases hiD : i ≤ D
          · by_cases hin : 0 ≤ i ∧ i < D
            · rw [if_pos hin] at hdeg
              obtain ⟨j, rfl⟩ := Int.eq_ofNat_of_zero_le hin.1
              simp only [Int.toNat_natCast] at hdeg ⊢
              have hjD : j < D := by omega
              obtain ⟨g', e2, hgb, hgn, hcd, hzd⟩ := HOc.out.headAt HXL.out hjD
              cases e2
              have hb1 := HBX.out j (by omega)
              have hb2 := HBX.out (j + 1) (by omega)
              have hb3 : sumTo X (j + 1) = sumTo X j + nth X j := rfl
              obtain ⟨q, hq⟩ : ∃ q, nth X j = q := ⟨_, rfl⟩
              obtain ⟨t, ht⟩ : ∃ t, sumTo X j = t := ⟨_, rfl⟩
              rw [hq] at hcd hdeg hb3
              rw [ht] at hb1 hb3 ⊢
              rw [hb3] at hb2
              have hk18 : k ≤ 18 := hm20
              have HB3 := Lib.hid hb3
              have HDE := Lib.hid hdeg
              obtain ⟨b1, b2⟩ := hb1
              obtain ⟨b3, b4⟩ := hb2
              clear hb3 hdeg hq ht hin
              go_wp2_with fail
              refine HDE.out.mono ?_
              rintro e w' ⟨rfl, R', he⟩
              have HEn := Lib.hid he
              clear he
              go_wp2_with fail
              go_roundg (D + 1 - (j + 1))
              case measure => omega
              case rel => exact ⟨(j : Int) + 1, R', by omega, by omega, by omega, rfl, by rw [show ((j : Int) + 1).toNat = j + 1 from by omega, HB3.out], HEc.out.trans HEn.out, HOc.out.ev HEn.out⟩
            · rw [if_neg hin] at hdeg
              have HDE := Lib.hid hdeg
              clear hdeg
              have hs0 : sumTo X i.toNat = sumTo X (i + 1).toNat := by
                by_cases hneg : i < 0
                · obtain rfl : i = -1 := by omega
                  rfl
                · obtain rfl : i = D := by omega
                  rw [show ((D : Int) + 1).toNat = D + 1 from by omega, Int.toNat_natCast]
                  show sumTo X D = sumTo X D + nth X D
                  rw [nth_out (xs := X) (by rw [HXL.out]; exact Nat.le_refl _)]
                  omega
              have HS0 := Lib.hid hs0
              clear hs0
              by_cases hneg : i < 0
              · obtain rfl : i = -1 := by omega
                clear hin hneg
                go_wp2_with fail
                refine HDE.out.mono ?_
                rintro e w' ⟨rfl, R', he⟩
                have HEn := Lib.hid he
                clear he
                go_wp2_with fail
                go_roundg (D + 1)
                case measure => omega
                case rel => exact ⟨0, R', by omega, by omega, by omega, rfl, rfl, HEc.out.trans HEn.out, HOc.out.ev HEn.out⟩
              · obtain rfl : i = D := by omega
                clear hin hneg
                go_wp2_with fail
                refine HDE.out.mono ?_
                rintro e w' ⟨rfl, R', he⟩
                have HEn := Lib.hid he
                clear he
                go_wp2_with fail
                go_roundg 0
                case measure => omega
                case rel => exact ⟨(D : Int) + 1, R', by omega, by omega, by omega, rfl, by have h9 := HS0.out; rw [Int.toNat_natCast] at h9; rw [h9], HEc.out.trans HEn.out, HOc.out.ev HEn.out⟩
          · obtain rfl : i = D + 1 := by omega
            rw [show ((D : Int) + 1).toNat = D + 1 from by omega, HSA.out]
            clear hdeg
            obtain ⟨F, hF⟩ : ∃ F, (sizesL (phiL S)).length = F := ⟨_, rfl⟩
            obtain ⟨q, hq⟩ : ∃ q, k / 2 = q := ⟨_, rfl⟩
            have hkq : ((k : Int) == 2 * (q : Int)) = true := by rw [beq_iff_eq]; omega
            have hwq : IntKind.i64.wrap (2 * (q : Int)) = 2 * (q : Int) := IntWalk.i64_in _ (by omega)
            have h1 := fun R' w' (he : Ev R2 w8 R' w') => vertices_any R' w' he.inv p S r lo (he.map HP3.out)
            have h2 := fun R' w' (he : Ev R2 w8 R' w') => rvertices_any R' w' he.inv (.slice a1 S.length c1) S r (lo : Int) (HF3.out.ev (HE8.out.trans he)) HS.out (by rw [HSL.out]; omega) (by omega) (by omega)
            have h3 := fun R' w' (he : Ev R2 w8 R' w') => borders_any R' w' he.inv p S r lo (he.map HP3.out)
            have h4 := fun R' w' (he : Ev R2 w8 R' w') => rborders_any R' w' he.inv (.slice a1 S.length c1) S r (lo : Int) (HF3.out.ev (HE8.out.trans he)) HS.out (by rw [HSL.out]; omega) (by rw [HSL.out]; exact hev)
            have h5 := fun R' w' (he : Ev R2 w8 R' w') => edges_any R' w' he.inv p S r lo (he.map HP3.out)
            rw [hF] at h3 h4
            rw [HSL.out, hq] at h5
            have H1 := Lib.hid h1
            have H2 := Lib.hid h2
            have H3 := Lib.hid h3
            have H4 := Lib.hid h4
            have H5 := Lib.hid h5
            unfold refV at H2 H4
            clear h1 h2 h3 h4 h5 hF hq
            obtain ⟨x0, x1, x2⟩ := HX3.out _ _ (HE8.out.trans HEc.out)
            have HEw := Lib.hid ((HE3.out.trans HE8.out).trans HEc.out)
            have HEr := HEc
            go_wp2_with fail
            have HEc := Lib.hid HEr.out.drew
            go_region_held3 (fun w' => w'.cell? ⟨w2.heap.size, 0, none⟩ = some (.slice a1 S.length c1) ∧ w'.cell? ⟨w2.heap.size, 1, none⟩ = some (.int .i64 r) ∧ w'.cell? ⟨w2.heap.size, 2, none⟩ = some (.int .i64 (lo : Int))) (exact ⟨x0, x1, x2⟩) (first | (go_at_call 23; refine (H1.out _ _ HEc.out).mono ?_; rintro e w' ⟨rfl, R', he⟩; have HEc := Lib.hid (HEc.out.trans he); clear he; obtain ⟨x0, x1, x2⟩ := HX3.out _ _ (HE8.out.trans HEc.out)) | (go_at_call 19; refine (H2.out _ _ HEc.out).mono ?_; rintro e w' ⟨rfl, he⟩; have HEc := Lib.hid (HEc.out.trans he); clear he; obtain ⟨x0, x1, x2⟩ := HX3.out _ _ (HE8.out.trans HEc.out)) | (go_at_call 24; refine (H3.out _ _ HEc.out).mono ?_; rintro e w' ⟨rfl, R', he⟩; have HEc := Lib.hid (HEc.out.trans he); clear he; obtain ⟨x0, x1, x2⟩ := HX3.out _ _ (HE8.out.trans HEc.out)) | (go_at_call 25; refine (H4.out _ _ HEc.out).mono ?_; rintro e w' ⟨rfl, he⟩; have HEc := Lib.hid (HEc.out.trans he); clear he; obtain ⟨x0, x1, x2⟩ := HX3.out _ _ (HE8.out.trans HEc.out)) | (go_at_call 26; refine (H5.out _ _ HEc.out).mono ?_; rintro e w' ⟨rfl, rfl⟩))
            all_goals go_wp2_with fail
            all_goals go_ret
            all_goals exact ⟨rfl, _, (HE3.out.trans HE8.out).trans HEc.out⟩

end Go.Proofs.Ytedocjhbmhllcaa
