/- parquetrylaw09.WalkTrees, the walk: it answers true. Conditions: the bytes lie in memory. -/
import Derived.Test.YtnbecpeiodcohaaLaw9A
import Derived.Test.YtnbecpeiodcohaaWalkH
import Derived.Test.YtnbecpeiodcohaaWalkI
import Derived.Test.YtnbecpeiodcohaaRefG
import Derived.Test.YtnbecpeiodcohaaLaw8P
import Derived.BigQuiet
namespace Go.Proofs.Ytnbecpeiodcohaa
open Go.RowKit
set_option linter.unusedVariables false

set_option maxRecDepth 100000 in
set_option maxHeartbeats 16000000 in
theorem walkTrees_walk (w : World) (n ro : Nat) (hn : n ≤ 255) (hro : ro ≤ 255) (v : Value) (bs : List Nat) (hv : FreeB noReg w v bs) :
    Calls Try.prog 5 #[.int .u8 (n : Int), v, .int .u8 (ro : Int)] w (RetTrue noReg w) := by
  have HA := Lib.hid (awake9_any noReg w (Inv.noReg w))
  have hnot := not_run
  have HV := Lib.hid hv
  have hS := mixL_perm (2 * (n % 14)) bs
  have hSl := mixL_length (2 * (n % 14)) bs
  have HM := Lib.hid (fun R w' (hI : Inv R w') (hv : FreeB R w' v bs) => made9_any R w' hI n hn v bs hv)
  obtain ⟨S, hSe⟩ : ∃ S, mixL (2 * (n % 14)) bs = S := ⟨_, rfl⟩
  obtain ⟨r, hre⟩ : ∃ r, anyRoot (n % 14) 0 = r := ⟨_, rfl⟩
  obtain ⟨m, hm⟩ : ∃ m, 2 * (n % 14) = m := ⟨_, rfl⟩
  have hm26 : m ≤ 26 := by omega
  have hev : m % 2 = 0 := by omega
  rw [hSe, hre] at HM
  rw [hSe, hm] at hSl
  rw [hSe] at hS
  rw [← hSl] at hev hm26
  obtain ⟨a0, c0, rfl, _⟩ := hv
  clear hSe hre hm hSl
  have HS := Lib.hid hS
  have HEv := Lib.hid hev
  clear hS
  go_enter Try.func5, Try.ntmps5
  go_wp2_with fail
  refine HA.out.mono ?_
  rintro e w1 ⟨rfl, R1, he1⟩
  have HE1 := Lib.hid he1
  clear he1
  go_wp2_with fail
  refine (HM.out R1 w1 HE1.out.inv (HV.out.ev HE1.out)).mono ?_
  rintro e w2 ⟨p, a1, c1, R2, rfl, he2, hp2, hf2⟩
  unfold refV
  have hnone : R2 w2.heap.size = none := he2.inv.none_of_ge (Nat.le_refl _)
  have hI3 := he2.inv.alloc (.cells #[.slice a1 S.length c1, .int .i64 r, .int .i64 0] 27)
  have hf3 := hf2.ev ((Ev.refl he2.inv).alloc (.cells #[.slice a1 S.length c1, .int .i64 r, .int .i64 0] 27))
  have HE2 := Lib.hid (HE1.out.trans he2)
  have HP3 := Lib.hid hp2
  have HX := Lib.hid (fun R' w' (h : Ev R2 (w2.alloc (.cells #[.slice a1 S.length c1, .int .i64 r, .int .i64 0] 27)) R' w') => h.ref3 hnone)
  have HF3 := Lib.hid hf3
  have HI3 := Lib.hid hI3
  clear he2 hp2 hf2 hI3 hnone hf3
  go_upto_region 4 with fail
  obtain ⟨w3, hw3⟩ : ∃ w3, w3 = w2.alloc (.cells #[.slice a1 S.length c1, .int .i64 r, .int .i64 0] 27) := ⟨_, rfl⟩
  have HE3 : Hid (Ev noReg w R2 w3) := by rw [hw3]; exact HE2.out.alloc _
  rw [← hw3] at HX HF3 HI3 ⊢
  clear hw3 HE2
  have HDa := Lib.hid (fun R' w' (he : Ev R2 w3 R' w') => darts_any R' w' he.inv p S r 0 (he.map HP3.out))
  by_cases h0 : S.length = 0
  · have HOr := Lib.hid (order_any R2 w3 HI3.out p S r 0 HP3.out none 0 0 [] (FreeS.nil R2 w3) (by omega) (fun i hi => by omega))
    have hb : ((S.length : Int) == 0) = true := by simp [h0]
    go_wp2_with fail
    refine (HDa.out _ _ (Ev.refl HI3.out)).mono ?_
    rintro e w4 ⟨rfl, rfl⟩
    go_wp2_with fail
    refine HOr.out.mono ?_
    rintro e w5 ⟨v5, R5, rfl, he5, ho5⟩
    obtain ⟨a5, c5, rfl, _⟩ := ho5.ints.open
    have e0 : (ordL S []).length = 0 := rfl
    rw [e0]
    have HE5 := Lib.hid he5
    clear he5 ho5
    go_wp2_with fail
    go_ret
    exact ⟨by simp, R5, HE3.out.trans HE5.out⟩
  · have hb : ((S.length : Int) == 0) = false := beq_eq_false_iff_ne.2 (by omega)
    obtain ⟨rt, hrt⟩ : ∃ rt, ro % S.length = rt := ⟨_, rfl⟩
    have hrl : rt < S.length := by rw [← hrt]; exact Nat.mod_lt _ (by omega)
    have hmod : (ro : Int) % (S.length : Int) = (rt : Int) := by rw [← hrt]; simp
    have hpos : (S.length : Int) ≠ 0 := by omega
    clear hrt

    have hVV : (sizesL S).length + 0 = (sizesL S).length := Nat.add_zero _
    obtain ⟨P, hPe⟩ : ∃ P, partC' S rt = P := ⟨_, rfl⟩
    have hP26 : P ≤ 26 := by have := partC_le S rt; omega
    have HPe := Lib.hid hPe
    have HWl := Lib.hid (wlen HS.out HEv.out hrl (V := (sizesL S).length) (Nat.le_refl _))
    have HWi := Lib.hid (fun j => (winv HS.out HEv.out hrl (V := (sizesL S).length) (Nat.le_refl _) j).lt j (Nat.le_refl _))
    have HNl := Lib.hid (partsL_length HS.out HEv.out)
    have hW := fun R' w' (he : Ev R2 w3 R' w') => walk_of R' w' he.inv p S r 0 (he.map HP3.out) rt hrl
    rw [hVV, hPe] at hW
    have HW := Lib.hid hW
    have HNm := Lib.hid (fun R' w' (he : Ev R2 w3 R' w') => r8names_any R' w' he.inv _ S r 0 (HF3.out.ev he) HS.out (by omega) HEv.out)
    have HRp := Lib.hid (fun R' w' (he : Ev R2 w3 R' w') => r8parts_any R' w' he.inv _ S r 0 (HF3.out.ev he) HS.out (by omega) HEv.out (by omega))
    unfold refV at HNm HRp
    simp only [show ((0 : Nat) : Int) = 0 from rfl] at HRp
    have hkk := partsL_lt HS.out HEv.out hrl
    obtain ⟨k, hk⟩ : ∃ k : Nat, nth (partsL S) rt = (k : Int) := ⟨(nth (partsL S) rt).toNat, by omega⟩
    have hkC : k < partsN S + 0 := by omega
    have hC26 := partsN_le HS.out HEv.out
    have HK := Lib.hid hk
    have HPF : Hid (partsF S k = partF S k) := Lib.hid (by unfold partsF; rw [if_pos (by omega)])
    clear hW hVV hPe hkk

    have hSt := stepL_length S (sizesL S).length rt P
    have HTr := Lib.hid (treeL_walk S (sizesL S).length rt P)
    have HOd := Lib.hid (ordL_walk S (sizesL S).length rt P (by have := HWl.out.2.1; rw [HPe.out] at this; exact this))
    have HMo := Lib.hid (fun i hi => met_order HS.out HEv.out hrl (V := (sizesL S).length) (Nat.le_refl _) (n := P) (i := i) hi)
    have HWt := Lib.hid (wtree HS.out HEv.out hrl (V := (sizesL S).length) (Nat.le_refl _))
    have HLd : Hid (∀ i, i < P → 0 ≤ (nthS (stepL S (sizesL S).length rt P) i).1 ∧ (nthS (stepL S (sizesL S).length rt P) i).1 < (S.length : Int)) := Lib.hid fun i hi => by
      rw [nthS_stepL hi]
      have := HWi.out i
      simp only; omega
    obtain ⟨V, hV⟩ : ∃ V, (sizesL S).length = V := ⟨_, rfl⟩
    rw [hV] at HW HWi HTr HOd HMo HWt HLd hSt
    obtain ⟨L, hL⟩ : ∃ L, stepL S V rt P = L := ⟨_, rfl⟩
    rw [hL] at HW HTr HOd HMo HLd hSt
    have HSt := Lib.hid hSt
    have HVv := Lib.hid hV
    have HL := Lib.hid hL
    clear hV hL hSt
    go_wp2_with fail
    refine (HDa.out _ _ (Ev.refl HI3.out)).mono ?_
    rintro e w4 ⟨rfl, rfl⟩
    go_wp2_with fail
    refine (HDa.out _ _ (Ev.refl HI3.out)).mono ?_
    rintro e w4 ⟨rfl, rfl⟩
    go_wp2_with fail
    refine (HW.out _ _ (Ev.refl HI3.out)).mono ?_
    rintro e w5 ⟨R5, a5, c5, rfl, he5, ho5⟩
    rw [HSt.out]
    have hf5 := FreeS.of_own ho5
    rw [HSt.out] at hf5
    have HE5 := Lib.hid he5
    have HF5 := Lib.hid hf5
    have HTr5 := Lib.hid (tree_any R5 w5 he5.inv a5 P c5 L hf5 (by omega))
    clear he5 ho5 hf5
    go_wp2_with fail
    refine HTr5.out.mono ?_
    rintro e w6 ⟨v6, rfl, he6, ho6⟩
    obtain ⟨a6, c6, rfl, _⟩ := ho6.ints.open
    have HE6 := Lib.hid (HE5.out.trans he6)
    have HF6 := Lib.hid (HF5.out.ev he6)
    have HO6 := Lib.hid ho6
    have HOr6 := Lib.hid (order_any R5 w6 he6.inv p S r 0 (HE6.out.map HP3.out) a5 P c5 L HF6.out (by omega) HLd.out)
    clear he6 ho6
    go_wp2_with fail
    refine HOr6.out.mono ?_
    rintro e wd0 ⟨v7, Rd, rfl, he7, ho7⟩
    rw [HOd.out] at ho7
    obtain ⟨a7, c7, rfl, _⟩ := ho7.ints.open
    have hml : (metL S V rt P).length = (treeL L).length + 1 := by unfold metL; rw [HL.out]; simp
    have htv : ((treeL L).length : Int) + 1 = (vcnt S (partsL S) (k : Int) S.length : Nat) := by
      have := HWt.out
      rw [HPe.out, HK.out] at this
      rw [HTr.out]; omega
    have HEd0 := Lib.hid (HE6.out.trans he7)
    have HO7 := Lib.hid ho7
    have HT7 := Lib.hid (HO6.out.ev he7)
    have htb : (treeL L).length ≤ 26 := by
      have := wcnt_le S V rt 0 P
      have := HTr.out
      omega
    obtain ⟨t, ht⟩ : ∃ t, (treeL L).length = t := ⟨_, rfl⟩
    rw [hml] at HO7 ⊢
    rw [ht] at HO7 HT7 HMo htv hml htb ⊢
    have HTL := Lib.hid ht
    have HTV := Lib.hid htv
    have HML := Lib.hid hml
    clear he7 ho7 ht htv hml
    go_upto_region 9 with fail

    obtain ⟨C, hC⟩ : ∃ C, partsN S + 0 = C := ⟨_, rfl⟩
    rw [hC] at HRp hkC
    have hCb : C ≤ 26 := by omega
    have HRG := Lib.hid (partsF_fields HS.out HEv.out (by omega) k)
    obtain ⟨pf, hpf⟩ : ∃ q, partsF S k = q := ⟨_, rfl⟩
    have HPf := Lib.hid hpf
    obtain ⟨p0, p1, p2, p3, p4⟩ := pf
    clear hpf hC
    go_cut [14] (fun s14 wx => PartVar Rd wd0 s14 wx p0 p1 p2 p3 p4)
    case first =>
      have HEd := Lib.hid ((Ev.refl HEd0.out.inv).drew)
      obtain ⟨x0, x1, x2⟩ := HX.out _ _ (HEd0.out.trans HEd.out)
      have hx0l := lt_of_cell x0
      obtain ⟨y0, y1, y2⟩ := HX.out _ _ HEd0.out
      have hy0l := lt_of_cell y0
      have HEdD := Lib.hid (fun o => ((Ev.refl HEd0.out.inv).alloc o).drew)
      go_region_with (first
        | (fail_if_success (have := HOr.out)
           go_at_call 20; (with_reducible refine (HNm.out _ _ (HEd0.out.trans HEd.out)).mono ?_); rintro e w' ⟨vN, rfl, he, hoN⟩; have HEd := Lib.hid (HEd.out.trans he); (try (have HZ := Lib.hid (zero_ev HZ.out he); obtain ⟨z0, z1, z2, z3, z4, zf⟩ := zero_cells HZ.out.1)); obtain ⟨x0, x1, x2⟩ := HX.out _ _ (HEd0.out.trans HEd.out); obtain ⟨aN, cN, rfl, _⟩ := hoN.free.open; rw [HNl.out] at hoN ⊢; have HN1 := Lib.hid hoN; obtain ⟨gN, rfl, _, _, n0, _⟩ := hoN.headAt HNl.out (i := rt) hrl; rw [HK.out] at n0; clear he hoN; have hx0l := lt_of_cell x0; have hgNN := lt_of_cell n0)
        | (go_at_call 20; (with_reducible refine (HNm.out _ _ (HEd0.out.trans HEd.out)).mono ?_); rintro e w' ⟨vN, rfl, he, hoN⟩; have HEd := Lib.hid (HEd.out.trans he); (try (have HZ := Lib.hid (zero_ev HZ.out he); obtain ⟨z0, z1, z2, z3, z4, zf⟩ := zero_cells HZ.out.1)); obtain ⟨x0, x1, x2⟩ := HX.out _ _ (HEd0.out.trans HEd.out); obtain ⟨aN, cN, rfl, _⟩ := hoN.free.open; rw [HNl.out] at hoN ⊢; have HN1 := Lib.hid hoN; obtain ⟨gN, rfl, _, _, n0, _⟩ := hoN.headAt HNl.out (i := rt) hrl; rw [HK.out] at n0; have HOr := Lib.hid ((HOr.out).ev he); clear he hoN; obtain ⟨_, e1, _, _, d0, _⟩ := HOr.out.headAt (i := k * 5 + 0) (by rw [flatF_length]; omega); cases e1; obtain ⟨_, e1, _, _, d1, _⟩ := HOr.out.headAt (i := k * 5 + 1) (by rw [flatF_length]; omega); cases e1; obtain ⟨_, e1, _, _, d2, _⟩ := HOr.out.headAt (i := k * 5 + 2) (by rw [flatF_length]; omega); cases e1; obtain ⟨_, e1, _, _, d3, _⟩ := HOr.out.headAt (i := k * 5 + 3) (by rw [flatF_length]; omega); cases e1; obtain ⟨_, e1, _, _, d4, _⟩ := HOr.out.headAt (i := k * 5 + 4) (by rw [flatF_length]; omega); cases e1; rw [flatF_get (by omega) hkC, HPf.out] at d0 d1 d2 d3 d4; have k0 : w'.cell? ⟨gr, k * 5, none⟩ = some (.int .i64 p0) := d0; have k1 : w'.cell? ⟨gr, k * 5 + 1, none⟩ = some (.int .i64 p1) := d1; have k2 : w'.cell? ⟨gr, k * 5 + 2, none⟩ = some (.int .i64 p2) := d2; have k3 : w'.cell? ⟨gr, k * 5 + 3, none⟩ = some (.int .i64 p3) := d3; have k4 : w'.cell? ⟨gr, k * 5 + 4, none⟩ = some (.int .i64 p4) := d4; clear d0 d1 d2 d3 d4; have hgrl := lt_of_cell k0; have hx0l := lt_of_cell x0; have hgNN := lt_of_cell n0)
        | (fail_if_success (have := HN1.out)
           go_at_call 19; (with_reducible refine (HRp.out _ _ (HEd0.out.trans HEd.out)).mono ?_); rintro e w' ⟨vr, rfl, he, ar, cr, rfl, hor⟩; have HEd := Lib.hid (HEd.out.trans he); (try (have HZ := Lib.hid (zero_ev HZ.out he); obtain ⟨z0, z1, z2, z3, z4, zf⟩ := zero_cells HZ.out.1)); obtain ⟨x0, x1, x2⟩ := HX.out _ _ (HEd0.out.trans HEd.out); have HOr := Lib.hid hor; clear he hor; obtain ⟨gr, rfl, _, _, d0, _⟩ := HOr.out.headAt (i := k * 5 + 0) (by rw [flatF_length]; omega); obtain ⟨_, e1, _, _, d1, _⟩ := HOr.out.headAt (i := k * 5 + 1) (by rw [flatF_length]; omega); cases e1; obtain ⟨_, e1, _, _, d2, _⟩ := HOr.out.headAt (i := k * 5 + 2) (by rw [flatF_length]; omega); cases e1; obtain ⟨_, e1, _, _, d3, _⟩ := HOr.out.headAt (i := k * 5 + 3) (by rw [flatF_length]; omega); cases e1; obtain ⟨_, e1, _, _, d4, _⟩ := HOr.out.headAt (i := k * 5 + 4) (by rw [flatF_length]; omega); cases e1; rw [flatF_get (by omega) hkC, HPf.out] at d0 d1 d2 d3 d4; have k0 : w'.cell? ⟨gr, k * 5, none⟩ = some (.int .i64 p0) := d0; have k1 : w'.cell? ⟨gr, k * 5 + 1, none⟩ = some (.int .i64 p1) := d1; have k2 : w'.cell? ⟨gr, k * 5 + 2, none⟩ = some (.int .i64 p2) := d2; have k3 : w'.cell? ⟨gr, k * 5 + 3, none⟩ = some (.int .i64 p3) := d3; have k4 : w'.cell? ⟨gr, k * 5 + 4, none⟩ = some (.int .i64 p4) := d4; clear d0 d1 d2 d3 d4; have hgrl := lt_of_cell k0; have hx0l := lt_of_cell x0)
        | (go_at_call 19; (with_reducible refine (HRp.out _ _ (HEd0.out.trans HEd.out)).mono ?_); rintro e w' ⟨vr, rfl, he, ar, cr, rfl, hor⟩; have HEd := Lib.hid (HEd.out.trans he); (try (have HZ := Lib.hid (zero_ev HZ.out he); obtain ⟨z0, z1, z2, z3, z4, zf⟩ := zero_cells HZ.out.1)); obtain ⟨x0, x1, x2⟩ := HX.out _ _ (HEd0.out.trans HEd.out); have HOr := Lib.hid hor; have HN1 := Lib.hid ((HN1.out).ev he); obtain ⟨_, e1, _, _, n0, _⟩ := HN1.out.headAt HNl.out (i := rt) hrl; cases e1; rw [HK.out] at n0; clear he hor; obtain ⟨gr, rfl, _, _, d0, _⟩ := HOr.out.headAt (i := k * 5 + 0) (by rw [flatF_length]; omega); obtain ⟨_, e1, _, _, d1, _⟩ := HOr.out.headAt (i := k * 5 + 1) (by rw [flatF_length]; omega); cases e1; obtain ⟨_, e1, _, _, d2, _⟩ := HOr.out.headAt (i := k * 5 + 2) (by rw [flatF_length]; omega); cases e1; obtain ⟨_, e1, _, _, d3, _⟩ := HOr.out.headAt (i := k * 5 + 3) (by rw [flatF_length]; omega); cases e1; obtain ⟨_, e1, _, _, d4, _⟩ := HOr.out.headAt (i := k * 5 + 4) (by rw [flatF_length]; omega); cases e1; rw [flatF_get (by omega) hkC, HPf.out] at d0 d1 d2 d3 d4; have k0 : w'.cell? ⟨gr, k * 5, none⟩ = some (.int .i64 p0) := d0; have k1 : w'.cell? ⟨gr, k * 5 + 1, none⟩ = some (.int .i64 p1) := d1; have k2 : w'.cell? ⟨gr, k * 5 + 2, none⟩ = some (.int .i64 p2) := d2; have k3 : w'.cell? ⟨gr, k * 5 + 3, none⟩ = some (.int .i64 p3) := d3; have k4 : w'.cell? ⟨gr, k * 5 + 4, none⟩ = some (.int .i64 p4) := d4; clear d0 d1 d2 d3 d4; have hgrl := lt_of_cell k0; have hx0l := lt_of_cell x0; have hgNN := lt_of_cell n0)
        | (fail_if_success (have := HOr.out)
           go_at_call 20; (with_reducible refine (HNm.out _ _ (HEd0.out.trans (HEd.out.alloc _))).mono ?_); rintro e w' ⟨vN, rfl, he, hoN⟩; have hneA := Nat.ne_of_gt (lt_of_cell x0); have HZ := Lib.hid (zero_evA HEd.out he); obtain ⟨z0, z1, z2, z3, z4, zf⟩ := zero_cells HZ.out.1; have HEd := Lib.hid ((HEd.out.alloc _).trans he); obtain ⟨x0, x1, x2⟩ := HX.out _ _ (HEd0.out.trans HEd.out); obtain ⟨aN, cN, rfl, _⟩ := hoN.free.open; rw [HNl.out] at hoN ⊢; have HN1 := Lib.hid hoN; obtain ⟨gN, rfl, _, _, n0, _⟩ := hoN.headAt HNl.out (i := rt) hrl; rw [HK.out] at n0; clear he hoN; have hx0l := lt_of_cell x0; have hgNN := lt_of_cell n0)
        | (go_at_call 20; (with_reducible refine (HNm.out _ _ (HEd0.out.trans (HEd.out.alloc _))).mono ?_); rintro e w' ⟨vN, rfl, he, hoN⟩; have hneA := Nat.ne_of_gt (lt_of_cell x0); have HZ := Lib.hid (zero_evA HEd.out he); obtain ⟨z0, z1, z2, z3, z4, zf⟩ := zero_cells HZ.out.1; have HEd := Lib.hid ((HEd.out.alloc _).trans he); obtain ⟨x0, x1, x2⟩ := HX.out _ _ (HEd0.out.trans HEd.out); obtain ⟨aN, cN, rfl, _⟩ := hoN.free.open; rw [HNl.out] at hoN ⊢; have HN1 := Lib.hid hoN; obtain ⟨gN, rfl, _, _, n0, _⟩ := hoN.headAt HNl.out (i := rt) hrl; rw [HK.out] at n0; have HOr := Lib.hid ((HOr.out.alloc _).ev he); clear he hoN; obtain ⟨_, e1, _, _, d0, _⟩ := HOr.out.headAt (i := k * 5 + 0) (by rw [flatF_length]; omega); cases e1; obtain ⟨_, e1, _, _, d1, _⟩ := HOr.out.headAt (i := k * 5 + 1) (by rw [flatF_length]; omega); cases e1; obtain ⟨_, e1, _, _, d2, _⟩ := HOr.out.headAt (i := k * 5 + 2) (by rw [flatF_length]; omega); cases e1; obtain ⟨_, e1, _, _, d3, _⟩ := HOr.out.headAt (i := k * 5 + 3) (by rw [flatF_length]; omega); cases e1; obtain ⟨_, e1, _, _, d4, _⟩ := HOr.out.headAt (i := k * 5 + 4) (by rw [flatF_length]; omega); cases e1; rw [flatF_get (by omega) hkC, HPf.out] at d0 d1 d2 d3 d4; have k0 : w'.cell? ⟨gr, k * 5, none⟩ = some (.int .i64 p0) := d0; have k1 : w'.cell? ⟨gr, k * 5 + 1, none⟩ = some (.int .i64 p1) := d1; have k2 : w'.cell? ⟨gr, k * 5 + 2, none⟩ = some (.int .i64 p2) := d2; have k3 : w'.cell? ⟨gr, k * 5 + 3, none⟩ = some (.int .i64 p3) := d3; have k4 : w'.cell? ⟨gr, k * 5 + 4, none⟩ = some (.int .i64 p4) := d4; clear d0 d1 d2 d3 d4; have hgrl := lt_of_cell k0; have hx0l := lt_of_cell x0; have hgNN := lt_of_cell n0)
        | (fail_if_success (have := HN1.out)
           go_at_call 19; (with_reducible refine (HRp.out _ _ (HEd0.out.trans (HEd.out.alloc _))).mono ?_); rintro e w' ⟨vr, rfl, he, ar, cr, rfl, hor⟩; have hneA := Nat.ne_of_gt (lt_of_cell x0); have HZ := Lib.hid (zero_evA HEd.out he); obtain ⟨z0, z1, z2, z3, z4, zf⟩ := zero_cells HZ.out.1; have HEd := Lib.hid ((HEd.out.alloc _).trans he); obtain ⟨x0, x1, x2⟩ := HX.out _ _ (HEd0.out.trans HEd.out); have HOr := Lib.hid hor; clear he hor; obtain ⟨gr, rfl, _, _, d0, _⟩ := HOr.out.headAt (i := k * 5 + 0) (by rw [flatF_length]; omega); obtain ⟨_, e1, _, _, d1, _⟩ := HOr.out.headAt (i := k * 5 + 1) (by rw [flatF_length]; omega); cases e1; obtain ⟨_, e1, _, _, d2, _⟩ := HOr.out.headAt (i := k * 5 + 2) (by rw [flatF_length]; omega); cases e1; obtain ⟨_, e1, _, _, d3, _⟩ := HOr.out.headAt (i := k * 5 + 3) (by rw [flatF_length]; omega); cases e1; obtain ⟨_, e1, _, _, d4, _⟩ := HOr.out.headAt (i := k * 5 + 4) (by rw [flatF_length]; omega); cases e1; rw [flatF_get (by omega) hkC, HPf.out] at d0 d1 d2 d3 d4; have k0 : w'.cell? ⟨gr, k * 5, none⟩ = some (.int .i64 p0) := d0; have k1 : w'.cell? ⟨gr, k * 5 + 1, none⟩ = some (.int .i64 p1) := d1; have k2 : w'.cell? ⟨gr, k * 5 + 2, none⟩ = some (.int .i64 p2) := d2; have k3 : w'.cell? ⟨gr, k * 5 + 3, none⟩ = some (.int .i64 p3) := d3; have k4 : w'.cell? ⟨gr, k * 5 + 4, none⟩ = some (.int .i64 p4) := d4; clear d0 d1 d2 d3 d4; have hgrl := lt_of_cell k0; have hx0l := lt_of_cell x0)
        | (go_at_call 19; (with_reducible refine (HRp.out _ _ (HEd0.out.trans (HEd.out.alloc _))).mono ?_); rintro e w' ⟨vr, rfl, he, ar, cr, rfl, hor⟩; have hneA := Nat.ne_of_gt (lt_of_cell x0); have HZ := Lib.hid (zero_evA HEd.out he); obtain ⟨z0, z1, z2, z3, z4, zf⟩ := zero_cells HZ.out.1; have HEd := Lib.hid ((HEd.out.alloc _).trans he); obtain ⟨x0, x1, x2⟩ := HX.out _ _ (HEd0.out.trans HEd.out); have HOr := Lib.hid hor; have HN1 := Lib.hid ((HN1.out.alloc _).ev he); obtain ⟨_, e1, _, _, n0, _⟩ := HN1.out.headAt HNl.out (i := rt) hrl; cases e1; rw [HK.out] at n0; clear he hor; obtain ⟨gr, rfl, _, _, d0, _⟩ := HOr.out.headAt (i := k * 5 + 0) (by rw [flatF_length]; omega); obtain ⟨_, e1, _, _, d1, _⟩ := HOr.out.headAt (i := k * 5 + 1) (by rw [flatF_length]; omega); cases e1; obtain ⟨_, e1, _, _, d2, _⟩ := HOr.out.headAt (i := k * 5 + 2) (by rw [flatF_length]; omega); cases e1; obtain ⟨_, e1, _, _, d3, _⟩ := HOr.out.headAt (i := k * 5 + 3) (by rw [flatF_length]; omega); cases e1; obtain ⟨_, e1, _, _, d4, _⟩ := HOr.out.headAt (i := k * 5 + 4) (by rw [flatF_length]; omega); cases e1; rw [flatF_get (by omega) hkC, HPf.out] at d0 d1 d2 d3 d4; have k0 : w'.cell? ⟨gr, k * 5, none⟩ = some (.int .i64 p0) := d0; have k1 : w'.cell? ⟨gr, k * 5 + 1, none⟩ = some (.int .i64 p1) := d1; have k2 : w'.cell? ⟨gr, k * 5 + 2, none⟩ = some (.int .i64 p2) := d2; have k3 : w'.cell? ⟨gr, k * 5 + 3, none⟩ = some (.int .i64 p3) := d3; have k4 : w'.cell? ⟨gr, k * 5 + 4, none⟩ = some (.int .i64 p4) := d4; clear d0 d1 d2 d3 d4; have hgrl := lt_of_cell k0; have hx0l := lt_of_cell x0; have hgNN := lt_of_cell n0)
        | (fail_if_success (have := HOr.out)
           go_at_call 20; (with_reducible refine (HNm.out _ _ (HEd0.out.trans (HEdD.out _))).mono ?_); rintro e w' ⟨vN, rfl, he, hoN⟩; have hneA := Nat.ne_of_gt hy0l; have HZ := Lib.hid (zero_evD HEd0.out.inv he); obtain ⟨z0, z1, z2, z3, z4, zf⟩ := zero_cells HZ.out.1; have HEd := Lib.hid ((HEdD.out _).trans he); obtain ⟨x0, x1, x2⟩ := HX.out _ _ (HEd0.out.trans HEd.out); obtain ⟨aN, cN, rfl, _⟩ := hoN.free.open; rw [HNl.out] at hoN ⊢; have HN1 := Lib.hid hoN; obtain ⟨gN, rfl, _, _, n0, _⟩ := hoN.headAt HNl.out (i := rt) hrl; rw [HK.out] at n0; clear he hoN; have hx0l := lt_of_cell x0; have hgNN := lt_of_cell n0)
        | (fail_if_success (have := HN1.out)
           go_at_call 19; (with_reducible refine (HRp.out _ _ (HEd0.out.trans (HEdD.out _))).mono ?_); rintro e w' ⟨vr, rfl, he, ar, cr, rfl, hor⟩; have hneA := Nat.ne_of_gt hy0l; have HZ := Lib.hid (zero_evD HEd0.out.inv he); obtain ⟨z0, z1, z2, z3, z4, zf⟩ := zero_cells HZ.out.1; have HEd := Lib.hid ((HEdD.out _).trans he); obtain ⟨x0, x1, x2⟩ := HX.out _ _ (HEd0.out.trans HEd.out); have HOr := Lib.hid hor; clear he hor; obtain ⟨gr, rfl, _, _, d0, _⟩ := HOr.out.headAt (i := k * 5 + 0) (by rw [flatF_length]; omega); obtain ⟨_, e1, _, _, d1, _⟩ := HOr.out.headAt (i := k * 5 + 1) (by rw [flatF_length]; omega); cases e1; obtain ⟨_, e1, _, _, d2, _⟩ := HOr.out.headAt (i := k * 5 + 2) (by rw [flatF_length]; omega); cases e1; obtain ⟨_, e1, _, _, d3, _⟩ := HOr.out.headAt (i := k * 5 + 3) (by rw [flatF_length]; omega); cases e1; obtain ⟨_, e1, _, _, d4, _⟩ := HOr.out.headAt (i := k * 5 + 4) (by rw [flatF_length]; omega); cases e1; rw [flatF_get (by omega) hkC, HPf.out] at d0 d1 d2 d3 d4; have k0 : w'.cell? ⟨gr, k * 5, none⟩ = some (.int .i64 p0) := d0; have k1 : w'.cell? ⟨gr, k * 5 + 1, none⟩ = some (.int .i64 p1) := d1; have k2 : w'.cell? ⟨gr, k * 5 + 2, none⟩ = some (.int .i64 p2) := d2; have k3 : w'.cell? ⟨gr, k * 5 + 3, none⟩ = some (.int .i64 p3) := d3; have k4 : w'.cell? ⟨gr, k * 5 + 4, none⟩ = some (.int .i64 p4) := d4; clear d0 d1 d2 d3 d4; have hgrl := lt_of_cell k0; have hx0l := lt_of_cell x0))
      all_goals (go_wp2_with fail; go_meet)
      all_goals first | (with_reducible exact PartVar.new HEd.out) | exact PartVar.old HEd.out HZ.out
    case rest =>
      obtain ⟨g, Rx, rfl, he, hgn, g0, g1, g2, g3, g4⟩ := hcut
      obtain ⟨wx, hwx⟩ : ∃ wx, wx = wc := ⟨_, rfl⟩
      subst hwx
      have hp1 : p1 = (t : Int) + 1 := by
        have e1 : (partsF S k).v = p1 := by rw [HPf.out]
        rw [HPF.out] at e1
        rw [← e1]
        exact HTV.out.symm
      subst hp1
      have HEx := Lib.hid (HEd0.out.trans he)
      have HO8 := Lib.hid (HO7.out.ev he)
      have HT8 := Lib.hid (HT7.out.ev he)
      have HG1 : Hid (∀ R' w', Ev Rx wx R' w' → w'.cell? ⟨g, 1, none⟩ = some (.int .i64 ((t : Int) + 1))) := Lib.hid fun R' w' h => (h.cell (lt_of_cell g1) hgn).trans g1
      have hm0 : nth (metL S V rt P) 0 = ((vtx S rt : Nat) : Int) := rfl
      obtain ⟨g7, rfl, _, hg7, o0, _⟩ := HO8.out.headAt HML.out (i := 0) (by omega)
      rw [hm0] at o0
      have HO0 : Hid (∀ R' w', Ev Rx wx R' w' → w'.cell? ⟨g7, 0, none⟩ = some (.int .i64 ((vtx S rt : Nat) : Int))) := Lib.hid fun R' w' h => (h.cell (lt_of_cell o0) hg7).trans o0
      have hcap : t + 1 ≤ c7 := by
        obtain ⟨_, _, e, h, _⟩ := HO8.out.ints
        injection e with _ _ e
        have := HML.out
        omega
      have HVx := Lib.hid (fun R' w' (he : Ev Rx wx R' w') (d : Nat) (hd : d < S.length) => by
        have := vertex_any R' w' he.inv p S r 0 ((HEx.out.trans he).map HP3.out) (d : Int)
        rwa [nameI_in hd, vtx_eq HS.out hd] at this)
      have HMt := Lib.hid (fun R' w' (he : Ev Rx wx R' w') (d : Nat) (hd : d < S.length) => by
        have := mate_any R' w' he.inv p S r 0 ((HEx.out.trans he).map HP3.out) d
        rwa [mateI_in hd] at this)
      have HXl := Lib.hid (fun d (hd : d < S.length) => xor_one_lt HEv.out hd)
      obtain ⟨vr, hvr⟩ : ∃ v, vtx S rt = v := ⟨_, rfl⟩
      have HVr := Lib.hid (fun R' w' (he : Ev Rx wx R' w') => HVx.out R' w' he rt hrl)
      rw [hvr] at HO0 HVr
      clear g0 g1 g2 g3 g4 o0 he hgn hg7 hm0 hvr
      have hb1 : ((vr : Int) != (vr : Int)) = false := by simp
      have hb2 : (((t : Int) + 1) != ((t : Int) + 1)) = false := by simp
      have hb3 : ((t : Int) != (t : Int)) = false := by simp
      have hwr : IntKind.i64.wrap (t : Int) = (t : Int) := IntWalk.i64_in _ (by omega)
      go_upto_region 10 with fail
      go_cut [78] (fun s78 wy => s78 = .bool false ∧ ∃ Ry, Ev Rx wx Ry wy)
      case first =>
        have HEd := Lib.hid ((Ev.refl HEx.out.inv).drew)
        have x0 := HG1.out _ _ HEd.out
        have x1 := HO0.out _ _ HEd.out
        go_region_held3 (fun w' => w'.cell? ⟨g, 1, none⟩ = some (.int .i64 ((t : Int) + 1)) ∧ w'.cell? ⟨g7, 0, none⟩ = some (.int .i64 (vr : Int))) (exact ⟨x0, x1⟩) (first | (go_at_call 28; refine (HVr.out _ _ HEd.out).mono ?_; rintro e w' ⟨rfl, R', he⟩; have HEd := Lib.hid (HEd.out.trans he); clear he; have x0 := HG1.out _ _ HEd.out; have x1 := HO0.out _ _ HEd.out))
        all_goals (go_wp2_with fail; go_meet)
        all_goals exact ⟨rfl, _, HEd.out⟩
      case rest =>
        obtain ⟨rfl, Ry, hey⟩ := hcut
        obtain ⟨wy, hwy⟩ : ∃ wy, wy = wc := ⟨_, rfl⟩
        subst hwy
        have HEy := Lib.hid hey
        clear hey
        go_wp2_with fail
        go_loopg [81] t (fun gg v81 wr => ∃ (i : Nat) (Rj : Reg), i ≤ t ∧ t - i ≤ gg ∧ v81 = .int .i64 (i : Int) ∧ Ev Rx wx Rj wr)
        case atStart => exact ⟨0, Ry, by omega, by omega, rfl, HEy.out⟩
        case round =>
          obtain ⟨i, Rj, hi, hg, rfl, hev⟩ := hrel
          have HE := Lib.hid hev
          clear hev
          by_cases hil : i < t
          · obtain ⟨d, hdT, hds, hnx, hin, hnin⟩ := HMo.out i hil
            obtain ⟨gt, rfl, _, _, hct, _⟩ := (HT8.out.ev HE.out).headAt HTL.out (i := i) hil
            rw [hdT] at hct
            obtain ⟨_, e1, _, hg7n, hco, _⟩ := (HO8.out.ev HE.out).headAt HML.out (i := i + 1) (by omega)
            cases e1
            rw [hnx] at hco
            have hxl := HXl.out d hds
            have HV1 := Lib.hid (fun R' w' (he : Ev Rx wx R' w') => HVx.out R' w' he d hds)
            have HV2 := Lib.hid (fun R' w' (he : Ev Rx wx R' w') => HVx.out R' w' he (d ^^^ 1) hxl)
            have HM1 := Lib.hid (fun R' w' (he : Ev Rx wx R' w') => HMt.out R' w' he d hds)
            obtain ⟨x, hx⟩ : ∃ x, d ^^^ 1 = x := ⟨_, rfl⟩
            rw [hx] at HV2 HM1 hco hnin
            obtain ⟨vd, hvd⟩ : ∃ v, vtx S d = v := ⟨_, rfl⟩
            obtain ⟨vx, hvx⟩ : ∃ v, vtx S x = v := ⟨_, rfl⟩
            rw [hvd] at HV1 hin
            rw [hvx] at HV2 hco hnin
            have HC : Hid (∀ R' w', Ev Rj wr R' w' → w'.cell? ⟨_, i + 1, none⟩ = some (.int .i64 (vx : Int))) := Lib.hid fun R' w' h => (h.cell (lt_of_cell hco) hg7n).trans hco
            have HC1 := Lib.hid (fun R' w' (he : Ev Rx wx R' w') => contains_any w' _ (i + 1) c7 _ (vd : Int) ((HO8.out.ev he).ints.take (by omega)) (by omega))
            have HC2 := Lib.hid (fun R' w' (he : Ev Rx wx R' w') => contains_any w' _ (i + 1) c7 _ (vx : Int) ((HO8.out.ev he).ints.take (by omega)) (by omega))
            rw [decide_eq_true hin] at HC1
            rw [decide_eq_false hnin] at HC2
            clear hvd hvx hx hxl hds hdT hnx hin hnin hg7n
            have hb4 : ((vx : Int) != (vx : Int)) = false := by simp
            have hwi : IntKind.i64.wrap ((i : Int) + 1) = (i : Int) + 1 := IntWalk.i64_in _ (by omega)
            have hbn : (!true) = false := rfl
            have hic : i + 1 ≤ c7 := by omega
            have hic2 : ((i : Int) + 1) ≤ (c7 : Int) := by omega
            have hic3 : (0 : Int) ≤ (i : Int) + 1 := by omega
            have hic4 : ((i : Int) + 1) < ((t : Int) + 1) := by omega
            go_upto_region 15 with fail
            go_cut [119] (fun s119 wy => s119 = .bool false ∧ ∃ Ry, Ev Rj wr Ry wy)
            case first =>
              have HEd := Lib.hid ((Ev.refl HE.out.inv).drew)
              have x0 := HC.out _ _ HEd.out
              go_region_held3 (fun w' => w'.cell? ⟨g7, i + 1, none⟩ = some (.int .i64 (vx : Int))) (exact x0) (first
                | (go_at_call 28; (with_reducible refine (HV1.out _ _ (HE.out.trans HEd.out)).mono ?_); rintro e w' ⟨rfl, R', he⟩; have HEd := Lib.hid (HEd.out.trans he); clear he; have x0 := HC.out _ _ HEd.out)
                | (go_at_call 28; (with_reducible refine (HV2.out _ _ (HE.out.trans HEd.out)).mono ?_); rintro e w' ⟨rfl, R', he⟩; have HEd := Lib.hid (HEd.out.trans he); clear he; have x0 := HC.out _ _ HEd.out)
                | (go_at_call 30; (with_reducible refine (HM1.out _ _ (HE.out.trans HEd.out)).mono ?_); rintro e w' ⟨rfl, rfl⟩)
                | (go_at_call 29; (with_reducible refine (HC1.out _ _ (HE.out.trans HEd.out)).mono ?_); rintro e w' ⟨rfl, rfl⟩)
                | (go_at_call 29; (with_reducible refine (HC2.out _ _ (HE.out.trans HEd.out)).mono ?_); rintro e w' ⟨rfl, rfl⟩))
              all_goals (go_wp2_with fail; go_meet)
              all_goals exact ⟨rfl, _, HEd.out⟩
            case rest =>
              obtain ⟨rfl, Rz, hez⟩ := hcut
              have HEz := Lib.hid (HE.out.trans hez)
              clear hez
              go_wp2_with fail
              go_roundg (t - (i + 1))
              case measure => omega
              case rel => exact ⟨i + 1, Rz, by omega, by omega, by go_num, HEz.out⟩
          · obtain rfl : i = t := by omega
            go_wp2_with fail
            go_ret
            exact ⟨rfl, Rj, HE3.out.trans (HEx.out.trans HE.out)⟩


end Go.Proofs.Ytnbecpeiodcohaa
